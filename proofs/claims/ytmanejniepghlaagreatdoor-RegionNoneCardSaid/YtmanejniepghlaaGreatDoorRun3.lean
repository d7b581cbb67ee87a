/-
  Texts in one: LabPlain, HostPlain, PinPlain, TabPlain, TabPlain2, UptPlain, SnapPlain, UptPlain2, RangeIxS, Strs, HostRef, LabPlainR, SnapPlain2, RegionT.
-/
import Derived.Test.YtmanejniepghlaaGreatDoorRun2
import Derived.Lib.MapLaws
import Derived.Lib.ValidLaws
import Derived.Lib.RuneCount
import Derived.Lib.RuneBytes
import Derived.RangeFuncNested
import Derived.RangeFuncBound
import Derived.RangeFuncCalls
import Derived.RangeFuncLeaves
import Derived.RangeFuncBox
import Derived.Test.YtmanejniepghlaaGreatDoorRun0
import Derived.Deep.QuietTactic
import Derived.BigQuiet
import Derived.Deep.DeepMust
import Derived.OwnWalk
import Derived.IntWalk
import Derived.Lib.Strings
import Derived.Lib.BitFns
import Derived.Test.YtmanejniepghlaaGreatDoorRun1
import Derived.Deep.RegionLaw
import Derived.StillTail
import Derived.OrdersHeld
import Derived.Deep.RegionHeld
/-
  Labels as plain functions: their canonical ASCII form and their Unicode form; UTF-8 as lists of code points. No program stands in this text.
-/
namespace Go.Proofs.YtmanejniepghlaaGreatDoor.Lab
open Go.Lib

/-! ### UTF-8 -/
theorem enc_ne (x : Int) : encodeRune x ≠ [] := by
  intro h; have := (encodeRuneZ_length x).1; have h2 := congrArg List.length h; unfold encodeRune at h2; simp at h2; simp [h2] at this
/-! ### lower case -/
/-! ### labels -/
def pre : List UInt8 := [120, 110, 45, 45]
def canon (b : UInt8) : Bool := (decide (97 ≤ b.toNat) && decide (b.toNat ≤ 122)) || (decide (48 ≤ b.toNat) && decide (b.toNat ≤ 57)) || decide (b.toNat = 45) || decide (b.toNat = 95)
def properP (r : List UInt8) (p : List Int) : Bool := p.all (fun x => !(decide (65 ≤ x) && decide (x ≤ 90))) && p.any (fun x => decide (128 ≤ x)) && decide (Puny.encode p = r)
def proper (r : List UInt8) : Bool := match Puny.decode r with
  | .error _ => false
  | .ok p => properP r p
def frame (l : List UInt8) : Bool := decide (l ≠ []) && decide (l.length ≤ 63) && decide (l.head? ≠ some 45) && decide (l.getLast? ≠ some 45) && l.all canon
def valid (l : List UInt8) : Bool := frame l && (!(pre.isPrefixOf l) || proper (l.drop 4))
end Go.Proofs.YtmanejniepghlaaGreatDoor.Lab

/-
  Domain names as plain functions: their parts, their order, which are canonical. No program stands in this text.
-/
namespace Go.Proofs.YtmanejniepghlaaGreatDoor.Host

/-! ### Parts between dots -/
def split : List UInt8 → List (List UInt8)
  | [] => [[]]
  | x :: l => if x = 46 then [] :: split l else (x :: (split l).headD []) :: (split l).tail
theorem split_nil : split [] = [[]] := rfl
theorem split_dot (l : List UInt8) : split (46 :: l) = [] :: split l := by rw [split, if_pos rfl]
theorem split_cons {x : UInt8} (h : x ≠ 46) (l : List UInt8) : split (x :: l) = (x :: (split l).headD []) :: (split l).tail := by rw [split, if_neg h]
theorem split_ne (l : List UInt8) : split l ≠ [] := by
  cases l with
  | nil => simp [split]
  | cons x l => unfold split; split <;> simp
theorem split_none : ∀ p : List UInt8, (∀ x ∈ p, x ≠ 46) → split p = [p]
  | [], _ => rfl
  | x :: p, h => by
    rw [split_cons (h x List.mem_cons_self), split_none p (fun y hy => h y (List.mem_cons_of_mem _ hy))]; rfl
theorem split_append : ∀ a b : List UInt8, split (a ++ 46 :: b) = split a ++ split b
  | [], b => by rw [List.nil_append, split_dot, split_nil]; rfl
  | x :: a, b => by
    have ih := split_append a b
    rw [List.cons_append]
    by_cases hx : x = 46
    · subst hx; rw [split_dot, split_dot, ih]; rfl
    · rw [split_cons hx, split_cons hx, ih]
      cases hs : split a with
      | nil => exact absurd hs (split_ne a)
      | cons p ps => rfl
theorem split_hit (p t : List UInt8) (h : ∀ x ∈ p, x ≠ 46) : split (p ++ 46 :: t) = p :: split t := by rw [split_append, split_none p h]; rfl
theorem split_snoc (p t : List UInt8) (h : ∀ x ∈ t, x ≠ 46) : split (p ++ 46 :: t) = split p ++ [t] := by rw [split_append, split_none t h]
theorem split_nodot : ∀ (l p : List UInt8), p ∈ split l → ∀ x ∈ p, x ≠ 46
  | [], p, hp, x, hx => by
    rw [split_nil, List.mem_singleton] at hp; subst hp; cases hx
  | y :: l, p, hp, x, hx => by
    by_cases hy : y = 46
    · subst hy
      rw [split_dot] at hp
      rcases List.mem_cons.1 hp with e | e
      · subst e; cases hx
      · exact split_nodot l p e x hx
    · rw [split_cons hy] at hp
      cases hs : split l with
      | nil => exact absurd hs (split_ne l)
      | cons q qs =>
        rw [hs] at hp
        rcases List.mem_cons.1 hp with e | e
        · subst e
          rcases List.mem_cons.1 hx with e | e
          · subst e; exact hy
          · exact split_nodot l q (by rw [hs]; exact List.mem_cons_self) x e
        · exact split_nodot l p (by rw [hs]; exact List.mem_cons_of_mem _ e) x hx
theorem split_len : ∀ l : List UInt8, (split l).length ≤ l.length + 1
  | [] => by simp [split]
  | x :: l => by
    have ih := split_len l
    have hp := List.length_pos_iff.2 (split_ne l)
    by_cases hx : x = 46
    · subst hx; rw [split_dot]; simp only [List.length_cons]; omega
    · rw [split_cons hx]; simp only [List.length_cons, List.length_tail]; omega
theorem split_part_len : ∀ (l p : List UInt8), p ∈ split l → p.length ≤ l.length
  | [], p, hp => by rw [split_nil, List.mem_singleton] at hp; subst hp; simp
  | x :: l, p, hp => by
    by_cases hx : x = 46
    · subst hx
      rw [split_dot] at hp
      rcases List.mem_cons.1 hp with e | e
      · subst e; simp
      · have := split_part_len l p e; simp only [List.length_cons]; omega
    · rw [split_cons hx] at hp
      cases hs : split l with
      | nil => exact absurd hs (split_ne l)
      | cons q qs =>
        rw [hs] at hp
        rcases List.mem_cons.1 hp with e | e
        · have := split_part_len l q (by rw [hs]; exact List.mem_cons_self)
          subst e; simp only [List.headD_cons, List.length_cons]; omega
        · have := split_part_len l p (by rw [hs]; exact List.mem_cons_of_mem _ e); simp only [List.length_cons]; omega

def join : List (List UInt8) → List UInt8
  | [] => []
  | [p] => p
  | p :: q :: r => p ++ 46 :: join (q :: r)
theorem join_cons (p : List UInt8) {r : List (List UInt8)} (h : r ≠ []) : join (p :: r) = p ++ 46 :: join r := by
  cases r with
  | nil => exact absurd rfl h
  | cons q r => rfl
theorem join_split : ∀ l : List UInt8, join (split l) = l
  | [] => rfl
  | x :: l => by
    have ih := join_split l
    by_cases hx : x = 46
    · subst hx; rw [split_dot, join_cons _ (split_ne l), ih]; rfl
    · rw [split_cons hx]
      cases hs : split l with
      | nil => exact absurd hs (split_ne l)
      | cons q qs =>
        rw [hs] at ih
        cases qs with
        | nil => rw [← ih]; rfl
        | cons r rs => rw [← ih]; rfl
theorem split_inj {a b : List UInt8} (h : split a = split b) : a = b := by rw [← join_split a, h, join_split]

/-! ### The order of bytes -/
abbrev lb := Op.bytesLess
theorem lb_irrefl : ∀ x : List UInt8, lb x x = false
  | [] => rfl
  | a :: x => by
    have := lb_irrefl x
    unfold lb at *
    unfold Op.bytesLess
    simp [this]
theorem lb_iff (a : UInt8) (x : List UInt8) (b : UInt8) (y : List UInt8) : lb (a :: x) (b :: y) = true ↔ a.toNat < b.toNat ∨ (a = b ∧ lb x y = true) := by
  unfold lb
  rw [Op.bytesLess]
  simp [UInt8.lt_iff_toNat_lt]
theorem lb_asymm : ∀ x y : List UInt8, lb x y = true → lb y x = false
  | _, [], h => by simp [lb, Op.bytesLess] at h
  | [], b :: y, _ => rfl
  | a :: x, b :: y, h => by
    rw [← Bool.not_eq_true]
    intro h2
    rcases (lb_iff a x b y).1 h with h1 | ⟨e, h1⟩
    · rcases (lb_iff b y a x).1 h2 with h3 | ⟨e, h3⟩
      · omega
      · subst e; omega
    · subst e
      rcases (lb_iff a y a x).1 h2 with h3 | ⟨_, h3⟩
      · omega
      · rw [lb_asymm x y h1] at h3; cases h3
theorem lb_total : ∀ x y : List UInt8, lb x y = false → lb y x = false → x = y
  | [], [], _, _ => rfl
  | [], b :: y, h, _ => by cases h
  | a :: x, [], _, h => by cases h
  | a :: x, b :: y, h, k => by
    have h' := mt (lb_iff a x b y).2 (by simp [h])
    have k' := mt (lb_iff b y a x).2 (by simp [k])
    have e : a = b := by
      apply UInt8.toNat_inj.1
      have : ¬ a.toNat < b.toNat := fun e => h' (.inl e)
      have : ¬ b.toNat < a.toNat := fun e => k' (.inl e)
      omega
    subst e
    rw [lb_total x y (by rw [← Bool.not_eq_true]; exact fun e => h' (.inr ⟨rfl, e⟩)) (by rw [← Bool.not_eq_true]; exact fun e => k' (.inr ⟨rfl, e⟩))]
theorem lb_trans : ∀ x y z : List UInt8, lb x y = true → lb y z = true → lb x z = true
  | _, [], _, h, _ => by simp [lb, Op.bytesLess] at h
  | _, _ :: _, [], _, h => by simp [lb, Op.bytesLess] at h
  | [], b :: y, c :: z, _, _ => rfl
  | a :: x, b :: y, c :: z, h, k => by
    rw [lb_iff] at h k ⊢
    rcases h with h | ⟨rfl, h⟩
    · rcases k with k | ⟨rfl, k⟩
      · exact .inl (by omega)
      · exact .inl h
    · rcases k with k | ⟨rfl, k⟩
      · exact .inl k
      · exact .inr ⟨rfl, lb_trans x y z h k⟩

/-! ### The order of names -/
/-- Of lists of parts, the last part of a name first. -/
def cmpL : List (List UInt8) → List (List UInt8) → Int
  | [], [] => 0
  | [], _ :: _ => -1
  | _ :: _, [] => 1
  | x :: xs, y :: ys => if lb x y then -1 else if lb y x then 1 else cmpL xs ys
def cmp (a b : List UInt8) : Int := cmpL (split a).reverse (split b).reverse

theorem cmpL_rng : ∀ xs ys, cmpL xs ys = -1 ∨ cmpL xs ys = 0 ∨ cmpL xs ys = 1
  | [], [] => .inr (.inl rfl)
  | [], _ :: _ => .inl rfl
  | _ :: _, [] => .inr (.inr rfl)
  | x :: xs, y :: ys => by
    unfold cmpL
    split
    · exact .inl rfl
    · split
      · exact .inr (.inr rfl)
      · exact cmpL_rng xs ys
theorem cmpL_self : ∀ xs, cmpL xs xs = 0
  | [] => rfl
  | x :: xs => by rw [cmpL, if_neg (by simp [lb_irrefl]), if_neg (by simp [lb_irrefl]), cmpL_self xs]
theorem cmpL_eq : ∀ xs ys, cmpL xs ys = 0 → xs = ys
  | [], [], _ => rfl
  | [], _ :: _, h => by cases h
  | _ :: _, [], h => by cases h
  | x :: xs, y :: ys, h => by
    rw [cmpL] at h
    by_cases h1 : lb x y = true
    · rw [if_pos h1] at h; cases h
    · rw [if_neg h1] at h
      by_cases h2 : lb y x = true
      · rw [if_pos h2] at h; cases h
      · rw [if_neg h2] at h
        rw [lb_total x y (by simpa using h1) (by simpa using h2), cmpL_eq xs ys h]
theorem cmpL_neg : ∀ xs ys, cmpL ys xs = - cmpL xs ys
  | [], [] => rfl
  | [], _ :: _ => rfl
  | _ :: _, [] => rfl
  | x :: xs, y :: ys => by
    rw [cmpL, cmpL]
    by_cases h1 : lb x y = true
    · rw [if_pos h1, if_neg (by simp [lb_asymm x y h1]), if_pos h1]; rfl
    · by_cases h2 : lb y x = true
      · rw [if_pos h2, if_neg h1, if_pos h2]
      · rw [if_neg h2, if_neg h1, if_neg h1, if_neg h2, cmpL_neg xs ys]
theorem cmpL_trans : ∀ xs ys zs, cmpL xs ys ≤ 0 → cmpL ys zs ≤ 0 → cmpL xs zs ≤ 0
  | [], _, [], _, _ => by decide
  | [], _, _ :: _, _, _ => by simp [cmpL]
  | _ :: _, [], _, h, _ => by simp [cmpL] at h
  | _ :: _, _ :: _, [], _, h => by simp [cmpL] at h
  | x :: xs, y :: ys, z :: zs, h, k => by
    rw [cmpL] at h k ⊢
    by_cases h1 : lb x y = true
    · by_cases k1 : lb y z = true
      · rw [if_pos (lb_trans x y z h1 k1)]; decide
      · rw [if_neg k1] at k
        by_cases k2 : lb z y = true
        · rw [if_pos k2] at k; exact absurd k (by decide)
        · obtain rfl := lb_total y z (by simpa using k1) (by simpa using k2)
          rw [if_pos h1]; decide
    · rw [if_neg h1] at h
      by_cases h2 : lb y x = true
      · rw [if_pos h2] at h; exact absurd h (by decide)
      · rw [if_neg h2] at h
        obtain rfl := lb_total x y (by simpa using h1) (by simpa using h2)
        by_cases k1 : lb x z = true
        · rw [if_pos k1]; decide
        · rw [if_neg k1] at k ⊢
          by_cases k2 : lb z x = true
          · rw [if_pos k2] at k; exact absurd k (by decide)
          · rw [if_neg k2] at k ⊢
            exact cmpL_trans xs ys zs h k
theorem cmp_rng (a b : List UInt8) : cmp a b = -1 ∨ cmp a b = 0 ∨ cmp a b = 1 := cmpL_rng _ _
theorem cmp_self (a : List UInt8) : cmp a a = 0 := cmpL_self _
theorem cmp_eq {a b : List UInt8} (h : cmp a b = 0) : a = b := split_inj (List.reverse_inj.1 (cmpL_eq _ _ h))
theorem cmp_neg (a b : List UInt8) : cmp b a = - cmp a b := cmpL_neg _ _
theorem cmp_trans {a b c : List UInt8} (h : cmp a b ≤ 0) (k : cmp b c ≤ 0) : cmp a c ≤ 0 := cmpL_trans _ _ _ h k
theorem cmp_lt_trans {a b c : List UInt8} (h : cmp a b < 0) (k : cmp b c < 0) : cmp a c < 0 := by
  have h1 := cmp_trans (a := a) (b := b) (c := c) (by omega) (by omega)
  rcases cmp_rng a c with e | e | e
  · omega
  · exfalso
    have := cmp_eq e; subst this
    have := cmp_neg a b; omega
  · omega
/-- One step of the comparison, from behind. -/
theorem cmp_both {a b x y : List UInt8} (hx : ∀ c ∈ x, c ≠ 46) (hy : ∀ c ∈ y, c ≠ 46) : cmp (a ++ 46 :: x) (b ++ 46 :: y) = if lb x y then -1 else if lb y x then 1 else cmp a b := by
  unfold cmp
  rw [split_snoc a x hx, split_snoc b y hy, List.reverse_append, List.reverse_append]; rfl
theorem cmp_left {b x y : List UInt8} (hx : ∀ c ∈ x, c ≠ 46) (hy : ∀ c ∈ y, c ≠ 46) : cmp x (b ++ 46 :: y) = if lb x y then -1 else if lb y x then 1 else -1 := by
  unfold cmp
  rw [split_none x hx, split_snoc b y hy, List.reverse_append]
  cases h : (split b).reverse with
  | nil => exact absurd (List.reverse_eq_nil_iff.1 h) (split_ne b)
  | cons _ _ => rfl
theorem cmp_right {a x y : List UInt8} (hx : ∀ c ∈ x, c ≠ 46) (hy : ∀ c ∈ y, c ≠ 46) : cmp (a ++ 46 :: x) y = if lb x y then -1 else if lb y x then 1 else 1 := by
  unfold cmp
  rw [split_none y hy, split_snoc a x hx, List.reverse_append]
  cases h : (split a).reverse with
  | nil => exact absurd (List.reverse_eq_nil_iff.1 h) (split_ne a)
  | cons _ _ => rfl
theorem cmp_none {x y : List UInt8} (hx : ∀ c ∈ x, c ≠ 46) (hy : ∀ c ∈ y, c ≠ 46) : cmp x y = if lb x y then -1 else if lb y x then 1 else 0 := by
  unfold cmp
  rw [split_none x hx, split_none y hy]; rfl

/-! ### Canonical names -/
def decd (x : UInt8) : Bool := decide (48 ≤ x.toNat) && decide (x.toNat ≤ 57)
def hexd (x : UInt8) : Bool := decd x || (decide (97 ≤ x.toNat) && decide (x.toNat ≤ 102)) || (decide (65 ≤ x.toNat) && decide (x.toNat ≤ 70))
def pre (l : List UInt8) : Bool := decide (l.take 2 = [48, 120]) || decide (l.take 2 = [48, 88])
/-- The parts but for an empty last one. -/
def parts (l : List UInt8) : List (List UInt8) := if 1 < (split l).length ∧ (split l).getLastD [] = [] then (split l).dropLast else split l
def last (l : List UInt8) : List UInt8 := (parts l).getLastD []
def num (t : List UInt8) : Bool := if pre t then (t.drop 2).all hexd else t.all decd && !t.isEmpty
def numeric (l : List UInt8) : Bool := num (last l)
def name (l : List UInt8) : Bool := decide (l.length ≤ 253) && (!numeric l && (split l).all Lab.valid)
theorem parts_ne (l : List UInt8) : parts l ≠ [] := by
  unfold parts
  split
  · rename_i h; intro e
    have := congrArg List.length e
    rw [List.length_dropLast] at this; simp only [List.length_nil] at this; omega
  · exact split_ne l
theorem parts_len (l : List UInt8) : (parts l).length ≤ l.length + 1 := by
  have := split_len l
  unfold parts
  split
  · rw [List.length_dropLast]; omega
  · exact this
theorem parts_mem {l p : List UInt8} (h : p ∈ parts l) : p ∈ split l := by
  unfold parts at h
  split at h
  · exact (List.dropLast_sublist _).subset h
  · exact h

end Go.Proofs.YtmanejniepghlaaGreatDoor.Host

/-
  Pins as plain functions: which are valid, their encoding. No program stands in this text.
-/
namespace Go.Proofs.YtmanejniepghlaaGreatDoor

/-- A pin. -/
structure Pin where
  h : List UInt8
  s : Bool
  x : Int
  deriving DecidableEq

namespace Pin
def none : Pin := ⟨[], false, 0⟩
def valid (p : Pin) : Bool := Host.name p.h && (decide (0 ≤ p.x) && decide (p.x ≤ 1099511627776))
def enc (p : Pin) : List UInt8 := Wire.txt p.h ++ (Wire.enc (if p.s then 1 else 0) ++ Wire.enc p.x.toNat)
/-- The pin behind its host. -/
def decR (t : List UInt8) (n : Nat) (b : List UInt8) : Pin × Nat × Int :=
  if (Wire.dec (b.drop n)).2.2 ≠ 0 then (none, 0, (Wire.dec (b.drop n)).2.2) else if 1 < (Wire.dec (b.drop n)).1 then (none, 0, 6) else
    if (Wire.dec (b.drop (n + (Wire.dec (b.drop n)).2.1))).2.2 ≠ 0 then (none, 0, (Wire.dec (b.drop (n + (Wire.dec (b.drop n)).2.1))).2.2) else
      if 1099511627776 < (Wire.dec (b.drop (n + (Wire.dec (b.drop n)).2.1))).1 then (none, 0, 2) else if Host.name t = false then (none, 0, 14) else
        (⟨t, decide ((Wire.dec (b.drop n)).1 = 1), ((Wire.dec (b.drop (n + (Wire.dec (b.drop n)).2.1))).1 : Int)⟩, n + (Wire.dec (b.drop n)).2.1 + (Wire.dec (b.drop (n + (Wire.dec (b.drop n)).2.1))).2.1, 0)
/-- The pin at the beginning of bytes, how many bytes it has, an error. -/
def dec (b : List UInt8) : Pin × Nat × Int :=
  if (Wire.decT b).2.2 ≠ 0 then (none, 0, (Wire.decT b).2.2) else decR (Wire.decT b).1 (Wire.decT b).2.1 b

theorem valid_iff (p : Pin) : valid p = true ↔ Host.name p.h = true ∧ 0 ≤ p.x ∧ p.x ≤ 1099511627776 := by
  unfold valid; simp
theorem name_len {l : List UInt8} (h : Host.name l = true) : l.length ≤ 253 := by
  unfold Host.name at h; rw [Bool.and_eq_true] at h; simpa using h.1
theorem enc_len {p : Pin} (h : valid p = true) : (enc p).length ≤ 283 ∧ 4 ≤ (enc p).length := by
  obtain ⟨h1, h2, h3⟩ := (valid_iff p).1 h
  have h4 := name_len h1
  have a1 := Wire.enc_len (v := p.h.length) (by omega)
  have a2 := Wire.enc_len (v := if p.s then 1 else 0) (by split <;> omega)
  have a3 := Wire.enc_len (v := p.x.toNat) (by omega)
  have a4 : 1 ≤ p.h.length := by
    rcases Nat.eq_zero_or_pos p.h.length with e | e
    · exfalso
      have e0 := List.eq_nil_of_length_eq_zero e
      rw [e0] at h1
      have : Host.name [] = false := by decide +kernel
      rw [this] at h1; cases h1
    · exact e
  unfold enc Wire.txt
  simp only [List.length_append]
  have a5 : (Wire.enc p.h.length).length ≤ 10 := a1.2
  omega
theorem dec_enc {p : Pin} (h : valid p = true) (t : List UInt8) : dec (enc p ++ t) = (p, (enc p).length, 0) := by
  obtain ⟨h1, h2, h3⟩ := (valid_iff p).1 h
  have h4 := name_len h1
  have e1 : Wire.decT (enc p ++ t) = (p.h, (Wire.txt p.h).length, 0) := by
    unfold enc; rw [List.append_assoc]; exact Wire.decT_txt (by omega) _
  have d1 : (enc p ++ t).drop (Wire.txt p.h).length = Wire.enc (if p.s then 1 else 0) ++ (Wire.enc p.x.toNat ++ t) := by
    unfold enc; rw [List.append_assoc, List.drop_left, List.append_assoc]
  have e2 : Wire.dec (Wire.enc (if p.s then 1 else 0) ++ (Wire.enc p.x.toNat ++ t)) = ((if p.s then 1 else 0), (Wire.enc (if p.s then 1 else 0)).length, 0) := Wire.dec_enc (by split <;> omega) _
  have d2 : (enc p ++ t).drop ((Wire.txt p.h).length + (Wire.enc (if p.s then 1 else 0)).length) = Wire.enc p.x.toNat ++ t := by
    rw [← List.drop_drop, d1, List.drop_left]
  have e3 : Wire.dec (Wire.enc p.x.toNat ++ t) = (p.x.toNat, (Wire.enc p.x.toNat).length, 0) := Wire.dec_enc (by omega) _
  unfold dec
  rw [e1]
  simp only [ne_eq, not_true_eq_false, if_false]
  unfold decR
  rw [d1, e2]
  simp only [ne_eq, not_true_eq_false, if_false]
  rw [d2, e3]
  simp only [not_true_eq_false, if_false]
  rw [if_neg (by split <;> omega), if_neg (by omega), if_neg (by simp [h1])]
  refine Prod.ext ?_ (Prod.ext ?_ rfl)
  · obtain ⟨ph, ps, px⟩ := p
    have e4 : ((px.toNat : Nat) : Int) = px := by simp only at h2; omega
    cases ps <;> simp [e4]
  · simp only [enc, List.length_append]; omega
theorem enc_dec {b : List UInt8} {p : Pin} {n : Nat} (h : dec b = (p, n, 0)) : valid p = true ∧ b.take n = enc p ∧ n ≤ b.length := by
  unfold dec at h
  by_cases c1 : (Wire.decT b).2.2 ≠ 0
  · rw [if_pos c1] at h; injection h with _ h; injection h with _ h; exact absurd h c1
  rw [if_neg c1] at h
  obtain ⟨t, n1, z1, e1⟩ : ∃ t n1 z1, Wire.decT b = (t, n1, z1) := ⟨_, _, _, rfl⟩
  rw [e1] at h c1
  have c1 : z1 = 0 := by simpa using c1
  subst c1
  obtain ⟨f1, f2, f3, f4, f5⟩ := Wire.txt_decT e1
  change decR t n1 b = _ at h
  unfold decR at h
  obtain ⟨v2, n2, z2, e2⟩ : ∃ v2 n2 z2, Wire.dec (b.drop n1) = (v2, n2, z2) := ⟨_, _, _, rfl⟩
  rw [e2] at h
  dsimp only at h
  by_cases c2 : z2 ≠ 0
  · rw [if_pos c2] at h; injection h with _ h; injection h with _ h; exact absurd h c2
  rw [if_neg c2] at h
  obtain rfl : z2 = 0 := by simpa using c2
  obtain ⟨g1, g2, g3, g4, g5⟩ := Wire.enc_dec e2
  by_cases c3 : 1 < v2
  · rw [if_pos c3] at h; cases h
  rw [if_neg c3] at h
  obtain ⟨v3, n3, z3, e3⟩ : ∃ v3 n3 z3, Wire.dec (b.drop (n1 + n2)) = (v3, n3, z3) := ⟨_, _, _, rfl⟩
  rw [e3] at h
  dsimp only at h
  by_cases c4 : z3 ≠ 0
  · rw [if_pos c4] at h; injection h with _ h; injection h with _ h; exact absurd h c4
  rw [if_neg c4] at h
  obtain rfl : z3 = 0 := by simpa using c4
  obtain ⟨k1, k2, k3, k4, k5⟩ := Wire.enc_dec e3
  by_cases c5 : 1099511627776 < v3
  · rw [if_pos c5] at h; cases h
  rw [if_neg c5] at h
  by_cases c6 : Host.name t = false
  · rw [if_pos c6] at h; cases h
  rw [if_neg c6] at h
  injection h with hp h
  injection h with hn _
  subst hp
  subst hn
  have hv2 : (if decide (v2 = 1) = true then 1 else 0) = v2 := by
    rcases Nat.eq_zero_or_pos v2 with e | e
    · subst e; rfl
    · obtain rfl : v2 = 1 := by omega
      rfl
  rw [List.length_drop] at g2 k2
  refine ⟨(valid_iff _).2 ⟨by simpa using c6, by simp, by simp only; omega⟩, ?_, by omega⟩
  rw [Nat.add_assoc, List.take_add, f1, List.take_add, g1, List.drop_drop, k1]
  unfold enc
  simp only [hv2, Int.toNat_natCast]

end Pin
end Go.Proofs.YtmanejniepghlaaGreatDoor

/-
  Tables of pins as plain functions: sorted lists. No program stands in this text.
-/
namespace Go.Proofs.YtmanejniepghlaaGreatDoor.Tab

/-- Strictly ascending by host. -/
def Asc (L : List Pin) : Prop := L.Pairwise fun a b => Host.cmp a.h b.h < 0
/-- How many pins come before a host. -/
def lo (L : List Pin) (h : List UInt8) : Nat := (L.takeWhile fun p => decide (Host.cmp p.h h < 0)).length
/-- Whether the pin at this place is the host's. -/
def hit (L : List Pin) (h : List UInt8) : Bool := match L[lo L h]? with
  | some p => decide (p.h = h)
  | none => false
def put (L : List Pin) (cap : Int) (p : Pin) : List Pin × Int :=
  if Pin.valid p = false then (L, 1) else if hit L p.h then (L.set (lo L p.h) p, 0) else if (L.length : Int) = cap then (L, 11) else (L.take (lo L p.h) ++ p :: L.drop (lo L p.h), 0)
def remove (L : List Pin) (h : List UInt8) : List Pin × Bool := if hit L h then (L.take (lo L h) ++ L.drop (lo L h + 1), true) else (L, false)
/-- The check of a list of pins, from the place k on. -/
def chk (L : List Pin) : Nat → Nat → Int
  | 0, _ => 0
  | n + 1, k => match L[k]? with
    | none => 0
    | some p => if Pin.valid p = false then 1 else if 0 < k ∧ 0 ≤ Host.cmp (L.getD (k - 1) Pin.none).h p.h then 8 else chk L n (k + 1)
def load (L : List Pin) (cap : Int) : Int := if cap < 1 ∨ 1000 < cap then 2 else if cap < L.length then 11 else chk L L.length 0

theorem asc_at {L : List Pin} (h : Asc L) {i j : Nat} (hij : i < j) {a b : Pin} (ha : L[i]? = some a) (hb : L[j]? = some b) : Host.cmp a.h b.h < 0 := by
  obtain ⟨h1, rfl⟩ := List.getElem?_eq_some_iff.1 ha
  obtain ⟨h2, rfl⟩ := List.getElem?_eq_some_iff.1 hb
  exact List.pairwise_iff_getElem.1 h i j h1 h2 hij

theorem lo_le (L : List Pin) (h : List UInt8) : lo L h ≤ L.length := (List.takeWhile_sublist _).length_le
theorem lo_before : ∀ (L : List Pin) (h : List UInt8) (k : Nat), k < lo L h → ∃ p, L[k]? = some p ∧ Host.cmp p.h h < 0
  | [], h, k, hk => by simp [lo] at hk
  | p :: L, h, k, hk => by
    by_cases hp : Host.cmp p.h h < 0
    · cases k with
      | zero => exact ⟨p, rfl, hp⟩
      | succ k =>
        have e : lo (p :: L) h = lo L h + 1 := by unfold lo; rw [List.takeWhile_cons_of_pos (by simpa using hp)]; rfl
        rw [e] at hk
        obtain ⟨q, h1, h2⟩ := lo_before L h k (by omega)
        exact ⟨q, by simpa using h1, h2⟩
    · have e : lo (p :: L) h = 0 := by unfold lo; rw [List.takeWhile_cons_of_neg (by simpa using hp)]; rfl
      omega
theorem lo_at : ∀ (L : List Pin) (h : List UInt8) (p : Pin), L[lo L h]? = some p → ¬ Host.cmp p.h h < 0
  | [], h, p, e => by simp [lo] at e
  | q :: L, h, p, e => by
    by_cases hp : Host.cmp q.h h < 0
    · have e2 : lo (q :: L) h = lo L h + 1 := by unfold lo; rw [List.takeWhile_cons_of_pos (by simpa using hp)]; rfl
      rw [e2, List.getElem?_cons_succ] at e
      exact lo_at L h p e
    · have e2 : lo (q :: L) h = 0 := by unfold lo; rw [List.takeWhile_cons_of_neg (by simpa using hp)]; rfl
      rw [e2] at e
      cases e
      exact hp
/-- In a sorted list the pins before the place are those that come before the host. -/
theorem lo_iff {L : List Pin} (hL : Asc L) (h : List UInt8) {k : Nat} {p : Pin} (hk : L[k]? = some p) : Host.cmp p.h h < 0 ↔ k < lo L h := by
  constructor
  · intro hc
    rcases Nat.lt_trichotomy k (lo L h) with e | e | e
    · exact e
    · subst e; exact absurd hc (lo_at L h p hk)
    · have hkl := (List.getElem?_eq_some_iff.1 hk).1
      have hlt : lo L h < L.length := by omega
      have h1 := asc_at hL e (List.getElem?_eq_getElem hlt) hk
      exact absurd (Host.cmp_lt_trans h1 hc) (lo_at L h _ (List.getElem?_eq_getElem hlt))
  · intro hc
    obtain ⟨q, h1, h2⟩ := lo_before L h k hc
    rw [hk] at h1; cases h1; exact h2
/-- The place is the only one that fits. -/
theorem lo_eq {L : List Pin} {h : List UInt8} {k : Nat} (hk : k ≤ L.length) (h1 : ∀ i p, i < k → L[i]? = some p → Host.cmp p.h h < 0) (h2 : ∀ p, L[k]? = some p → ¬ Host.cmp p.h h < 0) : lo L h = k := by
  rcases Nat.lt_trichotomy (lo L h) k with e | e | e
  · have hlt : lo L h < L.length := by omega
    exact absurd (h1 _ _ e (List.getElem?_eq_getElem hlt)) (lo_at L h _ (List.getElem?_eq_getElem hlt))
  · exact e
  · obtain ⟨p, h3, h4⟩ := lo_before L h k e
    exact absurd h4 (h2 p h3)

theorem hit_iff {L : List Pin} (_hL : Asc L) (h : List UInt8) : hit L h = true ↔ ∃ p, L[lo L h]? = some p ∧ p.h = h := by
  unfold hit
  cases e : L[lo L h]? with
  | none => simp
  | some p => simp
/-- A pin of the host stands at the place. -/
theorem place {L : List Pin} (hL : Asc L) {k : Nat} {p : Pin} (hk : L[k]? = some p) : lo L p.h = k := by
  refine lo_eq (Nat.le_of_lt (List.getElem?_eq_some_iff.1 hk).1) (fun i q hi hq => asc_at hL hi hq hk) fun q hq => ?_
  rw [hk] at hq; cases hq
  rw [Host.cmp_self]; omega
theorem hit_mem {L : List Pin} (hL : Asc L) {k : Nat} {p : Pin} (hk : L[k]? = some p) : hit L p.h = true := by
  rw [hit_iff hL, place hL hk]; exact ⟨p, hk, rfl⟩
theorem hit_none {L : List Pin} (hL : Asc L) {h : List UInt8} (hn : hit L h = false) : ∀ p ∈ L, p.h ≠ h := by
  intro p hp e
  obtain ⟨k, hk, rfl⟩ := List.mem_iff_getElem.1 hp
  have := hit_mem hL (List.getElem?_eq_getElem hk)
  rw [e, hn] at this; cases this
theorem asc_take {L : List Pin} (h : Asc L) (k : Nat) : Asc (L.take k) := h.sublist (List.take_sublist _ _)
theorem asc_drop {L : List Pin} (h : Asc L) (k : Nat) : Asc (L.drop k) := h.sublist (List.drop_sublist _ _)
theorem asc_remove {L : List Pin} (h : Asc L) (k : Nat) : Asc (L.take k ++ L.drop (k + 1)) := by
  refine h.sublist ?_
  have : L.take k ++ L.drop (k + 1) = L.eraseIdx k := by rw [List.eraseIdx_eq_take_drop_succ]
  rw [this]; exact List.eraseIdx_sublist _ _
theorem asc_set {L : List Pin} (hL : Asc L) {k : Nat} {p q : Pin} (hk : L[k]? = some q) (hh : q.h = p.h) : Asc (L.set k p) := by
  have hkl := (List.getElem?_eq_some_iff.1 hk).1
  rw [Asc, List.pairwise_iff_getElem]
  intro i j hi hj hij
  rw [List.length_set] at hi hj
  have g : ∀ m (hm : m < L.length), (((L.set k p)[m]'(by rw [List.length_set]; exact hm)).h) = (L[m]).h := by
    intro m hm
    rw [List.getElem_set]
    split
    · rename_i e; subst e
      have := (List.getElem?_eq_some_iff.1 hk).2
      rw [this, hh]
    · rfl
  rw [g i hi, g j hj]
  exact List.pairwise_iff_getElem.1 hL i j hi hj hij
theorem asc_insert {L : List Pin} (hL : Asc L) {p : Pin} (hn : hit L p.h = false) : Asc (L.take (lo L p.h) ++ p :: L.drop (lo L p.h)) := by
  have hlo := lo_le L p.h
  rw [Asc, List.pairwise_append, List.pairwise_cons]
  have key : ∀ x ∈ L.drop (lo L p.h), Host.cmp p.h x.h < 0 := by
    intro x hx
    obtain ⟨j, hj, rfl⟩ := List.mem_iff_getElem.1 hx
    rw [List.length_drop] at hj
    have hg : L[lo L p.h + j]? = some ((L.drop (lo L p.h))[j]'(by rw [List.length_drop]; exact hj)) := by
      rw [List.getElem_drop, List.getElem?_eq_getElem]
    have h1 : ¬ Host.cmp ((L.drop (lo L p.h))[j]'(by rw [List.length_drop]; exact hj)).h p.h < 0 := by
      rw [lo_iff hL p.h hg]; omega
    have h2 := Host.cmp_neg p.h ((L.drop (lo L p.h))[j]'(by rw [List.length_drop]; exact hj)).h
    have h3 : Host.cmp p.h ((L.drop (lo L p.h))[j]'(by rw [List.length_drop]; exact hj)).h ≠ 0 := by
      intro e
      exact hit_none hL hn _ (List.mem_of_getElem? hg) (Host.cmp_eq e).symm
    omega
  refine ⟨asc_take hL _, ⟨key, asc_drop hL _⟩, ?_⟩
  intro a ha b hb
  have ha' : Host.cmp a.h p.h < 0 := by
    obtain ⟨i, hi, rfl⟩ := List.mem_iff_getElem.1 ha
    rw [List.length_take] at hi
    have hg : L[i]? = some ((L.take (lo L p.h))[i]'(by rw [List.length_take]; exact hi)) := by
      rw [List.getElem_take, List.getElem?_eq_getElem]
    rw [lo_iff hL p.h hg]; omega
  rcases List.mem_cons.1 hb with e | e
  · rw [e]; exact ha'
  · exact Host.cmp_lt_trans ha' (key b e)

theorem put_asc {L : List Pin} (hL : Asc L) (cap : Int) (p : Pin) : Asc (put L cap p).1 := by
  unfold put
  split
  · exact hL
  · split
    · rename_i h
      obtain ⟨q, h1, h2⟩ := (hit_iff hL p.h).1 h
      exact asc_set hL h1 h2
    · split
      · exact hL
      · rename_i h _
        exact asc_insert hL (by simpa using h)
theorem remove_asc {L : List Pin} (hL : Asc L) (h : List UInt8) : Asc (remove L h).1 := by
  unfold remove
  split
  · exact asc_remove hL _
  · exact hL
/-! ### What the check says -/
theorem chk_iff (L : List Pin) : ∀ n k, n + k = L.length → (chk L n k = 0 ↔ (∀ i p, k ≤ i → L[i]? = some p → Pin.valid p = true) ∧ ∀ i p q, k ≤ i + 1 → L[i]? = some p → L[i + 1]? = some q → Host.cmp p.h q.h < 0)
  | 0, k, hk => by
    refine ⟨fun _ => ⟨fun i p hi hp => ?_, fun i p q hi hp hq => ?_⟩, fun _ => rfl⟩
    · have := (List.getElem?_eq_some_iff.1 hp).1; omega
    · have := (List.getElem?_eq_some_iff.1 hq).1; omega
  | n + 1, k, hk => by
    have hkl : k < L.length := by omega
    have hg := List.getElem?_eq_getElem hkl
    have ih := chk_iff L n (k + 1) (by omega)
    rw [chk, hg]
    dsimp only
    by_cases hv : Pin.valid L[k] = false
    · rw [if_pos hv]
      refine ⟨(fun h => by cases h), fun h => ?_⟩
      rw [h.1 k _ (Nat.le_refl _) hg] at hv; cases hv
    · rw [if_neg hv]
      have hv' : Pin.valid L[k] = true := by simpa using hv
      by_cases hc : 0 < k ∧ 0 ≤ Host.cmp (L.getD (k - 1) Pin.none).h L[k].h
      · rw [if_pos hc]
        refine ⟨(fun h => by cases h), fun h => ?_⟩
        have hk1 : k - 1 < L.length := by omega
        have e1 : L.getD (k - 1) Pin.none = L[k - 1] := by rw [List.getD_eq_getElem?_getD, List.getElem?_eq_getElem hk1]; rfl
        have := h.2 (k - 1) _ _ (by omega) (List.getElem?_eq_getElem hk1) (by rw [show k - 1 + 1 = k by omega]; exact hg)
        rw [e1] at hc; omega
      · rw [if_neg hc, ih]
        constructor
        · rintro ⟨h1, h2⟩
          refine ⟨fun i p hi hp => ?_, fun i p q hi hp hq => ?_⟩
          · rcases Nat.eq_or_lt_of_le hi with e | e
            · subst e; rw [hg] at hp; cases hp; exact hv'
            · exact h1 i p e hp
          · rcases Nat.eq_or_lt_of_le hi with e | e
            · subst e
              rw [hg] at hq; cases hq
              have e1 : L.getD i Pin.none = p := by rw [List.getD_eq_getElem?_getD, hp]; rfl
              rw [Nat.add_sub_cancel, e1] at hc
              omega
            · exact h2 i p q (by omega) hp hq
        · rintro ⟨h1, h2⟩
          exact ⟨fun i p hi hp => h1 i p (by omega) hp, fun i p q hi hp hq => h2 i p q (by omega) hp hq⟩
theorem asc_of_next {L : List Pin} (h : ∀ i p q, L[i]? = some p → L[i + 1]? = some q → Host.cmp p.h q.h < 0) : Asc L := by
  rw [Asc, List.pairwise_iff_getElem]
  intro i j hi hj hij
  obtain ⟨d, rfl⟩ : ∃ d, j = i + 1 + d := ⟨j - (i + 1), by omega⟩
  clear hij
  induction d with
  | zero => exact h i _ _ (List.getElem?_eq_getElem hi) (List.getElem?_eq_getElem hj)
  | succ d ih =>
    have hd : i + 1 + d < L.length := by omega
    have h1 := ih hd
    have h2 := h (i + 1 + d) _ _ (List.getElem?_eq_getElem hd) (List.getElem?_eq_getElem (show i + 1 + d + 1 < L.length by omega))
    exact Host.cmp_lt_trans h1 h2
/-- A list is accepted exactly if its pins are valid and in order. -/
theorem chk_zero (L : List Pin) : chk L L.length 0 = 0 ↔ (∀ p ∈ L, Pin.valid p = true) ∧ Asc L := by
  rw [chk_iff L L.length 0 rfl]
  constructor
  · rintro ⟨h1, h2⟩
    refine ⟨fun p hp => ?_, asc_of_next fun i p q hp hq => h2 i p q (by omega) hp hq⟩
    obtain ⟨i, hi, rfl⟩ := List.mem_iff_getElem.1 hp
    exact h1 i _ (by omega) (List.getElem?_eq_getElem hi)
  · rintro ⟨h1, h2⟩
    exact ⟨fun i p _ hp => h1 p (List.mem_of_getElem? hp), fun i p q _ hp hq => asc_at h2 (by omega) hp hq⟩

end Go.Proofs.YtmanejniepghlaaGreatDoor.Tab

/-
  Tables of pins as plain functions: the reference's lists, what the operations leave, the order of putting. No program stands in this text.
-/
namespace Go.Proofs.YtmanejniepghlaaGreatDoor.Tab

/-! ### The reference's lists -/
theorem lo_lt {L : List Pin} (hL : Asc L) {h : List UInt8} (hh : hit L h = true) : lo L h < L.length := by
  obtain ⟨p, h1, h2⟩ := (hit_iff hL h).1 hh
  exact (List.getElem?_eq_some_iff.1 h1).1

theorem lo_removed {L : List Pin} (hL : Asc L) {h : List UInt8} (hh : hit L h = true) : lo (L.take (lo L h) ++ L.drop (lo L h + 1)) h = lo L h := by
  obtain ⟨p, h1, h2⟩ := (hit_iff hL h).1 hh
  have hlt := lo_lt hL hh
  refine lo_eq (by rw [List.length_append, List.length_take, List.length_drop]; omega) (fun i q hi hq => ?_) (fun q hq => ?_)
  · rw [List.getElem?_append_left (by rw [List.length_take]; omega), List.getElem?_take_of_lt hi] at hq
    obtain ⟨r, h3, h4⟩ := lo_before L h i hi
    rw [hq] at h3; cases h3; exact h4
  · rw [List.getElem?_append_right (by rw [List.length_take]; omega), List.length_take, List.getElem?_drop] at hq
    have h3 := asc_at hL (show lo L h < lo L h + 1 + (lo L h - min (lo L h) L.length) by omega) h1 hq
    have h4 := Host.cmp_neg p.h q.h
    rw [h2] at h3 h4
    omega
/-! ### What the operations leave -/
theorem remove_mem {L : List Pin} (hL : Asc L) (h : List UInt8) (q : Pin) : q ∈ (remove L h).1 ↔ q ∈ L ∧ q.h ≠ h := by
  unfold remove
  cases hh : hit L h with
  | false =>
    rw [if_neg (by decide)]
    exact ⟨fun hq => ⟨hq, hit_none hL hh q hq⟩, fun hq => hq.1⟩
  | true =>
    rw [if_pos rfl]
    obtain ⟨p, h1, h2⟩ := (hit_iff hL h).1 hh
    simp only
    constructor
    · intro hq
      refine ⟨?_, fun e => ?_⟩
      · rcases List.mem_append.1 hq with m | m
        · exact List.mem_of_mem_take m
        · exact List.mem_of_mem_drop m
      · have hqL : q ∈ L := by
          rcases List.mem_append.1 hq with m | m
          · exact List.mem_of_mem_take m
          · exact List.mem_of_mem_drop m
        have hr := asc_remove hL (lo L h)
        obtain ⟨i, hi, rfl⟩ := List.mem_iff_getElem.1 hq
        have e3 := place hr (List.getElem?_eq_getElem hi)
        rw [e, lo_removed hL hh] at e3
        have hg := List.getElem?_eq_getElem hi
        generalize (L.take (lo L h) ++ L.drop (lo L h + 1))[i] = x at *
        subst e3
        rw [List.getElem?_append_right (by rw [List.length_take]; omega), List.length_take, List.getElem?_drop] at hg
        have h4 := asc_at hL (show lo L h < lo L h + 1 + (lo L h - min (lo L h) L.length) by omega) h1 hg
        rw [h2, e, Host.cmp_self] at h4
        omega
    · rintro ⟨hq, hne⟩
      obtain ⟨i, hi, rfl⟩ := List.mem_iff_getElem.1 hq
      rcases Nat.lt_trichotomy i (lo L h) with e | e | e
      · exact List.mem_append_left _ (List.mem_iff_getElem.2 ⟨i, by rw [List.length_take]; omega, by rw [List.getElem_take]⟩)
      · subst e
        rw [List.getElem?_eq_getElem hi] at h1; cases h1
        exact absurd h2 hne
      · refine List.mem_append_right _ (List.mem_iff_getElem.2 ⟨i - (lo L h + 1), by rw [List.length_drop]; omega, ?_⟩)
        rw [List.getElem_drop]
        congr 1; omega
theorem put_mem {L : List Pin} (hL : Asc L) {cap : Int} {p : Pin} (hv : Pin.valid p = true) (hc : (put L cap p).2 = 0) (q : Pin) : q ∈ (put L cap p).1 ↔ q = p ∨ (q ∈ L ∧ q.h ≠ p.h) := by
  unfold put at hc ⊢
  rw [if_neg (by simp [hv])] at hc ⊢
  have hlo := lo_le L p.h
  cases hh : hit L p.h with
  | true =>
    have hlt := lo_lt hL hh
    have hr := remove_mem hL p.h q
    unfold remove at hr
    rw [hh, if_pos rfl] at hr
    rw [if_pos rfl]
    simp only at hr ⊢
    rw [List.set_eq_take_append_cons_drop, if_pos hlt, List.mem_append, List.mem_cons]
    rw [List.mem_append] at hr
    rw [← hr]
    constructor
    · rintro (m | m | m)
      · exact .inr (.inl m)
      · exact .inl m
      · exact .inr (.inr m)
    · rintro (m | m | m)
      · exact .inr (.inl m)
      · exact .inl m
      · exact .inr (.inr m)
  | false =>
    rw [hh, if_neg (by decide)] at hc
    rw [if_neg (by decide)]
    by_cases hf : (L.length : Int) = cap
    · rw [if_pos hf] at hc; cases hc
    rw [if_neg hf]
    simp only
    rw [List.mem_append, List.mem_cons]
    have hsp : q ∈ L ↔ q ∈ L.take (lo L p.h) ∨ q ∈ L.drop (lo L p.h) := by rw [← List.mem_append, List.take_append_drop]
    have hne : q ∈ L → q.h ≠ p.h := hit_none hL hh q
    constructor
    · rintro (m | m | m)
      · exact .inr ⟨hsp.2 (.inl m), hne (hsp.2 (.inl m))⟩
      · exact .inl m
      · exact .inr ⟨hsp.2 (.inr m), hne (hsp.2 (.inr m))⟩
    · rintro (m | ⟨m, -⟩)
      · exact .inr (.inl m)
      · rcases hsp.1 m with m | m
        · exact .inl m
        · exact .inr (.inr m)
/-! ### Putting one pin after the other -/
end Go.Proofs.YtmanejniepghlaaGreatDoor.Tab

/-
  Updates and states as plain functions. No program stands in this text.
-/
namespace Go.Proofs.YtmanejniepghlaaGreatDoor

/-- An update: 1 put, 2 remove. -/
structure UpdV where
  k : Int
  p : Pin
  deriving DecidableEq
namespace Upt
def none : UpdV := ⟨0, Pin.none⟩
def valid (u : UpdV) : Bool := if u.k = 1 then Pin.valid u.p else if u.k = 2 then Host.name u.p.h && decide (u.p.s = false ∧ u.p.x = 0) else false
def enc (u : UpdV) : List UInt8 := if u.k = 2 then 2 :: Wire.txt u.p.h else 1 :: Pin.enc u.p
def dec1 (t : List UInt8) : UpdV × Int := if (Pin.dec t).2.2 ≠ 0 then (none, (Pin.dec t).2.2) else if (Pin.dec t).2.1 < t.length then (none, 6) else (⟨1, (Pin.dec t).1⟩, 0)
def dec2 (t : List UInt8) : UpdV × Int := if (Wire.decT t).2.2 ≠ 0 then (none, (Wire.decT t).2.2) else if (Wire.decT t).2.1 < t.length then (none, 6) else if Host.name (Wire.decT t).1 = false then (none, 14) else (⟨2, ⟨(Wire.decT t).1, false, 0⟩⟩, 0)
def dec (b : List UInt8) : UpdV × Int := match b with
  | [] => (none, 5)
  | x :: t => if x = 1 then dec1 t else if x = 2 then dec2 t else (none, 6)

theorem valid_cases {u : UpdV} (h : valid u = true) : (u.k = 1 ∧ Pin.valid u.p = true) ∨ (u.k = 2 ∧ Host.name u.p.h = true ∧ u.p = ⟨u.p.h, false, 0⟩) := by
  unfold valid at h
  split at h
  · rename_i h1; exact .inl ⟨h1, h⟩
  · split at h
    · rename_i h2
      rw [Bool.and_eq_true, decide_eq_true_eq] at h
      refine .inr ⟨h2, h.1, ?_⟩
      obtain ⟨-, h3, h4⟩ := h
      cases hp : u.p with
      | mk a b c => rw [hp] at h3 h4; simp only at h3 h4; rw [h3, h4]
    · cases h
theorem dec_enc {u : UpdV} (h : valid u = true) : dec (enc u) = (u, 0) := by
  obtain ⟨k, p⟩ := u
  rcases valid_cases h with ⟨h1, h2⟩ | ⟨h1, h2, h3⟩
  · simp only at h1 h2
    subst h1
    have e : enc ⟨1, p⟩ = 1 :: Pin.enc p := by unfold enc; rw [if_neg (by simp)]
    have hd := Pin.dec_enc h2 []
    rw [List.append_nil] at hd
    rw [e]; unfold dec; dsimp only
    rw [if_pos rfl]
    unfold dec1
    rw [hd]
    rw [if_neg (by simp), if_neg (by simp)]
  · simp only at h1 h2 h3
    subst h1
    have e : enc ⟨2, p⟩ = 2 :: Wire.txt p.h := by unfold enc; rw [if_pos rfl]
    have hl := Pin.name_len h2
    have hd := Wire.decT_txt (s := p.h) (by omega) []
    rw [List.append_nil] at hd
    rw [e]; unfold dec; dsimp only
    rw [if_neg (by decide), if_pos rfl]
    unfold dec2
    rw [hd]
    rw [if_neg (by simp), if_neg (by simp), if_neg (by rw [h2]; decide)]
    rw [← h3]
theorem enc_dec {b : List UInt8} {u : UpdV} (h : dec b = (u, 0)) : valid u = true ∧ enc u = b := by
  unfold dec at h
  cases b with
  | nil => cases h
  | cons x t =>
    dsimp only at h
    split at h
    · rename_i hx
      unfold dec1 at h
      split at h
      · rename_i h0; exact absurd (Prod.mk.inj h).2 h0
      · rename_i h0
        split at h
        · cases h
        · rename_i h1
          cases h
          have h0' : (Pin.dec t).2.2 = 0 := by simpa using h0
          obtain ⟨e1, e2, e3⟩ := Pin.enc_dec (b := t) (p := (Pin.dec t).1) (n := (Pin.dec t).2.1) (by rw [← h0'])
          refine ⟨by unfold valid; rw [if_pos rfl]; exact e1, ?_⟩
          unfold enc; rw [if_neg (by simp)]
          rw [hx]; dsimp only
          rw [← e2, List.take_of_length_le (by omega)]
    · split at h
      · rename_i hx
        unfold dec2 at h
        split at h
        · rename_i h0; exact absurd (Prod.mk.inj h).2 h0
        · rename_i h0
          split at h
          · cases h
          · rename_i h1
            split at h
            · cases h
            · rename_i h2
              cases h
              have h0' : (Wire.decT t).2.2 = 0 := by simpa using h0
              obtain ⟨e2, e3, -⟩ := Wire.txt_decT (b := t) (s := (Wire.decT t).1) (n := (Wire.decT t).2.1) (by rw [← h0'])
              refine ⟨by unfold valid; rw [if_neg (by simp), if_pos rfl]; simpa using h2, ?_⟩
              unfold enc; rw [if_pos rfl, hx]; dsimp only
              rw [← e2, List.take_of_length_le (by omega)]
      · cases h

/-! ### States -/
def stValid (c : Int) (L : List Pin) : Bool := decide (0 ≤ c ∧ c ≤ 1099511627776 ∧ L.length ≤ 1000 ∧ Tab.chk L L.length 0 = 0)
theorem stValid_iff (c : Int) (L : List Pin) : stValid c L = true ↔ 0 ≤ c ∧ c ≤ 1099511627776 ∧ L.length ≤ 1000 ∧ (∀ p ∈ L, Pin.valid p = true) ∧ Tab.Asc L := by
  unfold stValid; rw [decide_eq_true_eq, Tab.chk_zero]
/-- The pin goes in, or replaces the one of its host. -/
def ins (L : List Pin) (p : Pin) : List Pin := if Tab.hit L p.h then L.set (Tab.lo L p.h) p else L.take (Tab.lo L p.h) ++ p :: L.drop (Tab.lo L p.h)
theorem ins_put {L : List Pin} {p : Pin} (hv : Pin.valid p = true) : Tab.put L (L.length + 1) p = (ins L p, 0) := by
  unfold Tab.put ins
  rw [if_neg (by simp [hv])]
  split
  · rfl
  · rw [if_neg (by omega)]
def upd (L : List Pin) (u : UpdV) : List Pin := if u.k = 2 then (Tab.remove L u.p.h).1 else ins L u.p
/-- What Apply answers: the pins and the error. -/
def apply (c : Int) (L : List Pin) (u : UpdV) (cap : Int) : List Pin × Int :=
  if stValid c L = false ∨ valid u = false then ([], 1) else if u.k = 2 then (upd L u, 0) else if Tab.hit L u.p.h = true then (upd L u, 0) else if min cap 1000 ≤ (L.length : Int) then ([], 11) else (upd L u, 0)

theorem upd_mem {L : List Pin} (hL : Tab.Asc L) {u : UpdV} (hu : valid u = true) (q : Pin) : q ∈ upd L u ↔ (u.k = 1 ∧ q = u.p) ∨ (q ∈ L ∧ q.h ≠ u.p.h) := by
  unfold upd
  rcases valid_cases hu with ⟨h1, h2⟩ | ⟨h1, h2, h3⟩
  · rw [if_neg (by omega)]
    have := Tab.put_mem hL (cap := L.length + 1) h2 (by rw [ins_put h2]) q
    rw [ins_put h2] at this
    rw [this]
    constructor
    · rintro (e | e)
      · exact .inl ⟨h1, e⟩
      · exact .inr e
    · rintro (⟨-, e⟩ | e)
      · exact .inl e
      · exact .inr e
  · rw [if_pos h1, Tab.remove_mem hL]
    constructor
    · exact fun e => .inr e
    · rintro (⟨e, -⟩ | e)
      · omega
      · exact e
theorem upd_asc {L : List Pin} (hL : Tab.Asc L) {u : UpdV} (hu : valid u = true) : Tab.Asc (upd L u) := by
  unfold upd
  rcases valid_cases hu with ⟨h1, h2⟩ | ⟨h1, -, -⟩
  · rw [if_neg (by omega)]
    have := Tab.put_asc hL (L.length + 1) u.p
    rwa [ins_put h2] at this
  · rw [if_pos h1]; exact Tab.remove_asc hL _
theorem upd_good {L : List Pin} (hL : Tab.Asc L) {u : UpdV} (hu : valid u = true) (hg : ∀ p ∈ L, Pin.valid p = true) : ∀ p ∈ upd L u, Pin.valid p = true := by
  intro p hp
  rcases (upd_mem hL hu p).1 hp with ⟨h1, rfl⟩ | ⟨h, -⟩
  · rcases valid_cases hu with ⟨-, h2⟩ | ⟨h2, -, -⟩
    · exact h2
    · omega
  · exact hg p h
end Upt
end Go.Proofs.YtmanejniepghlaaGreatDoor

/-
  Snapshots as plain functions. No program stands in this text.
-/
namespace Go.Proofs.YtmanejniepghlaaGreatDoor
namespace Snap

def enc (c : Int) (L : List Pin) : List UInt8 := Wire.enc c.toNat ++ (Wire.enc L.length ++ L.flatMap Pin.enc)
def size (c : Int) (L : List Pin) : Nat := if Upt.stValid c L = true then (enc c L).length else 0
/-- n pins from the place k on, behind those of acc. -/
def pins (b : List UInt8) : Nat → Nat → List Pin → List Pin × Nat × Int
  | 0, k, acc => (acc, k, 0)
  | n + 1, k, acc => if (Pin.dec (b.drop k)).2.2 ≠ 0 then ([], 0, (Pin.dec (b.drop k)).2.2) else pins b n (k + (Pin.dec (b.drop k)).2.1) (acc ++ [(Pin.dec (b.drop k)).1])
/-- Behind the two numbers: the clock c, the count m, the place k. -/
def decR (b : List UInt8) (c m k : Nat) : (Int × List Pin) × Int :=
  if 1000 < m then ((0, []), 3) else if (pins b m k []).2.2 ≠ 0 then ((0, []), (pins b m k []).2.2) else if (pins b m k []).2.1 < b.length then ((0, []), 6) else if 1099511627776 < c then ((0, []), 2) else
    if Upt.stValid c (pins b m k []).1 = false then ((0, []), 8) else ((c, (pins b m k []).1), 0)
def dec (b : List UInt8) : (Int × List Pin) × Int :=
  if (Wire.dec b).2.2 ≠ 0 then ((0, []), (Wire.dec b).2.2) else if (Wire.dec (b.drop (Wire.dec b).2.1)).2.2 ≠ 0 then ((0, []), (Wire.dec (b.drop (Wire.dec b).2.1)).2.2) else
    decR b (Wire.dec b).1 (Wire.dec (b.drop (Wire.dec b).2.1)).1 ((Wire.dec b).2.1 + (Wire.dec (b.drop (Wire.dec b).2.1)).2.1)

theorem pins_enc : ∀ (L : List Pin) (b : List UInt8) (k : Nat) (acc : List Pin) (t : List UInt8), (∀ p ∈ L, Pin.valid p = true) → b.drop k = L.flatMap Pin.enc ++ t → pins b L.length k acc = (acc ++ L, k + (L.flatMap Pin.enc).length, 0)
  | [], b, k, acc, t, _, _ => by simp [pins]
  | p :: L, b, k, acc, t, hv, hb => by
    have hd := Pin.dec_enc (hv p List.mem_cons_self) (L.flatMap Pin.enc ++ t)
    rw [List.flatMap_cons, List.append_assoc] at hb
    rw [← hb] at hd
    simp only [List.length_cons, pins]
    rw [hd, if_neg (by simp)]
    have hb2 : b.drop (k + (Pin.enc p).length) = L.flatMap Pin.enc ++ t := by
      rw [← List.drop_drop, hb, List.drop_left]
    rw [pins_enc L b _ (acc ++ [p]) t (fun q hq => hv q (List.mem_cons_of_mem _ hq)) hb2]
    simp only [List.flatMap_cons, List.length_append, List.append_assoc, List.singleton_append, Prod.mk.injEq, and_true, true_and]
    omega
theorem pins_dec : ∀ (n : Nat) (b : List UInt8) (k : Nat) (acc R : List Pin) (m : Nat), k ≤ b.length → pins b n k acc = (R, m, 0) → ∃ L, R = acc ++ L ∧ L.length = n ∧ (∀ p ∈ L, Pin.valid p = true) ∧ m ≤ b.length ∧ k ≤ m ∧ (b.drop k).take (m - k) = L.flatMap Pin.enc
  | 0, b, k, acc, R, m, hk, h => by
    simp only [pins, Prod.mk.injEq, and_true] at h
    obtain ⟨rfl, rfl⟩ := h
    exact ⟨[], by simp, rfl, by simp, hk, Nat.le_refl _, by simp⟩
  | n + 1, b, k, acc, R, m, hk, h => by
    simp only [pins] at h
    split at h
    · rename_i h0; exact absurd (Prod.mk.inj (Prod.mk.inj h).2).2 h0
    · rename_i h0
      have h0' : (Pin.dec (b.drop k)).2.2 = 0 := by simpa using h0
      obtain ⟨e1, e2, e3⟩ := Pin.enc_dec (b := b.drop k) (p := (Pin.dec (b.drop k)).1) (n := (Pin.dec (b.drop k)).2.1) (by rw [← h0'])
      rw [List.length_drop] at e3
      obtain ⟨L, g1, g2, g3, g4, g5, g6⟩ := pins_dec n b _ _ R m (by omega) h
      refine ⟨(Pin.dec (b.drop k)).1 :: L, by rw [g1]; simp, by simp [g2], fun p hp => ?_, g4, by omega, ?_⟩
      · rcases List.mem_cons.1 hp with rfl | hp
        · exact e1
        · exact g3 p hp
      · rw [List.flatMap_cons, ← e2, ← g6]
        have e4 : m - k = (Pin.dec (b.drop k)).2.1 + (m - (k + (Pin.dec (b.drop k)).2.1)) := by omega
        rw [e4, List.take_add, List.drop_drop]

theorem dec_enc {c : Int} {L : List Pin} (h : Upt.stValid c L = true) : dec (enc c L) = ((c, L), 0) := by
  obtain ⟨h1, h2, h3, h4, h5⟩ := (Upt.stValid_iff c L).1 h
  have d1 := Wire.dec_enc (v := c.toNat) (by omega) (Wire.enc L.length ++ L.flatMap Pin.enc)
  have d2 := Wire.dec_enc (v := L.length) (by omega) (L.flatMap Pin.enc)
  have e1 : (enc c L).drop (Wire.enc c.toNat).length = Wire.enc L.length ++ L.flatMap Pin.enc := by unfold enc; rw [List.drop_left]
  have e2 : (enc c L).drop ((Wire.enc c.toNat).length + (Wire.enc L.length).length) = L.flatMap Pin.enc ++ [] := by rw [← List.drop_drop, e1, List.drop_left, List.append_nil]
  have hp := pins_enc L (enc c L) _ [] [] h4 e2
  have hl : (enc c L).length = (Wire.enc c.toNat).length + (Wire.enc L.length).length + (L.flatMap Pin.enc).length := by unfold enc; simp only [List.length_append]; omega
  unfold dec
  rw [show Wire.dec (enc c L) = (c.toNat, (Wire.enc c.toNat).length, 0) from d1]
  dsimp only
  rw [e1, d2, if_neg (by simp), if_neg (by simp)]
  unfold decR
  dsimp only
  rw [hp, if_neg (by omega), if_neg (by simp)]
  dsimp only
  rw [if_neg (by omega), if_neg (by omega), List.nil_append]
  have hc : ((c.toNat : Nat) : Int) = c := by omega
  rw [hc, if_neg (by rw [h]; decide)]
theorem enc_dec {b : List UInt8} {c : Int} {L : List Pin} (h : dec b = ((c, L), 0)) : Upt.stValid c L = true ∧ enc c L = b := by
  unfold dec at h
  split at h
  · rename_i h0; exact absurd (Prod.mk.inj h).2 h0
  rename_i h0
  split at h
  · rename_i h1; exact absurd (Prod.mk.inj h).2 h1
  rename_i h1
  unfold decR at h
  split at h
  · cases h
  rename_i h2
  split at h
  · rename_i h3; exact absurd (Prod.mk.inj h).2 h3
  rename_i h3
  split at h
  · cases h
  rename_i h4
  split at h
  · cases h
  split at h
  · cases h
  rename_i h6
  have h0' : (Wire.dec b).2.2 = 0 := by simpa using h0
  have h1' : (Wire.dec (b.drop (Wire.dec b).2.1)).2.2 = 0 := by simpa using h1
  have h3' : (pins b (Wire.dec (b.drop (Wire.dec b).2.1)).1 ((Wire.dec b).2.1 + (Wire.dec (b.drop (Wire.dec b).2.1)).2.1) []).2.2 = 0 := by simpa using h3
  obtain ⟨a1, a2, a3, a4, a5⟩ := Wire.enc_dec (b := b) (v := (Wire.dec b).1) (n := (Wire.dec b).2.1) (by rw [← h0'])
  obtain ⟨b1, b2, b3, b4, b5⟩ := Wire.enc_dec (b := b.drop (Wire.dec b).2.1) (v := (Wire.dec (b.drop (Wire.dec b).2.1)).1) (n := (Wire.dec (b.drop (Wire.dec b).2.1)).2.1) (by rw [← h1'])
  rw [List.length_drop] at b2
  generalize Wire.dec b = r1 at *
  obtain ⟨v1, n1, z1⟩ := r1
  dsimp only at *
  generalize Wire.dec (b.drop n1) = r2 at *
  obtain ⟨v2, n2, z2⟩ := r2
  dsimp only at *
  obtain ⟨M, g1, g2, g3, g4, g5, g6⟩ := pins_dec v2 b (n1 + n2) [] (pins b v2 (n1 + n2) []).1 (pins b v2 (n1 + n2) []).2.1 (by omega) (by rw [← h3'])
  rw [List.nil_append] at g1
  generalize pins b v2 (n1 + n2) [] = r3 at *
  obtain ⟨R, m, z3⟩ := r3
  dsimp only at *
  obtain ⟨h7, h8⟩ := Prod.mk.inj (Prod.mk.inj h).1
  subst g1
  subst h8
  refine ⟨by rw [← h7]; simpa using h6, ?_⟩
  unfold enc
  rw [← h7, Int.toNat_natCast, ← a1, g2, ← b1, ← g6]
  have e1 : m = b.length := by omega
  rw [e1, ← List.drop_drop, List.take_of_length_le (l := (b.drop n1).drop n2) (by simp only [List.length_drop]; omega), List.take_append_drop, List.take_append_drop]

theorem pin_len {p : Pin} (h : Pin.valid p = true) : 1 ≤ (Pin.enc p).length ∧ (Pin.enc p).length ≤ 262 := by
  obtain ⟨h1, h2, h3⟩ := (Pin.valid_iff p).1 h
  have h4 := Pin.name_len h1
  have l1 := Wire.enc_len_bound 1 p.h.length (by omega)
  have l2 := Wire.enc_len_bound 0 (if p.s then 1 else 0) (by split <;> omega)
  have l3 := Wire.enc_len_bound 5 p.x.toNat (by omega)
  unfold Pin.enc Wire.txt
  simp only [List.length_append]
  omega
theorem flat_len : ∀ (L : List Pin), (∀ p ∈ L, Pin.valid p = true) → L.length ≤ (L.flatMap Pin.enc).length ∧ (L.flatMap Pin.enc).length ≤ L.length * 262
  | [], _ => by simp
  | p :: L, h => by
    have h1 := pin_len (h p List.mem_cons_self)
    have h2 := flat_len L (fun q hq => h q (List.mem_cons_of_mem _ hq))
    simp only [List.flatMap_cons, List.length_append, List.length_cons]
    omega
/-- The size's bounds; fewer pins need fewer bytes. -/
theorem bound {c : Int} {L : List Pin} (h : Upt.stValid c L = true) : (enc c L).length ≤ 8 + L.length * 262 ∧ 2 ≤ (enc c L).length := by
  obtain ⟨h1, h2, h3, h4, h5⟩ := (Upt.stValid_iff c L).1 h
  have l1 := Wire.enc_len_bound 5 c.toNat (by omega)
  have l2 := Wire.enc_len_bound 1 L.length (by omega)
  have l3 := flat_len L h4
  unfold enc
  simp only [List.length_append]
  omega
end Snap
end Go.Proofs.YtmanejniepghlaaGreatDoor

/-
  What the reference's Apply computes; what Apply does to a state. No program stands in this text.
-/
namespace Go.Proofs.YtmanejniepghlaaGreatDoor

namespace Upt
theorem apply_bad {c : Int} {L : List Pin} {u : UpdV} {cap : Int} (h : stValid c L = false ∨ valid u = false) : apply c L u cap = ([], 1) := by unfold apply; rw [if_pos h]
theorem apply_rem {c : Int} {L : List Pin} {u : UpdV} {cap : Int} (h1 : stValid c L = true) (h2 : valid u = true) (hk : u.k = 2) : apply c L u cap = ((Tab.remove L u.p.h).1, 0) := by
  unfold apply upd; rw [if_neg (by rw [h1, h2]; decide), if_pos hk, if_pos hk]
theorem apply_hit {c : Int} {L : List Pin} {u : UpdV} {cap : Int} (h1 : stValid c L = true) (h2 : valid u = true) (hk : u.k = 1) (hh : Tab.hit L u.p.h = true) : apply c L u cap = (L.set (Tab.lo L u.p.h) u.p, 0) := by
  unfold apply upd ins; rw [if_neg (by rw [h1, h2]; decide), if_neg (by omega), if_pos hh, if_neg (by omega), if_pos hh]
theorem apply_full {c : Int} {L : List Pin} {u : UpdV} {cap : Int} (h1 : stValid c L = true) (h2 : valid u = true) (hk : u.k = 1) (hh : Tab.hit L u.p.h = false) (hf : min cap 1000 ≤ (L.length : Int)) : apply c L u cap = ([], 11) := by
  unfold apply; rw [if_neg (by rw [h1, h2]; decide), if_neg (by omega), if_neg (by rw [hh]; decide), if_pos hf]
theorem apply_ins {c : Int} {L : List Pin} {u : UpdV} {cap : Int} (h1 : stValid c L = true) (h2 : valid u = true) (hk : u.k = 1) (hh : Tab.hit L u.p.h = false) (hf : ¬ min cap 1000 ≤ (L.length : Int)) :
    apply c L u cap = (L.take (Tab.lo L u.p.h) ++ u.p :: L.drop (Tab.lo L u.p.h), 0) := by
  unfold apply upd ins; rw [if_neg (by rw [h1, h2]; decide), if_neg (by omega), if_neg (by rw [hh]; decide), if_neg hf, if_neg (by omega), if_neg (by rw [hh]; decide)]
theorem kind_of {u : UpdV} (h : valid u = true) : u.k = 1 ∨ u.k = 2 := by
  rcases valid_cases h with ⟨h1, -⟩ | ⟨h1, -, -⟩
  · exact .inl h1
  · exact .inr h1
theorem host_len {u : UpdV} (h : valid u = true) : u.p.h.length ≤ 253 := by
  rcases valid_cases h with ⟨-, h2⟩ | ⟨-, h2, -⟩
  · exact Pin.name_len ((Pin.valid_iff _).1 h2).1
  · exact Pin.name_len h2
theorem hosts_len {c : Int} {L : List Pin} (h : stValid c L = true) : ∀ p ∈ L, p.h.length ≤ 253 := fun p hp =>
  Pin.name_len ((Pin.valid_iff _).1 (((stValid_iff c L).1 h).2.2.2.1 p hp)).1
/-- The clock of what Apply returns. -/
def ack (c z : Int) : Int := if z = 0 then c else 0
theorem apply_ok {c : Int} {L : List Pin} {u : UpdV} {cap : Int} (h : (apply c L u cap).2 = 0) : stValid c L = true ∧ valid u = true ∧ (apply c L u cap).1 = upd L u := by
  revert h; unfold apply
  split
  · exact fun h => absurd h (by decide)
  · rename_i h0
    have h1 : stValid c L = true := by cases e : stValid c L with | true => rfl | false => exact absurd (.inl e) h0
    have h2 : valid u = true := by cases e : valid u with | true => rfl | false => exact absurd (.inr e) h0
    split
    · exact fun _ => ⟨h1, h2, rfl⟩
    · split
      · exact fun _ => ⟨h1, h2, rfl⟩
      · split
        · exact fun h => absurd h (by decide)
        · exact fun _ => ⟨h1, h2, rfl⟩
theorem upd_state {c : Int} {L : List Pin} {u : UpdV} (h1 : stValid c L = true) (h2 : valid u = true) (hl : (upd L u).length ≤ 1000) : stValid c (upd L u) = true := by
  obtain ⟨a1, a2, a3, a4, a5⟩ := (stValid_iff c L).1 h1
  exact (stValid_iff c _).2 ⟨a1, a2, hl, upd_good a5 h2 a4, upd_asc a5 h2⟩
end Upt
end Go.Proofs.YtmanejniepghlaaGreatDoor

/-
  A range over a function whose yields are known one by one, where the iterator stores into one box of its own between the rounds.
-/
namespace Go.Proofs.YtmanejniepghlaaGreatDoor
open Go.RowKit

/-- What an iterator promises that yields enc 0, .., enc (N - 1) and turns the cell of the box Bs alone. -/
def SeqIxS (F : Fence) (n : Nat) (P : Program) (g : Nat) (lb : Array Value) (enc : Nat → Array Value) (Kp : World → World → Prop) (N : Nat) (Bs : Nat) (w : World) : Prop :=
  ∀ (l : Nat) (J Jx : Nat → World → Prop) (W : World), Below w.heap.size w W → (∀ k W1 v, J k W1 → J k (W1.setCell ⟨Bs, 0, none⟩ v)) →
    (∀ k W1, J k W1 → k < N → YieldAt F (n - 1) P l (enc k) W1 fun e W' => (e = .returned (.bool true) ∧ J (k + 1) W' ∧ Kp W1 W') ∨ (e = .returned (.bool false) ∧ Jx (k + 1) W')) →
    J 0 W → CallsIn F n P g (#[.func (.yield l) #[] #[]] ++ lb) W fun e W' => (∃ v, e = .returned v) ∧ (J N W' ∨ ∃ k, k ≤ N ∧ Jx k W')

/-- How a round's body may be left. -/
def RoundEndsS (B : Nat) (Kp : World → World → Prop) (I : Nat → World → Prop) (Ix : Code → Nat → World → Prop) (k : Nat) (W : World) : Exit → Act → World → Prop
  | .normal, _, W' => KeepsFrom B W W' ∧ Kp W W' ∧ I k W'
  | .ret, _, W' => KeepsFrom B W W' ∧ Ix .ret k W'
  | .exit id, _, W' => KeepsFrom B W W' ∧ Ix (.exit id) k W'
  | _, _, _ => False

/-- A world whose block l became o'. -/
def StableS (B : Nat) (I : Nat → World → Prop) : Prop := ∀ k W l o o', I k W → B ≤ l → W.heap[l]? = some o → o.isCells = false → I k (W.putObj l o')

theorem wpIn_rangeIxS {F : Fence} {n : Nat} {P : Program} {g : Operand} {ps : Array Tmp} {assign body : Code} {Q : Exit → Act → World → Prop} {a : Act} {w : World}
    (hro : F.round = none) (h1 : 1 ≤ n) {gf : Nat} {lb : Array Value} (hg : a.eval g = .func (.func gf) #[] lb) (hFg : F.fn gf) (eg : ∀ args w, (callFunc gf args).run P w = .ok (.enter gf args) w)
    {enc : Nat → Array Value} {Kp : World → World → Prop} {N : Nat} {w0 : World} {Bs : Nat} (hBs : Bs < w.heap.size) (hseq : SeqIxS F (n - 1) P gf lb enc Kp N Bs w0)
    (hKt : ∀ {A B C : World}, Kp A B → Kp B C → Kp A C) (hKb : ∀ (W : World) (l : Nat) (o o' : Obj), w.heap.size ≤ l → W.heap[l]? = some o → o.isCells = false → Kp W (W.putObj l o')) (hb0 : Below w0.heap.size w0 w) (hps : ∀ k, (enc k).size = ps.size)
    (I : Nat → World → Prop) (Ix : Code → Nat → World → Prop) (hI : StableS w.heap.size I) (hIx : ∀ c, StableS w.heap.size (Ix c)) (hIs : ∀ k W v, I k W → I k (W.setCell ⟨Bs, 0, none⟩ v)) (h0 : ∀ o o', I 0 ((w.alloc o).alloc o')) (I' : Nat → Act → World → Prop) (hI' : ∀ a1, StableS w.heap.size (fun k W => I' k a1 W))
    (hassign : ∀ (l : Nat) (k : Nat) (W : World), I k W → k < N →
      assign.wpIn (F.inRound l) (n - 1 - 1) P (Exit.then (fun a1 W1 => KeepsFrom w.heap.size W W1 ∧ Kp W W1 ∧ I' k a1 W1) (fun _ _ _ => False)) { tmps := (ps.zip (enc k)).foldl (fun t (p, v) => t.setIfInBounds p v) a.tmps, defers := [] } W)
    (hbody : ∀ (l : Nat) (k : Nat) (a1 : Act) (W : World), I' k a1 W → k < N → body.wpIn (F.inRound l) (n - 1 - 1) P (RoundEndsS w.heap.size Kp I Ix (k + 1) W) a1 W)
    (hdone : ∀ (D : Nat) (W : World), w.heap.size ≤ D → I N W → W.heap[D]? = some (.deferred (some [])) → Q .normal { a with defers := { target := .collected D, args := #[] } :: a.defers } W)
    (hstop : ∀ (D : Nat) (c : Code) (k : Nat) (W : World), w.heap.size ≤ D → k ≤ N → Ix c k W → W.heap[D]? = some (.deferred (some [])) → c.wpIn F n P Q { a with defers := { target := .collected D, args := #[] } :: a.defers } W) :
    (Code.rangeFunc g ps assign body).wpIn F n P Q a w := by
  refine wpIn_rangeFunc (fun fn hfn => ?_)
  rw [hro]
  -- the loop's record, by its state and its pending jump
  obtain ⟨R, hR⟩ : ∃ R : LoopState → Option Code → Loop, R = fun st pe => { state := st, pending := pe, fn, tmps := a.tmps, params := ps, assign, body, defers := w.heap.size } := ⟨_, rfl⟩
  have e0 : ∀ st pe, (R st pe).state = st ∧ (R st pe).params = ps ∧ (R st pe).pending = pe := by intro st pe; rw [hR]; exact ⟨rfl, rfl, rfl⟩
  have hW1a : ∀ W1, W1 = (w.alloc (.deferred (some []))).alloc (.loop (R .ready none)) → W1.heap[w.heap.size + 1]? = some (.loop (R .ready none)) ∧ W1.heap[w.heap.size]? = some (.deferred (some [])) ∧ Below w0.heap.size w0 W1 ∧ I 0 W1 := by
    rintro W1 rfl
    refine ⟨heap_alloc_eq _ _ _ (by simp), (heap_alloc_lt _ _ _ (by simp)).trans (heap_alloc_eq _ _ _ rfl), ?_, h0 _ _⟩
    exact (hb0.alloc hb0.size _).alloc (by have := hb0.size; simp; omega) _
  obtain ⟨hl1, hd1, hb1, hi1⟩ := hW1a _ rfl
  refine ⟨w.heap.size + 1, [{ target := .collected w.heap.size, args := #[] }], (w.alloc (.deferred (some []))).alloc (.loop (R .ready none)), { target := .fn (.func gf) lb, args := #[.func (.yield (w.heap.size + 1)) #[] #[]] }, (w.alloc (.deferred (some []))).alloc (.loop (R .ready none)), gf,
    #[.func (.yield (w.heap.size + 1)) #[] #[]] ++ lb, (w.alloc (.deferred (some []))).alloc (.loop (R .ready none)), ?_, ?_, ?_, ?_, fun _ => h1, ?_⟩
  · rw [hR]; exact run_enterLoop_outer _ _ _ _ _
  · simp only [resolve, hg]; simp [go_sem]
  · intro f' hf'; simp [Target.leads] at hf'; subst hf'; exact hFg
  · simp [invoke, go_sem, eg]
  · refine (hseq (w.heap.size + 1)
      (fun k W => I k W ∧ W.heap[w.heap.size + 1]? = some (.loop (R .ready none)) ∧ W.heap[w.heap.size]? = some (.deferred (some [])))
      (fun k W => ∃ c, Ix c k W ∧ W.heap[w.heap.size + 1]? = some (.loop (R .done (some c))) ∧ W.heap[w.heap.size]? = some (.deferred (some [])))
      _ hb1 (fun k W v h => ⟨hIs k W v h.1, (heap_setCell_other _ _ _ _ (by simp only; omega)).trans h.2.1, (heap_setCell_other _ _ _ _ (by simp only; omega)).trans h.2.2⟩) ?_ ⟨hi1, hl1, hd1⟩).mono ?_
    · -- one round
      rintro k W ⟨hi, hl, hd⟩ hk
      have hy := run_yield (P := P) (args := enc k) hl (by rw [(e0 _ _).2.1]; exact hps k)
      have hyR : (Instr.yield (w.heap.size + 1) (enc k)).run P W = .ok (.round (w.heap.size + 1) fn ((ps.zip (enc k)).foldl (fun t (p, v) => t.setIfInBounds p v) a.tmps) assign body) W := by rw [hR] at hy; exact hy
      refine ⟨fn, _, assign, body, hyR, roundIn_of_wpIn hfn (wpIn_mono (hassign _ k W hi hk) ?_)⟩
      rintro e1 a1 W0 hp0
      cases e1 with
      | ret => exact hp0.elim
      | exit id => exact hp0.elim
      | goto t => exact hp0.elim
      | panic ch => exact hp0.elim
      | outgrown => exact hp0.elim
      | normal =>
      obtain ⟨g1, g2, g3⟩ := (show KeepsFrom w.heap.size W W0 ∧ Kp W W0 ∧ I' k a1 W0 from hp0)
      have hl0 := g1.same _ _ (by omega) hl rfl
      have hd0 := g1.same _ _ (Nat.le_refl _) hd rfl
      refine ⟨_, run_beginRound hl0 (e0 _ _).1, ?_⟩
      obtain ⟨b, hb⟩ : ∃ b : Loop, b = { R .ready none with state := .busy } := ⟨_, rfl⟩
      rw [← hb]
      have hl2 : (W0.putObj (w.heap.size + 1) (.loop b)).heap[w.heap.size + 1]? = some (.loop b) := World.putObj_heap_same (heap_lt hl0)
      have hd2 : (W0.putObj (w.heap.size + 1) (.loop b)).heap[w.heap.size]? = some (.deferred (some [])) := (World.putObj_heap_other (by omega)).trans hd0
      have hk2 : Kp W (W0.putObj (w.heap.size + 1) (.loop b)) := hKt g2 (hKb _ _ _ _ (by omega) hl0 rfl)
      have ends : ∀ (j : Option Code) (W3 : World), KeepsFrom w.heap.size (W0.putObj (w.heap.size + 1) (.loop b)) W3 →
          ∃ W4, W4 = W3.putObj (w.heap.size + 1) (.loop (R (if j.isNone then .ready else .done) j)) ∧ (Instr.endRound (w.heap.size + 1) j).run P W3 = .ok (.bool j.isNone) W4 ∧ W3.heap[w.heap.size + 1]? = some (.loop b) ∧
            W4.heap[w.heap.size + 1]? = some (.loop (R (if j.isNone then .ready else .done) j)) ∧ W4.heap[w.heap.size]? = some (.deferred (some [])) := by
        intro j W3 hk3
        have hl3 := hk3.same _ _ (by omega) hl2 rfl
        refine ⟨_, rfl, ?_, hl3, World.putObj_heap_same (heap_lt hl3), (World.putObj_heap_other (by omega)).trans (hk3.same _ _ (Nat.le_refl _) hd2 rfl)⟩
        have := run_endRound (P := P) j hl3
        rw [hb, hR] at this; rw [hR]; exact this
      refine wpIn_mono (hbody _ k a1 _ (hI' a1 _ _ _ _ _ g3 (by omega) hl0 rfl) hk) ?_
      rintro e a3 W3 hp
      cases e with
      | normal =>
        obtain ⟨h3, h4, h5⟩ := hp
        obtain ⟨W4, rfl, hr, hl3, hl4, hd4⟩ := ends none W3 h3
        exact ⟨_, _, hr, .inl ⟨rfl, ⟨hI _ _ _ _ _ h5 (by omega) hl3 rfl, hl4, hd4⟩, hKt (hKt hk2 h4) (hKb _ _ _ _ (by omega) hl3 rfl)⟩⟩
      | ret =>
        obtain ⟨h3, h5⟩ := hp
        obtain ⟨W4, rfl, hr, hl3, hl4, hd4⟩ := ends (some .ret) W3 h3
        exact ⟨_, _, hr, .inr ⟨rfl, .ret, hIx _ _ _ _ _ _ h5 (by omega) hl3 rfl, hl4, hd4⟩⟩
      | exit id =>
        obtain ⟨h3, h5⟩ := hp
        obtain ⟨W4, rfl, hr, hl3, hl4, hd4⟩ := ends (some (.exit id)) W3 h3
        exact ⟨_, _, hr, .inr ⟨rfl, .exit id, hIx _ _ _ _ _ _ h5 (by omega) hl3 rfl, hl4, hd4⟩⟩
      | goto t => exact hp.elim
      | panic ch => exact hp.elim
      | outgrown => exact hp.elim
    · -- behind the iterator
      rintro e W2 ⟨⟨v, rfl⟩, (⟨hi, hl, hd⟩ | ⟨k, hk, c, hi, hl, hd⟩)⟩
      · have hr := run_endLoop (P := P) hl (by rw [(e0 _ _).1]; simp)
        rw [(e0 _ _).2.2] at hr
        exact ⟨none, _, hr, hdone _ _ (Nat.le_refl _) (hI _ _ _ _ _ hi (by omega) hl rfl) ((World.putObj_heap_other (by omega)).trans hd)⟩
      · have hr := run_endLoop (P := P) hl (by rw [(e0 _ _).1]; simp)
        rw [(e0 _ _).2.2] at hr
        exact ⟨some c, _, hr, hstop _ c k _ (Nat.le_refl _) hk (hIx _ _ _ _ _ _ hi (by omega) hl rfl) ((World.putObj_heap_other (by omega)).trans hd)⟩

end Go.Proofs.YtmanejniepghlaaGreatDoor

/-
  Slices of strings: what they read as; slices that the call itself made; append.
-/
namespace Go.Proofs.YtmanejniepghlaaGreatDoor
open Go.RowKit

/-- The cell of a string. -/
def tv (z : List UInt8) : Value := .string (str z)

/-- The slice reads as the strings l. -/
def SlT (w : World) (a : Option Addr) (n c : Nat) (l : List (List UInt8)) : Prop :=
  l.length = n ∧ n ≤ c ∧ c ≤ maxLen ∧ (a = none → l = [] ∧ c = 0) ∧
    ∀ x, a = some x → ∀ i (h : i < l.length), x.spot = none ∧ x.block < w.heap.size ∧ w.cell? ⟨x.block, x.off + i, none⟩ = some (tv l[i])

theorem SlT.len {w : World} {a : Option Addr} {n c : Nat} {l : List (List UInt8)} (h : SlT w a n c l) : l.length = n := h.1
theorem SlT.le {w : World} {a : Option Addr} {n c : Nat} {l : List (List UInt8)} (h : SlT w a n c l) : n ≤ 9223372036854775807 := by
  have := h.2.1; have := h.2.2.1; unfold maxLen at *; omega
theorem SlT.nil (w : World) : SlT w none 0 0 [] := ⟨rfl, Nat.le_refl _, by unfold maxLen; omega, fun _ => ⟨rfl, rfl⟩, fun x hx => by cases hx⟩

theorem SlT.at {w : World} {a : Option Addr} {n c : Nat} {l : List (List UInt8)} (h : SlT w a n c l) {k : Nat} (hk : k < n) :
    ∃ b o, a = some ⟨b, o, none⟩ ∧ b < w.heap.size ∧ k < l.length ∧ w.cell? ⟨b, o + k, none⟩ = some (tv (l[k]?.getD [])) := by
  obtain ⟨hl, hn, hc, h0, h1⟩ := h
  cases a with
  | none => have := (h0 rfl).1; subst this; simp at hl; omega
  | some x =>
    obtain ⟨b, o, sp⟩ := x
    have hk' : k < l.length := by omega
    obtain ⟨hs, hb, hi⟩ := h1 _ rfl k hk'
    simp only at hs; subst hs
    refine ⟨b, o, rfl, hb, hk', ?_⟩
    rw [List.getElem?_eq_getElem hk']
    exact hi

theorem SlT.ext {w w' : World} {a : Option Addr} {n c : Nat} {l : List (List UInt8)} (h : SlT w a n c l) (e : Below w.heap.size w w') : SlT w' a n c l := by
  obtain ⟨hl, hn, hc, h0, h1⟩ := h
  refine ⟨hl, hn, hc, h0, fun x hx i hi => ?_⟩
  obtain ⟨hs, hb, hi⟩ := h1 x hx i hi
  exact ⟨hs, Nat.lt_of_lt_of_le hb e.size, (e.cell (p := ⟨x.block, x.off + i, none⟩) hb).trans hi⟩
theorem SlT.take {w : World} {a : Option Addr} {n c : Nat} {l : List (List UInt8)} (h : SlT w a n c l) {k : Nat} (hk : k ≤ n) : SlT w a k c (l.take k) := by
  obtain ⟨hl, hn, hc, h0, h1⟩ := h
  refine ⟨by simp; omega, by omega, hc, fun e => by simp [h0 e], fun x hx i hi => ?_⟩
  have hi' : i < l.length := by simp at hi; omega
  obtain ⟨hs, hb, hcl⟩ := h1 x hx i hi'
  exact ⟨hs, hb, by rw [hcl]; simp⟩
theorem SlT.drop {w : World} {b o n c : Nat} {l : List (List UInt8)} (h : SlT w (some ⟨b, o, none⟩) n c l) {k : Nat} (hk : k ≤ n) : SlT w (some ⟨b, o + k, none⟩) (n - k) (c - k) (l.drop k) := by
  obtain ⟨hl, hn, hc, h0, h1⟩ := h
  refine ⟨by simp; omega, by omega, by omega, (fun e => by cases e), fun x hx i hi => ?_⟩
  cases hx
  have hi' : k + i < l.length := by simp at hi; omega
  obtain ⟨hs, hb, hcl⟩ := h1 _ rfl (k + i) hi'
  refine ⟨rfl, hb, ?_⟩
  simp only [Nat.add_assoc] at hcl ⊢
  rw [hcl]; simp
theorem SlT.zero (w : World) (x : Addr) (c : Nat) (hc : c ≤ maxLen) : SlT w (some x) 0 c [] := ⟨rfl, Nat.zero_le _, hc, (fun h => by cases h), fun y _ i hi => by simp at hi⟩

/-- The slice value v is the call's own, in a block from base on, and holds the strings l. -/
def OwnT (base : Nat) (w : World) (v : Value) (l : List (List UInt8)) : Prop := w.ownsRow base 9 1 v l.length (l.map tv)

theorem OwnT.sl {base : Nat} {w : World} {v : Value} {l : List (List UInt8)} (h : OwnT base w v l) : ∃ a c, v = .slice a l.length c ∧ SlT w a l.length c l := by
  rcases id h.2 with ⟨hv, hn⟩ | ⟨g, cap, cur, hv, hg, hc, hnc, hcm, hcs, htake⟩
  · have hl : l = [] := List.eq_nil_of_length_eq_zero hn
    subst hl
    exact ⟨none, 0, hv, SlT.nil w⟩
  · refine ⟨some ⟨g, 0, none⟩, cap, hv, ⟨rfl, hnc, hcm, (fun h => by cases h), fun x hx i hi => ?_⟩⟩
    cases hx
    refine ⟨rfl, (Array.getElem?_eq_some_iff.1 hc).1, ?_⟩
    have := World.ownsRow.cellAt (g := g) (cap := cap) (by rw [← hv]; exact h) i (by simpa using hi)
    simp only [Nat.zero_add]
    rw [this]; simp [hi]
theorem OwnT.lt {base : Nat} {w : World} {v : Value} {l : List (List UInt8)} (h : OwnT base w v l) : ∀ k, v.ownBlock = some k → base ≤ k ∧ k < w.heap.size := World.ownsRow.lt h
theorem OwnT.ext {base : Nat} {w w' : World} {v : Value} {l : List (List UInt8)} (h : OwnT base w v l) (e : Below w.heap.size w w') : OwnT base w' v l := by
  refine ⟨h.1, ?_⟩
  rcases h.2 with hn | ⟨g, cap, cur, rfl, hb, hgg, rest⟩
  · exact .inl hn
  · exact .inr ⟨g, cap, cur, rfl, hb, (e.block g (Array.getElem?_eq_some_iff.1 hgg).1).trans hgg, rest⟩
theorem OwnT.mono {b b' : Nat} {w : World} {v : Value} {l : List (List UInt8)} (h : OwnT b w v l) (hb : b' ≤ b) : OwnT b' w v l := by
  refine ⟨h.1, ?_⟩
  rcases h.2 with hn | ⟨g, cap, cur, rfl, hbg, rest⟩
  · exact .inl hn
  · exact .inr ⟨g, cap, cur, rfl, Nat.le_trans hb hbg, rest⟩
theorem OwnT.alloc {base : Nat} {w : World} {v : Value} {l : List (List UInt8)} (h : OwnT base w v l) (o : Obj) : OwnT base (w.alloc o) v l := World.ownsRow.alloc h o
theorem OwnT.nil (base : Nat) (w : World) : OwnT base w (.slice none 0 0) [] := World.ownsRow_nil w base _ _
theorem OwnT.empty {base : Nat} (w : World) (hb : base ≤ w.heap.size) : OwnT base (w.alloc (.cells #[] 9)) (.slice (some ⟨w.heap.size, 0, none⟩) 0 0) [] :=
  World.ownsRow_made w #[] 0 hb (by unfold maxLen; omega) rfl
theorem OwnT.kept {base : Nat} {w w' : World} {v : Value} {l : List (List UInt8)} {row : Option Nat} (h : OwnT base w v l) (hg : w.grownBy w' row) (hne : ∀ k, v.ownBlock = some k → row ≠ some k) : OwnT base w' v l :=
  World.ownsRow.kept h hg (by
    cases hv : v.ownBlock with
    | none => exact .inl rfl
    | some k => exact .inr (fun e => hne k hv e.symm))

theorem infoStr : (Tryz.prog.info? 9).map (fun i => (i.zero, i.size, i.bytes)) = some (some (.string ⟨#[]⟩), 1, 16) := by kernel_rfl

theorem SlT.one (w : World) (z : List UInt8) (t : TypeId) : SlT (w.alloc (.cells #[tv z] t)) (some ⟨w.heap.size, 0, none⟩) 1 1 [z] := by
  refine ⟨rfl, Nat.le_refl _, by unfold maxLen; omega, (fun h => by cases h), fun x hx i hi => ?_⟩
  cases hx
  refine ⟨rfl, by simp, ?_⟩
  obtain rfl : i = 0 := by simpa using hi
  rw [World.cell?_alloc_at _ _ _ _ rfl]; rfl
theorem SlT.built (w : World) (A : Array Value) (l : List (List UInt8)) (n k : Nat) (t : TypeId) (fr : Nat × Nat) (hA : A = (l.map tv).toArray) (hn : l.length = n) (hm : n ≤ maxLen) (hk : k = w.heap.size) :
    SlT (w.alloc (.cells A t fr)) (some ⟨k, 0, none⟩) n n l := by
  subst hA; subst hk
  refine ⟨hn, Nat.le_refl _, hm, (fun h => by cases h), fun x hx i hi => ?_⟩
  cases hx
  refine ⟨rfl, by simp, ?_⟩
  rw [cell_of_row _ _ _ _ _ _ (heap_alloc_eq w _ _ rfl)]; simp [hi]

end Go.Proofs.YtmanejniepghlaaGreatDoor

/-
  The walks through the references of names: Split, Digits, the last part of a host, ValidName, Covers.
-/
namespace Go.Proofs.YtmanejniepghlaaGreatDoor
open Go.RowKit

theorem strSize (l : List UInt8) : (str l).size = l.length := by simp [str, ByteArray.size]
theorem strGet (l : List UInt8) (i : Nat) (h : i < (str l).size) : (str l)[i] = l[i]'(by rw [strSize] at h; exact h) := by simp [str]; rfl
theorem strCut (l : List UInt8) (i j : Nat) : (str l).extract i j = str ((l.take j).drop i) := by
  rw [Lib.extract_eq, List.drop_take]; rfl

namespace Host
end Host

namespace Host
/-- The value of a digit, or 99. -/
def dg (b : UInt8) : Int := if 48 ≤ b.toNat ∧ b.toNat ≤ 57 then b.toNat - 48 else if 97 ≤ b.toNat ∧ b.toNat ≤ 102 then b.toNat - 87 else if 65 ≤ b.toNat ∧ b.toNat ≤ 70 then b.toNat - 55 else 99
end Host

/-- What the two packages' parts return. -/
def PartsPost (l : List UInt8) (w : World) (e : Ending) (w' : World) : Prop := ∃ b c, e = .returned (.slice (some ⟨b, 0, none⟩) (Host.parts l).length c) ∧ SlT w' (some ⟨b, 0, none⟩) (Host.parts l).length c (Host.parts l) ∧ Below w.heap.size w w'
theorem OwnT.rowN {base : Nat} {w : World} {v : Value} {l : List (List UInt8)} (h : OwnT base w v l) (hl : 0 < l.length) : ∃ g c, v = .slice (some ⟨g, 0, none⟩) l.length c ∧ l.length ≤ c ∧ c ≤ maxLen ∧ SlT w (some ⟨g, 0, none⟩) l.length c l := by
  obtain ⟨a, c, rfl, hs⟩ := h.sl
  rcases id h.2 with ⟨hv, hn⟩ | ⟨g, cap, cur, hv, hg, hc, hnc, hcm, hcs, htake⟩
  · omega
  · cases hv
    exact ⟨g, c, rfl, hnc, hcm, hs⟩

namespace Host
theorem getLastD_at {l : List (List UInt8)} (_h : 0 < l.length) : l.getLastD [] = l[l.length - 1]?.getD [] := by
  rw [List.getLastD_eq_getLast?, List.getLast?_eq_getElem?]
theorem parts_short {l : List UInt8} (h : (split l).length ≤ 1) : parts l = split l := by unfold parts; rw [if_neg (by omega)]
theorem parts_cut {l : List UInt8} (h : 1 < (split l).length) (he : (split l)[(split l).length - 1]?.getD [] = []) : parts l = (split l).take ((split l).length - 1) := by
  unfold parts; rw [if_pos ⟨h, by rw [getLastD_at (by omega)]; exact he⟩, List.dropLast_eq_take]
theorem parts_full {l : List UInt8} (he : (split l)[(split l).length - 1]?.getD [] ≠ []) : parts l = split l := by
  have hp := List.length_pos_iff.2 (split_ne l)
  unfold parts; rw [if_neg (by rintro ⟨h, e⟩; rw [getLastD_at hp] at e; exact he e)]
end Host

namespace Host
theorem pre_iff (t : List UInt8) : pre t = true ↔ 2 ≤ t.length ∧ t.getD 0 0 = 48 ∧ (t.getD 1 0 = 120 ∨ t.getD 1 0 = 88) := by
  unfold pre
  match t with
  | [] => simp
  | [a] => simp
  | a :: b :: r => simp; constructor
                   · rintro (⟨h1, h2⟩ | ⟨h1, h2⟩)
                     · exact ⟨h1, .inl h2⟩
                     · exact ⟨h1, .inr h2⟩
                   · rintro ⟨h1, h2 | h2⟩
                     · exact .inl ⟨h1, h2⟩
                     · exact .inr ⟨h1, h2⟩
end Host

theorem below_dn (w : World) (n : Nat) : Below w.heap.size w (w.drewN n) := (Below.refl _ w).trans ⟨rfl, rfl, rfl, Nat.le_refl _, fun _ _ => rfl⟩

end Go.Proofs.YtmanejniepghlaaGreatDoor

/-
  UTF-8 as the reference of labels reads it: a class of first bytes, then the bytes that go on. No program stands in this text.
-/
namespace Go.Proofs.YtmanejniepghlaaGreatDoor.Lab
open Go.Lib

/-- The number after k bytes more. -/
def part (t : List UInt8) (v0 : Int) : Nat → Int
  | 0 => v0
  | k + 1 => part t v0 k * 64 + ((t.getD (k + 1) 0).toNat : Int) - 128
def cont (t : List UInt8) (j : Nat) : Prop := 128 ≤ (t.getD j 0).toNat ∧ (t.getD j 0).toNat ≤ 191
def Good (t : List UInt8) (n : Nat) (v0 least : Int) : Prop := n ≤ t.length ∧ (∀ j, 1 ≤ j → j < n → cont t j) ∧ least ≤ part t v0 (n - 1) ∧ Puny.point (part t v0 (n - 1)) = true

end Go.Proofs.YtmanejniepghlaaGreatDoor.Lab

/-
  How long numbers are: bits and groups of seven. No program stands in this text.
-/
namespace Go.Proofs.YtmanejniepghlaaGreatDoor
namespace Snap

def num (n : Nat) : Nat := max 1 ((Lib.bitLen n + 6) / 7)
/-- The bytes of the first k pins, and of the numbers ahead of them. -/
def part (c : Int) (L : List Pin) (k : Nat) : Nat := num c.toNat + num L.length + ((L.take k).flatMap Pin.enc).length
theorem take_flat {L : List Pin} {k : Nat} (hk : k < L.length) : (L.take (k + 1)).flatMap Pin.enc = (L.take k).flatMap Pin.enc ++ Pin.enc L[k] := by
  rw [List.take_succ_eq_append_getElem hk, List.flatMap_append]; simp
end Snap
end Go.Proofs.YtmanejniepghlaaGreatDoor

/-
  A region that draws its order, whose last operation waits for all others: loads may be taken first although the last operation writes a cell that they read.
-/
namespace Go.Proofs.YtmanejniepghlaaGreatDoor
open Go.RowKit

section
variable {P : Program} {ops : Array Oper} {Q : Exit → Act → World → Prop} {md : Region.Mode} {S : World → Prop} {t : Nat}

/-- t waits for i, or for one that waits for i. -/
def reach2 (md : Region.Mode) (ops : Array Oper) (t i : Nat) : Bool := Region.waitsFor md ops t i || (List.range ops.size).any fun m => Region.waitsFor md ops t m && Region.waitsFor md ops m i
/-- Whatever has come up, what it waits for has come up. -/
def ClosedR (md : Region.Mode) (ops : Array Oper) (listed : Array Bool) : Prop := ∀ j oj, ops[j]? = some oj → listed.getD j false = true → ∀ e ∈ oj.after, Region.binds md e = true → listed.getD e.on false = true
def closedB (md : Region.Mode) (ops : Array Oper) (listed : Array Bool) : Bool := (List.range ops.size).all fun j => !listed.getD j false || match ops[j]? with | some oj => oj.after.all (fun e => !Region.binds md e || listed.getD e.on false) | none => true
theorem closedB_spec {listed : Array Bool} (h : closedB md ops listed = true) : ClosedR md ops listed := by
  intro j oj hj hl e he hb
  have h1 := List.all_eq_true.1 h j (List.mem_range.2 (Array.getElem?_eq_some_iff.1 hj).1)
  rw [hl, hj] at h1
  simp only [Bool.not_true, Bool.false_or] at h1
  have h2 := Array.all_eq_true_iff_forall_mem.1 h1 e he
  rw [hb] at h2
  simpa using h2
theorem ClosedR.set {i : Nat} {listed : Array Bool} (h : ClosedR md ops listed) (hi : i ∈ Region.ready md ops listed) : ClosedR md ops (listed.setIfInBounds i true) := by
  obtain ⟨_, oi, hoi, hall⟩ := mem_ready.1 hi
  intro j oj hj hl e he hb
  by_cases hij : i = j
  · subst hij
    have : oj = oi := Option.some.inj (hj.symm.trans hoi)
    subst this
    exact getD_set_true (hall e he hb)
  · rw [getD_set_ne false hij] at hl
    exact getD_set_true (h j oj hj hl e he hb)
theorem reach2_not {i j : Nat} {listed : Array Bool} (h : ClosedR md ops listed) (ht : reach2 md ops t i = true) (hr : j ∈ Region.ready md ops listed) (hi : listed.getD i true = false) : j ≠ t := by
  rintro rfl
  obtain ⟨_, oj, hoj, hall⟩ := mem_ready.1 hr
  have hif := getD_both hi
  unfold reach2 at ht
  rcases Bool.or_eq_true_iff.1 ht with h1 | h1
  · obtain ⟨ot, hot, e, he, hb, hon⟩ := Region.waitsFor_spec h1
    have : oj = ot := Option.some.inj (hoj.symm.trans hot)
    subst this
    have := hall e he hb
    rw [hon, hif] at this; cases this
  · obtain ⟨m, _, h2⟩ := List.any_eq_true.1 h1
    obtain ⟨h3, h4⟩ := Bool.and_eq_true_iff.1 h2
    obtain ⟨ot, hot, e, he, hb, hon⟩ := Region.waitsFor_spec h3
    have : oj = ot := Option.some.inj (hoj.symm.trans hot)
    subst this
    have h5 := hall e he hb
    rw [hon] at h5
    obtain ⟨om, hom, e2, he2, hb2, hon2⟩ := Region.waitsFor_spec h4
    have h6 := h m om hom h5 e2 he2 hb2
    rw [hon2, hif] at h6; cases h6

end

end Go.Proofs.YtmanejniepghlaaGreatDoor
