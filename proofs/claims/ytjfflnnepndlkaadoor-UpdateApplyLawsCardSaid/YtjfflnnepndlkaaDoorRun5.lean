/-
  Texts in one: HostPlain, PinPlain, TabPlain, TabPlain2, UptPlain, UptPlain2, SnapPlain.
-/
import Derived.Test.YtjfflnnepndlkaaDoorRun4
import Derived.Test.YtjfflnnepndlkaaDoorRun1
/-
  Domain names as plain functions: their parts, their order, which are canonical. No program stands in this text.
-/
namespace Go.Proofs.YtjfflnnepndlkaaDoor.Host

/-! ### Parts between dots -/
def split : List UInt8 → List (List UInt8)
  | [] => [[]]
  | x :: l => if x = 46 then [] :: split l else (x :: (split l).headD []) :: (split l).tail
theorem split_nil : split [] = [[]] := rfl
theorem split_dot (l : List UInt8) : split (46 :: l) = [] :: split l := by rw [split, if_pos rfl]
theorem split_cons {x : UInt8} (h : x ≠ 46) (l : List UInt8) : split (x :: l) = (x :: (split l).headD []) :: (split l).tail := by rw [split, if_neg h]
theorem split_ne (l : List UInt8) : split l ≠ [] := by
  cases l with
  | nil => simp [split]
  | cons x l => unfold split; split <;> simp
theorem split_none : ∀ p : List UInt8, (∀ x ∈ p, x ≠ 46) → split p = [p]
  | [], _ => rfl
  | x :: p, h => by
    rw [split_cons (h x List.mem_cons_self), split_none p (fun y hy => h y (List.mem_cons_of_mem _ hy))]; rfl
theorem split_append : ∀ a b : List UInt8, split (a ++ 46 :: b) = split a ++ split b
  | [], b => by rw [List.nil_append, split_dot, split_nil]; rfl
  | x :: a, b => by
    have ih := split_append a b
    rw [List.cons_append]
    by_cases hx : x = 46
    · subst hx; rw [split_dot, split_dot, ih]; rfl
    · rw [split_cons hx, split_cons hx, ih]
      cases hs : split a with
      | nil => exact absurd hs (split_ne a)
      | cons p ps => rfl
theorem split_hit (p t : List UInt8) (h : ∀ x ∈ p, x ≠ 46) : split (p ++ 46 :: t) = p :: split t := by rw [split_append, split_none p h]; rfl
theorem split_snoc (p t : List UInt8) (h : ∀ x ∈ t, x ≠ 46) : split (p ++ 46 :: t) = split p ++ [t] := by rw [split_append, split_none t h]
theorem split_nodot : ∀ (l p : List UInt8), p ∈ split l → ∀ x ∈ p, x ≠ 46
  | [], p, hp, x, hx => by
    rw [split_nil, List.mem_singleton] at hp; subst hp; cases hx
  | y :: l, p, hp, x, hx => by
    by_cases hy : y = 46
    · subst hy
      rw [split_dot] at hp
      rcases List.mem_cons.1 hp with e | e
      · subst e; cases hx
      · exact split_nodot l p e x hx
    · rw [split_cons hy] at hp
      cases hs : split l with
      | nil => exact absurd hs (split_ne l)
      | cons q qs =>
        rw [hs] at hp
        rcases List.mem_cons.1 hp with e | e
        · subst e
          rcases List.mem_cons.1 hx with e | e
          · subst e; exact hy
          · exact split_nodot l q (by rw [hs]; exact List.mem_cons_self) x e
        · exact split_nodot l p (by rw [hs]; exact List.mem_cons_of_mem _ e) x hx
theorem split_len : ∀ l : List UInt8, (split l).length ≤ l.length + 1
  | [] => by simp [split]
  | x :: l => by
    have ih := split_len l
    have hp := List.length_pos_iff.2 (split_ne l)
    by_cases hx : x = 46
    · subst hx; rw [split_dot]; simp only [List.length_cons]; omega
    · rw [split_cons hx]; simp only [List.length_cons, List.length_tail]; omega
theorem split_part_len : ∀ (l p : List UInt8), p ∈ split l → p.length ≤ l.length
  | [], p, hp => by rw [split_nil, List.mem_singleton] at hp; subst hp; simp
  | x :: l, p, hp => by
    by_cases hx : x = 46
    · subst hx
      rw [split_dot] at hp
      rcases List.mem_cons.1 hp with e | e
      · subst e; simp
      · have := split_part_len l p e; simp only [List.length_cons]; omega
    · rw [split_cons hx] at hp
      cases hs : split l with
      | nil => exact absurd hs (split_ne l)
      | cons q qs =>
        rw [hs] at hp
        rcases List.mem_cons.1 hp with e | e
        · have := split_part_len l q (by rw [hs]; exact List.mem_cons_self)
          subst e; simp only [List.headD_cons, List.length_cons]; omega
        · have := split_part_len l p (by rw [hs]; exact List.mem_cons_of_mem _ e); simp only [List.length_cons]; omega

def join : List (List UInt8) → List UInt8
  | [] => []
  | [p] => p
  | p :: q :: r => p ++ 46 :: join (q :: r)
theorem join_cons (p : List UInt8) {r : List (List UInt8)} (h : r ≠ []) : join (p :: r) = p ++ 46 :: join r := by
  cases r with
  | nil => exact absurd rfl h
  | cons q r => rfl
theorem join_append : ∀ (ps qs : List (List UInt8)), ps ≠ [] → qs ≠ [] → join (ps ++ qs) = join ps ++ 46 :: join qs
  | [], qs, h, _ => absurd rfl h
  | [p], qs, _, h => by rw [List.singleton_append, join_cons p h]; rfl
  | p :: q :: r, qs, _, h => by
    have ih := join_append (q :: r) qs (by simp) h
    rw [List.cons_append, join_cons p (by simp), ih, join_cons p (by simp)]; simp
theorem join_split : ∀ l : List UInt8, join (split l) = l
  | [] => rfl
  | x :: l => by
    have ih := join_split l
    by_cases hx : x = 46
    · subst hx; rw [split_dot, join_cons _ (split_ne l), ih]; rfl
    · rw [split_cons hx]
      cases hs : split l with
      | nil => exact absurd hs (split_ne l)
      | cons q qs =>
        rw [hs] at ih
        cases qs with
        | nil => rw [← ih]; rfl
        | cons r rs => rw [← ih]; rfl
theorem split_inj {a b : List UInt8} (h : split a = split b) : a = b := by rw [← join_split a, h, join_split]

/-! ### The order of bytes -/
abbrev lb := Op.bytesLess
theorem lb_irrefl : ∀ x : List UInt8, lb x x = false
  | [] => rfl
  | a :: x => by
    have := lb_irrefl x
    unfold lb at *
    unfold Op.bytesLess
    simp [this]
theorem lb_iff (a : UInt8) (x : List UInt8) (b : UInt8) (y : List UInt8) : lb (a :: x) (b :: y) = true ↔ a.toNat < b.toNat ∨ (a = b ∧ lb x y = true) := by
  unfold lb
  rw [Op.bytesLess]
  simp [UInt8.lt_iff_toNat_lt]
theorem lb_asymm : ∀ x y : List UInt8, lb x y = true → lb y x = false
  | _, [], h => by simp [lb, Op.bytesLess] at h
  | [], b :: y, _ => rfl
  | a :: x, b :: y, h => by
    rw [← Bool.not_eq_true]
    intro h2
    rcases (lb_iff a x b y).1 h with h1 | ⟨e, h1⟩
    · rcases (lb_iff b y a x).1 h2 with h3 | ⟨e, h3⟩
      · omega
      · subst e; omega
    · subst e
      rcases (lb_iff a y a x).1 h2 with h3 | ⟨_, h3⟩
      · omega
      · rw [lb_asymm x y h1] at h3; cases h3
theorem lb_total : ∀ x y : List UInt8, lb x y = false → lb y x = false → x = y
  | [], [], _, _ => rfl
  | [], b :: y, h, _ => by cases h
  | a :: x, [], _, h => by cases h
  | a :: x, b :: y, h, k => by
    have h' := mt (lb_iff a x b y).2 (by simp [h])
    have k' := mt (lb_iff b y a x).2 (by simp [k])
    have e : a = b := by
      apply UInt8.toNat_inj.1
      have : ¬ a.toNat < b.toNat := fun e => h' (.inl e)
      have : ¬ b.toNat < a.toNat := fun e => k' (.inl e)
      omega
    subst e
    rw [lb_total x y (by rw [← Bool.not_eq_true]; exact fun e => h' (.inr ⟨rfl, e⟩)) (by rw [← Bool.not_eq_true]; exact fun e => k' (.inr ⟨rfl, e⟩))]
theorem lb_trans : ∀ x y z : List UInt8, lb x y = true → lb y z = true → lb x z = true
  | _, [], _, h, _ => by simp [lb, Op.bytesLess] at h
  | _, _ :: _, [], _, h => by simp [lb, Op.bytesLess] at h
  | [], b :: y, c :: z, _, _ => rfl
  | a :: x, b :: y, c :: z, h, k => by
    rw [lb_iff] at h k ⊢
    rcases h with h | ⟨rfl, h⟩
    · rcases k with k | ⟨rfl, k⟩
      · exact .inl (by omega)
      · exact .inl h
    · rcases k with k | ⟨rfl, k⟩
      · exact .inl k
      · exact .inr ⟨rfl, lb_trans x y z h k⟩

/-! ### The order of names -/
/-- Of lists of parts, the last part of a name first. -/
def cmpL : List (List UInt8) → List (List UInt8) → Int
  | [], [] => 0
  | [], _ :: _ => -1
  | _ :: _, [] => 1
  | x :: xs, y :: ys => if lb x y then -1 else if lb y x then 1 else cmpL xs ys
def cmp (a b : List UInt8) : Int := cmpL (split a).reverse (split b).reverse

theorem cmpL_rng : ∀ xs ys, cmpL xs ys = -1 ∨ cmpL xs ys = 0 ∨ cmpL xs ys = 1
  | [], [] => .inr (.inl rfl)
  | [], _ :: _ => .inl rfl
  | _ :: _, [] => .inr (.inr rfl)
  | x :: xs, y :: ys => by
    unfold cmpL
    split
    · exact .inl rfl
    · split
      · exact .inr (.inr rfl)
      · exact cmpL_rng xs ys
theorem cmpL_self : ∀ xs, cmpL xs xs = 0
  | [] => rfl
  | x :: xs => by rw [cmpL, if_neg (by simp [lb_irrefl]), if_neg (by simp [lb_irrefl]), cmpL_self xs]
theorem cmpL_eq : ∀ xs ys, cmpL xs ys = 0 → xs = ys
  | [], [], _ => rfl
  | [], _ :: _, h => by cases h
  | _ :: _, [], h => by cases h
  | x :: xs, y :: ys, h => by
    rw [cmpL] at h
    by_cases h1 : lb x y = true
    · rw [if_pos h1] at h; cases h
    · rw [if_neg h1] at h
      by_cases h2 : lb y x = true
      · rw [if_pos h2] at h; cases h
      · rw [if_neg h2] at h
        rw [lb_total x y (by simpa using h1) (by simpa using h2), cmpL_eq xs ys h]
theorem cmpL_neg : ∀ xs ys, cmpL ys xs = - cmpL xs ys
  | [], [] => rfl
  | [], _ :: _ => rfl
  | _ :: _, [] => rfl
  | x :: xs, y :: ys => by
    rw [cmpL, cmpL]
    by_cases h1 : lb x y = true
    · rw [if_pos h1, if_neg (by simp [lb_asymm x y h1]), if_pos h1]; rfl
    · by_cases h2 : lb y x = true
      · rw [if_pos h2, if_neg h1, if_pos h2]
      · rw [if_neg h2, if_neg h1, if_neg h1, if_neg h2, cmpL_neg xs ys]
theorem cmpL_trans : ∀ xs ys zs, cmpL xs ys ≤ 0 → cmpL ys zs ≤ 0 → cmpL xs zs ≤ 0
  | [], _, [], _, _ => by decide
  | [], _, _ :: _, _, _ => by simp [cmpL]
  | _ :: _, [], _, h, _ => by simp [cmpL] at h
  | _ :: _, _ :: _, [], _, h => by simp [cmpL] at h
  | x :: xs, y :: ys, z :: zs, h, k => by
    rw [cmpL] at h k ⊢
    by_cases h1 : lb x y = true
    · by_cases k1 : lb y z = true
      · rw [if_pos (lb_trans x y z h1 k1)]; decide
      · rw [if_neg k1] at k
        by_cases k2 : lb z y = true
        · rw [if_pos k2] at k; exact absurd k (by decide)
        · obtain rfl := lb_total y z (by simpa using k1) (by simpa using k2)
          rw [if_pos h1]; decide
    · rw [if_neg h1] at h
      by_cases h2 : lb y x = true
      · rw [if_pos h2] at h; exact absurd h (by decide)
      · rw [if_neg h2] at h
        obtain rfl := lb_total x y (by simpa using h1) (by simpa using h2)
        by_cases k1 : lb x z = true
        · rw [if_pos k1]; decide
        · rw [if_neg k1] at k ⊢
          by_cases k2 : lb z x = true
          · rw [if_pos k2] at k; exact absurd k (by decide)
          · rw [if_neg k2] at k ⊢
            exact cmpL_trans xs ys zs h k
theorem cmpL_prefix : ∀ xs t, t ≠ [] → cmpL xs (xs ++ t) = -1
  | [], t, h => by
    cases t with
    | nil => exact absurd rfl h
    | cons _ _ => rfl
  | x :: xs, t, h => by
    rw [List.cons_append, cmpL, if_neg (by simp [lb_irrefl]), if_neg (by simp [lb_irrefl]), cmpL_prefix xs t h]
theorem prefix_between : ∀ xs ys t, cmpL xs ys ≤ 0 → cmpL ys (xs ++ t) ≤ 0 → ∃ u, ys = xs ++ u
  | [], ys, _, _, _ => ⟨ys, rfl⟩
  | _ :: _, [], _, h, _ => by simp [cmpL] at h
  | x :: xs, y :: ys, t, h, k => by
    rw [List.cons_append] at k
    rw [cmpL] at h k
    by_cases h1 : lb x y = true
    · rw [if_neg (by simp [lb_asymm x y h1]), if_pos h1] at k; exact absurd k (by decide)
    · rw [if_neg h1] at h k
      by_cases h2 : lb y x = true
      · rw [if_pos h2] at h; exact absurd h (by decide)
      · rw [if_neg h2] at h k
        obtain rfl := lb_total x y (by simpa using h1) (by simpa using h2)
        obtain ⟨u, rfl⟩ := prefix_between xs ys t h k
        exact ⟨u, rfl⟩

theorem cmp_rng (a b : List UInt8) : cmp a b = -1 ∨ cmp a b = 0 ∨ cmp a b = 1 := cmpL_rng _ _
theorem cmp_self (a : List UInt8) : cmp a a = 0 := cmpL_self _
theorem cmp_eq {a b : List UInt8} (h : cmp a b = 0) : a = b := split_inj (List.reverse_inj.1 (cmpL_eq _ _ h))
theorem cmp_neg (a b : List UInt8) : cmp b a = - cmp a b := cmpL_neg _ _
theorem cmp_trans {a b c : List UInt8} (h : cmp a b ≤ 0) (k : cmp b c ≤ 0) : cmp a c ≤ 0 := cmpL_trans _ _ _ h k
theorem cmp_lt_trans {a b c : List UInt8} (h : cmp a b < 0) (k : cmp b c < 0) : cmp a c < 0 := by
  have h1 := cmp_trans (a := a) (b := b) (c := c) (by omega) (by omega)
  rcases cmp_rng a c with e | e | e
  · omega
  · exfalso
    have := cmp_eq e; subst this
    have := cmp_neg a b; omega
  · omega
/-- One step of the comparison, from behind. -/
theorem cmp_both {a b x y : List UInt8} (hx : ∀ c ∈ x, c ≠ 46) (hy : ∀ c ∈ y, c ≠ 46) : cmp (a ++ 46 :: x) (b ++ 46 :: y) = if lb x y then -1 else if lb y x then 1 else cmp a b := by
  unfold cmp
  rw [split_snoc a x hx, split_snoc b y hy, List.reverse_append, List.reverse_append]; rfl
theorem cmp_left {b x y : List UInt8} (hx : ∀ c ∈ x, c ≠ 46) (hy : ∀ c ∈ y, c ≠ 46) : cmp x (b ++ 46 :: y) = if lb x y then -1 else if lb y x then 1 else -1 := by
  unfold cmp
  rw [split_none x hx, split_snoc b y hy, List.reverse_append]
  cases h : (split b).reverse with
  | nil => exact absurd (List.reverse_eq_nil_iff.1 h) (split_ne b)
  | cons _ _ => rfl
theorem cmp_right {a x y : List UInt8} (hx : ∀ c ∈ x, c ≠ 46) (hy : ∀ c ∈ y, c ≠ 46) : cmp (a ++ 46 :: x) y = if lb x y then -1 else if lb y x then 1 else 1 := by
  unfold cmp
  rw [split_none y hy, split_snoc a x hx, List.reverse_append]
  cases h : (split a).reverse with
  | nil => exact absurd (List.reverse_eq_nil_iff.1 h) (split_ne a)
  | cons _ _ => rfl
theorem cmp_none {x y : List UInt8} (hx : ∀ c ∈ x, c ≠ 46) (hy : ∀ c ∈ y, c ≠ 46) : cmp x y = if lb x y then -1 else if lb y x then 1 else 0 := by
  unfold cmp
  rw [split_none x hx, split_none y hy]; rfl

/-! ### Canonical names -/
def decd (x : UInt8) : Bool := decide (48 ≤ x.toNat) && decide (x.toNat ≤ 57)
def hexd (x : UInt8) : Bool := decd x || (decide (97 ≤ x.toNat) && decide (x.toNat ≤ 102)) || (decide (65 ≤ x.toNat) && decide (x.toNat ≤ 70))
def pre (l : List UInt8) : Bool := decide (l.take 2 = [48, 120]) || decide (l.take 2 = [48, 88])
/-- The parts but for an empty last one. -/
def parts (l : List UInt8) : List (List UInt8) := if 1 < (split l).length ∧ (split l).getLastD [] = [] then (split l).dropLast else split l
def last (l : List UInt8) : List UInt8 := (parts l).getLastD []
def num (t : List UInt8) : Bool := if pre t then (t.drop 2).all hexd else t.all decd && !t.isEmpty
def numeric (l : List UInt8) : Bool := num (last l)
def name (l : List UInt8) : Bool := decide (l.length ≤ 253) && (!numeric l && (split l).all Lab.valid)
/-- Whether a name is another one or a superdomain of it. -/
def covers (a c : List UInt8) : Bool := name a && name c && (decide (a = c) || (decide (a.length < c.length) && decide (c.drop (c.length - a.length - 1) = 46 :: a)))

theorem parts_ne (l : List UInt8) : parts l ≠ [] := by
  unfold parts
  split
  · rename_i h; intro e
    have := congrArg List.length e
    rw [List.length_dropLast] at this; simp only [List.length_nil] at this; omega
  · exact split_ne l
theorem parts_len (l : List UInt8) : (parts l).length ≤ l.length + 1 := by
  have := split_len l
  unfold parts
  split
  · rw [List.length_dropLast]; omega
  · exact this
theorem parts_mem {l p : List UInt8} (h : p ∈ parts l) : p ∈ split l := by
  unfold parts at h
  split at h
  · exact (List.dropLast_sublist _).subset h
  · exact h

/-- A name between a domain and a subdomain of it is a subdomain. -/
theorem covers_cmp {a c : List UInt8} (h : covers a c = true) : (a = c ∧ cmp a c = 0) ∨ (a ≠ c ∧ cmp a c = -1) := by
  unfold covers at h
  rw [Bool.and_eq_true] at h
  by_cases e : a = c
  · subst e; exact .inl ⟨rfl, cmp_self a⟩
  · right
    refine ⟨e, ?_⟩
    have h2 := h.2
    simp only [e, decide_false, Bool.false_or, Bool.and_eq_true, decide_eq_true_eq] at h2
    have hc : c = c.take (c.length - a.length - 1) ++ 46 :: a := by rw [← h2.2, List.take_append_drop]
    rw [hc]
    unfold cmp
    rw [split_append, List.reverse_append]
    refine cmpL_prefix _ _ ?_
    intro e2; exact split_ne _ (List.reverse_eq_nil_iff.1 e2)
theorem covers_between {a b c : List UInt8} (h : covers a c = true) (hb : name b = true) (h1 : cmp a b ≤ 0) (h2 : cmp b c ≤ 0) : covers a b = true := by
  have hn : name a = true := by
    unfold covers at h; rw [Bool.and_eq_true, Bool.and_eq_true] at h; exact h.1.1
  obtain ⟨t, ht⟩ : ∃ t, (split c).reverse = (split a).reverse ++ t := by
    unfold covers at h
    rw [Bool.and_eq_true] at h
    by_cases e : a = c
    · subst e; exact ⟨[], by simp⟩
    · have h2 := h.2
      simp only [e, decide_false, Bool.false_or, Bool.and_eq_true, decide_eq_true_eq] at h2
      have hc : c = c.take (c.length - a.length - 1) ++ 46 :: a := by rw [← h2.2, List.take_append_drop]
      refine ⟨(split (c.take (c.length - a.length - 1))).reverse, ?_⟩
      conv => lhs; rw [hc]
      rw [split_append, List.reverse_append]
  unfold cmp at h1 h2
  rw [ht] at h2
  obtain ⟨u, hu⟩ := prefix_between _ _ _ h1 h2
  have hs : split b = u.reverse ++ split a := by
    have := congrArg List.reverse hu
    rw [List.reverse_reverse, List.reverse_append, List.reverse_reverse] at this; exact this
  unfold covers
  rw [hn, hb, Bool.true_and, Bool.true_and]
  by_cases hu0 : u = []
  · subst hu0
    have : b = a := split_inj hs
    simp [this]
  · have hbj : b = join u.reverse ++ 46 :: a := by
      rw [← join_split b, hs, join_append _ _ (by simpa using hu0) (split_ne a), join_split a]
    have hl : b.length = (join u.reverse).length + (a.length + 1) := by rw [hbj]; simp
    have hd : b.drop (b.length - a.length - 1) = 46 :: a := by
      rw [show b.length - a.length - 1 = (join u.reverse).length by omega]
      conv => lhs; rw [hbj]
      rw [List.drop_left]
    rw [hd]
    simp only [decide_true, Bool.and_true, Bool.or_eq_true, decide_eq_true_eq]
    right; omega

end Go.Proofs.YtjfflnnepndlkaaDoor.Host

/-
  Pins as plain functions: which are valid, their encoding. No program stands in this text.
-/
namespace Go.Proofs.YtjfflnnepndlkaaDoor

/-- A pin. -/
structure Pin where
  h : List UInt8
  s : Bool
  x : Int
  deriving DecidableEq

namespace Pin
def none : Pin := ⟨[], false, 0⟩
def valid (p : Pin) : Bool := Host.name p.h && (decide (0 ≤ p.x) && decide (p.x ≤ 1099511627776))
def enc (p : Pin) : List UInt8 := Wire.txt p.h ++ (Wire.enc (if p.s then 1 else 0) ++ Wire.enc p.x.toNat)
/-- The pin behind its host. -/
def decR (t : List UInt8) (n : Nat) (b : List UInt8) : Pin × Nat × Int :=
  if (Wire.dec (b.drop n)).2.2 ≠ 0 then (none, 0, (Wire.dec (b.drop n)).2.2) else if 1 < (Wire.dec (b.drop n)).1 then (none, 0, 6) else
    if (Wire.dec (b.drop (n + (Wire.dec (b.drop n)).2.1))).2.2 ≠ 0 then (none, 0, (Wire.dec (b.drop (n + (Wire.dec (b.drop n)).2.1))).2.2) else
      if 1099511627776 < (Wire.dec (b.drop (n + (Wire.dec (b.drop n)).2.1))).1 then (none, 0, 2) else if Host.name t = false then (none, 0, 14) else
        (⟨t, decide ((Wire.dec (b.drop n)).1 = 1), ((Wire.dec (b.drop (n + (Wire.dec (b.drop n)).2.1))).1 : Int)⟩, n + (Wire.dec (b.drop n)).2.1 + (Wire.dec (b.drop (n + (Wire.dec (b.drop n)).2.1))).2.1, 0)
/-- The pin at the beginning of bytes, how many bytes it has, an error. -/
def dec (b : List UInt8) : Pin × Nat × Int :=
  if (Wire.decT b).2.2 ≠ 0 then (none, 0, (Wire.decT b).2.2) else decR (Wire.decT b).1 (Wire.decT b).2.1 b

theorem valid_iff (p : Pin) : valid p = true ↔ Host.name p.h = true ∧ 0 ≤ p.x ∧ p.x ≤ 1099511627776 := by
  unfold valid; simp
theorem name_len {l : List UInt8} (h : Host.name l = true) : l.length ≤ 253 := by
  unfold Host.name at h; rw [Bool.and_eq_true] at h; simpa using h.1
theorem enc_len {p : Pin} (h : valid p = true) : (enc p).length ≤ 283 ∧ 4 ≤ (enc p).length := by
  obtain ⟨h1, h2, h3⟩ := (valid_iff p).1 h
  have h4 := name_len h1
  have a1 := Wire.enc_len (v := p.h.length) (by omega)
  have a2 := Wire.enc_len (v := if p.s then 1 else 0) (by split <;> omega)
  have a3 := Wire.enc_len (v := p.x.toNat) (by omega)
  have a4 : 1 ≤ p.h.length := by
    rcases Nat.eq_zero_or_pos p.h.length with e | e
    · exfalso
      have e0 := List.eq_nil_of_length_eq_zero e
      rw [e0] at h1
      have : Host.name [] = false := by decide +kernel
      rw [this] at h1; cases h1
    · exact e
  unfold enc Wire.txt
  simp only [List.length_append]
  have a5 : (Wire.enc p.h.length).length ≤ 10 := a1.2
  omega
theorem dec_enc {p : Pin} (h : valid p = true) (t : List UInt8) : dec (enc p ++ t) = (p, (enc p).length, 0) := by
  obtain ⟨h1, h2, h3⟩ := (valid_iff p).1 h
  have h4 := name_len h1
  have e1 : Wire.decT (enc p ++ t) = (p.h, (Wire.txt p.h).length, 0) := by
    unfold enc; rw [List.append_assoc]; exact Wire.decT_txt (by omega) _
  have d1 : (enc p ++ t).drop (Wire.txt p.h).length = Wire.enc (if p.s then 1 else 0) ++ (Wire.enc p.x.toNat ++ t) := by
    unfold enc; rw [List.append_assoc, List.drop_left, List.append_assoc]
  have e2 : Wire.dec (Wire.enc (if p.s then 1 else 0) ++ (Wire.enc p.x.toNat ++ t)) = ((if p.s then 1 else 0), (Wire.enc (if p.s then 1 else 0)).length, 0) := Wire.dec_enc (by split <;> omega) _
  have d2 : (enc p ++ t).drop ((Wire.txt p.h).length + (Wire.enc (if p.s then 1 else 0)).length) = Wire.enc p.x.toNat ++ t := by
    rw [← List.drop_drop, d1, List.drop_left]
  have e3 : Wire.dec (Wire.enc p.x.toNat ++ t) = (p.x.toNat, (Wire.enc p.x.toNat).length, 0) := Wire.dec_enc (by omega) _
  unfold dec
  rw [e1]
  simp only [ne_eq, not_true_eq_false, if_false]
  unfold decR
  rw [d1, e2]
  simp only [ne_eq, not_true_eq_false, if_false]
  rw [d2, e3]
  simp only [not_true_eq_false, if_false]
  rw [if_neg (by split <;> omega), if_neg (by omega), if_neg (by simp [h1])]
  refine Prod.ext ?_ (Prod.ext ?_ rfl)
  · obtain ⟨ph, ps, px⟩ := p
    have e4 : ((px.toNat : Nat) : Int) = px := by simp only at h2; omega
    cases ps <;> simp [e4]
  · simp only [enc, List.length_append]; omega
theorem enc_dec {b : List UInt8} {p : Pin} {n : Nat} (h : dec b = (p, n, 0)) : valid p = true ∧ b.take n = enc p ∧ n ≤ b.length := by
  unfold dec at h
  by_cases c1 : (Wire.decT b).2.2 ≠ 0
  · rw [if_pos c1] at h; injection h with _ h; injection h with _ h; exact absurd h c1
  rw [if_neg c1] at h
  obtain ⟨t, n1, z1, e1⟩ : ∃ t n1 z1, Wire.decT b = (t, n1, z1) := ⟨_, _, _, rfl⟩
  rw [e1] at h c1
  have c1 : z1 = 0 := by simpa using c1
  subst c1
  obtain ⟨f1, f2, f3, f4, f5⟩ := Wire.txt_decT e1
  change decR t n1 b = _ at h
  unfold decR at h
  obtain ⟨v2, n2, z2, e2⟩ : ∃ v2 n2 z2, Wire.dec (b.drop n1) = (v2, n2, z2) := ⟨_, _, _, rfl⟩
  rw [e2] at h
  dsimp only at h
  by_cases c2 : z2 ≠ 0
  · rw [if_pos c2] at h; injection h with _ h; injection h with _ h; exact absurd h c2
  rw [if_neg c2] at h
  obtain rfl : z2 = 0 := by simpa using c2
  obtain ⟨g1, g2, g3, g4, g5⟩ := Wire.enc_dec e2
  by_cases c3 : 1 < v2
  · rw [if_pos c3] at h; cases h
  rw [if_neg c3] at h
  obtain ⟨v3, n3, z3, e3⟩ : ∃ v3 n3 z3, Wire.dec (b.drop (n1 + n2)) = (v3, n3, z3) := ⟨_, _, _, rfl⟩
  rw [e3] at h
  dsimp only at h
  by_cases c4 : z3 ≠ 0
  · rw [if_pos c4] at h; injection h with _ h; injection h with _ h; exact absurd h c4
  rw [if_neg c4] at h
  obtain rfl : z3 = 0 := by simpa using c4
  obtain ⟨k1, k2, k3, k4, k5⟩ := Wire.enc_dec e3
  by_cases c5 : 1099511627776 < v3
  · rw [if_pos c5] at h; cases h
  rw [if_neg c5] at h
  by_cases c6 : Host.name t = false
  · rw [if_pos c6] at h; cases h
  rw [if_neg c6] at h
  injection h with hp h
  injection h with hn _
  subst hp
  subst hn
  have hv2 : (if decide (v2 = 1) = true then 1 else 0) = v2 := by
    rcases Nat.eq_zero_or_pos v2 with e | e
    · subst e; rfl
    · obtain rfl : v2 = 1 := by omega
      rfl
  rw [List.length_drop] at g2 k2
  refine ⟨(valid_iff _).2 ⟨by simpa using c6, by simp, by simp only; omega⟩, ?_, by omega⟩
  rw [Nat.add_assoc, List.take_add, f1, List.take_add, g1, List.drop_drop, k1]
  unfold enc
  simp only [hv2, Int.toNat_natCast]

end Pin
end Go.Proofs.YtjfflnnepndlkaaDoor

/-
  Tables of pins as plain functions: sorted lists. No program stands in this text.
-/
namespace Go.Proofs.YtjfflnnepndlkaaDoor.Tab

/-- Strictly ascending by host. -/
def Asc (L : List Pin) : Prop := L.Pairwise fun a b => Host.cmp a.h b.h < 0
/-- How many pins come before a host. -/
def lo (L : List Pin) (h : List UInt8) : Nat := (L.takeWhile fun p => decide (Host.cmp p.h h < 0)).length
/-- Whether the pin at this place is the host's. -/
def hit (L : List Pin) (h : List UInt8) : Bool := match L[lo L h]? with
  | some p => decide (p.h = h)
  | none => false
def put (L : List Pin) (cap : Int) (p : Pin) : List Pin × Int :=
  if Pin.valid p = false then (L, 1) else if hit L p.h then (L.set (lo L p.h) p, 0) else if (L.length : Int) = cap then (L, 11) else (L.take (lo L p.h) ++ p :: L.drop (lo L p.h), 0)
def remove (L : List Pin) (h : List UInt8) : List Pin × Bool := if hit L h then (L.take (lo L h) ++ L.drop (lo L h + 1), true) else (L, false)
def live (L : List Pin) (now : Int) : List Pin := L.filter fun p => decide (now < p.x)
/-- The check of a list of pins, from the place k on. -/
def chk (L : List Pin) : Nat → Nat → Int
  | 0, _ => 0
  | n + 1, k => match L[k]? with
    | none => 0
    | some p => if Pin.valid p = false then 1 else if 0 < k ∧ 0 ≤ Host.cmp (L.getD (k - 1) Pin.none).h p.h then 8 else chk L n (k + 1)
def load (L : List Pin) (cap : Int) : Int := if cap < 1 ∨ 1000 < cap then 2 else if cap < L.length then 11 else chk L L.length 0

theorem asc_at {L : List Pin} (h : Asc L) {i j : Nat} (hij : i < j) {a b : Pin} (ha : L[i]? = some a) (hb : L[j]? = some b) : Host.cmp a.h b.h < 0 := by
  obtain ⟨h1, rfl⟩ := List.getElem?_eq_some_iff.1 ha
  obtain ⟨h2, rfl⟩ := List.getElem?_eq_some_iff.1 hb
  exact List.pairwise_iff_getElem.1 h i j h1 h2 hij

theorem lo_le (L : List Pin) (h : List UInt8) : lo L h ≤ L.length := (List.takeWhile_sublist _).length_le
theorem lo_before : ∀ (L : List Pin) (h : List UInt8) (k : Nat), k < lo L h → ∃ p, L[k]? = some p ∧ Host.cmp p.h h < 0
  | [], h, k, hk => by simp [lo] at hk
  | p :: L, h, k, hk => by
    by_cases hp : Host.cmp p.h h < 0
    · cases k with
      | zero => exact ⟨p, rfl, hp⟩
      | succ k =>
        have e : lo (p :: L) h = lo L h + 1 := by unfold lo; rw [List.takeWhile_cons_of_pos (by simpa using hp)]; rfl
        rw [e] at hk
        obtain ⟨q, h1, h2⟩ := lo_before L h k (by omega)
        exact ⟨q, by simpa using h1, h2⟩
    · have e : lo (p :: L) h = 0 := by unfold lo; rw [List.takeWhile_cons_of_neg (by simpa using hp)]; rfl
      omega
theorem lo_at : ∀ (L : List Pin) (h : List UInt8) (p : Pin), L[lo L h]? = some p → ¬ Host.cmp p.h h < 0
  | [], h, p, e => by simp [lo] at e
  | q :: L, h, p, e => by
    by_cases hp : Host.cmp q.h h < 0
    · have e2 : lo (q :: L) h = lo L h + 1 := by unfold lo; rw [List.takeWhile_cons_of_pos (by simpa using hp)]; rfl
      rw [e2, List.getElem?_cons_succ] at e
      exact lo_at L h p e
    · have e2 : lo (q :: L) h = 0 := by unfold lo; rw [List.takeWhile_cons_of_neg (by simpa using hp)]; rfl
      rw [e2] at e
      cases e
      exact hp
/-- In a sorted list the pins before the place are those that come before the host. -/
theorem lo_iff {L : List Pin} (hL : Asc L) (h : List UInt8) {k : Nat} {p : Pin} (hk : L[k]? = some p) : Host.cmp p.h h < 0 ↔ k < lo L h := by
  constructor
  · intro hc
    rcases Nat.lt_trichotomy k (lo L h) with e | e | e
    · exact e
    · subst e; exact absurd hc (lo_at L h p hk)
    · have hkl := (List.getElem?_eq_some_iff.1 hk).1
      have hlt : lo L h < L.length := by omega
      have h1 := asc_at hL e (List.getElem?_eq_getElem hlt) hk
      exact absurd (Host.cmp_lt_trans h1 hc) (lo_at L h _ (List.getElem?_eq_getElem hlt))
  · intro hc
    obtain ⟨q, h1, h2⟩ := lo_before L h k hc
    rw [hk] at h1; cases h1; exact h2
/-- The place is the only one that fits. -/
theorem lo_eq {L : List Pin} {h : List UInt8} {k : Nat} (hk : k ≤ L.length) (h1 : ∀ i p, i < k → L[i]? = some p → Host.cmp p.h h < 0) (h2 : ∀ p, L[k]? = some p → ¬ Host.cmp p.h h < 0) : lo L h = k := by
  rcases Nat.lt_trichotomy (lo L h) k with e | e | e
  · have hlt : lo L h < L.length := by omega
    exact absurd (h1 _ _ e (List.getElem?_eq_getElem hlt)) (lo_at L h _ (List.getElem?_eq_getElem hlt))
  · exact e
  · obtain ⟨p, h3, h4⟩ := lo_before L h k e
    exact absurd h4 (h2 p h3)

theorem hit_iff {L : List Pin} (_hL : Asc L) (h : List UInt8) : hit L h = true ↔ ∃ p, L[lo L h]? = some p ∧ p.h = h := by
  unfold hit
  cases e : L[lo L h]? with
  | none => simp
  | some p => simp
/-- A pin of the host stands at the place. -/
theorem place {L : List Pin} (hL : Asc L) {k : Nat} {p : Pin} (hk : L[k]? = some p) : lo L p.h = k := by
  refine lo_eq (Nat.le_of_lt (List.getElem?_eq_some_iff.1 hk).1) (fun i q hi hq => asc_at hL hi hq hk) fun q hq => ?_
  rw [hk] at hq; cases hq
  rw [Host.cmp_self]; omega
theorem hit_mem {L : List Pin} (hL : Asc L) {k : Nat} {p : Pin} (hk : L[k]? = some p) : hit L p.h = true := by
  rw [hit_iff hL, place hL hk]; exact ⟨p, hk, rfl⟩
theorem hit_none {L : List Pin} (hL : Asc L) {h : List UInt8} (hn : hit L h = false) : ∀ p ∈ L, p.h ≠ h := by
  intro p hp e
  obtain ⟨k, hk, rfl⟩ := List.mem_iff_getElem.1 hp
  have := hit_mem hL (List.getElem?_eq_getElem hk)
  rw [e, hn] at this; cases this
theorem cmp_zero_iff (a b : List UInt8) : Host.cmp a b = 0 ↔ a = b := ⟨Host.cmp_eq, fun e => by rw [e, Host.cmp_self]⟩

theorem asc_take {L : List Pin} (h : Asc L) (k : Nat) : Asc (L.take k) := h.sublist (List.take_sublist _ _)
theorem asc_drop {L : List Pin} (h : Asc L) (k : Nat) : Asc (L.drop k) := h.sublist (List.drop_sublist _ _)
theorem asc_remove {L : List Pin} (h : Asc L) (k : Nat) : Asc (L.take k ++ L.drop (k + 1)) := by
  refine h.sublist ?_
  have : L.take k ++ L.drop (k + 1) = L.eraseIdx k := by rw [List.eraseIdx_eq_take_drop_succ]
  rw [this]; exact List.eraseIdx_sublist _ _
theorem asc_live {L : List Pin} (h : Asc L) (now : Int) : Asc (live L now) := h.sublist (List.filter_sublist)
theorem asc_set {L : List Pin} (hL : Asc L) {k : Nat} {p q : Pin} (hk : L[k]? = some q) (hh : q.h = p.h) : Asc (L.set k p) := by
  have hkl := (List.getElem?_eq_some_iff.1 hk).1
  rw [Asc, List.pairwise_iff_getElem]
  intro i j hi hj hij
  rw [List.length_set] at hi hj
  have g : ∀ m (hm : m < L.length), (((L.set k p)[m]'(by rw [List.length_set]; exact hm)).h) = (L[m]).h := by
    intro m hm
    rw [List.getElem_set]
    split
    · rename_i e; subst e
      have := (List.getElem?_eq_some_iff.1 hk).2
      rw [this, hh]
    · rfl
  rw [g i hi, g j hj]
  exact List.pairwise_iff_getElem.1 hL i j hi hj hij
theorem asc_insert {L : List Pin} (hL : Asc L) {p : Pin} (hn : hit L p.h = false) : Asc (L.take (lo L p.h) ++ p :: L.drop (lo L p.h)) := by
  have hlo := lo_le L p.h
  rw [Asc, List.pairwise_append, List.pairwise_cons]
  have key : ∀ x ∈ L.drop (lo L p.h), Host.cmp p.h x.h < 0 := by
    intro x hx
    obtain ⟨j, hj, rfl⟩ := List.mem_iff_getElem.1 hx
    rw [List.length_drop] at hj
    have hg : L[lo L p.h + j]? = some ((L.drop (lo L p.h))[j]'(by rw [List.length_drop]; exact hj)) := by
      rw [List.getElem_drop, List.getElem?_eq_getElem]
    have h1 : ¬ Host.cmp ((L.drop (lo L p.h))[j]'(by rw [List.length_drop]; exact hj)).h p.h < 0 := by
      rw [lo_iff hL p.h hg]; omega
    have h2 := Host.cmp_neg p.h ((L.drop (lo L p.h))[j]'(by rw [List.length_drop]; exact hj)).h
    have h3 : Host.cmp p.h ((L.drop (lo L p.h))[j]'(by rw [List.length_drop]; exact hj)).h ≠ 0 := by
      intro e
      exact hit_none hL hn _ (List.mem_of_getElem? hg) (Host.cmp_eq e).symm
    omega
  refine ⟨asc_take hL _, ⟨key, asc_drop hL _⟩, ?_⟩
  intro a ha b hb
  have ha' : Host.cmp a.h p.h < 0 := by
    obtain ⟨i, hi, rfl⟩ := List.mem_iff_getElem.1 ha
    rw [List.length_take] at hi
    have hg : L[i]? = some ((L.take (lo L p.h))[i]'(by rw [List.length_take]; exact hi)) := by
      rw [List.getElem_take, List.getElem?_eq_getElem]
    rw [lo_iff hL p.h hg]; omega
  rcases List.mem_cons.1 hb with e | e
  · rw [e]; exact ha'
  · exact Host.cmp_lt_trans ha' (key b e)

theorem put_asc {L : List Pin} (hL : Asc L) (cap : Int) (p : Pin) : Asc (put L cap p).1 := by
  unfold put
  split
  · exact hL
  · split
    · rename_i h
      obtain ⟨q, h1, h2⟩ := (hit_iff hL p.h).1 h
      exact asc_set hL h1 h2
    · split
      · exact hL
      · rename_i h _
        exact asc_insert hL (by simpa using h)
theorem remove_asc {L : List Pin} (hL : Asc L) (h : List UInt8) : Asc (remove L h).1 := by
  unfold remove
  split
  · exact asc_remove hL _
  · exact hL
theorem put_len {L : List Pin} {cap : Int} (hc : (L.length : Int) ≤ cap) (p : Pin) : ((put L cap p).1.length : Int) ≤ cap := by
  unfold put
  have hlo := lo_le L p.h
  split
  · exact hc
  · split
    · simpa using hc
    · split
      · exact hc
      · simp only [List.length_append, List.length_take, List.length_cons, List.length_drop]; omega
theorem remove_len (L : List Pin) (h : List UInt8) : (remove L h).1.length ≤ L.length := by
  unfold remove
  split
  · simp only [List.length_append, List.length_take, List.length_drop]; omega
  · exact Nat.le_refl _
theorem live_len (L : List Pin) (now : Int) : (live L now).length ≤ L.length := List.length_filter_le _ _

/-! ### What the check says -/
theorem chk_iff (L : List Pin) : ∀ n k, n + k = L.length → (chk L n k = 0 ↔ (∀ i p, k ≤ i → L[i]? = some p → Pin.valid p = true) ∧ ∀ i p q, k ≤ i + 1 → L[i]? = some p → L[i + 1]? = some q → Host.cmp p.h q.h < 0)
  | 0, k, hk => by
    refine ⟨fun _ => ⟨fun i p hi hp => ?_, fun i p q hi hp hq => ?_⟩, fun _ => rfl⟩
    · have := (List.getElem?_eq_some_iff.1 hp).1; omega
    · have := (List.getElem?_eq_some_iff.1 hq).1; omega
  | n + 1, k, hk => by
    have hkl : k < L.length := by omega
    have hg := List.getElem?_eq_getElem hkl
    have ih := chk_iff L n (k + 1) (by omega)
    rw [chk, hg]
    dsimp only
    by_cases hv : Pin.valid L[k] = false
    · rw [if_pos hv]
      refine ⟨(fun h => by cases h), fun h => ?_⟩
      rw [h.1 k _ (Nat.le_refl _) hg] at hv; cases hv
    · rw [if_neg hv]
      have hv' : Pin.valid L[k] = true := by simpa using hv
      by_cases hc : 0 < k ∧ 0 ≤ Host.cmp (L.getD (k - 1) Pin.none).h L[k].h
      · rw [if_pos hc]
        refine ⟨(fun h => by cases h), fun h => ?_⟩
        have hk1 : k - 1 < L.length := by omega
        have e1 : L.getD (k - 1) Pin.none = L[k - 1] := by rw [List.getD_eq_getElem?_getD, List.getElem?_eq_getElem hk1]; rfl
        have := h.2 (k - 1) _ _ (by omega) (List.getElem?_eq_getElem hk1) (by rw [show k - 1 + 1 = k by omega]; exact hg)
        rw [e1] at hc; omega
      · rw [if_neg hc, ih]
        constructor
        · rintro ⟨h1, h2⟩
          refine ⟨fun i p hi hp => ?_, fun i p q hi hp hq => ?_⟩
          · rcases Nat.eq_or_lt_of_le hi with e | e
            · subst e; rw [hg] at hp; cases hp; exact hv'
            · exact h1 i p e hp
          · rcases Nat.eq_or_lt_of_le hi with e | e
            · subst e
              rw [hg] at hq; cases hq
              have e1 : L.getD i Pin.none = p := by rw [List.getD_eq_getElem?_getD, hp]; rfl
              rw [Nat.add_sub_cancel, e1] at hc
              omega
            · exact h2 i p q (by omega) hp hq
        · rintro ⟨h1, h2⟩
          exact ⟨fun i p hi hp => h1 i p (by omega) hp, fun i p q hi hp hq => h2 i p q (by omega) hp hq⟩
theorem asc_of_next {L : List Pin} (h : ∀ i p q, L[i]? = some p → L[i + 1]? = some q → Host.cmp p.h q.h < 0) : Asc L := by
  rw [Asc, List.pairwise_iff_getElem]
  intro i j hi hj hij
  obtain ⟨d, rfl⟩ : ∃ d, j = i + 1 + d := ⟨j - (i + 1), by omega⟩
  clear hij
  induction d with
  | zero => exact h i _ _ (List.getElem?_eq_getElem hi) (List.getElem?_eq_getElem hj)
  | succ d ih =>
    have hd : i + 1 + d < L.length := by omega
    have h1 := ih hd
    have h2 := h (i + 1 + d) _ _ (List.getElem?_eq_getElem hd) (List.getElem?_eq_getElem (show i + 1 + d + 1 < L.length by omega))
    exact Host.cmp_lt_trans h1 h2
/-- A list is accepted exactly if its pins are valid and in order. -/
theorem chk_zero (L : List Pin) : chk L L.length 0 = 0 ↔ (∀ p ∈ L, Pin.valid p = true) ∧ Asc L := by
  rw [chk_iff L L.length 0 rfl]
  constructor
  · rintro ⟨h1, h2⟩
    refine ⟨fun p hp => ?_, asc_of_next fun i p q hp hq => h2 i p q (by omega) hp hq⟩
    obtain ⟨i, hi, rfl⟩ := List.mem_iff_getElem.1 hp
    exact h1 i _ (by omega) (List.getElem?_eq_getElem hi)
  · rintro ⟨h1, h2⟩
    exact ⟨fun i p _ hp => h1 p (List.mem_of_getElem? hp), fun i p q _ hp hq => asc_at h2 (by omega) hp hq⟩

end Go.Proofs.YtjfflnnepndlkaaDoor.Tab

/-
  Tables of pins as plain functions: the reference's lists, what the operations leave, the order of putting. No program stands in this text.
-/
namespace Go.Proofs.YtjfflnnepndlkaaDoor.Tab

/-! ### The reference's lists -/
def find (L : List Pin) (h : List UInt8) : Nat := (L.takeWhile fun p => decide (p.h ≠ h)).length
def rremove (L : List Pin) (h : List UInt8) : List Pin × Bool := if find L h < L.length then (L.take (find L h) ++ L.drop (find L h + 1), true) else (L, false)
def rput (L : List Pin) (p : Pin) (cap : Int) : List Pin × Int :=
  if Pin.valid p = false then (L, 1) else if (rremove L p.h).2 = false ∧ cap ≤ L.length then (L, 11) else
    ((rremove L p.h).1.take (lo (rremove L p.h).1 p.h) ++ p :: (rremove L p.h).1.drop (lo (rremove L p.h).1 p.h), 0)

theorem find_le (L : List Pin) (h : List UInt8) : find L h ≤ L.length := (List.takeWhile_sublist _).length_le
theorem find_before : ∀ (L : List Pin) (h : List UInt8) (k : Nat), k < find L h → ∃ p, L[k]? = some p ∧ p.h ≠ h
  | [], h, k, hk => by simp [find] at hk
  | p :: L, h, k, hk => by
    by_cases hp : p.h ≠ h
    · cases k with
      | zero => exact ⟨p, rfl, hp⟩
      | succ k =>
        have e : find (p :: L) h = find L h + 1 := by unfold find; rw [List.takeWhile_cons_of_pos (by simpa using hp)]; rfl
        rw [e] at hk
        obtain ⟨q, h1, h2⟩ := find_before L h k (by omega)
        exact ⟨q, by simpa using h1, h2⟩
    · have e : find (p :: L) h = 0 := by unfold find; rw [List.takeWhile_cons_of_neg (by simpa using hp)]; rfl
      omega
theorem find_at : ∀ (L : List Pin) (h : List UInt8) (p : Pin), L[find L h]? = some p → p.h = h
  | [], h, p, e => by simp [find] at e
  | q :: L, h, p, e => by
    by_cases hp : q.h ≠ h
    · have e2 : find (q :: L) h = find L h + 1 := by unfold find; rw [List.takeWhile_cons_of_pos (by simpa using hp)]; rfl
      rw [e2, List.getElem?_cons_succ] at e
      exact find_at L h p e
    · have e2 : find (q :: L) h = 0 := by unfold find; rw [List.takeWhile_cons_of_neg (by simpa using hp)]; rfl
      rw [e2] at e
      cases e
      simpa using hp
theorem find_eq {L : List Pin} {h : List UInt8} {k : Nat} (hk : k ≤ L.length) (h1 : ∀ i p, i < k → L[i]? = some p → p.h ≠ h) (h2 : ∀ p, L[k]? = some p → p.h = h) : find L h = k := by
  rcases Nat.lt_trichotomy (find L h) k with e | e | e
  · have hlt : find L h < L.length := by omega
    exact absurd (find_at L h _ (List.getElem?_eq_getElem hlt)) (h1 _ _ e (List.getElem?_eq_getElem hlt))
  · exact e
  · obtain ⟨p, h3, h4⟩ := find_before L h k e
    exact absurd (h2 p h3) h4
theorem find_hit {L : List Pin} (hL : Asc L) {h : List UInt8} (hh : hit L h = true) : find L h = lo L h := by
  obtain ⟨p, h1, h2⟩ := (hit_iff hL h).1 hh
  refine find_eq (lo_le L h) (fun i q hi hq e => ?_) (fun q hq => ?_)
  · obtain ⟨r, h3, h4⟩ := lo_before L h i hi
    rw [hq] at h3; cases h3
    rw [e, Host.cmp_self] at h4; omega
  · rw [h1] at hq; cases hq; exact h2
theorem find_miss {L : List Pin} (hL : Asc L) {h : List UInt8} (hh : hit L h = false) : find L h = L.length := by
  refine find_eq (Nat.le_refl _) (fun i q _ hq => hit_none hL hh q (List.mem_of_getElem? hq)) (fun q hq => ?_)
  rw [List.getElem?_eq_none (Nat.le_refl _)] at hq; cases hq
theorem lo_lt {L : List Pin} (hL : Asc L) {h : List UInt8} (hh : hit L h = true) : lo L h < L.length := by
  obtain ⟨p, h1, h2⟩ := (hit_iff hL h).1 hh
  exact (List.getElem?_eq_some_iff.1 h1).1

theorem rremove_is {L : List Pin} (hL : Asc L) (h : List UInt8) : rremove L h = remove L h := by
  unfold rremove remove
  cases hh : hit L h with
  | true => rw [find_hit hL hh, if_pos (lo_lt hL hh), if_pos rfl]
  | false => rw [find_miss hL hh, if_neg (by omega), if_neg (by decide)]
theorem lo_removed {L : List Pin} (hL : Asc L) {h : List UInt8} (hh : hit L h = true) : lo (L.take (lo L h) ++ L.drop (lo L h + 1)) h = lo L h := by
  obtain ⟨p, h1, h2⟩ := (hit_iff hL h).1 hh
  have hlt := lo_lt hL hh
  refine lo_eq (by rw [List.length_append, List.length_take, List.length_drop]; omega) (fun i q hi hq => ?_) (fun q hq => ?_)
  · rw [List.getElem?_append_left (by rw [List.length_take]; omega), List.getElem?_take_of_lt hi] at hq
    obtain ⟨r, h3, h4⟩ := lo_before L h i hi
    rw [hq] at h3; cases h3; exact h4
  · rw [List.getElem?_append_right (by rw [List.length_take]; omega), List.length_take, List.getElem?_drop] at hq
    have h3 := asc_at hL (show lo L h < lo L h + 1 + (lo L h - min (lo L h) L.length) by omega) h1 hq
    have h4 := Host.cmp_neg p.h q.h
    rw [h2] at h3 h4
    omega
theorem rput_is {L : List Pin} (hL : Asc L) {cap : Int} (hc : (L.length : Int) ≤ cap) (p : Pin) : rput L p cap = put L cap p := by
  unfold rput put
  by_cases hv : Pin.valid p = false
  · rw [if_pos hv, if_pos hv]
  rw [if_neg hv, if_neg hv, rremove_is hL]
  unfold remove
  cases hh : hit L p.h with
  | true =>
    rw [if_pos rfl, if_neg (by rintro ⟨e, -⟩; cases e), if_pos rfl]
    simp only
    rw [lo_removed hL hh]
    have hlt := lo_lt hL hh
    rw [List.take_left' (by rw [List.length_take]; omega), List.drop_left' (by rw [List.length_take]; omega), List.set_eq_take_append_cons_drop, if_pos hlt]
  | false =>
    have e1 : (if false = true then (L.take (lo L p.h) ++ L.drop (lo L p.h + 1), true) else (L, false)) = (L, false) := if_neg (by decide)
    rw [e1]
    have e2 : ∀ A B : List Pin × Int, (if false = true then A else B) = B := fun A B => if_neg (by decide)
    rw [e2]
    by_cases hf : cap ≤ L.length
    · rw [if_pos ⟨rfl, hf⟩, if_pos (by omega)]
    · rw [if_neg (fun e => hf e.2), if_neg (by omega)]

/-! ### What the operations leave -/
theorem asc_nodup {L : List Pin} (hL : Asc L) {p q : Pin} (hp : p ∈ L) (hq : q ∈ L) (h : p.h = q.h) : p = q := by
  obtain ⟨i, hi, rfl⟩ := List.mem_iff_getElem.1 hp
  obtain ⟨j, hj, rfl⟩ := List.mem_iff_getElem.1 hq
  have e1 := place hL (List.getElem?_eq_getElem hi)
  have e2 := place hL (List.getElem?_eq_getElem hj)
  rw [h, e2] at e1
  subst e1; rfl
theorem remove_mem {L : List Pin} (hL : Asc L) (h : List UInt8) (q : Pin) : q ∈ (remove L h).1 ↔ q ∈ L ∧ q.h ≠ h := by
  unfold remove
  cases hh : hit L h with
  | false =>
    rw [if_neg (by decide)]
    exact ⟨fun hq => ⟨hq, hit_none hL hh q hq⟩, fun hq => hq.1⟩
  | true =>
    rw [if_pos rfl]
    obtain ⟨p, h1, h2⟩ := (hit_iff hL h).1 hh
    simp only
    constructor
    · intro hq
      refine ⟨?_, fun e => ?_⟩
      · rcases List.mem_append.1 hq with m | m
        · exact List.mem_of_mem_take m
        · exact List.mem_of_mem_drop m
      · have hqL : q ∈ L := by
          rcases List.mem_append.1 hq with m | m
          · exact List.mem_of_mem_take m
          · exact List.mem_of_mem_drop m
        have hr := asc_remove hL (lo L h)
        obtain ⟨i, hi, rfl⟩ := List.mem_iff_getElem.1 hq
        have e3 := place hr (List.getElem?_eq_getElem hi)
        rw [e, lo_removed hL hh] at e3
        have hg := List.getElem?_eq_getElem hi
        generalize (L.take (lo L h) ++ L.drop (lo L h + 1))[i] = x at *
        subst e3
        rw [List.getElem?_append_right (by rw [List.length_take]; omega), List.length_take, List.getElem?_drop] at hg
        have h4 := asc_at hL (show lo L h < lo L h + 1 + (lo L h - min (lo L h) L.length) by omega) h1 hg
        rw [h2, e, Host.cmp_self] at h4
        omega
    · rintro ⟨hq, hne⟩
      obtain ⟨i, hi, rfl⟩ := List.mem_iff_getElem.1 hq
      rcases Nat.lt_trichotomy i (lo L h) with e | e | e
      · exact List.mem_append_left _ (List.mem_iff_getElem.2 ⟨i, by rw [List.length_take]; omega, by rw [List.getElem_take]⟩)
      · subst e
        rw [List.getElem?_eq_getElem hi] at h1; cases h1
        exact absurd h2 hne
      · refine List.mem_append_right _ (List.mem_iff_getElem.2 ⟨i - (lo L h + 1), by rw [List.length_drop]; omega, ?_⟩)
        rw [List.getElem_drop]
        congr 1; omega
theorem put_mem {L : List Pin} (hL : Asc L) {cap : Int} {p : Pin} (hv : Pin.valid p = true) (hc : (put L cap p).2 = 0) (q : Pin) : q ∈ (put L cap p).1 ↔ q = p ∨ (q ∈ L ∧ q.h ≠ p.h) := by
  unfold put at hc ⊢
  rw [if_neg (by simp [hv])] at hc ⊢
  have hlo := lo_le L p.h
  cases hh : hit L p.h with
  | true =>
    have hlt := lo_lt hL hh
    have hr := remove_mem hL p.h q
    unfold remove at hr
    rw [hh, if_pos rfl] at hr
    rw [if_pos rfl]
    simp only at hr ⊢
    rw [List.set_eq_take_append_cons_drop, if_pos hlt, List.mem_append, List.mem_cons]
    rw [List.mem_append] at hr
    rw [← hr]
    constructor
    · rintro (m | m | m)
      · exact .inr (.inl m)
      · exact .inl m
      · exact .inr (.inr m)
    · rintro (m | m | m)
      · exact .inr (.inl m)
      · exact .inl m
      · exact .inr (.inr m)
  | false =>
    rw [hh, if_neg (by decide)] at hc
    rw [if_neg (by decide)]
    by_cases hf : (L.length : Int) = cap
    · rw [if_pos hf] at hc; cases hc
    rw [if_neg hf]
    simp only
    rw [List.mem_append, List.mem_cons]
    have hsp : q ∈ L ↔ q ∈ L.take (lo L p.h) ∨ q ∈ L.drop (lo L p.h) := by rw [← List.mem_append, List.take_append_drop]
    have hne : q ∈ L → q.h ≠ p.h := hit_none hL hh q
    constructor
    · rintro (m | m | m)
      · exact .inr ⟨hsp.2 (.inl m), hne (hsp.2 (.inl m))⟩
      · exact .inl m
      · exact .inr ⟨hsp.2 (.inr m), hne (hsp.2 (.inr m))⟩
    · rintro (m | ⟨m, -⟩)
      · exact .inr (.inl m)
      · rcases hsp.1 m with m | m
        · exact .inl m
        · exact .inr (.inr m)
/-- Lists in order with the same pins are equal. -/
theorem asc_ext : ∀ (A B : List Pin), Asc A → Asc B → (∀ q, q ∈ A ↔ q ∈ B) → A = B
  | [], [], _, _, _ => rfl
  | [], b :: B, _, _, h => by have := (h b).2 List.mem_cons_self; cases this
  | a :: A, [], _, _, h => by have := (h a).1 List.mem_cons_self; cases this
  | a :: A, b :: B, hA, hB, h => by
    have hA' := List.pairwise_cons.1 hA
    have hB' := List.pairwise_cons.1 hB
    have e : a = b := by
      rcases List.mem_cons.1 ((h a).1 List.mem_cons_self) with e | e
      · exact e
      · rcases List.mem_cons.1 ((h b).2 List.mem_cons_self) with e2 | e2
        · exact e2.symm
        · have h1 := hB'.1 a e
          have h2 := hA'.1 b e2
          have := Host.cmp_neg a.h b.h
          omega
    subst e
    have hne : ∀ x ∈ A, x ≠ a := fun x hx e => by
      have := hA'.1 x hx
      rw [e, Host.cmp_self] at this; omega
    have hne2 : ∀ x ∈ B, x ≠ a := fun x hx e => by
      have := hB'.1 x hx
      rw [e, Host.cmp_self] at this; omega
    rw [asc_ext A B hA'.2 hB'.2 fun q => ?_]
    constructor
    · intro hq
      rcases List.mem_cons.1 ((h q).1 (List.mem_cons_of_mem _ hq)) with e | e
      · exact absurd e (hne q hq)
      · exact e
    · intro hq
      rcases List.mem_cons.1 ((h q).2 (List.mem_cons_of_mem _ hq)) with e | e
      · exact absurd e (hne2 q hq)
      · exact e

/-! ### Putting one pin after the other -/
def puts (cap : Int) (L : List Pin) (l : List Pin) : List Pin := l.foldl (fun A p => (put A cap p).1) L
theorem puts_snoc (cap : Int) (L l : List Pin) (p : Pin) : puts cap L (l ++ [p]) = (put (puts cap L l) cap p).1 := by
  unfold puts; rw [List.foldl_append]; rfl
theorem puts_asc (cap : Int) : ∀ (l : List Pin) {L : List Pin}, Asc L → Asc (puts cap L l)
  | [], _, h => h
  | p :: l, _, h => puts_asc cap l (put_asc h cap p)
theorem put_grow (L : List Pin) (cap : Int) (p : Pin) : (put L cap p).1.length ≤ L.length + 1 := by
  unfold put
  have hlo := lo_le L p.h
  split
  · exact Nat.le_succ _
  · split
    · simp
    · split
      · exact Nat.le_succ _
      · simp only [List.length_append, List.length_take, List.length_cons, List.length_drop]; omega
theorem puts_mem {cap : Int} : ∀ (l : List Pin) (L : List Pin), Asc L → (L.length + l.length : Int) < cap → l.Pairwise (fun a b => a.h ≠ b.h) → (∀ p ∈ l, ∀ q ∈ L, q.h ≠ p.h) → ∀ q, q ∈ puts cap L l ↔ q ∈ L ∨ (q ∈ l ∧ Pin.valid q = true)
  | [], L, _, _, _, _, q => by simp [puts]
  | p :: l, L, hL, hc, hd, hdis, q => by
    have hd' := List.pairwise_cons.1 hd
    simp only [List.length_cons] at hc
    have hg := put_grow L cap p
    by_cases hv : Pin.valid p = true
    · have hz : (put L cap p).2 = 0 := by
        unfold put
        rw [if_neg (by simp [hv])]
        split
        · rfl
        · rw [if_neg (by omega)]
      have hm := put_mem hL hv hz
      have hdis2 : ∀ p' ∈ l, ∀ q ∈ (put L cap p).1, q.h ≠ p'.h := by
        intro p' hp' q hq
        rcases (hm q).1 hq with e | e
        · subst e; exact hd'.1 p' hp'
        · exact hdis p' (List.mem_cons_of_mem _ hp') q e.1
      have ih := puts_mem (cap := cap) l (put L cap p).1 (put_asc hL cap p) (by omega) hd'.2 hdis2 q
      have e0 : puts cap L (p :: l) = puts cap (put L cap p).1 l := rfl
      rw [e0, ih, hm q, List.mem_cons]
      constructor
      · rintro ((rfl | ⟨m, -⟩) | ⟨m, m2⟩)
        · exact .inr ⟨.inl rfl, hv⟩
        · exact .inl m
        · exact .inr ⟨.inr m, m2⟩
      · rintro (m | ⟨rfl | m, m2⟩)
        · exact .inl (.inr ⟨m, hdis p List.mem_cons_self q m⟩)
        · exact .inl (.inl rfl)
        · exact .inr ⟨m, m2⟩
    · have e1 : (put L cap p).1 = L := by unfold put; rw [if_pos (by simpa using hv)]
      have e0 : puts cap L (p :: l) = puts cap (put L cap p).1 l := rfl
      rw [e0, e1, puts_mem l L hL (by omega) hd'.2 (fun p' hp' => hdis p' (List.mem_cons_of_mem _ hp')) q, List.mem_cons]
      constructor
      · rintro (m | ⟨m, m2⟩)
        · exact .inl m
        · exact .inr ⟨.inr m, m2⟩
      · rintro (m | ⟨rfl | m, m2⟩)
        · exact .inl m
        · exact absurd m2 hv
        · exact .inr ⟨m, m2⟩
/-- The order of putting does not matter. -/
theorem puts_perm {cap : Int} {l k : List Pin} (hp : ∀ q, q ∈ l ↔ q ∈ k) (hl : l.Pairwise (fun a b => a.h ≠ b.h)) (hk : k.Pairwise (fun a b => a.h ≠ b.h)) (h1 : (l.length : Int) < cap) (h2 : (k.length : Int) < cap) : puts cap [] l = puts cap [] k := by
  have hn : Asc [] := List.Pairwise.nil
  refine asc_ext _ _ (puts_asc cap l hn) (puts_asc cap k hn) fun q => ?_
  rw [puts_mem l [] hn (by simpa using h1) hl (fun _ _ q hq => by cases hq) q, puts_mem k [] hn (by simpa using h2) hk (fun _ _ q hq => by cases hq) q, hp q]

end Go.Proofs.YtjfflnnepndlkaaDoor.Tab

/-
  Updates and states as plain functions. No program stands in this text.
-/
namespace Go.Proofs.YtjfflnnepndlkaaDoor

/-- An update: 1 put, 2 remove. -/
structure UpdV where
  k : Int
  p : Pin
  deriving DecidableEq
namespace Upt
def none : UpdV := ⟨0, Pin.none⟩
def valid (u : UpdV) : Bool := if u.k = 1 then Pin.valid u.p else if u.k = 2 then Host.name u.p.h && decide (u.p.s = false ∧ u.p.x = 0) else false
def enc (u : UpdV) : List UInt8 := if u.k = 2 then 2 :: Wire.txt u.p.h else 1 :: Pin.enc u.p
def dec1 (t : List UInt8) : UpdV × Int := if (Pin.dec t).2.2 ≠ 0 then (none, (Pin.dec t).2.2) else if (Pin.dec t).2.1 < t.length then (none, 6) else (⟨1, (Pin.dec t).1⟩, 0)
def dec2 (t : List UInt8) : UpdV × Int := if (Wire.decT t).2.2 ≠ 0 then (none, (Wire.decT t).2.2) else if (Wire.decT t).2.1 < t.length then (none, 6) else if Host.name (Wire.decT t).1 = false then (none, 14) else (⟨2, ⟨(Wire.decT t).1, false, 0⟩⟩, 0)
def dec (b : List UInt8) : UpdV × Int := match b with
  | [] => (none, 5)
  | x :: t => if x = 1 then dec1 t else if x = 2 then dec2 t else (none, 6)

theorem valid_cases {u : UpdV} (h : valid u = true) : (u.k = 1 ∧ Pin.valid u.p = true) ∨ (u.k = 2 ∧ Host.name u.p.h = true ∧ u.p = ⟨u.p.h, false, 0⟩) := by
  unfold valid at h
  split at h
  · rename_i h1; exact .inl ⟨h1, h⟩
  · split at h
    · rename_i h2
      rw [Bool.and_eq_true, decide_eq_true_eq] at h
      refine .inr ⟨h2, h.1, ?_⟩
      obtain ⟨-, h3, h4⟩ := h
      cases hp : u.p with
      | mk a b c => rw [hp] at h3 h4; simp only at h3 h4; rw [h3, h4]
    · cases h
theorem dec_enc {u : UpdV} (h : valid u = true) : dec (enc u) = (u, 0) := by
  obtain ⟨k, p⟩ := u
  rcases valid_cases h with ⟨h1, h2⟩ | ⟨h1, h2, h3⟩
  · simp only at h1 h2
    subst h1
    have e : enc ⟨1, p⟩ = 1 :: Pin.enc p := by unfold enc; rw [if_neg (by simp)]
    have hd := Pin.dec_enc h2 []
    rw [List.append_nil] at hd
    rw [e]; unfold dec; dsimp only
    rw [if_pos rfl]
    unfold dec1
    rw [hd]
    rw [if_neg (by simp), if_neg (by simp)]
  · simp only at h1 h2 h3
    subst h1
    have e : enc ⟨2, p⟩ = 2 :: Wire.txt p.h := by unfold enc; rw [if_pos rfl]
    have hl := Pin.name_len h2
    have hd := Wire.decT_txt (s := p.h) (by omega) []
    rw [List.append_nil] at hd
    rw [e]; unfold dec; dsimp only
    rw [if_neg (by decide), if_pos rfl]
    unfold dec2
    rw [hd]
    rw [if_neg (by simp), if_neg (by simp), if_neg (by rw [h2]; decide)]
    rw [← h3]
theorem enc_dec {b : List UInt8} {u : UpdV} (h : dec b = (u, 0)) : valid u = true ∧ enc u = b := by
  unfold dec at h
  cases b with
  | nil => cases h
  | cons x t =>
    dsimp only at h
    split at h
    · rename_i hx
      unfold dec1 at h
      split at h
      · rename_i h0; exact absurd (Prod.mk.inj h).2 h0
      · rename_i h0
        split at h
        · cases h
        · rename_i h1
          cases h
          have h0' : (Pin.dec t).2.2 = 0 := by simpa using h0
          obtain ⟨e1, e2, e3⟩ := Pin.enc_dec (b := t) (p := (Pin.dec t).1) (n := (Pin.dec t).2.1) (by rw [← h0'])
          refine ⟨by unfold valid; rw [if_pos rfl]; exact e1, ?_⟩
          unfold enc; rw [if_neg (by simp)]
          rw [hx]; dsimp only
          rw [← e2, List.take_of_length_le (by omega)]
    · split at h
      · rename_i hx
        unfold dec2 at h
        split at h
        · rename_i h0; exact absurd (Prod.mk.inj h).2 h0
        · rename_i h0
          split at h
          · cases h
          · rename_i h1
            split at h
            · cases h
            · rename_i h2
              cases h
              have h0' : (Wire.decT t).2.2 = 0 := by simpa using h0
              obtain ⟨e2, e3, -⟩ := Wire.txt_decT (b := t) (s := (Wire.decT t).1) (n := (Wire.decT t).2.1) (by rw [← h0'])
              refine ⟨by unfold valid; rw [if_neg (by simp), if_pos rfl]; simpa using h2, ?_⟩
              unfold enc; rw [if_pos rfl, hx]; dsimp only
              rw [← e2, List.take_of_length_le (by omega)]
      · cases h

/-! ### States -/
def stValid (c : Int) (L : List Pin) : Bool := decide (0 ≤ c ∧ c ≤ 1099511627776 ∧ L.length ≤ 1000 ∧ Tab.chk L L.length 0 = 0)
theorem stValid_iff (c : Int) (L : List Pin) : stValid c L = true ↔ 0 ≤ c ∧ c ≤ 1099511627776 ∧ L.length ≤ 1000 ∧ (∀ p ∈ L, Pin.valid p = true) ∧ Tab.Asc L := by
  unfold stValid; rw [decide_eq_true_eq, Tab.chk_zero]
/-- The pin goes in, or replaces the one of its host. -/
def ins (L : List Pin) (p : Pin) : List Pin := if Tab.hit L p.h then L.set (Tab.lo L p.h) p else L.take (Tab.lo L p.h) ++ p :: L.drop (Tab.lo L p.h)
theorem ins_put {L : List Pin} {p : Pin} (hv : Pin.valid p = true) : Tab.put L (L.length + 1) p = (ins L p, 0) := by
  unfold Tab.put ins
  rw [if_neg (by simp [hv])]
  split
  · rfl
  · rw [if_neg (by omega)]
def upd (L : List Pin) (u : UpdV) : List Pin := if u.k = 2 then (Tab.remove L u.p.h).1 else ins L u.p
/-- What Apply answers: the pins and the error. -/
def apply (c : Int) (L : List Pin) (u : UpdV) (cap : Int) : List Pin × Int :=
  if stValid c L = false ∨ valid u = false then ([], 1) else if u.k = 2 then (upd L u, 0) else if Tab.hit L u.p.h = true then (upd L u, 0) else if min cap 1000 ≤ (L.length : Int) then ([], 11) else (upd L u, 0)

theorem upd_mem {L : List Pin} (hL : Tab.Asc L) {u : UpdV} (hu : valid u = true) (q : Pin) : q ∈ upd L u ↔ (u.k = 1 ∧ q = u.p) ∨ (q ∈ L ∧ q.h ≠ u.p.h) := by
  unfold upd
  rcases valid_cases hu with ⟨h1, h2⟩ | ⟨h1, h2, h3⟩
  · rw [if_neg (by omega)]
    have := Tab.put_mem hL (cap := L.length + 1) h2 (by rw [ins_put h2]) q
    rw [ins_put h2] at this
    rw [this]
    constructor
    · rintro (e | e)
      · exact .inl ⟨h1, e⟩
      · exact .inr e
    · rintro (⟨-, e⟩ | e)
      · exact .inl e
      · exact .inr e
  · rw [if_pos h1, Tab.remove_mem hL]
    constructor
    · exact fun e => .inr e
    · rintro (⟨e, -⟩ | e)
      · omega
      · exact e
theorem upd_asc {L : List Pin} (hL : Tab.Asc L) {u : UpdV} (hu : valid u = true) : Tab.Asc (upd L u) := by
  unfold upd
  rcases valid_cases hu with ⟨h1, h2⟩ | ⟨h1, -, -⟩
  · rw [if_neg (by omega)]
    have := Tab.put_asc hL (L.length + 1) u.p
    rwa [ins_put h2] at this
  · rw [if_pos h1]; exact Tab.remove_asc hL _
theorem upd_good {L : List Pin} (hL : Tab.Asc L) {u : UpdV} (hu : valid u = true) (hg : ∀ p ∈ L, Pin.valid p = true) : ∀ p ∈ upd L u, Pin.valid p = true := by
  intro p hp
  rcases (upd_mem hL hu p).1 hp with ⟨h1, rfl⟩ | ⟨h, -⟩
  · rcases valid_cases hu with ⟨-, h2⟩ | ⟨h2, -, -⟩
    · exact h2
    · omega
  · exact hg p h
theorem upd_len (L : List Pin) {u : UpdV} (hu : valid u = true) : (upd L u).length ≤ L.length + 1 ∧ (Tab.hit L u.p.h = true → (upd L u).length ≤ L.length) ∧ (u.k = 2 → (upd L u).length ≤ L.length) := by
  unfold upd
  rcases valid_cases hu with ⟨h1, h2⟩ | ⟨h1, -, -⟩
  · rw [if_neg (by omega)]
    refine ⟨?_, fun h => ?_, fun h => by omega⟩
    · have := Tab.put_grow L (L.length + 1) u.p
      rwa [ins_put h2] at this
    · unfold ins; rw [h, if_pos rfl]; simp
  · rw [if_pos h1]
    have := Tab.remove_len L u.p.h
    exact ⟨by omega, fun _ => this, fun _ => this⟩
theorem upd_twice {L : List Pin} (hL : Tab.Asc L) {u : UpdV} (hu : valid u = true) : upd (upd L u) u = upd L u := by
  have h1 := upd_asc hL hu
  refine Tab.asc_ext _ _ (upd_asc h1 hu) h1 fun q => ?_
  rw [upd_mem h1 hu, upd_mem hL hu]
  constructor
  · rintro (e | ⟨e | e, -⟩)
    · exact .inl e
    · exact .inl e
    · exact .inr e
  · rintro (e | e)
    · exact .inl e
    · exact .inr ⟨.inr e, e.2⟩
theorem upd_comm {L : List Pin} (hL : Tab.Asc L) {u v : UpdV} (hu : valid u = true) (hv : valid v = true) (hne : u.p.h ≠ v.p.h) : upd (upd L u) v = upd (upd L v) u := by
  have h1 := upd_asc hL hu
  have h2 := upd_asc hL hv
  refine Tab.asc_ext _ _ (upd_asc h1 hv) (upd_asc h2 hu) fun q => ?_
  rw [upd_mem h1 hv, upd_mem hL hu, upd_mem h2 hu, upd_mem hL hv]
  constructor
  · rintro (⟨e1, rfl⟩ | ⟨⟨e1, rfl⟩ | ⟨e1, e2⟩, e3⟩)
    · exact .inr ⟨.inl ⟨e1, rfl⟩, fun e => hne e.symm⟩
    · exact .inl ⟨e1, rfl⟩
    · exact .inr ⟨.inr ⟨e1, e3⟩, e2⟩
  · rintro (⟨e1, rfl⟩ | ⟨⟨e1, rfl⟩ | ⟨e1, e2⟩, e3⟩)
    · exact .inr ⟨.inl ⟨e1, rfl⟩, hne⟩
    · exact .inl ⟨e1, rfl⟩
    · exact .inr ⟨.inr ⟨e1, e3⟩, e2⟩
/-- A pin of another host stays. -/
theorem upd_other {L : List Pin} (hL : Tab.Asc L) {u : UpdV} (hu : valid u = true) {q : Pin} (hq : q ∈ L) (hne : q.h ≠ u.p.h) : q ∈ upd L u := (upd_mem hL hu q).2 (.inr ⟨hq, hne⟩)

end Upt
end Go.Proofs.YtjfflnnepndlkaaDoor

/-
  What the reference's Apply computes; what Apply does to a state. No program stands in this text.
-/
namespace Go.Proofs.YtjfflnnepndlkaaDoor

theorem Tab.rput_any {L : List Pin} (hL : Tab.Asc L) (cap : Int) {p : Pin} (hv : Pin.valid p = true) :
    Tab.rput L p cap = if Tab.hit L p.h = true then (Upt.ins L p, 0) else if cap ≤ (L.length : Int) then (L, 11) else (Upt.ins L p, 0) := by
  unfold Tab.rput Upt.ins
  rw [if_neg (by rw [hv]; decide), Tab.rremove_is hL]
  unfold Tab.remove
  cases hh : Tab.hit L p.h with
  | true =>
    rw [if_pos rfl, if_neg (by rintro ⟨e, -⟩; cases e), if_pos rfl]
    simp only
    rw [Tab.lo_removed hL hh]
    have hlt := Tab.lo_lt hL hh
    rw [List.take_left' (by rw [List.length_take]; omega), List.drop_left' (by rw [List.length_take]; omega), List.set_eq_take_append_cons_drop, if_pos hlt]
    try rfl
  | false =>
    have e1 : (if false = true then (L.take (Tab.lo L p.h) ++ L.drop (Tab.lo L p.h + 1), true) else (L, false)) = (L, false) := if_neg (by decide)
    rw [e1]
    have e2 : ∀ A B : List Pin × Int, (if false = true then A else B) = B := fun A B => if_neg (by decide)
    rw [e2]
    by_cases hf : cap ≤ L.length
    · rw [if_pos ⟨rfl, hf⟩, if_pos hf]
    · rw [if_neg (fun e => hf e.2), if_neg hf, if_neg (by decide)]

namespace Upt
theorem apply_bad {c : Int} {L : List Pin} {u : UpdV} {cap : Int} (h : stValid c L = false ∨ valid u = false) : apply c L u cap = ([], 1) := by unfold apply; rw [if_pos h]
theorem apply_rem {c : Int} {L : List Pin} {u : UpdV} {cap : Int} (h1 : stValid c L = true) (h2 : valid u = true) (hk : u.k = 2) : apply c L u cap = ((Tab.remove L u.p.h).1, 0) := by
  unfold apply upd; rw [if_neg (by rw [h1, h2]; decide), if_pos hk, if_pos hk]
theorem apply_hit {c : Int} {L : List Pin} {u : UpdV} {cap : Int} (h1 : stValid c L = true) (h2 : valid u = true) (hk : u.k = 1) (hh : Tab.hit L u.p.h = true) : apply c L u cap = (L.set (Tab.lo L u.p.h) u.p, 0) := by
  unfold apply upd ins; rw [if_neg (by rw [h1, h2]; decide), if_neg (by omega), if_pos hh, if_neg (by omega), if_pos hh]
theorem apply_full {c : Int} {L : List Pin} {u : UpdV} {cap : Int} (h1 : stValid c L = true) (h2 : valid u = true) (hk : u.k = 1) (hh : Tab.hit L u.p.h = false) (hf : min cap 1000 ≤ (L.length : Int)) : apply c L u cap = ([], 11) := by
  unfold apply; rw [if_neg (by rw [h1, h2]; decide), if_neg (by omega), if_neg (by rw [hh]; decide), if_pos hf]
theorem apply_ins {c : Int} {L : List Pin} {u : UpdV} {cap : Int} (h1 : stValid c L = true) (h2 : valid u = true) (hk : u.k = 1) (hh : Tab.hit L u.p.h = false) (hf : ¬ min cap 1000 ≤ (L.length : Int)) :
    apply c L u cap = (L.take (Tab.lo L u.p.h) ++ u.p :: L.drop (Tab.lo L u.p.h), 0) := by
  unfold apply upd ins; rw [if_neg (by rw [h1, h2]; decide), if_neg (by omega), if_neg (by rw [hh]; decide), if_neg hf, if_neg (by omega), if_neg (by rw [hh]; decide)]
theorem kind_of {u : UpdV} (h : valid u = true) : u.k = 1 ∨ u.k = 2 := by
  rcases valid_cases h with ⟨h1, -⟩ | ⟨h1, -, -⟩
  · exact .inl h1
  · exact .inr h1
theorem host_len {u : UpdV} (h : valid u = true) : u.p.h.length ≤ 253 := by
  rcases valid_cases h with ⟨-, h2⟩ | ⟨-, h2, -⟩
  · exact Pin.name_len ((Pin.valid_iff _).1 h2).1
  · exact Pin.name_len h2
theorem hosts_len {c : Int} {L : List Pin} (h : stValid c L = true) : ∀ p ∈ L, p.h.length ≤ 253 := fun p hp =>
  Pin.name_len ((Pin.valid_iff _).1 (((stValid_iff c L).1 h).2.2.2.1 p hp)).1
/-- The clock of what Apply returns. -/
def ack (c z : Int) : Int := if z = 0 then c else 0
theorem apply_err (c : Int) (L : List Pin) (u : UpdV) (cap : Int) (h : (apply c L u cap).2 ≠ 0) : (apply c L u cap).1 = [] := by
  revert h; unfold apply
  split
  · exact fun _ => rfl
  · split
    · exact fun h => absurd rfl h
    · split
      · exact fun h => absurd rfl h
      · split
        · exact fun _ => rfl
        · exact fun h => absurd rfl h
theorem apply_ok {c : Int} {L : List Pin} {u : UpdV} {cap : Int} (h : (apply c L u cap).2 = 0) : stValid c L = true ∧ valid u = true ∧ (apply c L u cap).1 = upd L u := by
  revert h; unfold apply
  split
  · exact fun h => absurd h (by decide)
  · rename_i h0
    have h1 : stValid c L = true := by cases e : stValid c L with | true => rfl | false => exact absurd (.inl e) h0
    have h2 : valid u = true := by cases e : valid u with | true => rfl | false => exact absurd (.inr e) h0
    split
    · exact fun _ => ⟨h1, h2, rfl⟩
    · split
      · exact fun _ => ⟨h1, h2, rfl⟩
      · split
        · exact fun h => absurd h (by decide)
        · exact fun _ => ⟨h1, h2, rfl⟩
/-- With room for one more pin Apply does not refuse. -/
theorem apply_room {c : Int} {L : List Pin} {u : UpdV} {cap : Int} (h1 : stValid c L = true) (h2 : valid u = true) (hr : (L.length : Int) < min cap 1000) : apply c L u cap = (upd L u, 0) := by
  unfold apply; rw [if_neg (by rw [h1, h2]; decide)]
  split
  · rfl
  · split
    · rfl
    · rw [if_neg (by omega)]
theorem upd_state {c : Int} {L : List Pin} {u : UpdV} (h1 : stValid c L = true) (h2 : valid u = true) (hl : (upd L u).length ≤ 1000) : stValid c (upd L u) = true := by
  obtain ⟨a1, a2, a3, a4, a5⟩ := (stValid_iff c L).1 h1
  exact (stValid_iff c _).2 ⟨a1, a2, hl, upd_good a5 h2 a4, upd_asc a5 h2⟩
end Upt
end Go.Proofs.YtjfflnnepndlkaaDoor

/-
  Snapshots as plain functions. No program stands in this text.
-/
namespace Go.Proofs.YtjfflnnepndlkaaDoor
namespace Snap

def enc (c : Int) (L : List Pin) : List UInt8 := Wire.enc c.toNat ++ (Wire.enc L.length ++ L.flatMap Pin.enc)
def size (c : Int) (L : List Pin) : Nat := if Upt.stValid c L = true then (enc c L).length else 0
/-- n pins from the place k on, behind those of acc. -/
def pins (b : List UInt8) : Nat → Nat → List Pin → List Pin × Nat × Int
  | 0, k, acc => (acc, k, 0)
  | n + 1, k, acc => if (Pin.dec (b.drop k)).2.2 ≠ 0 then ([], 0, (Pin.dec (b.drop k)).2.2) else pins b n (k + (Pin.dec (b.drop k)).2.1) (acc ++ [(Pin.dec (b.drop k)).1])
/-- Behind the two numbers: the clock c, the count m, the place k. -/
def decR (b : List UInt8) (c m k : Nat) : (Int × List Pin) × Int :=
  if 1000 < m then ((0, []), 3) else if (pins b m k []).2.2 ≠ 0 then ((0, []), (pins b m k []).2.2) else if (pins b m k []).2.1 < b.length then ((0, []), 6) else if 1099511627776 < c then ((0, []), 2) else
    if Upt.stValid c (pins b m k []).1 = false then ((0, []), 8) else ((c, (pins b m k []).1), 0)
def dec (b : List UInt8) : (Int × List Pin) × Int :=
  if (Wire.dec b).2.2 ≠ 0 then ((0, []), (Wire.dec b).2.2) else if (Wire.dec (b.drop (Wire.dec b).2.1)).2.2 ≠ 0 then ((0, []), (Wire.dec (b.drop (Wire.dec b).2.1)).2.2) else
    decR b (Wire.dec b).1 (Wire.dec (b.drop (Wire.dec b).2.1)).1 ((Wire.dec b).2.1 + (Wire.dec (b.drop (Wire.dec b).2.1)).2.1)

theorem pins_enc : ∀ (L : List Pin) (b : List UInt8) (k : Nat) (acc : List Pin) (t : List UInt8), (∀ p ∈ L, Pin.valid p = true) → b.drop k = L.flatMap Pin.enc ++ t → pins b L.length k acc = (acc ++ L, k + (L.flatMap Pin.enc).length, 0)
  | [], b, k, acc, t, _, _ => by simp [pins]
  | p :: L, b, k, acc, t, hv, hb => by
    have hd := Pin.dec_enc (hv p List.mem_cons_self) (L.flatMap Pin.enc ++ t)
    rw [List.flatMap_cons, List.append_assoc] at hb
    rw [← hb] at hd
    simp only [List.length_cons, pins]
    rw [hd, if_neg (by simp)]
    have hb2 : b.drop (k + (Pin.enc p).length) = L.flatMap Pin.enc ++ t := by
      rw [← List.drop_drop, hb, List.drop_left]
    rw [pins_enc L b _ (acc ++ [p]) t (fun q hq => hv q (List.mem_cons_of_mem _ hq)) hb2]
    simp only [List.flatMap_cons, List.length_append, List.append_assoc, List.singleton_append, Prod.mk.injEq, and_true, true_and]
    omega
theorem pins_dec : ∀ (n : Nat) (b : List UInt8) (k : Nat) (acc R : List Pin) (m : Nat), k ≤ b.length → pins b n k acc = (R, m, 0) → ∃ L, R = acc ++ L ∧ L.length = n ∧ (∀ p ∈ L, Pin.valid p = true) ∧ m ≤ b.length ∧ k ≤ m ∧ (b.drop k).take (m - k) = L.flatMap Pin.enc
  | 0, b, k, acc, R, m, hk, h => by
    simp only [pins, Prod.mk.injEq, and_true] at h
    obtain ⟨rfl, rfl⟩ := h
    exact ⟨[], by simp, rfl, by simp, hk, Nat.le_refl _, by simp⟩
  | n + 1, b, k, acc, R, m, hk, h => by
    simp only [pins] at h
    split at h
    · rename_i h0; exact absurd (Prod.mk.inj (Prod.mk.inj h).2).2 h0
    · rename_i h0
      have h0' : (Pin.dec (b.drop k)).2.2 = 0 := by simpa using h0
      obtain ⟨e1, e2, e3⟩ := Pin.enc_dec (b := b.drop k) (p := (Pin.dec (b.drop k)).1) (n := (Pin.dec (b.drop k)).2.1) (by rw [← h0'])
      rw [List.length_drop] at e3
      obtain ⟨L, g1, g2, g3, g4, g5, g6⟩ := pins_dec n b _ _ R m (by omega) h
      refine ⟨(Pin.dec (b.drop k)).1 :: L, by rw [g1]; simp, by simp [g2], fun p hp => ?_, g4, by omega, ?_⟩
      · rcases List.mem_cons.1 hp with rfl | hp
        · exact e1
        · exact g3 p hp
      · rw [List.flatMap_cons, ← e2, ← g6]
        have e4 : m - k = (Pin.dec (b.drop k)).2.1 + (m - (k + (Pin.dec (b.drop k)).2.1)) := by omega
        rw [e4, List.take_add, List.drop_drop]

theorem dec_enc {c : Int} {L : List Pin} (h : Upt.stValid c L = true) : dec (enc c L) = ((c, L), 0) := by
  obtain ⟨h1, h2, h3, h4, h5⟩ := (Upt.stValid_iff c L).1 h
  have d1 := Wire.dec_enc (v := c.toNat) (by omega) (Wire.enc L.length ++ L.flatMap Pin.enc)
  have d2 := Wire.dec_enc (v := L.length) (by omega) (L.flatMap Pin.enc)
  have e1 : (enc c L).drop (Wire.enc c.toNat).length = Wire.enc L.length ++ L.flatMap Pin.enc := by unfold enc; rw [List.drop_left]
  have e2 : (enc c L).drop ((Wire.enc c.toNat).length + (Wire.enc L.length).length) = L.flatMap Pin.enc ++ [] := by rw [← List.drop_drop, e1, List.drop_left, List.append_nil]
  have hp := pins_enc L (enc c L) _ [] [] h4 e2
  have hl : (enc c L).length = (Wire.enc c.toNat).length + (Wire.enc L.length).length + (L.flatMap Pin.enc).length := by unfold enc; simp only [List.length_append]; omega
  unfold dec
  rw [show Wire.dec (enc c L) = (c.toNat, (Wire.enc c.toNat).length, 0) from d1]
  dsimp only
  rw [e1, d2, if_neg (by simp), if_neg (by simp)]
  unfold decR
  dsimp only
  rw [hp, if_neg (by omega), if_neg (by simp)]
  dsimp only
  rw [if_neg (by omega), if_neg (by omega), List.nil_append]
  have hc : ((c.toNat : Nat) : Int) = c := by omega
  rw [hc, if_neg (by rw [h]; decide)]
theorem enc_dec {b : List UInt8} {c : Int} {L : List Pin} (h : dec b = ((c, L), 0)) : Upt.stValid c L = true ∧ enc c L = b := by
  unfold dec at h
  split at h
  · rename_i h0; exact absurd (Prod.mk.inj h).2 h0
  rename_i h0
  split at h
  · rename_i h1; exact absurd (Prod.mk.inj h).2 h1
  rename_i h1
  unfold decR at h
  split at h
  · cases h
  rename_i h2
  split at h
  · rename_i h3; exact absurd (Prod.mk.inj h).2 h3
  rename_i h3
  split at h
  · cases h
  rename_i h4
  split at h
  · cases h
  split at h
  · cases h
  rename_i h6
  have h0' : (Wire.dec b).2.2 = 0 := by simpa using h0
  have h1' : (Wire.dec (b.drop (Wire.dec b).2.1)).2.2 = 0 := by simpa using h1
  have h3' : (pins b (Wire.dec (b.drop (Wire.dec b).2.1)).1 ((Wire.dec b).2.1 + (Wire.dec (b.drop (Wire.dec b).2.1)).2.1) []).2.2 = 0 := by simpa using h3
  obtain ⟨a1, a2, a3, a4, a5⟩ := Wire.enc_dec (b := b) (v := (Wire.dec b).1) (n := (Wire.dec b).2.1) (by rw [← h0'])
  obtain ⟨b1, b2, b3, b4, b5⟩ := Wire.enc_dec (b := b.drop (Wire.dec b).2.1) (v := (Wire.dec (b.drop (Wire.dec b).2.1)).1) (n := (Wire.dec (b.drop (Wire.dec b).2.1)).2.1) (by rw [← h1'])
  rw [List.length_drop] at b2
  generalize Wire.dec b = r1 at *
  obtain ⟨v1, n1, z1⟩ := r1
  dsimp only at *
  generalize Wire.dec (b.drop n1) = r2 at *
  obtain ⟨v2, n2, z2⟩ := r2
  dsimp only at *
  obtain ⟨M, g1, g2, g3, g4, g5, g6⟩ := pins_dec v2 b (n1 + n2) [] (pins b v2 (n1 + n2) []).1 (pins b v2 (n1 + n2) []).2.1 (by omega) (by rw [← h3'])
  rw [List.nil_append] at g1
  generalize pins b v2 (n1 + n2) [] = r3 at *
  obtain ⟨R, m, z3⟩ := r3
  dsimp only at *
  obtain ⟨h7, h8⟩ := Prod.mk.inj (Prod.mk.inj h).1
  subst g1
  subst h8
  refine ⟨by rw [← h7]; simpa using h6, ?_⟩
  unfold enc
  rw [← h7, Int.toNat_natCast, ← a1, g2, ← b1, ← g6]
  have e1 : m = b.length := by omega
  rw [e1, ← List.drop_drop, List.take_of_length_le (l := (b.drop n1).drop n2) (by simp only [List.length_drop]; omega), List.take_append_drop, List.take_append_drop]

theorem pin_len {p : Pin} (h : Pin.valid p = true) : 1 ≤ (Pin.enc p).length ∧ (Pin.enc p).length ≤ 262 := by
  obtain ⟨h1, h2, h3⟩ := (Pin.valid_iff p).1 h
  have h4 := Pin.name_len h1
  have l1 := Wire.enc_len_bound 1 p.h.length (by omega)
  have l2 := Wire.enc_len_bound 0 (if p.s then 1 else 0) (by split <;> omega)
  have l3 := Wire.enc_len_bound 5 p.x.toNat (by omega)
  unfold Pin.enc Wire.txt
  simp only [List.length_append]
  omega
theorem flat_len : ∀ (L : List Pin), (∀ p ∈ L, Pin.valid p = true) → L.length ≤ (L.flatMap Pin.enc).length ∧ (L.flatMap Pin.enc).length ≤ L.length * 262
  | [], _ => by simp
  | p :: L, h => by
    have h1 := pin_len (h p List.mem_cons_self)
    have h2 := flat_len L (fun q hq => h q (List.mem_cons_of_mem _ hq))
    simp only [List.flatMap_cons, List.length_append, List.length_cons]
    omega
theorem enc_mono {m n : Nat} (h : m ≤ n) : (Wire.enc m).length ≤ (Wire.enc n).length := by
  induction n using Nat.strongRecOn generalizing m with
  | _ n ih =>
    by_cases hn : n < 128
    · rw [Wire.enc_last hn, Wire.enc_last (show m < 128 by omega)]; exact Nat.le_refl _
    · rw [Wire.enc_step hn]
      by_cases hm : m < 128
      · rw [Wire.enc_last hm]; simp
      · rw [Wire.enc_step hm]
        have := @ih (n / 128) (by omega) (m / 128) (by omega)
        simp only [List.length_cons]; omega
/-- The size's bounds; fewer pins need fewer bytes. -/
theorem bound {c : Int} {L : List Pin} (h : Upt.stValid c L = true) : (enc c L).length ≤ 8 + L.length * 262 ∧ 2 ≤ (enc c L).length := by
  obtain ⟨h1, h2, h3, h4, h5⟩ := (Upt.stValid_iff c L).1 h
  have l1 := Wire.enc_len_bound 5 c.toNat (by omega)
  have l2 := Wire.enc_len_bound 1 L.length (by omega)
  have l3 := flat_len L h4
  unfold enc
  simp only [List.length_append]
  omega
theorem valid_take {c : Int} {L : List Pin} (h : Upt.stValid c L = true) (k : Nat) : Upt.stValid c (L.take k) = true := by
  obtain ⟨h1, h2, h3, h4, h5⟩ := (Upt.stValid_iff c L).1 h
  exact (Upt.stValid_iff c _).2 ⟨h1, h2, by rw [List.length_take]; omega, fun p hp => h4 p (List.mem_of_mem_take hp), Tab.asc_take h5 k⟩
theorem take_len {c : Int} {L : List Pin} (h : Upt.stValid c L = true) {k : Nat} (hk : k ≤ L.length) : (enc c (L.take k)).length ≤ (enc c L).length ∧ ((enc c (L.take k)).length = (enc c L).length ↔ k = L.length) := by
  obtain ⟨h1, h2, h3, h4, h5⟩ := (Upt.stValid_iff c L).1 h
  have hf : (L.flatMap Pin.enc).length = ((L.take k).flatMap Pin.enc).length + ((L.drop k).flatMap Pin.enc).length := by
    rw [← List.length_append, ← List.flatMap_append, List.take_append_drop]
  have hd := flat_len (L.drop k) (fun p hp => h4 p (List.mem_of_mem_drop hp))
  have hm := enc_mono (show (L.take k).length ≤ L.length by rw [List.length_take]; omega)
  have hl : (L.take k).length = k := by rw [List.length_take]; omega
  rw [List.length_drop] at hd
  unfold enc
  simp only [List.length_append]
  refine ⟨by omega, fun e => by omega, fun e => ?_⟩
  subst e
  rw [List.take_of_length_le (Nat.le_refl _)]

end Snap
end Go.Proofs.YtjfflnnepndlkaaDoor
