/-
  Domain names as plain functions: their parts, their order, which are canonical. No program stands in this text.
-/
import Derived.Test.YtcmeajaakdaeeaaDoorRun4
import Derived.Test.YtcmeajaakdaeeaaDoorRun5
namespace Go.Proofs.YtcmeajaakdaeeaaDoor.Host

/-! ### Parts between dots -/
def split : List UInt8 → List (List UInt8)
  | [] => [[]]
  | x :: l => if x = 46 then [] :: split l else (x :: (split l).headD []) :: (split l).tail
theorem split_nil : split [] = [[]] := rfl
theorem split_dot (l : List UInt8) : split (46 :: l) = [] :: split l := by rw [split, if_pos rfl]
theorem split_cons {x : UInt8} (h : x ≠ 46) (l : List UInt8) : split (x :: l) = (x :: (split l).headD []) :: (split l).tail := by rw [split, if_neg h]
theorem split_ne (l : List UInt8) : split l ≠ [] := by
  cases l with
  | nil => simp [split]
  | cons x l => unfold split; split <;> simp
theorem split_none : ∀ p : List UInt8, (∀ x ∈ p, x ≠ 46) → split p = [p]
  | [], _ => rfl
  | x :: p, h => by
    rw [split_cons (h x List.mem_cons_self), split_none p (fun y hy => h y (List.mem_cons_of_mem _ hy))]; rfl
theorem split_append : ∀ a b : List UInt8, split (a ++ 46 :: b) = split a ++ split b
  | [], b => by rw [List.nil_append, split_dot, split_nil]; rfl
  | x :: a, b => by
    have ih := split_append a b
    rw [List.cons_append]
    by_cases hx : x = 46
    · subst hx; rw [split_dot, split_dot, ih]; rfl
    · rw [split_cons hx, split_cons hx, ih]
      cases hs : split a with
      | nil => exact absurd hs (split_ne a)
      | cons p ps => rfl
theorem split_hit (p t : List UInt8) (h : ∀ x ∈ p, x ≠ 46) : split (p ++ 46 :: t) = p :: split t := by rw [split_append, split_none p h]; rfl
theorem split_snoc (p t : List UInt8) (h : ∀ x ∈ t, x ≠ 46) : split (p ++ 46 :: t) = split p ++ [t] := by rw [split_append, split_none t h]
theorem split_nodot : ∀ (l p : List UInt8), p ∈ split l → ∀ x ∈ p, x ≠ 46
  | [], p, hp, x, hx => by
    rw [split_nil, List.mem_singleton] at hp; subst hp; cases hx
  | y :: l, p, hp, x, hx => by
    by_cases hy : y = 46
    · subst hy
      rw [split_dot] at hp
      rcases List.mem_cons.1 hp with e | e
      · subst e; cases hx
      · exact split_nodot l p e x hx
    · rw [split_cons hy] at hp
      cases hs : split l with
      | nil => exact absurd hs (split_ne l)
      | cons q qs =>
        rw [hs] at hp
        rcases List.mem_cons.1 hp with e | e
        · subst e
          rcases List.mem_cons.1 hx with e | e
          · subst e; exact hy
          · exact split_nodot l q (by rw [hs]; exact List.mem_cons_self) x e
        · exact split_nodot l p (by rw [hs]; exact List.mem_cons_of_mem _ e) x hx
theorem split_len : ∀ l : List UInt8, (split l).length ≤ l.length + 1
  | [] => by simp [split]
  | x :: l => by
    have ih := split_len l
    have hp := List.length_pos_iff.2 (split_ne l)
    by_cases hx : x = 46
    · subst hx; rw [split_dot]; simp only [List.length_cons]; omega
    · rw [split_cons hx]; simp only [List.length_cons, List.length_tail]; omega
theorem split_part_len : ∀ (l p : List UInt8), p ∈ split l → p.length ≤ l.length
  | [], p, hp => by rw [split_nil, List.mem_singleton] at hp; subst hp; simp
  | x :: l, p, hp => by
    by_cases hx : x = 46
    · subst hx
      rw [split_dot] at hp
      rcases List.mem_cons.1 hp with e | e
      · subst e; simp
      · have := split_part_len l p e; simp only [List.length_cons]; omega
    · rw [split_cons hx] at hp
      cases hs : split l with
      | nil => exact absurd hs (split_ne l)
      | cons q qs =>
        rw [hs] at hp
        rcases List.mem_cons.1 hp with e | e
        · have := split_part_len l q (by rw [hs]; exact List.mem_cons_self)
          subst e; simp only [List.headD_cons, List.length_cons]; omega
        · have := split_part_len l p (by rw [hs]; exact List.mem_cons_of_mem _ e); simp only [List.length_cons]; omega

def join : List (List UInt8) → List UInt8
  | [] => []
  | [p] => p
  | p :: q :: r => p ++ 46 :: join (q :: r)
theorem join_cons (p : List UInt8) {r : List (List UInt8)} (h : r ≠ []) : join (p :: r) = p ++ 46 :: join r := by
  cases r with
  | nil => exact absurd rfl h
  | cons q r => rfl
theorem join_append : ∀ (ps qs : List (List UInt8)), ps ≠ [] → qs ≠ [] → join (ps ++ qs) = join ps ++ 46 :: join qs
  | [], qs, h, _ => absurd rfl h
  | [p], qs, _, h => by rw [List.singleton_append, join_cons p h]; rfl
  | p :: q :: r, qs, _, h => by
    have ih := join_append (q :: r) qs (by simp) h
    rw [List.cons_append, join_cons p (by simp), ih, join_cons p (by simp)]; simp
theorem join_split : ∀ l : List UInt8, join (split l) = l
  | [] => rfl
  | x :: l => by
    have ih := join_split l
    by_cases hx : x = 46
    · subst hx; rw [split_dot, join_cons _ (split_ne l), ih]; rfl
    · rw [split_cons hx]
      cases hs : split l with
      | nil => exact absurd hs (split_ne l)
      | cons q qs =>
        rw [hs] at ih
        cases qs with
        | nil => rw [← ih]; rfl
        | cons r rs => rw [← ih]; rfl
theorem split_inj {a b : List UInt8} (h : split a = split b) : a = b := by rw [← join_split a, h, join_split]

/-! ### The order of bytes -/
abbrev lb := Op.bytesLess
theorem lb_irrefl : ∀ x : List UInt8, lb x x = false
  | [] => rfl
  | a :: x => by
    have := lb_irrefl x
    unfold lb at *
    unfold Op.bytesLess
    simp [this]
theorem lb_iff (a : UInt8) (x : List UInt8) (b : UInt8) (y : List UInt8) : lb (a :: x) (b :: y) = true ↔ a.toNat < b.toNat ∨ (a = b ∧ lb x y = true) := by
  unfold lb
  rw [Op.bytesLess]
  simp [UInt8.lt_iff_toNat_lt]
theorem lb_asymm : ∀ x y : List UInt8, lb x y = true → lb y x = false
  | _, [], h => by simp [lb, Op.bytesLess] at h
  | [], b :: y, _ => rfl
  | a :: x, b :: y, h => by
    rw [← Bool.not_eq_true]
    intro h2
    rcases (lb_iff a x b y).1 h with h1 | ⟨e, h1⟩
    · rcases (lb_iff b y a x).1 h2 with h3 | ⟨e, h3⟩
      · omega
      · subst e; omega
    · subst e
      rcases (lb_iff a y a x).1 h2 with h3 | ⟨_, h3⟩
      · omega
      · rw [lb_asymm x y h1] at h3; cases h3
theorem lb_total : ∀ x y : List UInt8, lb x y = false → lb y x = false → x = y
  | [], [], _, _ => rfl
  | [], b :: y, h, _ => by cases h
  | a :: x, [], _, h => by cases h
  | a :: x, b :: y, h, k => by
    have h' := mt (lb_iff a x b y).2 (by simp [h])
    have k' := mt (lb_iff b y a x).2 (by simp [k])
    have e : a = b := by
      apply UInt8.toNat_inj.1
      have : ¬ a.toNat < b.toNat := fun e => h' (.inl e)
      have : ¬ b.toNat < a.toNat := fun e => k' (.inl e)
      omega
    subst e
    rw [lb_total x y (by rw [← Bool.not_eq_true]; exact fun e => h' (.inr ⟨rfl, e⟩)) (by rw [← Bool.not_eq_true]; exact fun e => k' (.inr ⟨rfl, e⟩))]
theorem lb_trans : ∀ x y z : List UInt8, lb x y = true → lb y z = true → lb x z = true
  | _, [], _, h, _ => by simp [lb, Op.bytesLess] at h
  | _, _ :: _, [], _, h => by simp [lb, Op.bytesLess] at h
  | [], b :: y, c :: z, _, _ => rfl
  | a :: x, b :: y, c :: z, h, k => by
    rw [lb_iff] at h k ⊢
    rcases h with h | ⟨rfl, h⟩
    · rcases k with k | ⟨rfl, k⟩
      · exact .inl (by omega)
      · exact .inl h
    · rcases k with k | ⟨rfl, k⟩
      · exact .inl k
      · exact .inr ⟨rfl, lb_trans x y z h k⟩

/-! ### The order of names -/
/-- Of lists of parts, the last part of a name first. -/
def cmpL : List (List UInt8) → List (List UInt8) → Int
  | [], [] => 0
  | [], _ :: _ => -1
  | _ :: _, [] => 1
  | x :: xs, y :: ys => if lb x y then -1 else if lb y x then 1 else cmpL xs ys
def cmp (a b : List UInt8) : Int := cmpL (split a).reverse (split b).reverse

theorem cmpL_rng : ∀ xs ys, cmpL xs ys = -1 ∨ cmpL xs ys = 0 ∨ cmpL xs ys = 1
  | [], [] => .inr (.inl rfl)
  | [], _ :: _ => .inl rfl
  | _ :: _, [] => .inr (.inr rfl)
  | x :: xs, y :: ys => by
    unfold cmpL
    split
    · exact .inl rfl
    · split
      · exact .inr (.inr rfl)
      · exact cmpL_rng xs ys
theorem cmpL_self : ∀ xs, cmpL xs xs = 0
  | [] => rfl
  | x :: xs => by rw [cmpL, if_neg (by simp [lb_irrefl]), if_neg (by simp [lb_irrefl]), cmpL_self xs]
theorem cmpL_eq : ∀ xs ys, cmpL xs ys = 0 → xs = ys
  | [], [], _ => rfl
  | [], _ :: _, h => by cases h
  | _ :: _, [], h => by cases h
  | x :: xs, y :: ys, h => by
    rw [cmpL] at h
    by_cases h1 : lb x y = true
    · rw [if_pos h1] at h; cases h
    · rw [if_neg h1] at h
      by_cases h2 : lb y x = true
      · rw [if_pos h2] at h; cases h
      · rw [if_neg h2] at h
        rw [lb_total x y (by simpa using h1) (by simpa using h2), cmpL_eq xs ys h]
theorem cmpL_neg : ∀ xs ys, cmpL ys xs = - cmpL xs ys
  | [], [] => rfl
  | [], _ :: _ => rfl
  | _ :: _, [] => rfl
  | x :: xs, y :: ys => by
    rw [cmpL, cmpL]
    by_cases h1 : lb x y = true
    · rw [if_pos h1, if_neg (by simp [lb_asymm x y h1]), if_pos h1]; rfl
    · by_cases h2 : lb y x = true
      · rw [if_pos h2, if_neg h1, if_pos h2]
      · rw [if_neg h2, if_neg h1, if_neg h1, if_neg h2, cmpL_neg xs ys]
theorem cmpL_trans : ∀ xs ys zs, cmpL xs ys ≤ 0 → cmpL ys zs ≤ 0 → cmpL xs zs ≤ 0
  | [], _, [], _, _ => by decide
  | [], _, _ :: _, _, _ => by simp [cmpL]
  | _ :: _, [], _, h, _ => by simp [cmpL] at h
  | _ :: _, _ :: _, [], _, h => by simp [cmpL] at h
  | x :: xs, y :: ys, z :: zs, h, k => by
    rw [cmpL] at h k ⊢
    by_cases h1 : lb x y = true
    · by_cases k1 : lb y z = true
      · rw [if_pos (lb_trans x y z h1 k1)]; decide
      · rw [if_neg k1] at k
        by_cases k2 : lb z y = true
        · rw [if_pos k2] at k; exact absurd k (by decide)
        · obtain rfl := lb_total y z (by simpa using k1) (by simpa using k2)
          rw [if_pos h1]; decide
    · rw [if_neg h1] at h
      by_cases h2 : lb y x = true
      · rw [if_pos h2] at h; exact absurd h (by decide)
      · rw [if_neg h2] at h
        obtain rfl := lb_total x y (by simpa using h1) (by simpa using h2)
        by_cases k1 : lb x z = true
        · rw [if_pos k1]; decide
        · rw [if_neg k1] at k ⊢
          by_cases k2 : lb z x = true
          · rw [if_pos k2] at k; exact absurd k (by decide)
          · rw [if_neg k2] at k ⊢
            exact cmpL_trans xs ys zs h k
theorem cmpL_prefix : ∀ xs t, t ≠ [] → cmpL xs (xs ++ t) = -1
  | [], t, h => by
    cases t with
    | nil => exact absurd rfl h
    | cons _ _ => rfl
  | x :: xs, t, h => by
    rw [List.cons_append, cmpL, if_neg (by simp [lb_irrefl]), if_neg (by simp [lb_irrefl]), cmpL_prefix xs t h]
theorem prefix_between : ∀ xs ys t, cmpL xs ys ≤ 0 → cmpL ys (xs ++ t) ≤ 0 → ∃ u, ys = xs ++ u
  | [], ys, _, _, _ => ⟨ys, rfl⟩
  | _ :: _, [], _, h, _ => by simp [cmpL] at h
  | x :: xs, y :: ys, t, h, k => by
    rw [List.cons_append] at k
    rw [cmpL] at h k
    by_cases h1 : lb x y = true
    · rw [if_neg (by simp [lb_asymm x y h1]), if_pos h1] at k; exact absurd k (by decide)
    · rw [if_neg h1] at h k
      by_cases h2 : lb y x = true
      · rw [if_pos h2] at h; exact absurd h (by decide)
      · rw [if_neg h2] at h k
        obtain rfl := lb_total x y (by simpa using h1) (by simpa using h2)
        obtain ⟨u, rfl⟩ := prefix_between xs ys t h k
        exact ⟨u, rfl⟩

theorem cmp_rng (a b : List UInt8) : cmp a b = -1 ∨ cmp a b = 0 ∨ cmp a b = 1 := cmpL_rng _ _
theorem cmp_self (a : List UInt8) : cmp a a = 0 := cmpL_self _
theorem cmp_eq {a b : List UInt8} (h : cmp a b = 0) : a = b := split_inj (List.reverse_inj.1 (cmpL_eq _ _ h))
theorem cmp_neg (a b : List UInt8) : cmp b a = - cmp a b := cmpL_neg _ _
theorem cmp_trans {a b c : List UInt8} (h : cmp a b ≤ 0) (k : cmp b c ≤ 0) : cmp a c ≤ 0 := cmpL_trans _ _ _ h k
theorem cmp_lt_trans {a b c : List UInt8} (h : cmp a b < 0) (k : cmp b c < 0) : cmp a c < 0 := by
  have h1 := cmp_trans (a := a) (b := b) (c := c) (by omega) (by omega)
  rcases cmp_rng a c with e | e | e
  · omega
  · exfalso
    have := cmp_eq e; subst this
    have := cmp_neg a b; omega
  · omega
/-- One step of the comparison, from behind. -/
theorem cmp_both {a b x y : List UInt8} (hx : ∀ c ∈ x, c ≠ 46) (hy : ∀ c ∈ y, c ≠ 46) : cmp (a ++ 46 :: x) (b ++ 46 :: y) = if lb x y then -1 else if lb y x then 1 else cmp a b := by
  unfold cmp
  rw [split_snoc a x hx, split_snoc b y hy, List.reverse_append, List.reverse_append]; rfl
theorem cmp_left {b x y : List UInt8} (hx : ∀ c ∈ x, c ≠ 46) (hy : ∀ c ∈ y, c ≠ 46) : cmp x (b ++ 46 :: y) = if lb x y then -1 else if lb y x then 1 else -1 := by
  unfold cmp
  rw [split_none x hx, split_snoc b y hy, List.reverse_append]
  cases h : (split b).reverse with
  | nil => exact absurd (List.reverse_eq_nil_iff.1 h) (split_ne b)
  | cons _ _ => rfl
theorem cmp_right {a x y : List UInt8} (hx : ∀ c ∈ x, c ≠ 46) (hy : ∀ c ∈ y, c ≠ 46) : cmp (a ++ 46 :: x) y = if lb x y then -1 else if lb y x then 1 else 1 := by
  unfold cmp
  rw [split_none y hy, split_snoc a x hx, List.reverse_append]
  cases h : (split a).reverse with
  | nil => exact absurd (List.reverse_eq_nil_iff.1 h) (split_ne a)
  | cons _ _ => rfl
theorem cmp_none {x y : List UInt8} (hx : ∀ c ∈ x, c ≠ 46) (hy : ∀ c ∈ y, c ≠ 46) : cmp x y = if lb x y then -1 else if lb y x then 1 else 0 := by
  unfold cmp
  rw [split_none x hx, split_none y hy]; rfl

/-! ### Canonical names -/
def decd (x : UInt8) : Bool := decide (48 ≤ x.toNat) && decide (x.toNat ≤ 57)
def hexd (x : UInt8) : Bool := decd x || (decide (97 ≤ x.toNat) && decide (x.toNat ≤ 102)) || (decide (65 ≤ x.toNat) && decide (x.toNat ≤ 70))
def pre (l : List UInt8) : Bool := decide (l.take 2 = [48, 120]) || decide (l.take 2 = [48, 88])
/-- The parts but for an empty last one. -/
def parts (l : List UInt8) : List (List UInt8) := if 1 < (split l).length ∧ (split l).getLastD [] = [] then (split l).dropLast else split l
def last (l : List UInt8) : List UInt8 := (parts l).getLastD []
def num (t : List UInt8) : Bool := if pre t then (t.drop 2).all hexd else t.all decd && !t.isEmpty
def numeric (l : List UInt8) : Bool := num (last l)
def name (l : List UInt8) : Bool := decide (l.length ≤ 253) && (!numeric l && (split l).all Lab.valid)
/-- Whether a name is another one or a superdomain of it. -/
def covers (a c : List UInt8) : Bool := name a && name c && (decide (a = c) || (decide (a.length < c.length) && decide (c.drop (c.length - a.length - 1) = 46 :: a)))

theorem parts_ne (l : List UInt8) : parts l ≠ [] := by
  unfold parts
  split
  · rename_i h; intro e
    have := congrArg List.length e
    rw [List.length_dropLast] at this; simp only [List.length_nil] at this; omega
  · exact split_ne l
theorem parts_len (l : List UInt8) : (parts l).length ≤ l.length + 1 := by
  have := split_len l
  unfold parts
  split
  · rw [List.length_dropLast]; omega
  · exact this
theorem parts_mem {l p : List UInt8} (h : p ∈ parts l) : p ∈ split l := by
  unfold parts at h
  split at h
  · exact (List.dropLast_sublist _).subset h
  · exact h

/-- A name between a domain and a subdomain of it is a subdomain. -/
theorem covers_cmp {a c : List UInt8} (h : covers a c = true) : (a = c ∧ cmp a c = 0) ∨ (a ≠ c ∧ cmp a c = -1) := by
  unfold covers at h
  rw [Bool.and_eq_true] at h
  by_cases e : a = c
  · subst e; exact .inl ⟨rfl, cmp_self a⟩
  · right
    refine ⟨e, ?_⟩
    have h2 := h.2
    simp only [e, decide_false, Bool.false_or, Bool.and_eq_true, decide_eq_true_eq] at h2
    have hc : c = c.take (c.length - a.length - 1) ++ 46 :: a := by rw [← h2.2, List.take_append_drop]
    rw [hc]
    unfold cmp
    rw [split_append, List.reverse_append]
    refine cmpL_prefix _ _ ?_
    intro e2; exact split_ne _ (List.reverse_eq_nil_iff.1 e2)
theorem covers_between {a b c : List UInt8} (h : covers a c = true) (hb : name b = true) (h1 : cmp a b ≤ 0) (h2 : cmp b c ≤ 0) : covers a b = true := by
  have hn : name a = true := by
    unfold covers at h; rw [Bool.and_eq_true, Bool.and_eq_true] at h; exact h.1.1
  obtain ⟨t, ht⟩ : ∃ t, (split c).reverse = (split a).reverse ++ t := by
    unfold covers at h
    rw [Bool.and_eq_true] at h
    by_cases e : a = c
    · subst e; exact ⟨[], by simp⟩
    · have h2 := h.2
      simp only [e, decide_false, Bool.false_or, Bool.and_eq_true, decide_eq_true_eq] at h2
      have hc : c = c.take (c.length - a.length - 1) ++ 46 :: a := by rw [← h2.2, List.take_append_drop]
      refine ⟨(split (c.take (c.length - a.length - 1))).reverse, ?_⟩
      conv => lhs; rw [hc]
      rw [split_append, List.reverse_append]
  unfold cmp at h1 h2
  rw [ht] at h2
  obtain ⟨u, hu⟩ := prefix_between _ _ _ h1 h2
  have hs : split b = u.reverse ++ split a := by
    have := congrArg List.reverse hu
    rw [List.reverse_reverse, List.reverse_append, List.reverse_reverse] at this; exact this
  unfold covers
  rw [hn, hb, Bool.true_and, Bool.true_and]
  by_cases hu0 : u = []
  · subst hu0
    have : b = a := split_inj hs
    simp [this]
  · have hbj : b = join u.reverse ++ 46 :: a := by
      rw [← join_split b, hs, join_append _ _ (by simpa using hu0) (split_ne a), join_split a]
    have hl : b.length = (join u.reverse).length + (a.length + 1) := by rw [hbj]; simp
    have hd : b.drop (b.length - a.length - 1) = 46 :: a := by
      rw [show b.length - a.length - 1 = (join u.reverse).length by omega]
      conv => lhs; rw [hbj]
      rw [List.drop_left]
    rw [hd]
    simp only [decide_true, Bool.and_true, Bool.or_eq_true, decide_eq_true_eq]
    right; omega

end Go.Proofs.YtcmeajaakdaeeaaDoor.Host
