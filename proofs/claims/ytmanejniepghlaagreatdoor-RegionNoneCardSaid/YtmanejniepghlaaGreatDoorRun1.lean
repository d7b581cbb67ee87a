/-
  Texts in one: PunyPlain, Map, RegionIx, Runs, ReadReg, FramePlain, Lists.
-/
import Derived.Test.YtmanejniepghlaaGreatDoorRows
import Derived.Test.YtmanejniepghlaaGreatDoorRun0
import Derived.Maps.RangeRun
import Derived.Maps.OwnSet
import Derived.Maps.RangeWalk
import Derived.Shelf.RegionOpen
import Derived.OwnWalkIn
import Derived.Laws.CopyOwn
import Derived.WalkKit
import Derived.Deep.QuietTactic
import Derived.BigQuiet
import Derived.Deep.DeepMust
/-
  Punycode as plain functions. No program in sight.
-/
namespace Go.Proofs.YtmanejniepghlaaGreatDoor.Puny

/-- Is the number a code point? -/
def point (n : Int) : Bool := decide (0 ≤ n) && decide (n ≤ 1114111) && (decide (n < 55296) || decide (57343 < n))
theorem point_iff (n : Int) : point n = true ↔ 0 ≤ n ∧ n ≤ 1114111 ∧ (n < 55296 ∨ 57343 < n) := by simp [point, and_assoc]

/-- The threshold of the digit with the number k. -/
def thr (k : Nat) (bias : Int) : Int := min (max (36 * ((k : Int) + 1) - bias) 1) 26
theorem thr_bd (k : Nat) (bias : Int) : 1 ≤ thr k bias ∧ thr k bias ≤ 26 := by unfold thr; omega

/-- The loop of adapt. -/
def adGo : Nat → Int → Int → Int
  | 0, _, k => k
  | f + 1, d, k => if 455 < d then adGo f (d / 35) (k + 36) else k + 36 * d / (d + 38)
def adStart (delta : Int) (count : Int) (first : Bool) : Int := (if first then delta / 700 else delta / 2) + (if first then delta / 700 else delta / 2) / count
def adapt (delta : Int) (count : Int) (first : Bool) : Int := adGo ((adStart delta count first).toNat + 1) (adStart delta count first) 0

theorem adGo_bd (f : Nat) : ∀ d k : Int, 0 ≤ d → 0 ≤ k → k ≤ adGo f d k ∧ (d < 35 ^ f → adGo f d k ≤ k + 36 * f + 36) := by
  induction f with
  | zero => intro d k hd hk; simp [adGo]; omega
  | succ f ih =>
    intro d k hd hk
    rw [adGo]
    by_cases h : 455 < d
    · rw [if_pos h]
      obtain ⟨h1, h2⟩ := ih (d / 35) (k + 36) (by omega) (by omega)
      refine ⟨by omega, fun hh => ?_⟩
      have h3 : d / 35 < 35 ^ f := by
        have : d < 35 ^ f * 35 := by rw [← Int.pow_succ]; exact hh
        omega
      have := h2 h3
      rw [Int.natCast_add]; omega
    · rw [if_neg h]
      have h0 : 0 ≤ 36 * d / (d + 38) := Int.ediv_nonneg (by omega) (by omega)
      have h1 : 36 * d / (d + 38) < 36 := Int.ediv_lt_of_lt_mul (by omega) (by omega)
      exact ⟨by omega, fun _ => by rw [Int.natCast_add]; omega⟩
theorem adStart_bd (delta count : Int) (first : Bool) (h : 0 ≤ delta) (hc : 1 ≤ count) : 0 ≤ adStart delta count first ∧ adStart delta count first ≤ 2 * delta := by
  have hq : ∀ x : Int, 0 ≤ x → 0 ≤ x / count ∧ x / count ≤ x := fun x hx => ⟨Int.ediv_nonneg hx (by omega), Int.ediv_le_self _ hx⟩
  unfold adStart
  cases first
  · have h1 := hq (delta / 2) (by omega)
    simp only [Bool.false_eq_true, if_false]
    generalize (delta / 2) / count = y at *
    omega
  · have h1 := hq (delta / 700) (by omega)
    simp only [if_true]
    generalize (delta / 700) / count = y at *
    omega
theorem adGo_more (f : Nat) : ∀ (g : Nat) (d k : Int), 0 ≤ d → d < f → d < g → adGo f d k = adGo g d k := by
  induction f with
  | zero => intro g d k h0 h1; omega
  | succ f ih =>
    intro g d k h0 h1 h2
    obtain ⟨g, rfl⟩ : ∃ g', g = g' + 1 := ⟨g - 1, by omega⟩
    rw [adGo, adGo]
    by_cases h : 455 < d
    · rw [if_pos h, if_pos h]; exact ih g _ _ (by omega) (by omega) (by omega)
    · rw [if_neg h, if_neg h]
theorem adapt_bd (delta count : Int) (first : Bool) (h : 0 ≤ delta) (h2 : delta ≤ 2199023255552) (hc : 1 ≤ count) : 0 ≤ adapt delta count first ∧ adapt delta count first ≤ 1000 := by
  obtain ⟨s0, s1⟩ := adStart_bd delta count first h hc
  unfold adapt
  generalize adStart delta count first = s at *
  refine ⟨(adGo_bd _ s 0 s0 (by omega)).1, ?_⟩
  by_cases hs : s < 10
  · rw [adGo_more _ 10 s 0 s0 (by omega) (by omega)]
    have := (adGo_bd 10 s 0 s0 (by omega)).2 (Int.lt_of_lt_of_le (show s < 4398046511105 by omega) (by decide))
    omega
  · have h10 : adGo (s.toNat + 1) s 0 = adGo 10 s 0 := by
      have key : ∀ (f g : Nat) (d k : Int), 0 ≤ d → d < f → d < 35 ^ g → (455 : Int) < 35 ^ g → adGo f d k = adGo (g + 1) d k := by
        intro f
        induction f with
        | zero => intro g d k h0 h1; omega
        | succ f ih =>
          intro g d k h0 h1 h2 h3
          rw [adGo, adGo]
          by_cases h : 455 < d
          · rw [if_pos h, if_pos h]
            cases g with
            | zero => simp at h3
            | succ g =>
              have h4 : d / 35 < 35 ^ g := by
                have : d < 35 ^ g * 35 := by rw [← Int.pow_succ]; exact h2
                omega
              by_cases h5 : (455 : Int) < 35 ^ g
              · exact ih g _ _ (by omega) (by omega) h4 h5
              · have h6 : ¬ 455 < d / 35 := by omega
                obtain ⟨f, rfl⟩ : ∃ f', f = f' + 1 := ⟨f - 1, by omega⟩
                rw [adGo, adGo, if_neg h6, if_neg h6]
          · rw [if_neg h, if_neg h]
      exact key _ 9 s 0 s0 (by omega) (Int.lt_of_le_of_lt (show s ≤ 4398046511104 by omega) (by decide)) (by decide)
    rw [h10]
    have := (adGo_bd 10 s 0 s0 (by omega)).2 (Int.lt_of_lt_of_le (show s < 4398046511105 by omega) (by decide))
    omega

/-- The byte of a digit. -/
def digit (d : Int) : UInt8 := UInt8.ofNat (if d < 26 then 97 + d else 48 + d - 26).toNat
/-- The digit of a byte, or -1. -/
def value (b : UInt8) : Int :=
  if 97 ≤ b.toNat ∧ b.toNat ≤ 122 then (b.toNat : Int) - 97 else if 65 ≤ b.toNat ∧ b.toNat ≤ 90 then (b.toNat : Int) - 65 else if 48 ≤ b.toNat ∧ b.toNat ≤ 57 then (b.toNat : Int) - 48 + 26 else -1

theorem value_lt (b : UInt8) : -1 ≤ value b ∧ value b < 36 := by
  unfold value; repeat' split
  all_goals omega
theorem value_digit (d : Int) (h0 : 0 ≤ d) (h1 : d < 36) : value (digit d) = d := by
  unfold digit value
  by_cases h : d < 26
  · rw [if_pos h]
    have : (UInt8.ofNat (97 + d).toNat).toNat = (97 + d).toNat := by simp; omega
    rw [this, if_pos (by omega)]; omega
  · rw [if_neg h]
    have : (UInt8.ofNat (48 + d - 26).toNat).toNat = (48 + d - 26).toNat := by simp; omega
    rw [this, if_neg (by omega), if_neg (by omega), if_pos (by omega)]; omega

/-- The digits of a number. -/
def digs : Nat → Int → Nat → Int → List UInt8
  | 0, _, _, _ => []
  | f + 1, q, k, bias => if q < thr k bias then [digit q] else digit (thr k bias + (q - thr k bias) % (36 - thr k bias)) :: digs f ((q - thr k bias) / (36 - thr k bias)) (k + 1) bias
def numE (q bias : Int) : List UInt8 := digs (q.toNat + 1) q 0 bias

theorem next_lt (q t : Int) (h1 : 1 ≤ t) (h2 : t ≤ 26) (h : t ≤ q) : 0 ≤ (q - t) / (36 - t) ∧ (q - t) / (36 - t) < q ∧ 10 * ((q - t) / (36 - t)) ≤ q := by
  have h0 : 0 ≤ (q - t) / (36 - t) := Int.ediv_nonneg (by omega) (by omega)
  have h3 : (36 - t) * ((q - t) / (36 - t)) ≤ q - t := Int.mul_ediv_self_le (by omega)
  have h4 : 10 * ((q - t) / (36 - t)) ≤ (36 - t) * ((q - t) / (36 - t)) := Int.mul_le_mul_of_nonneg_right (by omega) h0
  omega

/-- The length of a number's digits. -/
theorem digs_length (m : Nat) : ∀ (f : Nat) (q : Int) (k : Nat) (bias : Int), 0 ≤ q → q < 10 ^ m → (digs f q k bias).length ≤ m + 1 := by
  induction m with
  | zero =>
    intro f q k bias h0 h1
    have : q = 0 := by simp at h1; omega
    subst this
    have := thr_bd k bias
    cases f with
    | zero => simp [digs]
    | succ f => rw [digs, if_pos (by omega)]; simp
  | succ m ih =>
    intro f q k bias h0 h1
    cases f with
    | zero => simp [digs]
    | succ f =>
      rw [digs]
      have ht := thr_bd k bias
      by_cases h : q < thr k bias
      · rw [if_pos h]; simp
      · rw [if_neg h]
        obtain ⟨n0, n1, n2⟩ := next_lt q _ ht.1 ht.2 (by omega)
        have := ih f ((q - thr k bias) / (36 - thr k bias)) (k + 1) bias n0 (by rw [Int.pow_succ] at h1; omega)
        simp; omega

/-- One step of the inner loop of Encode: output, delta, bias, done. -/
structure E where
  out : List UInt8
  delta : Int
  bias : Int
  done : Nat
def encPt (n : Int) (basic : Nat) (s : E) (p : Int) : E :=
  if p < n then { s with delta := s.delta + 1 }
  else if p = n then ⟨s.out ++ numE s.delta s.bias, 0, adapt s.delta (s.done + 1) (s.done == basic), s.done + 1⟩
  else s
/-- The least of the points from n on, or m. -/
def least (n : Int) (m : Int) (ps : List Int) : Int := ps.foldl (fun m p => if n ≤ p then min m p else m) m
def encGo (ps : List Int) (basic : Nat) : Nat → Int → E → List UInt8
  | 0, _, s => s.out
  | f + 1, n, s =>
    if s.done < ps.length then
      let m := least n 1114112 ps
      let s' := ps.foldl (encPt m basic) { s with delta := s.delta + (m - n) * (s.done + 1) }
      encGo ps basic f (m + 1) { s' with delta := s'.delta + 1 }
    else s.out
def basics (ps : List Int) : List UInt8 := (ps.filter fun p => decide (p < 128)).map fun p => UInt8.ofNat p.toNat
def front (ps : List Int) : List UInt8 := basics ps ++ (if basics ps = [] then [] else [45])
def encode (ps : List Int) : List UInt8 := encGo ps (basics ps).length (ps.length + 1) 128 ⟨front ps, 0, 72, (basics ps).length⟩
/-- The result of Encode: the text and the error's number. -/
def enc (ps : List Int) : List UInt8 × Int :=
  if 256 < ps.length then ([], 3) else if ps.all point then (encode ps, 0) else ([], 2)

/-- A number is read: what is left and the new i, or the error's number. -/
def decNum : List UInt8 → Int → Int → Nat → Int → Except Int (List UInt8 × Int)
  | [], _, _, _, _ => .error 4
  | b :: l, i, w, k, bias =>
    if value b < 0 then .error 4
    else if 1099511627776 < i + value b * w then .error 19
    else if value b < thr k bias then .ok (l, i + value b * w)
    else if 1099511627776 < w * (36 - thr k bias) then .error 19
    else decNum l (i + value b * w) (w * (36 - thr k bias)) (k + 1) bias
structure D where
  pts : List Int
  n : Int
  i : Int
  bias : Int
  first : Bool
/-- The points with n at i. -/
def ins (l : List Int) (i : Nat) (n : Int) : List Int := l.take i ++ n :: l.drop i
def decStep (l : List UInt8) (s : D) : Except Int (List UInt8 × D) :=
  match decNum l s.i 1 0 s.bias with
  | .error e => .error e
  | .ok (r, j) =>
    let c : Int := s.pts.length + 1
    let n := s.n + j / c
    if point n = false then .error 2
    else if 256 < c then .error 3
    else .ok (r, ⟨ins s.pts (j % c).toNat n, n, j % c + 1, adapt (j - s.i) c s.first, false⟩)
def decGo : Nat → List UInt8 → D → Except Int (List Int)
  | 0, _, s => .ok s.pts
  | f + 1, l, s =>
    if l = [] then .ok s.pts else
    match decStep l s with
    | .error e => .error e
    | .ok (r, s') => decGo f r s'
/-- The place of the last hyphen, but not the first byte. -/
def cut (l : List UInt8) : Nat := l.length - 1 - (l.reverse.takeWhile (· != 45)).length
def decode (l : List UInt8) : Except Int (List Int) :=
  if 1024 < l.length then .error 3
  else if (l.all fun b => decide (b.toNat < 128)) = false then .error 4
  else if 256 < cut l then .error 3
  else decGo (l.length + 1) (if cut l = 0 then l else l.drop (cut l + 1)) ⟨(l.take (cut l)).map fun b => (b.toNat : Int), 128, 0, 72, true⟩
/-- The result of Decode: the points and the error's number. -/
def dec (l : List UInt8) : List Int × Int := match decode l with
  | .error e => ([], e)
  | .ok p => (p, 0)

end Go.Proofs.YtmanejniepghlaaGreatDoor.Puny

/-
  A map from ints to slices of bytes that the call itself has made: the cache of a disk. Look-up, store, clear, range.
-/
namespace Go.Proofs.YtmanejniepghlaaGreatDoor
open Go.RowKit
open Go.MapKept (Stamped IsKey findNow_spec run_findKey run_checkKey run_keyThatStays stamped_push stamped_modify stamped_empty)
open Go.ChangeMaps (setBlock)

/-- What an entry of the cache is: R says where the contents lie. -/
def EntryIs (R : Nat → Prop) (w : World) (ca : List (Option (List UInt8))) (e : MapEntry) : Prop :=
  ∃ (i : Nat) (x : List UInt8) (a : Addr) (c : Nat), ca[i]? = some (some x) ∧ e.key = .int .i64 (i : Int) ∧ e.val = .slice (some a) x.length c ∧ SlB w (some a) x.length c x ∧ R a.block ∧ x ≠ []

structure EsIs (R : Nat → Prop) (w : World) (ca : List (Option (List UInt8))) (es : Array MapEntry) (clock : Nat) : Prop where
  stamped : Stamped es clock
  size : es.size = ca.countP (·.isSome)
  mem : ∀ e ∈ es.toList, EntryIs R w ca e
  all : ∀ (i : Nat) (x : List UInt8), ca[i]? = some (some x) → ∃ e ∈ es.toList, e.key = .int .i64 (i : Int)

def MapIs (R : Nat → Prop) (w : World) (m : Nat) (ca : List (Option (List UInt8))) : Prop :=
  ∃ es clock, w.heap[m]? = some (.map es clock) ∧ EsIs R w ca es clock

theorem EntryIs.stay {R : Nat → Prop} {w w' : World} {ca : List (Option (List UInt8))} {e : MapEntry} (h : EntryIs R w ca e) (k : ∀ b, R b → b < w.heap.size → w'.heap[b]? = w.heap[b]?) (hz : w.heap.size ≤ w'.heap.size) : EntryIs R w' ca e := by
  obtain ⟨i, x, a, c, h1, h2, h3, h4, h5, h6⟩ := h
  exact ⟨i, x, a, c, h1, h2, h3, h4.stay (fun y hy _ => by cases hy; exact k _ h5 (h4.blt h6)) hz, h5, h6⟩
theorem EntryIs.mono {R R' : Nat → Prop} {w : World} {ca : List (Option (List UInt8))} {e : MapEntry} (h : EntryIs R w ca e) (k : ∀ b, R b → R' b) : EntryIs R' w ca e := by
  obtain ⟨i, x, a, c, h1, h2, h3, h4, h5, h6⟩ := h
  exact ⟨i, x, a, c, h1, h2, h3, h4, k _ h5, h6⟩
theorem EsIs.stay {R : Nat → Prop} {w w' : World} {ca : List (Option (List UInt8))} {es : Array MapEntry} {clock : Nat} (h : EsIs R w ca es clock) (k : ∀ b, R b → b < w.heap.size → w'.heap[b]? = w.heap[b]?) (hz : w.heap.size ≤ w'.heap.size) : EsIs R w' ca es clock :=
  ⟨h.stamped, h.size, fun e he => (h.mem e he).stay k hz, h.all⟩
theorem MapIs.lt {R : Nat → Prop} {w : World} {m : Nat} {ca : List (Option (List UInt8))} (h : MapIs R w m ca) : m < w.heap.size := by
  obtain ⟨es, clock, hb, -⟩ := h; exact heap_lt hb
theorem MapIs.stay {R : Nat → Prop} {w w' : World} {m : Nat} {ca : List (Option (List UInt8))} (h : MapIs R w m ca) (k : ∀ b, R b → b < w.heap.size → w'.heap[b]? = w.heap[b]?) (hm : w'.heap[m]? = w.heap[m]?) (hz : w.heap.size ≤ w'.heap.size) : MapIs R w' m ca := by
  obtain ⟨es, clock, hb, hE⟩ := h
  exact ⟨es, clock, hm.trans hb, hE.stay k hz⟩
theorem MapIs.mono {R R' : Nat → Prop} {w : World} {m : Nat} {ca : List (Option (List UInt8))} (h : MapIs R w m ca) (k : ∀ b, R b → R' b) : MapIs R' w m ca := by
  obtain ⟨es, clock, hb, hE⟩ := h
  exact ⟨es, clock, hb, hE.stamped, hE.size, fun e he => (hE.mem e he).mono k, hE.all⟩
/-- A block of contents is no map. -/
theorem EntryIs.ne {R : Nat → Prop} {w : World} {ca : List (Option (List UInt8))} {e : MapEntry} (h : EntryIs R w ca e) {m : Nat} {es : Array MapEntry} {clock : Nat} (hm : w.heap[m]? = some (.map es clock)) : EntryIs (fun b => R b ∧ b ≠ m) w ca e := by
  obtain ⟨i, x, a, c, h1, h2, h3, h4, h5, h6⟩ := h
  refine ⟨i, x, a, c, h1, h2, h3, h4, ⟨h5, fun e => ?_⟩, h6⟩
  have h7 := (h4.2.2.2.2 a rfl 0 (List.length_pos_iff.2 h6)).2.2
  simp only [World.cell?] at h7
  rw [e, hm] at h7
  cases h7

theorem es_isKey {R : Nat → Prop} {w : World} {ca : List (Option (List UInt8))} {es : Array MapEntry} {clock : Nat} (h : EsIs R w ca es clock) : ∀ x ∈ es.toList, IsKey (.int .i64) x.key := by
  intro x hx
  obtain ⟨i, y, a, c, -, h2, -⟩ := h.mem x hx
  rw [h2]; rfl

/-- A look-up, with ok. -/
theorem MapIs.look {R : Nat → Prop} {w : World} {m : Nat} {ca : List (Option (List UInt8))} (h : MapIs R w m ca) (z : Int) :
    (∃ (i : Nat) (x : List UInt8) (a : Addr) (c : Nat), z = i ∧ ca[i]? = some (some x) ∧ SlB w (some a) x.length c x ∧ R a.block ∧ x ≠ [] ∧ ∀ W : World, W.heap = w.heap → (Instr.lookup 85 (.map (some m)) (.int .i64 z) true).run Tryz.prog W = .ok (.tuple #[.slice (some a) x.length c, .bool true]) W) ∨
    ((∀ i : Nat, z = i → ca[i]?.getD none = none) ∧ ∀ W : World, W.heap = w.heap → (Instr.lookup 85 (.map (some m)) (.int .i64 z) true).run Tryz.prog W = .ok (.tuple #[.slice none 0 0, .bool false]) W) := by
  obtain ⟨es, clock, hb, hE⟩ := h
  have hk : IsKey (.int .i64) (.int .i64 z) := rfl
  have hu := Tryz.underlying85
  have hd := Tryz.underlying3
  have hz := fun w => Tryz.zeroValue70 w
  rcases findNow_spec hk es.toList 0 (es_isKey hE) with ⟨h1, h2⟩ | ⟨j, e, h1, h2, h3⟩
  · refine .inr ⟨fun i hi => ?_, ?_⟩
    · subst hi
      cases hc : ca[i]? with
      | none => rfl
      | some o =>
        cases o with
        | none => rfl
        | some x =>
          obtain ⟨e, he, hek⟩ := hE.all i x hc
          exact absurd hek (h2 e he)
    · intro W hW
      rw [← hW] at hb
      simp [Instr.lookup, run_underlying hu, MapKept.run_getObj_map hb, run_checkKey hd hk, run_findKey hd h1, hz, Result.andThen]
  · obtain ⟨i, x, a, c, q1, q2, q3, q4, q5, q6⟩ := hE.mem e (List.mem_of_getElem? h2)
    have hzi : z = i := by rw [h3] at q2; injection q2
    refine .inl ⟨i, x, a, c, hzi, q1, q4, q5, q6, fun W hW => ?_⟩
    rw [← hW] at hb
    simp [Instr.lookup, run_underlying hu, MapKept.run_getObj_map hb, run_checkKey hd hk, run_findKey hd h1, Result.andThen, q3]

theorem setBlock_same {w : World} {b : Nat} {o o' : Obj} (h : w.heap[b]? = some o) : (setBlock w b o').heap[b]? = some o' := (MapKept.heap_set h).1
theorem setBlock_other (w : World) {b : Nat} (o' : Obj) {k : Nat} (hk : k ≠ b) : (setBlock w b o').heap[k]? = w.heap[k]? := by
  show (w.heap.setIfInBounds b o')[k]? = _
  simp [Ne.symm hk]
theorem setBlock_size (w : World) (b : Nat) (o' : Obj) : (setBlock w b o').heap.size = w.heap.size := by
  show (w.heap.setIfInBounds b o').size = _
  simp
theorem Upd.setBlock {F F' : Nat → Prop} {w w1 : World} (h : Upd F w F' w1) {g : Nat} (hg : F g ∨ w.heap.size ≤ g) (o : Obj) : Upd F w F' (setBlock w1 g o) where
  os := h.os
  tape := h.tape
  output := h.output
  size := by rw [setBlock_size]; exact h.size
  block k hk hF := (setBlock_other _ _ (fun e => by subst e; rcases hg with e1 | e1; exact hF e1; omega)).trans (h.block k hk hF)
  new := h.new

set_option maxRecDepth 100000 in
theorem es_update {R : Nat → Prop} {w : World} {ca : List (Option (List UInt8))} {es : Array MapEntry} {clock : Nat} (h : EsIs R w ca es clock) (i : Nat) (hi : i < ca.length) (x : List UInt8) (a : Addr) (c : Nat)
    (hs : SlB w (some a) x.length c x) (hR : R a.block) (hx : x ≠ []) {m : Nat} (hb : w.heap[m]? = some (.map es clock)) :
    ∃ es' clock', (Instr.mapUpdate 85 (.map (some m)) (.int .i64 (i : Int)) (.slice (some a) x.length c)).run Tryz.prog w = .ok () (setBlock w m (.map es' clock')) ∧ EsIs R w (ca.set i (some x)) es' clock' := by
  have hk : IsKey (.int .i64) (.int .i64 (i : Int)) := rfl
  have hu := Tryz.underlying85
  have hd := Tryz.underlying3
  have hold : ∀ e, EntryIs R w ca e → e.key ≠ .int .i64 (i : Int) → EntryIs R w (ca.set i (some x)) e := by
    rintro e ⟨j, y, b, d, q1, q2, q3, q4, q5, q6⟩ hne
    refine ⟨j, y, b, d, ?_, q2, q3, q4, q5, q6⟩
    rw [List.getElem?_set_ne (fun e => hne (by rw [q2, e]))]; exact q1
  have hnew : ∀ born, EntryIs R w (ca.set i (some x)) ⟨.int .i64 (i : Int), .slice (some a) x.length c, born⟩ := fun born =>
    ⟨i, x, a, c, by rw [List.getElem?_set_self hi], rfl, rfl, hs, hR, hx⟩
  have hall : ∀ (es' : Array MapEntry), (∃ e ∈ es'.toList, e.key = .int .i64 (i : Int)) → (∀ e ∈ es.toList, e.key ≠ .int .i64 (i : Int) → e ∈ es'.toList) → ∀ (k : Nat) (y : List UInt8), (ca.set i (some x))[k]? = some (some y) → ∃ e ∈ es'.toList, e.key = .int .i64 (k : Int) := by
    intro es' h1 h2 k y hy
    by_cases hki : i = k
    · subst hki; exact h1
    · rw [List.getElem?_set_ne hki] at hy
      obtain ⟨e, he, hek⟩ := h.all k y hy
      exact ⟨e, h2 e he (by rw [hek]; intro e2; injection e2 with _ e3; omega), hek⟩
  rcases findNow_spec hk es.toList 0 (es_isKey h) with ⟨h1, h2⟩ | ⟨j, e, h1, h2, h3⟩
  · refine ⟨es.push ⟨.int .i64 (i : Int), .slice (some a) x.length c, clock⟩, clock + 1, ?_, stamped_push h.stamped h2, ?_, ?_, ?_⟩
    · simp [Instr.mapUpdate, run_underlying hu, MapKept.run_getObj_map hb, run_checkKey hd hk, run_findKey hd h1, MapKept.run_setObj_map _ hb, Result.andThen, setBlock]
    · have hnone : ca[i] = none := by
        cases hc : ca[i] with
        | none => rfl
        | some y =>
          obtain ⟨e, he, hek⟩ := h.all i y (by rw [List.getElem?_eq_getElem hi, hc])
          exact absurd hek (h2 e he)
      rw [Array.size_push, h.size, List.countP_set hi, hnone]; simp
    · intro e he
      simp only [Array.toList_push, List.mem_append, List.mem_singleton] at he
      rcases he with he | rfl
      · exact hold e (h.mem e he) (h2 e he)
      · exact hnew _
    · refine hall _ ⟨⟨.int .i64 (i : Int), .slice (some a) x.length c, clock⟩, by simp, rfl⟩ (fun e he _ => ?_)
      rw [Array.toList_push]; exact List.mem_append_left _ he
  · have hj : es[j]? = some e := by simpa using h2
    have hjl : j < es.toList.length := (List.getElem?_eq_some_iff.1 h2).1
    have hkeyf : ∀ e', es[j]? = some e' → ({ e' with key := .int .i64 (i : Int), val := .slice (some a) x.length c } : MapEntry).key = e'.key := fun e' he' => by rw [hj] at he'; cases he'; exact h3.symm
    have hlist : (es.modify j (fun e' => { e' with key := .int .i64 (i : Int), val := .slice (some a) x.length c })).toList = es.toList.set j { e with key := .int .i64 (i : Int), val := .slice (some a) x.length c } := by rw [Array.toList_modify, ChangeMaps.modify_eq_set _ _ _ _ h2]
    refine ⟨es.modify j (fun e' => { e' with key := .int .i64 (i : Int), val := .slice (some a) x.length c }), clock, ?_, stamped_modify h.stamped _ _ (fun _ _ => rfl) (fun e' _ he' => hkeyf e' he'), ?_, ?_, ?_⟩
    · simp [Instr.mapUpdate, run_underlying hu, MapKept.run_getObj_map hb, run_checkKey hd hk, run_findKey hd h1, hj, h3, run_keyThatStays hk, MapKept.run_setObj_map _ hb, Result.andThen, setBlock]
    · obtain ⟨k, y, b, d, q1, q2, -⟩ := h.mem e (List.mem_of_getElem? h2)
      have hki : k = i := by rw [h3] at q2; injection q2 with _ e2; omega
      subst hki
      rw [List.getElem?_eq_getElem hi] at q1
      have q1' := Option.some.inj q1
      have hpos : 0 < ca.countP (·.isSome) := List.countP_pos_iff.2 ⟨_, List.getElem_mem hi, by rw [q1']; rfl⟩
      rw [Array.size_modify, h.size, List.countP_set hi, q1']; simp; omega
    · intro e' he'
      rw [hlist] at he'
      obtain ⟨p, hp, ep⟩ := List.getElem_of_mem he'
      rw [List.getElem_set] at ep
      split at ep
      · subst ep; exact hnew _
      · rename_i hne
        have hp' : p < es.toList.length := by simpa using hp
        refine hold e' (h.mem e' (ep ▸ List.getElem_mem hp')) ?_
        intro ek
        have h5 := ((MapKept.stamped_iff es clock).1 h.stamped).2.2
        have hpe : es.toList[p] = e' := ep
        have hje : es.toList[j] = e := by rw [List.getElem?_eq_getElem hjl] at h2; exact Option.some.inj h2
        rcases Nat.lt_or_gt_of_ne hne with hlt | hlt
        · exact List.pairwise_iff_getElem.1 h5 j p hjl hp' hlt (by rw [hpe, hje, ek, h3])
        · exact List.pairwise_iff_getElem.1 h5 p j hp' hjl hlt (by rw [hpe, hje, ek, h3])
    · refine hall _ ?_ ?_
      · exact ⟨{ e with key := .int .i64 (i : Int), val := .slice (some a) x.length c }, by rw [hlist]; exact List.mem_iff_getElem.2 ⟨j, by simpa using hjl, by simp⟩, rfl⟩
      · intro e' he' hne
        rw [hlist]
        obtain ⟨p, hp, ep⟩ := List.getElem_of_mem he'
        have hpj : j ≠ p := by
          rintro rfl
          have hje : es.toList[j] = e := by rw [List.getElem?_eq_getElem hjl] at h2; exact Option.some.inj h2
          exact hne (by rw [← ep, hje, h3])
        exact List.mem_iff_getElem.2 ⟨p, by simpa using hp, by rw [List.getElem_set_ne hpj]; exact ep⟩

/-- A store. -/
theorem MapIs.update {R : Nat → Prop} {w : World} {m : Nat} {ca : List (Option (List UInt8))} (h : MapIs R w m ca) (i : Nat) (hi : i < ca.length) (x : List UInt8) (a : Addr) (c : Nat) (hs : SlB w (some a) x.length c x) (hR : R a.block) (hx : x ≠ []) (hm : ¬ R m) :
    ∃ o, (Instr.mapUpdate 85 (.map (some m)) (.int .i64 (i : Int)) (.slice (some a) x.length c)).run Tryz.prog w = .ok () (setBlock w m o) ∧ MapIs R (setBlock w m o) m (ca.set i (some x)) := by
  obtain ⟨es, clock, hb, hE⟩ := h
  obtain ⟨es', clock', hrun, hE'⟩ := es_update hE i hi x a c hs hR hx hb
  exact ⟨_, hrun, es', clock', setBlock_same hb, hE'.stay (fun b hb _ => setBlock_other _ _ (fun e => hm (e ▸ hb))) (by rw [setBlock_size]; exact Nat.le_refl _)⟩

/-- clear. -/
theorem MapIs.clear {R : Nat → Prop} {w : World} {m : Nat} {ca : List (Option (List UInt8))} (h : MapIs R w m ca) (ty : TypeId) :
    ∃ o, (Builtin.clear_ #[85] ty #[.map (some m)]).run Tryz.prog w = .ok (.tuple #[]) (setBlock w m o) ∧ ∀ R' n, MapIs R' (setBlock w m o) m (List.replicate n none) := by
  obtain ⟨es, clock, hb, hE⟩ := h
  have hu := Tryz.underlying85
  refine ⟨.map #[] clock, ?_, fun R' n => ⟨#[], clock, setBlock_same hb, stamped_empty _, ?_, ?_, ?_⟩⟩
  · simp [Builtin.clear_, run_underlying hu, MapKept.run_getObj_map hb, MapKept.run_setObj_map _ hb, Result.andThen, setBlock]
  · simp [List.countP_replicate]
  · intro e he; simp at he
  · intro i x hx
    rw [List.getElem?_replicate] at hx; split at hx <;> simp at hx
theorem MapIs.made (R : Nat → Prop) (w : World) (n : Nat) : MapIs R (w.alloc (.map #[] 0)) w.heap.size (List.replicate n none) :=
  ⟨#[], 0, (MapKept.heap_alloc w _).1, stamped_empty _, by simp [List.countP_replicate], fun e he => by simp at he, fun i x hx => by rw [List.getElem?_replicate] at hx; split at hx <;> simp at hx⟩

theorem wpList_clear {R : Nat → Prop} {w : World} {ops : Array Oper} {rest : List Oper} {o : Oper} {a : Act} {Q : Exit → Act → World → Prop} (hgd : o.guard = none) (x : Operand)
    (ho : o.op = .call { callee := .builtin .clear, args := #[x], argTypes := #[85] }) {m : Nat} {ca : List (Option (List UInt8))} (hx : a.eval x = .map (some m)) (h : MapIs R w m ca)
    (hK : ∀ o', (∀ R' n, MapIs R' (setBlock w m o') m (List.replicate n none)) → wpList Tryz.prog ops Q rest (a.put o.dst (.tuple #[])) (setBlock w m o')) : wpList Tryz.prog ops Q (o :: rest) a w := by
  refine wpList_plain hgd fun K hK' => ?_
  obtain ⟨o', hrun, hM⟩ := h.clear o.type
  unfold Oper.wp
  simp [execOp, ho, resolve, invoke, builtin, hx, hrun, Result.andThen]
  exact hK' _ _ (hK o' hM)

/-! ### range -/
/-- A loop over the cache: done says which sectors have come; cnt how many are still to come. -/
def MRange (R : Nat → Prop) (w : World) (m r : Nat) (ca : List (Option (List UInt8))) (done : Nat → Bool) (cnt : Nat) : Prop :=
  ∃ es clock since seen c0, w.heap[m]? = some (.map es clock) ∧ EsIs R w ca es clock ∧ w.heap[r]? = some (.mapIter (some m) since seen c0) ∧ (∀ x ∈ es.toList, x.born < since) ∧ (leftOf es seen).size = cnt ∧ since ≤ c0 ∧ since ≤ clock ∧
    ∀ e ∈ es.toList, ∀ i : Nat, e.key = .int .i64 (i : Int) → done i = seen.contains e.born

theorem MRange.map {R : Nat → Prop} {w : World} {m r : Nat} {ca : List (Option (List UInt8))} {done : Nat → Bool} {cnt : Nat} (h : MRange R w m r ca done cnt) : MapIs R w m ca := by
  obtain ⟨es, clock, _, _, _, hb, hE, _⟩ := h; exact ⟨es, clock, hb, hE⟩
theorem MRange.ne {R : Nat → Prop} {w : World} {m r : Nat} {ca : List (Option (List UInt8))} {done : Nat → Bool} {cnt : Nat} (h : MRange R w m r ca done cnt) : r ≠ m := by
  obtain ⟨es, clock, since, seen, c0, hb, _, hr, _⟩ := h
  intro e; rw [e, hb] at hr; cases hr
theorem MRange.lt {R : Nat → Prop} {w : World} {m r : Nat} {ca : List (Option (List UInt8))} {done : Nat → Bool} {cnt : Nat} (h : MRange R w m r ca done cnt) : r < w.heap.size := by
  obtain ⟨es, clock, since, seen, c0, hb, _, hr, _⟩ := h; exact heap_lt hr
theorem MRange.stay {R : Nat → Prop} {w w' : World} {m r : Nat} {ca : List (Option (List UInt8))} {done : Nat → Bool} {cnt : Nat} (h : MRange R w m r ca done cnt) (k : ∀ b, R b → b < w.heap.size → w'.heap[b]? = w.heap[b]?) (hm : w'.heap[m]? = w.heap[m]?) (hr : w'.heap[r]? = w.heap[r]?) (hz : w.heap.size ≤ w'.heap.size) : MRange R w' m r ca done cnt := by
  obtain ⟨es, clock, since, seen, c0, hb, hE, h2, rest⟩ := h
  exact ⟨es, clock, since, seen, c0, hm.trans hb, hE.stay k hz, hr.trans h2, rest⟩
theorem MRange.left_eq {R : Nat → Prop} {w : World} {m r : Nat} {ca : List (Option (List UInt8))} {done : Nat → Bool} {cnt : Nat} (h : MRange R w m r ca done cnt) : w.rangeLeft m r = cnt := by
  obtain ⟨es, clock, since, seen, c0, hb, _, hr, _, hc, _⟩ := h
  simp only [World.rangeLeft, hb, hr]
  exact hc

theorem wpList_range_cache {R : Nat → Prop} {w : World} {ops : Array Oper} {rest : List Oper} {o : Oper} {a : Act} {Q : Exit → Act → World → Prop} (hgd : o.guard = none) (p : Operand)
    (ho : o.op = Op.range 85 p) {m : Nat} {ca : List (Option (List UInt8))} (hp : a.eval p = .map (some m)) (h : MapIs R w m ca) (hR : ∀ b, R b → b < w.heap.size)
    (hK : ∀ o' cnt, MRange R (w.alloc o') m w.heap.size ca (fun _ => false) cnt → wpList Tryz.prog ops Q rest (a.put o.dst (.pointer (some ⟨w.heap.size, 0, none⟩))) (w.alloc o')) : wpList Tryz.prog ops Q (o :: rest) a w := by
  have hlt := h.lt
  obtain ⟨es, clock, hb, hE⟩ := h
  have hrun := run_range_map (P := Tryz.prog) w _ _ _ m es clock Tryz.underlying85 hb
  have hM : MRange R (w.alloc (.mapIter (some m) clock #[] clock)) m w.heap.size ca (fun _ => false) (leftOf es #[]).size :=
    ⟨es, clock, clock, #[], clock, ((MapKept.heap_alloc w _).2 m hlt).trans hb, hE.stay (fun b hb' _ => (MapKept.heap_alloc w _).2 b (hR b hb')) (by simp), (MapKept.heap_alloc w _).1, hE.stamped.1, rfl, Nat.le_refl _, Nat.le_refl _, fun e _ i _ => by simp⟩
  refine wpList_plain hgd fun K hK' => ?_
  unfold Oper.wp
  simp [execOp, ho, hp, hrun, Result.andThen]
  exact hK' _ _ (hK _ _ hM)

/-- The step of such a loop. -/
theorem wpList_next_cache {R : Nat → Prop} {w : World} {ops : Array Oper} {rest : List Oper} {o : Oper} {a : Act} {Q : Exit → Act → World → Prop} (hgd : o.guard = none) (p : Operand)
    (ho : o.op = Op.next p false) {m r : Nat} {ca : List (Option (List UInt8))} {done : Nat → Bool} {cnt : Nat} (hp : a.eval p = .pointer (some ⟨r, 0, none⟩)) (h : MRange R w m r ca done cnt) (hR : ∀ b, R b → b ≠ r)
    (hDone : (∀ (i : Nat) (x : List UInt8), ca[i]? = some (some x) → done i = true) → wpList Tryz.prog ops Q rest (a.put o.dst (.tuple #[.bool false])) w)
    (hMore : ∀ (i : Nat) (x : List UInt8) (b : Addr) (c : Nat) (w1 : World) (o' : Obj) (cnt' : Nat), ca[i]? = some (some x) → i < ca.length → done i = false → (w1 = w ∨ w1 = w.drew) → SlB (setBlock w1 r o') (some b) x.length c x → R b.block →
      MRange R (setBlock w1 r o') m r ca (fun k => done k || k == i) cnt' → cnt' < cnt → (Instr.entry (.pointer (some ⟨r, 0, none⟩))).run Tryz.prog (setBlock w1 r o') = .ok (.tuple #[.int .i64 (i : Int), .slice (some b) x.length c]) (setBlock w1 r o') →
      wpList Tryz.prog ops Q rest (a.put o.dst (.tuple #[.bool true, .int .i64 (i : Int), .slice (some b) x.length c])) (setBlock w1 r o')) : wpList Tryz.prog ops Q (o :: rest) a w := by
  have hne := h.ne
  obtain ⟨es, clock, since, seen, c0, hb, hE, hr, hold, hcnt, hsc, hsk, hdn⟩ := h
  refine wpList_plain hgd fun K hK' => ?_
  unfold Oper.wp
  have hst := (MapKept.stamped_iff es clock).1 hE.stamped
  rcases run_next_at (P := Tryz.prog) w o.type r m since c0 seen es clock hr hb hold hsc with ⟨h0, hrun⟩ | ⟨e, he, w1, hal, hrun⟩
  · simp [execOp, ho, hp, hrun, Result.andThen]
    refine hK' _ _ (hDone fun i x hx => ?_)
    obtain ⟨e, he, hek⟩ := hE.all i x hx
    rw [hdn e he i hek]
    exact all_seen es seen h0 e he
  · have hem : e ∈ es.toList ∧ seen.contains e.born = false := by
      unfold leftOf at he
      simp at he
      exact ⟨by simpa using he.1, by simpa using he.2⟩
    obtain ⟨i, x, b, c, q1, q2, q3, q4, q5, q6⟩ := hE.mem e hem.1
    have hr1 : w1.heap[r]? = some (.mapIter (some m) since seen c0) := by rcases hal with rfl | rfl <;> exact hr
    have hb1 : w1.heap[m]? = some (.map es clock) := by rcases hal with rfl | rfl <;> exact hb
    have hz1 : w.heap.size ≤ w1.heap.size := by rcases hal with rfl | rfl <;> exact Nat.le_refl _
    have hkeep : ∀ k, R k → k < w.heap.size → (setBlock w1 r (.mapIter (some m) since (seen.push e.born) clock)).heap[k]? = w.heap[k]? := fun k hk _ => (setBlock_other _ _ (hR k hk)).trans (by rcases hal with rfl | rfl <;> rfl)
    have hsz : w.heap.size ≤ (setBlock w1 r (.mapIter (some m) since (seen.push e.born) clock)).heap.size := by rw [setBlock_size]; exact hz1
    have hb2 : (setBlock w1 r (.mapIter (some m) since (seen.push e.born) clock)).heap[m]? = some (.map es clock) := (setBlock_other _ _ (Ne.symm hne)).trans hb1
    have hen := run_entry_at (P := Tryz.prog) (setBlock w1 r (.mapIter (some m) since (seen.push e.born) clock)) r m since seen es clock e (setBlock_same hr1) hb2 hem.1 hst.2.1
    rw [q2, q3] at hen hrun
    simp [execOp, ho, hp, hrun, Result.andThen]
    refine hK' _ _ (hMore i x b c w1 _ (leftOf es (seen.push e.born)).size q1 (List.getElem?_eq_some_iff.1 q1).1 ?_ hal (q4.stay (fun y hy _ => by cases hy; exact hkeep _ q5 (q4.blt q6)) hsz) q5 ?_ ?_ hen)
    · rw [hdn e hem.1 i q2]; exact hem.2
    · refine ⟨es, clock, since, seen.push e.born, clock, hb2, hE.stay hkeep hsz, setBlock_same hr1, hold, rfl, hsk, hsk, fun e' he' k hk => ?_⟩
      show (done k || k == i) = _
      rw [hdn e' he' k hk]
      have : (k == i) = (e'.born == e.born) := by
        by_cases hbe : e'.born = e.born
        · have := born_inj hst.2.1 he' hem.1 hbe
          subst this
          rw [q2] at hk; injection hk with _ hk
          simp; omega
        · have h1 : (e'.born == e.born) = false := by simp [hbe]
          rw [h1]
          apply beq_eq_false_iff_ne.2
          rintro rfl
          exact hbe (congrArg MapEntry.born (entry_eq_of_key hst.2.2 he' hem.1 (by rw [hk, q2])))
      rw [this, contains_push]
    · rw [← hcnt]; exact left_shrinks es seen e he

end Go.Proofs.YtmanejniepghlaaGreatDoor

/-
  A region that draws its order, in a round's frame, by an invariant over the set of its operations that have run: each operation is walked once, whatever came before it.
-/
namespace Go.Proofs.YtmanejniepghlaaGreatDoor
open Go.RowKit

theorem ready_mem {md : Region.Mode} {ops : Array Oper} {l : Array Bool} {i : Nat} (h : i ∈ Region.ready md ops l) : i < ops.size ∧ l.getD i true = false := by
  unfold Region.ready at h
  obtain ⟨h1, h2⟩ := List.mem_filter.1 h
  simp only [Bool.and_eq_true] at h2
  exact ⟨List.mem_range.1 h1, by have := h2.1; simpa using this⟩

theorem left_zero {l : Array Bool} {i : Nat} (h : l.getD i true = false) (hi : i < l.size) : 0 < l.toList.countP (fun b => b == false) := by
  refine List.countP_pos_iff.2 ⟨l[i], by simp, ?_⟩
  have : l.getD i true = l[i] := by simp [hi]
  rw [← this, h]; rfl
theorem left_less {l : Array Bool} {i : Nat} (h : l.getD i true = false) (hi : i < l.size) : (l.setIfInBounds i true).toList.countP (fun b => b == false) + 1 = l.toList.countP (fun b => b == false) := by
  have h1 := left_zero h hi
  have hli : l.toList[i]'(by simpa using hi) = false := by
    have : l.getD i true = l[i] := by simp [hi]
    rw [← h, this]; simp
  rw [Array.toList_setIfInBounds, List.countP_set (by simpa using hi), hli]
  have e : (true == false) = false := rfl
  simp only [beq_self_eq_true, if_true, e, Bool.false_eq_true, if_false]
  omega

theorem wpAnyIn_inv {F : Fence} {n : Nat} {P : Program} {ops : Array Oper} {Q : Exit → Act → World → Prop} (Inv : Array Bool → Act → World → Prop) (hsz : ∀ l a W, Inv l a W → l.size = ops.size)
    (hdone : ∀ l a W, Inv l a W → Region.ready .any ops l = [] → Q .normal a W)
    (hstep : ∀ l a W i, Inv l a W → i ∈ Region.ready .any ops l → ∀ K' : Act → World → Prop, (∀ a' W', Inv (l.setIfInBounds i true) a' W' → K' a' W') → wpOpIn F n P ops Q i K' a W) :
    ∀ (fuel : Nat) (l : Array Bool) (a : Act) (W : World), Inv l a W → l.toList.countP (fun b => b == false) ≤ fuel → wpAnyIn F n P .any ops Q fuel l a W := by
  intro fuel
  induction fuel with
  | zero =>
    intro l a W hi hc
    have hr : Region.ready .any ops l = [] := by
      cases hrd : Region.ready .any ops l with
      | nil => rfl
      | cons i r =>
        have hm : i ∈ Region.ready .any ops l := by rw [hrd]; exact List.mem_cons_self
        obtain ⟨h1, h2⟩ := ready_mem hm
        have := left_zero h2 (by rw [hsz l a W hi]; exact h1)
        omega
    exact ⟨hr, hdone l a W hi hr⟩
  | succ fuel ih =>
    intro l a W hi hc
    refine ⟨fun hr => hdone l a W hi hr, fun i hm => ?_⟩
    obtain ⟨h1, h2⟩ := ready_mem hm
    have h3 := left_less h2 (by rw [hsz l a W hi]; exact h1)
    exact hstep l a W i hi hm _ (fun a' W' hi' => ih _ a' W' hi' (by omega))

theorem put_getD (a : Act) (d : Nat) (v : Value) (k : Nat) (hd : d < a.tmps.size) : (a.put (some d) v).tmps.getD k undef = if k = d then v else a.tmps.getD k undef := by
  show (a.tmps.setIfInBounds d v).getD k undef = _
  by_cases h : k = d
  · subst h; simp [hd]
  · simp [Ne.symm h, h]
theorem put_size (a : Act) (d : Nat) (v : Value) : (a.put (some d) v).tmps.size = a.tmps.size := by
  show (a.tmps.setIfInBounds d v).size = _
  simp
theorem bit_set (l : Array Bool) (i j : Nat) (d : Bool) (hi : i < l.size) : (l.setIfInBounds i true).getD j d = if j = i then true else l.getD j d := by
  by_cases h : j = i
  · subst h; simp [hi]
  · simp [Ne.symm h, h]

/-- The operation that stands at a place: what it does, where it puts it, which ones go ahead of it. -/
structure OpIs (ops : Array Oper) (i : Nat) (op : Op) (dst : Option Nat) (deps : List Nat) : Prop where
  ex : ∃ o, ops[i]? = some o ∧ o.op = op ∧ o.guard = none ∧ o.dst = dst ∧ o.after.toList.map (fun e => (e.on, Region.binds .any e)) = deps.map (fun j => (j, true))

theorem OpIs.dep {ops : Array Oper} {i : Nat} {op : Op} {dst : Option Nat} {deps : List Nat} (h : OpIs ops i op dst deps) {l : Array Bool} (hm : i ∈ Region.ready .any ops l) {j : Nat} (hj : j ∈ deps) : l.getD j false = true := by
  obtain ⟨o, h1, h2, h3, h4, h5⟩ := h.ex
  unfold Region.ready at hm
  obtain ⟨_, hm⟩ := List.mem_filter.1 hm
  simp only [Bool.and_eq_true, h1, Option.map_some, Option.getD_some, Array.all_eq_true_iff_forall_mem] at hm
  have : (j, true) ∈ o.after.toList.map (fun e => (e.on, Region.binds .any e)) := by rw [h5]; exact List.mem_map.2 ⟨j, hj, rfl⟩
  obtain ⟨e, he, h6⟩ := List.mem_map.1 this
  have h7 := hm.2 e (by simpa using he)
  injection h6 with h8 h9
  rw [h9, h8] at h7
  simpa using h7
theorem OpIs.listed {ops : Array Oper} {i : Nat} {op : Op} {dst : Option Nat} {deps : List Nat} (h : OpIs ops i op dst deps) {l : Array Bool} (hr : Region.ready .any ops l = []) (hd : ∀ j ∈ deps, l.getD j false = true) (hi : i < ops.size) : l.getD i true = true := by
  obtain ⟨o, h1, h2, h3, h4, h5⟩ := h.ex
  cases hl : l.getD i true with
  | true => rfl
  | false =>
    exfalso
    have : i ∈ Region.ready .any ops l := by
      unfold Region.ready
      refine List.mem_filter.2 ⟨List.mem_range.2 hi, ?_⟩
      simp only [Bool.and_eq_true, h1, Option.map_some, Option.getD_some, Array.all_eq_true_iff_forall_mem]
      refine ⟨by rw [hl]; rfl, fun e he => ?_⟩
      have h6 : (e.on, Region.binds .any e) ∈ deps.map (fun j => (j, true)) := by rw [← h5]; exact List.mem_map.2 ⟨e, by simpa using he, rfl⟩
      obtain ⟨j, hj, h7⟩ := List.mem_map.1 h6
      injection h7 with h8 h9
      rw [← h8, hd j hj]; simp
    rw [hr] at this; cases this
theorem OpIs.value {F : Fence} {n : Nat} {P : Program} {ops : Array Oper} {Q : Exit → Act → World → Prop} {i : Nat} {op : Op} {dst : Option Nat} {deps : List Nat} (h : OpIs ops i op dst deps) {a : Act} {w : World} (hd : ∀ c, op ≠ .defer c)
    (hab : ∀ o : Oper, o.op = op → o.about P w a.eval = none) {v : Value} {w' : World} (hr : ∀ o : Oper, o.op = op → (execOp a.eval o).run P w = .ok (.value v) w') {K : Act → World → Prop} (hK : K (a.put dst v) w') : wpOpIn F n P ops Q i K a w := by
  obtain ⟨o, h1, h2, h3, h4, h5⟩ := h.ex
  unfold wpOpIn
  rw [h1]
  simp only [Region.wanted, h3, if_true]
  unfold Oper.wpIn
  rw [Oper.semAt_plain F _ _ (by rw [h2]; exact hd), hr o h2]
  refine ⟨(fun f hf => by rw [hab o h2] at hf; cases hf), ?_⟩
  rw [Oper.uponIn_value, h4]; exact hK
theorem OpIs.skip {F : Fence} {n : Nat} {P : Program} {ops : Array Oper} {Q : Exit → Act → World → Prop} {i : Nat} {op : Op} {dst : Option Nat} {deps : List Nat} (h : OpIs ops i op dst deps) {a : Act} {w : World} (hd : ∀ c, op ≠ .defer c)
    (hab : ∀ o : Oper, o.op = op → o.about P w a.eval = none) {w' : World} (hr : ∀ o : Oper, o.op = op → (execOp a.eval o).run P w = .ok .skip w') {K : Act → World → Prop} (hK : K (a.put dst undef) w') : wpOpIn F n P ops Q i K a w := by
  obtain ⟨o, h1, h2, h3, h4, h5⟩ := h.ex
  unfold wpOpIn
  rw [h1]
  simp only [Region.wanted, h3, if_true]
  unfold Oper.wpIn
  rw [Oper.semAt_plain F _ _ (by rw [h2]; exact hd), hr o h2]
  refine ⟨(fun f hf => by rw [hab o h2] at hf; cases hf), ?_⟩
  rw [Oper.uponIn_skip, h4]; exact hK

end Go.Proofs.YtmanejniepghlaaGreatDoor

/-
  append and copy of bytes as equations on the builtins' runs, and copy at an operation inside a fence.
-/
namespace Go.Proofs.YtmanejniepghlaaGreatDoor
open Go.RowKit

theorem run_append_bytes {w : World} (ty : TypeId) (base : Nat) (v : Value) (l : List UInt8) (hown : OwnB base w v l) (b : Option Addr) (m c : Nat) (l2 : List UInt8) (hsl : SlB w b m c l2) (hlen : l.length + m ≤ 140737488355328) (hbase : base ≤ w.heap.size) :
    ∃ v' w', (Builtin.append_ #[70, 70] ty #[v, .slice b m c]).run Tryz.prog w = .ok v' w' ∧ OwnB base w' v' (l ++ l2) ∧ w.grownBy w' v.ownBlock := by
  obtain ⟨i0, hi, hz0, hz1, hz2⟩ := info_parts info5
  cases b with
  | none =>
    obtain ⟨rfl, rfl⟩ := hsl.2.2.2.1 rfl
    obtain rfl : m = 0 := hsl.1.symm
    exact ⟨v, w, run_append_owned_none (P := Tryz.prog) (w := w) base 70 ty 5 i0 1 Tryz.underlying70 hi v l.length _ hown, by simpa using hown, ⟨rfl, rfl, rfl, Nat.le_refl _, fun _ _ _ => rfl⟩⟩
  | some ad =>
    have hl2 := hsl.len
    obtain ⟨v', w', hrun, h1, h2, _⟩ := run_append_own (P := Tryz.prog) w base 70 ty 5 i0 (.int .u8 0) 1 1 Tryz.underlying70 hi hz0 hz1 hz2 rfl (by decide) v l.length _ hown ad m c (l2.map bv) (by simp [hl2]) (fun j u hj => by
      have hjl : j < l2.length := by
        have := (List.getElem?_eq_some_iff.1 hj).1; simpa using this
      obtain ⟨hsp, hb, this⟩ := hsl.2.2.2.2 ad rfl j hjl
      have hadd : ad.add j = ⟨ad.block, ad.off + j, none⟩ := by
        obtain ⟨b, o, sp⟩ := ad; simp only at hsp; subst hsp; unfold Addr.add; split <;> simp_all
      rw [hadd, this]; rw [← hj]; simp [bv, hjl]) (fun u hu => by obtain ⟨b, _, rfl⟩ := List.mem_map.1 hu; rfl) (by unfold maxLen; omega) (by omega) hbase
    refine ⟨v', w', hrun, ?_, h2⟩
    unfold OwnB; rw [List.length_append, List.map_append, hl2]; exact h1

theorem splice_take {α : Type} (L B : List α) (n off m : Nat) (hB : B.length = m) (h : off + m ≤ n) (hL : n ≤ L.length) : (L.take off ++ B ++ L.drop (off + m)).take n = (L.take n).take off ++ B ++ (L.take n).drop (off + m) := by
  subst hB
  have e1 : (L.take n).take off = L.take off := by rw [List.take_take, Nat.min_eq_left (by omega)]
  have e2 : (L.take off ++ B).length = off + B.length := by rw [List.length_append, List.length_take]; omega
  rw [e1, List.take_append, List.take_of_length_le (by omega), e2, List.drop_take]

/-- copy into a part of an own slice. -/
theorem run_copy_ownb {w : World} (ty : TypeId) {base g n c : Nat} {l : List UInt8} (h : OwnB base w (.slice (some ⟨g, 0, none⟩) n c) l) (off dLen dCap : Nat) (sp : Option Addr) (sLen sCap : Nat) (l2 : List UInt8) (hsl : SlB w sp sLen sCap l2) (hle : sLen = dLen) (hfit : off + dLen ≤ l.length) :
    ∃ w', (Builtin.copy_ #[70, 70] ty #[.slice (some ⟨g, off, none⟩) dLen dCap, .slice sp sLen sCap]).run Tryz.prog w = .ok (goInt dLen) w' ∧ OwnB base w' (.slice (some ⟨g, 0, none⟩) n c) (l.take off ++ l2 ++ l.drop (off + dLen)) ∧ But g w w' := by
  subst hle
  have hsz : (Tryz.prog.info? 5).map (·.size) = some 1 := by kernel_rfl
  have hl2 := hsl.len
  by_cases h0 : sLen = 0
  · have hrun := run_copy_none (P := Tryz.prog) w 70 70 ty 5 (some ⟨g, off, none⟩) sp sLen dCap sLen sCap Tryz.underlying70 hsz (by rw [h0]; rfl)
    refine ⟨w, by rw [hrun, h0]; rfl, ?_, But.refl _ _⟩
    have : l2 = [] := List.eq_nil_of_length_eq_zero (by omega)
    rw [this, h0]; simpa using h
  · cases sp with
    | none => have := (hsl.2.2.2.1 rfl).1; subst this; simp at hl2; omega
    | some ad =>
      have hn : n = l.length := by obtain ⟨a, c', e, -, -⟩ := h.sl; injection e
      subst hn
      rcases h.2 with ⟨hv, _⟩ | ⟨g', cap, cur, hv, hb, hc, hnc, hcm, hcs, ht⟩
      · cases hv
      · injection hv with e1 e2 e3
        cases e1
        subst e3
        have hmin : Nat.min sLen sLen = sLen := Nat.min_self _
        have hrun := run_copy_row (P := Tryz.prog) w 70 70 ty 5 g off sLen dCap ad sLen sCap cur 5 (l2.map bv) Tryz.underlying70 hsz hc (by rw [List.length_map, hl2, hmin]) (fun j v hj => by
          have hj' : j < l2.length := by have := (List.getElem?_eq_some_iff.1 hj).1; simpa using this
          obtain ⟨hsp, hbl, hcc⟩ := hsl.2.2.2.2 ad rfl j hj'
          have hadd : ad.add j = ⟨ad.block, ad.off + j, none⟩ := by
            obtain ⟨b, o, sp⟩ := ad; simp only at hsp; subst hsp; unfold Addr.add; split <;> simp_all
          rw [hadd, hcc, ← hj]; simp [bv, hj']) (by rw [List.length_map, hl2, hcs]; omega) (fun v hv => by obtain ⟨b, _, rfl⟩ := List.mem_map.1 hv; rfl)
        refine ⟨_, by rw [hrun, List.length_map, hl2], ?_, (But.refl _ _).setRow _⟩
        have hnew : (w.setRow g (cur.toList.take off ++ l2.map bv ++ cur.toList.drop (off + sLen)).toArray).heap[g]? = some (.cells (cur.toList.take off ++ l2.map bv ++ cur.toList.drop (off + sLen)).toArray 5 (0, 0)) := setRow_heap w g _ _ _ _ hc
        have hcl : cur.toList.length = c := by simpa using hcs
        have hll : (l.take off ++ l2 ++ l.drop (off + sLen)).length = l.length := by simp; omega
        refine ⟨by rw [List.length_map]; simp, .inr ⟨g, c, _, by rw [hll], hb, hnew, by rw [hll]; exact hnc, hcm, ?_, ?_⟩⟩
        · simp; omega
        · rw [hll]
          rw [Nat.mul_one] at ht ⊢
          rw [splice_take cur.toList (l2.map bv) l.length off sLen (by rw [List.length_map, hl2]) hfit (by omega), ht]
          simp only [List.map_append, List.map_take, List.map_drop]

theorem wpListIn_copy_ownb {F : Fence} {n0 : Nat} {w : World} {ops : Array Oper} {rest : List Oper} {o : Oper} {a : Act} {Q : Exit → Act → World → Prop} (hgd : o.guard = none) (d s : Operand)
    (ho : o.op = .call { callee := .builtin .copy, args := #[d, s], argTypes := #[70, 70] })
    {base g n c : Nat} {l : List UInt8} (h : OwnB base w (.slice (some ⟨g, 0, none⟩) n c) l) (off dLen dCap : Nat) (sp : Option Addr) (sLen sCap : Nat) (l2 : List UInt8) (hd : a.eval d = .slice (some ⟨g, off, none⟩) dLen dCap) (hs : a.eval s = .slice sp sLen sCap) (hsl : SlB w sp sLen sCap l2) (hle : sLen = dLen) (hfit : off + dLen ≤ l.length)
    (hK : ∀ w', OwnB base w' (.slice (some ⟨g, 0, none⟩) n c) (l.take off ++ l2 ++ l.drop (off + dLen)) → But g w w' → wpListIn F n0 Tryz.prog ops Q rest (a.put o.dst (goInt dLen)) w') : wpListIn F n0 Tryz.prog ops Q (o :: rest) a w := by
  refine wpListIn_plain hgd fun K hK' => ?_
  obtain ⟨w', hrun, r1, r2⟩ := run_copy_ownb o.type h off dLen dCap sp sLen sCap l2 hsl hle hfit
  unfold Oper.wpIn
  refine ⟨?_, ?_⟩
  · simp [Oper.about, ho, resolve, Target.leads, Sem.run_pure]
  · rw [Oper.semAt_plain F _ _ (by rw [ho]; intro c hc'; cases hc')]
    simp [execOp, ho, resolve, invoke, builtin, hd, hs, hrun, Result.andThen]
    exact hK' _ _ (hK w' r1 r2)

/-- make of an empty slice of bytes with a capacity. -/
theorem wpList_make_b {w : World} {ops : Array Oper} {rest : List Oper} {o : Oper} {a : Act} {Q : Exit → Act → World → Prop} (hg : o.guard = none) (l c : Operand) (hop : o.op = Op.makeSlice 70 l c)
    (base : Nat) (n : Nat) (C : Int) (hl : a.eval l = .int .i64 0) (hc : a.eval c = .int .i64 C) (hC : C = (n : Int)) (b2 : n ≤ 281474976710656) (b4 : base ≤ w.heap.size)
    (hK : ∀ v w', OwnB base w' v [] → Below w.heap.size w w' → wpList Tryz.prog ops Q rest (a.put o.dst v) w') : wpList Tryz.prog ops Q (o :: rest) a w := by
  obtain ⟨i0, hi, hz0, hz1, hz2⟩ := info_parts info5
  refine wpList_make_own w hg l c 70 hop base 5 i0 _ 1 Tryz.underlying70 hi hz0 hz1 .i64 .i64 C n hl hc hC (by rw [hz2]; omega) (by unfold maxLen; omega) b4 ?_
  intro w' hown hg'
  exact hK _ w' hown ((Below.refl _ _).grown hg' (Nat.le_refl _) (fun k hk => by cases hk))

end Go.Proofs.YtmanejniepghlaaGreatDoor

/-
  The statement out = append(out, b[p.from:p.to]...) of extent.Read inside a round: its operations in any order.
-/
namespace Go.Proofs.YtmanejniepghlaaGreatDoor
open Go.RowKit

theorem bitF {l : Array Bool} {j : Nat} (h : l.getD j false = true) : l.getD j true = true := by
  have hj : j < l.size := by
    rcases Nat.lt_or_ge j l.size with h1 | h1
    · exact h1
    · rw [Array.getD_eq_getD_getElem?, Array.getElem?_eq_none h1] at h; cases h
  rw [Array.getD_eq_getD_getElem?, Array.getElem?_eq_getElem hj] at h ⊢
  simpa using h
theorem bitT {l : Array Bool} {j : Nat} (h : l.getD j true = true) (hj : j < l.size) : l.getD j false = true := by
  rw [Array.getD_eq_getD_getElem?, Array.getElem?_eq_getElem hj] at h ⊢
  simpa using h

/-- How far the statement has come. -/
structure RegInv (X pb : Nat) (vo : Value) (bb q u cc : Nat) (W0 : World) (Fact : Value → World → Prop) (Fin : World → Prop) (l : Array Bool) (a : Act) (W : World) : Prop where
  lsz : l.size = 9
  asz : a.tmps.size = 49
  s11 : a.tmps.getD 11 undef = .pointer (some ⟨X, 0, none⟩)
  s12 : a.tmps.getD 12 undef = .pointer (some ⟨pb, 0, none⟩)
  s13 : a.tmps.getD 13 undef = .slice (some ⟨bb, 0, none⟩) 64 cc
  i0 : l.getD 0 true = true → a.tmps.getD 40 undef = vo
  i1 : l.getD 1 true = true → a.tmps.getD 41 undef = .slice (some ⟨bb, 0, none⟩) 64 cc
  i2 : l.getD 2 true = true → a.tmps.getD 42 undef = .pointer (some ⟨pb, 1, none⟩)
  i3 : l.getD 3 true = true → a.tmps.getD 43 undef = .int .i64 (q : Int)
  i4 : l.getD 4 true = true → a.tmps.getD 44 undef = .pointer (some ⟨pb, 2, none⟩)
  i5 : l.getD 5 true = true → a.tmps.getD 45 undef = .int .i64 (u : Int)
  i6 : l.getD 6 true = true → a.tmps.getD 46 undef = .slice (some ⟨bb, q, none⟩) (u - q) (cc - q)
  o6 : l.getD 6 true = true → l.getD 3 true = true ∧ l.getD 5 true = true
  o7 : l.getD 7 true = true → l.getD 0 true = true ∧ l.getD 6 true = true
  o8 : l.getD 8 true = true → l.getD 7 true = true
  w0 : l.getD 7 true = false → W = W0
  w7 : l.getD 7 true = true → l.getD 8 true = false → Fact (a.tmps.getD 47 undef) W
  w8 : l.getD 8 true = true → Fin W

theorem RegInv.step {X pb : Nat} {vo : Value} {bb q u cc : Nat} {W0 : World} {Fact : Value → World → Prop} {Fin : World → Prop} {l : Array Bool} {a : Act} {W : World} (h : RegInv X pb vo bb q u cc W0 Fact Fin l a W) (i d : Nat) (v : Value) (W' : World)
    (hi : i < 9) (hd : d = i + 40) (hl : l.getD i true = false)
    (g0 : i = 0 → v = vo) (g1 : i = 1 → v = .slice (some ⟨bb, 0, none⟩) 64 cc) (g2 : i = 2 → v = .pointer (some ⟨pb, 1, none⟩)) (g3 : i = 3 → v = .int .i64 (q : Int)) (g4 : i = 4 → v = .pointer (some ⟨pb, 2, none⟩)) (g5 : i = 5 → v = .int .i64 (u : Int)) (g6 : i = 6 → v = .slice (some ⟨bb, q, none⟩) (u - q) (cc - q))
    (p6 : i = 6 → l.getD 3 true = true ∧ l.getD 5 true = true) (p7 : i = 7 → l.getD 0 true = true ∧ l.getD 6 true = true) (h8 : i ≠ 8) (hW : i ≠ 7 → W' = W) (h7 : i = 7 → Fact v W') : RegInv X pb vo bb q u cc W0 Fact Fin (l.setIfInBounds i true) (a.put (some d) v) W' := by
  have hia : i < l.size := by rw [h.lsz]; exact hi
  have hda : d < a.tmps.size := by rw [h.asz]; omega
  have A : ∀ k, (a.put (some d) v).tmps.getD k undef = if k = d then v else a.tmps.getD k undef := fun k => put_getD a d v k hda
  have B : ∀ k, (l.setIfInBounds i true).getD k true = if k = i then true else l.getD k true := fun k => bit_set l i k true hia
  have S : ∀ (j : Nat) (x : Value), (i = j → v = x) → (l.getD j true = true → a.tmps.getD (j + 40) undef = x) → (l.setIfInBounds i true).getD j true = true → (a.put (some d) v).tmps.getD (j + 40) undef = x := by
    intro j x e1 e2 e3
    rw [A]; rw [B] at e3
    by_cases hj : j = i
    · rw [if_pos (by omega)]; exact e1 hj.symm
    · rw [if_neg hj] at e3; rw [if_neg (by omega)]; exact e2 e3
  refine ⟨by simpa using h.lsz, by rw [put_size]; exact h.asz, by rw [A, if_neg (by omega)]; exact h.s11, by rw [A, if_neg (by omega)]; exact h.s12, by rw [A, if_neg (by omega)]; exact h.s13,
    S 0 _ g0 h.i0, S 1 _ g1 h.i1, S 2 _ g2 h.i2, S 3 _ g3 h.i3, S 4 _ g4 h.i4, S 5 _ g5 h.i5, S 6 _ g6 h.i6, ?_, ?_, ?_, ?_, ?_, ?_⟩
  · intro e; rw [B] at e ⊢; rw [B]
    by_cases h6 : 6 = i
    · obtain ⟨e1, e2⟩ := p6 h6.symm; rw [e1, e2]; simp
    · rw [if_neg h6] at e; obtain ⟨e1, e2⟩ := h.o6 e; rw [e1, e2]; simp
  · intro e; rw [B] at e ⊢; rw [B]
    by_cases h7 : 7 = i
    · obtain ⟨e1, e2⟩ := p7 h7.symm; rw [e1, e2]; simp
    · rw [if_neg h7] at e; obtain ⟨e1, e2⟩ := h.o7 e; rw [e1, e2]; simp
  · intro e; rw [B, if_neg (fun e => h8 e.symm)] at e; rw [B, h.o8 e]; simp
  · intro e; rw [B] at e
    by_cases h7' : 7 = i
    · rw [if_pos h7'] at e; cases e
    · rw [if_neg h7'] at e; rw [hW (fun e => h7' e.symm)]; exact h.w0 e
  · intro e e8; rw [B] at e e8; rw [A]
    rw [if_neg (fun e => h8 e.symm)] at e8
    by_cases h7' : 7 = i
    · rw [if_pos (by omega)]; exact h7 h7'.symm
    · rw [if_neg h7'] at e; rw [if_neg (by omega), hW (fun e => h7' e.symm)]; exact h.w7 e e8
  · intro e; rw [B, if_neg (fun e => h8 e.symm)] at e
    by_cases h7' : i = 7
    · -- the eighth behind the seventh
      exfalso
      have := h.o8 e; rw [← h7', hl] at this; cases this
    · rw [hW h7']; exact h.w8 e

set_option maxRecDepth 100000 in
theorem rd_region {F : Fence} {n : Nat} {ops : Array Oper} {Q : Exit → Act → World → Prop} {a : Act} {W : World} (hsz : ops.size = 9)
    (e0 : OpIs ops 0 (.load 70 (.tmp 11)) (some 40) []) (e1 : OpIs ops 1 (.move (.tmp 13)) (some 41) []) (e2 : OpIs ops 2 (.fieldAddr 194 (.tmp 12) 1) (some 42) []) (e3 : OpIs ops 3 (.load 3 (.tmp 42)) (some 43) [2])
    (e4 : OpIs ops 4 (.fieldAddr 194 (.tmp 12) 2) (some 44) []) (e5 : OpIs ops 5 (.load 3 (.tmp 44)) (some 45) [4]) (e6 : OpIs ops 6 (.slice 70 (.tmp 41) (some (.tmp 43)) (some (.tmp 45)) none) (some 46) [1, 3, 5])
    (e7 : OpIs ops 7 (.call { callee := .builtin .append, args := #[.tmp 40, .tmp 46], argTypes := #[70, 70] }) (some 47) [0, 6]) (e8 : OpIs ops 8 (.store 70 (.tmp 11) (.tmp 47)) none [7, 7, 0, 1, 2, 3, 4, 5, 6, 7])
    {X pb bb q u cc base : Nat} {vo : Value} {acc l2 : List UInt8} (ha : a.tmps.size = 49) (h11 : a.tmps.getD 11 undef = .pointer (some ⟨X, 0, none⟩)) (h12 : a.tmps.getD 12 undef = .pointer (some ⟨pb, 0, none⟩)) (h13 : a.tmps.getD 13 undef = .slice (some ⟨bb, 0, none⟩) 64 cc)
    (hX : Boxed W X 70 vo) (hp1 : W.cell? ⟨pb, 1, none⟩ = some (.int .i64 (q : Int))) (hp2 : W.cell? ⟨pb, 2, none⟩ = some (.int .i64 (u : Int))) (hq : q ≤ u) (hu : u ≤ 64) (hc : 64 ≤ cc) (hq6 : q < 64) (hO : OwnB base W vo acc) (hb : base ≤ W.heap.size) (hXb : ∀ k, vo.ownBlock = some k → k ≠ X)
    (hS : SlB W (some ⟨bb, q, none⟩) (u - q) (cc - q) l2) (hlen : acc.length + (u - q) ≤ 140737488355328)
    (hQ : ∀ a' v' W', OwnB base W' v' (acc ++ l2) → W.grownBy W' vo.ownBlock → Q .normal a' (W'.setCell ⟨X, 0, none⟩ v')) :
    wpAnyIn F n Tryz.prog .any ops Q ops.size (Array.replicate ops.size false) a W := by
  obtain ⟨Inv, hInv⟩ : ∃ Inv, Inv = RegInv X pb vo bb q u cc W (fun v W1 => OwnB base W1 v (acc ++ l2) ∧ W.grownBy W1 vo.ownBlock) (fun W2 => ∃ v1 W1, OwnB base W1 v1 (acc ++ l2) ∧ W.grownBy W1 vo.ownBlock ∧ W2 = W1.setCell ⟨X, 0, none⟩ v1) := ⟨_, rfl⟩
  refine wpAnyIn_inv Inv (fun l a W h => by rw [hInv] at h; rw [h.lsz, hsz]) ?_ ?_ _ _ _ _ ?_ ?_
  · -- all have run
    rintro l a1 W1 h hr
    rw [hInv] at h
    have f0 := e0.listed hr (by simp) (by omega)
    have T : ∀ {j : Nat}, l.getD j true = true → j < 9 → l.getD j false = true := fun h1 h2 => bitT h1 (by rw [h.lsz]; exact h2)
    have f1 := e1.listed hr (by simp) (by omega)
    have f2 := e2.listed hr (by simp) (by omega)
    have f4 := e4.listed hr (by simp) (by omega)
    have f3 := e3.listed hr (by intro j hj; simp only [List.mem_cons, List.not_mem_nil, or_false] at hj; rw [hj]; exact T f2 (by omega)) (by omega)
    have f5 := e5.listed hr (by intro j hj; simp only [List.mem_cons, List.not_mem_nil, or_false] at hj; rw [hj]; exact T f4 (by omega)) (by omega)
    have f6 := e6.listed hr (by intro j hj; simp only [List.mem_cons, List.not_mem_nil, or_false] at hj; rcases hj with rfl | rfl | rfl <;> first | exact T f1 (by omega) | exact T f3 (by omega) | exact T f5 (by omega)) (by omega)
    have f7 := e7.listed hr (by intro j hj; simp only [List.mem_cons, List.not_mem_nil, or_false] at hj; rcases hj with rfl | rfl <;> first | exact T f0 (by omega) | exact T f6 (by omega)) (by omega)
    have f8 := e8.listed hr (by intro j hj; simp only [List.mem_cons, List.not_mem_nil, or_false] at hj; rcases hj with rfl | rfl | rfl | rfl | rfl | rfl | rfl | rfl | rfl | rfl <;> first | exact T f0 (by omega) | exact T f1 (by omega) | exact T f2 (by omega) | exact T f3 (by omega) | exact T f4 (by omega) | exact T f5 (by omega) | exact T f6 (by omega) | exact T f7 (by omega)) (by omega)
    obtain ⟨v1, W2, q1, q2, rfl⟩ := h.w8 f8
    exact hQ _ _ _ q1 q2
  · -- one more
    intro l a1 W1 i h hm K' hK
    rw [hInv] at h hK
    obtain ⟨hi, hl⟩ := ready_mem hm
    rw [hsz] at hi
    have n7 : i ≠ 8 → l.getD 8 true = true → l.getD 7 true = true := fun _ => h.o8
    have x11 : a1.tmps[11]?.getD undef = .pointer (some ⟨X, 0, none⟩) := by have := h.s11; rwa [Array.getD_eq_getD_getElem?] at this
    have x12 : a1.tmps[12]?.getD undef = .pointer (some ⟨pb, 0, none⟩) := by have := h.s12; rwa [Array.getD_eq_getD_getElem?] at this
    have x13 : a1.tmps[13]?.getD undef = .slice (some ⟨bb, 0, none⟩) 64 cc := by have := h.s13; rwa [Array.getD_eq_getD_getElem?] at this
    match i, hi with
    | 0, _ =>
      have hW : W1 = W := h.w0 (by cases h7 : l.getD 7 true with | false => rfl | true => have := (h.o7 h7).1; rw [hl] at this; cases this)
      subst hW
      have hcell := hX.cell
      refine e0.value (by simp) (fun o ho => by simp [Oper.about, ho]) (v := vo) (w' := W1) (fun o ho => ?_) (hK _ _ (h.step 0 40 vo W1 (by omega) rfl hl (fun _ => rfl) (by simp) (by simp) (by simp) (by simp) (by simp) (by simp) (by simp) (by simp) (by simp) (fun _ => rfl) (by simp)))
      simp [execOp, ho, x11, go_sem, hcell]
    | 1, _ =>
      refine e1.value (by simp) (fun o ho => by simp [Oper.about, ho]) (v := .slice (some ⟨bb, 0, none⟩) 64 cc) (w' := W1) (fun o ho => ?_) (hK _ _ (h.step 1 41 _ W1 (by omega) rfl hl (by simp) (fun _ => rfl) (by simp) (by simp) (by simp) (by simp) (by simp) (by simp) (by simp) (by simp) (fun _ => rfl) (by simp)))
      simp [execOp, ho, x13, go_sem]
    | 2, _ =>
      refine e2.value (by simp) (fun o ho => by simp [Oper.about, ho]) (v := .pointer (some ⟨pb, 1, none⟩)) (w' := W1) (fun o ho => ?_) (hK _ _ (h.step 2 42 _ W1 (by omega) rfl hl (by simp) (by simp) (fun _ => rfl) (by simp) (by simp) (by simp) (by simp) (by simp) (by simp) (by simp) (fun _ => rfl) (by simp)))
      simp [execOp, ho, x12, go_sem]
    | 4, _ =>
      refine e4.value (by simp) (fun o ho => by simp [Oper.about, ho]) (v := .pointer (some ⟨pb, 2, none⟩)) (w' := W1) (fun o ho => ?_) (hK _ _ (h.step 4 44 _ W1 (by omega) rfl hl (by simp) (by simp) (by simp) (by simp) (fun _ => rfl) (by simp) (by simp) (by simp) (by simp) (by simp) (fun _ => rfl) (by simp)))
      simp [execOp, ho, x12, go_sem]
    | 3, _ =>
      have d2 := e3.dep hm (j := 2) (by simp)
      have hs : a1.tmps[42]?.getD undef = .pointer (some ⟨pb, 1, none⟩) := by have := h.i2 (bitF d2); rwa [Array.getD_eq_getD_getElem?] at this
      have hW : W1 = W := h.w0 (by cases h7 : l.getD 7 true with | false => rfl | true => have := (h.o6 (h.o7 h7).2).1; rw [hl] at this; cases this)
      subst hW
      refine e3.value (by simp) (fun o ho => by simp [Oper.about, ho]) (v := .int .i64 (q : Int)) (w' := W1) (fun o ho => ?_) (hK _ _ (h.step 3 43 _ W1 (by omega) rfl hl (by simp) (by simp) (by simp) (fun _ => rfl) (by simp) (by simp) (by simp) (by simp) (by simp) (by simp) (fun _ => rfl) (by simp)))
      simp [execOp, ho, hs, go_sem, hp1]
    | 5, _ =>
      have d4 := e5.dep hm (j := 4) (by simp)
      have hs : a1.tmps[44]?.getD undef = .pointer (some ⟨pb, 2, none⟩) := by have := h.i4 (bitF d4); rwa [Array.getD_eq_getD_getElem?] at this
      have hW : W1 = W := h.w0 (by cases h7 : l.getD 7 true with | false => rfl | true => have := (h.o6 (h.o7 h7).2).2; rw [hl] at this; cases this)
      subst hW
      refine e5.value (by simp) (fun o ho => by simp [Oper.about, ho]) (v := .int .i64 (u : Int)) (w' := W1) (fun o ho => ?_) (hK _ _ (h.step 5 45 _ W1 (by omega) rfl hl (by simp) (by simp) (by simp) (by simp) (by simp) (fun _ => rfl) (by simp) (by simp) (by simp) (by simp) (fun _ => rfl) (by simp)))
      simp [execOp, ho, hs, go_sem, hp2]
    | 6, _ =>
      have d1 := e6.dep hm (j := 1) (by simp)
      have d3 := e6.dep hm (j := 3) (by simp)
      have d5 := e6.dep hm (j := 5) (by simp)
      have s1 : a1.tmps[41]?.getD undef = .slice (some ⟨bb, 0, none⟩) 64 cc := by have := h.i1 (bitF d1); rwa [Array.getD_eq_getD_getElem?] at this
      have s3 : a1.tmps[43]?.getD undef = .int .i64 (q : Int) := by have := h.i3 (bitF d3); rwa [Array.getD_eq_getD_getElem?] at this
      have s5 : a1.tmps[45]?.getD undef = .int .i64 (u : Int) := by have := h.i5 (bitF d5); rwa [Array.getD_eq_getD_getElem?] at this
      have c1 : ¬ cc = q := by omega
      have c2 : u ≤ cc := by omega
      refine e6.value (by simp) (fun o ho => by simp [Oper.about, ho]) (v := .slice (some ⟨bb, q, none⟩) (u - q) (cc - q)) (w' := W1) (fun o ho => ?_) (hK _ _ (h.step 6 46 _ W1 (by omega) rfl hl (by simp) (by simp) (by simp) (by simp) (by simp) (by simp) (fun _ => rfl) (fun _ => ⟨bitF d3, bitF d5⟩) (by simp) (by simp) (fun _ => rfl) (by simp)))
      simp [execOp, ho, s1, s3, s5, go_sem, c1, c2, hq]
    | 7, _ =>
      have d0 := e7.dep hm (j := 0) (by simp)
      have d6 := e7.dep hm (j := 6) (by simp)
      have hW : W1 = W := h.w0 hl
      subst hW
      obtain ⟨o, ho1, ho2, ho3, ho4, ho5⟩ := id e7.ex
      obtain ⟨v', w', hrun, hv, hg⟩ := run_append_bytes o.type base vo acc hO (some ⟨bb, q, none⟩) (u - q) (cc - q) l2 hS hlen hb
      unfold wpOpIn
      rw [ho1]
      simp only [Region.wanted, ho3, if_true]
      unfold Oper.wpIn
      rw [Oper.semAt_plain F _ _ (by rw [ho2]; intro c hc'; cases hc')]
      refine ⟨by simp [Oper.about, ho2, resolve, Target.leads, Sem.run_pure], ?_⟩
      have : (execOp a1.eval o).run Tryz.prog W1 = .ok (.value v') w' := by
        have s0' : a1.eval (.tmp 40) = vo := h.i0 (bitF d0)
        have s6' : a1.eval (.tmp 46) = .slice (some ⟨bb, q, none⟩) (u - q) (cc - q) := h.i6 (bitF d6)
        simp [execOp, ho2, resolve, invoke, builtin, s0', s6', hrun, Result.andThen]
      rw [this, Oper.uponIn_value, ho4]
      exact hK _ _ (h.step 7 47 v' w' (by omega) rfl hl (by simp) (by simp) (by simp) (by simp) (by simp) (by simp) (by simp) (by simp) (fun _ => ⟨bitF d0, bitF d6⟩) (by simp) (by simp) (fun _ => ⟨hv, hg⟩))
    | 8, _ =>
      have d7 := e8.dep hm (j := 7) (by simp)
      obtain ⟨hv, hg⟩ := h.w7 (bitF d7) hl
      obtain ⟨v', hv'⟩ : ∃ v', v' = a1.tmps.getD 47 undef := ⟨_, rfl⟩
      rw [← hv'] at hv
      have s7 : a1.tmps[47]?.getD undef = v' := by have := hv'.symm; rwa [Array.getD_eq_getD_getElem?] at this
      have hfr : W1.frozen? ⟨X, 0, none⟩ = false := by
        exact (hX.kept hg (fun e => hXb X e.symm rfl)).frozen
      refine e8.skip (by simp) (fun o ho => by simp [Oper.about, ho]) (w' := W1.setCell ⟨X, 0, none⟩ v') (fun o ho => ?_) (hK _ _ ?_)
      · obtain ⟨av, cv, hvv, -, -⟩ := hv.sl
        have hcl := (hX.kept hg (fun e => hXb X e.symm rfl)).cell
        simp [execOp, ho, x11, s7, hvv, go_sem, hfr, hcl]
      · have B : ∀ k, (l.setIfInBounds 8 true).getD k true = if k = 8 then true else l.getD k true := fun k => bit_set l 8 k true (by rw [h.lsz]; omega)
        refine ⟨by simpa using h.lsz, h.asz, h.s11, h.s12, h.s13, ?_, ?_, ?_, ?_, ?_, ?_, ?_, ?_, ?_, ?_, ?_, ?_, ?_⟩
        · intro e; rw [B] at e; exact h.i0 e
        · intro e; rw [B] at e; exact h.i1 e
        · intro e; rw [B] at e; exact h.i2 e
        · intro e; rw [B] at e; exact h.i3 e
        · intro e; rw [B] at e; exact h.i4 e
        · intro e; rw [B] at e; exact h.i5 e
        · intro e; rw [B] at e; exact h.i6 e
        · intro e; rw [B] at e; simp only [B]; exact h.o6 e
        · intro e; rw [B] at e; simp only [B]; exact h.o7 e
        · intro e; rw [B]; exact bitF d7
        · intro e; rw [B] at e; have := bitF d7; rw [if_neg (by decide), this] at e; cases e
        · intro _ e; rw [B] at e; cases e
        · intro _; exact ⟨v', W1, hv, hg, rfl⟩
  · rw [hInv, hsz]
    have : ∀ j, j < 9 → (Array.replicate 9 false).getD j true = false := by decide
    refine ⟨rfl, ha, h11, h12, h13, ?_, ?_, ?_, ?_, ?_, ?_, ?_, ?_, ?_, ?_, fun _ => rfl, ?_, ?_⟩ <;> (intro e; first | (rw [this _ (by decide)] at e; cases e))
  · rw [hsz]; decide

end Go.Proofs.YtmanejniepghlaaGreatDoor

/-
  Frames as plain functions, and their laws. No program in sight.
-/
namespace Go.Proofs.YtmanejniepghlaaGreatDoor.Frame
open Crc Super

def size (n : Int) : Int := if n < 0 ∨ 1024 < n then 0 else 14 + n
/-- All but the checksum. -/
def head (ep sq : Nat) (p : List UInt8) : List UInt8 := le 2 p.length ++ le 4 ep ++ le 4 sq ++ p
def enc (ep sq : Nat) (p : List UInt8) : List UInt8 := head ep sq p ++ le 4 (update 0 (head ep sq p))
/-- The length that a frame names. -/
def len2 (b : List UInt8) : Nat := unle (b.take 2)
/-- The result of Decode: the payload, the size and the error's number. -/
def dec (b : List UInt8) (ep sq : Nat) : List UInt8 × Nat × Int :=
  if b.length < 14 then ([], 0, 5)
  else if 1024 < len2 b then ([], 0, 3)
  else if b.length < 14 + len2 b then ([], 0, 5)
  else if unle ((b.drop (10 + len2 b)).take 4) ≠ update 0 (b.take (10 + len2 b)) then ([], 0, 7)
  else if unle ((b.drop 2).take 4) ≠ ep ∨ unle ((b.drop 6).take 4) ≠ sq then ([], 0, 8)
  else ((b.drop 10).take (len2 b), 14 + len2 b, 0)

theorem len2_lt (b : List UInt8) : len2 b < 65536 := by
  have h := unle_lt (b.take 2)
  have h2 : (b.take 2).length ≤ 2 := List.length_take_le _ _
  exact Nat.lt_of_lt_of_le h (Nat.le_trans (Nat.pow_le_pow_right (by decide) h2) (by decide))
theorem head_length (ep sq : Nat) (p : List UInt8) : (head ep sq p).length = 10 + p.length := by simp [head, le_length]; omega
theorem enc_length (ep sq : Nat) (p : List UInt8) : (enc ep sq p).length = 14 + p.length := by simp [enc, head_length, le_length]; omega

theorem enc_parts (ep sq : Nat) (p r : List UInt8) : enc ep sq p ++ r = le 2 p.length ++ (le 4 ep ++ (le 4 sq ++ (p ++ (le 4 (update 0 (head ep sq p)) ++ r)))) := by simp [enc, head]
theorem drop_app {a b : List UInt8} (n : Nat) (h : a.length ≤ n) : (a ++ b).drop n = b.drop (n - a.length) := by
  rw [List.drop_append, List.drop_eq_nil_of_le h, List.nil_append]

theorem len2_enc (ep sq : Nat) (p r : List UInt8) (hp : p.length ≤ 1024) : len2 (enc ep sq p ++ r) = p.length := by
  unfold len2
  rw [enc_parts, List.take_append_of_le_length (by rw [le_length]; omega), List.take_of_length_le (by rw [le_length]; omega), unle_le, Nat.mod_eq_of_lt (by omega)]
theorem f2 (ep sq : Nat) (p r : List UInt8) (h : ep < 4294967296) : unle (((enc ep sq p ++ r).drop 2).take 4) = ep := by
  rw [enc_parts, drop_app 2 (by rw [le_length]; omega), le_length, Nat.sub_self, List.drop_zero, List.take_append_of_le_length (by rw [le_length]; omega), List.take_of_length_le (by rw [le_length]; omega), unle_le, Nat.mod_eq_of_lt (by omega)]
theorem f6 (ep sq : Nat) (p r : List UInt8) (h : sq < 4294967296) : unle (((enc ep sq p ++ r).drop 6).take 4) = sq := by
  rw [enc_parts, drop_app 6 (by rw [le_length]; omega), le_length, drop_app _ (by rw [le_length]; omega), le_length, List.drop_zero, List.take_append_of_le_length (by rw [le_length]; omega), List.take_of_length_le (by rw [le_length]; omega), unle_le, Nat.mod_eq_of_lt (by omega)]
theorem f10 (ep sq : Nat) (p r : List UInt8) : ((enc ep sq p ++ r).drop 10).take p.length = p := by
  rw [enc_parts, drop_app 10 (by rw [le_length]; omega), le_length, drop_app _ (by rw [le_length]; omega), le_length, drop_app _ (by rw [le_length]; omega), le_length, List.drop_zero, List.take_left]
theorem fsum (ep sq : Nat) (p r : List UInt8) : unle (((enc ep sq p ++ r).drop (10 + p.length)).take 4) = update 0 (head ep sq p) := by
  have h := head_length ep sq p
  rw [enc, List.append_assoc, ← h, List.drop_left, List.take_append_of_le_length (by rw [le_length]; omega), List.take_of_length_le (by rw [le_length]; omega), unle_le, Nat.mod_eq_of_lt (update_lt _ _)]
theorem fhead (ep sq : Nat) (p r : List UInt8) : (enc ep sq p ++ r).take (10 + p.length) = head ep sq p := by
  have h := head_length ep sq p
  rw [enc, List.append_assoc, ← h, List.take_left]

theorem dec_enc (ep sq : Nat) (p r : List UInt8) (hp : p.length ≤ 1024) (he : ep < 4294967296) (hs : sq < 4294967296) : dec (enc ep sq p ++ r) ep sq = (p, 14 + p.length, 0) := by
  have hl := enc_length ep sq p
  unfold dec
  rw [if_neg (by simp; omega), len2_enc _ _ _ _ hp, if_neg (by omega), if_neg (by simp; omega), fsum, fhead, if_neg (by simp), f2 _ _ _ _ he, f6 _ _ _ _ hs, if_neg (by simp), f10]
/-- What a successful Decode says. -/
theorem dec_ok (b : List UInt8) (ep sq : Nat) (h : (dec b ep sq).2.2 = 0) : (dec b ep sq).2.1 = 14 + (dec b ep sq).1.length ∧ (dec b ep sq).2.1 ≤ b.length ∧ (dec b ep sq).1.length ≤ 1024 := by
  unfold dec at h ⊢
  by_cases h1 : b.length < 14
  · rw [if_pos h1] at h; simp at h
  rw [if_neg h1] at h ⊢
  by_cases h2 : 1024 < len2 b
  · rw [if_pos h2] at h; simp at h
  rw [if_neg h2] at h ⊢
  by_cases h3 : b.length < 14 + len2 b
  · rw [if_pos h3] at h; simp at h
  rw [if_neg h3] at h ⊢
  by_cases h4 : unle ((b.drop (10 + len2 b)).take 4) ≠ update 0 (b.take (10 + len2 b))
  · rw [if_pos h4] at h; simp at h
  rw [if_neg h4] at h ⊢
  by_cases h5 : unle ((b.drop 2).take 4) ≠ ep ∨ unle ((b.drop 6).take 4) ≠ sq
  · rw [if_pos h5] at h; simp at h
  rw [if_neg h5]
  simp; omega
/-! ### Damage -/
/-! ### Frames one behind the other -/
def go (b : List UInt8) (ep : Nat) : Nat → Nat → List (List UInt8) → Nat → List (List UInt8) × Nat
  | 0, _, out, e => (out, e)
  | f + 1, k, out, e => if (dec (b.drop e) ep k).2.2 = 0 then go b ep f (k + 1) (out ++ [(dec (b.drop e) ep k).1]) (e + (dec (b.drop e) ep k).2.1) else (out, e)
def scan (b : List UInt8) (ep : Nat) : List (List UInt8) × Nat := go b ep (b.length + 1) 0 [] 0

theorem go_ok (b : List UInt8) (ep f k : Nat) (out : List (List UInt8)) (e : Nat) (h : (dec (b.drop e) ep k).2.2 = 0) : go b ep (f + 1) k out e = go b ep f (k + 1) (out ++ [(dec (b.drop e) ep k).1]) (e + (dec (b.drop e) ep k).2.1) := by rw [go, if_pos h]
theorem go_end (b : List UInt8) (ep f k : Nat) (out : List (List UInt8)) (e : Nat) (h : (dec (b.drop e) ep k).2.2 ≠ 0) : go b ep (f + 1) k out e = (out, e) := by rw [go, if_neg h]

/-- The frames of payloads, numbered from k on. -/
def cat (ep : Nat) : Nat → List (List UInt8) → List UInt8
  | _, [] => []
  | k, p :: ps => enc ep k p ++ cat ep (k + 1) ps
theorem cat_snoc (ep : Nat) (ps : List (List UInt8)) (p : List UInt8) : ∀ k, cat ep k (ps ++ [p]) = cat ep k ps ++ enc ep (k + ps.length) p := by
  induction ps with
  | nil => intro k; simp [cat]
  | cons q ps ih => intro k; rw [List.cons_append, cat, cat, ih, List.append_assoc, List.length_cons, show k + 1 + ps.length = k + (ps.length + 1) by omega]
end Go.Proofs.YtmanejniepghlaaGreatDoor.Frame

/-
  Slices of slices of bytes: what they read as, append, comparison.
-/
namespace Go.Proofs.YtmanejniepghlaaGreatDoor
open Go.RowKit

/-- The slice of slices reads as the lists. -/
def SlL (w : World) (a : Option Addr) (n c : Nat) (ls : List (List UInt8)) : Prop :=
  ls.length = n ∧ n ≤ c ∧ c ≤ maxLen ∧ (a = none → ls = [] ∧ c = 0) ∧
    ∀ x, a = some x → ∀ i (h : i < ls.length), x.spot = none ∧ x.block < w.heap.size ∧ ∃ b m d, w.cell? ⟨x.block, x.off + i, none⟩ = some (.slice b m d) ∧ SlB w b m d ls[i]

theorem SlL.len {w : World} {a : Option Addr} {n c : Nat} {l : List (List UInt8)} (h : SlL w a n c l) : l.length = n := h.1
theorem SlL.le {w : World} {a : Option Addr} {n c : Nat} {l : List (List UInt8)} (h : SlL w a n c l) : n ≤ 9223372036854775807 := by
  have := h.2.1; have := h.2.2.1; unfold maxLen at *; omega
theorem SlL.nil (w : World) : SlL w none 0 0 [] := ⟨rfl, Nat.le_refl _, by unfold maxLen; omega, fun _ => ⟨rfl, rfl⟩, fun x hx => by cases hx⟩
theorem SlL.at {w : World} {a : Option Addr} {n c : Nat} {l : List (List UInt8)} (h : SlL w a n c l) {k : Nat} (hk : k < n) :
    ∃ b o, a = some ⟨b, o, none⟩ ∧ b < w.heap.size ∧ ∃ p m d, w.cell? ⟨b, o + k, none⟩ = some (.slice p m d) ∧ SlB w p m d (l[k]?.getD []) := by
  obtain ⟨hl, hn, hc, h0, h1⟩ := h
  cases a with
  | none => have := (h0 rfl).1; subst this; simp at hl; omega
  | some x =>
    obtain ⟨b, o, sp⟩ := x
    have hk' : k < l.length := by omega
    obtain ⟨hs, hb, p, m, d, hi, hq⟩ := h1 _ rfl k hk'
    simp only at hs; subst hs
    refine ⟨b, o, rfl, hb, p, m, d, hi, ?_⟩
    rw [List.getElem?_eq_getElem hk']
    exact hq
theorem SlL.ext {w w' : World} {a : Option Addr} {n c : Nat} {l : List (List UInt8)} (h : SlL w a n c l) (e : Below w.heap.size w w') : SlL w' a n c l := by
  obtain ⟨hl, hn, hc, h0, h1⟩ := h
  refine ⟨hl, hn, hc, h0, fun x hx i hi => ?_⟩
  obtain ⟨hs, hb, p, m, d, hi, hq⟩ := h1 x hx i hi
  exact ⟨hs, Nat.lt_of_lt_of_le hb e.size, p, m, d, (e.cell (p := ⟨x.block, x.off + i, none⟩) hb).trans hi, hq.ext e⟩
theorem SlL.take {w : World} {a : Option Addr} {n c : Nat} {l : List (List UInt8)} (h : SlL w a n c l) {k : Nat} (hk : k ≤ n) : SlL w a k c (l.take k) := by
  obtain ⟨hl, hn, hc, h0, h1⟩ := h
  refine ⟨by simp; omega, by omega, hc, fun e => by simp [h0 e], fun x hx i hi => ?_⟩
  have hi' : i < l.length := by simp at hi; omega
  obtain ⟨hs, hb, p, m, d, hcl, hq⟩ := h1 x hx i hi'
  exact ⟨hs, hb, p, m, d, hcl, by simpa using hq⟩

theorem info26 : (Tryz.prog.info? 70).map (fun i => (i.zero, i.size, i.bytes)) = some (some (.slice none 0 0), 1, 24) := by kernel_rfl

/-- The slice of slices is the call's own, and so are its parts. -/
def OwnL (base : Nat) (w : World) (v : Value) (ls : List (List UInt8)) : Prop :=
  ∃ vs : List Value, w.ownsRow base 70 1 v ls.length vs ∧ ∀ i, i < ls.length → ∃ u, vs[i]? = some u ∧ OwnB base w u (ls[i]?.getD [])

theorem OwnL.nil (base : Nat) (w : World) : OwnL base w (.slice none 0 0) [] := ⟨[], World.ownsRow_nil w base _ _, fun i hi => by simp at hi⟩
theorem OwnL.lt {base : Nat} {w : World} {v : Value} {ls : List (List UInt8)} (h : OwnL base w v ls) : ∀ k, v.ownBlock = some k → base ≤ k ∧ k < w.heap.size := by
  obtain ⟨vs, h1, _⟩ := h; exact World.ownsRow.lt h1
theorem OwnL.ext {base : Nat} {w w' : World} {v : Value} {ls : List (List UInt8)} (h : OwnL base w v ls) (e : Below w.heap.size w w') : OwnL base w' v ls := by
  obtain ⟨vs, h1, h2⟩ := h
  refine ⟨vs, ⟨h1.1, ?_⟩, fun i hi => ?_⟩
  · rcases h1.2 with hn | ⟨g, cap, cur, rfl, hb, hgg, rest⟩
    · exact .inl hn
    · exact .inr ⟨g, cap, cur, rfl, hb, (e.block g (Array.getElem?_eq_some_iff.1 hgg).1).trans hgg, rest⟩
  · obtain ⟨u, h3, h4⟩ := h2 i hi
    exact ⟨u, h3, h4.ext e⟩
theorem OwnL.sl {base : Nat} {w : World} {v : Value} {ls : List (List UInt8)} (h : OwnL base w v ls) : ∃ a c, v = .slice a ls.length c ∧ SlL w a ls.length c ls := by
  obtain ⟨vs, h1, h2⟩ := h
  rcases id h1.2 with ⟨hv, hn⟩ | ⟨g, cap, cur, hv, hg, hc, hnc, hcm, hcs, htake⟩
  · have hl : ls = [] := List.eq_nil_of_length_eq_zero hn
    subst hl
    exact ⟨none, 0, hv, SlL.nil w⟩
  · refine ⟨some ⟨g, 0, none⟩, cap, hv, ⟨rfl, hnc, hcm, (fun h => by cases h), fun x hx i hi => ?_⟩⟩
    cases hx
    refine ⟨rfl, (Array.getElem?_eq_some_iff.1 hc).1, ?_⟩
    obtain ⟨u, h3, h4⟩ := h2 i hi
    obtain ⟨p, d, rfl, h5, -⟩ := h4.sl
    have e : ls[i]?.getD [] = ls[i] := by simp [hi]
    rw [e] at h3 h5
    refine ⟨p, ls[i].length, d, ?_, h5⟩
    · have hl : vs.length = ls.length := by rw [h1.1]; simp
      have := World.ownsRow.cellAt (g := g) (cap := cap) (by rw [← hv]; exact h1) i (by omega)
      simp only [Nat.zero_add]
      rw [this]; simpa using h3

/-- What is no row of slices is kept by an append to a row of slices. -/
theorem OwnB.grownL {base : Nat} {w w' : World} {u v : Value} {l : List UInt8} {n : Nat} {vs : List Value} (h : OwnB base w u l) (hv : w.ownsRow base 70 1 v n vs) (hg : w.grownBy w' v.ownBlock) : OwnB base w' u l := by
  refine ⟨h.1, ?_⟩
  rcases h.2 with hn | ⟨g, cap, cur, rfl, hb, hgg, rest⟩
  · exact .inl hn
  · refine .inr ⟨g, cap, cur, rfl, hb, (hg.block g (heap_lt hgg) ?_).trans hgg, rest⟩
    intro e
    rcases hv.2 with ⟨rfl, _⟩ | ⟨g', cap', cur', rfl, _, hgg', _⟩
    · cases e
    · simp [Value.ownBlock] at e
      subst e
      rw [hgg] at hgg'
      cases hgg'

/-- append of one slice of bytes to a slice of slices. -/
theorem wpList_append_list {w : World} {ops : Array Oper} {rest : List Oper} {o : Oper} {a : Act} {Q : Exit → Act → World → Prop} (hgd : o.guard = none) (s x : Operand)
    (ho : o.op = .call { callee := .builtin .append, args := #[s, x], argTypes := #[112, 112] })
    (base : Nat) (v : Value) (ls : List (List UInt8)) (hs : a.eval s = v) (hown : OwnL base w v ls) (u : Value) (l : List UInt8) (hu : OwnB base w u l)
    (t : TypeId) (W : World) (hW : W = w.alloc (.cells #[u] t)) (k : Nat) (hk : k = w.heap.size) (hx : a.eval x = .slice (some ⟨k, 0, none⟩) 1 1)
    (hlen : ls.length ≤ 1000000000) (hbase : base ≤ w.heap.size)
    (h : ∀ v' w', OwnL base w' v' (ls ++ [l]) → Below base w w' → wpList Tryz.prog ops Q rest (a.put o.dst v') w') : wpList Tryz.prog ops Q (o :: rest) a W := by
  subst hW; subst hk
  obtain ⟨i0, hi, hz0, hz1, hz2⟩ := info_parts info26
  obtain ⟨vs, h1, h2⟩ := hown
  have hvl : vs.length = ls.length := by rw [h1.1]; simp
  refine wpList_append_own (w.alloc (.cells #[u] t)) hgd s x 112 ho base 70 i0 (.slice none 0 0) 1 24 Tryz.underlying112 hi hz0 hz1 hz2 rfl (by decide) v ls.length vs hs (h1.alloc _) ⟨w.heap.size, 0, none⟩ 1 1 [u] hx rfl ?_ ?_ (by unfold maxLen; omega) (by omega) (by simp; omega) ?_
  · intro j q hj
    obtain ⟨rfl, rfl⟩ : j = 0 ∧ q = u := by
      cases j with
      | zero => exact ⟨rfl, by simpa using hj.symm⟩
      | succ j => simp at hj
    have hadd : (⟨w.heap.size, 0, none⟩ : Addr).add 0 = ⟨w.heap.size, 0, none⟩ := by unfold Addr.add; split <;> simp_all
    rw [hadd, World.cell?_alloc_at _ _ _ _ rfl]; rfl
  · intro q hq
    simp at hq; subst hq
    obtain ⟨p, d, rfl, -⟩ := hu.sl
    rfl
  · intro v' w' h3 h4 _
    have hal : Below base w (w.alloc (.cells #[u] t)) := (Below.refl _ _).alloc hbase _
    refine h v' w' ⟨vs ++ [u], by simpa using h3, fun i hi => ?_⟩ (hal.grown h4 (by simp; omega) (fun k hk => ((World.ownsRow.lt h1) k hk).1))
    have hkeep : ∀ q m, OwnB base w q m → OwnB base w' q m := fun q m hq => (hq.alloc (.cells #[u] t)).grownL (h1.alloc (.cells #[u] t)) h4
    by_cases hil : i < ls.length
    · obtain ⟨q, h5, h6⟩ := h2 i hil
      refine ⟨q, ?_, ?_⟩
      · rw [List.getElem?_append_left (by omega)]; exact h5
      · rw [List.getElem?_append_left hil]; exact hkeep _ _ h6
    · obtain rfl : i = ls.length := by simp at hi; omega
      refine ⟨u, ?_, ?_⟩
      · rw [List.getElem?_append_right (by omega), hvl]; simp
      · rw [List.getElem?_append_right (by omega)]; simpa using hkeep _ _ hu

end Go.Proofs.YtmanejniepghlaaGreatDoor
