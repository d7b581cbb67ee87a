/-
  Scripts of law 08: slices of operations, how such an argument is opened; small of law 08.
-/
import Derived.Test.YtabeelcidlhniaaGreatOpen
import Derived.Test.YtabeelcidlhniaaGreatKeep
namespace Go.Proofs.YtabeelcidlhniaaGreat
open Go.RowKit

/-- An operation of a script. -/
structure O8 where
  kind : Int
  data : List UInt8
  fs : List (Int × Int)
  ks : List (Int × Int)
instance : Inhabited O8 := ⟨⟨0, [], [], []⟩⟩

def i64b (z : Int) : Prop := -9223372036854775808 ≤ z ∧ z ≤ 9223372036854775807
theorem i64b_of {z : Int} (h : (Lit.int .i64 z).wf = true) : i64b z := by
  simp [Lit.wf, IntKind.min, IntKind.max, IntKind.signed, IntKind.bits] at h
  exact ⟨by omega, by omega⟩

/-- The cells of an operation at an address. -/
def IsO8 (w : World) (b o : Nat) (x : O8) : Prop :=
  i64b x.kind ∧ w.cell? ⟨b, o, none⟩ = some (.int .i64 x.kind) ∧ (∃ p m d, w.cell? ⟨b, o + 1, none⟩ = some (.slice p m d) ∧ SlB w p m d x.data) ∧
    (∃ p m d, w.cell? ⟨b, o + 2, none⟩ = some (.slice p m d) ∧ SlP w p m d x.fs) ∧ (∃ p m d, w.cell? ⟨b, o + 3, none⟩ = some (.slice p m d) ∧ SlP w p m d x.ks)
theorem IsO8.ext {w w' : World} {b o : Nat} {x : O8} (h : IsO8 w b o x) (hb : b < w.heap.size) (e : Below w.heap.size w w') : IsO8 w' b o x := by
  obtain ⟨h1, h3, ⟨p, m, d, h5, h6⟩, ⟨p1, m1, d1, h7, h8⟩, ⟨p2, m2, d2, h9, h10⟩⟩ := h
  exact ⟨h1, (e.cell (p := ⟨b, o, none⟩) hb).trans h3, ⟨p, m, d, (e.cell (p := ⟨b, o + 1, none⟩) hb).trans h5, h6.ext e⟩, ⟨p1, m1, d1, (e.cell (p := ⟨b, o + 2, none⟩) hb).trans h7, h8.ext e⟩,
    ⟨p2, m2, d2, (e.cell (p := ⟨b, o + 3, none⟩) hb).trans h9, h10.ext e⟩⟩

/-- The slice reads as the operations. -/
def SlO8 (w : World) (a : Option Addr) (n c : Nat) (l : List O8) : Prop :=
  l.length = n ∧ n ≤ c ∧ c ≤ maxLen ∧ (a = none → l = [] ∧ c = 0) ∧
    ∀ x, a = some x → ∀ i (h : i < l.length), x.spot = none ∧ x.block < w.heap.size ∧ IsO8 w x.block (x.off + i * 4) l[i]
theorem SlO8.len {w : World} {a : Option Addr} {n c : Nat} {l : List O8} (h : SlO8 w a n c l) : l.length = n := h.1
theorem SlO8.le {w : World} {a : Option Addr} {n c : Nat} {l : List O8} (h : SlO8 w a n c l) : n ≤ 9223372036854775807 := by
  have := h.2.1; have := h.2.2.1; unfold maxLen at *; omega
theorem SlO8.nil (w : World) : SlO8 w none 0 0 [] := ⟨rfl, Nat.le_refl _, by unfold maxLen; omega, fun _ => ⟨rfl, rfl⟩, fun x hx => by cases hx⟩
theorem SlO8.at {w : World} {a : Option Addr} {n c : Nat} {l : List O8} (h : SlO8 w a n c l) {k : Nat} (hk : k < n) : ∃ b o x, a = some ⟨b, o, none⟩ ∧ b < w.heap.size ∧ l[k]? = some x ∧ IsO8 w b (o + k * 4) x := by
  obtain ⟨hl, hn, hc, h0, h1⟩ := h
  cases a with
  | none => have := (h0 rfl).1; subst this; simp at hl; omega
  | some x =>
    obtain ⟨b, o, sp⟩ := x
    have hk' : k < l.length := by omega
    obtain ⟨hs, hb, hq⟩ := h1 _ rfl k hk'
    simp only at hs; subst hs
    exact ⟨b, o, l[k], rfl, hb, List.getElem?_eq_getElem hk', hq⟩
theorem SlO8.ext {w w' : World} {a : Option Addr} {n c : Nat} {l : List O8} (h : SlO8 w a n c l) (e : Below w.heap.size w w') : SlO8 w' a n c l := by
  obtain ⟨hl, hn, hc, h0, h1⟩ := h
  refine ⟨hl, hn, hc, h0, fun x hx i hi => ?_⟩
  obtain ⟨hs, hb, hq⟩ := h1 x hx i hi
  exact ⟨hs, Nat.lt_of_lt_of_le hb e.size, hq.ext hb e⟩

section
open Go.ChangeShapes Go.WideShapes Go.ChangeAt
variable {H : Type} {enc : TypeId × Value → H} {w : World} {base : Nat} {held : Bool}
set_option maxRecDepth 100000 in
theorem open_ops8 {fuel : Nat} {v : Value} {x : DataW H × List MemPlace} (h : DataW.trod enc Tryz.prog w base (fun _ => true) held fuel 25 [v] = some x) : ∃ a n c l, v = .slice a n c ∧ SlO8 w a n c l := by
  rcases Go.Deep.open_slice Tryz.underlying25 h with ⟨hcs, _⟩ | ⟨a, len, cap, m, n, D, Pl, hcs, hb, hl, hm, hmm, hx, hi⟩
  · exact ⟨none, 0, 0, [], List.singleton_inj.1 hcs, SlO8.nil w⟩
  · have hlm : len ≤ m := by rw [hmm]; split <;> omega
    have hC : Tryz.prog.cellsOf 41 = 4 := by kernel_rfl
    have he := Tryz.underlying41
    have hel : ∀ i, i < len → ∃ q : O8, ∀ b o, a = ⟨b, o, none⟩ → IsO8 w b (o + i * 4) q := by
      intro i hil
      obtain ⟨cs', hc, ht'⟩ := hi i (by omega)
      rw [hC] at hc
      obtain ⟨z0, c0, w0⟩ := elem_int he hc ht' 0 _ rfl 0 rfl (by omega) .i64 Tryz.underlying3 (by kernel_rfl)
      obtain ⟨v2, m2, y2, c2, t2⟩ := elem_field he hc ht' 1 _ rfl 1 rfl (by omega) (by kernel_rfl)
      obtain ⟨v3, m3, y3, c3, t3⟩ := elem_field he hc ht' 2 _ rfl 2 rfl (by omega) (by kernel_rfl)
      obtain ⟨v4, m4, y4, c4, t4⟩ := elem_field he hc ht' 3 _ rfl 3 rfl (by omega) (by kernel_rfl)
      obtain ⟨p2, n2, d2, l2, rfl, s2⟩ := open_bytes Tryz.underlying37 Tryz.underlying5 (by kernel_rfl) t2
      obtain ⟨p3, n3, d3, l3, rfl, s3⟩ := open_faults t3
      obtain ⟨p4, n4, d4, l4, rfl, s4⟩ := open_keeps t4
      refine ⟨⟨z0, l2, l3, l4⟩, fun b o hab => ?_⟩
      subst hab
      have hadd : ∀ (p : Nat) j, (⟨b, p, none⟩ : Addr).add j = ⟨b, p + j, none⟩ := by intro p j; unfold Addr.add; split <;> simp_all
      simp only [hadd] at c0 c2 c3 c4
      exact ⟨i64b_of w0, c0, ⟨_, _, _, c2, s2⟩, ⟨_, _, _, c3, s3⟩, ⟨_, _, _, c4, s4⟩⟩
    obtain ⟨p, hp⟩ := Go.Deep.choose_lt (α := O8) (p := fun i q => ∀ b o, a = ⟨b, o, none⟩ → IsO8 w b (o + i * 4) q) hel
    have hspot : 0 < len → a.spot = none := by
      intro hil
      obtain ⟨cs', hc, ht'⟩ := hi 0 (by omega)
      rw [hC] at hc
      obtain ⟨z0, c0, _⟩ := elem_int he hc ht' 0 _ rfl 0 rfl (by omega) .i64 Tryz.underlying3 (by kernel_rfl)
      have h2 := World.cell?_spot c0
      revert h2
      obtain ⟨b, o, sp⟩ := a
      unfold Addr.add; split <;> simp_all
    refine ⟨some a, len, cap, (List.range len).map p, List.singleton_inj.1 hcs, by simp, hl, hm, (fun h => by cases h), fun y hy i hil => ?_⟩
    cases hy
    simp at hil
    have hsp := hspot (by omega)
    obtain ⟨b, o, sp⟩ := a
    simp only at hsp; subst hsp
    have hq := hp i hil b o rfl
    refine ⟨rfl, World.block_lt_of_cell? w ⟨b, o + i * 4, none⟩ hq.2.1, ?_⟩
    simpa using hq
end


def O8.Small (x : O8) : Prop := x.data.length ≤ 1026 ∧ x.fs.length ≤ 66 ∧ x.ks.length ≤ 80

theorem keep_smallf (a : Option Addr) (n c : Nat) (w : World) (hn : n ≤ 9223372036854775807) : Calls Tryz.prog 29 #[.slice a n c] w fun e w' => e = .returned (.bool (decide (n ≤ 66))) ∧ w = w' := by
  have hd : decide ((n : Int) ≤ 66) = decide (n ≤ 66) := by by_cases h : n ≤ 66 <;> simp [h] <;> omega
  go_enter Tryz.func29, Tryz.ntmps29
  go_wp2
  go_ret
  exact ⟨by rw [← hd]; rfl, rfl⟩

/-- What small says of a script. -/
def SmallPost8 (n : Nat) (l : List O8) (w : World) (e : Ending) (w' : World) : Prop := ∃ r, e = .returned (.bool r) ∧ (r = true → n ≤ 40 ∧ ∀ x ∈ l, x.Small) ∧ w' = w

set_option maxRecDepth 100000 in
set_option maxHeartbeats 2000000 in
theorem law8_small (a : Option Addr) (n c : Nat) (l : List O8) (w : World) (h : SlO8 w a n c l) :
    Calls Tryz.prog 4 #[.slice a n c] w (SmallPost8 n l w) := by
  have hle := h.le
  by_cases hn : 40 < n
  · go_enter Tryz.func4, Tryz.ntmps4
    go_wp2
    go_ret
    exact ⟨false, rfl, (fun e => by cases e), rfl⟩
  have HL := Lib.hid h.len
  go_enter Tryz.func4, Tryz.ntmps4
  go_wp2
  go_loopw [3] (fun i wr => ∃ k : Nat, k ≤ n ∧ i = .int .i64 k ∧ Hid (∀ j, j < k → ∀ x, l[j]? = some x → x.Small) ∧ wr = w) (fun i _ => n - (intOf i).toNat)
  case atStart => exact ⟨0, by omega, rfl, Lib.hid (fun j hj => by omega), rfl⟩
  case round =>
    obtain ⟨k, hk, rfl, HS, rfl⟩ := hrel
    by_cases hlt : k < n
    · obtain ⟨b, o, x, rfl, hb, hx, hi⟩ := h.at hlt
      obtain ⟨-, -, ⟨p, m, d, c2, s2⟩, ⟨p1, m1, d1, c3, s3⟩, ⟨p2, m2, d2, c4, s4⟩⟩ := hi
      have l2 := s2.len; have l3 := s3.len; have l4 := s4.len
      have e2 := s2.le; have e3 := s3.le; have e4 := s4.le
      have i0 : (0 : Int) ≤ (k : Int) := by omega
      have i1 : (k : Int) < (n : Int) := by omega
      have HX := Lib.hid (And.intro hx (And.intro l2 (And.intro l3 l4)))
      clear hx l2 l3 l4 s2 s3 s4
      by_cases b1 : 1026 < m
      · go_wp2
        go_ret
        exact ⟨false, rfl, (fun e => by cases e), rfl⟩
      by_cases b2 : 66 < m1
      · have t2 : decide (m1 ≤ 66) = false := by simp; omega
        go_wp2_with (go_at_call 29; go_must (refine (keep_smallf _ _ _ _ e3).mono ?_); rintro e w1 ⟨rfl, rfl⟩)
        go_ret
        exact ⟨false, rfl, (fun e => by cases e), rfl⟩
      have t2 : decide (m1 ≤ 66) = true := by simp; omega
      by_cases b3 : 80 < m2
      · go_wp2_with (go_at_call 29; go_must (refine (keep_smallf _ _ _ _ e3).mono ?_); rintro e w1 ⟨rfl, rfl⟩)
        go_ret
        exact ⟨false, rfl, (fun e => by cases e), rfl⟩
      go_wp2_with (go_at_call 29; go_must (refine (keep_smallf _ _ _ _ e3).mono ?_); rintro e w1 ⟨rfl, rfl⟩)
      refine ⟨⟨k + 1, by omega, by go_num, ⟨Lib.hid (fun j hj y hy => ?_), trivial⟩⟩, by simp [intOf]; omega⟩
      obtain ⟨hx, l2, l3, l4⟩ := HX.out
      rcases Nat.lt_or_ge j k with hjk | hjk
      · exact HS.out j hjk y hy
      · obtain rfl : j = k := by omega
        rw [hx] at hy; cases hy
        exact ⟨by omega, by omega, by omega⟩
    · obtain rfl : k = n := by omega
      go_wp2
      go_ret
      refine ⟨true, rfl, fun _ => ⟨by omega, fun x hx => ?_⟩, rfl⟩
      obtain ⟨j, hj, rfl⟩ := List.mem_iff_getElem.1 hx
      exact HS.out j (by rw [← HL.out]; exact hj) _ (List.getElem?_eq_getElem hj)


end Go.Proofs.YtabeelcidlhniaaGreat
