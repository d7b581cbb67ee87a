/-
  Texts in one: PinsArg, Ops23, TabS.
-/
import Derived.Test.YtcmeajaakdaeeaaGreatDoorRun23
import Derived.Test.YtcmeajaakdaeeaaGreatDoorRun29
import Derived.Deep.Slices
/-
  How an argument of type []api.Pin is opened.
-/
namespace Go.Proofs.YtcmeajaakdaeeaaGreatDoor
open Go.RowKit

instance : Inhabited Pin := ⟨Pin.none⟩

section
open Go.ChangeShapes Go.WideShapes Go.ChangeAt
variable {H : Type} {enc : TypeId × Value → H} {P : Program} {w : World} {base : Nat} {spare : Nat → Bool} {held : Bool}
theorem elemP_field {e : TypeId} {fs : Array Field} {n : Nat} {a : Addr} {C : Nat} {cs : List Value} {x : DataW H × List MemPlace} (he : P.underlying e = some (.struct fs)) (hc : w.cells? base a C = some cs) (h : DataW.trod enc P w base spare held n e cs = some x)
    (j : Nat) (f : Field) (hf : fs[j]? = some f) (o : Nat) (ho : f.offset = o) (hoC : o < C) (hk : P.cellsOf f.type = 1) : ∃ (v : Value) (m : Nat) (y : DataW H × List MemPlace), w.cell? (a.add o) = some v ∧ DataW.trod enc P w base spare held m f.type [v] = some y := by
  obtain ⟨_, hlen, hat⟩ := World.cells?_some hc
  obtain ⟨xs, m, _, _, _, hxl, hg⟩ := DataW.trod_struct he h
  have hj : j < fs.size := (Array.getElem?_eq_some_iff.1 hf).1
  have h1 := hg j f hf
  rw [ho, hk, List.getElem?_eq_getElem (by omega)] at h1
  have hol : o < cs.length := by omega
  have h2 : (cs.drop o).take 1 = [cs[o]] := by rw [List.drop_eq_getElem_cons hol]; rfl
  rw [h2] at h1
  exact ⟨cs[o], m, _, by rw [hat o hoC, List.getElem?_eq_getElem hol], h1⟩

theorem elemP_int {e : TypeId} {fs : Array Field} {n : Nat} {a : Addr} {C : Nat} {cs : List Value} {x : DataW H × List MemPlace} (he : P.underlying e = some (.struct fs)) (hc : w.cells? base a C = some cs) (h : DataW.trod enc P w base spare held n e cs = some x)
    (j : Nat) (f : Field) (hf : fs[j]? = some f) (o : Nat) (ho : f.offset = o) (hoC : o < C) (k : IntKind) (hu : P.underlying f.type = some (.int k)) (hk : P.cellsOf f.type = 1) : ∃ z : Int, w.cell? (a.add o) = some (.int k z) ∧ (Lit.int k z).wf = true := by
  obtain ⟨v, m, y, hv, ht⟩ := elemP_field he hc h j f hf o ho hoC hk
  obtain ⟨z, h1, _, h3⟩ := DataW.trod_int hu ht
  exact ⟨z, by rw [hv, List.singleton_inj.1 h1], h3⟩

end

section
open Go.ChangeShapes Go.WideShapes Go.ChangeAt
variable {H : Type} {enc : TypeId × Value → H} {w : World} {base : Nat} {held : Bool}
set_option maxRecDepth 100000 in
theorem open_pins {fuel : Nat} {v : Value} {x : DataW H × List MemPlace} (h : DataW.trod enc Tryz.prog w base (fun _ => true) held fuel 28 [v] = some x) : ∃ a n c l, v = .slice a n c ∧ SlN w a n c l := by
  rcases Go.Deep.open_slice Tryz.underlying28 h with ⟨hcs, _⟩ | ⟨a, len, cap, m, n, D, Pl, hcs, hb, hl, hm, hmm, hx, hi⟩
  · exact ⟨none, 0, 0, [], List.singleton_inj.1 hcs, SlN.nil w⟩
  · have hlm : len ≤ m := by rw [hmm]; split <;> omega
    have hC : Tryz.prog.cellsOf 23 = 3 := by kernel_rfl
    have he := Tryz.underlying23
    have hel : ∀ i, i < len → ∃ q : Pin, ∀ b o, a = ⟨b, o, none⟩ → PinAt w b (o + i * 3) q := by
      intro i hil
      obtain ⟨cs', hc, ht'⟩ := hi i (by omega)
      rw [hC] at hc
      obtain ⟨v0, m0, y0, c0, t0⟩ := elemP_field he hc ht' 0 _ rfl 0 rfl (by omega) (by kernel_rfl)
      obtain ⟨v1, m1, y1, c1, t1⟩ := elemP_field he hc ht' 1 _ rfl 1 rfl (by omega) (by kernel_rfl)
      obtain ⟨z2, c2, w2⟩ := elemP_int he hc ht' 2 _ rfl 2 rfl (by omega) .i64 Tryz.underlying3 (by kernel_rfl)
      obtain ⟨s0, e0, -, -⟩ := DataW.trod_string Tryz.underlying9 t0
      obtain ⟨s1, e1, -⟩ := DataW.trod_bool Tryz.underlying4 t1
      obtain rfl : v0 = .string s0 := List.singleton_inj.1 e0
      obtain rfl : v1 = .bool s1 := List.singleton_inj.1 e1
      refine ⟨⟨s0.data.toList, s1, z2⟩, fun b o hab => ?_⟩
      subst hab
      have hadd : ∀ (p : Nat) j, (⟨b, p, none⟩ : Addr).add j = ⟨b, p + j, none⟩ := by intro p j; unfold Addr.add; split <;> simp_all
      simp only [hadd] at c0 c1 c2
      exact ⟨by simpa [str] using c0, c1, c2⟩
    obtain ⟨p, hp⟩ := Go.Deep.choose_lt (α := Pin) (p := fun i q => ∀ b o, a = ⟨b, o, none⟩ → PinAt w b (o + i * 3) q) hel
    have hspot : 0 < len → a.spot = none := by
      intro hil
      obtain ⟨cs', hc, ht'⟩ := hi 0 (by omega)
      rw [hC] at hc
      obtain ⟨v0, m0, y0, c0, t0⟩ := elemP_field he hc ht' 0 _ rfl 0 rfl (by omega) (by kernel_rfl)
      have h2 := World.cell?_spot c0
      revert h2
      obtain ⟨b, o, sp⟩ := a
      unfold Addr.add; split <;> simp_all
    refine ⟨some a, len, cap, (List.range len).map p, List.singleton_inj.1 hcs, by simp, hl, hm, (fun h => by cases h), fun y hy i hil => ?_⟩
    cases hy
    simp at hil
    have hsp := hspot (by omega)
    obtain ⟨b, o, sp⟩ := a
    simp only at hsp; subst hsp
    have hq := hp i hil b o rfl
    refine ⟨rfl, World.block_lt_of_cell? w ⟨b, o + i * 3, none⟩ hq.1, ?_⟩
    simpa using hq
end

end Go.Proofs.YtcmeajaakdaeeaaGreatDoor

/-
  Scripts of law 23: slices of operations, how such an argument is opened.
-/
namespace Go.Proofs.YtcmeajaakdaeeaaGreatDoor
open Go.RowKit

/-- An operation of a script. -/
structure O23 where
  kind : Int
  pin : Pin
  host : List UInt8
  now : Int
instance : Inhabited O23 := ⟨⟨0, Pin.none, [], 0⟩⟩

/-- The cells of an operation at an address. -/
def IsO23 (w : World) (b o : Nat) (x : O23) : Prop :=
  w.cell? ⟨b, o, none⟩ = some (.int .i64 x.kind) ∧ PinAt w b (o + 1) x.pin ∧ w.cell? ⟨b, o + 4, none⟩ = some (.string (str x.host)) ∧ w.cell? ⟨b, o + 5, none⟩ = some (.int .i64 x.now)
theorem IsO23.ext {w w' : World} {b o : Nat} {x : O23} (h : IsO23 w b o x) (hb : b < w.heap.size) (e : Below w.heap.size w w') : IsO23 w' b o x :=
  ⟨(e.cell (p := ⟨b, o, none⟩) hb).trans h.1, h.2.1.stay (e.block b hb), (e.cell (p := ⟨b, o + 4, none⟩) hb).trans h.2.2.1, (e.cell (p := ⟨b, o + 5, none⟩) hb).trans h.2.2.2⟩

/-- The slice reads as the operations. -/
def SlO23 (w : World) (a : Option Addr) (n c : Nat) (l : List O23) : Prop :=
  l.length = n ∧ n ≤ c ∧ c ≤ maxLen ∧ (a = none → l = [] ∧ c = 0) ∧
    ∀ x, a = some x → ∀ i (h : i < l.length), x.spot = none ∧ x.block < w.heap.size ∧ IsO23 w x.block (x.off + i * 6) l[i]
theorem SlO23.len {w : World} {a : Option Addr} {n c : Nat} {l : List O23} (h : SlO23 w a n c l) : l.length = n := h.1
theorem SlO23.le {w : World} {a : Option Addr} {n c : Nat} {l : List O23} (h : SlO23 w a n c l) : n ≤ 9223372036854775807 := by
  have := h.2.1; have := h.2.2.1; unfold maxLen at *; omega
theorem SlO23.nil (w : World) : SlO23 w none 0 0 [] := ⟨rfl, Nat.le_refl _, by unfold maxLen; omega, fun _ => ⟨rfl, rfl⟩, fun x hx => by cases hx⟩
theorem SlO23.at {w : World} {a : Option Addr} {n c : Nat} {l : List O23} (h : SlO23 w a n c l) {k : Nat} (hk : k < n) : ∃ b o x, a = some ⟨b, o, none⟩ ∧ b < w.heap.size ∧ l[k]? = some x ∧ IsO23 w b (o + k * 6) x := by
  obtain ⟨hl, hn, hc, h0, h1⟩ := h
  cases a with
  | none => have := (h0 rfl).1; subst this; simp at hl; omega
  | some x =>
    obtain ⟨b, o, sp⟩ := x
    have hk' : k < l.length := by omega
    obtain ⟨hs, hb, hq⟩ := h1 _ rfl k hk'
    simp only at hs; subst hs
    exact ⟨b, o, l[k], rfl, hb, List.getElem?_eq_getElem hk', hq⟩
theorem SlO23.ext {w w' : World} {a : Option Addr} {n c : Nat} {l : List O23} (h : SlO23 w a n c l) (e : Below w.heap.size w w') : SlO23 w' a n c l := by
  obtain ⟨hl, hn, hc, h0, h1⟩ := h
  refine ⟨hl, hn, hc, h0, fun x hx i hi => ?_⟩
  obtain ⟨hs, hb, hq⟩ := h1 x hx i hi
  exact ⟨hs, Nat.lt_of_lt_of_le hb e.size, hq.ext hb e⟩

section
open Go.ChangeShapes Go.WideShapes Go.ChangeAt
variable {H : Type} {enc : TypeId × Value → H} {P : Program} {w : World} {base : Nat} {spare : Nat → Bool} {held : Bool}
/-- A field that is itself a structure. -/
theorem elemP_sub {e : TypeId} {fs : Array Field} {n : Nat} {a : Addr} {C : Nat} {cs : List Value} {x : DataW H × List MemPlace} (he : P.underlying e = some (.struct fs)) (hc : w.cells? base a C = some cs) (h : DataW.trod enc P w base spare held n e cs = some x)
    (j : Nat) (f : Field) (hf : fs[j]? = some f) (o K : Nat) (ho : f.offset = o) (hk : P.cellsOf f.type = K) (hoC : o + K ≤ C) :
    ∃ (qs : List Value) (m : Nat) (y : DataW H × List MemPlace), qs.length = K ∧ (∀ k v, qs[k]? = some v → w.cell? (a.add (o + k)) = some v) ∧ DataW.trod enc P w base spare held m f.type qs = some y := by
  obtain ⟨_, hlen, hat⟩ := World.cells?_some hc
  obtain ⟨xs, m, _, _, _, hxl, hg⟩ := DataW.trod_struct he h
  have hj : j < fs.size := (Array.getElem?_eq_some_iff.1 hf).1
  have h1 := hg j f hf
  rw [ho, hk, List.getElem?_eq_getElem (by omega)] at h1
  refine ⟨(cs.drop o).take K, m, _, by rw [List.length_take, List.length_drop]; omega, fun k v hv => ?_, h1⟩
  have hkK : k < K := by have := (List.getElem?_eq_some_iff.1 hv).1; rw [List.length_take] at this; omega
  rw [List.getElem?_take_of_lt hkK, List.getElem?_drop] at hv
  rw [hat (o + k) (by omega), hv]
/-- A field of one cell of a structure whose cells are known. -/
theorem subP_field {e : TypeId} {fs : Array Field} {n : Nat} {qs : List Value} {x : DataW H × List MemPlace} (he : P.underlying e = some (.struct fs)) (h : DataW.trod enc P w base spare held n e qs = some x)
    (j : Nat) (f : Field) (hf : fs[j]? = some f) (o : Nat) (ho : f.offset = o) (hol : o < qs.length) (hk : P.cellsOf f.type = 1) : ∃ (v : Value) (m : Nat) (y : DataW H × List MemPlace), qs[o]? = some v ∧ DataW.trod enc P w base spare held m f.type [v] = some y := by
  obtain ⟨xs, m, _, _, _, hxl, hg⟩ := DataW.trod_struct he h
  have hj : j < fs.size := (Array.getElem?_eq_some_iff.1 hf).1
  have h1 := hg j f hf
  rw [ho, hk, List.getElem?_eq_getElem (by omega)] at h1
  have h2 : (qs.drop o).take 1 = [qs[o]] := by rw [List.drop_eq_getElem_cons hol]; rfl
  rw [h2] at h1
  exact ⟨qs[o], m, _, List.getElem?_eq_getElem hol, h1⟩
end

section
open Go.ChangeShapes Go.WideShapes Go.ChangeAt
variable {H : Type} {enc : TypeId × Value → H} {w : World} {base : Nat} {held : Bool}
/-- The cells of a pin. -/
theorem open_pin_cells {fuel : Nat} {qs : List Value} {x : DataW H × List MemPlace} (hl : qs.length = 3) (h : DataW.trod enc Tryz.prog w base (fun _ => true) held fuel 23 qs = some x) : ∃ q : Pin, qs[0]? = some (.string (str q.h)) ∧ qs[1]? = some (.bool q.s) ∧ qs[2]? = some (.int .i64 q.x) := by
  have he := Tryz.underlying23
  obtain ⟨v0, m0, y0, c0, t0⟩ := subP_field he h 0 _ rfl 0 rfl (by omega) (by kernel_rfl)
  obtain ⟨v1, m1, y1, c1, t1⟩ := subP_field he h 1 _ rfl 1 rfl (by omega) (by kernel_rfl)
  obtain ⟨v2, m2, y2, c2, t2⟩ := subP_field he h 2 _ rfl 2 rfl (by omega) (by kernel_rfl)
  obtain ⟨s0, e0, -, -⟩ := DataW.trod_string Tryz.underlying9 t0
  obtain ⟨s1, e1, -⟩ := DataW.trod_bool Tryz.underlying4 t1
  obtain ⟨z2, e2, -, -⟩ := DataW.trod_int Tryz.underlying3 t2
  obtain rfl : v0 = .string s0 := List.singleton_inj.1 e0
  obtain rfl : v1 = .bool s1 := List.singleton_inj.1 e1
  obtain rfl : v2 = .int .i64 z2 := List.singleton_inj.1 e2
  exact ⟨⟨s0.data.toList, s1, z2⟩, by simpa [str] using c0, c1, c2⟩

set_option maxRecDepth 100000 in
theorem open_ops23 {fuel : Nat} {v : Value} {x : DataW H × List MemPlace} (h : DataW.trod enc Tryz.prog w base (fun _ => true) held fuel 40 [v] = some x) : ∃ a n c l, v = .slice a n c ∧ SlO23 w a n c l := by
  rcases Go.Deep.open_slice Tryz.underlying40 h with ⟨hcs, _⟩ | ⟨a, len, cap, m, n, D, Pl, hcs, hb, hl, hm, hmm, hx, hi⟩
  · exact ⟨none, 0, 0, [], List.singleton_inj.1 hcs, SlO23.nil w⟩
  · have hlm : len ≤ m := by rw [hmm]; split <;> omega
    have hC : Tryz.prog.cellsOf 46 = 6 := by kernel_rfl
    have he := Tryz.underlying46
    have hel : ∀ i, i < len → ∃ q : O23, ∀ b o, a = ⟨b, o, none⟩ → IsO23 w b (o + i * 6) q := by
      intro i hil
      obtain ⟨cs', hc, ht'⟩ := hi i (by omega)
      rw [hC] at hc
      obtain ⟨z0, c0, w0⟩ := elemP_int he hc ht' 0 _ rfl 0 rfl (by omega) .i64 Tryz.underlying3 (by kernel_rfl)
      obtain ⟨qs, m1, y1, ql, qc, qt⟩ := elemP_sub he hc ht' 1 _ rfl 1 3 rfl (by kernel_rfl) (by omega)
      obtain ⟨v4, m4, y4, c4, t4⟩ := elemP_field he hc ht' 2 _ rfl 4 rfl (by omega) (by kernel_rfl)
      obtain ⟨z5, c5, w5⟩ := elemP_int he hc ht' 3 _ rfl 5 rfl (by omega) .i64 Tryz.underlying3 (by kernel_rfl)
      obtain ⟨s4, e4, -, -⟩ := DataW.trod_string Tryz.underlying9 t4
      obtain rfl : v4 = .string s4 := List.singleton_inj.1 e4
      obtain ⟨q, q0, q1, q2⟩ := open_pin_cells ql qt
      have r0 := qc 0 _ q0
      have r1 := qc 1 _ q1
      have r2 := qc 2 _ q2
      refine ⟨⟨z0, q, s4.data.toList, z5⟩, fun b o hab => ?_⟩
      subst hab
      have hadd : ∀ (p : Nat) j, (⟨b, p, none⟩ : Addr).add j = ⟨b, p + j, none⟩ := by intro p j; unfold Addr.add; split <;> simp_all
      simp only [hadd] at c0 r0 r1 r2 c4 c5
      exact ⟨c0, ⟨r0, r1, r2⟩, by simpa [str] using c4, c5⟩
    obtain ⟨p, hp⟩ := Go.Deep.choose_lt (α := O23) (p := fun i q => ∀ b o, a = ⟨b, o, none⟩ → IsO23 w b (o + i * 6) q) hel
    have hspot : 0 < len → a.spot = none := by
      intro hil
      obtain ⟨cs', hc, ht'⟩ := hi 0 (by omega)
      rw [hC] at hc
      obtain ⟨z0, c0, _⟩ := elemP_int he hc ht' 0 _ rfl 0 rfl (by omega) .i64 Tryz.underlying3 (by kernel_rfl)
      have h2 := World.cell?_spot c0
      revert h2
      obtain ⟨b, o, sp⟩ := a
      unfold Addr.add; split <;> simp_all
    refine ⟨some a, len, cap, (List.range len).map p, List.singleton_inj.1 hcs, by simp, hl, hm, (fun h => by cases h), fun y hy i hil => ?_⟩
    cases hy
    simp at hil
    have hsp := hspot (by omega)
    obtain ⟨b, o, sp⟩ := a
    simp only at hsp; subst hsp
    have hq := hp i hil b o rfl
    refine ⟨rfl, World.block_lt_of_cell? w ⟨b, o + i * 6, none⟩ hq.1, ?_⟩
    simpa using hq
end

end Go.Proofs.YtcmeajaakdaeeaaGreatDoor

/-
  Law 23: whether a script is small.
-/
namespace Go.Proofs.YtcmeajaakdaeeaaGreatDoor
open Go.RowKit

def ok23 (x : O23) : Bool := decide (x.host.length ≤ 300) && decide (x.pin.h.length ≤ 300)

theorem short2 (a b : List UInt8) (w : World) :
    Calls Tryz.prog 35 #[.int .i64 300, .slice (some ⟨w.heap.size, 0, none⟩) 2 2] (w.alloc (.cells #[.string (str a), .string (str b)] 9)).drew fun e w' => e = .returned (.bool (decide (a.length ≤ 300) && decide (b.length ≤ 300))) ∧ Ext w w' := by
  have hs : SlT (w.alloc (.cells #[.string (str a), .string (str b)] 9)).drew (some ⟨w.heap.size, 0, none⟩) 2 2 [a, b] :=
    (SlT.built w #[.string (str a), .string (str b)] [a, b] 2 w.heap.size 9 (0, 0) rfl rfl (by decide) rfl).ext (Below.drew (Below.refl _ _))
  refine (keep_short 300 _ 2 2 [a, b] _ hs).mono ?_
  rintro e w' ⟨rfl, hb⟩
  refine ⟨by simp, ?_⟩
  exact (Below.drew ((Below.refl w.heap.size w).alloc (Nat.le_refl _) _)).trans (Below.mono hb (by simp))

set_option maxRecDepth 100000 in
set_option maxHeartbeats 2000000 in
theorem small23 (a : Option Addr) (n c : Nat) (l : List O23) (w : World) (h : SlO23 w a n c l) :
    Calls Tryz.prog 16 #[.slice a n c] w fun e w' => e = .returned (.bool (decide (n ≤ 60) && l.all ok23)) ∧ Below w.heap.size w w' := by
  have hle := h.le
  have HLN := Lib.hid h.len
  obtain ⟨r, hr⟩ : ∃ r, (decide (n ≤ 60) && l.all ok23) = r := ⟨_, rfl⟩
  rw [hr]
  have HSL := Lib.hid h
  clear h
  by_cases h60 : 60 < n
  · have i60 : (60 : Int) < (n : Int) := by omega
    have hrf : r = false := by rw [← hr, decide_eq_false (by omega)]; rfl
    subst hrf
    clear hr
    go_enter Tryz.func16, Tryz.ntmps16
    go_wp2_with fail
    go_ret
    exact ⟨rfl, Below.refl _ _⟩
  have i60 : ¬ (60 : Int) < (n : Int) := by omega
  have HR := Lib.hid (show r = l.all ok23 by rw [← hr, decide_eq_true (by omega), Bool.true_and])
  clear hr
  go_enter Tryz.func16, Tryz.ntmps16
  go_wp2_with fail
  go_loopw [3] (fun i wr => ∃ k : Nat, k ≤ n ∧ i = .int .i64 (k : Nat) ∧ Hid (∀ x ∈ l.take k, ok23 x = true) ∧ Below w.heap.size w wr) (fun i _ => n - (intOf i).toNat)
  case atStart => exact ⟨0, Nat.zero_le _, rfl, Lib.hid (by simp), Below.refl _ _⟩
  case round =>
    obtain ⟨k, hk, rfl, HN, hB⟩ := hrel
    have i0 : (0 : Int) ≤ (k : Int) := by omega
    by_cases hlt : k < n
    · have i2 : (k : Int) < (n : Int) := by omega
      obtain ⟨bb, o, x, rfl, hbb, hgt, -, ⟨c1, -, -⟩, c4, -⟩ := (HSL.out.ext hB).at hlt
      have hkl : k < l.length := by rw [HLN.out]; exact hlt
      have hxe : l[k] = x := by rw [List.getElem?_eq_getElem hkl] at hgt; exact Option.some.inj hgt
      have HTK := Lib.hid (show l.take (k + 1) = l.take k ++ [x] by rw [List.take_succ_eq_append_getElem hkl, hxe])
      have HMEM := Lib.hid (show x ∈ l by rw [← hxe]; exact List.getElem_mem hkl)
      have HSH := Lib.hid (fun W => short2 x.host x.pin.h W)
      have hok : (decide (x.host.length ≤ 300) && decide (x.pin.h.length ≤ 300)) = ok23 x := rfl
      rw [hok] at HSH
      obtain ⟨b, hb⟩ : ∃ b, ok23 x = b := ⟨_, rfl⟩
      rw [hb] at HSH
      have HOK := Lib.hid hb
      obtain ⟨sa, hsa⟩ : ∃ s, str x.host = s := ⟨_, rfl⟩
      obtain ⟨sb, hsb⟩ : ∃ s, str x.pin.h = s := ⟨_, rfl⟩
      rw [hsa, hsb] at HSH
      rw [hsa] at c4
      rw [hsb] at c1
      have HCL := Lib.hid (show ∀ w', Ext wr w' → Ext wr w' ∧ w'.cell? ⟨bb, o + k * 6 + 4, none⟩ = some (.string sa) ∧ w'.cell? ⟨bb, o + k * 6 + 1, none⟩ = some (.string sb) ∧ bb < w'.heap.size from fun w' he =>
        ⟨he, (Below.cell he (p := ⟨bb, o + k * 6 + 4, none⟩) hbb).trans c4, (Below.cell he (p := ⟨bb, o + k * 6 + 1, none⟩) hbb).trans c1, Nat.lt_of_lt_of_le hbb (Below.size he)⟩)
      have HB := Lib.hid hB
      clear hgt hkl hxe hok hb hsa hsb hB
      cases b with
      | false =>
        go_wp2_with fail
        go_region_held3 (fun w' => Ext wr w' ∧ w'.cell? ⟨bb, o + k * 6 + 4, none⟩ = some (.string sa) ∧ w'.cell? ⟨bb, o + k * 6 + 1, none⟩ = some (.string sb) ∧ bb < w'.heap.size) (first | assumption | exact HCL.out _ (by assumption) | exact HCL.out _ (Ext.drew (Ext.refl _)) | exact HCL.out _ (Ext.drew (Ext.alloc (Ext.refl _) _)) | exact HCL.out _ (Ext.alloc (And.left (by assumption)) _) | exact HCL.out _ (Ext.step (by assumption) (And.left (by assumption)))) (first | (go_at_call 35; go_must (refine (HSH.out _).mono ?_); rintro e w9 ⟨rfl, hb9⟩))
        all_goals
          have hfin : Ext wr w9 := And.left (by assumption)
          have hrf : r = false := by rw [HR.out, List.all_eq_false]; exact ⟨x, HMEM.out, by rw [HOK.out]; decide⟩
          subst hrf
          go_wp2_with fail
          go_ret
          exact ⟨rfl, HB.out.trans (Below.mono hfin HB.out.size)⟩
      | true =>
        go_wp2_with fail
        go_region_held3 (fun w' => Ext wr w' ∧ w'.cell? ⟨bb, o + k * 6 + 4, none⟩ = some (.string sa) ∧ w'.cell? ⟨bb, o + k * 6 + 1, none⟩ = some (.string sb) ∧ bb < w'.heap.size) (first | assumption | exact HCL.out _ (by assumption) | exact HCL.out _ (Ext.drew (Ext.refl _)) | exact HCL.out _ (Ext.drew (Ext.alloc (Ext.refl _) _)) | exact HCL.out _ (Ext.alloc (And.left (by assumption)) _) | exact HCL.out _ (Ext.step (by assumption) (And.left (by assumption)))) (first | (go_at_call 35; go_must (refine (HSH.out _).mono ?_); rintro e w9 ⟨rfl, hb9⟩))
        all_goals
          have hfin : Ext wr w9 := And.left (by assumption)
          have HNN := Lib.hid (show ∀ y ∈ l.take (k + 1), ok23 y = true by
            rw [HTK.out]; intro y hy
            rcases List.mem_append.1 hy with hy | hy
            · exact HN.out y hy
            · simp at hy; subst hy; exact HOK.out)
          go_wp2_with fail
          go_roundw
          case rel => exact ⟨k + 1, by omega, by go_num, HNN, HB.out.trans (Below.mono hfin HB.out.size)⟩
          case measure => simp [intOf]; omega
    · obtain rfl : k = n := by omega
      have hrt : r = true := by rw [HR.out, List.all_eq_true]; have := HN.out; rwa [List.take_of_length_le (by rw [HLN.out]; exact Nat.le_refl _)] at this
      subst hrt
      go_wp2_with fail
      go_ret
      exact ⟨rfl, hB⟩

end Go.Proofs.YtcmeajaakdaeeaaGreatDoor
