/-
  The walks through punycode's decoder.
-/
import Derived.Test.YtcmeajaakdaeeaaDoorRun16
import Derived.Test.YtcmeajaakdaeeaaDoorRun17
namespace Go.Proofs.YtcmeajaakdaeeaaDoor
open Go.RowKit

@[simp] theorem str_size (l : List UInt8) : (str l).size = l.length := by simp [str, ByteArray.size]
theorem str_get (l : List UInt8) (i : Nat) (h : i < (str l).size) : (str l)[i] = l[i]'(by simpa using h) := by simp [str]; rfl
theorem str_from (l : List UInt8) (k : Nat) (_h : k ≤ l.length) : (str l).extract k (str l).size = str (l.drop k) := by
  apply ByteArray.ext
  rw [ByteArray.data_extract]
  apply Array.ext'
  simp [str, ByteArray.size]
  exact List.take_of_length_le (by simp)

/-- The decoder's block. -/
def DBox (w : World) (g : Nat) (rest : List UInt8) (pts : Value) (n i bias : Int) (st : Bool) : Prop :=
  w.heap[g]? = some (.cells #[.string (str rest), pts, .int .i64 n, .int .i64 i, .int .i64 bias, .bool st] 107 (0, 0))
theorem DBox.cells {w : World} {g : Nat} {rest : List UInt8} {pts : Value} {n i bias : Int} {st : Bool} (h : DBox w g rest pts n i bias st) :
    w.cell? ⟨g, 0, none⟩ = some (.string (str rest)) ∧ w.cell? ⟨g, 1, none⟩ = some pts ∧ w.cell? ⟨g, 2, none⟩ = some (.int .i64 n) ∧ w.cell? ⟨g, 3, none⟩ = some (.int .i64 i) ∧ w.cell? ⟨g, 4, none⟩ = some (.int .i64 bias) ∧ w.cell? ⟨g, 5, none⟩ = some (.bool st) := by
  refine ⟨?_, ?_, ?_, ?_, ?_, ?_⟩ <;> rw [cell_of_row _ _ _ _ _ _ h] <;> rfl
theorem DBox.free {w : World} {g : Nat} {rest : List UInt8} {pts : Value} {n i bias : Int} {st : Bool} (h : DBox w g rest pts n i bias st) (k : Nat) : w.frozen? ⟨g, k, none⟩ = false := frozen_of_row _ _ _ _ _ h
theorem DBox.ext {w w' : World} {g : Nat} {rest : List UInt8} {pts : Value} {n i bias : Int} {st : Bool} (h : DBox w g rest pts n i bias st) (e : Below w.heap.size w w') : DBox w' g rest pts n i bias st := (e.block _ (heap_lt h)).trans h
theorem DBox.setRest {w : World} {g : Nat} {rest : List UInt8} {pts : Value} {n i bias : Int} {st : Bool} (h : DBox w g rest pts n i bias st) (r : List UInt8) : DBox (w.setCell ⟨g, 0, none⟩ (.string (str r))) g r pts n i bias st := by
  unfold DBox; rw [heap_setCell_same _ _ _ _ _ _ h]; rfl
theorem DBox.setPts {w : World} {g : Nat} {rest : List UInt8} {pts : Value} {n i bias : Int} {st : Bool} (h : DBox w g rest pts n i bias st) (v : Value) : DBox (w.setCell ⟨g, 1, none⟩ v) g rest v n i bias st := by
  unfold DBox; rw [heap_setCell_same _ _ _ _ _ _ h]; rfl
theorem DBox.setN {w : World} {g : Nat} {rest : List UInt8} {pts : Value} {n i bias : Int} {st : Bool} (h : DBox w g rest pts n i bias st) (x : Int) : DBox (w.setCell ⟨g, 2, none⟩ (.int .i64 x)) g rest pts x i bias st := by
  unfold DBox; rw [heap_setCell_same _ _ _ _ _ _ h]; rfl
theorem DBox.setI {w : World} {g : Nat} {rest : List UInt8} {pts : Value} {n i bias : Int} {st : Bool} (h : DBox w g rest pts n i bias st) (x : Int) : DBox (w.setCell ⟨g, 3, none⟩ (.int .i64 x)) g rest pts n x bias st := by
  unfold DBox; rw [heap_setCell_same _ _ _ _ _ _ h]; rfl
theorem DBox.setBias {w : World} {g : Nat} {rest : List UInt8} {pts : Value} {n i bias : Int} {st : Bool} (h : DBox w g rest pts n i bias st) (x : Int) : DBox (w.setCell ⟨g, 4, none⟩ (.int .i64 x)) g rest pts n i x st := by
  unfold DBox; rw [heap_setCell_same _ _ _ _ _ _ h]; rfl
theorem DBox.setSt {w : World} {g : Nat} {rest : List UInt8} {pts : Value} {n i bias : Int} {st : Bool} (h : DBox w g rest pts n i bias st) (x : Bool) : DBox (w.setCell ⟨g, 5, none⟩ (.bool x)) g rest pts n i bias x := by
  unfold DBox; rw [heap_setCell_same _ _ _ _ _ _ h]; rfl
theorem DBox.other {w : World} {g g' : Nat} {rest : List UInt8} {pts : Value} {n i bias : Int} {st : Bool} (h : DBox w g rest pts n i bias st) (hg : g ≠ g') (o : Nat) (v : Value) : DBox (w.setCell ⟨g', o, none⟩ v) g rest pts n i bias st := (heap_setCell_other _ _ _ _ hg).trans h
theorem IBox.other' {w : World} {g g' : Nat} {z : Int} (h : IBox w g z) (hg : g ≠ g') (o : Nat) (v : Value) : IBox (w.setCell ⟨g', o, none⟩ v) g z := (heap_setCell_other _ _ _ _ hg).trans h

/-- What number does. -/
def PNumPost (g : Nat) (l : List UInt8) (pts : Value) (n i bias : Int) (st : Bool) (w : World) (e : Ending) (w' : World) : Prop :=
  But g w w' ∧ ((∃ er, er ≠ 0 ∧ Puny.decNum l i 1 0 bias = .error er ∧ e = .returned (.int .i64 er)) ∨ (∃ r j, Puny.decNum l i 1 0 bias = .ok (r, j) ∧ e = .returned (.int .i64 0) ∧ DBox w' g r pts n j bias st))

theorem Puny.value_bd (b : UInt8) : -1 ≤ Puny.value b ∧ Puny.value b ≤ 35 := by
  have := b.toNat_lt
  unfold Puny.value
  repeat' split
  all_goals (try simp) <;> omega

set_option maxHeartbeats 4000000 in
set_option maxRecDepth 100000 in
theorem pn_number (g : Nat) (l : List UInt8) (pts : Value) (n i bias : Int) (st : Bool) (w : World) (h : DBox w g l pts n i bias st) (h0 : 0 ≤ i) (h1 : i ≤ 1099511627776) (b0 : 0 ≤ bias) (b1 : bias ≤ 1000) (hl : l.length ≤ 1000000) :
    Calls Tryd.prog 115 #[.pointer (some ⟨g, 0, none⟩)] w (PNumPost g l pts n i bias st w) := by
  obtain ⟨R, hR⟩ : ∃ R, R = Puny.decNum l i 1 0 bias := ⟨_, rfl⟩
  have hg0 := heap_lt h
  have hc4 := h.cells.2.2.2.2.1
  unfold PNumPost
  rw [← hR]
  have HR := Lib.hid hR
  clear hR
  go_enter Tryd.func115, Tryd.ntmps115
  go_wp2_with fail
  refine (pn_thresholds bias _).mono ?_; rintro e w1 ⟨rfl, hB0, hB1, hb1⟩
  have hD1 := h.ext hb1
  have hw1 : But g w w1 := But.of_ext hb1
  have hz : w.heap.size ≠ w.heap.size + 1 := by omega
  have hz0 : w.heap.size ≠ g := by omega
  have hz1 : w.heap.size + 1 ≠ g := by omega
  have hB1' : IBox w1 (w.heap.size + 1) (36 * ((0 : Nat) : Int)) := by simpa using hB1
  clear hB1 hb1 hc4
  go_wp2
  go_loopw [4] (fun y wr => ∃ (k : Nat) (x j : Int) (r : List UInt8), y = .int .i64 x ∧ 0 ≤ x ∧ x ≤ 1099511627776 ∧ 0 ≤ j ∧ j ≤ 1099511627776 ∧ k + r.length = l.length ∧ DBox wr g r pts n j bias st ∧ Hid (R = Puny.decNum r j x k bias) ∧ IBox wr w.heap.size bias ∧ IBox wr (w.heap.size + 1) (36 * (k : Int)) ∧ But g w wr) (fun _ wr => match wr.cell? ⟨g, 0, none⟩ with | some (.string s) => s.size | _ => 0)
  case atStart => exact ⟨0, 1, i, l, rfl, by omega, by omega, h0, h1, by omega, hD1, HR, hB0, hB1', hw1⟩
  case round =>
    obtain ⟨k, x, j, r, rfl, hx0, hx1, hj0, hj1, hkr, hD, HG, hK0, hK1, hB⟩ := hrel
    obtain ⟨c0, -, -, c3, -, -⟩ := hD.cells
    have f0 := hD.free 0
    have f3 := hD.free 3
    cases r with
    | nil =>
      have hg := HG.out
      rw [Puny.decNum] at hg
      have HG2 := Lib.hid hg
      clear hg
      have hs : (str []).toList = [] := by simp
      generalize str [] = s at *
      go_wp2
      go_ret
      exact ⟨hB, .inl ⟨4, by decide, HG2.out, rfl⟩⟩
    | cons b r =>
      obtain ⟨t1, t2⟩ := Puny.thr_bd k bias
      obtain ⟨v0, v1⟩ := Puny.value_bd b
      have hg := HG.out
      rw [Puny.decNum] at hg
      have hsz := str_size (b :: r)
      have hget : ∀ h, (str (b :: r))[0]'h = b := fun h => by rw [str_get]; rfl
      have hto : (str (b :: r)).toList.isEmpty = false := by simp
      have hex : (str (b :: r)).extract 1 (r.length + 1) = str r := by
        have := str_from (b :: r) 1 (by simp)
        rwa [str_size] at this
      simp only [List.length_cons] at hsz hkr
      have hlt0 := heap_lt hD
      have hx := Int.mul_le_mul_of_nonneg_left v1 hx0
      have hx' := Int.mul_le_mul_of_nonneg_left v0 hx0
      rw [Int.mul_comm x (Puny.value b)] at hx hx'
      rw [Int.mul_comm x (-1)] at hx'
      have hpos : 0 ≤ Puny.value b → 0 ≤ Puny.value b * x := fun h => Int.mul_nonneg h hx0
      generalize hS : str (b :: r) = s at *
      have hthr := fun (W : World) a b => pn_thr1 w.heap.size (w.heap.size + 1) k bias W a b hz (by omega) b0 b1
      have HTH := Lib.hid hthr
      have hval := fun W => pn_value b W
      have HVAL := Lib.hid hval
      have HSET := Lib.hid (hD.setRest r)
      clear hval
      generalize Puny.value b = u at *
      generalize Puny.thr k bias = t at *
      obtain ⟨y, hy⟩ : ∃ y, y = u * x := ⟨_, rfl⟩
      rw [← hy] at hg hx hx' hpos
      have HY := Lib.hid hy
      clear hthr hy hS
      by_cases hu : u < 0
      · rw [if_pos hu] at hg
        have HG2 := Lib.hid hg
        clear hg
        go_wp2_with fail
        refine (HVAL.out _).mono ?_; rintro e w2 ⟨rfl, rfl⟩
        go_wp2_with fail
        go_ret
        exact ⟨hB, .inl ⟨4, by decide, HG2.out, rfl⟩⟩
      rw [if_neg hu] at hg
      have hy0 := hpos (by omega)
      have hy1 : y ≤ 38482906972160 := by omega
      have hwr : IntKind.i64.wrap (u * x) = y := by rw [← HY.out, IntKind.wrap_i64]; omega
      have HG2 := Lib.hid hg
      clear hpos hx hx' hg
      go_wp2_with fail
      refine (HVAL.out _).mono ?_; rintro e w2 ⟨rfl, rfl⟩
      by_cases ho : 1099511627776 < j + y
      · have hg := HG2.out
        rw [if_pos ho] at hg
        have HG3 := Lib.hid hg
        have hwr2 : IntKind.i64.wrap (j + y) = j + y := by rw [IntKind.wrap_i64]; omega
        clear hg
        go_wp2_with fail
        go_ret
        refine ⟨(hB.setCell _ _).setCell _ _, .inl ⟨19, by decide, HG3.out, rfl⟩⟩
      have hg := HG2.out
      rw [if_neg ho] at hg
      have HG3 := Lib.hid hg
      have hwr2 : IntKind.i64.wrap (j + y) = j + y := by rw [IntKind.wrap_i64]; omega
      have hD2 := HSET.out.setI (j + y)
      have hB2 := (hB.setCell 0 (.string (str r))).setCell 3 (.int .i64 (j + y))
      have hK02 := (hK0.other' hz0 0 (.string (str r))).other' hz0 3 (.int .i64 (j + y))
      have hK12 := (hK1.other' hz1 0 (.string (str r))).other' hz1 3 (.int .i64 (j + y))
      have HS2 := Lib.hid (And.intro hD2 (And.intro hB2 (And.intro hK02 hK12)))
      clear hg HG2 hD2 hB2 hK02 hK12
      go_wp2_with fail
      obtain ⟨hD2, hB2, hK02, hK12⟩ := HS2.out
      clear HS2 HSET
      generalize ((wr.setCell ⟨g, 0, none⟩ (.string (str r))).setCell ⟨g, 3, none⟩ (.int .i64 (j + y))) = w2 at *
      refine (HTH.out _ hK02 hK12).mono ?_; rintro e w3 ⟨rfl, hK03, hK13, rfl⟩
      have hD3 := hD2.other (Ne.symm hz1) 0 (.int .i64 (36 * ((k : Int) + 1)))
      have hB3 : But g w (w2.setCell ⟨w.heap.size + 1, 0, none⟩ (.int .i64 (36 * ((k : Int) + 1)))) := ⟨hB2.os, hB2.tape, hB2.output, by simpa using hB2.size, fun q hq hqg => (heap_setCell_other _ _ _ _ (show q ≠ w.heap.size + 1 by omega)).trans (hB2.block q hq hqg)⟩
      clear hD2 hB2 hK02 hK12
      generalize (w2.setCell ⟨w.heap.size + 1, 0, none⟩ (.int .i64 (36 * ((k : Int) + 1)))) = w3 at *
      by_cases ht : u < t
      · have hg := HG3.out
        rw [if_pos ht] at hg
        have HG4 := Lib.hid hg
        clear hg
        go_wp2
        go_ret
        exact ⟨hB3, .inr ⟨r, j + y, HG4.out, rfl, hD3⟩⟩
      have hg := HG3.out
      rw [if_neg ht] at hg
      have hz2 := Int.mul_le_mul_of_nonneg_left (show 36 - t ≤ 35 by omega) hx0
      have hz3 := Int.mul_nonneg hx0 (show 0 ≤ 36 - t by omega)
      obtain ⟨z, hzz⟩ : ∃ z, z = x * (36 - t) := ⟨_, rfl⟩
      rw [← hzz] at hg hz2 hz3
      have hwr3 : IntKind.i64.wrap (x * (36 - t)) = z := by rw [← hzz, IntKind.wrap_i64]; omega
      by_cases ho2 : 1099511627776 < z
      · rw [if_pos ho2] at hg
        have HG4 := Lib.hid hg
        clear hg hzz
        go_wp2
        go_ret
        exact ⟨hB3, .inl ⟨19, by decide, HG4.out, rfl⟩⟩
      · rw [if_neg ho2] at hg
        have HG4 := Lib.hid hg
        clear hg hzz
        go_wp2
        go_roundw
        case rel => exact ⟨k + 1, z, j + y, r, rfl, hz3, by omega, by omega, by omega, by omega, hD3, HG4, hK03, hK13, hB3⟩
        case measure =>
          rw [hD3.cells.1, hD.cells.1]; simp

end Go.Proofs.YtcmeajaakdaeeaaDoor
