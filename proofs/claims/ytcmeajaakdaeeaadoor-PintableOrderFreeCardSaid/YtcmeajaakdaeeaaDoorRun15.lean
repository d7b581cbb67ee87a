/-
  The walks through punycode's thresholds and appendNumber, and the reference's threshold.
-/
import Derived.Test.YtcmeajaakdaeeaaDoorRun14
import Derived.Lib.MinMax
namespace Go.Proofs.YtcmeajaakdaeeaaDoor
open Go.RowKit

theorem pr_threshold (k : Nat) (bias : Int) (w : World) (hk : k ≤ 3000000000000) (h0 : 0 ≤ bias) (h1 : bias ≤ 1000) : Calls Tryd.prog 96 #[.int .i64 k, .int .i64 bias] w fun e w' => e = .returned (.int .i64 (Puny.thr k bias)) ∧ w = w' := by
  have HT := Lib.hid (show max 1 (min 26 (36 * ((k : Int) + 1) - bias)) = Puny.thr k bias by unfold Puny.thr; omega)
  go_enter Tryd.func96, Tryd.ntmps96
  go_wp2
  rw [HT.out]
  go_ret
  exact ⟨rfl, rfl⟩

/-- A block of one int. -/
def IBox (w : World) (g : Nat) (z : Int) : Prop := w.heap[g]? = some (.cells #[.int .i64 z] 3 (0, 0))
theorem IBox.cell {w : World} {g : Nat} {z : Int} (h : IBox w g z) : w.cell? ⟨g, 0, none⟩ = some (.int .i64 z) := by rw [cell_of_row _ _ _ _ _ _ h]; rfl
theorem IBox.free {w : World} {g : Nat} {z : Int} (h : IBox w g z) : w.frozen? ⟨g, 0, none⟩ = false := frozen_of_row _ _ _ _ _ h
theorem IBox.ext {w w' : World} {g : Nat} {z : Int} (h : IBox w g z) (e : Below w.heap.size w w') : IBox w' g z := (e.block _ (heap_lt h)).trans h
theorem IBox.set {w : World} {g : Nat} {z : Int} (h : IBox w g z) (y : Int) : IBox (w.setCell ⟨g, 0, none⟩ (.int .i64 y)) g y := by
  unfold IBox
  rw [heap_setCell_same _ _ _ _ _ _ h]; rfl
theorem IBox.other {w : World} {g g' : Nat} {z : Int} (h : IBox w g z) (hg : g ≠ g') (v : Value) : IBox (w.setCell ⟨g', 0, none⟩ v) g z := (heap_setCell_other _ _ _ _ hg).trans h
theorem IBox.grownB {base : Nat} {w w' : World} {v : Value} {l : List UInt8} {g : Nat} {z : Int} (h : IBox w g z) (hv : OwnB base w v l) (hg : w.grownBy w' v.ownBlock) : IBox w' g z := by
  refine (hg.block g (heap_lt h) ?_).trans h
  intro e
  rcases hv.2 with ⟨rfl, _⟩ | ⟨g', cap', cur', rfl, _, hgg', _⟩
  · cases e
  · simp [Value.ownBlock] at e
    subst e
    unfold IBox at h
    rw [hgg'] at h
    cases h
theorem OwnB.boxSet {base : Nat} {w : World} {v : Value} {l : List UInt8} {g : Nat} {z : Int} (hv : OwnB base w v l) (h : IBox w g z) (y : Value) : OwnB base (w.setCell ⟨g, 0, none⟩ y) v l := by
  refine ⟨hv.1, ?_⟩
  rcases hv.2 with hn | ⟨g', cap', cur', rfl, hb, hgg', rest⟩
  · exact .inl hn
  · refine .inr ⟨g', cap', cur', rfl, hb, ?_, rest⟩
    have hne : g' ≠ g := by
      rintro rfl
      unfold IBox at h
      rw [hgg'] at h
      cases h
    exact (heap_setCell_other _ _ _ _ hne).trans hgg'

theorem pn_thresholds (bias : Int) (w : World) : Calls Tryd.prog 117 #[.int .i64 bias] w fun e w' =>
    e = .returned (.func (.func 126) #[] #[.pointer (some ⟨w.heap.size + 1, 0, none⟩), .pointer (some ⟨w.heap.size, 0, none⟩)]) ∧ IBox w' w.heap.size bias ∧ IBox w' (w.heap.size + 1) 0 ∧ Below w.heap.size w w' := by
  have hmf : ∀ (fn : Fn) (first cap : Array Value) (w : World), (Instr.makeFunc fn first cap).run Tryd.prog w = .ok (.func fn first cap) w := fun _ _ _ _ => rfl
  go_enter Tryd.func117, Tryd.ntmps117
  go_wp2
  go_ret
  refine ⟨rfl, ?_, ?_, ((Below.refl _ _).alloc (Nat.le_refl _) _).alloc (by simp) _⟩
  · exact (heap_alloc_lt _ _ _ (by simp)).trans (heap_alloc_eq _ _ _ rfl)
  · exact heap_alloc_eq _ _ _ (by simp)

theorem pn_thr1 (B0 B1 : Nat) (k : Nat) (bias : Int) (w : World) (hb : IBox w B0 bias) (hk : IBox w B1 (36 * (k : Int))) (hne : B0 ≠ B1) (hk2 : k ≤ 3000000000000) (h0 : 0 ≤ bias) (h1 : bias ≤ 1000) :
    Calls Tryd.prog 126 #[.pointer (some ⟨B1, 0, none⟩), .pointer (some ⟨B0, 0, none⟩)] w fun e w' =>
      e = .returned (.int .i64 (Puny.thr k bias)) ∧ IBox w' B0 bias ∧ IBox w' B1 (36 * ((k + 1 : Nat) : Int)) ∧ w' = w.setCell ⟨B1, 0, none⟩ (.int .i64 (36 * ((k : Int) + 1))) := by
  have c0 := hb.cell
  have c1 := hk.cell
  have f1 := hk.free
  have e1 : 36 * (k : Int) + 36 = 36 * ((k : Int) + 1) := by omega
  have HT := Lib.hid (show min (max (36 * (k : Int) + 36 - bias) 1) 26 = Puny.thr k bias by unfold Puny.thr; omega)
  have HE := Lib.hid e1
  clear e1
  have hlt := heap_lt hk
  go_enter Tryd.func126, Tryd.ntmps126
  go_wp2
  rw [HT.out]
  go_ret
  refine ⟨rfl, hb.other hne _, ?_, by rw [HE.out]⟩
  have := hk.set (36 * ((k + 1 : Nat) : Int))
  rw [HE.out]
  simpa using this

theorem SlB.oneBv (w : World) (b : UInt8) (t : TypeId) : SlB (w.alloc (.cells #[.int .u8 (b.toNat : Int)] t)) (some ⟨w.heap.size, 0, none⟩) 1 1 [b] := SlB.one w b t

set_option maxHeartbeats 2000000 in
set_option maxRecDepth 100000 in
theorem pn_append (base : Nat) (v : Value) (l : List UInt8) (q bias : Int) (w : World) (h : OwnB base w v l) (hb : base ≤ w.heap.size) (hl : l.length ≤ 1000000) (h0 : 0 ≤ q) (h1 : q ≤ 1000000000000) (b0 : 0 ≤ bias) (b1 : bias ≤ 1000) :
    Calls Tryd.prog 107 #[v, .int .i64 q, .int .i64 bias] w fun e w' => ∃ v', e = .returned v' ∧ OwnB base w' v' (l ++ Puny.numE q bias) ∧ Below base w w' := by
  obtain ⟨R, hR⟩ : ∃ R, R = Puny.numE q bias := ⟨_, rfl⟩
  have hst : [] ++ Puny.digs (q.toNat + 1) q 0 bias = R := by rw [hR]; rfl
  rw [← hR]
  have HST := Lib.hid hst
  clear hst hR
  go_enter Tryd.func107, Tryd.ntmps107
  go_wp2_with fail
  refine (pn_thresholds bias _).mono ?_; rintro e w1 ⟨rfl, hB0, hB1, hb1⟩
  have hO1 := h.ext hb1
  have hw1 := hb1.mono hb
  have hz : w.heap.size ≠ w.heap.size + 1 := by omega
  have hsz := hb1.size
  have hB1' : IBox w1 (w.heap.size + 1) (36 * ((0 : Nat) : Int)) := by simpa using hB1
  clear hB1 hb1
  go_wp2
  go_loopw [0, 1] (fun u y wr => ∃ (k : Nat) (x : Int) (f : Nat) (o : List UInt8), y = .int .i64 x ∧ 0 ≤ x ∧ (k : Int) + x ≤ q ∧ x < f ∧ OwnB base wr u (l ++ o) ∧ o.length ≤ k ∧ (k : Int) ≤ q ∧ Hid (o ++ Puny.digs f x k bias = R) ∧ IBox wr w.heap.size bias ∧ IBox wr (w.heap.size + 1) (36 * (k : Int)) ∧ Below base w wr) (fun _ y _ => (intOf y).toNat)
  case atStart => exact ⟨0, q, q.toNat + 1, [], rfl, h0, by omega, by omega, by simpa using hO1, by simp, by omega, HST, hB0, hB1', hw1⟩
  case round =>
    obtain ⟨k, x, f, o, rfl, hx, hkx, hf, hO, ho, hkq, HG, hK0, hK1, hB⟩ := hrel
    obtain ⟨f, rfl⟩ : ∃ g, f = g + 1 := ⟨f - 1, by omega⟩
    have hsz2 := hB.size
    obtain ⟨t1, t2⟩ := Puny.thr_bd k bias
    have hg := HG.out
    rw [Puny.digs] at hg
    have hthr := fun (W : World) a b => pn_thr1 w.heap.size (w.heap.size + 1) k bias W a b hz (by omega) b0 b1
    have HTH := Lib.hid hthr
    generalize Puny.thr k bias = t at *
    clear hthr
    by_cases hlt : x < t
    · rw [if_pos hlt] at hg
      have HG2 := Lib.hid hg
      clear hg
      go_wp2_with fail
      refine (HTH.out _ hK0 hK1).mono ?_; rintro e w2 ⟨rfl, hK0', hK1', rfl⟩
      have hO2 := hO.boxSet hK1 (.int .i64 (36 * ((k : Int) + 1)))
      have hB2 : Below base w (wr.setCell ⟨w.heap.size + 1, 0, none⟩ (.int .i64 (36 * ((k : Int) + 1)))) := hB.setCell (by simp; omega) _
      have hsz3 := hB2.size
      generalize wr.setCell ⟨w.heap.size + 1, 0, none⟩ (.int .i64 (36 * ((k : Int) + 1))) = w2 at *
      go_wp2_with fail
      refine (pn_digit x _ hx (by omega)).mono ?_; rintro e w3 ⟨rfl, rfl⟩
      unfold bv
      go_wp2_with (at_builtin; go_must (refine wpList_append_bytes rfl _ _ rfl base _ (l ++ o) rfl (hO2.alloc _) (some ⟨w2.heap.size, 0, none⟩) 1 1 [Puny.digit x] rfl (SlB.oneBv _ _ _) (by rw [List.length_append]; omega) (by simp; omega) ?_); intro v' w4 hown hg4 _)
      have hB4 := (hB2.alloc (by omega) (.cells #[.int .u8 ((Puny.digit x).toNat : Int)] 5)).grown hg4 (by simp; omega) (fun k hk => (hO2.lt k hk).1)
      go_ret
      exact ⟨_, rfl, by rw [← HG2.out, ← List.append_assoc]; exact hown, hB4⟩
    · rw [if_neg hlt] at hg
      have hn := Puny.next_lt x t t1 t2 (by omega)
      have hd0 : 0 ≤ (x - t) % (36 - t) := Int.emod_nonneg _ (by omega)
      have hd1 : (x - t) % (36 - t) < 36 - t := Int.emod_lt_of_pos _ (by omega)
      have HG2 := Lib.hid hg
      obtain ⟨hn0, hn1, hn2⟩ := hn
      clear hg
      go_wp2_with fail
      refine (HTH.out _ hK0 hK1).mono ?_; rintro e w2 ⟨rfl, hK0', hK1', rfl⟩
      have hO2 := hO.boxSet hK1 (.int .i64 (36 * ((k : Int) + 1)))
      have hB2 : Below base w (wr.setCell ⟨w.heap.size + 1, 0, none⟩ (.int .i64 (36 * ((k : Int) + 1)))) := hB.setCell (by simp; omega) _
      have hsz3 := hB2.size
      generalize wr.setCell ⟨w.heap.size + 1, 0, none⟩ (.int .i64 (36 * ((k : Int) + 1))) = w2 at *
      go_wp2_with fail
      refine (pn_digit (t + (x - t) % (36 - t)) _ (by omega) (by omega)).mono ?_; rintro e w3 ⟨rfl, rfl⟩
      unfold bv
      have hl0 := heap_lt hK0'
      have hl1 := heap_lt hK1'
      go_wp2_with (at_builtin; go_must (refine wpList_append_bytes rfl _ _ rfl base _ (l ++ o) rfl (hO2.alloc _) (some ⟨w2.heap.size, 0, none⟩) 1 1 [Puny.digit (t + (x - t) % (36 - t))] rfl (SlB.oneBv _ _ _) (by rw [List.length_append]; omega) (by simp; omega) ?_); intro v' w4 hown hg4 _)
      have hB4 := (hB2.alloc (by omega) (.cells #[.int .u8 ((Puny.digit (t + (x - t) % (36 - t))).toNat : Int)] 5)).grown hg4 (by simp; omega) (fun k hk => (hO2.lt k hk).1)
      have hK04 := (show IBox (w2.alloc (.cells #[.int .u8 ((Puny.digit (t + (x - t) % (36 - t))).toNat : Int)] 5)) w.heap.size bias from (heap_alloc_lt _ _ _ hl0).trans hK0').grownB (hO2.alloc _) hg4
      have hK14 := (show IBox (w2.alloc (.cells #[.int .u8 ((Puny.digit (t + (x - t) % (36 - t))).toNat : Int)] 5)) (w.heap.size + 1) _ from (heap_alloc_lt _ _ _ hl1).trans hK1').grownB (hO2.alloc _) hg4
      clear hg4 hO2 hK0' hK1' hB2
      go_wp2
      go_roundw
      case rel =>
        refine ⟨k + 1, (x - t) / (36 - t), f, o ++ [Puny.digit (t + (x - t) % (36 - t))], rfl, hn0, by omega, by omega, by rw [← List.append_assoc]; exact hown, by simp; omega, by omega, Lib.hid ?_, hK04, hK14, hB4⟩
        rw [← HG2.out]; simp
      case measure => simp [intOf]; omega

end Go.Proofs.YtcmeajaakdaeeaaDoor
