/-
  The pair of disks under the operations on extents; small of law 06.
-/
import Derived.Test.YtedmnbmfbgenjaaPair
import Derived.Test.YtedmnbmfbgenjaaRExt3
import Derived.Test.YtedmnbmfbgenjaaOps6
import Derived.Test.YtedmnbmfbgenjaaExtAt
namespace Go.Proofs.Ytedmnbmfbgenjaa
open Go.RowKit

def O6.Small (x : O6) : Prop := x.data.length ≤ 1000 ∧ x.fs.length ≤ 66 ∧ x.ks.length ≤ 80

/-- What small says of a script. -/
def SmallPost6 (n : Nat) (l : List O6) (w : World) (e : Ending) (w' : World) : Prop := ∃ r, e = .returned (.bool r) ∧ (r = true → n ≤ 40 ∧ ∀ x ∈ l, x.Small) ∧ w' = w

set_option maxRecDepth 100000 in
set_option maxHeartbeats 2000000 in
theorem law6_small (a : Option Addr) (n c : Nat) (l : List O6) (w : World) (h : SlO6 w a n c l) :
    Calls Try.prog 52 #[.slice a n c] w (SmallPost6 n l w) := by
  have hle := h.le
  by_cases hn : 40 < n
  · go_enter Try.func52, Try.ntmps52
    go_wp2
    go_ret
    exact ⟨false, rfl, (fun e => by cases e), rfl⟩
  have HL := Lib.hid h.len
  go_enter Try.func52, Try.ntmps52
  go_wp2
  go_loopw [3] (fun i wr => ∃ k : Nat, k ≤ n ∧ i = .int .i64 k ∧ Hid (∀ j, j < k → ∀ x, l[j]? = some x → x.Small) ∧ wr = w) (fun i _ => n - (intOf i).toNat)
  case atStart => exact ⟨0, by omega, rfl, Lib.hid (fun j hj => by omega), rfl⟩
  case round =>
    obtain ⟨k, hk, rfl, HS, rfl⟩ := hrel
    by_cases hlt : k < n
    · obtain ⟨b, o, x, rfl, hb, hx, hi⟩ := h.at hlt
      obtain ⟨-, -, ⟨p, m, d, c2, s2⟩, ⟨p1, m1, d1, c3, s3⟩, ⟨p2, m2, d2, c4, s4⟩⟩ := hi
      have l2 := s2.len; have l3 := s3.len; have l4 := s4.len
      have e2 := s2.le; have e3 := s3.le; have e4 := s4.le
      have i0 : (0 : Int) ≤ (k : Int) := by omega
      have i1 : (k : Int) < (n : Int) := by omega
      have HX := Lib.hid (And.intro hx (And.intro l2 (And.intro l3 l4)))
      clear hx l2 l3 l4 s2 s3 s4
      by_cases b1 : 1000 < m
      · go_wp2
        go_ret
        exact ⟨false, rfl, (fun e => by cases e), rfl⟩
      by_cases b2 : 66 < m1
      · have t2 : decide (m1 ≤ 66) = false := by simp; omega
        go_wp2_with (go_at_call 70; go_must (refine (keep_smallf _ _ _ _ e3).mono ?_); rintro e w1 ⟨rfl, rfl⟩)
        go_ret
        exact ⟨false, rfl, (fun e => by cases e), rfl⟩
      have t2 : decide (m1 ≤ 66) = true := by simp; omega
      by_cases b3 : 80 < m2
      · go_wp2_with (go_at_call 70; go_must (refine (keep_smallf _ _ _ _ e3).mono ?_); rintro e w1 ⟨rfl, rfl⟩)
        go_ret
        exact ⟨false, rfl, (fun e => by cases e), rfl⟩
      go_wp2_with (go_at_call 70; go_must (refine (keep_smallf _ _ _ _ e3).mono ?_); rintro e w1 ⟨rfl, rfl⟩)
      refine ⟨⟨k + 1, by omega, by go_num, ⟨Lib.hid (fun j hj y hy => ?_), trivial⟩⟩, by simp [intOf]; omega⟩
      obtain ⟨hx, l2, l3, l4⟩ := HX.out
      rcases Nat.lt_or_ge j k with hjk | hjk
      · exact HS.out j hjk y hy
      · obtain rfl : j = k := by omega
        rw [hx] at hy; cases hy
        exact ⟨by omega, by omega, by omega⟩
    · obtain rfl : k = n := by omega
      go_wp2
      go_ret
      refine ⟨true, rfl, fun _ => ⟨by omega, fun x hx => ?_⟩, rfl⟩
      obtain ⟨j, hj, rfl⟩ := List.mem_iff_getElem.1 hx
      exact HS.out j (by rw [← HL.out]; exact hj) _ (List.getElem?_eq_getElem hj)


section
variable {W : World} {F G F' G' : Nat → Prop} {g r : Nat} {d e d' e' : Disk.Dk} {w w' : World}

theorem Pr.eread (h : Pr W F G g r d e w) (f c off len : Int) (hf : ib f) (hc : ib c) (ho : ib off) (hl : ib len) {b : List UInt8} {z : Int} (hr : Extent.read d f c off len = (b, z, d')) :
    Calls Try.prog 51 #[.pointer (some ⟨g, 0, none⟩), .agg #[.int .i64 f, .int .i64 c], .int .i64 off, .int .i64 len] w fun q w' => ∃ v, q = .returned (.tuple #[v, .int .i64 z]) ∧ Val W F G w' v b ∧ Pr W F G g r d' e w' ∧ K2 W F G w F G w' := by
  obtain ⟨s, m, fa, fn, fc, sb, cb, sc, ga, gn, gc, hP, hR, hd, hF, hG, hB⟩ := id h
  refine (ex_read_at hP f c off len hf hc ho hl hr).mono ?_
  rintro q w1 ⟨v, rfl, hO, hP', hU⟩
  exact ⟨v, rfl, h.fresh hO, h.stepL hP' hU⟩
theorem Pr.reread (h : Pr W F G g r d e w) (f c off len : Int) (hf : ib f) (hc : ib c) (ho : ib off) (hl : ib len) {b : List UInt8} {z : Int} (hr : Extent.read e f c off len = (b, z, e')) :
    Calls Try.prog 53 #[.pointer (some ⟨r, 0, none⟩), .agg #[.int .i64 f, .int .i64 c], .int .i64 off, .int .i64 len] w fun q w' => ∃ v, q = .returned (.tuple #[v, .int .i64 z]) ∧ Val W F G w' v b ∧ Pr W F G g r d e' w' ∧ K2 W F G w F G w' := by
  obtain ⟨s, m, fa, fn, fc, sb, cb, sc, ga, gn, gc, hP, hR, hd, hF, hG, hB⟩ := id h
  have := re_read hR f c off len hf hc ho hl
  unfold RExReadPost at this; rw [hr] at this
  refine this.mono ?_
  rintro q w1 ⟨v, rfl, hO, hR', hU⟩
  exact ⟨v, rfl, h.fresh hO, h.stepR hR' hU⟩
theorem Pr.ewrite (h : Pr W F G g r d e w) (f c off : Int) (hf : ib f) (hc : ib c) (ho : ib off) {v : Value} {x : List UInt8} (hv : Val W F G w v x) {z : Int} (hr : Extent.write d f c off x = (z, d')) :
    Calls Try.prog 50 #[.pointer (some ⟨g, 0, none⟩), .agg #[.int .i64 f, .int .i64 c], .int .i64 off, v] w fun q w' => q = .returned (.int .i64 z) ∧ ∃ F', Pr W F' G g r d' e w' ∧ K2 W F G w F' G w' := by
  obtain ⟨s, m, fa, fn, fc, sb, cb, sc, ga, gn, gc, hP, hR, hd, hF, hG, hB⟩ := id h
  obtain ⟨a, ca, rfl, hs, hx⟩ := hv.sl
  refine (ex_write_at hP f c off hf hc ho hs (fun y hy _ => (hx y hy).1) hr).mono ?_
  rintro q w1 ⟨rfl, F', hP', hU⟩
  exact ⟨rfl, F', h.stepL hP' hU⟩
theorem Pr.rewrite (h : Pr W F G g r d e w) (f c off : Int) (hf : ib f) (hc : ib c) (ho : ib off) {p : Option Addr} {n k : Nat} {x : List UInt8} (hs : SlB W p n k x) {z : Int} (hr : Extent.write e f c off x = (z, e')) :
    Calls Try.prog 54 #[.pointer (some ⟨r, 0, none⟩), .agg #[.int .i64 f, .int .i64 c], .int .i64 off, .slice p n k] w fun q w' => q = .returned (.int .i64 z) ∧ ∃ G', Pr W F G' g r d e' w' ∧ K2 W F G w F G' w' := by
  obtain ⟨s, m, fa, fn, fc, sb, cb, sc, ga, gn, gc, hP, hR, hd, hF, hG, hB⟩ := id h
  have := re_write hR f c off hf hc ho p n k x (hs.ext hB) (fun y hy hne hg => by subst hy; have := hs.blt hne; have := hG _ hg; omega)
  unfold RExWritePost at this; rw [hr] at this
  refine this.mono ?_
  rintro q w1 ⟨rfl, G', hR', hU⟩
  exact ⟨rfl, G', h.stepR hR' hU⟩
theorem Pr.evalid (h : Pr W F G g r d e w) (f c : Int) : Calls Try.prog 55 #[.pointer (some ⟨g, 0, none⟩), .agg #[.int .i64 f, .int .i64 c]] w fun q w' => q = .returned (.bool (Extent.valid d.st.length f c)) ∧ Below w.heap.size w w' := by
  obtain ⟨s, m, fa, fn, fc, sb, cb, sc, ga, gn, gc, hP, -⟩ := h
  exact ex_valid hP f c
theorem Pr.revalid (h : Pr W F G g r d e w) (f c : Int) : Calls Try.prog 56 #[.pointer (some ⟨r, 0, none⟩), .agg #[.int .i64 f, .int .i64 c]] w fun q w' => q = .returned (.bool (Extent.valid e.st.length f c)) ∧ Below w.heap.size w w' := by
  obtain ⟨s, m, fa, fn, fc, sb, cb, sc, ga, gn, gc, hP, hR, -⟩ := h
  exact re_valid hR f c
theorem Pr.soff (h : Pr W F G g r d e w) : Calls Try.prog 44 #[.pointer (some ⟨g, 0, none⟩)] w fun q w' => q = .returned (.bool d.off) ∧ w = w' := by
  obtain ⟨s, m, fa, fn, fc, sb, cb, sc, ga, gn, gc, hP, -⟩ := h
  exact sd_off hP
theorem Pr.roff (h : Pr W F G g r d e w) : Calls Try.prog 59 #[.pointer (some ⟨r, 0, none⟩)] w fun q w' => q = .returned (.bool e.off) ∧ w = w' := by
  obtain ⟨s, m, fa, fn, fc, sb, cb, sc, ga, gn, gc, hP, hR, -⟩ := h
  exact rd_off hR
theorem Pr.sdirty (h : Pr W F G g r d e w) : Calls Try.prog 43 #[.pointer (some ⟨g, 0, none⟩)] w fun q w' => ∃ v, q = .returned v ∧ OwnI w.heap.size w' v (Disk.dirty d) ∧ Below w.heap.size w w' := by
  obtain ⟨s, m, fa, fn, fc, sb, cb, sc, ga, gn, gc, hP, -⟩ := h
  exact sd_dirty hP
theorem Pr.rdirty (h : Pr W F G g r d e w) : Calls Try.prog 61 #[.pointer (some ⟨r, 0, none⟩)] w fun q w' => ∃ v, q = .returned v ∧ OwnI w.heap.size w' v (Disk.dirty e) ∧ Below w.heap.size w w' := by
  obtain ⟨s, m, fa, fn, fc, sb, cb, sc, ga, gn, gc, hP, hR, -⟩ := h
  exact rd_dirty hR
theorem Pr.simage (h : Pr W F G g r d e w) : Calls Try.prog 19 #[.pointer (some ⟨g, 0, none⟩)] w fun q w' => ∃ v, q = .returned v ∧ OwnB w.heap.size w' v d.st.flatten ∧ Below w.heap.size w w' := by
  obtain ⟨s, m, fa, fn, fc, sb, cb, sc, ga, gn, gc, hP, -⟩ := h
  exact sd_image hP
theorem Pr.rimage (h : Pr W F G g r d e w) : Calls Try.prog 62 #[.pointer (some ⟨r, 0, none⟩)] w fun q w' => ∃ v, q = .returned v ∧ OwnB w.heap.size w' v e.st.flatten ∧ Below w.heap.size w w' := by
  obtain ⟨s, m, fa, fn, fc, sb, cb, sc, ga, gn, gc, hP, hR, -⟩ := h
  exact rd_image hR
theorem At5.ext {b : Nat} {A : Array Value} {t : TypeId} (h : At5 F G w b A t) (k : Below w.heap.size w w') : At5 F G w' b A t := ⟨Nat.lt_of_lt_of_le h.1 k.size, h.2.1, h.2.2.1, (k.block b h.1).trans h.2.2.2⟩
end

end Go.Proofs.Ytedmnbmfbgenjaa
