/-
  The pair of disks under the operations on extents.
-/
import Derived.Test.YtabeelcidlhniaaGreatPair
import Derived.Test.YtabeelcidlhniaaGreatRExt3
import Derived.Test.YtabeelcidlhniaaGreatRun20
namespace Go.Proofs.YtabeelcidlhniaaGreat
open Go.RowKit

section
variable {W : World} {F G F' G' : Nat → Prop} {g r : Nat} {d e d' e' : Disk.Dk} {w w' : World}

theorem Pr.eread (h : Pr W F G g r d e w) (f c off len : Int) (hf : ib f) (hc : ib c) (ho : ib off) (hl : ib len) {b : List UInt8} {z : Int} (hr : Extent.read d f c off len = (b, z, d')) :
    Calls Tryz.prog 48 #[.pointer (some ⟨g, 0, none⟩), .agg #[.int .i64 f, .int .i64 c], .int .i64 off, .int .i64 len] w fun q w' => ∃ v, q = .returned (.tuple #[v, .int .i64 z]) ∧ Val W F G w' v b ∧ Pr W F G g r d' e w' ∧ K2 W F G w F G w' := by
  obtain ⟨s, m, fa, fn, fc, sb, cb, sc, ga, gn, gc, hP, hR, hd, hF, hG, hB⟩ := id h
  refine (ex_read_at hP f c off len hf hc ho hl hr).mono ?_
  rintro q w1 ⟨v, rfl, hO, hP', hU⟩
  exact ⟨v, rfl, h.fresh hO, h.stepL hP' hU⟩
theorem Pr.reread (h : Pr W F G g r d e w) (f c off len : Int) (hf : ib f) (hc : ib c) (ho : ib off) (hl : ib len) {b : List UInt8} {z : Int} (hr : Extent.read e f c off len = (b, z, e')) :
    Calls Tryz.prog 53 #[.pointer (some ⟨r, 0, none⟩), .agg #[.int .i64 f, .int .i64 c], .int .i64 off, .int .i64 len] w fun q w' => ∃ v, q = .returned (.tuple #[v, .int .i64 z]) ∧ Val W F G w' v b ∧ Pr W F G g r d e' w' ∧ K2 W F G w F G w' := by
  obtain ⟨s, m, fa, fn, fc, sb, cb, sc, ga, gn, gc, hP, hR, hd, hF, hG, hB⟩ := id h
  have := re_read hR f c off len hf hc ho hl
  unfold RExReadPost at this; rw [hr] at this
  refine this.mono ?_
  rintro q w1 ⟨v, rfl, hO, hR', hU⟩
  exact ⟨v, rfl, h.fresh hO, h.stepR hR' hU⟩
theorem Pr.ewrite (h : Pr W F G g r d e w) (f c off : Int) (hf : ib f) (hc : ib c) (ho : ib off) {v : Value} {x : List UInt8} (hv : Val W F G w v x) {z : Int} (hr : Extent.write d f c off x = (z, d')) :
    Calls Tryz.prog 37 #[.pointer (some ⟨g, 0, none⟩), .agg #[.int .i64 f, .int .i64 c], .int .i64 off, v] w fun q w' => q = .returned (.int .i64 z) ∧ ∃ F', Pr W F' G g r d' e w' ∧ K2 W F G w F' G w' := by
  obtain ⟨s, m, fa, fn, fc, sb, cb, sc, ga, gn, gc, hP, hR, hd, hF, hG, hB⟩ := id h
  obtain ⟨a, ca, rfl, hs, hx⟩ := hv.sl
  refine (ex_write_at hP f c off hf hc ho hs (fun y hy _ => (hx y hy).1) hr).mono ?_
  rintro q w1 ⟨rfl, F', hP', hU⟩
  exact ⟨rfl, F', h.stepL hP' hU⟩
theorem Pr.rewrite (h : Pr W F G g r d e w) (f c off : Int) (hf : ib f) (hc : ib c) (ho : ib off) {p : Option Addr} {n k : Nat} {x : List UInt8} (hs : SlB W p n k x) {z : Int} (hr : Extent.write e f c off x = (z, e')) :
    Calls Tryz.prog 40 #[.pointer (some ⟨r, 0, none⟩), .agg #[.int .i64 f, .int .i64 c], .int .i64 off, .slice p n k] w fun q w' => q = .returned (.int .i64 z) ∧ ∃ G', Pr W F G' g r d e' w' ∧ K2 W F G w F G' w' := by
  obtain ⟨s, m, fa, fn, fc, sb, cb, sc, ga, gn, gc, hP, hR, hd, hF, hG, hB⟩ := id h
  have := re_write hR f c off hf hc ho p n k x (hs.ext hB) (fun y hy hne hg => by subst hy; have := hs.blt hne; have := hG _ hg; omega)
  unfold RExWritePost at this; rw [hr] at this
  refine this.mono ?_
  rintro q w1 ⟨rfl, G', hR', hU⟩
  exact ⟨rfl, G', h.stepR hR' hU⟩
theorem Pr.evalid (h : Pr W F G g r d e w) (f c : Int) : Calls Tryz.prog 84 #[.pointer (some ⟨g, 0, none⟩), .agg #[.int .i64 f, .int .i64 c]] w fun q w' => q = .returned (.bool (Extent.valid d.st.length f c)) ∧ Below w.heap.size w w' := by
  obtain ⟨s, m, fa, fn, fc, sb, cb, sc, ga, gn, gc, hP, -⟩ := h
  exact ex_valid hP f c
theorem Pr.revalid (h : Pr W F G g r d e w) (f c : Int) : Calls Tryz.prog 52 #[.pointer (some ⟨r, 0, none⟩), .agg #[.int .i64 f, .int .i64 c]] w fun q w' => q = .returned (.bool (Extent.valid e.st.length f c)) ∧ Below w.heap.size w w' := by
  obtain ⟨s, m, fa, fn, fc, sb, cb, sc, ga, gn, gc, hP, hR, -⟩ := h
  exact re_valid hR f c
theorem Pr.soff (h : Pr W F G g r d e w) : Calls Tryz.prog 22 #[.pointer (some ⟨g, 0, none⟩)] w fun q w' => q = .returned (.bool d.off) ∧ w = w' := by
  obtain ⟨s, m, fa, fn, fc, sb, cb, sc, ga, gn, gc, hP, -⟩ := h
  exact sd_off hP
theorem Pr.roff (h : Pr W F G g r d e w) : Calls Tryz.prog 23 #[.pointer (some ⟨r, 0, none⟩)] w fun q w' => q = .returned (.bool e.off) ∧ w = w' := by
  obtain ⟨s, m, fa, fn, fc, sb, cb, sc, ga, gn, gc, hP, hR, -⟩ := h
  exact rd_off hR
theorem Pr.sdirty (h : Pr W F G g r d e w) : Calls Tryz.prog 25 #[.pointer (some ⟨g, 0, none⟩)] w fun q w' => ∃ v, q = .returned v ∧ OwnI w.heap.size w' v (Disk.dirty d) ∧ Below w.heap.size w w' := by
  obtain ⟨s, m, fa, fn, fc, sb, cb, sc, ga, gn, gc, hP, -⟩ := h
  exact sd_dirty hP
theorem Pr.rdirty (h : Pr W F G g r d e w) : Calls Tryz.prog 26 #[.pointer (some ⟨r, 0, none⟩)] w fun q w' => ∃ v, q = .returned v ∧ OwnI w.heap.size w' v (Disk.dirty e) ∧ Below w.heap.size w w' := by
  obtain ⟨s, m, fa, fn, fc, sb, cb, sc, ga, gn, gc, hP, hR, -⟩ := h
  exact rd_dirty hR
theorem Pr.simage (h : Pr W F G g r d e w) : Calls Tryz.prog 27 #[.pointer (some ⟨g, 0, none⟩)] w fun q w' => ∃ v, q = .returned v ∧ OwnB w.heap.size w' v d.st.flatten ∧ Below w.heap.size w w' := by
  obtain ⟨s, m, fa, fn, fc, sb, cb, sc, ga, gn, gc, hP, -⟩ := h
  exact sd_image hP
theorem Pr.rimage (h : Pr W F G g r d e w) : Calls Tryz.prog 28 #[.pointer (some ⟨r, 0, none⟩)] w fun q w' => ∃ v, q = .returned v ∧ OwnB w.heap.size w' v e.st.flatten ∧ Below w.heap.size w w' := by
  obtain ⟨s, m, fa, fn, fc, sb, cb, sc, ga, gn, gc, hP, hR, -⟩ := h
  exact rd_image hR
theorem At5.ext {b : Nat} {A : Array Value} {t : TypeId} (h : At5 F G w b A t) (k : Below w.heap.size w w') : At5 F G w' b A t := ⟨Nat.lt_of_lt_of_le h.1 k.size, h.2.1, h.2.2.1, (k.block b h.1).trans h.2.2.2⟩
end

end Go.Proofs.YtabeelcidlhniaaGreat
