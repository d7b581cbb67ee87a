/-
  The walks through the package wal: Failed, Records, Synced, Free, fail.
-/
import Derived.Test.YtedmnbmfbgenjaaExtAt
import Derived.Test.YtedmnbmfbgenjaaFrame4
namespace Go.Proofs.Ytedmnbmfbgenjaa
open Go.RowKit

/-- A log but for its disk. -/
structure Wal.L where
  f : Int
  c : Int
  ep : Nat
  en : Nat
  rc : Nat
  sy : Nat
  fl : Bool

/-- Block q is the log on the disk in block g. -/
def LB (w : World) (q g : Nat) (L : Wal.L) : Prop :=
  w.heap[q]? = some (.cells #[.pointer (some ⟨g, 0, none⟩), .int .i64 L.f, .int .i64 L.c, .int .u32 (L.ep : Nat), .int .i64 (L.en : Nat), .int .i64 (L.rc : Nat), .int .i64 (L.sy : Nat), .bool L.fl] 100 (0, 0))
theorem LB.lt {w : World} {q g : Nat} {L : Wal.L} (h : LB w q g L) : q < w.heap.size := heap_lt h
theorem LB.same {w w' : World} {q g : Nat} {L : Wal.L} (h : LB w q g L) (e : w'.heap[q]? = w.heap[q]?) : LB w' q g L := e.trans h
theorem LB.ext {w w' : World} {q g : Nat} {L : Wal.L} (h : LB w q g L) (e : Below w.heap.size w w') : LB w' q g L := h.same (e.block _ h.lt)
theorem LB.cells {w : World} {q g : Nat} {L : Wal.L} (h : LB w q g L) : w.cell? ⟨q, 0, none⟩ = some (.pointer (some ⟨g, 0, none⟩)) ∧ w.cell? ⟨q, 1, none⟩ = some (.int .i64 L.f) ∧ w.cell? ⟨q, 2, none⟩ = some (.int .i64 L.c) ∧ w.cell? ⟨q, 3, none⟩ = some (.int .u32 (L.ep : Nat)) ∧
    w.cell? ⟨q, 4, none⟩ = some (.int .i64 (L.en : Nat)) ∧ w.cell? ⟨q, 5, none⟩ = some (.int .i64 (L.rc : Nat)) ∧ w.cell? ⟨q, 6, none⟩ = some (.int .i64 (L.sy : Nat)) ∧ w.cell? ⟨q, 7, none⟩ = some (.bool L.fl) := by
  refine ⟨?_, ?_, ?_, ?_, ?_, ?_, ?_, ?_⟩ <;> rw [cell_of_row _ _ _ _ _ _ h] <;> rfl
theorem LB.free {w : World} {q g : Nat} {L : Wal.L} (h : LB w q g L) (k : Nat) : w.frozen? ⟨q, k, none⟩ = false := frozen_of_row _ _ _ _ _ h

theorem wl_failed_nil (w : World) : Calls Try.prog 26 #[.pointer none] w fun e w' => e = .returned (.bool true) ∧ w = w' := by
  go_enter Try.func26, Try.ntmps26
  go_wp2
  go_ret
  exact ⟨rfl, rfl⟩
theorem wl_failed {w : World} {q g : Nat} {L : Wal.L} (h : LB w q g L) : Calls Try.prog 26 #[.pointer (some ⟨q, 0, none⟩)] w fun e w' => e = .returned (.bool L.fl) ∧ w = w' := by
  have h7 := h.cells.2.2.2.2.2.2.2
  clear h
  obtain ⟨f, c, ep, en, rc, sy, fl⟩ := L
  simp only at h7
  go_enter Try.func26, Try.ntmps26
  go_wp2
  go_ret
  exact ⟨rfl, rfl⟩
theorem wl_records_nil (w : World) : Calls Try.prog 25 #[.pointer none] w fun e w' => e = .returned (.int .i64 0) ∧ w = w' := by
  go_enter Try.func25, Try.ntmps25
  go_wp2
  go_ret
  exact ⟨rfl, rfl⟩
theorem wl_records {w : World} {q g : Nat} {L : Wal.L} (h : LB w q g L) : Calls Try.prog 25 #[.pointer (some ⟨q, 0, none⟩)] w fun e w' => e = .returned (.int .i64 (L.rc : Nat)) ∧ w = w' := by
  have h7 := h.cells.2.2.2.2.2.1
  clear h
  go_enter Try.func25, Try.ntmps25
  go_wp2
  go_ret
  exact ⟨rfl, rfl⟩
theorem wl_synced_nil (w : World) : Calls Try.prog 28 #[.pointer none] w fun e w' => e = .returned (.int .i64 0) ∧ w = w' := by
  go_enter Try.func28, Try.ntmps28
  go_wp2
  go_ret
  exact ⟨rfl, rfl⟩
theorem wl_synced {w : World} {q g : Nat} {L : Wal.L} (h : LB w q g L) : Calls Try.prog 28 #[.pointer (some ⟨q, 0, none⟩)] w fun e w' => e = .returned (.int .i64 (L.sy : Nat)) ∧ w = w' := by
  have h7 := h.cells.2.2.2.2.2.2.1
  clear h
  go_enter Try.func28, Try.ntmps28
  go_wp2
  go_ret
  exact ⟨rfl, rfl⟩
theorem wl_free_nil (w : World) : Calls Try.prog 24 #[.pointer none] w fun e w' => e = .returned (.int .i64 0) ∧ w = w' := by
  go_enter Try.func24, Try.ntmps24
  go_wp2
  go_ret
  exact ⟨rfl, rfl⟩
set_option maxRecDepth 100000 in
theorem wl_free {w : World} {q g : Nat} {L : Wal.L} (h : LB w q g L) (hc : ib L.c) (he : L.en ≤ 1000000) (hs : Extent.size L.c ≤ 1000000 ∧ 0 ≤ Extent.size L.c) :
    Calls Try.prog 24 #[.pointer (some ⟨q, 0, none⟩)] w fun e w' => e = .returned (.int .i64 (Extent.size L.c - (L.en : Int))) ∧ Below w.heap.size w w' := by
  obtain ⟨h0, h1, h2, h3, h4, h5, h6, h7⟩ := h.cells
  have hc' := hc
  have hw : IntKind.i64.wrap (Extent.size L.c - (L.en : Int)) = Extent.size L.c - (L.en : Int) := by unfold IntKind.wrap; simp [IntKind.bits, IntKind.signed]; omega
  go_enter Try.func24, Try.ntmps24
  go_wp2_with fail
  go_region_held3 (fun w' => w'.cell? ⟨q, 1, none⟩ = some (.int .i64 L.f) ∧ w'.cell? ⟨q, 2, none⟩ = some (.int .i64 L.c) ∧ w'.cell? ⟨q, 4, none⟩ = some (.int .i64 (L.en : Nat))) (first | exact ⟨h1, h2, h4⟩ | assumption | exact ⟨(h.ext (Below.trans (Below.drew (Below.refl _ w)) (by assumption))).cells.2.1, (h.ext (Below.trans (Below.drew (Below.refl _ w)) (by assumption))).cells.2.2.1, (h.ext (Below.trans (Below.drew (Below.refl _ w)) (by assumption))).cells.2.2.2.2.1⟩) (first | (go_at_call 57; go_must (refine (ex_size _ _ hc' _).mono ?_); rintro e w9 ⟨rfl, hb9⟩))
  all_goals
    go_wp2_with fail
    go_ret
    exact ⟨rfl, Below.trans (Below.drew (Below.refl _ w)) (by assumption)⟩

/-- fail remembers an error. -/
theorem wl_fail {w : World} {q g : Nat} {L : Wal.L} (h : LB w q g L) (z : Int) : Calls Try.prog 69 #[.pointer (some ⟨q, 0, none⟩), .int .i64 z] w fun e w' =>
    e = .returned (.int .i64 z) ∧ w' = w.setCell ⟨q, 7, none⟩ (.bool (L.fl || z != 0)) ∧ LB w' q g { L with fl := L.fl || z != 0 } := by
  have h7 := h.cells.2.2.2.2.2.2.2
  have hf := h.free 7
  have hS : LB (w.setCell ⟨q, 7, none⟩ (.bool (L.fl || z != 0))) q g { L with fl := L.fl || z != 0 } := by
    unfold LB; rw [heap_setCell_same _ _ _ _ _ _ h]; rfl
  have HS := Lib.hid hS
  clear hS h
  obtain ⟨f, c, ep, en, rc, sy, fl⟩ := L
  simp only at h7
  cases fl
  · by_cases hz : z = 0
    · subst hz
      go_enter Try.func69, Try.ntmps69
      go_wp2
      go_ret
      exact ⟨rfl, rfl, HS.out⟩
    · have t1 : (z != 0) = true := by simpa using hz
      rw [t1] at HS ⊢
      go_enter Try.func69, Try.ntmps69
      go_wp2
      go_ret
      exact ⟨rfl, rfl, HS.out⟩
  · go_enter Try.func69, Try.ntmps69
    go_wp2
    go_ret
    exact ⟨rfl, rfl, HS.out⟩

end Go.Proofs.Ytedmnbmfbgenjaa
