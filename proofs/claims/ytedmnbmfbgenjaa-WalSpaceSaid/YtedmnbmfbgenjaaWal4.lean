/-
  The walk through wal.Open.
-/
import Derived.Test.YtedmnbmfbgenjaaWal3
namespace Go.Proofs.Ytedmnbmfbgenjaa
open Go.RowKit

/-- wal.Open. -/
def Wal.open (d : Disk.Dk) (f c : Int) (ep : Nat) : Option Wal.L × List (List UInt8) × Int × Disk.Dk :=
  match Extent.read d f c 0 (Extent.size c) with
  | (b, z, d1) =>
    if z = 0 then
      match Wal.erase d1 f c (Frame.scan b ep).2 (b.drop (Frame.scan b ep).2) with
      | (z2, d2) =>
        if z2 = 0 then
          match Disk.sync d2 with
          | (z3, d3) => if z3 = 0 then (some ⟨f, c, ep, (Frame.scan b ep).2, (Frame.scan b ep).1.length, (Frame.scan b ep).1.length, false⟩, (Frame.scan b ep).1, 0, d3) else (none, [], z3, d3)
        else (none, [], z2, d2)
    else (none, [], z, d1)

theorem size_ib (c : Int) : ib (Extent.size c) := by unfold Extent.size ib; split <;> omega

set_option maxRecDepth 100000 in
set_option maxHeartbeats 2000000 in
theorem wl_open_err {F : Nat → Prop} {w : World} {g s m : Nat} {fa : Option Addr} {fn fc : Nat} {d : Disk.Dk} (h : PD F w g s m fa fn fc d) (f c : Int) (hf : ib f) (hc : ib c) (ep : Nat) {b : List UInt8} {z : Int} {d1 : Disk.Dk} (hr : Extent.read d f c 0 (Extent.size c) = (b, z, d1)) (hz : ¬ z = 0) :
    Calls Try.prog 22 #[.pointer (some ⟨g, 0, none⟩), .agg #[.int .i64 f, .int .i64 c], .int .u32 (ep : Nat)] w fun e w' => e = .returned (.tuple #[.pointer none, .slice none 0 0, .int .i64 z]) ∧ PD F w' g s m fa fn fc d1 ∧ Upd F w F w' := by
  have t1 : (z != 0) = true := by simpa using hz
  obtain ⟨W0, hW0⟩ : ∃ W0, W0 = w.alloc (.cells #[.int .i64 f, .int .i64 c] 41) := ⟨_, rfl⟩
  have hB0 : Below w.heap.size w W0 := by rw [hW0]; exact (Below.refl _ _).alloc (Nat.le_refl _) _
  have hE0 : W0.heap[w.heap.size]? = some (.cells #[.int .i64 f, .int .i64 c] 41 (0, 0)) := by rw [hW0]; exact heap_alloc_eq _ _ _ rfl
  have HW0 := Lib.hid hW0
  have HE0 := Lib.hid hE0
  have x1 : W0.drew.cell? ⟨w.heap.size, 0, none⟩ = some (.int .i64 f) := by rw [show W0.drew.cell? ⟨w.heap.size, 0, none⟩ = W0.cell? ⟨w.heap.size, 0, none⟩ from rfl, cell_of_row _ _ _ _ _ _ hE0]; rfl
  have x2 : W0.drew.cell? ⟨w.heap.size, 1, none⟩ = some (.int .i64 c) := by rw [show W0.drew.cell? ⟨w.heap.size, 1, none⟩ = W0.cell? ⟨w.heap.size, 1, none⟩ from rfl, cell_of_row _ _ _ _ _ _ hE0]; rfl
  have hP0 : PD F W0.drew g s m fa fn fc d := (h.ext hB0).drew
  have hU0 : Upd F w F W0.drew := (Upd.of_ext hB0).drew
  have hlt : w.heap.size < W0.drew.heap.size := heap_lt hE0
  clear hW0 hE0
  go_enter Try.func22, Try.ntmps22
  go_wp2_with fail
  rw [← HW0.out]
  go_region_law (first | (go_simp; go_at_call 57; go_must (refine (ex_size f c hc _).mono ?_); rintro e w1 ⟨rfl, hB1⟩; have y1 : w1.cell? ⟨w.heap.size, 0, none⟩ = some (.int .i64 f) := (by simp only [World.cell?, hB1.block _ hlt] at x1 ⊢; exact x1); have y2 : w1.cell? ⟨w.heap.size, 1, none⟩ = some (.int .i64 c) := (by simp only [World.cell?, hB1.block _ hlt] at x2 ⊢; exact x2)) | (go_simp; go_at_call 51; go_must (refine (ex_read_at (hP0.ext hB1) f c 0 (Extent.size c) hf hc (by unfold ib; omega) (size_ib c) hr).mono ?_); rintro e w2 ⟨v2, rfl, hO2, hP2, hU2⟩))
  all_goals
    clear hr
    go_wp2_with fail
    go_ret3
    exact ⟨rfl, hP2, (hU0.ext hB1).trans hU2⟩

end Go.Proofs.Ytedmnbmfbgenjaa
