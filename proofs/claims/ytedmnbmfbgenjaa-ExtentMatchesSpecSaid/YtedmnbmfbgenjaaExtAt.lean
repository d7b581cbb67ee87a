/-
  extent.Read and extent.Write at known results; awake of law 06.
-/
import Derived.Test.YtedmnbmfbgenjaaExtent3
import Derived.Test.YtedmnbmfbgenjaaDirty
import Derived.Test.YtedmnbmfbgenjaaSecAt
namespace Go.Proofs.Ytedmnbmfbgenjaa
open Go.RowKit

section
variable {F : Nat → Prop} {w : World} {g s m : Nat} {fa : Option Addr} {fn fc : Nat} {d d' : Disk.Dk}
theorem ex_read_at (h : PD F w g s m fa fn fc d) (f c off len : Int) (hf : ib f) (hc : ib c) (ho : ib off) (hl : ib len) {b : List UInt8} {z : Int} (hr : Extent.read d f c off len = (b, z, d')) :
    Calls Try.prog 51 #[.pointer (some ⟨g, 0, none⟩), .agg #[.int .i64 f, .int .i64 c], .int .i64 off, .int .i64 len] w fun e w' => ∃ v, e = .returned (.tuple #[v, .int .i64 z]) ∧ OwnB w.heap.size w' v b ∧ PD F w' g s m fa fn fc d' ∧ Upd F w F w' := by
  have := ex_read h f c off len hf hc ho hl
  unfold ExReadPost at this; rw [hr] at this; exact this
theorem ex_write_at (h : PD F w g s m fa fn fc d) (f c off : Int) (hf : ib f) (hc : ib c) (ho : ib off) {a : Option Addr} {n ca : Nat} {x : List UInt8} (hx : SlB w a n ca x) (hF : ∀ y, a = some y → x ≠ [] → ¬ F y.block) {z : Int} (hr : Extent.write d f c off x = (z, d')) :
    Calls Try.prog 50 #[.pointer (some ⟨g, 0, none⟩), .agg #[.int .i64 f, .int .i64 c], .int .i64 off, .slice a n ca] w fun e w' => e = .returned (.int .i64 z) ∧ ∃ F', PD F' w' g s m fa fn fc d' ∧ Upd F w F' w' := by
  have := ex_write h f c off hf hc ho a n ca x hx hF
  unfold ExWritePost at this; rw [hr] at this; exact this
end

def ten : List UInt8 := [48, 49, 50, 51, 52, 53, 54, 55, 56, 57]
theorem aw6_facts : ∃ d1 d2 b, Extent.valid 4 1 2 = true ∧ Extent.size 2 = 128 ∧ Extent.write (Disk.new 4) 1 2 60 ten = (0, d1) ∧ Extent.read d1 1 2 58 14 = (b, 0, d2) ∧ b.length = 14 ∧ (b.take 12).drop 2 = ten ∧ (Disk.dirty d2).length = 2 := by
  refine ⟨_, _, _, ?_, ?_, Prod.ext (?_ : _ = (0 : Int)) rfl, Prod.ext rfl (Prod.ext (?_ : _ = (0 : Int)) rfl), ?_, ?_, ?_⟩ <;> decide +kernel

set_option maxRecDepth 100000 in
set_option maxHeartbeats 2000000 in
theorem law6_awake (w : World) : Calls Try.prog 49 #[] w fun e w' => e = .returned (.bool true) ∧ Below w.heap.size w w' := by
  obtain ⟨d1, d2, b, e1, e2, e3, e4, l1, l2, l3⟩ := aw6_facts
  have H1 := Lib.hid e1; have H2 := Lib.hid e2; have H3 := Lib.hid e3; have H4 := Lib.hid e4
  have L1 := Lib.hid l1; have L2 := Lib.hid l2; have L3 := Lib.hid l3
  clear e1 e2 e3 e4 l1 l2 l3
  have ib1 : ∀ z : Int, 0 ≤ z → z ≤ 1000 → ib z := fun z h1 h2 => by unfold ib; omega
  go_enter Try.func49, Try.ntmps49
  go_wp2_with fail
  refine (sd_new 4 (by omega) (by omega) _ 4 rfl).mono ?_; rintro e w1 ⟨F, g, s, m, fa, fn, fc, rfl, hP1, hF1, hB1⟩
  have hBx : (w1.alloc (.cells #[.int .i64 1, .int .i64 2] 41)).heap[w1.heap.size]? = some (.cells #[.int .i64 1, .int .i64 2] 41 (0, 0)) := heap_alloc_eq _ _ _ rfl
  have hPx := hP1.alloc (.cells #[.int .i64 1, .int .i64 2] 41)
  have hzx : (w1.alloc (.cells #[.int .i64 1, .int .i64 2] 41)).heap.size = w1.heap.size + 1 := by simp
  have HX := Lib.hid (And.intro hBx (And.intro hPx hzx))
  clear hBx hPx hzx
  obtain ⟨W, hW⟩ : ∃ W, W = w1.alloc (.cells #[.int .i64 1, .int .i64 2] 41) := ⟨_, rfl⟩
  have hU1 : Upd F w1 F W := by rw [hW]; exact (Upd.refl F w1).alloc _
  rw [← hW] at HX
  have HW := Lib.hid hW
  clear hW
  go_wp2_with fail
  rw [← HW.out]
  obtain ⟨hBx, hPx, hzx⟩ := HX.out
  refine (ex_valid hPx 1 2).mono ?_; rintro e w2 ⟨rfl, hB2⟩
  rw [show Extent.valid (Disk.new 4).st.length 1 2 = true from H1.out]
  have hB2' := (hB2.block _ (heap_lt hBx)).trans hBx
  have x1 := cell_of_row _ _ 0 _ _ _ hB2'
  have x2 := cell_of_row _ _ 1 _ _ _ hB2'
  simp only [List.getElem?_toArray, List.getElem?_cons_zero, List.getElem?_cons_succ] at x1 x2
  have HB2 := Lib.hid hB2'
  clear hBx hB2'
  go_wp2_with fail
  refine (ex_size 1 2 (by omega) _).mono ?_; rintro e w3 ⟨rfl, hB3⟩
  rw [H2.out]
  have hB3' := (hB3.block _ (heap_lt HB2.out)).trans HB2.out
  have x13 := cell_of_row _ _ 0 _ _ _ hB3'
  have x23 := cell_of_row _ _ 1 _ _ _ hB3'
  simp only [List.getElem?_toArray, List.getElem?_cons_zero, List.getElem?_cons_succ] at x13 x23
  have HB3 := Lib.hid hB3'
  clear hB3'
  go_wp2_with fail
  have hP3 : PD F w3 g s m fa fn fc (Disk.new 4) := (hPx.ext hB2).ext hB3
  have hU3 : Upd F w1 F w3 := (hU1.ext hB2).ext hB3
  have hS3 := SlB.built w3 #[.int .u8 48, .int .u8 49, .int .u8 50, .int .u8 51, .int .u8 52, .int .u8 53, .int .u8 54, .int .u8 55, .int .u8 56, .int .u8 57] ten 10 w3.heap.size 5 (10, 11) rfl rfl (by unfold maxLen; omega) rfl
  have hlt3 := heap_lt HB3.out
  refine (ex_write_at (hP3.alloc _) 1 2 60 (ib1 _ (by omega) (by omega)) (ib1 _ (by omega) (by omega)) (ib1 _ (by omega) (by omega)) hS3 (fun y hy _ e => by cases hy; have := hP3.lt _ e; simp at this) H3.out).mono ?_; rintro e w4 ⟨rfl, F4, hP4, hU4⟩
  have nF1 : ¬ F w1.heap.size := fun e => by have := hP1.lt _ e; omega
  have hB4' : w4.heap[w1.heap.size]? = some (.cells #[.int .i64 1, .int .i64 2] 41 (0, 0)) := (hU4.block _ (by simp; omega) nF1).trans ((heap_alloc_lt _ _ _ hlt3).trans HB3.out)
  have x14 := cell_of_row _ _ 0 _ _ _ hB4'
  have x24 := cell_of_row _ _ 1 _ _ _ hB4'
  simp only [List.getElem?_toArray, List.getElem?_cons_zero, List.getElem?_cons_succ] at x14 x24
  clear hB4'
  go_wp2_with fail
  refine (ex_read_at hP4 1 2 58 14 (ib1 _ (by omega) (by omega)) (ib1 _ (by omega) (by omega)) (ib1 _ (by omega) (by omega)) (ib1 _ (by omega) (by omega)) H4.out).mono ?_; rintro e w5 ⟨v5, rfl, hO5, hP5, hU5⟩
  obtain ⟨a5, c5, rfl, hs5, -⟩ := hO5.sl
  rw [L1.out] at hs5 ⊢
  obtain ⟨b5, o5, rfl, -, -, -⟩ := hs5.at (show 0 < 14 by omega)
  have hle5 := hs5.2.1
  have hcv := run_conv_bytes ((hs5.take (k := 12) (by omega)).drop (k := 2) (by omega))
  rw [L2.out] at hcv
  have hc2 : ¬ c5 = 2 := by omega
  have hc12 : 12 ≤ c5 := by omega
  go_wp2_with fail
  refine (sd_dirty hP5).mono ?_; rintro e w6 ⟨v6, rfl, hO6, hB6⟩
  obtain ⟨a6, c6, rfl, hs6⟩ := hO6.sl
  rw [L3.out]
  go_wp2_with fail
  go_ret
  refine ⟨by rfl, ?_⟩
  exact (((hU3.alloc _).trans hU4).trans hU5 |>.ext hB6).below hB1 hF1 hB1.size

end Go.Proofs.Ytedmnbmfbgenjaa
