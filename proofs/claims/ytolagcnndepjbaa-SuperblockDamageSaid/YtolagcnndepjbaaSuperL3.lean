/-
  The walk of the statement SuperblockMatchesSpec.
-/
import Derived.Test.YtolagcnndepjbaaSuperL1
namespace Go.Proofs.Ytolagcnndepjbaa
open Go.RowKit

theorem SBox.ext {w w' : World} {H : Nat} {s : Super.S} (h : SBox w H s) (e : Ext w w') : SBox w' H s := (Below.block e _ (heap_lt h)).trans h

set_option maxHeartbeats 4000000 in
set_option maxRecDepth 100000 in
theorem matches_law (s : Super.S) (a : Option Addr) (n c : Nat) (l : List UInt8) (w : World) (hs : SIn s) (h : SlB w a n c l) :
    Calls Try.prog 3 #[sv s, .slice a n c] w fun e w' => e = .returned (.bool true) ∧ Below w.heap.size w w' := by
  have hle := h.le
  have he1 := sb_encode s hs.1
  have he2 := sref_encode s hs.1
  have hv1 := sb_valid s
  have hv2 := sref_valid s
  have hd1 := fun w h => sb_decode a n c l w h
  have hd2 := fun w h => sref_decode a n c l w h
  have hbox : SBox (w.alloc (.cells #[.int .u64 s.gen, .int .i64 s.act, .int .u32 s.epoch, .int .i64 s.len, .int .u32 s.sum] 25)) w.heap.size s := heap_alloc_eq _ _ _ rfl
  have hbw := (Below.refl w.heap.size w).alloc (Nat.le_refl _) (.cells #[.int .u64 s.gen, .int .i64 s.act, .int .u32 s.epoch, .int .i64 s.len, .int .u32 s.sum] 25)
  unfold EncPost at he1
  unfold DecPost at hd1 hd2
  generalize (if Super.valid s = true then Super.enc s else []) = B at *
  generalize (if Super.valid s = true then (0 : Int) else 1) = er at *
  generalize Super.valid s = vs at *
  generalize Super.dec l = r at *
  obtain ⟨⟨g2, a2, e2, l2, m2⟩, er2⟩ := r
  obtain ⟨gen, act, epoch, len, sum⟩ := s
  unfold sv at he1 he2 hv1 hv2 hd1 hd2 ⊢
  simp only at hbox hbw hd1 hd2
  have HE1 := Lib.hid he1; have HE2 := Lib.hid he2; have HV1 := Lib.hid hv1; have HV2 := Lib.hid hv2; have HD1 := Lib.hid hd1; have HD2 := Lib.hid hd2; have HB := Lib.hid hbox; have HW := Lib.hid hbw
  clear he1 he2 hv1 hv2 hd1 hd2 hbox hbw hs
  by_cases hn : 200 < n
  · have ht : (200 : Int) < (n : Int) := by omega
    go_enter Try.func3, Try.ntmps3
    go_wp2_with (go_at_call 13; refine (sb_awake _).mono ?_; rintro e w4 ⟨rfl, hb4⟩)
    go_ret
    exact ⟨rfl, HW.out.trans (hb4.mono (HW.out).size)⟩
  have ht : ¬ (200 : Int) < (n : Int) := by omega
  go_enter Try.func3, Try.ntmps3
  go_wp2_with fail
  refine (HE1.out _).mono ?_; rintro e w1 ⟨a1, n1, c1, rfl, hs1, hb1, -⟩
  have hP1 : SBox w1 w.heap.size ⟨gen, act, epoch, len, sum⟩ := (hb1.block _ (heap_lt HB.out)).trans HB.out
  have hw1 := HW.out.trans (hb1.mono (HW.out).size)
  obtain ⟨q0, q1, q2, q3, q4⟩ := hP1.cells
  simp only at q0 q1 q2 q3 q4
  go_wp2_with fail
  clear q0 q1 q2 q3 q4
  refine (HE2.out _).mono ?_; rintro e w2 ⟨a3, n3, c3, rfl, hs2, hb2⟩
  have hP2 : SBox w2 w.heap.size ⟨gen, act, epoch, len, sum⟩ := (hb2.block _ (heap_lt hP1)).trans hP1
  have hw2 := hw1.trans (hb2.mono hw1.size)
  have hx2 := hs1.ext hb2
  clear hP1 hs1 hw1
  go_wp2_with fail
  refine (HD1.out _ (h.ext hw2)).mono ?_; rintro e w3 ⟨rfl, hb3⟩
  have hP3 : SBox w3 w.heap.size ⟨gen, act, epoch, len, sum⟩ := (hb3.block _ (heap_lt hP2)).trans hP2
  have hw3 := hw2.trans (hb3.mono hw2.size)
  have hx3 := hx2.ext hb3
  have hy3 := hs2.ext hb3
  clear hP2 hw2 hx2 hs2
  go_wp2_with fail
  have hw4 := hw3.alloc hw3.size (.cells #[.int .u64 g2, .int .i64 a2, .int .u32 e2, .int .i64 l2, .int .u32 m2] 25)
  refine (HD2.out _ (h.ext hw4)).mono ?_; rintro e w5 ⟨rfl, hb5⟩
  have hb35 : Below w3.heap.size w3 w5 := ((Below.refl _ _).alloc (Nat.le_refl _) _).trans (hb5.mono (by simp))
  have hT5 : SBox w5 w3.heap.size ⟨g2, a2, e2, l2, m2⟩ := (hb5.block _ (by simp)).trans (heap_alloc_eq _ _ _ rfl)
  have hP5 := hP3.ext hb35
  have hx5 := hx3.ext hb35
  have hy5 := hy3.ext hb35
  have hw5 := hw3.trans (hb35.mono hw3.size)
  clear hP3 hx3 hy3 hw3 hw4
  go_wp2_with fail
  obtain ⟨W, hW⟩ : ∃ W, W = w5.alloc (.cells #[.int .u64 g2, .int .i64 a2, .int .u32 e2, .int .i64 l2, .int .u32 m2] 25) := ⟨_, rfl⟩
  have hE : Ext w5 W := by rw [hW]; exact Ext.alloc (Ext.refl _) _
  have hU : SBox W w5.heap.size ⟨g2, a2, e2, l2, m2⟩ := by rw [hW]; exact heap_alloc_eq _ _ _ rfl
  have hT := hT5.ext hE
  have hP := hP5.ext hE
  have hx := hx5.ext' hE
  have hy := hy5.ext' hE
  have hw := hw5.trans (Below.mono hE hw5.size)
  rw [← hW]
  clear hW hE hT5 hP5 hx5 hy5 hw5 h hb1 hb2 hb3 hb5 hb35
  have KS : ∀ w', Ext W w' → Ext W w' ∧ (w'.cell? ⟨w.heap.size, 0, none⟩ = some (.int .u64 gen) ∧ w'.cell? ⟨w.heap.size, 1, none⟩ = some (.int .i64 act) ∧ w'.cell? ⟨w.heap.size, 2, none⟩ = some (.int .u32 epoch) ∧ w'.cell? ⟨w.heap.size, 3, none⟩ = some (.int .i64 len) ∧ w'.cell? ⟨w.heap.size, 4, none⟩ = some (.int .u32 sum)) ∧
      (w'.cell? ⟨w3.heap.size, 0, none⟩ = some (.int .u64 g2) ∧ w'.cell? ⟨w3.heap.size, 1, none⟩ = some (.int .i64 a2) ∧ w'.cell? ⟨w3.heap.size, 2, none⟩ = some (.int .u32 e2) ∧ w'.cell? ⟨w3.heap.size, 3, none⟩ = some (.int .i64 l2) ∧ w'.cell? ⟨w3.heap.size, 4, none⟩ = some (.int .u32 m2)) ∧
      (w'.cell? ⟨w5.heap.size, 0, none⟩ = some (.int .u64 g2) ∧ w'.cell? ⟨w5.heap.size, 1, none⟩ = some (.int .i64 a2) ∧ w'.cell? ⟨w5.heap.size, 2, none⟩ = some (.int .u32 e2) ∧ w'.cell? ⟨w5.heap.size, 3, none⟩ = some (.int .i64 l2) ∧ w'.cell? ⟨w5.heap.size, 4, none⟩ = some (.int .u32 m2)) :=
    fun w' he => ⟨he, (hP.ext he).cells, (hT.ext he).cells, (hU.ext he).cells⟩
  have HKS := Lib.hid KS
  clear KS hP hT hU
  go_region_held3 (fun w' => Ext W w' ∧ (w'.cell? ⟨w.heap.size, 0, none⟩ = some (.int .u64 gen) ∧ w'.cell? ⟨w.heap.size, 1, none⟩ = some (.int .i64 act) ∧ w'.cell? ⟨w.heap.size, 2, none⟩ = some (.int .u32 epoch) ∧ w'.cell? ⟨w.heap.size, 3, none⟩ = some (.int .i64 len) ∧ w'.cell? ⟨w.heap.size, 4, none⟩ = some (.int .u32 sum)) ∧ (w'.cell? ⟨w3.heap.size, 0, none⟩ = some (.int .u64 g2) ∧ w'.cell? ⟨w3.heap.size, 1, none⟩ = some (.int .i64 a2) ∧ w'.cell? ⟨w3.heap.size, 2, none⟩ = some (.int .u32 e2) ∧ w'.cell? ⟨w3.heap.size, 3, none⟩ = some (.int .i64 l2) ∧ w'.cell? ⟨w3.heap.size, 4, none⟩ = some (.int .u32 m2)) ∧ (w'.cell? ⟨w5.heap.size, 0, none⟩ = some (.int .u64 g2) ∧ w'.cell? ⟨w5.heap.size, 1, none⟩ = some (.int .i64 a2) ∧ w'.cell? ⟨w5.heap.size, 2, none⟩ = some (.int .u32 e2) ∧ w'.cell? ⟨w5.heap.size, 3, none⟩ = some (.int .i64 l2) ∧ w'.cell? ⟨w5.heap.size, 4, none⟩ = some (.int .u32 m2))) (first | assumption | exact HKS.out _ (Ext.drew (Ext.refl _)) | exact HKS.out _ (Ext.step (by assumption) (And.left (by assumption)))) (first | (go_at_call 18; go_must (refine (HV1.out _).mono ?_); rintro e w9 ⟨rfl, hb9⟩) | (go_at_call 19; go_must (refine (HV2.out _).mono ?_); rintro e w9 ⟨rfl, hb9⟩) | (go_at_call 20; go_must (refine (keep_bytes _ _ _ _ _ _ B B _ (hx.ext' (And.left (by assumption))) (hy.ext' (And.left (by assumption)))).mono ?_); rintro e w9 ⟨rfl, rfl⟩) | (go_at_call 13; go_must (refine (sb_awake _).mono ?_); rintro e w9 ⟨rfl, hb9⟩))
  all_goals
    have hfin : Ext W _ := And.left (by assumption)
    go_wp2
    go_ret
    exact ⟨rfl, hw.trans (Below.mono hfin hw.size)⟩

end Go.Proofs.Ytolagcnndepjbaa
