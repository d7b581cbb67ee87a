/-
  The walk of the statement PinCodecMatchesSpec.
-/
import Derived.Test.YtcmeajaakdaeeaaDoorPinL1
import Derived.Test.YtcmeajaakdaeeaaDoorPinR
import Derived.Test.YtcmeajaakdaeeaaDoorPinRD
import Derived.Test.YtcmeajaakdaeeaaDoorKeep
namespace Go.Proofs.YtcmeajaakdaeeaaDoor
open Go.RowKit

/-- A block that holds a pin. -/
def PBox (w : World) (B : Nat) (h : ByteArray) (s : Bool) (x : Int) : Prop := w.heap[B]? = some (.cells #[.string h, .bool s, .int .i64 x] 23 (0, 0))
theorem PBox.cells {w : World} {B : Nat} {h : ByteArray} {s : Bool} {x : Int} (hb : PBox w B h s x) : w.cell? ⟨B, 0, none⟩ = some (.string h) ∧ w.cell? ⟨B, 1, none⟩ = some (.bool s) ∧ w.cell? ⟨B, 2, none⟩ = some (.int .i64 x) :=
  ⟨(cell_of_row _ _ _ _ _ _ hb).trans rfl, (cell_of_row _ _ _ _ _ _ hb).trans rfl, (cell_of_row _ _ _ _ _ _ hb).trans rfl⟩
theorem PBox.ext {w w' : World} {B : Nat} {h : ByteArray} {s : Bool} {x : Int} (hb : PBox w B h s x) (e : Ext w w') : PBox w' B h s x := (Below.block e _ (heap_lt hb)).trans hb
theorem PBox.new (w : World) (h : ByteArray) (s : Bool) (x : Int) : PBox (w.alloc (.cells #[.string h, .bool s, .int .i64 x] 23)) w.heap.size h s x := heap_alloc_eq _ _ _ rfl

set_option maxHeartbeats 4000000 in
set_option maxRecDepth 100000 in
theorem pin_codec (p : Pin) (a : Option Addr) (n c : Nat) (b : List UInt8) (w : World) (_h0 : (Lit.int .i64 p.x).wf = true) (h : SlB w a n c b) :
    Calls Tryd.prog 3 #[pv p, .slice a n c] w fun e w' => e = .returned (.bool true) ∧ Below w.heap.size w w' := by
  have hle := h.le
  have HAW := Lib.hid pin_awake
  have hsz := strSize p.h
  have HSH := Lib.hid h
  by_cases h4 : 400 < p.h.length
  · have t4 : (400 : Int) < (p.h.length : Int) := by omega
    have hb0 := (Below.refl w.heap.size w).alloc (Nat.le_refl _) (.cells (pc p) 23)
    unfold pc at hb0
    unfold pv
    obtain ⟨ph, ps, px⟩ := p
    simp only at t4 hb0 hsz ⊢
    generalize str ph = sh at *
    have HB0 := Lib.hid hb0
    clear hb0 h h4
    go_enter Tryd.func3, Tryd.ntmps3
    go_wp2_with fail
    refine (HAW.out _).mono ?_; rintro e w4 ⟨rfl, hb4⟩
    go_wp2_with fail
    go_ret
    exact ⟨rfl, HB0.out.trans (hb4.mono (HB0.out).size)⟩
  have t4 : ¬ (400 : Int) < (p.h.length : Int) := by omega
  by_cases h5 : 5000 < n
  · have t5 : (5000 : Int) < (n : Int) := by omega
    have hb0 := (Below.refl w.heap.size w).alloc (Nat.le_refl _) (.cells (pc p) 23)
    unfold pc at hb0
    unfold pv
    obtain ⟨ph, ps, px⟩ := p
    simp only at t4 hb0 hsz ⊢
    generalize str ph = sh at *
    have HB0 := Lib.hid hb0
    clear hb0 h h4 h5
    go_enter Tryd.func3, Tryd.ntmps3
    go_wp2_with fail
    refine (HAW.out _).mono ?_; rintro e w4 ⟨rfl, hb4⟩
    go_wp2_with fail
    go_ret
    exact ⟨rfl, HB0.out.trans (hb4.mono (HB0.out).size)⟩
  have t5 : ¬ (5000 : Int) < (n : Int) := by omega
  have he1 := fun w => pi_encode p (by omega) w
  have he2 := fun w => rp_encode p (by omega) w
  have hv1 := fun w => pi_valid p (by omega) w
  have hv2 := fun w => rp_valid p (by omega) w
  have hd1 := fun w h => pi_decode a n c b w h (by omega)
  have hd2 := fun w h => rp_decode a n c b w h (by omega)
  have hbw := (Below.refl w.heap.size w).alloc (Nat.le_refl _) (.cells (pc p) 23)
  unfold PEncP at he1 he2
  unfold PDecP at hd1 hd2
  generalize (if Pin.valid p = true then Pin.enc p else []) = B at *
  generalize (if Pin.valid p = true then (0 : Int) else 1) = er at *
  generalize Pin.valid p = vs at *
  generalize Pin.dec b = r at *
  obtain ⟨⟨h2, s2, x2⟩, n2, er2⟩ := r
  obtain ⟨ph, ps, px⟩ := p
  unfold pv at he1 he2 hv1 hv2 hd1 hd2 ⊢
  unfold pc at hbw
  simp only at he1 he2 hbw hd1 hd2 hv1 hv2 t4 hsz ⊢
  generalize str ph = sh at *
  generalize str h2 = sh2 at *
  have HE1 := Lib.hid he1; have HE2 := Lib.hid he2; have HV1 := Lib.hid hv1; have HV2 := Lib.hid hv2; have HD1 := Lib.hid hd1; have HD2 := Lib.hid hd2; have HB := Lib.hid (PBox.new w sh ps px); have HW := Lib.hid hbw
  clear he1 he2 hv1 hv2 hd1 hd2 hbw h4 h5
  go_enter Tryd.func3, Tryd.ntmps3
  go_wp2_with fail
  refine (HE1.out _).mono ?_; rintro e w1 ⟨v1, rfl, ho1, hb1⟩
  obtain ⟨a1, c1, rfl, hs1, -⟩ := ho1.sl
  have hP1 := HB.out.ext hb1
  have hw1 := HW.out.trans (hb1.mono (HW.out).size)
  obtain ⟨q0, q1, q2⟩ := hP1.cells
  have hlt1 := heap_lt hP1
  generalize B.length = lB at *
  go_wp2_with fail
  clear q0 q1 q2
  refine (HE2.out _).mono ?_; rintro e w2 ⟨v2, rfl, ho2, hb2⟩
  obtain ⟨a3, c3, rfl, hs2, -⟩ := ho2.sl
  have hP2 := hP1.ext hb2
  have hw2 := hw1.trans (hb2.mono hw1.size)
  have hx2 := hs1.ext hb2
  clear hP1 hs1 hw1
  go_wp2_with fail
  refine (HD1.out _ (h.ext hw2)).mono ?_; rintro e w3 ⟨rfl, hb3⟩
  have hP3 := hP2.ext hb3
  have hw3 := hw2.trans (hb3.mono hw2.size)
  have hx3 := hx2.ext hb3
  have hy3 := hs2.ext hb3
  clear hP2 hw2 hx2 hs2
  go_wp2_with fail
  have hw4 := hw3.alloc hw3.size (.cells #[.string sh2, .bool s2, .int .i64 x2] 23)
  refine (HD2.out _ (h.ext hw4)).mono ?_; rintro e w5 ⟨rfl, hb5⟩
  have hb35 : Below w3.heap.size w3 w5 := ((Below.refl _ _).alloc (Nat.le_refl _) _).trans (hb5.mono (by simp))
  have hT5 : PBox w5 w3.heap.size sh2 s2 x2 := (hb5.block _ (by simp)).trans (heap_alloc_eq _ _ _ rfl)
  have hP5 := hP3.ext hb35
  have hx5 := hx3.ext hb35
  have hy5 := hy3.ext hb35
  have hw5 := hw3.trans (hb35.mono hw3.size)
  clear hP3 hx3 hy3 hw3 hw4
  go_wp2_with fail
  obtain ⟨W, hW⟩ : ∃ W, W = w5.alloc (.cells #[.string sh2, .bool s2, .int .i64 x2] 23) := ⟨_, rfl⟩
  have hE : Ext w5 W := by rw [hW]; exact Ext.alloc (Ext.refl _) _
  have hU : PBox W w5.heap.size sh2 s2 x2 := by rw [hW]; exact heap_alloc_eq _ _ _ rfl
  have hT := hT5.ext hE
  have hP := hP5.ext hE
  have hx := hx5.ext' hE
  have hy := hy5.ext' hE
  have hw := hw5.trans (Below.mono hE hw5.size)
  rw [← hW]
  clear hW hE hT5 hP5 hx5 hy5 hw5 h hb1 hb2 hb3 hb5 hb35
  have HKS := Lib.hid (show ∀ w', Ext W w' → Ext W w' ∧ (w'.cell? ⟨w.heap.size, 0, none⟩ = some (.string sh) ∧ w'.cell? ⟨w.heap.size, 1, none⟩ = some (.bool ps) ∧ w'.cell? ⟨w.heap.size, 2, none⟩ = some (.int .i64 px)) ∧ (w'.cell? ⟨w3.heap.size, 0, none⟩ = some (.string sh2) ∧ w'.cell? ⟨w3.heap.size, 1, none⟩ = some (.bool s2) ∧ w'.cell? ⟨w3.heap.size, 2, none⟩ = some (.int .i64 x2)) ∧ (w'.cell? ⟨w5.heap.size, 0, none⟩ = some (.string sh2) ∧ w'.cell? ⟨w5.heap.size, 1, none⟩ = some (.bool s2) ∧ w'.cell? ⟨w5.heap.size, 2, none⟩ = some (.int .i64 x2)) from fun w' he => ⟨he, (hP.ext he).cells, (hT.ext he).cells, (hU.ext he).cells⟩)
  clear hP hT hU
  go_region_held3 (fun w' => Ext W w' ∧ (w'.cell? ⟨w.heap.size, 0, none⟩ = some (.string sh) ∧ w'.cell? ⟨w.heap.size, 1, none⟩ = some (.bool ps) ∧ w'.cell? ⟨w.heap.size, 2, none⟩ = some (.int .i64 px)) ∧ (w'.cell? ⟨w3.heap.size, 0, none⟩ = some (.string sh2) ∧ w'.cell? ⟨w3.heap.size, 1, none⟩ = some (.bool s2) ∧ w'.cell? ⟨w3.heap.size, 2, none⟩ = some (.int .i64 x2)) ∧ (w'.cell? ⟨w5.heap.size, 0, none⟩ = some (.string sh2) ∧ w'.cell? ⟨w5.heap.size, 1, none⟩ = some (.bool s2) ∧ w'.cell? ⟨w5.heap.size, 2, none⟩ = some (.int .i64 x2))) (first | assumption | exact HKS.out _ (Ext.drew (Ext.refl _)) | exact HKS.out _ (Ext.step (by assumption) (And.left (by assumption)))) (first | (go_at_call 15; go_must (refine (HV1.out _).mono ?_); rintro e w9 ⟨rfl, hb9⟩) | (go_at_call 16; go_must (refine (HV2.out _).mono ?_); rintro e w9 ⟨rfl, hb9⟩) | (go_at_call 17; go_must (refine (keep_bytes _ _ _ _ _ _ B B _ (hx.ext' (And.left (by assumption))) (hy.ext' (And.left (by assumption)))).mono ?_); rintro e w9 ⟨rfl, rfl⟩) | (go_at_call 10; go_must (refine (HAW.out _).mono ?_); rintro e w9 ⟨rfl, hb9⟩))
  all_goals
    have hfin : Ext W _ := And.left (by assumption)
    go_wp2
    go_ret
    exact ⟨rfl, hw.trans (Below.mono hfin hw.size)⟩

end Go.Proofs.YtcmeajaakdaeeaaDoor
