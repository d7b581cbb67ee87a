/-
  Texts in one: PinL3, Find.
-/
import Derived.Test.YtcmeajaakdaeeaaDoorRun39
import Derived.Test.YtcmeajaakdaeeaaDoorRun37
import Derived.Test.YtcmeajaakdaeeaaDoorRun40
import Derived.Test.YtcmeajaakdaeeaaDoorRun35
import Derived.Test.YtcmeajaakdaeeaaDoorRun31
/-
  The walk of the statement PinCodecMatchesSpec.
-/
namespace Go.Proofs.YtcmeajaakdaeeaaDoor
open Go.RowKit

/-- A block that holds a pin. -/
def PBox (w : World) (B : Nat) (h : ByteArray) (s : Bool) (x : Int) : Prop := w.heap[B]? = some (.cells #[.string h, .bool s, .int .i64 x] 23 (0, 0))
theorem PBox.cells {w : World} {B : Nat} {h : ByteArray} {s : Bool} {x : Int} (hb : PBox w B h s x) : w.cell? ⟨B, 0, none⟩ = some (.string h) ∧ w.cell? ⟨B, 1, none⟩ = some (.bool s) ∧ w.cell? ⟨B, 2, none⟩ = some (.int .i64 x) :=
  ⟨(cell_of_row _ _ _ _ _ _ hb).trans rfl, (cell_of_row _ _ _ _ _ _ hb).trans rfl, (cell_of_row _ _ _ _ _ _ hb).trans rfl⟩
theorem PBox.ext {w w' : World} {B : Nat} {h : ByteArray} {s : Bool} {x : Int} (hb : PBox w B h s x) (e : Ext w w') : PBox w' B h s x := (Below.block e _ (heap_lt hb)).trans hb
theorem PBox.new (w : World) (h : ByteArray) (s : Bool) (x : Int) : PBox (w.alloc (.cells #[.string h, .bool s, .int .i64 x] 23)) w.heap.size h s x := heap_alloc_eq _ _ _ rfl

set_option maxHeartbeats 4000000 in
set_option maxRecDepth 100000 in
theorem pin_codec (p : Pin) (a : Option Addr) (n c : Nat) (b : List UInt8) (w : World) (_h0 : (Lit.int .i64 p.x).wf = true) (h : SlB w a n c b) :
    Calls Tryd.prog 3 #[pv p, .slice a n c] w fun e w' => e = .returned (.bool true) ∧ Below w.heap.size w w' := by
  have hle := h.le
  have HAW := Lib.hid pin_awake
  have hsz := strSize p.h
  have HSH := Lib.hid h
  by_cases h4 : 400 < p.h.length
  · have t4 : (400 : Int) < (p.h.length : Int) := by omega
    have hb0 := (Below.refl w.heap.size w).alloc (Nat.le_refl _) (.cells (pc p) 23)
    unfold pc at hb0
    unfold pv
    obtain ⟨ph, ps, px⟩ := p
    simp only at t4 hb0 hsz ⊢
    generalize str ph = sh at *
    have HB0 := Lib.hid hb0
    clear hb0 h h4
    go_enter Tryd.func3, Tryd.ntmps3
    go_wp2_with fail
    refine (HAW.out _).mono ?_; rintro e w4 ⟨rfl, hb4⟩
    go_wp2_with fail
    go_ret
    exact ⟨rfl, HB0.out.trans (hb4.mono (HB0.out).size)⟩
  have t4 : ¬ (400 : Int) < (p.h.length : Int) := by omega
  by_cases h5 : 5000 < n
  · have t5 : (5000 : Int) < (n : Int) := by omega
    have hb0 := (Below.refl w.heap.size w).alloc (Nat.le_refl _) (.cells (pc p) 23)
    unfold pc at hb0
    unfold pv
    obtain ⟨ph, ps, px⟩ := p
    simp only at t4 hb0 hsz ⊢
    generalize str ph = sh at *
    have HB0 := Lib.hid hb0
    clear hb0 h h4 h5
    go_enter Tryd.func3, Tryd.ntmps3
    go_wp2_with fail
    refine (HAW.out _).mono ?_; rintro e w4 ⟨rfl, hb4⟩
    go_wp2_with fail
    go_ret
    exact ⟨rfl, HB0.out.trans (hb4.mono (HB0.out).size)⟩
  have t5 : ¬ (5000 : Int) < (n : Int) := by omega
  have he1 := fun w => pi_encode p (by omega) w
  have he2 := fun w => rp_encode p (by omega) w
  have hv1 := fun w => pi_valid p (by omega) w
  have hv2 := fun w => rp_valid p (by omega) w
  have hd1 := fun w h => pi_decode a n c b w h (by omega)
  have hd2 := fun w h => rp_decode a n c b w h (by omega)
  have hbw := (Below.refl w.heap.size w).alloc (Nat.le_refl _) (.cells (pc p) 23)
  unfold PEncP at he1 he2
  unfold PDecP at hd1 hd2
  generalize (if Pin.valid p = true then Pin.enc p else []) = B at *
  generalize (if Pin.valid p = true then (0 : Int) else 1) = er at *
  generalize Pin.valid p = vs at *
  generalize Pin.dec b = r at *
  obtain ⟨⟨h2, s2, x2⟩, n2, er2⟩ := r
  obtain ⟨ph, ps, px⟩ := p
  unfold pv at he1 he2 hv1 hv2 hd1 hd2 ⊢
  unfold pc at hbw
  simp only at he1 he2 hbw hd1 hd2 hv1 hv2 t4 hsz ⊢
  generalize str ph = sh at *
  generalize str h2 = sh2 at *
  have HE1 := Lib.hid he1; have HE2 := Lib.hid he2; have HV1 := Lib.hid hv1; have HV2 := Lib.hid hv2; have HD1 := Lib.hid hd1; have HD2 := Lib.hid hd2; have HB := Lib.hid (PBox.new w sh ps px); have HW := Lib.hid hbw
  clear he1 he2 hv1 hv2 hd1 hd2 hbw h4 h5
  go_enter Tryd.func3, Tryd.ntmps3
  go_wp2_with fail
  refine (HE1.out _).mono ?_; rintro e w1 ⟨v1, rfl, ho1, hb1⟩
  obtain ⟨a1, c1, rfl, hs1, -⟩ := ho1.sl
  have hP1 := HB.out.ext hb1
  have hw1 := HW.out.trans (hb1.mono (HW.out).size)
  obtain ⟨q0, q1, q2⟩ := hP1.cells
  have hlt1 := heap_lt hP1
  generalize B.length = lB at *
  go_wp2_with fail
  clear q0 q1 q2
  refine (HE2.out _).mono ?_; rintro e w2 ⟨v2, rfl, ho2, hb2⟩
  obtain ⟨a3, c3, rfl, hs2, -⟩ := ho2.sl
  have hP2 := hP1.ext hb2
  have hw2 := hw1.trans (hb2.mono hw1.size)
  have hx2 := hs1.ext hb2
  clear hP1 hs1 hw1
  go_wp2_with fail
  refine (HD1.out _ (h.ext hw2)).mono ?_; rintro e w3 ⟨rfl, hb3⟩
  have hP3 := hP2.ext hb3
  have hw3 := hw2.trans (hb3.mono hw2.size)
  have hx3 := hx2.ext hb3
  have hy3 := hs2.ext hb3
  clear hP2 hw2 hx2 hs2
  go_wp2_with fail
  have hw4 := hw3.alloc hw3.size (.cells #[.string sh2, .bool s2, .int .i64 x2] 23)
  refine (HD2.out _ (h.ext hw4)).mono ?_; rintro e w5 ⟨rfl, hb5⟩
  have hb35 : Below w3.heap.size w3 w5 := ((Below.refl _ _).alloc (Nat.le_refl _) _).trans (hb5.mono (by simp))
  have hT5 : PBox w5 w3.heap.size sh2 s2 x2 := (hb5.block _ (by simp)).trans (heap_alloc_eq _ _ _ rfl)
  have hP5 := hP3.ext hb35
  have hx5 := hx3.ext hb35
  have hy5 := hy3.ext hb35
  have hw5 := hw3.trans (hb35.mono hw3.size)
  clear hP3 hx3 hy3 hw3 hw4
  go_wp2_with fail
  obtain ⟨W, hW⟩ : ∃ W, W = w5.alloc (.cells #[.string sh2, .bool s2, .int .i64 x2] 23) := ⟨_, rfl⟩
  have hE : Ext w5 W := by rw [hW]; exact Ext.alloc (Ext.refl _) _
  have hU : PBox W w5.heap.size sh2 s2 x2 := by rw [hW]; exact heap_alloc_eq _ _ _ rfl
  have hT := hT5.ext hE
  have hP := hP5.ext hE
  have hx := hx5.ext' hE
  have hy := hy5.ext' hE
  have hw := hw5.trans (Below.mono hE hw5.size)
  rw [← hW]
  clear hW hE hT5 hP5 hx5 hy5 hw5 h hb1 hb2 hb3 hb5 hb35
  have HKS := Lib.hid (show ∀ w', Ext W w' → Ext W w' ∧ (w'.cell? ⟨w.heap.size, 0, none⟩ = some (.string sh) ∧ w'.cell? ⟨w.heap.size, 1, none⟩ = some (.bool ps) ∧ w'.cell? ⟨w.heap.size, 2, none⟩ = some (.int .i64 px)) ∧ (w'.cell? ⟨w3.heap.size, 0, none⟩ = some (.string sh2) ∧ w'.cell? ⟨w3.heap.size, 1, none⟩ = some (.bool s2) ∧ w'.cell? ⟨w3.heap.size, 2, none⟩ = some (.int .i64 x2)) ∧ (w'.cell? ⟨w5.heap.size, 0, none⟩ = some (.string sh2) ∧ w'.cell? ⟨w5.heap.size, 1, none⟩ = some (.bool s2) ∧ w'.cell? ⟨w5.heap.size, 2, none⟩ = some (.int .i64 x2)) from fun w' he => ⟨he, (hP.ext he).cells, (hT.ext he).cells, (hU.ext he).cells⟩)
  clear hP hT hU
  go_region_held3 (fun w' => Ext W w' ∧ (w'.cell? ⟨w.heap.size, 0, none⟩ = some (.string sh) ∧ w'.cell? ⟨w.heap.size, 1, none⟩ = some (.bool ps) ∧ w'.cell? ⟨w.heap.size, 2, none⟩ = some (.int .i64 px)) ∧ (w'.cell? ⟨w3.heap.size, 0, none⟩ = some (.string sh2) ∧ w'.cell? ⟨w3.heap.size, 1, none⟩ = some (.bool s2) ∧ w'.cell? ⟨w3.heap.size, 2, none⟩ = some (.int .i64 x2)) ∧ (w'.cell? ⟨w5.heap.size, 0, none⟩ = some (.string sh2) ∧ w'.cell? ⟨w5.heap.size, 1, none⟩ = some (.bool s2) ∧ w'.cell? ⟨w5.heap.size, 2, none⟩ = some (.int .i64 x2))) (first | assumption | exact HKS.out _ (Ext.drew (Ext.refl _)) | exact HKS.out _ (Ext.step (by assumption) (And.left (by assumption)))) (first | (go_at_call 15; go_must (refine (HV1.out _).mono ?_); rintro e w9 ⟨rfl, hb9⟩) | (go_at_call 16; go_must (refine (HV2.out _).mono ?_); rintro e w9 ⟨rfl, hb9⟩) | (go_at_call 17; go_must (refine (keep_bytes _ _ _ _ _ _ B B _ (hx.ext' (And.left (by assumption))) (hy.ext' (And.left (by assumption)))).mono ?_); rintro e w9 ⟨rfl, rfl⟩) | (go_at_call 10; go_must (refine (HAW.out _).mono ?_); rintro e w9 ⟨rfl, hb9⟩))
  all_goals
    have hfin : Ext W _ := And.left (by assumption)
    go_wp2
    go_ret
    exact ⟨rfl, hw.trans (Below.mono hfin hw.size)⟩

end Go.Proofs.YtcmeajaakdaeeaaDoor

/-
  The search in a table: find$1, slices.BinarySearchFunc, find.
-/
namespace Go.Proofs.YtcmeajaakdaeeaaDoor
open Go.RowKit

set_option maxRecDepth 100000 in
theorem tb_find1 (p : Pin) (t : List UInt8) (hp : p.h.length ≤ 1000000) (ht : t.length ≤ 1000000) (w : World) :
    Calls Tryd.prog 72 #[pv p, .string (str t)] w fun e w' => e = .returned (.int .i64 (Host.cmp p.h t)) ∧ Below w.heap.size w w' := by
  have HC := Lib.hid (fun W => pn_compare p.h t hp ht W)
  have hb0 := (Below.refl w.heap.size w).alloc (Nat.le_refl _) (.cells (pc p) 23)
  obtain ⟨ph, ps, px⟩ := p
  unfold pv
  unfold pc at hb0
  simp only at hb0 HC ⊢
  generalize str ph = sh at *
  generalize str t = st at *
  have HB0 := Lib.hid hb0
  clear hb0
  go_enter Tryd.func72, Tryd.ntmps72
  go_wp2_with fail
  refine (HC.out _).mono ?_; rintro e w1 ⟨rfl, hb1⟩
  go_wp2_with fail
  go_ret
  exact ⟨rfl, HB0.out.trans (hb1.mono HB0.out.size)⟩

set_option maxHeartbeats 4000000 in
set_option maxRecDepth 100000 in
theorem sl_bsearch (a : Option Addr) (n c : Nat) (L : List Pin) (t : List UInt8) (w : World) (h : SlN w a n c L) (hn : n ≤ 1000000) (hA : Tab.Asc L) (hL : ∀ p ∈ L, p.h.length ≤ 1000000) (ht : t.length ≤ 1000000) :
    Calls Tryd.prog 71 #[.slice a n c, .string (str t), .func (.func 72) #[] #[]] w
      fun e w' => e = .returned (.tuple #[.int .i64 (Tab.lo L t : Nat), .bool (Tab.hit L t)]) ∧ Below w.heap.size w w' := by
  have HL := Lib.hid hL
  have HLN := Lib.hid h.len
  have HF := Lib.hid (fun p hp W => tb_find1 p t hp ht W)
  have HLO := Lib.hid (fun (k : Nat) (p : Pin) (hk : L[k]? = some p) => Tab.lo_iff hA t hk)
  have HLE := Lib.hid (Tab.lo_le L t)
  obtain ⟨lo, hlo⟩ : ∃ lo, Tab.lo L t = lo := ⟨_, rfl⟩
  have HHI := Lib.hid (show Tab.hit L t = match L[lo]? with | some p => decide (p.h = t) | none => false by rw [← hlo]; rfl)
  rw [hlo] at HLO HLE ⊢
  generalize Tab.hit L t = hit at *
  obtain ⟨st, hst⟩ : ∃ st, str t = st := ⟨_, rfl⟩
  rw [hst] at HF ⊢
  clear hlo hst hA hL
  go_enter Tryd.func71, Tryd.ntmps71
  go_wp2_with fail
  go_loopw [9, 10] (fun i j wr => ∃ (i' j' : Nat), i = .int .i64 (i' : Nat) ∧ j = .int .i64 (j' : Nat) ∧ i' ≤ lo ∧ lo ≤ j' ∧ j' ≤ n ∧ Below w.heap.size w wr) (fun i j _ => (intOf j).toNat - (intOf i).toNat)
  case atStart => exact ⟨0, n, rfl, rfl, Nat.zero_le _, by have := HLE.out; rw [HLN.out] at this; exact this, Nat.le_refl _, Below.refl _ _⟩
  case round =>
    obtain ⟨i, j, rfl, rfl, h1, h2, h3, hB⟩ := hrel
    have i0 : (0 : Int) ≤ (i : Int) := by omega
    by_cases hij : i < j
    · have i1 : (i : Int) < (j : Int) := by omega
      obtain ⟨m, hm⟩ : ∃ m : Nat, (i + j) / 2 = m := ⟨_, rfl⟩
      have m1 : i ≤ m := by omega
      have m2 : m < j := by omega
      have m3 : m < n := by omega
      have m4 : (m : Int) < (n : Int) := by omega
      have m5 : (0 : Int) ≤ (m : Int) := by omega
      have e1 : ((i : Int) + (j : Int)) / 2 = (m : Int) := by omega
      have e2 : IntKind.u64.wrap ((i : Int) + (j : Int)) = (i : Int) + (j : Int) := by unfold IntKind.wrap; simp only [IntKind.bits, IntKind.signed]; simp; omega
      obtain ⟨bb, o, rfl, hbb, hkl, c1, c2, c3⟩ := (h.ext hB).at m3
      rw [List.getElem?_eq_getElem hkl, Option.getD_some] at c1 c2 c3
      have HMEM := Lib.hid (List.getElem_mem hkl)
      have HIF := Lib.hid (HLO.out m _ (List.getElem?_eq_getElem hkl))
      generalize L[m] = p at *
      have HFP := Lib.hid (fun W => HF.out p (HL.out p HMEM.out) W)
      obtain ⟨ph, ps, px⟩ := p
      unfold pv at HFP
      simp only at c1 c2 c3 HFP HIF
      generalize str ph = sh at *
      generalize Host.cmp ph t = cc at *
      clear hkl hm
      by_cases hcc : cc < 0
      · have hlm := HIF.out.1 hcc
        go_wp2_with fail
        refine (HFP.out _).mono ?_; rintro e w1 ⟨rfl, hb1⟩
        go_wp2_with fail
        go_roundw
        case rel => exact ⟨m + 1, j, by go_num, rfl, by omega, h2, h3, hB.trans (hb1.mono hB.size)⟩
        case measure => simp [intOf]; omega
      · have hlm : ¬ m < lo := fun e => hcc (HIF.out.2 e)
        go_wp2_with fail
        refine (HFP.out _).mono ?_; rintro e w1 ⟨rfl, hb1⟩
        go_wp2_with fail
        go_roundw
        case rel => exact ⟨i, m, rfl, rfl, h1, by omega, by omega, hB.trans (hb1.mono hB.size)⟩
        case measure => simp [intOf]; omega
    · obtain rfl : i = lo := by omega
      obtain rfl : j = i := by omega
      by_cases hjn : j < n
      · have m4 : (j : Int) < (n : Int) := by omega
        obtain ⟨bb, o, rfl, hbb, hkl, c1, c2, c3⟩ := (h.ext hB).at hjn
        rw [List.getElem?_eq_getElem hkl] at HHI
        rw [List.getElem?_eq_getElem hkl, Option.getD_some] at c1 c2 c3
        have HMEM := Lib.hid (List.getElem_mem hkl)
        generalize L[j] = p at *
        have HFP := Lib.hid (fun W => HF.out p (HL.out p HMEM.out) W)
        have hh2 : hit = (Host.cmp p.h t == 0) := by
          rw [HHI.out, Bool.eq_iff_iff]; simp only [decide_eq_true_eq, beq_iff_eq]
          exact ⟨fun e => by rw [e]; exact Host.cmp_self _, fun e => Host.cmp_eq e⟩
        obtain ⟨ph, ps, px⟩ := p
        unfold pv at HFP
        simp only at c1 c2 c3 HFP ⊢
        simp only at hh2
        generalize str ph = sh at *
        generalize Host.cmp ph t = cc at *
        have HH2 := Lib.hid hh2
        clear hkl hh2
        go_wp2_with fail
        refine (HFP.out _).mono ?_; rintro e w1 ⟨rfl, hb1⟩
        go_wp2_with fail
        go_ret2
        exact ⟨by rw [HH2.out]; rfl, hB.trans (hb1.mono hB.size)⟩
      · obtain rfl : j = n := by omega
        have hf : hit = false := by rw [HHI.out, List.getElem?_eq_none (by rw [HLN.out]; exact Nat.le_refl _)]
        subst hf
        go_wp2_with fail
        go_ret2
        exact ⟨rfl, hB⟩

set_option maxRecDepth 100000 in
theorem tb_find {B : Nat} {w : World} {g : Nat} {v : Value} {L : List Pin} {cap : Int} (h : TabW B w g v L cap) (t : List UInt8) (hn : L.length ≤ 1000000) (hA : Tab.Asc L) (hL : ∀ p ∈ L, p.h.length ≤ 1000000) (ht : t.length ≤ 1000000) :
    Calls Tryd.prog 52 #[.pointer (some ⟨g, 0, none⟩), .string (str t)] w fun e w' => e = .returned (.tuple #[.int .i64 (Tab.lo L t : Nat), .bool (Tab.hit L t)]) ∧ Below w.heap.size w w' := by
  obtain ⟨c0, -⟩ := h.cells
  have hlt := h.lt
  obtain ⟨a, c, rfl, hs, -⟩ := h.2.1.sl
  have HC := Lib.hid (sl_bsearch a L.length c L t w hs hn hA hL ht)
  generalize str t = st at *
  go_enter Tryd.func52, Tryd.ntmps52
  go_wp2_with fail
  refine HC.out.mono ?_; rintro e w1 ⟨rfl, hb⟩
  go_wp2_with fail
  go_ret2
  exact ⟨rfl, hb⟩

end Go.Proofs.YtcmeajaakdaeeaaDoor
