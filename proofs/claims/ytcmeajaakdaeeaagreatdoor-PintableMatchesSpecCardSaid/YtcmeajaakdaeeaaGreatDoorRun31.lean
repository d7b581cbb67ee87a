/-
  Texts in one: TabSame, TabM.
-/
import Derived.Test.YtcmeajaakdaeeaaGreatDoorRun30
import Derived.Test.YtcmeajaakdaeeaaGreatDoorRun27
import Derived.Test.YtcmeajaakdaeeaaGreatDoorRun28
import Derived.Test.YtcmeajaakdaeeaaGreatDoorRun26
/-
  Law 23: the comparison of a table with a list.
-/
namespace Go.Proofs.YtcmeajaakdaeeaaGreatDoor
open Go.RowKit

def oc23 (x : O23) : Array Value := #[.int .i64 x.kind, .string (str x.pin.h), .bool x.pin.s, .int .i64 x.pin.x, .string (str x.host), .int .i64 x.now]
/-- The value of an operation. -/
def ov23 (x : O23) : Value := .agg (oc23 x)
/-- A block that holds an operation. -/
def OBox (w : World) (B : Nat) (k : Int) (h : ByteArray) (s : Bool) (x : Int) (t : ByteArray) (now : Int) : Prop := w.heap[B]? = some (.cells #[.int .i64 k, .string h, .bool s, .int .i64 x, .string t, .int .i64 now] 46 (0, 0))
theorem OBox.cells {w : World} {B : Nat} {k : Int} {h : ByteArray} {s : Bool} {x : Int} {t : ByteArray} {now : Int} (hb : OBox w B k h s x t now) :
    w.cell? ⟨B, 0, none⟩ = some (.int .i64 k) ∧ w.cell? ⟨B, 1, none⟩ = some (.string h) ∧ w.cell? ⟨B, 2, none⟩ = some (.bool s) ∧ w.cell? ⟨B, 3, none⟩ = some (.int .i64 x) ∧ w.cell? ⟨B, 4, none⟩ = some (.string t) ∧ w.cell? ⟨B, 5, none⟩ = some (.int .i64 now) :=
  ⟨(cell_of_row _ _ _ _ _ _ hb).trans rfl, (cell_of_row _ _ _ _ _ _ hb).trans rfl, (cell_of_row _ _ _ _ _ _ hb).trans rfl, (cell_of_row _ _ _ _ _ _ hb).trans rfl, (cell_of_row _ _ _ _ _ _ hb).trans rfl, (cell_of_row _ _ _ _ _ _ hb).trans rfl⟩
theorem OBox.ext {w w' : World} {B : Nat} {k : Int} {h : ByteArray} {s : Bool} {x : Int} {t : ByteArray} {now : Int} (hb : OBox w B k h s x t now) (e : Ext w w') : OBox w' B k h s x t now := (Below.block e _ (heap_lt hb)).trans hb

/-- What a search in a sorted list and Get say of each other. -/
theorem get_find {L : List Pin} (hA : Tab.Asc L) (t : List UInt8) : (Tab.hit L t = true ∧ Tab.find L t < L.length ∧ getP L t = L[Tab.find L t]?.getD Pin.none) ∨ (Tab.hit L t = false ∧ ¬ Tab.find L t < L.length ∧ getP L t = Pin.none) := by
  cases hh : Tab.hit L t with
  | true =>
    left
    rw [Tab.find_hit hA hh]
    refine ⟨rfl, Tab.lo_lt hA hh, ?_⟩
    unfold getP; rw [hh, if_pos rfl]
  | false =>
    right
    rw [Tab.find_miss hA hh]
    refine ⟨rfl, by omega, ?_⟩
    unfold getP; rw [hh, if_neg (by decide)]

set_option maxRecDepth 100000 in
set_option maxHeartbeats 8000000 in
theorem same23 {B : Nat} {w : World} {g : Nat} {v : Value} {L : List Pin} {cap : Int} (h : TabW B w g v L cap) (a : Option Addr) (n c : Nat) (hs : SlN w a n c L) (x : O23) (hn : n ≤ 100000) (hA : Tab.Asc L) (hL : ∀ p ∈ L, p.h.length ≤ 1000000) (ht : x.host.length ≤ 1000000) :
    Calls Tryz.prog 23 #[.pointer (some ⟨g, 0, none⟩), .slice a n c, .int .i64 cap, ov23 x] w fun e w' => e = .returned (.bool true) ∧ Below w.heap.size w w' := by
  have hlen := hs.len
  have hb0 := (Below.refl w.heap.size w).alloc (Nat.le_refl _) (.cells (oc23 x) 46)
  have hbx : OBox (w.alloc (.cells (oc23 x) 46)) w.heap.size x.kind (str x.pin.h) x.pin.s x.pin.x (str x.host) x.now := heap_alloc_eq _ _ _ rfl
  have HGET := Lib.hid (fun W (hW : TabW B W g v L cap) => tb_get hW x.host (by rw [hlen]; omega) hA hL ht)
  have HFIND := Lib.hid (fun W (hW : SlN W a n c L) => rt_find a n c L x.host W hW)
  have HGF := Lib.hid (get_find hA x.host)
  have HALL := Lib.hid (fun W (hW : TabW B W g v L cap) => al_all (some ⟨g, 0, none⟩) _ L W (fun k hk => by rcases hk with rfl | hk; exact hW.lt; exact (hW.2.1.lt k hk).2) (allSeq_tab hW) (by rw [hlen]; exact hn))
  have HLIVE := Lib.hid (fun W (hW : TabW B W g v L cap) => al_live (some ⟨g, 0, none⟩) _ L x.now W (fun k hk => by rcases hk with rfl | hk; exact hW.lt; exact (hW.2.1.lt k hk).2) (allSeq_tab hW) (by rw [hlen]; exact hn))
  have HRLV := Lib.hid (fun W (hW : SlN W a n c L) => rt_live a n c L x.now W hW (by omega))
  have HLEN := Lib.hid (fun W (hW : TabW B W g v L cap) => show Calls Tryz.prog 12 #[.pointer (some ⟨g, 0, none⟩)] W fun e w' => e = .returned (.int .i64 (n : Nat)) ∧ w' = W from by have := tb_len hW; rwa [hlen] at this)
  have HCAP := Lib.hid (fun W (hW : TabW B W g v L cap) => tb_cap hW)
  have HPIN := Lib.hid (fun W (hW : TabW B W g v L cap) => tb_pins hW (by rw [hlen]; omega))
  have HKP := Lib.hid (show ∀ W a1 c1 a2 c2 n1 n2 M, SlN W a1 n1 c1 M → SlN W a2 n2 c2 M → Calls Tryz.prog 39 #[.slice a1 n1 c1, .slice a2 n2 c2] W fun e w' => e = .returned (.bool true) ∧ Ext W w' from fun W a1 c1 a2 c2 n1 n2 M h1 h2 => by
    have := keep_pins a1 a2 n1 n2 c1 c2 M M W h1 h2
    rwa [decide_eq_true rfl] at this)
  have HT := Lib.hid h
  have HS := Lib.hid hs
  have HLL := Lib.hid hlen
  unfold oc23 at hb0 hbx
  unfold ov23 oc23
  obtain ⟨st, hst⟩ : ∃ s, str x.host = s := ⟨_, rfl⟩
  obtain ⟨sp, hsp⟩ : ∃ s, str x.pin.h = s := ⟨_, rfl⟩
  rw [hst] at HGET HFIND hb0 hbx ⊢
  rw [hsp] at hb0 hbx ⊢
  obtain ⟨W0, hW0⟩ : ∃ W0, w.alloc (.cells #[.int .i64 x.kind, .string sp, .bool x.pin.s, .int .i64 x.pin.x, .string st, .int .i64 x.now] 46) = W0 := ⟨_, rfl⟩
  rw [hW0] at hb0 hbx
  have HW0 := Lib.hid hW0
  have HB0 := Lib.hid hb0
  have HBX := Lib.hid hbx
  have HPC := Lib.hid (show ∀ W, Ext W0 W → W.cell? ⟨w.heap.size, 4, none⟩ = some (.string st) ∧ W.cell? ⟨w.heap.size, 5, none⟩ = some (.int .i64 x.now) ∧ w.heap.size < W.heap.size ∧ TabW B W g v L cap ∧ SlN W a n c L from fun W he => by
    have hP := hbx.ext he
    exact ⟨hP.cells.2.2.2.2.1, hP.cells.2.2.2.2.2, heap_lt hP, (h.ext hb0).ext he, (hs.ext hb0).ext he⟩)
  clear hst hsp hW0 hb0 hbx h hs hA hL ht hlen
  rcases HGF.out with ⟨g1, g2, g3⟩ | ⟨g1, g2, g3⟩
  · rw [g1, g3] at HGET
    have HGT := Lib.hid (List.getElem?_eq_getElem g2)
    have hg2 : Tab.find L x.host < n := by have := HLL.out; omega
    rw [if_pos hg2] at HFIND
    obtain ⟨k, hk⟩ : ∃ k, Tab.find L x.host = k := ⟨_, rfl⟩
    rw [hk] at HGET HFIND hg2
    have k0 : (0 : Int) ≤ (k : Int) := by omega
    have k1 : (k : Int) < (n : Int) := by omega
    have HAT := Lib.hid (fun W (hW : SlN W a n c L) => hW.at hg2)
    obtain ⟨q, hq⟩ : ∃ q, L[k]?.getD Pin.none = q := ⟨_, rfl⟩
    rw [hq] at HGET HAT
    unfold pv PinAt at *
    obtain ⟨sq, hsq⟩ : ∃ s, str q.h = s := ⟨_, rfl⟩
    rw [hsq] at HGET HAT
    clear HGF HGT g1 g2 g3 hk hq hsq
    go_enter Tryz.func23, Tryz.ntmps23
    go_wp2_with fail
    rw [HW0.out]
    obtain ⟨x4, x5, hlt, hT, hS⟩ := HPC.out _ (Ext.refl _)
    have HTT := Lib.hid hT
    have HSS := Lib.hid hS
    clear hT hS
    go_wp2_with fail
    refine (HGET.out _ HTT.out).mono ?_; rintro e w1 ⟨rfl, hb1⟩
    obtain ⟨W2, hW2⟩ : ∃ W2, w1.alloc (.cells #[.string sq, .bool q.s, .int .i64 q.x] 23) = W2 := ⟨_, rfl⟩
    have hb2 : Ext W0 W2 := by rw [← hW2]; exact hb1.alloc hb1.size _
    have hq2 : PBox W2 w1.heap.size sq q.s q.x := by rw [← hW2]; exact PBox.new w1 sq q.s q.x
    have HW2 := Lib.hid hW2
    have HQC := Lib.hid (show ∀ W, Ext W2 W → (W.cell? ⟨w.heap.size, 4, none⟩ = some (.string st) ∧ W.cell? ⟨w.heap.size, 5, none⟩ = some (.int .i64 x.now) ∧ w.heap.size < W.heap.size ∧ TabW B W g v L cap ∧ SlN W a n c L) ∧
        W.cell? ⟨w1.heap.size, 0, none⟩ = some (.string sq) ∧ W.cell? ⟨w1.heap.size, 1, none⟩ = some (.bool q.s) ∧ W.cell? ⟨w1.heap.size, 2, none⟩ = some (.int .i64 q.x) ∧ w1.heap.size < W.heap.size from fun W he => by
      have hP := hq2.ext he
      exact ⟨HPC.out _ (hb2.trans (Below.mono he hb2.size)), hP.cells.1, hP.cells.2.1, hP.cells.2.2, heap_lt hP⟩)
    clear hW2 hq2 x4 x5 hlt
    obtain ⟨x4, x5, hlt, -, -⟩ := (HQC.out _ (Ext.refl _)).1
    have hlt9 := (HQC.out _ (Ext.refl _)).2.2.2.2
    obtain ⟨y4, y5, ylt, -, -⟩ := HPC.out _ hb1
    go_wp2_with fail
    rw [HW2.out]
    refine (HFIND.out _ (HQC.out _ (Ext.refl _)).1.2.2.2.2).mono ?_; rintro e w3 ⟨rfl, rfl⟩
    obtain ⟨bb, o, rfl, hbb, -, e0, e1, e2⟩ := HAT.out _ (HQC.out _ (Ext.refl _)).1.2.2.2.2
    obtain ⟨-, z0, z1, z2, -⟩ := HQC.out _ (Ext.refl _)
    go_wp2_with fail
    go_quiet (fail)
    clear e0 e1 e2 z0 z1 z2 x4 x5 hlt hlt9 y4 y5 ylt
    have hb4 : Ext W2 (W2.drewN nq) := below_drewN' _ _ _
    have HT4 := Lib.hid (HQC.out _ hb4).1.2.2.2
    go_wp2_with fail
    refine (HALL.out _ HT4.out.1).mono ?_; rintro e w5 ⟨v5, rfl, ho5, hb5⟩
    have hE5 : Ext W2 w5 := Below.trans hb4 (hb5.mono hb4.size)
    obtain ⟨a5, c5, hv5, hs5, -⟩ := ho5.sl
    rw [HLL.out] at hs5 hv5
    subst hv5
    have HS5 := Lib.hid hs5
    obtain ⟨⟨x4, x5, hlt, hT5, hS5⟩, -⟩ := HQC.out _ hE5
    have HT5 := Lib.hid hT5
    have HSL5 := Lib.hid hS5
    have HCL := Lib.hid (show ∀ w', Ext w5 w' → Ext w5 w' ∧ w'.cell? ⟨w.heap.size, 5, none⟩ = some (.int .i64 x.now) ∧ w.heap.size < w'.heap.size from fun w' he =>
      ⟨he, (Below.cell he (p := ⟨w.heap.size, 5, none⟩) hlt).trans x5, Nat.lt_of_lt_of_le hlt (Below.size he)⟩)
    clear ho5 hs5 hT5 hS5 x4
    go_wp2_with fail
    go_region_held3 (fun w' => Ext w5 w' ∧ w'.cell? ⟨w.heap.size, 5, none⟩ = some (.int .i64 x.now) ∧ w.heap.size < w'.heap.size)
      (first | assumption | exact HCL.out _ (Ext.drew (Ext.refl _)) | exact HCL.out _ (Ext.step (by assumption) (And.left (by assumption))))
      (first
        | (go_at_call 12; go_must (refine (HLEN.out _ (HT5.out.ext (And.left (by assumption)))).mono ?_); rintro e u1 ⟨rfl, rfl⟩)
        | (go_at_call 13; go_must (refine (HCAP.out _ (HT5.out.ext (And.left (by assumption)))).mono ?_); rintro e u2 ⟨rfl, rfl⟩)
        | (go_at_call 14; go_must (refine (HPIN.out _ (HT5.out.ext (And.left (by assumption)))).mono ?_); rintro e u3 ⟨v6, rfl, ho6, hb6⟩; obtain ⟨a6, c6, hv6, hs6, -⟩ := ho6.sl; rw [HLL.out] at hs6 hv6; subst hv6; have HS6 := Lib.hid hs6; clear hs6 ho6)
        | (go_at_call_of 39 (Value.slice a6 n c6); go_must (refine (HKP.out _ _ _ _ _ _ _ L (HS6.out.ext (Below.refl _ _)) (HSL5.out.ext (And.left (by assumption)))).mono ?_); rintro e u4 ⟨rfl, hb7⟩)
        | (go_at_call_of 39 (Value.slice a5 n c5); go_must (refine (HKP.out _ _ _ _ _ _ _ L (HS5.out.ext (And.left (by assumption))) (HSL5.out.ext (And.left (by assumption)))).mono ?_); rintro e u5 ⟨rfl, hb8⟩)
        | (go_at_call 15; go_must (refine (HLIVE.out _ (HT5.out.ext (And.left (by assumption)))).mono ?_); rintro e u6 ⟨v8, rfl, ho8, hb9⟩; obtain ⟨a8, c8, hv8, hs8, -⟩ := ho8.sl; obtain ⟨M, hM⟩ : ∃ M, Tab.live L x.now = M := ⟨_, rfl⟩; rw [hM] at hs8 hv8; obtain ⟨m, hm⟩ : ∃ m, M.length = m := ⟨_, rfl⟩; rw [hm] at hs8 hv8; subst hv8; have HS8 := Lib.hid hs8; have HM := Lib.hid hM; have HMM := Lib.hid hm; clear hs8 ho8 hM hm)
        | (go_at_call 21; go_must (refine (HRLV.out _ (HSL5.out.ext (And.left (by assumption)))).mono ?_); rintro e u7 ⟨v9, rfl, ho9, hb10⟩; obtain ⟨a9, c9, hv9, hs9, -⟩ := ho9.sl; rw [HM.out, HMM.out] at hs9 hv9; subst hv9; have HS9 := Lib.hid hs9; clear hs9 ho9)
        | (go_at_call_of 39 (Value.slice a8 m c8); go_must (refine (HKP.out _ _ _ _ _ _ _ M (HS8.out.ext hb10) (HS9.out.ext (Below.refl _ _))).mono ?_); rintro e u8 ⟨rfl, hb11⟩))
    have hfin : Ext w5 u8 := And.left (by assumption)
    go_wp2_with fail
    go_ret
    have hE0 : Ext W0 u8 := Below.trans (Below.trans hb2 (hE5.mono hb2.size)) (hfin.mono (Nat.le_trans hb2.size hE5.size))
    exact ⟨rfl, HB0.out.trans (hE0.mono HB0.out.size)⟩
  · rw [g1, g3, show pv Pin.none = .agg #[.string ⟨#[]⟩, .bool false, .int .i64 0] from rfl] at HGET
    have hg2 : ¬ Tab.find L x.host < n := by have := HLL.out; omega
    rw [if_neg hg2] at HFIND
    clear HGF g1 g2 g3 hg2
    go_enter Tryz.func23, Tryz.ntmps23
    go_wp2_with fail
    rw [HW0.out]
    obtain ⟨x4, x5, hlt, hT, hS⟩ := HPC.out _ (Ext.refl _)
    have HTT := Lib.hid hT
    have HSS := Lib.hid hS
    clear hT hS
    go_wp2_with fail
    refine (HGET.out _ HTT.out).mono ?_; rintro e w1 ⟨rfl, hb1⟩
    obtain ⟨W2, hW2⟩ : ∃ W2, w1.alloc (.cells #[.string ⟨#[]⟩, .bool false, .int .i64 0] 23) = W2 := ⟨_, rfl⟩
    have hb2 : Ext W0 W2 := by rw [← hW2]; exact hb1.alloc hb1.size _
    have hq2 : PBox W2 w1.heap.size ⟨#[]⟩ false 0 := by rw [← hW2]; exact PBox.new w1 ⟨#[]⟩ false 0
    have HW2 := Lib.hid hW2
    have HQC := Lib.hid (show ∀ W, Ext W2 W → (W.cell? ⟨w.heap.size, 4, none⟩ = some (.string st) ∧ W.cell? ⟨w.heap.size, 5, none⟩ = some (.int .i64 x.now) ∧ w.heap.size < W.heap.size ∧ TabW B W g v L cap ∧ SlN W a n c L) ∧
        W.cell? ⟨w1.heap.size, 0, none⟩ = some (.string ⟨#[]⟩) ∧ W.cell? ⟨w1.heap.size, 1, none⟩ = some (.bool false) ∧ W.cell? ⟨w1.heap.size, 2, none⟩ = some (.int .i64 0) ∧ w1.heap.size < W.heap.size from fun W he => by
      have hP := hq2.ext he
      exact ⟨HPC.out _ (hb2.trans (Below.mono he hb2.size)), hP.cells.1, hP.cells.2.1, hP.cells.2.2, heap_lt hP⟩)
    clear hW2 hq2 x4 x5 hlt
    obtain ⟨x4, x5, hlt, -, -⟩ := (HQC.out _ (Ext.refl _)).1
    have hlt9 := (HQC.out _ (Ext.refl _)).2.2.2.2
    obtain ⟨y4, y5, ylt, -, -⟩ := HPC.out _ hb1
    go_wp2_with fail
    rw [HW2.out]
    refine (HFIND.out _ (HQC.out _ (Ext.refl _)).1.2.2.2.2).mono ?_; rintro e w3 ⟨rfl, rfl⟩
    obtain ⟨-, z0, z1, z2, -⟩ := HQC.out _ (Ext.refl _)
    go_wp2_with fail
    go_quiet (fail)
    clear z0 z1 z2 x4 x5 hlt hlt9 y4 y5 ylt
    have hb4 : Ext W2 (W2.drewN nq) := below_drewN' _ _ _
    have HT4 := Lib.hid (HQC.out _ hb4).1.2.2.2
    go_wp2_with fail
    refine (HALL.out _ HT4.out.1).mono ?_; rintro e w5 ⟨v5, rfl, ho5, hb5⟩
    have hE5 : Ext W2 w5 := Below.trans hb4 (hb5.mono hb4.size)
    obtain ⟨a5, c5, hv5, hs5, -⟩ := ho5.sl
    rw [HLL.out] at hs5 hv5
    subst hv5
    have HS5 := Lib.hid hs5
    obtain ⟨⟨x4, x5, hlt, hT5, hS5⟩, -⟩ := HQC.out _ hE5
    have HT5 := Lib.hid hT5
    have HSL5 := Lib.hid hS5
    have HCL := Lib.hid (show ∀ w', Ext w5 w' → Ext w5 w' ∧ w'.cell? ⟨w.heap.size, 5, none⟩ = some (.int .i64 x.now) ∧ w.heap.size < w'.heap.size from fun w' he =>
      ⟨he, (Below.cell he (p := ⟨w.heap.size, 5, none⟩) hlt).trans x5, Nat.lt_of_lt_of_le hlt (Below.size he)⟩)
    clear ho5 hs5 hT5 hS5 x4
    go_wp2_with fail
    go_region_held3 (fun w' => Ext w5 w' ∧ w'.cell? ⟨w.heap.size, 5, none⟩ = some (.int .i64 x.now) ∧ w.heap.size < w'.heap.size)
      (first | assumption | exact HCL.out _ (Ext.drew (Ext.refl _)) | exact HCL.out _ (Ext.step (by assumption) (And.left (by assumption))))
      (first
        | (go_at_call 12; go_must (refine (HLEN.out _ (HT5.out.ext (And.left (by assumption)))).mono ?_); rintro e u1 ⟨rfl, rfl⟩)
        | (go_at_call 13; go_must (refine (HCAP.out _ (HT5.out.ext (And.left (by assumption)))).mono ?_); rintro e u2 ⟨rfl, rfl⟩)
        | (go_at_call 14; go_must (refine (HPIN.out _ (HT5.out.ext (And.left (by assumption)))).mono ?_); rintro e u3 ⟨v6, rfl, ho6, hb6⟩; obtain ⟨a6, c6, hv6, hs6, -⟩ := ho6.sl; rw [HLL.out] at hs6 hv6; subst hv6; have HS6 := Lib.hid hs6; clear hs6 ho6)
        | (go_at_call_of 39 (Value.slice a6 n c6); go_must (refine (HKP.out _ _ _ _ _ _ _ L (HS6.out.ext (Below.refl _ _)) (HSL5.out.ext (And.left (by assumption)))).mono ?_); rintro e u4 ⟨rfl, hb7⟩)
        | (go_at_call_of 39 (Value.slice a5 n c5); go_must (refine (HKP.out _ _ _ _ _ _ _ L (HS5.out.ext (And.left (by assumption))) (HSL5.out.ext (And.left (by assumption)))).mono ?_); rintro e u5 ⟨rfl, hb8⟩)
        | (go_at_call 15; go_must (refine (HLIVE.out _ (HT5.out.ext (And.left (by assumption)))).mono ?_); rintro e u6 ⟨v8, rfl, ho8, hb9⟩; obtain ⟨a8, c8, hv8, hs8, -⟩ := ho8.sl; obtain ⟨M, hM⟩ : ∃ M, Tab.live L x.now = M := ⟨_, rfl⟩; rw [hM] at hs8 hv8; obtain ⟨m, hm⟩ : ∃ m, M.length = m := ⟨_, rfl⟩; rw [hm] at hs8 hv8; subst hv8; have HS8 := Lib.hid hs8; have HM := Lib.hid hM; have HMM := Lib.hid hm; clear hs8 ho8 hM hm)
        | (go_at_call 21; go_must (refine (HRLV.out _ (HSL5.out.ext (And.left (by assumption)))).mono ?_); rintro e u7 ⟨v9, rfl, ho9, hb10⟩; obtain ⟨a9, c9, hv9, hs9, -⟩ := ho9.sl; rw [HM.out, HMM.out] at hs9 hv9; subst hv9; have HS9 := Lib.hid hs9; clear hs9 ho9)
        | (go_at_call_of 39 (Value.slice a8 m c8); go_must (refine (HKP.out _ _ _ _ _ _ _ M (HS8.out.ext hb10) (HS9.out.ext (Below.refl _ _))).mono ?_); rintro e u8 ⟨rfl, hb11⟩))
    have hfin : Ext w5 u8 := And.left (by assumption)
    go_wp2_with fail
    go_ret
    have hE0 : Ext W0 u8 := Below.trans (Below.trans hb2 (hE5.mono hb2.size)) (hfin.mono (Nat.le_trans hb2.size hE5.size))
    exact ⟨rfl, HB0.out.trans (hE0.mono HB0.out.size)⟩

end Go.Proofs.YtcmeajaakdaeeaaGreatDoor

/-
  The walk of PintableMatchesSpec.
-/
namespace Go.Proofs.YtcmeajaakdaeeaaGreatDoor
open Go.RowKit

theorem Tab.put_sub' (L : List Pin) (cap : Int) (p q : Pin) (hq : q ∈ (Tab.put L cap p).1) : (q = p ∧ Pin.valid p = true) ∨ q ∈ L := by
  unfold Tab.put at hq
  split at hq
  · exact .inr hq
  · rename_i hv
    have hv' : Pin.valid p = true := by simpa using hv
    split at hq
    · rcases List.mem_or_eq_of_mem_set hq with m | m
      · exact .inr m
      · exact .inl ⟨m, hv'⟩
    · split at hq
      · exact .inr hq
      · rcases List.mem_append.1 hq with m | m
        · exact .inr (List.mem_of_mem_take m)
        · rcases List.mem_cons.1 m with m | m
          · exact .inl ⟨m, hv'⟩
          · exact .inr (List.mem_of_mem_drop m)

theorem TabW.mono {B B' : Nat} {w : World} {g : Nat} {v : Value} {L : List Pin} {cap : Int} (h : TabW B w g v L cap) (hb : B' ≤ B) : TabW B' w g v L cap := ⟨h.1, h.2.1.mono hb, Nat.le_trans hb h.2.2.1, h.2.2.2⟩

/-- A table and the reference's list, apart from each other, with the same pins. -/
structure MSt (w : World) (cap : Int) (g : Nat) (v lv : Value) (L : List Pin) (W : World) : Prop where
  tab : TabW w.heap.size W g v L cap
  own : OwnN w.heap.size W lv L
  apart : ∀ j, lv.ownBlock = some j → ¬ Foot g v j
  bel : Below w.heap.size w W
  asc : Tab.Asc L
  small : ∀ q ∈ L, q.h.length ≤ 300
  good : ∀ q ∈ L, Pin.valid q = true
  len : (L.length : Int) ≤ cap
theorem MSt.ext {w : World} {cap : Int} {g : Nat} {v lv : Value} {L : List Pin} {W W' : World} (h : MSt w cap g v lv L W) (e : Ext W W') : MSt w cap g v lv L W' :=
  ⟨h.tab.ext e, h.own.ext e, h.apart, h.bel.trans (Below.mono e h.bel.size), h.asc, h.small, h.good, h.len⟩
/-- One operation: the reference makes its list, then the table turns. -/
theorem MSt.step {w : World} {cap : Int} {g : Nat} {v v' lv lv2 : Value} {L L2 : List Pin} {W W1 W2 : World} (h : MSt w cap g v lv L W) (hb : Ext W W1) (hn : NewOr W W1 lv lv2 L L2) (hu : Upd (Foot g v) W1 (Foot g v') W2) (ht : TabW w.heap.size W2 g v' L2 cap)
    (h1 : Tab.Asc L2) (h2 : ∀ q ∈ L2, q.h.length ≤ 300) (h3 : ∀ q ∈ L2, Pin.valid q = true) (h4 : (L2.length : Int) ≤ cap) : MSt w cap g v' lv2 L2 W2 := by
  have hlt := fun k hk => (Foot.own h.tab k hk).2
  have hown : OwnN w.heap.size W1 lv2 L2 ∧ ∀ j, lv2.ownBlock = some j → ¬ Foot g v j := by
    rcases hn with ⟨rfl, rfl⟩ | ho
    · exact ⟨h.own.ext hb, h.apart⟩
    · exact ⟨ho.mono h.bel.size, fun j hj e => by have := (ho.lt j hj).1; have := hlt j e; omega⟩
  refine ⟨ht, hown.1.stay (fun k hk => hu.block k (hown.1.lt k hk).2 (hown.2 k hk)), fun j hj e => ?_, hu.below (h.bel.trans (Below.mono hb h.bel.size)) (fun k hk => (Foot.own h.tab k hk).1) (Nat.le_trans h.bel.size hb.size), h1, h2, h3, h4⟩
  rcases hu.new j e with e1 | e1
  · exact hown.2 j hj e1
  · have := (hown.1.lt j hj).2; omega

set_option maxRecDepth 100000 in
set_option maxHeartbeats 16000000 in
theorem tab_matches (cap : Int) (a : Option Addr) (n c : Nat) (l : List O23) (w : World) (_hc : (Lit.int .i64 cap).wf = true) (h : SlO23 w a n c l) :
    Calls Tryz.prog 4 #[.int .i64 cap, .slice a n c] w fun e w' => e = .returned (.bool true) ∧ Below w.heap.size w w' := by
  have hle := h.le
  have HSM := Lib.hid (small23 a n c l w h)
  have HAW := Lib.hid tab_awake
  have HLN := Lib.hid h.len
  have HSL := Lib.hid h
  obtain ⟨sm, hsm⟩ : ∃ b, (decide (n ≤ 60) && l.all ok23) = b := ⟨_, rfl⟩
  rw [hsm] at HSM
  clear h
  cases sm with
  | false =>
    clear hsm
    go_enter Tryz.func4, Tryz.ntmps4
    go_wp2_with fail
    refine HSM.out.mono ?_; rintro e w1 ⟨rfl, hb1⟩
    go_wp2_with fail
    refine (HAW.out _).mono ?_; rintro e w2 ⟨rfl, hb2⟩
    go_wp2_with fail
    go_ret
    exact ⟨rfl, hb1.trans (hb2.mono hb1.size)⟩
  | true =>
    rw [Bool.and_eq_true, List.all_eq_true] at hsm
    have hn60 : n ≤ 60 := of_decide_eq_true hsm.1
    have HOK := Lib.hid hsm.2
    clear hsm
    have HRL := Lib.hid (fun W => rt_load cap none 0 0 [] W (SlN.nil W) (by omega) (by simp))
    have hload : Tab.load [] cap = if cap < 1 ∨ 1000 < cap then 2 else 0 := by
      unfold Tab.load
      split
      · rfl
      · rename_i hx
        rw [if_neg (by simp; omega)]; rfl
    rw [hload] at HRL
    have HN := Lib.hid (fun W => tb_new cap W)
    clear hload
    by_cases hcap : cap < 1 ∨ 1000 < cap
    · rw [if_pos hcap] at HRL
      have HN2 := Lib.hid (fun W => (HN.out W).mono (R' := fun e w' => e = .returned (.tuple #[.pointer none, .int .i64 2]) ∧ w' = W) (fun e w' hh => by unfold NewP at hh; rwa [if_pos hcap] at hh))
      clear hcap
      go_enter Tryz.func4, Tryz.ntmps4
      go_wp2_with fail
      refine HSM.out.mono ?_; rintro e w1 ⟨rfl, hb1⟩
      go_wp2_with fail
      refine (HN2.out _).mono ?_; rintro e w2 ⟨rfl, rfl⟩
      go_wp2_with fail
      refine (HRL.out _).mono ?_; rintro e w3 ⟨rfl, hb3⟩
      go_wp2_with fail
      go_loopw [5, 8] (fun t i wr => t = .pointer none ∧ i = .int .i64 0 ∧ wr = w3) (fun _ _ _ => 0)
      case atStart => exact ⟨rfl, rfl, rfl⟩
      case round =>
        obtain ⟨rfl, rfl, rfl⟩ := hrel
        go_wp2_with fail
        refine (HAW.out _).mono ?_; rintro e w4 ⟨rfl, hb4⟩
        go_wp2_with fail
        go_ret
        have hb5 := hb1.trans (hb3.mono hb1.size)
        exact ⟨rfl, hb5.trans (hb4.mono hb5.size)⟩
    · rw [if_neg hcap] at HRL
      have hc1 : 1 ≤ cap := by omega
      have hc2 : cap ≤ 1000 := by omega
      have HN2 := Lib.hid (fun W => (HN.out W).mono (R' := fun e w' => e = .returned (.tuple #[.pointer (some ⟨W.heap.size, 0, none⟩), .int .i64 0]) ∧ w' = W.alloc (.cells #[.slice none 0 0, .int .i64 cap] 57)) (fun e w' hh => by unfold NewP at hh; rwa [if_neg hcap] at hh))
      clear hcap
      go_enter Tryz.func4, Tryz.ntmps4
      go_wp2_with fail
      refine HSM.out.mono ?_; rintro e w1 ⟨rfl, hb1⟩
      go_wp2_with fail
      refine (HN2.out _).mono ?_; rintro e w2 ⟨rfl, hw2⟩
      have hM2 : MSt w cap w1.heap.size (.slice none 0 0) (.slice none 0 0) [] w2 := by
        rw [hw2]
        exact ⟨(TabW.new w1 cap hb1.size), OwnN.nil _ _, (fun j hj => by cases hj), hb1.alloc hb1.size _, asc_nil, by simp, by simp, by simp; omega⟩
      clear hw2
      have HM2 := Lib.hid hM2
      clear hM2
      go_wp2_with fail
      refine (HRL.out _).mono ?_; rintro e w3 ⟨rfl, hb3⟩
      have HM3 := Lib.hid (HM2.out.ext hb3)
      go_wp2_with fail
      go_loopw [5, 7, 8] (fun t u i wr => ∃ (k g : Nat) (v : Value) (L : List Pin), k ≤ n ∧ i = .int .i64 (k : Nat) ∧ t = .pointer (some ⟨g, 0, none⟩) ∧ Hid (MSt w cap g v u L wr)) (fun _ _ i _ => n - (intOf i).toNat)
      case atStart => exact ⟨0, _, _, _, Nat.zero_le _, rfl, rfl, HM3⟩
      case round =>
        rename_i u
        obtain ⟨k, g, v, L, hk, rfl, rfl, HM⟩ := hrel
        have i0 : (0 : Int) ≤ (k : Int) := by omega
        by_cases hkn : k < n
        · have i1 : (k : Int) < (n : Int) := by omega
          obtain ⟨bb, o, x, rfl, hbb, hgt, c0, ⟨c1, c2, c3⟩, c4, c5⟩ := (HSL.out.ext HM.out.bel).at hkn
          rw [Nat.add_assoc] at c2 c3
          simp only [Nat.reduceAdd] at c2 c3
          have hkl : k < l.length := by rw [HLN.out]; exact hkn
          have hxe : l[k] = x := by rw [List.getElem?_eq_getElem hkl] at hgt; exact Option.some.inj hgt
          have hok : ok23 x = true := HOK.out x (by rw [← hxe]; exact List.getElem_mem hkl)
          unfold ok23 at hok
          rw [Bool.and_eq_true] at hok
          have hx1 : x.host.length ≤ 300 := of_decide_eq_true hok.1
          have hx2 : x.pin.h.length ≤ 300 := of_decide_eq_true hok.2
          clear hgt hkl hxe hok
          have hlen := HM.out.len
          have HSAME := Lib.hid (show ∀ W g v L a4 c4, MSt w cap g v (.slice a4 L.length c4) L W → Calls Tryz.prog 23 #[.pointer (some ⟨g, 0, none⟩), .slice a4 L.length c4, .int .i64 cap, ov23 x] W fun e w' => e = .returned (.bool true) ∧ Ext W w' from fun W g v L a4 c4 hM =>
            same23 hM.tab a4 L.length c4 hM.own.slN x (by have := hM.len; omega) hM.asc (fun q hq => Nat.le_trans (hM.small q hq) (by omega)) (by omega))
          have hb0 : Ext wr (wr.alloc (.cells (oc23 x) 46)) := (Below.refl _ _).alloc (Nat.le_refl _) _
          have hob0 : OBox (wr.alloc (.cells (oc23 x) 46)) wr.heap.size x.kind (str x.pin.h) x.pin.s x.pin.x (str x.host) x.now := heap_alloc_eq _ _ _ rfl
          unfold ov23 at HSAME
          unfold oc23 at HSAME hb0 hob0
          have HRP := Lib.hid (fun W a1 c1 (hS : SlN W a1 L.length c1 L) => rt_put a1 L.length c1 L x.pin cap W hS (by omega) (fun q hq => Nat.le_trans (HM.out.small q hq) (by omega)) (by omega))
          have HTP := Lib.hid (fun W (hT : TabW w.heap.size W g v L cap) => tb_put hT x.pin (by omega) HM.out.asc (fun q hq => Nat.le_trans (HM.out.small q hq) (by omega)) (by omega))
          have HRR := Lib.hid (fun W a1 c1 (hS : SlN W a1 L.length c1 L) => rt_remove a1 L.length c1 L x.host W hS (by omega))
          have HTR := Lib.hid (fun W (hT : TabW w.heap.size W g v L cap) => tb_remove hT x.host (by omega) HM.out.asc (fun q hq => Nat.le_trans (HM.out.small q hq) (by omega)) (by omega))
          have HRV := Lib.hid (fun W a1 c1 (hS : SlN W a1 L.length c1 L) => rt_live a1 L.length c1 L x.now W hS (by omega))
          have HTE := Lib.hid (fun W (hT : TabW w.heap.size W g v L cap) => tb_expire hT x.now (by omega))
          have HPN := Lib.hid (fun W (hT : TabW w.heap.size W g v L cap) => tb_pins hT (by omega))
          have hld : Tab.load L cap = 0 := by
            unfold Tab.load
            rw [if_neg (by omega), if_neg (by omega)]
            exact (Tab.chk_zero L).2 ⟨HM.out.good, HM.out.asc⟩
          have HTL := Lib.hid (show ∀ W a1 c1, SlN W a1 L.length c1 L → Calls Tryz.prog 22 #[.slice a1 L.length c1, .int .i64 cap] W fun e w' => e = .returned (.tuple #[.pointer (some ⟨W.heap.size, 0, none⟩), .int .i64 0]) ∧ Ext W w' ∧ ∃ v, TabW W.heap.size w' W.heap.size v L cap from fun W a1 c1 hS =>
            (tb_load cap a1 L.length c1 L W hS (by omega) (fun q hq => Nat.le_trans (HM.out.small q hq) (by omega))).mono (fun e w' hp => by
              obtain ⟨h1, ⟨h2, -⟩ | ⟨-, h3, h4⟩⟩ := hp
              · exact absurd hld h2
              · exact ⟨h3, h1, h4⟩))
          unfold RPutP at HRP
          unfold PutP at HTP
          unfold RRemP at HRR
          unfold RemP at HTR
          unfold ExpP at HTE
          rw [Tab.rput_is HM.out.asc hlen] at HRP
          rw [Tab.rremove_is HM.out.asc] at HRR
          have HPS := Lib.hid (fun q hq => Tab.put_sub' L cap x.pin q hq)
          have HPA := Lib.hid (And.intro (Tab.put_asc HM.out.asc cap x.pin) (Tab.put_len hlen x.pin))
          obtain ⟨⟨L2, z2⟩, hput⟩ : ∃ r, Tab.put L cap x.pin = r := ⟨_, rfl⟩
          rw [hput] at HRP HTP HPS HPA
          have HRS := Lib.hid (fun q => Tab.remove_mem HM.out.asc x.host q)
          have HRA := Lib.hid (And.intro (Tab.remove_asc HM.out.asc x.host) (Tab.remove_len L x.host))
          obtain ⟨⟨L3, b3⟩, hrem⟩ : ∃ r, Tab.remove L x.host = r := ⟨_, rfl⟩
          rw [hrem] at HRR HTR HRS HRA
          have HLS := Lib.hid (show ∀ q ∈ Tab.live L x.now, q ∈ L from fun q hq => (List.mem_filter.1 hq).1)
          have HLA := Lib.hid (And.intro (Tab.asc_live HM.out.asc x.now) (Tab.live_len L x.now))
          obtain ⟨L4, hliv⟩ : ∃ r, Tab.live L x.now = r := ⟨_, rfl⟩
          rw [hliv] at HRV HTE HLS HLA
          clear hput hrem hliv hld
          obtain ⟨st, hst⟩ : ∃ s, str x.host = s := ⟨_, rfl⟩
          unfold pv at HRP HTP
          obtain ⟨sp, hsp⟩ : ∃ s, str x.pin.h = s := ⟨_, rfl⟩
          obtain ⟨z, hz⟩ : ∃ z, x.kind = z := ⟨_, rfl⟩
          rw [hst] at HRR HTR HSAME c4 hb0 hob0
          rw [hsp] at HRP HTP HSAME c1 hb0 hob0
          rw [hz] at HSAME c0 hb0 hob0
          simp only at HRP HTP HPS HPA HRR HTR HRS HRA
          obtain ⟨au, cu, rfl, hsu, -⟩ := HM.out.own.sl
          obtain ⟨Wb, hWb⟩ : ∃ Wb, wr.alloc (.cells #[.int .i64 z, .string sp, .bool x.pin.s, .int .i64 x.pin.x, .string st, .int .i64 x.now] 46) = Wb := ⟨_, rfl⟩
          rw [hWb] at hb0 hob0
          have HWB := Lib.hid hWb
          have HMB := Lib.hid (HM.out.ext hb0)
          have HSU := Lib.hid (hsu.ext hb0)
          have HOB0 := Lib.hid hob0
          have HXF := Lib.hid (show ¬ Foot g v wr.heap.size from fun e => by have := (Foot.own HM.out.tab _ e).2; omega)
          have hxw : wr.heap.size < Wb.heap.size := heap_lt hob0
          have HXW := Lib.hid hxw
          obtain ⟨q0, q1, q2, q3, q4, q5⟩ := hob0.cells
          have hlq := heap_lt hob0
          clear hst hsp hz hWb hob0 hsu hb0
          obtain ⟨m, hm⟩ : ∃ m, L.length = m := ⟨_, rfl⟩
          rw [hm] at HRP HRR HRV HSU HRA HLA HTE HMB HTL hlen
          have HMM := Lib.hid hm
          have hm1000 : (m : Int) ≤ 1000 := by omega
          rw [hm]
          clear hm
          by_cases k0 : z = 0
          · subst k0
            go_wp2_with fail
            rw [HWB.out]
            refine (HRP.out _ _ _ HSU.out).mono ?_; rintro e w4 ⟨v4, rfl, hnew, hb4⟩
            have hob4 := HOB0.out.ext hb4
            clear q0 q1 q2 q3 q4 q5 hlq
            obtain ⟨q0, q1, q2, q3, q4, q5⟩ := hob4.cells
            have hlq := heap_lt hob4
            have HOB4 := Lib.hid hob4
            have HNEW := Lib.hid hnew
            have hT4 := HMB.out.tab.ext hb4
            have HT4 := Lib.hid hT4
            clear hob4 hnew hT4
            go_wp2_with fail
            refine (HTP.out _ HT4.out).mono ?_; rintro e w5 ⟨v5, rfl, hT5, hU5⟩
            have hM6 : MSt w cap g v5 v4 L2 w5 := HMB.out.step hb4 HNEW.out hU5 hT5 HPA.out.1 (fun q hq => by rcases HPS.out q hq with ⟨rfl, -⟩ | e; exact hx2; exact HM.out.small q e) (fun q hq => by rcases HPS.out q hq with ⟨rfl, e⟩ | e; exact e; exact HM.out.good q e) HPA.out.2
            have hob : OBox w5 wr.heap.size 0 sp x.pin.s x.pin.x st x.now := (hU5.block _ (heap_lt HOB4.out) HXF.out).trans HOB4.out
            obtain ⟨a4, c9, rfl, -, -⟩ := hM6.own.sl
            clear hT5 hU5 q0 q1 q2 q3 q4 q5 hlq
            have HM6 := Lib.hid hM6
            have HOB := Lib.hid hob
            clear hM6 hob
            obtain ⟨q0, q1, q2, q3, q4, q5⟩ := HOB.out.cells
            have hlq := heap_lt HOB.out
            go_wp2_with fail
            refine (HSAME.out _ _ _ _ _ _ HM6.out).mono ?_; rintro e w7 ⟨rfl, hb7⟩
            go_wp2_with fail
            go_roundw
            case rel => exact ⟨k + 1, _, _, _, by omega, by go_num, rfl, Lib.hid (HM6.out.ext hb7)⟩
            case measure => simp [intOf]; omega
          by_cases k1 : z = 1
          · subst k1
            go_wp2_with fail
            rw [HWB.out]
            refine (HRR.out _ _ _ HSU.out).mono ?_; rintro e w4 ⟨v4, rfl, hnew, hb4⟩
            have hob4 := HOB0.out.ext hb4
            clear q0 q1 q2 q3 q4 q5 hlq
            obtain ⟨q0, q1, q2, q3, q4, q5⟩ := hob4.cells
            have hlq := heap_lt hob4
            have HOB4 := Lib.hid hob4
            have HNEW := Lib.hid hnew
            have hT4 := HMB.out.tab.ext hb4
            have HT4 := Lib.hid hT4
            clear hob4 hnew hT4
            go_wp2_with fail
            refine (HTR.out _ HT4.out).mono ?_; rintro e w5 ⟨v5, rfl, hT5, hU5⟩
            have hM6 : MSt w cap g v5 v4 L3 w5 := HMB.out.step hb4 HNEW.out hU5 hT5 HRA.out.1 (fun q hq => HM.out.small q ((HRS.out q).1 hq).1) (fun q hq => HM.out.good q ((HRS.out q).1 hq).1) (by have := HRA.out.2; omega)
            have hob : OBox w5 wr.heap.size 1 sp x.pin.s x.pin.x st x.now := (hU5.block _ (heap_lt HOB4.out) HXF.out).trans HOB4.out
            obtain ⟨a4, c9, rfl, -, -⟩ := hM6.own.sl
            clear hT5 hU5 q0 q1 q2 q3 q4 q5 hlq
            have HM6 := Lib.hid hM6
            have HOB := Lib.hid hob
            clear hM6 hob
            obtain ⟨q0, q1, q2, q3, q4, q5⟩ := HOB.out.cells
            have hlq := heap_lt HOB.out
            go_wp2_with fail
            refine (HSAME.out _ _ _ _ _ _ HM6.out).mono ?_; rintro e w7 ⟨rfl, hb7⟩
            go_wp2_with fail
            go_roundw
            case rel => exact ⟨k + 1, _, _, _, by omega, by go_num, rfl, Lib.hid (HM6.out.ext hb7)⟩
            case measure => simp [intOf]; omega
          by_cases k2 : z = 2
          · subst k2
            go_wp2_with fail
            rw [HWB.out]
            refine (HRV.out _ _ _ HSU.out).mono ?_; rintro e w4 ⟨v4, rfl, hown4, hb4⟩
            have hnew : NewOr Wb w4 (.slice au m cu) v4 L L4 := .inr hown4
            obtain ⟨a4, c9, rfl, -, -⟩ := hown4.sl
            clear hown4
            have hm4 : (L4.length : Int) ≤ (m : Int) := by have := HLA.out.2; omega
            have hm40 : (0 : Int) ≤ (L4.length : Int) := by omega
            have hob4 := HOB0.out.ext hb4
            clear q0 q1 q2 q3 q4 q5 hlq
            obtain ⟨q0, q1, q2, q3, q4, q5⟩ := hob4.cells
            have hlq := heap_lt hob4
            have HOB4 := Lib.hid hob4
            have HNEW := Lib.hid hnew
            have hT4 := HMB.out.tab.ext hb4
            have HT4 := Lib.hid hT4
            clear hob4 hnew hT4
            go_wp2_with fail
            refine (HTE.out _ HT4.out).mono ?_; rintro e w5 ⟨v5, rfl, hT5, hU5⟩
            have hM6 : MSt w cap g v5 (.slice a4 L4.length c9) L4 w5 := HMB.out.step hb4 HNEW.out hU5 hT5 HLA.out.1 (fun q hq => HM.out.small q (HLS.out q hq)) (fun q hq => HM.out.good q (HLS.out q hq)) (by omega)
            have hob : OBox w5 wr.heap.size 2 sp x.pin.s x.pin.x st x.now := (hU5.block _ (heap_lt HOB4.out) HXF.out).trans HOB4.out
            clear hT5 hU5 q0 q1 q2 q3 q4 q5 hlq
            have HM6 := Lib.hid hM6
            have HOB := Lib.hid hob
            clear hM6 hob
            obtain ⟨q0, q1, q2, q3, q4, q5⟩ := HOB.out.cells
            have hlq := heap_lt HOB.out
            go_wp2_with fail
            refine (HSAME.out _ _ _ _ _ _ HM6.out).mono ?_; rintro e w7 ⟨rfl, hb7⟩
            go_wp2_with fail
            go_roundw
            case rel => exact ⟨k + 1, _, _, _, by omega, by go_num, rfl, Lib.hid (HM6.out.ext hb7)⟩
            case measure => simp [intOf]; omega
          have t0 : (z == 0) = false := beq_eq_false_iff_ne.2 k0
          have t1 : (z == 1) = false := beq_eq_false_iff_ne.2 k1
          have t2 : (z == 2) = false := beq_eq_false_iff_ne.2 k2
          go_wp2_with fail
          rw [HWB.out]
          refine (HPN.out _ HMB.out.tab).mono ?_; rintro e w4 ⟨v4, rfl, hown4, hb4⟩
          obtain ⟨a4, c9, rfl, hs4, -⟩ := hown4.sl
          rw [HMM.out] at hs4 ⊢
          have HS4 := Lib.hid hs4
          clear hown4 hs4 q0 q1 q2 q3 q4 q5 hlq
          go_wp2_with fail
          refine (HTL.out _ _ _ HS4.out).mono ?_; rintro e w5 ⟨rfl, hb5, v5, hT5⟩
          have hE5 : Ext Wb w5 := Below.trans hb4 (hb5.mono hb4.size)
          have hMo := HMB.out.ext hE5
          have hw4 : w.heap.size ≤ w4.heap.size := Nat.le_trans HMB.out.bel.size hb4.size
          have hM6 : MSt w cap w4.heap.size v5 (.slice au m cu) L w5 := ⟨hT5.mono hw4, hMo.own, fun j hj e => by
            have h1 := (HMB.out.own.lt j hj).2
            have h2 := hb4.size
            rcases e with rfl | e
            · omega
            · have := (hT5.2.1.lt j e).1; omega, hMo.bel, hMo.asc, hMo.small, hMo.good, hMo.len⟩
          have hob : OBox w5 wr.heap.size z sp x.pin.s x.pin.x st x.now := HOB0.out.ext hE5
          clear hT5 hMo
          have HM6 := Lib.hid hM6
          have HOB := Lib.hid hob
          clear hM6 hob
          obtain ⟨q0, q1, q2, q3, q4, q5⟩ := HOB.out.cells
          have hlq := heap_lt HOB.out
          have HSM2 := Lib.hid (HSAME.out w5 w4.heap.size v5 L au cu (by rw [HMM.out]; exact HM6.out))
          rw [HMM.out] at HSM2
          go_wp2_with fail
          refine HSM2.out.mono ?_; rintro e w7 ⟨rfl, hb7⟩
          go_wp2_with fail
          go_roundw
          case rel => exact ⟨k + 1, _, _, _, by omega, by go_num, rfl, Lib.hid (HM6.out.ext hb7)⟩
          case measure => simp [intOf]; omega
        · obtain rfl : k = n := by omega
          have hbel := HM.out.bel
          go_wp2_with fail
          refine (HAW.out _).mono ?_; rintro e w4 ⟨rfl, hb4⟩
          go_wp2_with fail
          go_ret
          exact ⟨rfl, hbel.trans (hb4.mono hbel.size)⟩

end Go.Proofs.YtcmeajaakdaeeaaGreatDoor
