/-
  The table's Load.
-/
import Derived.Test.YtcmeajaakdaeeaaGreatDoorRun24
import Derived.Test.YtcmeajaakdaeeaaGreatDoorRun25
namespace Go.Proofs.YtcmeajaakdaeeaaGreatDoor
open Go.RowKit

/-- What Load does. -/
def LoadP (L : List Pin) (cap : Int) (w : World) (e : Ending) (w' : World) : Prop :=
  Below w.heap.size w w' ∧ ((Tab.load L cap ≠ 0 ∧ e = .returned (.tuple #[.pointer none, .int .i64 (Tab.load L cap)])) ∨
    (Tab.load L cap = 0 ∧ e = .returned (.tuple #[.pointer (some ⟨w.heap.size, 0, none⟩), .int .i64 0]) ∧ ∃ v, TabW w.heap.size w' w.heap.size v L cap))

set_option maxHeartbeats 8000000 in
set_option maxRecDepth 100000 in
/-- Load refuses a capacity out of range, and a list that is longer than the capacity. -/
theorem tb_load_early (cap : Int) (a : Option Addr) (n c : Nat) (L : List Pin) (w : World) (h : SlN w a n c L) (hcap : (cap < 1 ∨ 1000 < cap) ∨ cap < (n : Int)) :
    Calls Tryz.prog 22 #[.slice a n c, .int .i64 cap] w (LoadP L cap w) := by
  have HN := Lib.hid (tb_new cap w)
  by_cases h1 : cap < 1 ∨ 1000 < cap
  · have hr : Tab.load L cap = 2 := by unfold Tab.load; rw [if_pos h1]
    have HN2 := Lib.hid (show Calls Tryz.prog 17 #[.int .i64 cap] w fun e w' => e = .returned (.tuple #[.pointer none, .int .i64 2]) ∧ w' = w from HN.out.mono (fun e w' hh => by unfold NewP at hh; rwa [if_pos h1] at hh))
    have HF := Lib.hid (show LoadP L cap w (.returned (.tuple #[.pointer none, .int .i64 2])) w from ⟨Below.refl _ _, .inl ⟨by rw [hr]; decide, by rw [hr]⟩⟩)
    clear hr h1 hcap
    go_enter Tryz.func22, Tryz.ntmps22
    go_wp2_with fail
    refine HN2.out.mono ?_; rintro e w1 ⟨rfl, rfl⟩
    go_wp2_with fail
    go_ret2
    exact HF.out
  · have h2 : cap < (n : Int) := by rcases hcap with e | e; exact absurd e h1; exact e
    have hr : Tab.load L cap = 11 := by unfold Tab.load; rw [if_neg h1, h.len, if_pos h2]
    have HN2 := Lib.hid (show Calls Tryz.prog 17 #[.int .i64 cap] w fun e w' => e = .returned (.tuple #[.pointer (some ⟨w.heap.size, 0, none⟩), .int .i64 0]) ∧ w' = w.alloc (.cells #[.slice none 0 0, .int .i64 cap] 57) from HN.out.mono (fun e w' hh => by unfold NewP at hh; rwa [if_neg h1] at hh))
    have HF := Lib.hid (show LoadP L cap w (.returned (.tuple #[.pointer none, .int .i64 11])) (w.alloc (.cells #[.slice none 0 0, .int .i64 cap] 57)) from ⟨(Below.refl _ _).alloc (Nat.le_refl _) _, .inl ⟨by rw [hr]; decide, by rw [hr]⟩⟩)
    clear hr h1 hcap
    go_enter Tryz.func22, Tryz.ntmps22
    go_wp2_with fail
    refine HN2.out.mono ?_; rintro e w1 ⟨rfl, rfl⟩
    go_wp2_with fail
    go_ret2
    exact HF.out

set_option maxHeartbeats 8000000 in
set_option maxRecDepth 100000 in
theorem tb_load (cap : Int) (a : Option Addr) (n c : Nat) (L : List Pin) (w : World) (h : SlN w a n c L) (hn : n ≤ 1000000) (hL : ∀ p ∈ L, p.h.length ≤ 1000000) :
    Calls Tryz.prog 22 #[.slice a n c, .int .i64 cap] w (LoadP L cap w) := by
  by_cases hearly : (cap < 1 ∨ 1000 < cap) ∨ cap < (n : Int)
  · exact tb_load_early cap a n c L w h hearly
  have h1 : ¬ (cap < 1 ∨ 1000 < cap) := fun e => hearly (.inl e)
  have g3 : ¬ cap < (n : Int) := fun e => hearly (.inr e)
  clear hearly
  have hN := (tb_new cap w).mono (R' := fun e w' => e = .returned (.tuple #[.pointer (some ⟨w.heap.size, 0, none⟩), .int .i64 0]) ∧ w' = w.alloc (.cells #[.slice none 0 0, .int .i64 cap] 57)) (fun e w' hh => by unfold NewP at hh; rwa [if_neg h1] at hh)
  have hT := TabW.new w cap (Nat.le_refl w.heap.size)
  have hB1 := (Below.refl w.heap.size w).alloc (Nat.le_refl _) (.cells #[.slice none 0 0, .int .i64 cap] 57)
  obtain ⟨W1, hW1⟩ : ∃ W1, w.alloc (.cells #[.slice none 0 0, .int .i64 cap] 57) = W1 := ⟨_, rfl⟩
  rw [hW1] at hN hT hB1
  have hs1 := h.ext hB1
  have hz1 : w.heap.size < W1.heap.size := by rw [← hW1]; simp
  have HLN := Lib.hid h.len
  have HL := Lib.hid hL
  have hld : Tab.load L cap = Tab.chk L (n - 0) 0 := by unfold Tab.load; rw [if_neg h1, h.len, if_neg g3, Nat.sub_zero]
  obtain ⟨r, hr⟩ : ∃ r, Tab.chk L (n - 0) 0 = r := ⟨_, rfl⟩
  rw [hr] at hld
  have HERR := Lib.hid (show ∀ W, Below W1.heap.size W1 W → ∀ z, r = z → z ≠ 0 → LoadP L cap w (.returned (.tuple #[.pointer none, .int .i64 z])) W from fun W hb z hz h0 => ⟨hB1.trans (hb.mono (Nat.le_of_lt hz1)), .inl ⟨by rw [hld, hz]; exact h0, by rw [hld, hz]⟩⟩)
  have HFIN := Lib.hid (show ∀ W W2 v, Below W1.heap.size W1 W → Below W.heap.size W W2 → OwnN W.heap.size W2 v L → r = 0 → LoadP L cap w (.returned (.tuple #[.pointer (some ⟨w.heap.size, 0, none⟩), .int .i64 0])) (W2.setCell ⟨w.heap.size, 0, none⟩ v) from fun W W2 v hb hb2 ho h0 => by
    have hbb := hb.trans (hb2.mono hb.size)
    have hT2 := hT.ext hbb
    have hle := hb.size
    refine ⟨(hB1.trans (hbb.mono (Nat.le_of_lt hz1))).setCell (Nat.le_refl _) _, .inr ⟨by rw [hld, h0], rfl, v, hT2.set (ho.mono (by omega)) (fun e => by have := (ho.lt _ e).1; omega)⟩⟩)
  have HTX := Lib.hid hT
  have HS1 := Lib.hid hs1
  have HN := Lib.hid hN
  have HC0 := Lib.hid hr
  clear hr hld hL hB1 hT hs1 hN h h1 hW1 hz1
  go_enter Tryz.func22, Tryz.ntmps22
  go_wp2_with fail
  refine HN.out.mono ?_; rintro e w1 ⟨rfl, rfl⟩
  go_wp2_with fail
  go_loopw [26] (fun i wr => ∃ k : Nat, k ≤ n ∧ i = .int .i64 (k : Nat) ∧ Hid (Tab.chk L (n - k) k = r) ∧ Below w1.heap.size w1 wr) (fun i _ => n - (intOf i).toNat)
  case atStart => exact ⟨0, Nat.zero_le _, rfl, HC0, Below.refl _ _⟩
  case round =>
    obtain ⟨k, hk, rfl, HC, hB⟩ := hrel
    have i0 : (0 : Int) ≤ (k : Int) := by omega
    by_cases hlt : k < n
    · have i2 : (k : Int) < (n : Int) := by omega
      have hs := HS1.out.ext hB
      obtain ⟨bb, o, rfl, hbb, hkl, c1, c2, c3⟩ := hs.at hlt
      have hgt := List.getElem?_eq_getElem hkl
      rw [hgt, Option.getD_some] at c1 c2 c3
      have HMEM := Lib.hid (List.getElem_mem hkl)
      have hst := chk_step L (n - (k + 1)) k hgt
      rw [show n - (k + 1) + 1 = n - k by omega, HC.out] at hst
      have hprev : ∀ k', k = k' + 1 → ∃ q, L.getD (k - 1) Pin.none = q ∧ q ∈ L ∧ PinAt wr bb (o + k' * 3) q := by
        intro k' hk'
        obtain ⟨b2, o2, hbo, -, hkl2, hp2⟩ := hs.at (show k' < n by omega)
        cases hbo
        refine ⟨_, rfl, ?_, ?_⟩
        · rw [show k - 1 = k' by omega, List.getD_eq_getElem?_getD, List.getElem?_eq_getElem hkl2]; exact List.getElem_mem hkl2
        · rw [show k - 1 = k' by omega, List.getD_eq_getElem?_getD]; exact hp2
      generalize L[k] = p at *
      have HV := Lib.hid (fun W => pi_valid p (HL.out p HMEM.out) W)
      unfold pv at HV
      have hb0 := (Below.refl wr.heap.size wr).alloc (Nat.le_refl _) (.cells #[.string (str p.h), .bool p.s, .int .i64 p.x] 23)
      have hbx := PBox.new wr (str p.h) p.s p.x
      obtain ⟨sh, hsh⟩ : ∃ s, str p.h = s := ⟨_, rfl⟩
      rw [hsh] at c1 HV hb0 hbx
      cases hv : Pin.valid p with
      | false =>
        rw [hv] at HV hst
        rw [if_pos rfl] at hst
        subst hst
        have HV := Lib.hid HV.out
        have HB0 := Lib.hid hb0
        clear hprev hgt hkl hv hsh hs hb0 hbx
        go_wp2_with fail
        refine (HV.out _).mono ?_; rintro e w2 ⟨rfl, hb2⟩
        go_wp2_with fail
        go_ret2
        exact HERR.out _ ((hB.trans (HB0.out.mono hB.size)).trans (hb2.mono (Nat.le_trans hB.size HB0.out.size))) _ rfl (by decide)
      | true =>
        rw [hv] at HV hst
        rw [if_neg (by decide)] at hst
        have HV := Lib.hid HV.out
        by_cases hk0 : k = 0
        · rw [if_neg (by omega)] at hst
          have HST := Lib.hid hst
          have t0 : decide (0 < k) = false := by apply decide_eq_false; omega
          have HB0 := Lib.hid hb0
          clear hprev hgt hkl hv hsh hs hst hk0 hb0 hbx
          go_wp2_with fail
          refine (HV.out _).mono ?_; rintro e w2 ⟨rfl, hb2⟩
          go_wp2_with fail
          go_quiet (fail)
          go_wp2_with fail
          go_roundw
          case rel => exact ⟨k + 1, by omega, by go_num, Lib.hid HST.out.symm, ((hB.trans (HB0.out.mono hB.size)).trans (hb2.mono (Nat.le_trans hB.size HB0.out.size))).trans (below_drewN' _ _ _)⟩
          case measure => simp [intOf]; omega
        · obtain ⟨k', hk'⟩ : ∃ k', k = k' + 1 := ⟨k - 1, by omega⟩
          obtain ⟨q, hq, hqm, hqa⟩ := hprev k' hk'
          subst hk'
          rw [hq] at hst
          have HCMP := Lib.hid (fun W => pn_compare q.h p.h (HL.out q hqm) (HL.out p HMEM.out) W)
          obtain ⟨z, hz⟩ : ∃ z, Host.cmp q.h p.h = z := ⟨_, rfl⟩
          rw [hz] at HCMP hst
          have wk : IntKind.i64.wrap (k' : Int) = (k' : Int) := by rw [IntKind.wrap_i64]; omega
          have k0 : (0 : Int) ≤ (k' : Int) := by omega
          have k1 : (k' : Int) < (n : Int) := by omega
          have i3 : (0 : Int) ≤ (k' : Int) + 1 := by omega
          have i4 : (k' : Int) + 1 < (n : Int) := by omega
          have t0 : decide (0 < k' + 1) = true := by apply decide_eq_true; omega
          obtain ⟨d1, -, -⟩ := hqa
          obtain ⟨sq, hsq⟩ : ∃ s, str q.h = s := ⟨_, rfl⟩
          rw [hsh] at HCMP
          rw [hsq] at d1 HCMP
          have hz0 : (wr.alloc (.cells #[.string sh, .bool p.s, .int .i64 p.x] 23)).heap.size = wr.heap.size + 1 := by simp
          have HZ0 := Lib.hid hz0
          have HCL := Lib.hid (show ∀ w', Below (wr.heap.size + 1) (wr.alloc (.cells #[.string sh, .bool p.s, .int .i64 p.x] 23)) w' → w'.cell? ⟨wr.heap.size, 0, none⟩ = some (.string sh) ∧ w'.cell? ⟨bb, o + k' * 3, none⟩ = some (.string sq) ∧ wr.heap.size < w'.heap.size from fun w' hb => by
            have hP : PBox w' wr.heap.size sh p.s p.x := (hb.block _ (Nat.lt_succ_self _)).trans hbx
            exact ⟨hP.cells.1, ((hb0.trans (hb.mono (Nat.le_succ _))).cell (p := ⟨bb, o + k' * 3, none⟩) hbb).trans d1, heap_lt hP⟩)
          have HST := Lib.hid hst
          have HB0 := Lib.hid hb0
          clear hprev hgt hkl hv hsh hsq hs hst hz hq hqm hk0 hb0 hbx hz0
          go_wp2_with fail
          refine (HV.out _).mono ?_; rintro e w2 ⟨rfl, hb2⟩
          rw [HZ0.out] at hb2
          obtain ⟨e1, f1, l1⟩ := HCL.out _ hb2
          have hbb2 : bb < w2.heap.size := by omega
          have HCL2 := Lib.hid (show ∀ w', Ext w2 w' → Ext w2 w' ∧ w'.cell? ⟨wr.heap.size, 0, none⟩ = some (.string sh) ∧ w'.cell? ⟨bb, o + k' * 3, none⟩ = some (.string sq) ∧ wr.heap.size < w'.heap.size from fun w' he => ⟨he, HCL.out _ (hb2.trans (Below.mono he l1))⟩)
          go_wp2_with fail
          go_region_held3 (fun w' => Ext w2 w' ∧ w'.cell? ⟨wr.heap.size, 0, none⟩ = some (.string sh) ∧ w'.cell? ⟨bb, o + k' * 3, none⟩ = some (.string sq) ∧ wr.heap.size < w'.heap.size) (first | assumption | exact HCL2.out _ (Ext.drew (Ext.refl _)) | exact HCL2.out _ (Ext.step (by assumption) (And.left (by assumption)))) (first | (go_at_call 38; go_must (refine (HCMP.out _).mono ?_); rintro e w9 ⟨rfl, hb9⟩))
          all_goals
            have hfin : Ext w2 _ := And.left (by assumption)
            have hBf := (((hB.trans (HB0.out.mono hB.size)).trans (hb2.mono (by have := hB.size; omega)))).trans (Below.mono hfin (by have := hB.size; omega))
            by_cases hz0 : 0 ≤ z
            · have hr8 : r = 8 := by rw [HST.out, if_pos ⟨by omega, hz0⟩]
              go_wp2_with fail
              go_ret2
              exact HERR.out _ hBf _ hr8 (by decide)
            · have HRS := Lib.hid (show Tab.chk L (n - (k' + 1 + 1)) (k' + 1 + 1) = r by rw [HST.out, if_neg (fun e => hz0 e.2)])
              go_wp2_with fail
              go_roundw
              case rel => exact ⟨k' + 1 + 1, by omega, by go_num, HRS, hBf⟩
              case measure => simp [intOf]; omega
    · obtain rfl : k = n := by omega
      have hr0 : r = 0 := by rw [← HC.out, Nat.sub_self]; rfl
      have HR0 := Lib.hid hr0
      have HCLN := Lib.hid (sl_clone_pins a k c L wr (HS1.out.ext hB) hn)
      have hT2 := HTX.out.ext hB
      have HLEN := Lib.hid hT2
      clear hr0 hT2
      go_wp2_with fail
      refine HCLN.out.mono ?_; rintro e w2 ⟨v, rfl, ho, hb2⟩
      have hT3 := HLEN.out.ext hb2
      obtain ⟨c0, -⟩ := hT3.cells
      have f0 := hT3.free 0
      have hlt3 := hT3.lt
      have HO := Lib.hid ho
      obtain ⟨a5, k5, hv5, -, -⟩ := ho.sl
      have HFF := Lib.hid (HFIN.out _ _ _ hB hb2 ho HR0.out)
      clear hT3 ho
      subst hv5
      go_wp2_with fail
      go_ret2
      exact HFF.out

end Go.Proofs.YtcmeajaakdaeeaaGreatDoor
