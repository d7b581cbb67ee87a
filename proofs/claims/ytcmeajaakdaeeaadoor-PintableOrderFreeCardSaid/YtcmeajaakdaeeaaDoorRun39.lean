/-
  Texts in one: RTab, PinL1, PinRD.
-/
import Derived.Test.YtcmeajaakdaeeaaDoorRun35
import Derived.Test.YtcmeajaakdaeeaaDoorRun37
import Derived.Test.YtcmeajaakdaeeaaDoorRun38
import Derived.Test.YtcmeajaakdaeeaaDoorRun36
/-
  The reference's check of a list of pins (hstsstoreref23.Load).
-/
namespace Go.Proofs.YtcmeajaakdaeeaaDoor
open Go.RowKit

theorem chk_step (L : List Pin) (m k : Nat) {p : Pin} (h : L[k]? = some p) : Tab.chk L (m + 1) k = if Pin.valid p = false then 1 else if 0 < k ∧ 0 ≤ Host.cmp (L.getD (k - 1) Pin.none).h p.h then 8 else Tab.chk L m (k + 1) := by
  rw [Tab.chk, h]

set_option maxHeartbeats 8000000 in
set_option maxRecDepth 100000 in
theorem rt_load (cap : Int) (a : Option Addr) (n c : Nat) (L : List Pin) (w : World) (h : SlN w a n c L) (hn : n ≤ 1000000) (hL : ∀ p ∈ L, p.h.length ≤ 1000000) :
    Calls Tryd.prog 35 #[.slice a n c, .int .i64 cap] w fun e w' => e = .returned (.int .i64 (Tab.load L cap)) ∧ Below w.heap.size w w' := by
  have HLN := Lib.hid h.len
  have HL := Lib.hid hL
  obtain ⟨r, hr⟩ : ∃ r, Tab.load L cap = r := ⟨_, rfl⟩
  rw [hr]
  unfold Tab.load at hr
  rw [h.len] at hr
  clear hL
  by_cases h1 : cap < 1 ∨ 1000 < cap
  · rw [if_pos h1] at hr
    subst hr
    by_cases h2 : cap < 1
    · clear h1
      go_enter Tryd.func35, Tryd.ntmps35
      go_wp2_with fail
      go_ret
      exact ⟨rfl, Below.refl _ _⟩
    · have h3 : 1000 < cap := by omega
      clear h1
      go_enter Tryd.func35, Tryd.ntmps35
      go_wp2_with fail
      go_ret
      exact ⟨rfl, Below.refl _ _⟩
  rw [if_neg h1] at hr
  have g1 : ¬ cap < 1 := by omega
  have g2 : ¬ 1000 < cap := by omega
  clear h1
  by_cases h2 : cap < (n : Int)
  · rw [if_pos h2] at hr
    subst hr
    go_enter Tryd.func35, Tryd.ntmps35
    go_wp2_with fail
    go_ret
    exact ⟨rfl, Below.refl _ _⟩
  rw [if_neg h2] at hr
  have HR := Lib.hid hr
  clear hr
  go_enter Tryd.func35, Tryd.ntmps35
  go_wp2_with fail
  go_loopw [5] (fun i wr => ∃ k : Nat, k ≤ n ∧ i = .int .i64 (k : Nat) ∧ Hid (Tab.chk L (n - k) k = r) ∧ Below w.heap.size w wr) (fun i _ => n - (intOf i).toNat)
  case atStart => exact ⟨0, Nat.zero_le _, rfl, HR, Below.refl _ _⟩
  case round =>
    obtain ⟨k, hk, rfl, HC, hB⟩ := hrel
    have i0 : (0 : Int) ≤ (k : Int) := by omega
    by_cases hlt : k < n
    · have i2 : (k : Int) < (n : Int) := by omega
      have hs := h.ext hB
      obtain ⟨bb, o, rfl, hbb, hkl, c1, c2, c3⟩ := hs.at hlt
      have hgt := List.getElem?_eq_getElem hkl
      rw [hgt, Option.getD_some] at c1 c2 c3
      have HMEM := Lib.hid (List.getElem_mem hkl)
      have hst := chk_step L (n - (k + 1)) k hgt
      rw [show n - (k + 1) + 1 = n - k by omega, HC.out] at hst
      have hprev : ∀ k', k = k' + 1 → ∃ q, L.getD (k - 1) Pin.none = q ∧ q ∈ L ∧ PinAt wr bb (o + k' * 3) q := by
        intro k' hk'
        obtain ⟨b2, o2, hbo, -, hkl2, hp2⟩ := hs.at (show k' < n by omega)
        cases hbo
        refine ⟨_, rfl, ?_, ?_⟩
        · rw [show k - 1 = k' by omega, List.getD_eq_getElem?_getD, List.getElem?_eq_getElem hkl2]; exact List.getElem_mem hkl2
        · rw [show k - 1 = k' by omega, List.getD_eq_getElem?_getD]; exact hp2
      generalize L[k] = p at *
      have HV := Lib.hid (fun W => rp_valid p (HL.out p HMEM.out) W)
      unfold pv at HV
      cases hv : Pin.valid p with
      | false =>
        rw [hv] at HV hst
        rw [if_pos rfl] at hst
        subst hst
        have HV := Lib.hid HV.out
        obtain ⟨sh, hsh⟩ : ∃ s, str p.h = s := ⟨_, rfl⟩
        rw [hsh] at c1 HV
        clear hprev hgt hkl hv hsh hs
        go_wp2_with fail
        refine (HV.out _).mono ?_; rintro e w2 ⟨rfl, hb2⟩
        go_wp2_with fail
        go_ret
        exact ⟨rfl, hB.trans (hb2.mono hB.size)⟩
      | true =>
        rw [hv] at HV hst
        rw [if_neg (by decide)] at hst
        have HV := Lib.hid HV.out
        by_cases hk0 : k = 0
        · rw [if_neg (by omega)] at hst
          have HST := Lib.hid hst
          have t0 : decide (0 < k) = false := by apply decide_eq_false; omega
          obtain ⟨sh, hsh⟩ : ∃ s, str p.h = s := ⟨_, rfl⟩
          rw [hsh] at c1 HV
          clear hprev hgt hkl hv hsh hs hst hk0
          go_wp2_with fail
          refine (HV.out _).mono ?_; rintro e w2 ⟨rfl, hb2⟩
          go_wp2_with fail
          go_quiet (fail)
          go_wp2_with fail
          go_roundw
          case rel => exact ⟨k + 1, by omega, by go_num, Lib.hid HST.out.symm, (hB.trans (hb2.mono hB.size)).trans (below_drewN' _ _ _)⟩
          case measure => simp [intOf]; omega
        · obtain ⟨k', hk'⟩ : ∃ k', k = k' + 1 := ⟨k - 1, by omega⟩
          obtain ⟨q, hq, hqm, hqa⟩ := hprev k' hk'
          subst hk'
          rw [hq] at hst
          have HCMP := Lib.hid (fun W => rp_compare q.h p.h (HL.out q hqm) (HL.out p HMEM.out) W)
          obtain ⟨z, hz⟩ : ∃ z, Host.cmp q.h p.h = z := ⟨_, rfl⟩
          rw [hz] at HCMP hst
          have wk : IntKind.i64.wrap (k' : Int) = (k' : Int) := by rw [IntKind.wrap_i64]; omega
          have k0 : (0 : Int) ≤ (k' : Int) := by omega
          have k1 : (k' : Int) < (n : Int) := by omega
          have i3 : (0 : Int) ≤ (k' : Int) + 1 := by omega
          have i4 : (k' : Int) + 1 < (n : Int) := by omega
          have t0 : decide (0 < k' + 1) = true := by apply decide_eq_true; omega
          obtain ⟨d1, -, -⟩ := hqa
          obtain ⟨sh, hsh⟩ : ∃ s, str p.h = s := ⟨_, rfl⟩
          obtain ⟨sq, hsq⟩ : ∃ s, str q.h = s := ⟨_, rfl⟩
          rw [hsh] at c1 HV HCMP
          rw [hsq] at d1 HCMP
          have HCL := Lib.hid (show ∀ w', Below wr.heap.size wr w' → w'.cell? ⟨bb, o + (k' + 1) * 3, none⟩ = some (.string sh) ∧ w'.cell? ⟨bb, o + k' * 3, none⟩ = some (.string sq) from fun w' hb => ⟨(hb.cell (p := ⟨bb, o + (k' + 1) * 3, none⟩) hbb).trans c1, (hb.cell (p := ⟨bb, o + k' * 3, none⟩) hbb).trans d1⟩)
          have HST := Lib.hid hst
          clear hprev hgt hkl hv hsh hsq hs hst hz hq hqm hk0
          go_wp2_with fail
          refine (HV.out _).mono ?_; rintro e w2 ⟨rfl, hb2⟩
          obtain ⟨e1, f1⟩ := HCL.out _ hb2
          have hbb2 : bb < w2.heap.size := Nat.lt_of_lt_of_le hbb hb2.size
          have HCL2 := Lib.hid (show ∀ w', Ext w2 w' → Ext w2 w' ∧ w'.cell? ⟨bb, o + (k' + 1) * 3, none⟩ = some (.string sh) ∧ w'.cell? ⟨bb, o + k' * 3, none⟩ = some (.string sq) from fun w' he => ⟨he, HCL.out _ (hb2.trans (Below.mono he hb2.size))⟩)
          go_wp2_with fail
          go_region_held3 (fun w' => Ext w2 w' ∧ w'.cell? ⟨bb, o + (k' + 1) * 3, none⟩ = some (.string sh) ∧ w'.cell? ⟨bb, o + k' * 3, none⟩ = some (.string sq)) (first | assumption | exact HCL2.out _ (Ext.drew (Ext.refl _)) | exact HCL2.out _ (Ext.step (by assumption) (And.left (by assumption)))) (first | (go_at_call 21; go_must (refine (HCMP.out _).mono ?_); rintro e w9 ⟨rfl, hb9⟩))
          all_goals
            have hfin : Ext w2 _ := And.left (by assumption)
            have hBf := (hB.trans (hb2.mono hB.size)).trans (Below.mono hfin (hB.trans (hb2.mono hB.size)).size)
            by_cases hz0 : 0 ≤ z
            · have hr8 : r = 8 := by rw [HST.out, if_pos ⟨by omega, hz0⟩]
              subst hr8
              go_wp2_with fail
              go_ret
              exact ⟨rfl, hBf⟩
            · have HRS := Lib.hid (show Tab.chk L (n - (k' + 1 + 1)) (k' + 1 + 1) = r by rw [HST.out, if_neg (fun e => hz0 e.2)])
              go_wp2_with fail
              go_roundw
              case rel => exact ⟨k' + 1 + 1, by omega, by go_num, HRS, hBf⟩
              case measure => simp [intOf]; omega
    · obtain rfl : k = n := by omega
      have hr0 : r = 0 := by rw [← HC.out, Nat.sub_self]; rfl
      subst hr0
      go_wp2_with fail
      go_ret
      exact ⟨rfl, hB⟩

end Go.Proofs.YtcmeajaakdaeeaaDoor

/-
  The walks of PinCompareMatchesSpec and PinSubdomainsTogether; keep.Short; awake of law 22.
-/
namespace Go.Proofs.YtcmeajaakdaeeaaDoor
open Go.RowKit

set_option maxHeartbeats 2000000 in
set_option maxRecDepth 100000 in
theorem keep_short (m : Nat) (a : Option Addr) (n c : Nat) (l : List (List UInt8)) (w : World) (h : SlT w a n c l) :
    Calls Tryd.prog 19 #[.int .i64 (m : Nat), .slice a n c] w fun e w' => e = .returned (.bool (l.all fun x => decide (x.length ≤ m))) ∧ Below w.heap.size w w' := by
  have hle := h.le
  have HL := Lib.hid h.len
  obtain ⟨r, hr⟩ : ∃ r, r = l.all fun x => decide (x.length ≤ m) := ⟨_, rfl⟩
  rw [← hr]
  have HR := Lib.hid hr
  clear hr
  go_enter Tryd.func19, Tryd.ntmps19
  go_wp2_with fail
  go_loopw [5] (fun i wr => ∃ k : Nat, k ≤ n ∧ i = .int .i64 k ∧ Hid (∀ x ∈ l.take k, x.length ≤ m) ∧ Below w.heap.size w wr) (fun i _ => n - (intOf i).toNat)
  case atStart => exact ⟨0, Nat.zero_le _, rfl, Lib.hid (by simp), Below.refl _ _⟩
  case round =>
    obtain ⟨k, hk, rfl, HC, hB⟩ := hrel
    have i0 : (0 : Int) ≤ (k : Int) := by omega
    by_cases hlt : k < n
    · have i2 : (k : Int) < (n : Int) := by omega
      obtain ⟨bb, o, rfl, hbb, hkl, hcell⟩ := (h.ext hB).at hlt
      rw [List.getElem?_eq_getElem hkl, Option.getD_some, tv] at hcell
      have HTK := Lib.hid (List.take_succ_eq_append_getElem hkl)
      have HMEM := Lib.hid (List.getElem_mem hkl)
      generalize l[k] = p at *
      have hps := strSize p
      obtain ⟨sp, hsp⟩ : ∃ sp, str p = sp := ⟨_, rfl⟩
      rw [hsp] at hcell hps
      clear hsp hkl
      by_cases hpm : p.length ≤ m
      · have i3 : ¬ (m : Int) < (p.length : Int) := by omega
        have HNX := Lib.hid (show ∀ x ∈ l.take (k + 1), x.length ≤ m by
          rw [HTK.out]; intro x hx
          rcases List.mem_append.1 hx with hx | hx
          · exact HC.out x hx
          · simp at hx; subst hx; exact hpm)
        go_wp2_with fail
        go_roundw
        case rel => exact ⟨k + 1, by omega, by go_num, HNX, hB⟩
        case measure => simp [intOf]; omega
      · have i3 : (m : Int) < (p.length : Int) := by omega
        have hrf : r = false := by
          rw [HR.out, List.all_eq_false]; exact ⟨p, HMEM.out, by simpa using hpm⟩
        subst hrf
        go_wp2_with fail
        go_ret
        exact ⟨rfl, hB⟩
    · obtain rfl : k = n := by omega
      have hrt : r = true := by
        rw [HR.out, List.all_eq_true]; have := HC.out; rw [List.take_of_length_le (by rw [HL.out]; exact Nat.le_refl _)] at this; exact fun x hx => by simpa using this x hx
      subst hrt
      go_wp2_with fail
      go_ret
      exact ⟨rfl, hB⟩

theorem Pin.aw_a : Pin.valid ⟨[97, 46, 98], true, 5⟩ = true := by decide +kernel
theorem Pin.aw_e : Pin.enc ⟨[97, 46, 98], true, 5⟩ = [3, 97, 46, 98, 1, 5] := by decide +kernel
theorem Pin.aw_c : Host.cmp [99, 111, 109] [97, 46, 99, 111, 109] = -1 := by decide +kernel
theorem Pin.aw_d : Host.cmp [120, 46, 97, 46, 99, 111, 109] [98, 46, 99, 111, 109] = -1 := by decide +kernel
theorem Pin.aw_p : Pin.dec [3, 97, 46, 98, 1, 5] = (⟨[97, 46, 98], true, 5⟩, 6, 0) := by
  have := Pin.dec_enc Pin.aw_a []
  rw [Pin.aw_e] at this
  simpa using this

set_option maxHeartbeats 4000000 in
set_option maxRecDepth 100000 in
theorem pin_awake (w : World) : Calls Tryd.prog 10 #[] w fun e w' => e = .returned (.bool true) ∧ Below w.heap.size w w' := by
  have h1 := fun W => pi_encode ⟨[97, 46, 98], true, 5⟩ (by decide) W
  have h2 := fun a n c W h => pi_decode a n c [3, 97, 46, 98, 1, 5] W h
  have h3 := fun W => pn_compare [99, 111, 109] [97, 46, 99, 111, 109] (by decide) (by decide) W
  have h4 := fun W => pn_compare [120, 46, 97, 46, 99, 111, 109] [98, 46, 99, 111, 109] (by decide) (by decide) W
  have h5 := fun W => pi_valid ⟨[97, 46, 98], true, 5⟩ (by decide) W
  unfold PEncP at h1
  unfold PDecP at h2
  rw [Pin.aw_a, Pin.aw_e, if_pos rfl, if_pos rfl] at h1
  rw [Pin.aw_p] at h2
  rw [Pin.aw_c] at h3
  rw [Pin.aw_d] at h4
  rw [Pin.aw_a] at h5
  unfold pv at h1 h2 h5
  simp only at h1 h2 h5
  have hs1 : (str [97, 46, 98]).toList = [97, 46, 98] := str_toList _
  have H1 := Lib.hid h1; have H2 := Lib.hid h2; have H3 := Lib.hid h3; have H4 := Lib.hid h4; have H5 := Lib.hid h5
  clear h1 h2 h3 h4 h5
  go_enter Tryd.func10, Tryd.ntmps10
  go_wp2_with fail
  refine (H1.out _).mono ?_; rintro e w1 ⟨v1, rfl, hO1, hB1⟩
  obtain ⟨a1, k1, rfl, hs1, -⟩ := hO1.sl
  have hs1 : SlB w1 a1 6 k1 [3, 97, 46, 98, 1, 5] := hs1
  have H2b := Lib.hid (H2.out a1 6 k1 w1 hs1 (by decide))
  go_wp2_with fail
  change Calls _ _ #[.slice a1 6 k1] _ _
  refine H2b.out.mono ?_; rintro e w2 ⟨rfl, hB2⟩
  have hs2 := hs1.ext hB2
  have hcv := run_conv_bytes (hs2.ext ((Below.refl w2.heap.size w2).alloc (Nat.le_refl _) (.cells #[.string (str [97, 46, 98]), .bool true, .int .i64 5] 23)))
  have hB3 := (hB1.trans (hB2.mono hB1.size)).alloc (B := w.heap.size) (Nat.le_trans hB1.size hB2.size) (.cells #[.string (str [97, 46, 98]), .bool true, .int .i64 5] 23)
  have hrow : (w2.alloc (.cells #[.string (str [97, 46, 98]), .bool true, .int .i64 5] 23)).heap[w2.heap.size]? = some (.cells #[.string (str [97, 46, 98]), .bool true, .int .i64 5] 23 (0, 0)) := heap_alloc_eq _ _ _ rfl
  have hsz3 : (w2.alloc (.cells #[.string (str [97, 46, 98]), .bool true, .int .i64 5] 23)).heap.size = w2.heap.size + 1 := by simp
  have hst6 : (str [3, 97, 46, 98, 1, 5]).toList = [3, 97, 46, 98, 1, 5] := str_toList _
  have hst3 : (str [97, 46, 98]).toList = [97, 46, 98] := str_toList _
  generalize str [3, 97, 46, 98, 1, 5] = s6 at *
  have H5b := Lib.hid H5.out
  generalize str [97, 46, 98] = s3 at *
  go_wp2_with fail
  refine (H3.out _).mono ?_; rintro e w3 ⟨rfl, hB4⟩
  rw [hsz3] at hB4
  go_wp2_with fail
  refine (H4.out _).mono ?_; rintro e w4 ⟨rfl, hB5⟩
  have hB45 := hB4.trans (hB5.mono (by have := hB4.size; rw [hsz3] at this; omega))
  have hbk := (hB45.block _ (Nat.lt_succ_self _)).trans hrow
  have c0 : w4.cell? ⟨w2.heap.size, 0, none⟩ = some (.string s3) := (cell_of_row _ _ _ _ _ _ hbk).trans rfl
  have c1 : w4.cell? ⟨w2.heap.size, 1, none⟩ = some (.bool true) := (cell_of_row _ _ _ _ _ _ hbk).trans rfl
  have c2 : w4.cell? ⟨w2.heap.size, 2, none⟩ = some (.int .i64 5) := (cell_of_row _ _ _ _ _ _ hbk).trans rfl
  have hlt := heap_lt hbk
  have hB9 := hB3.trans (hB45.mono (Nat.le_trans (Nat.le_trans hB1.size hB2.size) (Nat.le_succ _)))
  go_wp2_with fail
  refine (H5b.out _).mono ?_; rintro e w5 ⟨rfl, hB6⟩
  go_wp2_with fail
  go_ret
  exact ⟨rfl, hB9.trans (hB6.mono hB9.size)⟩

end Go.Proofs.YtcmeajaakdaeeaaDoor

/-
  The walk through the reference's Decode.
-/
namespace Go.Proofs.YtcmeajaakdaeeaaDoor
open Go.RowKit

set_option maxRecDepth 100000 in
set_option maxHeartbeats 8000000 in
theorem rp_decode (a : Option Addr) (n c : Nat) (b : List UInt8) (w : World) (h : SlB w a n c b) (hn : n ≤ 1000000) :
    Calls Tryd.prog 14 #[.slice a n c] w (PDecP b w) := by
  have hb0 := (Below.refl w.heap.size w).alloc (Nat.le_refl _) (.cells #[.string ⟨#[]⟩, .bool false, .int .i64 0] 23)
  have hz0 : (w.alloc (.cells #[.string ⟨#[]⟩, .bool false, .int .i64 0] 23)).heap.size = w.heap.size + 1 := by simp
  have HROW := Lib.hid (show (w.alloc (.cells #[.string ⟨#[]⟩, .bool false, .int .i64 0] 23)).heap[w.heap.size]? = some (.cells #[.string ⟨#[]⟩, .bool false, .int .i64 0] 23 (0, 0)) from heap_alloc_eq _ _ _ rfl)
  have hsb := h.ext ((Below.refl w.heap.size w).alloc (Nat.le_refl _) (.cells #[.string ⟨#[]⟩, .bool false, .int .i64 0] 23))
  have HB0 := Lib.hid hb0
  have HZ0 := Lib.hid hz0
  have hT := rw_decText a n c b _ hsb hn
  have hln := h.len
  obtain ⟨t, n1, z1, h1⟩ : ∃ t n1 z1, Wire.decT b = (t, n1, z1) := ⟨_, _, _, rfl⟩
  rw [h1] at hT
  dsimp only at hT
  have HTX := Lib.hid (show ∃ s, str t = s from ⟨_, rfl⟩)
  obtain ⟨st, hst⟩ := HTX.out
  have HSX := Lib.hid hst
  rw [hst] at hT
  have HT := Lib.hid hT
  clear hT hb0 hz0 h
  by_cases e1 : z1 ≠ 0
  · have HR := Lib.hid (Pin.dec_a h1 e1)
    have t1 : (z1 != 0) = true := by simpa using e1
    clear h1 e1 hln hst hsb
    go_enter Tryd.func14, Tryd.ntmps14
    go_wp2_with fail
    refine HT.out.mono ?_; rintro e w1 ⟨rfl, rfl⟩
    go_wp2_with fail
    refine bodyPost_ret (v := .tuple #[.agg #[.string ⟨#[]⟩, .bool false, .int .i64 0], .int .i64 (0 : Nat), .int .i64 z1]) (by simp [results, Tryd.results14, go_sem]) rfl (PDecP.of HR.out rfl ?_)
    exact HB0.out
  obtain rfl : z1 = 0 := by simpa using e1
  obtain ⟨-, q1, q2, q3, q4⟩ := Wire.txt_decT h1
  rw [hln] at q1
  have hn1 : n1 ≤ n := q1
  have hl1 : (b.drop n1).length = n - n1 := by rw [List.length_drop, hln]
  obtain ⟨v2, n2, z2, h2⟩ : ∃ v2 n2 z2, Wire.dec (b.drop n1) = (v2, n2, z2) := ⟨_, _, _, rfl⟩
  have hU1 : ∀ a2 c2 W, SlB W a2 (n - n1) c2 (b.drop n1) → Calls Tryd.prog 44 #[.slice a2 (n - n1) c2] W fun e w' => e = .returned (.tuple #[.int .u64 (v2 : Nat), .int .i64 (n2 : Nat), .int .i64 z2]) ∧ W = w' := by
    intro a2 c2 W hs
    have := rw_decUint a2 (n - n1) c2 (b.drop n1) W hs (by omega)
    rw [h2] at this; exact this
  have HU1 := Lib.hid hU1
  have m1 : (0 : Int) ≤ (n1 : Int) := by omega
  have m2 : (n1 : Int) ≤ (n : Int) := by omega
  clear hU1
  by_cases e2 : z2 ≠ 0
  · have HR := Lib.hid (Pin.dec_b h1 h2 e2)
    have t2 : (z2 != 0) = true := by simpa using e2
    have k0 : (n2 : Int) ≤ 1000000 := by
      have := h2
      unfold Wire.dec at this
      split at this
      · cases this; decide
      · split at this
        · cases this; decide
        · split at this
          · cases this; decide
          · split at this
            · cases this; decide
            · cases this; exact absurd rfl e2
    have k1 : (0 : Int) ≤ (n2 : Int) := by omega
    clear h1 h2 e1 e2 hln hst hl1
    go_enter Tryd.func14, Tryd.ntmps14
    go_wp2_with fail
    refine HT.out.mono ?_; rintro e w1 ⟨rfl, rfl⟩
    go_wp2_with (refine wpList_from rfl _ _ rfl rfl n1 _ rfl rfl hsb hn1 ?_; intro a2 hsa2)
    refine (HU1.out _ _ _ hsa2).mono ?_; rintro e w2 ⟨rfl, rfl⟩
    go_wp2_with fail
    refine bodyPost_ret (v := .tuple #[.agg #[.string ⟨#[]⟩, .bool false, .int .i64 0], .int .i64 (0 : Nat), .int .i64 z2]) (by simp [results, Tryd.results14, go_sem]) rfl (PDecP.of HR.out rfl ?_)
    exact HB0.out
  obtain rfl : z2 = 0 := by simpa using e2
  obtain ⟨-, r1, r2, r3, r4⟩ := Wire.enc_dec h2
  rw [hl1] at r1
  have hn12 : n1 + n2 ≤ n := by omega
  have m3 : (0 : Int) ≤ (n2 : Int) := by omega
  have m4 : (n1 : Int) + (n2 : Int) ≤ (n : Int) := by omega
  by_cases e3 : 1 < v2
  · have HR := Lib.hid (Pin.dec_c h1 h2 e3)
    have t3 : (1 : Int) < (v2 : Int) := by omega
    clear h1 h2 e1 e2 hln hst hl1
    go_enter Tryd.func14, Tryd.ntmps14
    go_wp2_with fail
    refine HT.out.mono ?_; rintro e w1 ⟨rfl, rfl⟩
    go_wp2_with (refine wpList_from rfl _ _ rfl rfl n1 _ rfl rfl hsb hn1 ?_; intro a2 hsa2)
    refine (HU1.out _ _ _ hsa2).mono ?_; rintro e w2 ⟨rfl, rfl⟩
    go_wp2_with fail
    refine bodyPost_ret (v := .tuple #[.agg #[.string ⟨#[]⟩, .bool false, .int .i64 0], .int .i64 (0 : Nat), .int .i64 6]) (by simp [results, Tryd.results14, go_sem]) rfl (PDecP.of HR.out rfl ?_)
    exact HB0.out
  have t3 : ¬ (1 : Int) < (v2 : Int) := by omega
  have hl2 : (b.drop (n1 + n2)).length = n - (n1 + n2) := by rw [List.length_drop, hln]
  obtain ⟨v3, n3, z3, h3⟩ : ∃ v3 n3 z3, Wire.dec (b.drop (n1 + n2)) = (v3, n3, z3) := ⟨_, _, _, rfl⟩
  have hU2 : ∀ a2 c2 W, SlB W a2 (n - (n1 + n2)) c2 (b.drop (n1 + n2)) → Calls Tryd.prog 44 #[.slice a2 (n - (n1 + n2)) c2] W fun e w' => e = .returned (.tuple #[.int .u64 (v3 : Nat), .int .i64 (n3 : Nat), .int .i64 z3]) ∧ W = w' := by
    intro a2 c2 W hs
    have := rw_decUint a2 (n - (n1 + n2)) c2 (b.drop (n1 + n2)) W hs (by omega)
    rw [h3] at this; exact this
  have HU2 := Lib.hid hU2
  clear hU2
  by_cases e4 : z3 ≠ 0
  · have HR := Lib.hid (Pin.dec_d h1 h2 e3 h3 e4)
    have t4 : (z3 != 0) = true := by simpa using e4
    clear h1 h2 h3 e1 e2 e4 hln hst hl1 hl2
    go_enter Tryd.func14, Tryd.ntmps14
    go_wp2_with fail
    refine HT.out.mono ?_; rintro e w1 ⟨rfl, rfl⟩
    go_wp2_with (refine wpList_from rfl _ _ rfl rfl n1 _ rfl rfl hsb hn1 ?_; intro a2 hsa2)
    refine (HU1.out _ _ _ hsa2).mono ?_; rintro e w2 ⟨rfl, rfl⟩
    go_wp2_with (refine wpList_from rfl _ _ rfl rfl (n1 + n2) _ (by omega) rfl hsb hn12 ?_; intro a3 hsa3)
    refine (HU2.out _ _ _ hsa3).mono ?_; rintro e w3 ⟨rfl, rfl⟩
    go_wp2_with fail
    refine bodyPost_ret (v := .tuple #[.agg #[.string ⟨#[]⟩, .bool false, .int .i64 0], .int .i64 (0 : Nat), .int .i64 z3]) (by simp [results, Tryd.results14, go_sem]) rfl (PDecP.of HR.out rfl ?_)
    exact HB0.out
  obtain rfl : z3 = 0 := by simpa using e4
  obtain ⟨-, s1, s2, s3, s4⟩ := Wire.enc_dec h3
  rw [hl2] at s1
  have m5 : (0 : Int) ≤ (n3 : Int) := by omega
  have m6 : (n1 : Int) + (n2 : Int) + (n3 : Int) ≤ (n : Int) := by omega
  by_cases e5 : 1099511627776 < v3
  · have HR := Lib.hid (Pin.dec_e h1 h2 e3 h3 e5)
    have t5 : (1099511627776 : Int) < (v3 : Int) := by omega
    clear h1 h2 h3 e1 e2 e4 hln hst hl1 hl2
    go_enter Tryd.func14, Tryd.ntmps14
    go_wp2_with fail
    refine HT.out.mono ?_; rintro e w1 ⟨rfl, rfl⟩
    go_wp2_with (refine wpList_from rfl _ _ rfl rfl n1 _ rfl rfl hsb hn1 ?_; intro a2 hsa2)
    refine (HU1.out _ _ _ hsa2).mono ?_; rintro e w2 ⟨rfl, rfl⟩
    go_wp2_with (refine wpList_from rfl _ _ rfl rfl (n1 + n2) _ (by omega) rfl hsb hn12 ?_; intro a3 hsa3)
    refine (HU2.out _ _ _ hsa3).mono ?_; rintro e w3 ⟨rfl, rfl⟩
    go_wp2_with fail
    refine bodyPost_ret (v := .tuple #[.agg #[.string ⟨#[]⟩, .bool false, .int .i64 0], .int .i64 (0 : Nat), .int .i64 2]) (by simp [results, Tryd.results14, go_sem]) rfl (PDecP.of HR.out rfl ?_)
    exact HB0.out
  have t5 : ¬ (1099511627776 : Int) < (v3 : Int) := by omega
  have hV := fun W => hr_validName t (by omega) W
  rw [hst] at hV
  obtain ⟨nb, hnb⟩ : ∃ b, Host.name t = b := ⟨_, rfl⟩
  rw [hnb] at hV
  have HV := Lib.hid hV
  clear hV
  cases nb with
  | false =>
    have HR := Lib.hid (Pin.dec_f h1 h2 e3 h3 e5 hnb)
    clear h1 h2 h3 e1 e2 e4 hln hst hl1 hl2 hnb
    go_enter Tryd.func14, Tryd.ntmps14
    go_wp2_with fail
    refine HT.out.mono ?_; rintro e w1 ⟨rfl, rfl⟩
    go_wp2_with (refine wpList_from rfl _ _ rfl rfl n1 _ rfl rfl hsb hn1 ?_; intro a2 hsa2)
    refine (HU1.out _ _ _ hsa2).mono ?_; rintro e w2 ⟨rfl, rfl⟩
    go_wp2_with (refine wpList_from rfl _ _ rfl rfl (n1 + n2) _ (by omega) rfl hsb hn12 ?_; intro a3 hsa3)
    refine (HU2.out _ _ _ hsa3).mono ?_; rintro e w3 ⟨rfl, rfl⟩
    go_wp2_with fail
    refine (HV.out _).mono ?_; rintro e w4 ⟨rfl, hB4⟩
    rw [HZ0.out] at hB4
    have hbk : w4.heap[w.heap.size]? = some (.cells #[.string ⟨#[]⟩, .bool false, .int .i64 0] 23 (0, 0)) := (hB4.block _ (Nat.lt_succ_self _)).trans HROW.out
    have c0 : w4.cell? ⟨w.heap.size, 0, none⟩ = some (.string ⟨#[]⟩) := (cell_of_row _ _ _ _ _ _ hbk).trans rfl
    have c1 : w4.cell? ⟨w.heap.size, 1, none⟩ = some (.bool false) := (cell_of_row _ _ _ _ _ _ hbk).trans rfl
    have c2 : w4.cell? ⟨w.heap.size, 2, none⟩ = some (.int .i64 0) := (cell_of_row _ _ _ _ _ _ hbk).trans rfl
    have f0 : ∀ k, w4.frozen? ⟨w.heap.size, k, none⟩ = false := fun k => frozen_of_row _ _ _ _ _ hbk
    have hlt4 : w.heap.size < w4.heap.size := heap_lt hbk
    go_wp2_with fail
    have hfin := set3 hbk (.string ⟨#[]⟩) (.bool false) (.int .i64 0)
    have d0 := (cell_of_row _ _ 0 _ _ _ hfin).trans rfl
    have d1 := (cell_of_row _ _ 1 _ _ _ hfin).trans rfl
    have d2 := (cell_of_row _ _ 2 _ _ _ hfin).trans rfl
    have hbel := (((HB0.out.trans (hB4.mono (Nat.le_succ _))).setCell (p := ⟨w.heap.size, 0, none⟩) (Nat.le_refl _) (.string ⟨#[]⟩)).setCell (p := ⟨w.heap.size, 1, none⟩) (Nat.le_refl _) (.bool false)).setCell (p := ⟨w.heap.size, 2, none⟩) (Nat.le_refl _) (.int .i64 0)
    refine bodyPost_ret (v := .tuple #[.agg #[.string ⟨#[]⟩, .bool false, .int .i64 0], .int .i64 (0 : Nat), .int .i64 14]) (by simp [results, Tryd.results14, go_sem, d0, d1, d2]) rfl (PDecP.of HR.out rfl ?_)
    exact hbel
  | true =>
    have HR := Lib.hid (Pin.dec_g h1 h2 e3 h3 e5 hnb)
    have wv : IntKind.i64.wrap (v3 : Int) = (v3 : Int) := by rw [IntKind.wrap_i64]; omega
    clear h1 h2 h3 e1 e2 e4 hln hl1 hl2 hnb hst
    go_enter Tryd.func14, Tryd.ntmps14
    go_wp2_with fail
    refine HT.out.mono ?_; rintro e w1 ⟨rfl, rfl⟩
    go_wp2_with (refine wpList_from rfl _ _ rfl rfl n1 _ rfl rfl hsb hn1 ?_; intro a2 hsa2)
    refine (HU1.out _ _ _ hsa2).mono ?_; rintro e w2 ⟨rfl, rfl⟩
    go_wp2_with (refine wpList_from rfl _ _ rfl rfl (n1 + n2) _ (by omega) rfl hsb hn12 ?_; intro a3 hsa3)
    refine (HU2.out _ _ _ hsa3).mono ?_; rintro e w3 ⟨rfl, rfl⟩
    go_wp2_with fail
    refine (HV.out _).mono ?_; rintro e w4 ⟨rfl, hB4⟩
    rw [HZ0.out] at hB4
    have hbk : w4.heap[w.heap.size]? = some (.cells #[.string ⟨#[]⟩, .bool false, .int .i64 0] 23 (0, 0)) := (hB4.block _ (Nat.lt_succ_self _)).trans HROW.out
    have c0 : w4.cell? ⟨w.heap.size, 0, none⟩ = some (.string ⟨#[]⟩) := (cell_of_row _ _ _ _ _ _ hbk).trans rfl
    have c1 : w4.cell? ⟨w.heap.size, 1, none⟩ = some (.bool false) := (cell_of_row _ _ _ _ _ _ hbk).trans rfl
    have c2 : w4.cell? ⟨w.heap.size, 2, none⟩ = some (.int .i64 0) := (cell_of_row _ _ _ _ _ _ hbk).trans rfl
    have f0 : ∀ k, w4.frozen? ⟨w.heap.size, k, none⟩ = false := fun k => frozen_of_row _ _ _ _ _ hbk
    have hlt4 : w.heap.size < w4.heap.size := heap_lt hbk
    go_wp2_with fail
    have hfin := set3 hbk (.string st) (.bool ((v2 : Int) == 1)) (.int .i64 (v3 : Int))
    have d0 := (cell_of_row _ _ 0 _ _ _ hfin).trans rfl
    have d1 := (cell_of_row _ _ 1 _ _ _ hfin).trans rfl
    have d2 := (cell_of_row _ _ 2 _ _ _ hfin).trans rfl
    have hbel := (((HB0.out.trans (hB4.mono (Nat.le_succ _))).setCell (p := ⟨w.heap.size, 0, none⟩) (Nat.le_refl _) (.string st)).setCell (p := ⟨w.heap.size, 1, none⟩) (Nat.le_refl _) (.bool ((v2 : Int) == 1))).setCell (p := ⟨w.heap.size, 2, none⟩) (Nat.le_refl _) (.int .i64 (v3 : Int))
    have eb : decide (v2 = 1) = ((v2 : Int) == 1) := by rw [show ((v2 : Int) == 1) = decide ((v2 : Int) = 1) from rfl]; apply decide_eq_decide.2; omega
    refine bodyPost_ret (v := .tuple #[.agg (pc ⟨t, decide (v2 = 1), (v3 : Int)⟩), .int .i64 ((n1 + n2 + n3) : Nat), .int .i64 0]) (by unfold pc; simp [results, Tryd.results14, go_sem, d0, d1, d2, HSX.out, eb]) rfl (PDecP.of HR.out rfl ?_)
    exact hbel

end Go.Proofs.YtcmeajaakdaeeaaDoor
