/-
  The walks of PinCompareMatchesSpec and PinSubdomainsTogether; keep.Short; awake of law 22.
-/
import Derived.Test.YtcmeajaakdaeeaaDoorPinDec
import Derived.Test.YtcmeajaakdaeeaaDoorPinCmpR
namespace Go.Proofs.YtcmeajaakdaeeaaDoor
open Go.RowKit

set_option maxHeartbeats 2000000 in
set_option maxRecDepth 100000 in
theorem keep_short (m : Nat) (a : Option Addr) (n c : Nat) (l : List (List UInt8)) (w : World) (h : SlT w a n c l) :
    Calls Tryd.prog 19 #[.int .i64 (m : Nat), .slice a n c] w fun e w' => e = .returned (.bool (l.all fun x => decide (x.length ≤ m))) ∧ Below w.heap.size w w' := by
  have hle := h.le
  have HL := Lib.hid h.len
  obtain ⟨r, hr⟩ : ∃ r, r = l.all fun x => decide (x.length ≤ m) := ⟨_, rfl⟩
  rw [← hr]
  have HR := Lib.hid hr
  clear hr
  go_enter Tryd.func19, Tryd.ntmps19
  go_wp2_with fail
  go_loopw [5] (fun i wr => ∃ k : Nat, k ≤ n ∧ i = .int .i64 k ∧ Hid (∀ x ∈ l.take k, x.length ≤ m) ∧ Below w.heap.size w wr) (fun i _ => n - (intOf i).toNat)
  case atStart => exact ⟨0, Nat.zero_le _, rfl, Lib.hid (by simp), Below.refl _ _⟩
  case round =>
    obtain ⟨k, hk, rfl, HC, hB⟩ := hrel
    have i0 : (0 : Int) ≤ (k : Int) := by omega
    by_cases hlt : k < n
    · have i2 : (k : Int) < (n : Int) := by omega
      obtain ⟨bb, o, rfl, hbb, hkl, hcell⟩ := (h.ext hB).at hlt
      rw [List.getElem?_eq_getElem hkl, Option.getD_some, tv] at hcell
      have HTK := Lib.hid (List.take_succ_eq_append_getElem hkl)
      have HMEM := Lib.hid (List.getElem_mem hkl)
      generalize l[k] = p at *
      have hps := strSize p
      obtain ⟨sp, hsp⟩ : ∃ sp, str p = sp := ⟨_, rfl⟩
      rw [hsp] at hcell hps
      clear hsp hkl
      by_cases hpm : p.length ≤ m
      · have i3 : ¬ (m : Int) < (p.length : Int) := by omega
        have HNX := Lib.hid (show ∀ x ∈ l.take (k + 1), x.length ≤ m by
          rw [HTK.out]; intro x hx
          rcases List.mem_append.1 hx with hx | hx
          · exact HC.out x hx
          · simp at hx; subst hx; exact hpm)
        go_wp2_with fail
        go_roundw
        case rel => exact ⟨k + 1, by omega, by go_num, HNX, hB⟩
        case measure => simp [intOf]; omega
      · have i3 : (m : Int) < (p.length : Int) := by omega
        have hrf : r = false := by
          rw [HR.out, List.all_eq_false]; exact ⟨p, HMEM.out, by simpa using hpm⟩
        subst hrf
        go_wp2_with fail
        go_ret
        exact ⟨rfl, hB⟩
    · obtain rfl : k = n := by omega
      have hrt : r = true := by
        rw [HR.out, List.all_eq_true]; have := HC.out; rw [List.take_of_length_le (by rw [HL.out]; exact Nat.le_refl _)] at this; exact fun x hx => by simpa using this x hx
      subst hrt
      go_wp2_with fail
      go_ret
      exact ⟨rfl, hB⟩

theorem Pin.aw_a : Pin.valid ⟨[97, 46, 98], true, 5⟩ = true := by decide +kernel
theorem Pin.aw_e : Pin.enc ⟨[97, 46, 98], true, 5⟩ = [3, 97, 46, 98, 1, 5] := by decide +kernel
theorem Pin.aw_c : Host.cmp [99, 111, 109] [97, 46, 99, 111, 109] = -1 := by decide +kernel
theorem Pin.aw_d : Host.cmp [120, 46, 97, 46, 99, 111, 109] [98, 46, 99, 111, 109] = -1 := by decide +kernel
theorem Pin.aw_p : Pin.dec [3, 97, 46, 98, 1, 5] = (⟨[97, 46, 98], true, 5⟩, 6, 0) := by
  have := Pin.dec_enc Pin.aw_a []
  rw [Pin.aw_e] at this
  simpa using this

set_option maxHeartbeats 4000000 in
set_option maxRecDepth 100000 in
theorem pin_awake (w : World) : Calls Tryd.prog 10 #[] w fun e w' => e = .returned (.bool true) ∧ Below w.heap.size w w' := by
  have h1 := fun W => pi_encode ⟨[97, 46, 98], true, 5⟩ (by decide) W
  have h2 := fun a n c W h => pi_decode a n c [3, 97, 46, 98, 1, 5] W h
  have h3 := fun W => pn_compare [99, 111, 109] [97, 46, 99, 111, 109] (by decide) (by decide) W
  have h4 := fun W => pn_compare [120, 46, 97, 46, 99, 111, 109] [98, 46, 99, 111, 109] (by decide) (by decide) W
  have h5 := fun W => pi_valid ⟨[97, 46, 98], true, 5⟩ (by decide) W
  unfold PEncP at h1
  unfold PDecP at h2
  rw [Pin.aw_a, Pin.aw_e, if_pos rfl, if_pos rfl] at h1
  rw [Pin.aw_p] at h2
  rw [Pin.aw_c] at h3
  rw [Pin.aw_d] at h4
  rw [Pin.aw_a] at h5
  unfold pv at h1 h2 h5
  simp only at h1 h2 h5
  have hs1 : (str [97, 46, 98]).toList = [97, 46, 98] := str_toList _
  have H1 := Lib.hid h1; have H2 := Lib.hid h2; have H3 := Lib.hid h3; have H4 := Lib.hid h4; have H5 := Lib.hid h5
  clear h1 h2 h3 h4 h5
  go_enter Tryd.func10, Tryd.ntmps10
  go_wp2_with fail
  refine (H1.out _).mono ?_; rintro e w1 ⟨v1, rfl, hO1, hB1⟩
  obtain ⟨a1, k1, rfl, hs1, -⟩ := hO1.sl
  have hs1 : SlB w1 a1 6 k1 [3, 97, 46, 98, 1, 5] := hs1
  have H2b := Lib.hid (H2.out a1 6 k1 w1 hs1 (by decide))
  go_wp2_with fail
  change Calls _ _ #[.slice a1 6 k1] _ _
  refine H2b.out.mono ?_; rintro e w2 ⟨rfl, hB2⟩
  have hs2 := hs1.ext hB2
  have hcv := run_conv_bytes (hs2.ext ((Below.refl w2.heap.size w2).alloc (Nat.le_refl _) (.cells #[.string (str [97, 46, 98]), .bool true, .int .i64 5] 23)))
  have hB3 := (hB1.trans (hB2.mono hB1.size)).alloc (B := w.heap.size) (Nat.le_trans hB1.size hB2.size) (.cells #[.string (str [97, 46, 98]), .bool true, .int .i64 5] 23)
  have hrow : (w2.alloc (.cells #[.string (str [97, 46, 98]), .bool true, .int .i64 5] 23)).heap[w2.heap.size]? = some (.cells #[.string (str [97, 46, 98]), .bool true, .int .i64 5] 23 (0, 0)) := heap_alloc_eq _ _ _ rfl
  have hsz3 : (w2.alloc (.cells #[.string (str [97, 46, 98]), .bool true, .int .i64 5] 23)).heap.size = w2.heap.size + 1 := by simp
  have hst6 : (str [3, 97, 46, 98, 1, 5]).toList = [3, 97, 46, 98, 1, 5] := str_toList _
  have hst3 : (str [97, 46, 98]).toList = [97, 46, 98] := str_toList _
  generalize str [3, 97, 46, 98, 1, 5] = s6 at *
  have H5b := Lib.hid H5.out
  generalize str [97, 46, 98] = s3 at *
  go_wp2_with fail
  refine (H3.out _).mono ?_; rintro e w3 ⟨rfl, hB4⟩
  rw [hsz3] at hB4
  go_wp2_with fail
  refine (H4.out _).mono ?_; rintro e w4 ⟨rfl, hB5⟩
  have hB45 := hB4.trans (hB5.mono (by have := hB4.size; rw [hsz3] at this; omega))
  have hbk := (hB45.block _ (Nat.lt_succ_self _)).trans hrow
  have c0 : w4.cell? ⟨w2.heap.size, 0, none⟩ = some (.string s3) := (cell_of_row _ _ _ _ _ _ hbk).trans rfl
  have c1 : w4.cell? ⟨w2.heap.size, 1, none⟩ = some (.bool true) := (cell_of_row _ _ _ _ _ _ hbk).trans rfl
  have c2 : w4.cell? ⟨w2.heap.size, 2, none⟩ = some (.int .i64 5) := (cell_of_row _ _ _ _ _ _ hbk).trans rfl
  have hlt := heap_lt hbk
  have hB9 := hB3.trans (hB45.mono (Nat.le_trans (Nat.le_trans hB1.size hB2.size) (Nat.le_succ _)))
  go_wp2_with fail
  refine (H5b.out _).mono ?_; rintro e w5 ⟨rfl, hB6⟩
  go_wp2_with fail
  go_ret
  exact ⟨rfl, hB9.trans (hB6.mono hB9.size)⟩

end Go.Proofs.YtcmeajaakdaeeaaDoor
