/-
  The walks of the statements on frames: awake, FrameEncodeMatchesSpec, FrameDecodeMatchesSpec, FrameScanMatchesSpec.
-/
import Derived.Test.YtolagcnndepjbaaFrame4
namespace Go.Proofs.Ytolagcnndepjbaa
open Go.RowKit

theorem keep_bytes_t (a b : Option Addr) (n m c d : Nat) (l : List UInt8) (w : World) (h : SlB w a n c l) (h' : SlB w b m d l) :
    Calls Try.prog 20 #[.slice a n c, .slice b m d] w fun e w' => e = .returned (.bool true) ∧ w = w' := by
  have := keep_bytes a b n m c d l l w h h'
  rw [beq_self_eq_true] at this; exact this
theorem keep_lists_t (a b : Option Addr) (n m c d : Nat) (ls : List (List UInt8)) (w : World) (h : SlL w a n c ls) (h' : SlL w b m d ls) :
    Calls Try.prog 35 #[.slice a n c, .slice b m d] w fun e w' => e = .returned (.bool true) ∧ Below w.heap.size w w' := by
  have := keep_lists a b n m c d ls ls w h h'
  rw [beq_self_eq_true] at this; exact this

theorem SlB.nil (w : World) : SlB w none 0 0 [] := ⟨rfl, Nat.le_refl _, by unfold maxLen; omega, fun _ => ⟨rfl, rfl⟩, fun x hx => by cases hx⟩

theorem fawake_len : (Frame.enc 1 0 [120]).length = 15 := by rw [Frame.enc_length]; rfl
theorem fawake_scan : Frame.scan (Frame.enc 1 0 [120] ++ [0, 0, 0]) 1 = ([[120]], 15) := by decide +kernel
theorem fawake_dec : Frame.dec (List.replicate 14 0) 0 0 = ([], 0, 7) := by decide +kernel
theorem fawake_size : Frame.size 1 = 15 := rfl

set_option maxHeartbeats 4000000 in
set_option maxRecDepth 100000 in
theorem fr_awake (w : World) : Calls Try.prog 25 #[] w fun e w' => e = .returned (.bool true) ∧ Below w.heap.size w w' := by
  have h1 := fun a c w h => fr_encode_ok 1 0 (by decide) (by decide) a 1 c [120] w h (by decide)
  have h2 := fun a n c w h hn => fr_scan a n c (Frame.enc 1 0 [120] ++ [0, 0, 0]) 1 (by decide) w h hn
  have h3 := fun a n c w h => fr_decode_at a n c (List.replicate 14 0) 0 0 (by decide) (by decide) w h [] 0 7 fawake_dec
  have h4 := fun w => fr_size 1 (by decide) (by decide) w
  have hlen := fawake_len
  unfold ScanPost at h2
  rw [fawake_scan] at h2
  rw [fawake_size] at h4
  generalize Frame.enc 1 0 [120] = E at *
  have H1 := Lib.hid h1; have H2 := Lib.hid h2; have H3 := Lib.hid h3; have H4 := Lib.hid h4; have HLEN := Lib.hid hlen
  clear h1 h2 h3 h4 hlen
  obtain ⟨i0, hi, hz0, hz1, hz2⟩ := info_parts info5
  go_enter Try.func25, Try.ntmps25
  go_wp2_with fail
  refine (H1.out _ _ _ (SlB.built _ _ _ _ _ _ _ rfl rfl (by decide) (by simp))).mono ?_; rintro e w1 ⟨v1, rfl, hO1, hb1⟩
  have hw1 : Below w.heap.size w w1 := ((Below.refl _ _).alloc (Nat.le_refl _) _).trans (hb1.mono (by simp))
  have hO1' := hO1.mono (show w.heap.size ≤ _ by simp)
  clear hO1 hb1
  have hz : SlB (w1.alloc (.cells #[.int .u8 0, .int .u8 0, .int .u8 0] 5)) (some ⟨w1.heap.size, 0, none⟩) 3 3 [0, 0, 0] := SlB.built _ _ _ _ _ _ _ rfl rfl (by decide) rfl
  have HZ := Lib.hid hz
  clear hz
  have hsz1 := hw1.size
  go_wp2_with (at_builtin; go_must (refine wpList_append_bytes rfl _ _ rfl w.heap.size _ E rfl (hO1'.alloc _) (some ⟨w1.heap.size, 0, none⟩) 3 3 [0, 0, 0] rfl HZ.out (by rw [HLEN.out]; omega) (by simp; omega) ?_); intro v2 w2 hO2 hg2 _)
  have hw2 := (hw1.alloc hsz1 (.cells #[.int .u8 0, .int .u8 0, .int .u8 0] 5)).grown hg2 (by simp; omega) (fun k hk => (hO1'.lt k hk).1)
  obtain ⟨a1, c1, rfl, -, -⟩ := id hO1'.sl
  obtain ⟨a2, c2, rfl, hs2, -⟩ := id hO2.sl
  have hE18 : (E ++ [0, 0, 0]).length = 18 := by rw [List.length_append, HLEN.out]; rfl
  rw [hE18] at hs2
  rw [HLEN.out, hE18]
  clear hO1' hO2 hg2 hw1 hE18
  refine (H2.out _ _ _ _ hs2 (by omega)).mono ?_; rintro e w3 ⟨v3, rfl, hO3, hb3⟩
  have hw3 := hw2.trans (Below.mono hb3 hw2.size)
  obtain ⟨a3, c3, rfl, -⟩ := id hO3.sl
  clear hs2 hO3 hb3 hw2
  go_wp2_with (refine wpList_make_full _ rfl _ _ 26 rfl w3.heap.size 5 i0 (.int .u8 0) 1 Try.underlying26 hi hz0 hz1 .i64 .i64 14 14 14 rfl rfl rfl rfl (by rw [hz2]; omega) (by unfold maxLen; omega) (by simp) ?_; intro w4 hown hg4)
  rw [show madeCells (Value.int .u8 0).cells (14 * 1) = madeCells #[.int .u8 0] 14 from rfl, toList_madeCells_one] at hown
  have hO4 : OwnB w3.heap.size w4 (.slice (some ⟨w3.heap.size, 0, none⟩) 14 14) (List.replicate 14 0) := by
    unfold OwnB
    rw [List.length_replicate, List.map_replicate]; exact hown
  have hw4 := hw3.grown hg4 hw3.size (fun k hk => by cases hk)
  obtain ⟨a4, c4, e4, hs4, -⟩ := id hO4.sl
  rw [List.length_replicate] at e4 hs4
  injection e4 with e41 e42 e43
  subst e41; subst e43
  clear hown hg4 hO4 e42 hw3
  go_wp2_with fail
  refine (H3.out _ _ _ _ hs4).mono ?_; rintro e w5 ⟨v5, rfl, -, hb5⟩
  have hw5 := hw4.trans (Below.mono hb5 hw4.size)
  go_wp2_with fail
  refine (H4.out _).mono ?_; rintro e w6 ⟨rfl, rfl⟩
  go_wp2_with fail
  go_ret
  exact ⟨rfl, hw5⟩

set_option maxHeartbeats 4000000 in
set_option maxRecDepth 100000 in
theorem fencode_law (ep sq : Nat) (a : Option Addr) (n c : Nat) (l : List UInt8) (w : World) (he : ep < 4294967296) (hs : sq < 4294967296) (h : SlB w a n c l) :
    Calls Try.prog 8 #[.int .u32 ep, .int .u32 sq, .slice a n c] w fun e w' => e = .returned (.bool true) ∧ Below w.heap.size w w' := by
  have hle := h.le
  by_cases hn : 2000 < n
  · have ht : (2000 : Int) < (n : Int) := by omega
    go_enter Try.func8, Try.ntmps8
    go_wp2_with fail
    refine (fr_awake _).mono ?_; rintro e w1 ⟨rfl, hb1⟩
    go_wp2_with fail
    go_ret
    exact ⟨rfl, hb1⟩
  have ht : ¬ (2000 : Int) < (n : Int) := by omega
  have HLN := Lib.hid h.len
  by_cases hm : 1024 < n
  all_goals
    go_enter Try.func8, Try.ntmps8
    go_wp2_with fail
    refine (keep_own _ _ _ _ _ h (by omega)).mono ?_; rintro e w1 ⟨v1, rfl, hO1, hb1⟩
    obtain ⟨a1, c1, rfl, hs1, -⟩ := id hO1.sl
    rw [HLN.out] at hs1 ⊢
    have h1 := h.ext hb1
    have hw1 := hb1
    clear hb1 hO1
    go_wp2_with fail
  · refine (fr_encode_long ep sq _ _ _ _ hm (by omega)).mono ?_; rintro e w2 ⟨rfl, rfl⟩
    go_wp2_with fail
    refine (fref_encode_long ep sq _ _ _ _ hm (by omega)).mono ?_; rintro e w3 ⟨rfl, rfl⟩
    go_wp2_with fail
    refine (keep_bytes_t _ _ _ _ _ _ [] _ (SlB.nil _) (SlB.nil _)).mono ?_; rintro e w4 ⟨rfl, rfl⟩
    go_wp2_with fail
    refine (keep_bytes_t _ _ _ _ _ _ l _ hs1 h1).mono ?_; rintro e w4 ⟨rfl, rfl⟩
    go_wp2_with fail
    refine (fr_size _ (by omega) (by omega) _).mono ?_; rintro e w5 ⟨rfl, rfl⟩
    go_wp2_with fail
    refine (fref_size _ (by omega) (by omega) _).mono ?_; rintro e w5 ⟨rfl, rfl⟩
    go_wp2_with fail
    refine (fr_size _ (by omega) (by omega) _).mono ?_; rintro e w5 ⟨rfl, rfl⟩
    go_wp2_with fail
    refine (fref_size _ (by omega) (by omega) _).mono ?_; rintro e w5 ⟨rfl, rfl⟩
    go_wp2_with fail
    refine (fr_awake _).mono ?_; rintro e w6 ⟨rfl, hb6⟩
    go_wp2_with fail
    go_ret
    exact ⟨rfl, hw1.trans (Below.mono hb6 hw1.size)⟩
  · refine (fr_encode_ok ep sq he hs _ _ _ _ _ hs1 (by omega)).mono ?_; rintro e w2 ⟨v2, rfl, hO2, hb2⟩
    obtain ⟨a2, c2, rfl, hs2, -⟩ := id hO2.sl
    have hx2 := hs1.ext hb2
    have h2 := h1.ext hb2
    have hw2 := hw1.trans (Below.mono hb2 hw1.size)
    clear hO2 hb2 h1 hs1 hw1
    go_wp2_with fail
    refine (fref_encode_ok ep sq he hs _ _ _ _ _ h2 (by omega)).mono ?_; rintro e w3 ⟨v3, rfl, hO3, hb3⟩
    obtain ⟨a3, c3, rfl, hs3, -⟩ := id hO3.sl
    have hx3 := hx2.ext hb3
    have h3 := h2.ext hb3
    have hy3 := hs2.ext hb3
    have hw3 := hw2.trans (Below.mono hb3 hw2.size)
    clear hO3 hb3 h2 hs2 hx2 hw2
    go_wp2_with fail
    refine (keep_bytes_t _ _ _ _ _ _ _ _ hy3 hs3).mono ?_; rintro e w4 ⟨rfl, rfl⟩
    go_wp2_with fail
    refine (keep_bytes_t _ _ _ _ _ _ l _ hx3 h3).mono ?_; rintro e w4 ⟨rfl, rfl⟩
    go_wp2_with fail
    refine (fr_size _ (by omega) (by omega) _).mono ?_; rintro e w5 ⟨rfl, rfl⟩
    go_wp2_with fail
    refine (fref_size _ (by omega) (by omega) _).mono ?_; rintro e w5 ⟨rfl, rfl⟩
    go_wp2_with fail
    refine (fr_size _ (by omega) (by omega) _).mono ?_; rintro e w5 ⟨rfl, rfl⟩
    go_wp2_with fail
    refine (fref_size _ (by omega) (by omega) _).mono ?_; rintro e w5 ⟨rfl, rfl⟩
    go_wp2_with fail
    refine (fr_awake _).mono ?_; rintro e w6 ⟨rfl, hb6⟩
    go_wp2_with fail
    go_ret
    exact ⟨rfl, hw3.trans (Below.mono hb6 hw3.size)⟩

set_option maxHeartbeats 4000000 in
set_option maxRecDepth 100000 in
theorem fdecode_law (a : Option Addr) (n c : Nat) (l : List UInt8) (ep sq : Nat) (w : World) (h : SlB w a n c l) (he : ep < 4294967296) (hs : sq < 4294967296) :
    Calls Try.prog 9 #[.slice a n c, .int .u32 ep, .int .u32 sq] w fun e w' => e = .returned (.bool true) ∧ Below w.heap.size w w' := by
  have hle := h.le
  by_cases hn : 3000 < n
  · have ht : (3000 : Int) < (n : Int) := by omega
    go_enter Try.func9, Try.ntmps9
    go_wp2_with fail
    refine (fr_awake _).mono ?_; rintro e w1 ⟨rfl, hb1⟩
    go_wp2_with fail
    go_ret
    exact ⟨rfl, hb1⟩
  have ht : ¬ (3000 : Int) < (n : Int) := by omega
  obtain ⟨⟨p, m, er⟩, hd⟩ : ∃ r, Frame.dec l ep sq = r := ⟨_, rfl⟩
  have H1 := Lib.hid (fun w h => fr_decode_at a n c l ep sq he hs w h p m er hd)
  have H2 := Lib.hid (fun w h => fref_decode_at a n c l ep sq he hs w h p m er hd)
  clear hd
  go_enter Try.func9, Try.ntmps9
  go_wp2_with fail
  refine (H1.out _ h).mono ?_; rintro e w1 ⟨v1, rfl, hO1, hb1⟩
  obtain ⟨a1, c1, rfl, hs1, -⟩ := id hO1.sl
  go_wp2_with fail
  refine (H2.out _ (h.ext hb1)).mono ?_; rintro e w2 ⟨v2, rfl, hO2, hb2⟩
  obtain ⟨a2, c2, rfl, hs2, -⟩ := id hO2.sl
  have hx2 := hs1.ext hb2
  have hw2 := hb1.trans (Below.mono hb2 hb1.size)
  clear hO1 hO2 hs1 hb1 hb2
  go_wp2_with fail
  refine (keep_bytes_t _ _ _ _ _ _ _ _ hx2 hs2).mono ?_; rintro e w4 ⟨rfl, rfl⟩
  go_wp2_with fail
  refine (fr_awake _).mono ?_; rintro e w6 ⟨rfl, hb6⟩
  go_wp2_with fail
  go_ret
  exact ⟨rfl, hw2.trans (Below.mono hb6 hw2.size)⟩

set_option maxHeartbeats 4000000 in
set_option maxRecDepth 100000 in
theorem fscan_law (a : Option Addr) (n c : Nat) (l : List UInt8) (ep : Nat) (w : World) (h : SlB w a n c l) (he : ep < 4294967296) :
    Calls Try.prog 10 #[.slice a n c, .int .u32 ep] w fun e w' => e = .returned (.bool true) ∧ Below w.heap.size w w' := by
  have hle := h.le
  by_cases hn : 5000 < n
  · have ht : (5000 : Int) < (n : Int) := by omega
    go_enter Try.func10, Try.ntmps10
    go_wp2_with fail
    refine (fr_awake _).mono ?_; rintro e w1 ⟨rfl, hb1⟩
    go_wp2_with fail
    go_ret
    exact ⟨rfl, hb1⟩
  have ht : ¬ (5000 : Int) < (n : Int) := by omega
  have HLN := Lib.hid h.len
  have h1 := fun a c w h => fr_scan a n c l ep he w h (by omega)
  have h2 := fun a c w h => fref_scan a n c l ep he w h (by omega)
  unfold ScanPost at h1 h2
  obtain ⟨⟨ls, m⟩, hd⟩ : ∃ r, Frame.scan l ep = r := ⟨_, rfl⟩
  rw [hd] at h1 h2
  have H1 := Lib.hid h1; have H2 := Lib.hid h2
  clear hd h1 h2
  go_enter Try.func10, Try.ntmps10
  go_wp2_with fail
  refine (keep_own _ _ _ _ _ h (by omega)).mono ?_; rintro e w1 ⟨v1, rfl, hO1, hb1⟩
  obtain ⟨a1, c1, rfl, hs1, -⟩ := id hO1.sl
  rw [HLN.out] at hs1 ⊢
  have hh1 := h.ext hb1
  go_wp2_with fail
  refine (H1.out _ _ _ hs1).mono ?_; rintro e w2 ⟨v2, rfl, hO2, hb2⟩
  obtain ⟨a2, c2, rfl, hs2⟩ := id hO2.sl
  have hx2 := hs1.ext hb2
  have hh2 := hh1.ext hb2
  have hw2 := hb1.trans (Below.mono hb2 hb1.size)
  clear hO1 hO2 hs1 hh1 hb1 hb2
  go_wp2_with fail
  refine (H2.out _ _ _ hh2).mono ?_; rintro e w3 ⟨v3, rfl, hO3, hb3⟩
  obtain ⟨a3, c3, rfl, hs3⟩ := id hO3.sl
  have hx3 := hx2.ext hb3
  have hh3 := hh2.ext hb3
  have hy3 := hs2.ext hb3
  have hw3 := hw2.trans (Below.mono hb3 hw2.size)
  clear hO3 hs2 hx2 hh2 hw2 hb3
  go_wp2_with fail
  refine (keep_lists_t _ _ _ _ _ _ _ _ hy3 hs3).mono ?_; rintro e w4 ⟨rfl, hb4⟩
  have hw4 := hw3.trans (Below.mono hb4 hw3.size)
  go_wp2_with fail
  refine (keep_bytes_t _ _ _ _ _ _ l _ (hx3.ext hb4) (hh3.ext hb4)).mono ?_; rintro e w5 ⟨rfl, rfl⟩
  go_wp2_with fail
  refine (fr_awake _).mono ?_; rintro e w6 ⟨rfl, hb6⟩
  go_wp2_with fail
  go_ret
  exact ⟨rfl, hw4.trans (Below.mono hb6 hw4.size)⟩

theorem u32_nat {x : Int} (h : (Lit.int .u32 x).wf = true) : ∃ m : Nat, x = m ∧ m < 4294967296 := by
  simp [Lit.wf, IntKind.min, IntKind.max, IntKind.signed, IntKind.bits] at h
  exact ⟨x.toNat, by omega, by omega⟩

theorem fencode_law' (ep sq : Int) (a : Option Addr) (n c : Nat) (l : List UInt8) (w : World) (he : (Lit.int .u32 ep).wf = true) (hs : (Lit.int .u32 sq).wf = true) (h : SlB w a n c l) :
    Calls Try.prog 8 #[.int .u32 ep, .int .u32 sq, .slice a n c] w fun e w' => e = .returned (.bool true) ∧ Below w.heap.size w w' := by
  obtain ⟨x, rfl, hx⟩ := u32_nat he
  obtain ⟨y, rfl, hy⟩ := u32_nat hs
  exact fencode_law x y a n c l w hx hy h
theorem fdecode_law' (a : Option Addr) (n c : Nat) (l : List UInt8) (ep sq : Int) (w : World) (h : SlB w a n c l) (he : (Lit.int .u32 ep).wf = true) (hs : (Lit.int .u32 sq).wf = true) :
    Calls Try.prog 9 #[.slice a n c, .int .u32 ep, .int .u32 sq] w fun e w' => e = .returned (.bool true) ∧ Below w.heap.size w w' := by
  obtain ⟨x, rfl, hx⟩ := u32_nat he
  obtain ⟨y, rfl, hy⟩ := u32_nat hs
  exact fdecode_law a n c l x y w h hx hy
theorem fscan_law' (a : Option Addr) (n c : Nat) (l : List UInt8) (ep : Int) (w : World) (h : SlB w a n c l) (he : (Lit.int .u32 ep).wf = true) :
    Calls Try.prog 10 #[.slice a n c, .int .u32 ep] w fun e w' => e = .returned (.bool true) ∧ Below w.heap.size w w' := by
  obtain ⟨x, rfl, hx⟩ := u32_nat he
  exact fscan_law a n c l x w h hx

end Go.Proofs.Ytolagcnndepjbaa
