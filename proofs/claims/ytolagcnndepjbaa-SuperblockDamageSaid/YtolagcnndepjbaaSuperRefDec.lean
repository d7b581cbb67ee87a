/-
  The walk through the reference's Decode of superblocks.
-/
import Derived.Test.YtolagcnndepjbaaSuperDec
namespace Go.Proofs.Ytolagcnndepjbaa
open Go.RowKit

theorem SlB.sub {w : World} {b o n c : Nat} {l : List UInt8} (h : SlB w (some ⟨b, o, none⟩) n c l) {k m : Nat} (hk : k ≤ m) (hm : m ≤ n) : SlB w (some ⟨b, o + k, none⟩) (m - k) (c - k) ((l.take m).drop k) := (h.take hm).drop hk

theorem df_any (a : Option Addr) (n c : Nat) (l : List UInt8) (w : World) (h : SlB w a n c l) (hn : 4 ≤ n) : Calls Try.prog 40 #[.slice a n c] w fun e w' =>
    e = .returned (.tuple #[.int .u32 (Crc.unfix4 l : Nat), .int .i64 0]) ∧ Below w.heap.size w w' :=
  (ref_decode_fixed a n c l w h hn).mono fun e w' ⟨h1, k, h2⟩ => ⟨h1, by rw [h2]; exact below_drewN (Below.refl _ _) _⟩

/-- Four bytes from k on. -/
def a4 (l : List UInt8) (k : Nat) : Nat := Crc.unfix4 ((l.take (k + 4)).drop k)
theorem a4_field (l : List UInt8) (k : Nat) (h : k + 4 ≤ l.length) : Super.field l k 4 = a4 l k := by
  unfold Super.field a4
  rw [List.drop_take, show k + 4 - k = 4 by omega, Super.unle_four _ (by simp; omega)]
theorem a4_lt (l : List UInt8) (k : Nat) (h : k + 4 ≤ l.length) : a4 l k < 4294967296 := by
  rw [← a4_field l k h]
  exact Nat.lt_of_lt_of_le (Super.unle_lt _) (Nat.le_trans (Nat.pow_le_pow_right (n := 256) (by decide) (List.length_take_le _ _)) (by decide))
theorem a4_eight (l : List UInt8) (h : 14 ≤ l.length) : Super.field l 6 8 = a4 l 6 + a4 l 10 * 4294967296 := by
  rw [← a4_field l 6 (by omega), ← a4_field l 10 (by omega)]
  unfold Super.field
  have e : (l.drop 6).take 8 = (l.drop 6).take 4 ++ (l.drop 10).take 4 := by
    rw [show (8 : Nat) = 4 + 4 from rfl, List.take_add, List.drop_drop]
  rw [e, Super.unle_append, List.length_take, List.length_drop, Nat.min_eq_left (by omega), Nat.mul_comm]

set_option maxHeartbeats 2000000 in
set_option maxRecDepth 100000 in
theorem sref_decode (a : Option Addr) (n c : Nat) (l : List UInt8) (w : World) (h : SlB w a n c l) : Calls Try.prog 17 #[.slice a n c] w (DecPost l w) := by
  obtain rfl := h.len
  by_cases h64 : l.length = 64
  · have t0 : ((l.length : Int) != 64) = false := by rw [h64]; rfl
    obtain ⟨g, o, rfl, hg, _, _⟩ := h.at (show 0 < l.length by omega)
    have hc1 := h.2.1
    have hc2 : c ≤ 9223372036854775807 := by have := h.2.2.1; unfold maxLen at this; omega
    rw [h64] at hc1
    have i1 : (60 : Int) ≤ (l.length : Int) := by omega
    have i2 : (l.length : Int) ≤ (c : Int) := by omega
    have i3 : (60 : Int) ≤ (c : Int) := by omega
    have i4 : l.length ≤ 64 := by omega
    have n60 : ¬ c = 60 := by omega
    have n6 : ¬ c = 6 := by omega
    have n10 : ¬ c = 10 := by omega
    have n14 : ¬ c = 14 := by omega
    have n18 : ¬ c = 18 := by omega
    have n22 : ¬ c = 22 := by omega
    have i5 : 64 ≤ l.length := by omega
    have H64 := Lib.hid h64; clear h64
    go_enter Try.func17, Try.ntmps17
    go_wp2_with fail
    obtain ⟨W1, hW1⟩ : ∃ W1, W1 = w.alloc (.cells #[.int .u64 0, .int .i64 0, .int .u32 0, .int .i64 0, .int .u32 0] 25) := ⟨_, rfl⟩
    have hbW : Below w.heap.size w W1 := by rw [hW1]; exact (Below.refl _ _).alloc (Nat.le_refl _) _
    have hZ : SBox W1 w.heap.size Super.zero := by rw [hW1]; exact heap_alloc_eq _ _ _ rfl
    rw [← hW1]
    have hs1 := h.ext hbW
    clear hW1 h hg
    refine (df_any _ _ _ _ _ (hs1.drop (show 60 ≤ l.length by omega)) (by omega)).mono ?_; rintro e W2 ⟨rfl, hy2⟩
    have hs2 := hs1.ext hy2
    have hZ2 : SBox W2 w.heap.size Super.zero := (hy2.block _ (heap_lt hZ)).trans hZ
    have hb2 := hbW.trans (hy2.mono hbW.size)
    clear hs1 hZ hbW
    go_wp2_with fail
    refine (ref_sum _ _ _ _ _ (hs2.take (show 60 ≤ l.length by omega))).mono ?_; rintro e w9 ⟨rfl, rfl⟩
    by_cases hcrc : Crc.unfix4 (l.drop 60) = Crc.update 0 (l.take 60)
    · have t1 : (((Crc.unfix4 (l.drop 60) : Nat) : Int) != ((Crc.update 0 (l.take 60) : Nat) : Int)) = false := by rw [hcrc]; simp
      have HCRC := Lib.hid hcrc
      clear hcrc
      go_wp2_with fail
      refine (df_any _ _ _ _ _ (show SlB W2 _ 4 _ _ from hs2.sub (show 6 ≤ 10 by omega) (show 10 ≤ l.length by omega)) (by omega)).mono ?_; rintro e W3 ⟨rfl, hy3⟩
      have hs3 := hs2.ext hy3
      have hZ3 : SBox W3 w.heap.size Super.zero := (hy3.block _ (heap_lt hZ2)).trans hZ2
      have hb3 := hb2.trans (hy3.mono hb2.size)
      rw [show Crc.unfix4 ((l.take 10).drop 6) = a4 l 6 from rfl]
      have hl6 := a4_lt l 6 (by omega)
      clear hs2 hZ2 hb2
      go_wp2_with fail
      refine (df_any _ _ _ _ _ (show SlB W3 _ 4 _ _ from hs3.sub (show 10 ≤ 14 by omega) (show 14 ≤ l.length by omega)) (by omega)).mono ?_; rintro e W4 ⟨rfl, hy4⟩
      have hs4 := hs3.ext hy4
      have hZ4 : SBox W4 w.heap.size Super.zero := (hy4.block _ (heap_lt hZ3)).trans hZ3
      have hb4 := hb3.trans (hy4.mono hb3.size)
      rw [show Crc.unfix4 ((l.take 14).drop 10) = a4 l 10 from rfl]
      have hl10 := a4_lt l 10 (by omega)
      clear hs3 hZ3 hb3
      go_wp2_with fail
      refine (df_any _ _ _ _ _ (show SlB W4 _ 4 _ _ from hs4.sub (show 14 ≤ 18 by omega) (show 18 ≤ l.length by omega)) (by omega)).mono ?_; rintro e W5 ⟨rfl, hy5⟩
      have hs5 := hs4.ext hy5
      have hZ5 : SBox W5 w.heap.size Super.zero := (hy5.block _ (heap_lt hZ4)).trans hZ4
      have hb5 := hb4.trans (hy5.mono hb4.size)
      rw [show Crc.unfix4 ((l.take 18).drop 14) = a4 l 14 from rfl]
      have hl14 := a4_lt l 14 (by omega)
      clear hs4 hZ4 hb4
      go_wp2_with fail
      refine (df_any _ _ _ _ _ (show SlB W5 _ 4 _ _ from hs5.sub (show 18 ≤ 22 by omega) (show 22 ≤ l.length by omega)) (by omega)).mono ?_; rintro e W6 ⟨rfl, hy6⟩
      have hs6 := hs5.ext hy6
      have hZ6 : SBox W6 w.heap.size Super.zero := (hy6.block _ (heap_lt hZ5)).trans hZ5
      have hb6 := hb5.trans (hy6.mono hb5.size)
      rw [show Crc.unfix4 ((l.take 22).drop 18) = a4 l 18 from rfl]
      have hl18 := a4_lt l 18 (by omega)
      clear hs5 hZ5 hb5
      go_wp2_with fail
      refine (df_any _ _ _ _ _ (show SlB W6 _ 4 _ _ from hs6.sub (show 22 ≤ 26 by omega) (show 26 ≤ l.length by omega)) (by omega)).mono ?_; rintro e W7 ⟨rfl, hy7⟩
      have hs7 := hs6.ext hy7
      have hZ7 : SBox W7 w.heap.size Super.zero := (hy7.block _ (heap_lt hZ6)).trans hZ6
      have hb7 := hb6.trans (hy7.mono hb6.size)
      rw [show Crc.unfix4 ((l.take 26).drop 22) = a4 l 22 from rfl]
      have hl22 := a4_lt l 22 (by omega)
      clear hs6 hZ6 hb6
      have hfl : Super.fields l = ⟨a4 l 6 + a4 l 10 * 4294967296, ((l[5]?.getD 0).toNat : Int), a4 l 14, a4 l 18, a4 l 22⟩ := by
        unfold Super.fields
        rw [a4_eight l (by omega), a4_field l 14 (by omega), a4_field l 18 (by omega), a4_field l 22 (by omega)]
      have hfl' := Lib.hid hfl
      clear hfl
      obtain ⟨_, _, e5, hg5, k5, hc5⟩ := hs7.at (show 5 < l.length by omega)
      injection e5 with e5; injection e5 with e5 e6; subst e5; subst e6
      generalize l[5]?.getD 0 = q at *
      generalize a4 l 6 = g6 at *
      generalize a4 l 10 = g10 at *
      generalize a4 l 14 = g14 at *
      generalize a4 l 18 = g18 at *
      generalize a4 l 22 = g22 at *
      have hq8 : q.toNat < 256 := q.toNat_lt
      have j5 : (5 : Int) < (l.length : Int) := by omega
      clear k5
      go_wp2_with fail
      obtain ⟨G, hG⟩ : ∃ G, G = g6 + g10 * 4294967296 := ⟨_, rfl⟩
      have hGl : G < 18446744073709551616 := by omega
      have hGc : ((g6 : Int) + g10 * 4294967296) = (G : Int) := by rw [hG]; simp
      rw [hGc]
      have hfl := hfl'.out
      rw [← hG] at hfl
      clear hG hGc hfl'
      refine (sref_encode ⟨G, q.toNat, g14, g18, g22⟩ ⟨hGl, hl14, hl22⟩ _).mono ?_; rintro e w5 ⟨a5, n5, c5, rfl, hsl5, hb5⟩
      have hZ5 : SBox w5 w.heap.size Super.zero := (hb5.block _ (by have := heap_lt hZ7; simp; omega)).trans ((heap_alloc_lt _ _ _ (heap_lt hZ7)).trans hZ7)
      have hF5 : SBox w5 W7.heap.size ⟨G, q.toNat, g14, g18, g22⟩ := (hb5.block _ (by simp)).trans (heap_alloc_eq _ _ _ rfl)
      have hb25 : Below W7.heap.size W7 w5 := ((Below.refl _ _).alloc (Nat.le_refl _) _).trans (hb5.mono (by simp))
      have hbw5 : Below w.heap.size w w5 := hb7.trans (hb25.mono hb7.size)
      have hs5 := hs7.ext hb25
      have hdd : Super.dec l = if Super.valid (Super.fields l) = true ∧ Super.enc (Super.fields l) = l then (Super.fields l, 0) else (Super.zero, 6) := by
        unfold Super.dec; rw [if_neg (by rw [H64.out]; simp), if_neg (by rw [HCRC.out]; simp)]
      rw [hfl] at hdd
      obtain ⟨sf, hsf⟩ : ∃ sf : Super.S, sf = ⟨G, q.toNat, g14, g18, g22⟩ := ⟨_, rfl⟩
      rw [← hsf] at hdd hsl5 hF5 ⊢
      clear hsf hfl
      have k1 := run_conv_bytes hsl5
      have k2 := run_conv_bytes hs5
      by_cases hv : Super.valid sf = true
      · rw [if_pos hv] at k1 hsl5 ⊢
        by_cases he : Super.enc sf = l
        · rw [if_pos ⟨hv, he⟩] at hdd
          have t2 : (!(Super.enc sf == l)) = false := by simp [he]
          have HD := Lib.hid hdd
          have hlf := scells_size sf
          clear he hdd hsl5 hs5 hv
          go_wp2_with (first | (refine wpList_load_row rfl 25 _ rfl W7.heap.size rfl 25 (scells sf) (0, 0) _ hF5 Try.underlying25 rfl hlf ?_) | (refine wpList_store_row rfl 25 _ _ rfl w.heap.size rfl 25 (scells Super.zero) (scells sf) rfl hZ5 hlf rfl (scells_one _) ?_))
          refine bodyPost_ret (v := .tuple #[sv sf, .int .i64 0]) (sb_result (p := 2) (u := 3) rfl _ (hZ5.setRow sf) rfl) rfl ⟨by rw [HD.out], ?_⟩
          exact below_row hbw5 (Nat.le_refl _) _
        · rw [if_neg (fun h => he h.2)] at hdd
          have t2 : (!(Super.enc sf == l)) = true := by simp [he]
          have HD := Lib.hid hdd
          clear he hdd hsl5 hs5 hv
          go_wp2_with (refine wpList_store_row rfl 25 _ _ rfl w.heap.size rfl 25 (scells Super.zero) (scells Super.zero) rfl hZ5 (scells_size _) rfl (scells_one _) ?_)
          refine bodyPost_ret (v := .tuple #[sv Super.zero, .int .i64 6]) (sb_result (p := 2) (u := 3) rfl _ (hZ5.setRow Super.zero) rfl) rfl ⟨by rw [HD.out], ?_⟩
          exact below_row hbw5 (Nat.le_refl _) _
      · rw [if_neg (fun h => hv h.1)] at hdd
        rw [if_neg hv] at k1 hsl5 ⊢
        have HD := Lib.hid hdd
        clear hdd hsl5 hs5 hv
        go_wp2_with (refine wpList_store_row rfl 25 _ _ rfl w.heap.size rfl 25 (scells Super.zero) (scells Super.zero) rfl hZ5 (scells_size _) rfl (scells_one _) ?_)
        refine bodyPost_ret (v := .tuple #[sv Super.zero, .int .i64 6]) (sb_result (p := 2) (u := 3) rfl _ (hZ5.setRow Super.zero) rfl) rfl ⟨by rw [HD.out], ?_⟩
        exact below_row hbw5 (Nat.le_refl _) _
    · have t1 : (((Crc.unfix4 (l.drop 60) : Nat) : Int) != ((Crc.update 0 (l.take 60) : Nat) : Int)) = true := by rw [bne_iff_ne]; omega
      have hd : Super.dec l = (Super.zero, 7) := by unfold Super.dec; rw [if_neg (by rw [H64.out]; simp), if_pos hcrc]
      have HD := Lib.hid hd
      clear hcrc hd
      go_wp2_with (refine wpList_store_row rfl 25 _ _ rfl w.heap.size rfl 25 (scells Super.zero) (scells Super.zero) rfl hZ2 (scells_size _) rfl (scells_one _) ?_)
      refine bodyPost_ret (v := .tuple #[sv Super.zero, .int .i64 7]) (sb_result (p := 2) (u := 3) rfl _ (hZ2.setRow Super.zero) rfl) rfl ⟨by rw [HD.out], ?_⟩
      exact below_row hb2 (Nat.le_refl _) _
  · have t0 : ((l.length : Int) != 64) = true := by rw [bne_iff_ne]; omega
    have hd : Super.dec l = (Super.zero, 5) := by unfold Super.dec; rw [if_pos h64]
    have HD := Lib.hid hd; clear hd h64
    go_enter Try.func17, Try.ntmps17
    go_wp2
    refine bodyPost_ret (v := .tuple #[sv Super.zero, .int .i64 5]) ?_ rfl ⟨by rw [HD.out], ?_⟩
    · simp [results, Try.results17, go_sem, sv, Super.zero]
    · exact (Below.refl _ _).alloc (Nat.le_refl _) _

end Go.Proofs.Ytolagcnndepjbaa
