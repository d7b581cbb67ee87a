/-
  The law SectorLoadMatchesSpec walked.
-/
import Derived.Test.YtedmnbmfbgenjaaPair
namespace Go.Proofs.Ytedmnbmfbgenjaa
open Go.RowKit

theorem load_dirty (k : Nat) (L : List UInt8) : Disk.dirty (Disk.load k L) = [] := by
  unfold Disk.dirty Disk.load
  rw [List.filter_eq_nil_iff.2 (fun i _ => by simp only [List.getElem?_replicate]; split <;> simp)]; rfl

theorem OwnB.zero {base : Nat} {w : World} {x : Addr} {n c : Nat} {l : List UInt8} (h : OwnB base w (.slice (some x) n c) l) : OwnB base w (.slice (some x) 0 c) [] := by
  refine ⟨rfl, ?_⟩
  rcases h.2 with ⟨hn, _⟩ | ⟨g, cap, cur, hv, hb, hgg, _, hm, hs, _⟩
  · cases hn
  · cases hv
    exact .inr ⟨g, c, cur, rfl, hb, hgg, Nat.zero_le _, hm, hs, by simp⟩
def lenV : Value → Nat
  | .slice _ n _ => n
  | _ => 0

set_option maxRecDepth 100000 in
set_option maxHeartbeats 8000000 in
theorem secld_law (a : Option Addr) (n c : Nat) (l : List UInt8) (cnt : Int) (w : World) (h : SlB w a n c l) (_hi : (Lit.int .i64 cnt).wf = true) :
    Calls Try.prog 9 #[.slice a n c, .int .i64 cnt] w fun e w' => e = .returned (.bool true) ∧ Below w.heap.size w w' := by
  have HA := Lib.hid (fun W => law5_awake W)
  have hle := h.le
  have hln := h.len
  by_cases hbig : 10000 < n
  · clear h
    go_enter Try.func9, Try.ntmps9
    go_wp2_with fail
    refine (HA.out _).mono ?_; rintro e w1 ⟨rfl, hB⟩
    go_wp2_with fail
    go_ret
    exact ⟨rfl, hB⟩
  have hn : n ≤ 10000 := by omega
  clear hbig
  by_cases hr : 0 ≤ cnt ∧ cnt ≤ 100
  · obtain ⟨hr0, hr1⟩ := hr
    obtain ⟨N, rfl⟩ : ∃ N : Nat, cnt = (N : Int) := ⟨cnt.toNat, by omega⟩
    have hN : N ≤ 100 := by omega
    go_enter Try.func9, Try.ntmps9
    go_wp2_with fail
    refine (keep_own a n c l w h (by omega)).mono ?_; rintro e w0 ⟨v0, rfl, hO0, hB0⟩
    have hs0 := h.ext hB0
    have hz0 := hB0.size
    obtain ⟨a0, c0, e0, -, hf0⟩ := hO0.sl
    rw [hln] at e0
    subst e0
    obtain ⟨p0, d0, hp0, hOz⟩ : ∃ (p0 : Option Addr) (d0 : Nat), (p0 = a0 ∧ d0 = c0) ∧ OwnB w.heap.size w0 (.slice p0 0 d0) [] := by
      cases a0 with
      | none =>
        rcases hO0.2 with ⟨hv, _⟩ | ⟨g, cap, cur, hv, _⟩
        · cases hv; exact ⟨none, 0, ⟨rfl, rfl⟩, OwnB.nil _ _⟩
        · cases hv
      | some x => exact ⟨some x, c0, ⟨rfl, rfl⟩, hO0.zero⟩
    obtain ⟨rfl, rfl⟩ := hp0
    clear hO0 hf0
    have HLN := Lib.hid hln
    clear hln
    go_wp2_with ((show wpList _ _ _ (Oper.mk (some 25) _ _ _ _ _ :: _) _ _); go_must (refine wpList_append_bytes rfl _ _ rfl w.heap.size _ [] rfl hOz a n c l rfl hs0 (by simp; omega) hz0 ?_); intro v5 w5 hO5 hg5 _)
    have hB5 : Below w.heap.size w w5 := hB0.grown hg5 hz0 (fun k hk => (hOz.lt k hk).1)
    rw [List.nil_append] at hO5
    go_loopw [5] (fun v wr => ∃ L, OwnB w.heap.size wr v L ∧ L.length ≤ 10000 ∧ Below w.heap.size w wr) (fun v _ => 6400 - lenV v)
    case atStart => exact ⟨l, hO5, by rw [HLN.out]; exact hn, hB5⟩
    case round =>
      obtain ⟨L, hO, hL, hBW⟩ := hrel
      clear hO5 hB5 hg5 hOz hs0 hB0 hz0
      have hOO := hO
      obtain ⟨a5, c5, rfl, hs5, -⟩ := hO.sl
      obtain ⟨m, hm⟩ : ∃ m, m = L.length := ⟨_, rfl⟩
      rw [← hm] at hs5 hL hO hOO
      rw [← hm]
      have HM := Lib.hid hm
      clear hm
      by_cases hlt : m < 64 * N
      · have t1 : (m : Int) < 64 * (N : Int) := by omega
        have t2 : (m : Int) < (N : Int) * 64 := by omega
        have hsz := hBW.size
        obtain ⟨B, hB⟩ : ∃ B, B = UInt8.ofNat m := ⟨_, rfl⟩
        have hcv : (m : Int) % 256 = (B.toNat : Int) := by rw [hB]; simp
        have hcw : IntKind.u8.wrap (m : Int) = (B.toNat : Int) := by rw [hB]; unfold IntKind.wrap; simp [IntKind.bits, IntKind.signed]
        clear hB
        go_wp2_with ((show wpList _ _ _ (Oper.mk (some 36) _ _ _ _ _ :: _) _ _); go_must (refine wpList_append_bytes rfl _ _ rfl w.heap.size _ L rfl (hOO.alloc _) (some ⟨wr.heap.size, 0, none⟩) 1 1 [B] rfl (SlB.one _ B _) (by have := HM.out; simp; omega) (by simp; omega) ?_); intro v7 w7 hO7 hg7 _)
        have hB7 := (hBW.alloc hsz _).grown hg7 (by simp; omega) (fun k hk => (hOO.lt k hk).1)
        obtain ⟨a7, c7, rfl, -⟩ := hO7.sl
        have hm2 := HM.out
        exact ⟨⟨_, hO7, by simp; omega, hB7⟩, by simp [lenV]; omega⟩
      · have t1 : ¬ (m : Int) < 64 * (N : Int) := by omega
        have t2 : ¬ (m : Int) < (N : Int) * 64 := by omega
        clear hO hOO hlt
        have hs5l := hs5.len
        by_cases hgood : m % 64 = 0 ∧ 1 ≤ m / 64
        · obtain ⟨k, rfl⟩ : ∃ k, m = 64 * k := ⟨m / 64, by omega⟩
          have hk1 : 1 ≤ k := by omega
          have hk2 : k ≤ 4096 := by omega
          have HF := Lib.hid (And.intro (Disk.chunks_flat k L hs5l) (Disk.chunks_length k L))
          clear hgood hs5l
          go_wp2_with fail
          refine (sd_load a5 k c5 L _ hk1 hk2 _ rfl hs5).mono ?_; rintro e w1 ⟨F, g, s, mm, fa, fn, fc, rfl, hP, hF, hB1⟩
          go_wp2_with fail
          refine (rd_load a5 k c5 L _ hk1 hk2 (hs5.ext hB1)).mono ?_; rintro e w2 ⟨G, r, sb, cb, sc, rfl, -, -, hB2⟩
          have hP2 := hP.ext hB2
          have hs2 := (hs5.ext hB1).ext hB2
          have HS := Lib.hid (sd_sectors hP2)
          rw [show (Disk.load k L).st.length = k from HF.out.2] at HS
          have HI := Lib.hid (sd_image hP2)
          rw [show (Disk.load k L).st.flatten = L from HF.out.1] at HI
          have HD := Lib.hid (fun w' (e : Below w2.heap.size w2 w') => sd_dirty (hP2.ext e))
          rw [load_dirty k L] at HD
          have HO := Lib.hid (fun w' (e : Below w2.heap.size w2 w') => sd_off (hP2.ext e))
          rw [show (Disk.load k L).off = false from rfl] at HO
          have hB3 := hBW.trans ((hB1.trans (hB2.mono hB1.size)).mono hBW.size)
          clear hs5 hP hP2 hF hB1 hB2 hBW
          have hlq : ((k : Int) == (k : Int)) = true := by simp
          go_wp2_with (first
            | (go_at_call 46; go_must (refine HS.out.mono ?_); rintro e w1' ⟨rfl, rfl⟩)
            | (go_at_call 19; go_must (refine HI.out.mono ?_); rintro e w4 ⟨v4, rfl, hO4, hB4⟩; have hs4 := hs2.ext hB4; have hl4 := hs4.len; obtain ⟨a4, c4, e4, hq4, -⟩ := hO4.sl; rw [hl4] at hq4 e4; cases e4; clear hl4)
            | (go_at_call 18; go_must (refine (keep_bytes _ _ _ _ _ _ _ _ _ hq4 hs4).mono ?_); rintro e w5 ⟨rfl, rfl⟩; rw [show (L == L) = true by simp])
            | (go_at_call 43; go_must (refine (HD.out _ hB4).mono ?_); rintro e w6 ⟨v6, rfl, hO6, hB6⟩; obtain ⟨a6, c6, e6, -⟩ := hO6.sl; cases e6)
            | (go_at_call 44; go_must (refine (HO.out _ (hB4.trans (hB6.mono hB4.size))).mono ?_); rintro e w7 ⟨rfl, rfl⟩)
            | (go_at_call 20; go_must (refine (HA.out _).mono ?_); rintro e w8 ⟨rfl, hB8⟩))
          go_ret
          have hz := hB4.size
          have hz6 := hB6.size
          exact ⟨rfl, hB3.trans ((hB4.trans ((hB6.trans (hB8.mono hz6)).mono hz)).mono hB3.size)⟩
        · have hbd : m % 64 ≠ 0 ∨ m / 64 < 1 ∨ 4096 < m / 64 := by omega
          have hle5 := hs5.le
          clear hgood hs5 hs5l
          go_wp2_with fail
          refine (sd_load_bad a5 m c5 hle5 hbd _).mono ?_; rintro e w1 ⟨rfl, rfl⟩
          go_wp2_with fail
          refine (rd_load_bad a5 m c5 hle5 hbd _).mono ?_; rintro e w1 ⟨rfl, rfl⟩
          clear hbd
          go_wp2_with (go_at_call 20; go_must (refine (HA.out _).mono ?_); rintro e w8 ⟨rfl, hB8⟩)
          go_ret
          exact ⟨rfl, hBW.trans (hB8.mono hBW.size)⟩
  by_cases hneg : cnt < 0
  · have hd1 : ¬ 0 ≤ cnt := by omega
    clear hr hneg
    go_enter Try.func9, Try.ntmps9
    go_wp2_with fail
    refine (keep_own a n c l w h (by omega)).mono ?_; rintro e w0 ⟨v0, rfl, hO0, hB0⟩
    obtain ⟨a5, c5, e0, hs5, -⟩ := hO0.sl
    rw [hln] at e0 hs5
    subst e0
    have hBW := hB0
    obtain ⟨m, hm⟩ : ∃ m, m = n := ⟨_, rfl⟩
    obtain ⟨L, hL⟩ : ∃ L, L = l := ⟨_, rfl⟩
    rw [← hm, ← hL] at hs5
    rw [← hm]
    have hmb : m ≤ 10000 := by omega
    clear hO0 hB0 hm hL
    have hs5l := hs5.len
    by_cases hgood : m % 64 = 0 ∧ 1 ≤ m / 64
    · obtain ⟨k, rfl⟩ : ∃ k, m = 64 * k := ⟨m / 64, by omega⟩
      have hk1 : 1 ≤ k := by omega
      have hk2 : k ≤ 4096 := by omega
      have HF := Lib.hid (And.intro (Disk.chunks_flat k L hs5l) (Disk.chunks_length k L))
      clear hgood hs5l
      go_wp2_with fail
      refine (sd_load a5 k c5 L _ hk1 hk2 _ rfl hs5).mono ?_; rintro e w1 ⟨F, g, s, mm, fa, fn, fc, rfl, hP, hF, hB1⟩
      go_wp2_with fail
      refine (rd_load a5 k c5 L _ hk1 hk2 (hs5.ext hB1)).mono ?_; rintro e w2 ⟨G, r, sb, cb, sc, rfl, -, -, hB2⟩
      have hP2 := hP.ext hB2
      have hs2 := (hs5.ext hB1).ext hB2
      have HS := Lib.hid (sd_sectors hP2)
      rw [show (Disk.load k L).st.length = k from HF.out.2] at HS
      have HI := Lib.hid (sd_image hP2)
      rw [show (Disk.load k L).st.flatten = L from HF.out.1] at HI
      have HD := Lib.hid (fun w' (e : Below w2.heap.size w2 w') => sd_dirty (hP2.ext e))
      rw [load_dirty k L] at HD
      have HO := Lib.hid (fun w' (e : Below w2.heap.size w2 w') => sd_off (hP2.ext e))
      rw [show (Disk.load k L).off = false from rfl] at HO
      have hB3 := hBW.trans ((hB1.trans (hB2.mono hB1.size)).mono hBW.size)
      clear hs5 hP hP2 hF hB1 hB2 hBW
      have hlq : ((k : Int) == (k : Int)) = true := by simp
      go_wp2_with (first
        | (go_at_call 46; go_must (refine HS.out.mono ?_); rintro e w1' ⟨rfl, rfl⟩)
        | (go_at_call 19; go_must (refine HI.out.mono ?_); rintro e w4 ⟨v4, rfl, hO4, hB4⟩; have hs4 := hs2.ext hB4; have hl4 := hs4.len; obtain ⟨a4, c4, e4, hq4, -⟩ := hO4.sl; rw [hl4] at hq4 e4; cases e4; clear hl4)
        | (go_at_call 18; go_must (refine (keep_bytes _ _ _ _ _ _ _ _ _ hq4 hs4).mono ?_); rintro e w5 ⟨rfl, rfl⟩; rw [show (L == L) = true by simp])
        | (go_at_call 43; go_must (refine (HD.out _ hB4).mono ?_); rintro e w6 ⟨v6, rfl, hO6, hB6⟩; obtain ⟨a6, c6, e6, -⟩ := hO6.sl; cases e6)
        | (go_at_call 44; go_must (refine (HO.out _ (hB4.trans (hB6.mono hB4.size))).mono ?_); rintro e w7 ⟨rfl, rfl⟩)
        | (go_at_call 20; go_must (refine (HA.out _).mono ?_); rintro e w8 ⟨rfl, hB8⟩))
      go_ret
      have hz := hB4.size
      have hz6 := hB6.size
      exact ⟨rfl, hB3.trans ((hB4.trans ((hB6.trans (hB8.mono hz6)).mono hz)).mono hB3.size)⟩
    · have hbd : m % 64 ≠ 0 ∨ m / 64 < 1 ∨ 4096 < m / 64 := by omega
      have hle5 := hs5.le
      clear hgood hs5 hs5l
      go_wp2_with fail
      refine (sd_load_bad a5 m c5 hle5 hbd _).mono ?_; rintro e w1 ⟨rfl, rfl⟩
      go_wp2_with fail
      refine (rd_load_bad a5 m c5 hle5 hbd _).mono ?_; rintro e w1 ⟨rfl, rfl⟩
      clear hbd
      go_wp2_with (go_at_call 20; go_must (refine (HA.out _).mono ?_); rintro e w8 ⟨rfl, hB8⟩)
      go_ret
      exact ⟨rfl, hBW.trans (hB8.mono hBW.size)⟩
  · have hd1 : 0 ≤ cnt := by omega
    have hd2 : ¬ cnt ≤ 100 := by omega
    clear hr hneg
    go_enter Try.func9, Try.ntmps9
    go_wp2_with fail
    refine (keep_own a n c l w h (by omega)).mono ?_; rintro e w0 ⟨v0, rfl, hO0, hB0⟩
    obtain ⟨a5, c5, e0, hs5, -⟩ := hO0.sl
    rw [hln] at e0 hs5
    subst e0
    have hBW := hB0
    obtain ⟨m, hm⟩ : ∃ m, m = n := ⟨_, rfl⟩
    obtain ⟨L, hL⟩ : ∃ L, L = l := ⟨_, rfl⟩
    rw [← hm, ← hL] at hs5
    rw [← hm]
    have hmb : m ≤ 10000 := by omega
    clear hO0 hB0 hm hL
    have hs5l := hs5.len
    by_cases hgood : m % 64 = 0 ∧ 1 ≤ m / 64
    · obtain ⟨k, rfl⟩ : ∃ k, m = 64 * k := ⟨m / 64, by omega⟩
      have hk1 : 1 ≤ k := by omega
      have hk2 : k ≤ 4096 := by omega
      have HF := Lib.hid (And.intro (Disk.chunks_flat k L hs5l) (Disk.chunks_length k L))
      clear hgood hs5l
      go_wp2_with fail
      refine (sd_load a5 k c5 L _ hk1 hk2 _ rfl hs5).mono ?_; rintro e w1 ⟨F, g, s, mm, fa, fn, fc, rfl, hP, hF, hB1⟩
      go_wp2_with fail
      refine (rd_load a5 k c5 L _ hk1 hk2 (hs5.ext hB1)).mono ?_; rintro e w2 ⟨G, r, sb, cb, sc, rfl, -, -, hB2⟩
      have hP2 := hP.ext hB2
      have hs2 := (hs5.ext hB1).ext hB2
      have HS := Lib.hid (sd_sectors hP2)
      rw [show (Disk.load k L).st.length = k from HF.out.2] at HS
      have HI := Lib.hid (sd_image hP2)
      rw [show (Disk.load k L).st.flatten = L from HF.out.1] at HI
      have HD := Lib.hid (fun w' (e : Below w2.heap.size w2 w') => sd_dirty (hP2.ext e))
      rw [load_dirty k L] at HD
      have HO := Lib.hid (fun w' (e : Below w2.heap.size w2 w') => sd_off (hP2.ext e))
      rw [show (Disk.load k L).off = false from rfl] at HO
      have hB3 := hBW.trans ((hB1.trans (hB2.mono hB1.size)).mono hBW.size)
      clear hs5 hP hP2 hF hB1 hB2 hBW
      have hlq : ((k : Int) == (k : Int)) = true := by simp
      go_wp2_with (first
        | (go_at_call 46; go_must (refine HS.out.mono ?_); rintro e w1' ⟨rfl, rfl⟩)
        | (go_at_call 19; go_must (refine HI.out.mono ?_); rintro e w4 ⟨v4, rfl, hO4, hB4⟩; have hs4 := hs2.ext hB4; have hl4 := hs4.len; obtain ⟨a4, c4, e4, hq4, -⟩ := hO4.sl; rw [hl4] at hq4 e4; cases e4; clear hl4)
        | (go_at_call 18; go_must (refine (keep_bytes _ _ _ _ _ _ _ _ _ hq4 hs4).mono ?_); rintro e w5 ⟨rfl, rfl⟩; rw [show (L == L) = true by simp])
        | (go_at_call 43; go_must (refine (HD.out _ hB4).mono ?_); rintro e w6 ⟨v6, rfl, hO6, hB6⟩; obtain ⟨a6, c6, e6, -⟩ := hO6.sl; cases e6)
        | (go_at_call 44; go_must (refine (HO.out _ (hB4.trans (hB6.mono hB4.size))).mono ?_); rintro e w7 ⟨rfl, rfl⟩)
        | (go_at_call 20; go_must (refine (HA.out _).mono ?_); rintro e w8 ⟨rfl, hB8⟩))
      go_ret
      have hz := hB4.size
      have hz6 := hB6.size
      exact ⟨rfl, hB3.trans ((hB4.trans ((hB6.trans (hB8.mono hz6)).mono hz)).mono hB3.size)⟩
    · have hbd : m % 64 ≠ 0 ∨ m / 64 < 1 ∨ 4096 < m / 64 := by omega
      have hle5 := hs5.le
      clear hgood hs5 hs5l
      go_wp2_with fail
      refine (sd_load_bad a5 m c5 hle5 hbd _).mono ?_; rintro e w1 ⟨rfl, rfl⟩
      go_wp2_with fail
      refine (rd_load_bad a5 m c5 hle5 hbd _).mono ?_; rintro e w1 ⟨rfl, rfl⟩
      clear hbd
      go_wp2_with (go_at_call 20; go_must (refine (HA.out _).mono ?_); rintro e w8 ⟨rfl, hB8⟩)
      go_ret
      exact ⟨rfl, hBW.trans (hB8.mono hBW.size)⟩

end Go.Proofs.Ytedmnbmfbgenjaa
