/-
  The law WalSpace walked.
-/
import Derived.Test.YtedmnbmfbgenjaaWalL1
namespace Go.Proofs.Ytedmnbmfbgenjaa
open Go.RowKit

/-- What a round of WalSpace knows. -/
def SpRel (w : World) (N q g s m : Nat) (fa : Option Addr) (fn fc : Nat) (en rc : Nat) (wr : World) : Prop :=
  ∃ F d, WD F wr q g s m fa fn fc ⟨0, N, 3, en, rc, 0, false⟩ d ∧ Extent.Quiet N d ∧ Below w.heap.size w wr ∧ ∀ k, F k → w.heap.size ≤ k

theorem size64 (N : Nat) (h : N ≤ 4096) : Extent.size (N : Int) = ((N * 64 : Nat) : Int) := by unfold Extent.size; rw [if_neg (by omega)]; omega

theorem wl_failed_at {w : World} {q g : Nat} {L : Wal.L} (h : LB w q g L) (b : Bool) (hb : L.fl = b) : Calls Try.prog 26 #[.pointer (some ⟨q, 0, none⟩)] w fun e w' => e = .returned (.bool b) ∧ w = w' := by
  have := wl_failed h
  rwa [hb] at this

/-- A record in a round of WalSpace. -/
theorem SpRel.ok {w : World} {N q g s m : Nat} {fa : Option Addr} {fn fc en rc : Nat} {wr : World} (h : SpRel w N q g s m fa fn fc en rc wr) (hq : w.heap.size ≤ q) (hN : 1 ≤ N) (hN2 : N ≤ 40) (hrc : rc ≤ 1000) (a : Option Addr) (n c : Nat) (p : List UInt8) (hp : SlB wr a n c p) (hn : n ≤ 1024) (hf : en + (14 + n) ≤ N * 64) :
    Calls Try.prog 23 #[.pointer (some ⟨q, 0, none⟩), .slice a n c] wr fun e w' => e = .returned (.int .i64 0) ∧ SpRel w N q g s m fa fn fc (en + (14 + n)) (rc + 1) w' := by
  obtain ⟨F, d, hW, hQ, hB, hF⟩ := h
  have hl := hp.len
  obtain ⟨d', ha, hQ'⟩ := Wal.append_ok hQ (c := N) hN (Nat.le_refl _) 3 en rc 0 p (by omega) (by omega)
  rw [hl] at ha
  refine (wl_append hW (fits8 N 3 en rc 0 false (by omega) (by omega) (by omega) (by omega)) a n c p hp ha).mono ?_
  rintro e w' ⟨rfl, F', hW', hU⟩
  have hF2 : ∀ k, (F k ∨ k = q) → w.heap.size ≤ k := fun k hk => by rcases hk with e | e; exact hF k e; omega
  have hz := hB.size
  exact ⟨rfl, F', d', hW', hQ', hU.below hB hF2 hz, fun k hk => hU.lo hF2 hz k (.inl hk)⟩
theorem SpRel.full {w : World} {N q g s m : Nat} {fa : Option Addr} {fn fc en rc : Nat} {wr : World} (h : SpRel w N q g s m fa fn fc en rc wr) (hq : w.heap.size ≤ q) (hN2 : N ≤ 40) (hrc : rc ≤ 1000) (hen : en ≤ 100000) (a : Option Addr) (n c : Nat) (p : List UInt8) (hp : SlB wr a n c p) (hn : n ≤ 1024) (hf : N * 64 < en + (14 + n)) :
    Calls Try.prog 23 #[.pointer (some ⟨q, 0, none⟩), .slice a n c] wr fun e w' => e = .returned (.int .i64 11) ∧ SpRel w N q g s m fa fn fc en rc w' := by
  obtain ⟨F, d, hW, hQ, hB, hF⟩ := h
  have hl := hp.len
  have ha := Wal.append_full (d := d) (c := N) (by omega) 3 en rc 0 p (by omega) (by omega)
  refine (wl_append hW (fits8 N 3 en rc 0 false (by omega) (by omega) (by omega) (by omega)) a n c p hp ha).mono ?_
  rintro e w' ⟨rfl, F', hW', hU⟩
  have hF2 : ∀ k, (F k ∨ k = q) → w.heap.size ≤ k := fun k hk => by rcases hk with e | e; exact hF k e; omega
  have hz := hB.size
  exact ⟨rfl, F', d, hW', hQ, hU.below hB hF2 hz, fun k hk => hU.lo hF2 hz k (.inl hk)⟩
theorem SpRel.ext {w : World} {N q g s m : Nat} {fa : Option Addr} {fn fc en rc : Nat} {wr w' : World} (h : SpRel w N q g s m fa fn fc en rc wr) (e : Below wr.heap.size wr w') : SpRel w N q g s m fa fn fc en rc w' := by
  obtain ⟨F, d, hW, hQ, hB, hF⟩ := h
  exact ⟨F, d, hW.ext e, hQ, hB.trans (e.mono hB.size), hF⟩
theorem SpRel.log {w : World} {N q g s m : Nat} {fa : Option Addr} {fn fc en rc : Nat} {wr : World} (h : SpRel w N q g s m fa fn fc en rc wr) : LB wr q g ⟨0, N, 3, en, rc, 0, false⟩ := by
  obtain ⟨F, d, hW, -⟩ := h; exact hW.log
theorem SpRel.below {w : World} {N q g s m : Nat} {fa : Option Addr} {fn fc en rc : Nat} {wr : World} (h : SpRel w N q g s m fa fn fc en rc wr) : Below w.heap.size w wr := by
  obtain ⟨F, d, -, -, hB, -⟩ := h; exact hB

set_option maxRecDepth 100000 in
set_option maxHeartbeats 4000000 in
theorem space8_law (cnt : Int) (a : Option Addr) (n c : Nat) (ls : List (List UInt8)) (w : World) (_hi : (Lit.int .i64 cnt).wf = true) (h : SlL w a n c ls) :
    Calls Try.prog 4 #[.int .i64 cnt, .slice a n c] w fun e w' => e = .returned (.bool true) ∧ Below w.heap.size w w' := by
  have hle := h.le
  have HA := Lib.hid (law8_awake w)
  by_cases h1 : cnt < 1
  · clear h
    go_enter Try.func4, Try.ntmps4
    go_wp2_with fail
    refine HA.out.mono ?_; rintro e w1 ⟨rfl, hB⟩
    go_wp2_with fail
    go_ret
    exact ⟨rfl, hB⟩
  by_cases h2 : 40 < cnt
  · clear h
    go_enter Try.func4, Try.ntmps4
    go_wp2_with fail
    refine HA.out.mono ?_; rintro e w1 ⟨rfl, hB⟩
    go_wp2_with fail
    go_ret
    exact ⟨rfl, hB⟩
  by_cases h3 : 40 < n
  · clear h
    go_enter Try.func4, Try.ntmps4
    go_wp2_with fail
    refine HA.out.mono ?_; rintro e w1 ⟨rfl, hB⟩
    go_wp2_with fail
    go_ret
    exact ⟨rfl, hB⟩
  obtain ⟨N, rfl⟩ : ∃ N : Nat, cnt = (N : Int) := ⟨cnt.toNat, by omega⟩
  have hN : 1 ≤ N := by omega
  have hN2 : N ≤ 40 := by omega
  obtain ⟨d0, o0, q0⟩ := Wal.open_new N 3 hN (by omega)
  have O0 := Lib.hid o0
  clear o0 HA
  have HAW := Lib.hid (fun W => law8_awake W)
  have ibN : ib (N : Int) := by unfold ib; omega
  have ib0 : ib 0 := by unfold ib; omega
  go_enter Try.func4, Try.ntmps4
  go_wp2_with fail
  refine (sd_new N hN (by omega) _ N rfl).mono ?_; rintro e w1 ⟨F, g, s, m, fa, fn, fc, rfl, hP1, hF1, hB1⟩
  go_wp2_with fail
  refine (wl_open hP1 0 N ib0 ibN 3 (by omega) (by simp [Disk.new]; omega)).mono ?_; rintro e w2 hpost
  rw [O0.out] at hpost
  obtain ⟨F2, q, v2, rfl, hq2, hO2, hW2, hU2⟩ := hpost
  obtain ⟨a2, c2, rfl, hs2⟩ := hO2.sl
  have hq : w.heap.size ≤ q := by have := hB1.size; omega
  have hR0 : SpRel w N q g s m fa fn fc 0 0 w2 := ⟨F2, d0, hW2, q0, hU2.below hB1 hF1 hB1.size, hU2.lo hF1 hB1.size⟩
  clear hW2 hU2 hO2 hs2 hP1 hF1 hB1 hq2
  go_wp2_with fail
  have h64 : (N : Int) * 64 = ((N * 64 : Nat) : Int) := by omega
  obtain ⟨f0, hf0⟩ : ∃ f0, f0 = N * 64 := ⟨_, rfl⟩
  rw [← hf0] at h64
  rw [h64]
  have HF0 := Lib.hid hf0
  have hfb : f0 ≤ 2560 := by omega
  clear h64 hf0
  go_loopw [9, 10, 11, 12, 13] (fun fr rc i s2 g2 wr => ∃ k en fre rcn : Nat, k ≤ n ∧ i = .int .i64 k ∧ fr = .int .i64 (fre : Nat) ∧ rc = .int .i64 (rcn : Nat) ∧ Hid (fre + en = N * 64) ∧ fre ≤ 2560 ∧ rcn ≤ 40 ∧ Hid (rcn ≤ k) ∧ SpRel w N q g s m fa fn fc en rcn wr) (fun _ _ i _ _ _ => n - (intOf i).toNat)
  case atStart => exact ⟨0, 0, f0, 0, by omega, rfl, rfl, rfl, Lib.hid (by rw [HF0.out]; rfl), hfb, by omega, Lib.hid (by omega), hR0⟩
  case round =>
    obtain ⟨k, en, fre, rcn, hk, rfl, rfl, rfl, HE, hfre, hrcn, HRK, hR⟩ := hrel
    clear hR0
    by_cases hlt : k < n
    · obtain ⟨b, o, rfl, hb, p, m1, d1, hc1, hs1⟩ := (h.ext hR.below).at hlt
      have hl1 := hs1.le
      have k0 : decide ((k : Int) < (n : Int)) = true := by simp; omega
      have i0 : (0 : Int) ≤ (k : Int) := by omega
      have i1 : (k : Int) < (n : Int) := by omega
      have HS1 := Lib.hid hs1
      clear hs1
      by_cases hm1 : 1024 < m1
      · have k1 : decide ((1024 : Int) < (m1 : Int)) = true := by simp; omega
        go_wp2
        exact ⟨⟨k + 1, en, fre, rcn, by omega, by go_num, rfl, rfl, HE, hfre, hrcn, Lib.hid (by have := HRK.out; omega), hR⟩, by simp [intOf]; omega⟩
      · have hrk := HRK.out
        by_cases hfit : 14 + m1 ≤ fre
        · have k1 : decide ((fre : Int) < (m1 : Int) + 14) = false := by simp; omega
          have HAP := Lib.hid (hR.ok hq hN hN2 (by omega) p m1 d1 _ HS1.out (by omega) (by have := HE.out; omega))
          obtain ⟨f2, hf2⟩ : ∃ f2, f2 = fre - (14 + m1) := ⟨_, rfl⟩
          have w1 : IntKind.i64.wrap ((fre : Int) - ((m1 : Int) + 14)) = (f2 : Int) := by
            have : (fre : Int) - ((m1 : Int) + 14) = (f2 : Int) := by omega
            rw [this]; unfold IntKind.wrap; simp [IntKind.bits, IntKind.signed]; omega
          have w2 : IntKind.i64.wrap ((rcn : Int) + 1) = (rcn : Int) + 1 := by unfold IntKind.wrap; simp [IntKind.bits, IntKind.signed]; omega
          have hEq : Extent.size (N : Int) - ((en + (14 + m1) : Nat) : Int) = (f2 : Int) := by rw [size64 N (by omega)]; have := HE.out; omega
          have hEN : en + (14 + m1) ≤ 1000000 := by have := HE.out; omega
          have HE2 : Hid (f2 + (en + (14 + m1)) = N * 64) := Lib.hid (by have := HE.out; omega)
          have hf2b : f2 ≤ 2560 := by omega
          have HEq := Lib.hid hEq
          clear hf2 hEq
          go_wp2_with (first | (go_at_call 23; go_must (refine HAP.out.mono ?_); rintro e w3 ⟨rfl, hR3⟩; have HL3 := Lib.hid hR3.log) | (go_at_call 24; go_must (refine (wl_free_at HL3.out (fits8 N 3 _ _ 0 false (by omega) (by omega) hEN (by omega)) _ HEq.out).mono ?_); rintro e w4 ⟨rfl, hB4⟩; have hR4 := hR3.ext hB4; have HL4 := Lib.hid hR4.log) | (go_at_call 25; go_must (refine (wl_records_at HL4.out _ rfl).mono ?_); rintro e w5 ⟨rfl, rfl⟩) | (go_at_call 26; go_must (refine (wl_failed_at HL4.out false rfl).mono ?_); rintro e w6 ⟨rfl, rfl⟩))
          exact ⟨⟨k + 1, en + (14 + m1), f2, rcn + 1, by omega, by go_num, rfl, by go_num, HE2, hf2b, by omega, Lib.hid (by omega), hR4⟩, by simp [intOf]; omega⟩
        · have k1 : decide ((fre : Int) < (m1 : Int) + 14) = true := by simp; omega
          have HAP := Lib.hid (hR.full hq hN2 (by omega) (by have := HE.out; omega) p m1 d1 _ HS1.out (by omega) (by have := HE.out; omega))
          have hEq : Extent.size (N : Int) - ((en : Nat) : Int) = (fre : Int) := by rw [size64 N (by omega)]; have := HE.out; omega
          have hEN : en ≤ 1000000 := by have := HE.out; omega
          have HEq := Lib.hid hEq
          clear hEq
          go_wp2_with (first | (go_at_call 23; go_must (refine HAP.out.mono ?_); rintro e w3 ⟨rfl, hR3⟩; have HL3 := Lib.hid hR3.log) | (go_at_call 24; go_must (refine (wl_free_at HL3.out (fits8 N 3 _ _ 0 false (by omega) (by omega) hEN (by omega)) _ HEq.out).mono ?_); rintro e w4 ⟨rfl, hB4⟩; have hR4 := hR3.ext hB4; have HL4 := Lib.hid hR4.log) | (go_at_call 25; go_must (refine (wl_records_at HL4.out _ rfl).mono ?_); rintro e w5 ⟨rfl, rfl⟩) | (go_at_call 26; go_must (refine (wl_failed_at HL4.out false rfl).mono ?_); rintro e w6 ⟨rfl, rfl⟩))
          exact ⟨⟨k + 1, en, fre, rcn, by omega, by go_num, rfl, rfl, HE, hfre, hrcn, Lib.hid (by omega), hR4⟩, by simp [intOf]; omega⟩
    · obtain rfl : k = n := by omega
      go_wp2_with (go_at_call 21; refine (HAW.out _).mono ?_; rintro e w9 ⟨rfl, hB9⟩)
      go_ret
      exact ⟨rfl, hR.below.trans (hB9.mono hR.below.size)⟩

end Go.Proofs.Ytedmnbmfbgenjaa
