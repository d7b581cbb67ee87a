/-
  Law 08: awake, and the law WalNone walked.
-/
import Derived.Test.YtedmnbmfbgenjaaWal5
namespace Go.Proofs.Ytedmnbmfbgenjaa
open Go.RowKit

def z40 : List UInt8 := List.replicate 40 0
theorem aw8_facts : ∃ d0 d1 d2 d3, Wal.open (Disk.new 2) 0 2 1 = (some ⟨0, 2, 1, 0, 0, 0, false⟩, [], 0, d0) ∧ Wal.append ⟨0, 2, 1, 0, 0, 0, false⟩ d0 z40 = (0, ⟨0, 2, 1, 54, 1, 0, false⟩, d1) ∧ Wal.append ⟨0, 2, 1, 54, 1, 0, false⟩ d1 z40 = (0, ⟨0, 2, 1, 108, 2, 0, false⟩, d2) ∧
    Wal.append ⟨0, 2, 1, 108, 2, 0, false⟩ d2 z40 = (11, ⟨0, 2, 1, 108, 2, 0, false⟩, d2) ∧ Wal.sync ⟨0, 2, 1, 108, 2, 0, false⟩ d2 = (0, ⟨0, 2, 1, 108, 2, 2, false⟩, d3) := by
  obtain ⟨d0, o0, q0⟩ := Wal.open_new 2 1 (by omega) (by omega)
  obtain ⟨d1, o1, q1⟩ := Wal.append_ok q0 (c := 2) (by omega) (by omega) 1 0 0 0 z40 (by decide) (by decide)
  obtain ⟨d2, o2, q2⟩ := Wal.append_ok q1 (c := 2) (by omega) (by omega) 1 54 1 0 z40 (by decide) (by decide)
  have o3 := Wal.append_full (d := d2) (c := 2) (by omega) 1 108 2 0 z40 (by decide) (by decide)
  obtain ⟨d3, s3, -⟩ := q2.sync
  refine ⟨d0, d1, d2, d3, o0, o1, o2, o3, ?_⟩
  unfold Wal.sync
  rw [if_neg (by simp), s3]; rfl

theorem WD.ext {F : Nat → Prop} {w w' : World} {q g s m : Nat} {fa : Option Addr} {fn fc : Nat} {L : Wal.L} {d : Disk.Dk} (h : WD F w q g s m fa fn fc L d) (e : Below w.heap.size w w') : WD F w' q g s m fa fn fc L d := ⟨h.disk.ext e, h.log.ext e, h.apart⟩
theorem fits8 (n ep en rc sy : Nat) (fl : Bool) (hn : n ≤ 1000) (he : ep < 4294967296) (h1 : en ≤ 1000000) (h2 : rc ≤ 1000000) : Wal.Fits ⟨0, n, ep, en, rc, sy, fl⟩ := by
  refine ⟨by unfold ib; simp only; omega, by unfold ib; simp only; omega, he, h1, h2, ?_⟩
  have : Extent.size (n : Int) = ((n * 64 : Nat) : Int) := by unfold Extent.size; rw [if_neg (by omega)]; omega
  simp only [this]; omega
theorem wl_free_at {w : World} {q g : Nat} {L : Wal.L} (h : LB w q g L) (hf : Wal.Fits L) (x : Int) (hx : Extent.size L.c - (L.en : Int) = x) : Calls Try.prog 24 #[.pointer (some ⟨q, 0, none⟩)] w fun e w' => e = .returned (.int .i64 x) ∧ Below w.heap.size w w' := by
  have := wl_free h hf.c hf.en hf.size
  rwa [hx] at this
theorem wl_records_at {w : World} {q g : Nat} {L : Wal.L} (h : LB w q g L) (x : Int) (hx : (L.rc : Int) = x) : Calls Try.prog 25 #[.pointer (some ⟨q, 0, none⟩)] w fun e w' => e = .returned (.int .i64 x) ∧ w = w' := by
  have := wl_records h
  rwa [hx] at this
theorem wl_synced_at {w : World} {q g : Nat} {L : Wal.L} (h : LB w q g L) (x : Int) (hx : (L.sy : Int) = x) : Calls Try.prog 28 #[.pointer (some ⟨q, 0, none⟩)] w fun e w' => e = .returned (.int .i64 x) ∧ w = w' := by
  have := wl_synced h
  rwa [hx] at this
theorem run_make40 (w : World) : ∃ w', Sem.run Try.prog (Instr.makeSlice 26 (.int .i64 40) (.int .i64 40)) w = .ok (Value.slice (some ⟨w.heap.size, 0, none⟩) 40 40) w' ∧ SlB w' (some ⟨w.heap.size, 0, none⟩) 40 40 z40 ∧ Below w.heap.size w w' := by
  obtain ⟨i0, hi, hz0, hz1, hz2⟩ := info_parts info5
  obtain ⟨w', hrun, r1, r2⟩ := run_make_full (P := Try.prog) w w.heap.size 26 5 i0 (.int .u8 0) 1 Try.underlying26 hi hz0 hz1 .i64 .i64 40 (by rw [hz2]; omega) (by unfold maxLen; omega) (Nat.le_refl _)
  rw [madeB 40] at r1
  have hO : OwnB w.heap.size w' (.slice (some ⟨w.heap.size, 0, none⟩) 40 40) z40 := r1
  obtain ⟨a, c, e, hs, -⟩ := hO.sl
  refine ⟨w', hrun, ?_, (Below.refl _ _).grown r2 (Nat.le_refl _) (fun k hk => by cases hk)⟩
  cases e; exact hs

set_option maxRecDepth 100000 in
set_option maxHeartbeats 4000000 in
theorem law8_awake (w : World) : Calls Try.prog 21 #[] w fun e w' => e = .returned (.bool true) ∧ Below w.heap.size w w' := by
  obtain ⟨d0, d1, d2, d3, e0, e1, e2, e3, e4⟩ := aw8_facts
  have H0 := Lib.hid e0; have H1 := Lib.hid e1; have H2 := Lib.hid e2; have H3 := Lib.hid e3; have H4 := Lib.hid e4
  clear e0 e1 e2 e3 e4
  have ib1 : ∀ z : Int, 0 ≤ z → z ≤ 1000 → ib z := fun z h1 h2 => by unfold ib; omega
  go_enter Try.func21, Try.ntmps21
  go_wp2_with fail
  refine (sd_new 2 (by omega) (by omega) _ 2 rfl).mono ?_; rintro e w1 ⟨F, g, s, m, fa, fn, fc, rfl, hP1, hF1, hB1⟩
  go_wp2_with fail
  refine (wl_open hP1 0 2 (ib1 _ (by omega) (by omega)) (ib1 _ (by omega) (by omega)) 1 (by omega) (by decide)).mono ?_; rintro e w2 hpost
  rw [H0.out] at hpost
  obtain ⟨F2, q, v2, rfl, hq2, hO2, hW2, hU2⟩ := hpost
  obtain ⟨a2, c2, rfl, hs2⟩ := hO2.sl
  go_wp2_with fail
  obtain ⟨w3, hm3, hs3, hB3⟩ := run_make40 w2
  rw [hm3]
  clear hm3
  go_wp2_with fail
  refine (wl_append (hW2.ext hB3) (fits8 2 1 0 0 0 false (by omega) (by omega) (by omega) (by omega)) _ 40 40 z40 hs3 H1.out).mono ?_; rintro e w4 ⟨rfl, F4, hW4, hU4⟩
  go_wp2_with fail
  obtain ⟨w5, hm5, hs5, hB5⟩ := run_make40 w4
  rw [hm5]
  clear hm5 hs3
  go_wp2_with fail
  refine (wl_append (hW4.ext hB5) (fits8 2 1 54 1 0 false (by omega) (by omega) (by omega) (by omega)) _ 40 40 z40 hs5 H2.out).mono ?_; rintro e w6 ⟨rfl, F6, hW6, hU6⟩
  go_wp2_with fail
  obtain ⟨w7, hm7, hs7, hB7⟩ := run_make40 w6
  rw [hm7]
  clear hm7 hs5
  go_wp2_with fail
  refine (wl_append (hW6.ext hB7) (fits8 2 1 108 2 0 false (by omega) (by omega) (by omega) (by omega)) _ 40 40 z40 hs7 H3.out).mono ?_; rintro e w8 ⟨rfl, F8, hW8, hU8⟩
  clear hs7
  go_wp2_with fail
  have hft := fits8 2 1 108 2 0 false (by omega) (by omega) (by omega) (by omega)
  refine (wl_free_at hW8.log hft 20 (by decide)).mono ?_; rintro e w9 ⟨rfl, hB9⟩
  have hW9 := hW8.ext hB9
  go_wp2_with (first
    | (go_at_call 25; refine (wl_records_at hW9.log 2 rfl).mono ?_; rintro e w10 ⟨rfl, rfl⟩)
    | (go_at_call 28; refine (wl_synced_at hW9.log 0 rfl).mono ?_; rintro e w10 ⟨rfl, rfl⟩))
  refine (wl_sync hW9 H4.out).mono ?_; rintro e w11 ⟨rfl, hW11, hU11⟩
  go_wp2_with (first
    | (go_at_call 28; refine (wl_synced_at hW11.log 2 rfl).mono ?_; rintro e w10 ⟨rfl, rfl⟩))
  go_ret
  refine ⟨by rfl, ?_⟩
  have hUq : Upd F w1 (fun k => F2 k ∨ k = q) w2 := hU2.grow fun k hk => by
    rcases hk with e | e
    · exact hU2.new k e
    · exact .inr (by omega)
  exact (((((hUq.ext hB3).trans hU4).ext hB5 |>.trans hU6).ext hB7 |>.trans hU8).ext hB9 |>.trans hU11).below hB1 hF1 hB1.size

set_option maxRecDepth 100000 in
set_option maxHeartbeats 4000000 in
theorem none8_law (a : Option Addr) (n c : Nat) (l : List UInt8) (w : World) (h : SlB w a n c l) :
    Calls Try.prog 5 #[.slice a n c] w fun e w' => e = .returned (.bool true) ∧ Below w.heap.size w w' := by
  have hle := h.le
  clear h
  have HA := Lib.hid (law8_awake w)
  by_cases hn : 2000 < n
  · go_enter Try.func5, Try.ntmps5
    go_wp2_with fail
    refine HA.out.mono ?_; rintro e w1 ⟨rfl, hB⟩
    go_wp2_with fail
    go_ret
    exact ⟨rfl, hB⟩
  go_enter Try.func5, Try.ntmps5
  go_wp2_with (first
    | (go_at_call 23; refine (wl_append_nil _ _).mono ?_; rintro e w1 ⟨rfl, rfl⟩)
    | (go_at_call 27; refine (wl_sync_nil _).mono ?_; rintro e w1 ⟨rfl, rfl⟩)
    | (go_at_call 26; refine (wl_failed_nil _).mono ?_; rintro e w1 ⟨rfl, rfl⟩)
    | (go_at_call 25; refine (wl_records_nil _).mono ?_; rintro e w1 ⟨rfl, rfl⟩)
    | (go_at_call 28; refine (wl_synced_nil _).mono ?_; rintro e w1 ⟨rfl, rfl⟩)
    | (go_at_call 24; refine (wl_free_nil _).mono ?_; rintro e w1 ⟨rfl, rfl⟩)
    | (go_at_call 21; refine HA.out.mono ?_; rintro e w1 ⟨rfl, hB⟩))
  go_ret
  exact ⟨rfl, hB⟩

end Go.Proofs.Ytedmnbmfbgenjaa
