/-
  The walks through wal's Sync and Append.
-/
import Derived.Test.YtedmnbmfbgenjaaWal2
import Derived.Deep.RegionHeld3
import Derived.Deep.RegionLaw
import Derived.Deep.DeepMust
namespace Go.Proofs.Ytedmnbmfbgenjaa
open Go.RowKit

theorem Upd.beside {F F' : Nat → Prop} {w w' : World} (h : Upd F w F' w') (q : Nat) : Upd (fun k => F k ∨ k = q) w (fun k => F' k ∨ k = q) w' :=
  ⟨h.os, h.tape, h.output, h.size, fun k hk hn => h.block k hk (fun e => hn (.inl e)), fun k hk => by
    rcases hk with e | e
    · rcases h.new k e with e | e
      · exact .inl (.inl e)
      · exact .inr e
    · exact .inl (.inr e)⟩

/-- A log in memory on its disk. -/
structure WD (F : Nat → Prop) (w : World) (q g s m : Nat) (fa : Option Addr) (fn fc : Nat) (L : Wal.L) (d : Disk.Dk) : Prop where
  disk : PD F w g s m fa fn fc d
  log : LB w q g L
  apart : ¬ F q

/-- wal.Sync. -/
def Wal.sync (L : Wal.L) (d : Disk.Dk) : Int × Wal.L × Disk.Dk :=
  if L.fl then (12, L, d) else
    match Disk.sync d with
    | (z, d') => if z = 0 then (0, { L with sy := L.rc }, d') else (z, { L with fl := true }, d')

theorem wl_sync_nil (w : World) : Calls Try.prog 27 #[.pointer none] w fun e w' => e = .returned (.int .i64 12) ∧ w = w' := by
  go_enter Try.func27, Try.ntmps27
  go_wp2_with (go_at_call 26; refine (wl_failed_nil _).mono ?_; rintro e w' ⟨rfl, rfl⟩)
  go_ret
  exact ⟨rfl, rfl⟩
theorem wl_append_nil (v : Value) (w : World) : Calls Try.prog 23 #[.pointer none, v] w fun e w' => e = .returned (.int .i64 12) ∧ w = w' := by
  go_enter Try.func23, Try.ntmps23
  go_wp2_with (go_at_call 26; refine (wl_failed_nil _).mono ?_; rintro e w' ⟨rfl, rfl⟩)
  go_ret
  exact ⟨rfl, rfl⟩

set_option maxRecDepth 100000 in
theorem wl_sync {F : Nat → Prop} {w : World} {q g s m : Nat} {fa : Option Addr} {fn fc : Nat} {L : Wal.L} {d : Disk.Dk} (h : WD F w q g s m fa fn fc L d) {z : Int} {L' : Wal.L} {d' : Disk.Dk} (hr : Wal.sync L d = (z, L', d')) :
    Calls Try.prog 27 #[.pointer (some ⟨q, 0, none⟩)] w fun e w' => e = .returned (.int .i64 z) ∧ WD F w' q g s m fa fn fc L' d' ∧ Upd (fun k => F k ∨ k = q) w (fun k => F k ∨ k = q) w' := by
  have HFD := Lib.hid (wl_failed h.log)
  unfold Wal.sync at hr
  by_cases hfl : L.fl = true
  · rw [if_pos hfl] at hr
    cases hr
    rw [hfl] at HFD
    go_enter Try.func27, Try.ntmps27
    go_wp2_with (go_at_call 26; refine HFD.out.mono ?_; rintro e w' ⟨rfl, rfl⟩)
    go_ret
    exact ⟨rfl, h, Upd.refl _ _⟩
  · have hfl' : L.fl = false := by simpa using hfl
    rw [if_neg hfl] at hr
    rw [hfl'] at HFD
    rcases hs : Disk.sync d with ⟨z1, d1⟩
    rw [hs] at hr
    have HS := Lib.hid (sd_sync_at h.disk hs)
    have h0 := h.log.cells.1
    by_cases hz : z1 = 0
    · subst hz
      have hr : (0, { L with sy := L.rc }, d1) = (z, L', d') := hr
      cases hr
      go_enter Try.func27, Try.ntmps27
      go_wp2_with (first
        | (go_at_call 26; refine HFD.out.mono ?_; rintro e w' ⟨rfl, rfl⟩)
        | (go_at_call 34; refine HS.out.mono ?_; rintro e w1 ⟨rfl, hP1, hU1⟩; have hL1 := h.log.same (hU1.block _ h.log.lt h.apart); have HFL := Lib.hid (wl_fail hL1 0))
        | (go_at_call 69; refine HFL.out.mono ?_; rintro e w2 ⟨rfl, hw2, hL2⟩; have HW2 := Lib.hid hw2; clear hw2; have c5 := hL2.cells.2.2.2.2.2.1; have f6 := hL2.free 6; have c6 := hL2.cells.2.2.2.2.2.2.1; simp only at c5 c6))
      go_ret
      have hU2 : Upd (fun k => F k ∨ k = q) w (fun k => F k ∨ k = q) w2 := by rw [HW2.out]; exact (hU1.beside q).setCell (.inl (.inr rfl)) _ _
      have hP2 : PD F w2 g s m fa fn fc d' := by rw [HW2.out]; exact hP1.other h.apart _ _
      refine ⟨rfl, ⟨hP2.other h.apart _ _, ?_, h.apart⟩, hU2.setCell (.inl (.inr rfl)) _ _⟩
      unfold LB
      rw [heap_setCell_same _ _ _ _ _ _ hL2, hfl']
      rfl
    · have t1 : (z1 != 0) = true := by simpa using hz
      have hr : (if z1 = 0 then (0, { L with sy := L.rc }, d1) else (z1, { L with fl := true }, d1) : Int × Wal.L × Disk.Dk) = (z, L', d') := hr
      rw [if_neg hz] at hr
      obtain rfl : z = z1 := (congrArg (fun x : Int × Wal.L × Disk.Dk => x.1) hr).symm
      obtain rfl : L' = { L with fl := true } := (congrArg (fun x : Int × Wal.L × Disk.Dk => x.2.1) hr).symm
      obtain rfl : d' = d1 := (congrArg (fun x : Int × Wal.L × Disk.Dk => x.2.2) hr).symm
      clear hr
      go_enter Try.func27, Try.ntmps27
      go_wp2_with (first
        | (go_at_call 26; refine HFD.out.mono ?_; rintro e w' ⟨rfl, rfl⟩)
        | (go_at_call 34; refine HS.out.mono ?_; rintro e w1 ⟨rfl, hP1, hU1⟩; have hL1 := h.log.same (hU1.block _ h.log.lt h.apart); have HFL := Lib.hid (wl_fail hL1 z))
        | (go_at_call 69; refine HFL.out.mono ?_; rintro e w2 ⟨rfl, hw2, hL2⟩; have HW2 := Lib.hid hw2; clear hw2))
      go_ret
      rw [t1, Bool.or_true] at hL2
      have hU2 : Upd (fun k => F k ∨ k = q) w (fun k => F k ∨ k = q) w2 := by rw [HW2.out]; exact (hU1.beside q).setCell (.inl (.inr rfl)) _ _
      have hP2 : PD F w2 g s m fa fn fc d' := by rw [HW2.out]; exact hP1.other h.apart _ _
      exact ⟨rfl, ⟨hP2, hL2, h.apart⟩, hU2⟩

/-- wal.Append. -/
def Wal.append (L : Wal.L) (d : Disk.Dk) (p : List UInt8) : Int × Wal.L × Disk.Dk :=
  if L.fl then (12, L, d) else if 1024 < p.length then (3, L, d) else if Extent.size L.c - (L.en : Int) < ((14 + p.length : Nat) : Int) then (11, L, d) else
    match Extent.write d L.f L.c L.en (Frame.enc L.ep L.rc p) with
    | (z, d') => if z = 0 then (0, { L with en := L.en + (14 + p.length), rc := L.rc + 1 }, d') else (z, { L with fl := true }, d')

structure Wal.Fits (L : Wal.L) : Prop where
  f : ib L.f
  c : ib L.c
  ep : L.ep < 4294967296
  en : L.en ≤ 1000000
  rc : L.rc ≤ 1000000
  size : Extent.size L.c ≤ 1000000 ∧ 0 ≤ Extent.size L.c

set_option maxRecDepth 100000 in
set_option maxHeartbeats 2000000 in
theorem wl_append {F : Nat → Prop} {w : World} {q g s m : Nat} {fa : Option Addr} {fn fc : Nat} {L : Wal.L} {d : Disk.Dk} (h : WD F w q g s m fa fn fc L d) (hfit : Wal.Fits L) (a : Option Addr) (n ca : Nat) (p : List UInt8) (hp : SlB w a n ca p) {z : Int} {L' : Wal.L} {d' : Disk.Dk} (hr : Wal.append L d p = (z, L', d')) :
    Calls Try.prog 23 #[.pointer (some ⟨q, 0, none⟩), .slice a n ca] w fun e w' => e = .returned (.int .i64 z) ∧ ∃ F', WD F' w' q g s m fa fn fc L' d' ∧ Upd (fun k => F k ∨ k = q) w (fun k => F' k ∨ k = q) w' := by
  have HFD := Lib.hid (wl_failed h.log)
  have hpl := hp.len
  have hpe := hp.le
  obtain ⟨b1, b2, b3, b4, b5, b6⟩ := hfit
  unfold Wal.append at hr
  by_cases hfl : L.fl = true
  · rw [if_pos hfl] at hr
    cases hr
    rw [hfl] at HFD
    go_enter Try.func23, Try.ntmps23
    go_wp2_with (go_at_call 26; refine HFD.out.mono ?_; rintro e w' ⟨rfl, rfl⟩)
    go_ret
    exact ⟨rfl, F, h, Upd.refl _ _⟩
  have hfl' : L.fl = false := by simpa using hfl
  rw [if_neg hfl] at hr
  rw [hfl'] at HFD
  obtain ⟨h0, h1, h2, h3, h4, h5, h6, h7⟩ := h.log.cells
  have w3 : w.drew.cell? ⟨q, 3, none⟩ = some (.int .u32 (L.ep : Nat)) := h3
  have w5 : w.drew.cell? ⟨q, 5, none⟩ = some (.int .i64 (L.rc : Nat)) := h5
  have hcv : IntKind.u32.wrap (L.rc : Int) = (L.rc : Int) := by unfold IntKind.wrap; simp [IntKind.bits, IntKind.signed]; omega
  by_cases hlong : 1024 < n
  · rw [if_pos (by omega)] at hr
    cases hr
    go_enter Try.func23, Try.ntmps23
    go_wp2_with (go_at_call 26; refine HFD.out.mono ?_; rintro e w' ⟨rfl, rfl⟩)
    go_region_held3 (fun w' => w'.cell? ⟨q, 3, none⟩ = some (.int .u32 (L.ep : Nat)) ∧ w'.cell? ⟨q, 5, none⟩ = some (.int .i64 (L.rc : Nat))) (first | exact ⟨h3, h5⟩ | assumption | exact ⟨(h.log.ext (Below.trans (Below.drew (Below.refl _ w)) (by assumption))).cells.2.2.2.1, (h.log.ext (Below.trans (Below.drew (Below.refl _ w)) (by assumption))).cells.2.2.2.2.2.1⟩) (first | (go_at_call 68; go_must (refine (fr_encode_long _ _ a n ca _ hlong hpe).mono ?_); rintro e w9 ⟨rfl, rfl⟩))
    all_goals
      go_wp2_with fail
      go_ret
      exact ⟨rfl, F, ⟨h.disk.drew, h.log, h.apart⟩, (Upd.refl _ _).drew⟩
  rw [if_neg (by omega)] at hr
  have hle : (Frame.enc L.ep L.rc p).length = 14 + n := by rw [Frame.enc_length, hpl]
  have HLE := Lib.hid hle
  have hfe := wl_free (w := w) h.log b2 b4 b6
  rw [hpl] at hr
  have hbig : n ≤ 1024 := by omega
  by_cases hfull : Extent.size L.c - (L.en : Int) < ((14 + n : Nat) : Int)
  · rw [if_pos hfull] at hr
    cases hr
    go_enter Try.func23, Try.ntmps23
    go_wp2_with (go_at_call 26; refine HFD.out.mono ?_; rintro e w' ⟨rfl, rfl⟩)
    go_region_held3 (fun w' => w'.cell? ⟨q, 3, none⟩ = some (.int .u32 (L.ep : Nat)) ∧ w'.cell? ⟨q, 5, none⟩ = some (.int .i64 (L.rc : Nat))) (first | exact ⟨h3, h5⟩ | assumption | exact ⟨(h.log.ext (Below.trans (Below.drew (Below.refl _ w)) (by assumption))).cells.2.2.2.1, (h.log.ext (Below.trans (Below.drew (Below.refl _ w)) (by assumption))).cells.2.2.2.2.2.1⟩) (first | (go_at_call 68; go_must (refine (fr_encode_ok _ _ b3 (by omega) a n ca p _ (hp.ext (Below.drew (Below.refl _ w))) hbig).mono ?_); rintro e w9 ⟨v9, rfl, hO9, hB9⟩))
    all_goals
      obtain ⟨a9, c9, rfl, hs9, -⟩ := hO9.sl
      rw [HLE.out] at hs9 ⊢
      have hB09 : Below w.heap.size w w9 := Below.trans (Below.drew (Below.refl _ w)) hB9
      have hL9 := h.log.ext hB09
      have hfr := wl_free hL9 b2 b4 b6
      have k1 : decide (Extent.size L.c - (L.en : Int) < ((14 + n : Nat) : Int)) = true := by simpa using hfull
      have k2 : decide (Extent.size L.c - (L.en : Int) < 14 + (n : Int)) = true := by simp; omega
      have HFR := Lib.hid hfr
      clear hfr hfe
      go_wp2_with (go_at_call 24; go_must (refine HFR.out.mono ?_); rintro e w10 ⟨rfl, hB10⟩)
      go_ret
      exact ⟨rfl, F, ⟨(h.disk.ext hB09).ext hB10, hL9.ext hB10, h.apart⟩, ((Upd.of_ext hB09).ext hB10)⟩
  · rw [if_neg hfull] at hr
    rcases hw : Extent.write d L.f L.c L.en (Frame.enc L.ep L.rc p) with ⟨z1, d1⟩
    rw [hw] at hr
    have HW := Lib.hid hw
    clear hw
    go_enter Try.func23, Try.ntmps23
    go_wp2_with (go_at_call 26; refine HFD.out.mono ?_; rintro e w' ⟨rfl, rfl⟩)
    go_region_held3 (fun w' => w'.cell? ⟨q, 3, none⟩ = some (.int .u32 (L.ep : Nat)) ∧ w'.cell? ⟨q, 5, none⟩ = some (.int .i64 (L.rc : Nat))) (first | exact ⟨h3, h5⟩ | assumption | exact ⟨(h.log.ext (Below.trans (Below.drew (Below.refl _ w)) (by assumption))).cells.2.2.2.1, (h.log.ext (Below.trans (Below.drew (Below.refl _ w)) (by assumption))).cells.2.2.2.2.2.1⟩) (first | (go_at_call 68; go_must (refine (fr_encode_ok _ _ b3 (by omega) a n ca p _ (hp.ext (Below.drew (Below.refl _ w))) hbig).mono ?_); rintro e w9 ⟨v9, rfl, hO9, hB9⟩))
    all_goals
      obtain ⟨a9, c9, rfl, hs9, hf9⟩ := hO9.sl
      rw [HLE.out] at hs9 ⊢
      have hB09 : Below w.heap.size w w9 := Below.trans (Below.drew (Below.refl _ w)) hB9
      have hL9 := h.log.ext hB09
      have hfr := wl_free hL9 b2 b4 b6
      have k1 : decide (Extent.size L.c - (L.en : Int) < ((14 + n : Nat) : Int)) = false := by simpa using hfull
      have k2 : decide (Extent.size L.c - (L.en : Int) < 14 + (n : Int)) = false := by simp; omega
      have HFR := Lib.hid hfr
      clear hfr hfe h0 h1 h2 h3 h4 h5 h6 h7 w3 w5
      go_wp2_with (go_at_call 24; go_must (refine HFR.out.mono ?_); rintro e w10 ⟨rfl, hB10⟩)
      have hB010 : Below w.heap.size w w10 := hB09.trans (hB10.mono hB09.size)
      have hP10 : PD F w10.drew g s m fa fn fc d := (h.disk.ext hB010).drew
      have hL10 : LB w10.drew q g L := LB.same (w := w10) (h.log.ext hB010) rfl
      obtain ⟨h0, h1, h2, h3, h4, h5, h6, h7⟩ := hL10.cells
      have hs10 : SlB w10.drew a9 (14 + n) c9 (Frame.enc L.ep L.rc p) := (hs9.ext hB10).stay (w' := w10.drew) (fun _ _ _ => rfl) (Nat.le_refl _)
      have HX := Lib.hid (ex_write_at hP10 L.f L.c L.en b1 b2 (by unfold ib; omega) hs10 (fun y hy _ e => by have := (hf9 y hy).2.1; have := h.disk.lt _ e; have : w.drew.heap.size = w.heap.size := rfl; omega) HW.out)
      have hU010 : Upd F w F w10.drew := (Upd.of_ext hB010).drew
      by_cases hz : z1 = 0
      · subst hz
        have hr : (0, { L with en := L.en + (14 + n), rc := L.rc + 1 }, d1) = (z, L', d') := hr
        obtain rfl : 0 = z := (congrArg (fun x : Int × Wal.L × Disk.Dk => x.1) hr)
        obtain rfl : L' = { L with en := L.en + (14 + n), rc := L.rc + 1 } := (congrArg (fun x : Int × Wal.L × Disk.Dk => x.2.1) hr).symm
        obtain rfl : d' = d1 := (congrArg (fun x : Int × Wal.L × Disk.Dk => x.2.2) hr).symm
        clear hr
        go_region_law (first
          | (go_simp; go_at_call 50; go_must (refine HX.out.mono ?_); rintro e w11 ⟨rfl, F11, hP11, hU11⟩; have hL11 := hL10.same (hU11.block _ hL10.lt h.apart); have HFL := Lib.hid (wl_fail hL11 0))
          | (go_simp; go_at_call 69; go_must (refine HFL.out.mono ?_); rintro e w12 ⟨rfl, hw2, hL12⟩; have HW2 := Lib.hid hw2; clear hw2; have c4 := hL12.cells.2.2.2.2.1; have c5 := hL12.cells.2.2.2.2.2.1; have f4 := hL12.free 4; have f5 := hL12.free 5; simp only at c4 c5))
        all_goals
          clear h0 h1 h2 h3 h4 h5 h6 h7
          go_wp2_with fail
          go_ret
          have n11 : ¬ F11 q := fun e => by
            rcases hU11.new q e with e | e
            · exact h.apart e
            · have := hL10.lt; omega
          have hU : Upd (fun k => F k ∨ k = q) w (fun k => F11 k ∨ k = q) w12 := by rw [HW2.out]; exact ((hU010.trans hU11).beside q).setCell (.inl (.inr rfl)) _ _
          have hP12 : PD F11 w12 g s m fa fn fc d' := by rw [HW2.out]; exact hP11.other n11 _ _
          refine ⟨rfl, F11, ⟨(hP12.other n11 _ _).other n11 _ _, ?_, n11⟩, (hU.setCell (.inl (.inr rfl)) _ _).setCell (.inl (.inr rfl)) _ _⟩
          refine (heap_setCell_same _ _ _ _ _ _ (heap_setCell_same _ _ _ _ _ _ hL12)).trans ?_
          simp [hfl']
      · have t1 : (z1 != 0) = true := by simpa using hz
        have hr : (if z1 = 0 then (0, { L with en := L.en + (14 + n), rc := L.rc + 1 }, d1) else (z1, { L with fl := true }, d1) : Int × Wal.L × Disk.Dk) = (z, L', d') := hr
        rw [if_neg hz] at hr
        obtain rfl : z = z1 := (congrArg (fun x : Int × Wal.L × Disk.Dk => x.1) hr).symm
        obtain rfl : L' = { L with fl := true } := (congrArg (fun x : Int × Wal.L × Disk.Dk => x.2.1) hr).symm
        obtain rfl : d' = d1 := (congrArg (fun x : Int × Wal.L × Disk.Dk => x.2.2) hr).symm
        clear hr
        go_region_law (first
          | (go_simp; go_at_call 50; go_must (refine HX.out.mono ?_); rintro e w11 ⟨rfl, F11, hP11, hU11⟩; have hL11 := hL10.same (hU11.block _ hL10.lt h.apart); have HFL := Lib.hid (wl_fail hL11 z))
          | (go_simp; go_at_call 69; go_must (refine HFL.out.mono ?_); rintro e w12 ⟨rfl, hw2, hL12⟩; have HW2 := Lib.hid hw2; clear hw2))
        all_goals
          clear h0 h1 h2 h3 h4 h5 h6 h7
          go_wp2_with fail
          go_ret
          rw [t1, Bool.or_true] at hL12
          have n11 : ¬ F11 q := fun e => by
            rcases hU11.new q e with e | e
            · exact h.apart e
            · have := hL10.lt; omega
          have hU : Upd (fun k => F k ∨ k = q) w (fun k => F11 k ∨ k = q) w12 := by rw [HW2.out]; exact ((hU010.trans hU11).beside q).setCell (.inl (.inr rfl)) _ _
          have hP12 : PD F11 w12 g s m fa fn fc d' := by rw [HW2.out]; exact hP11.other n11 _ _
          exact ⟨rfl, F11, ⟨hP12, hL12, n11⟩, hU⟩

end Go.Proofs.Ytedmnbmfbgenjaa
