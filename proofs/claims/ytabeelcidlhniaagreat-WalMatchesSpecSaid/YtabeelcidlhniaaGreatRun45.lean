/-
  Texts in one: RWal, RWal2.
-/
import Derived.Test.YtabeelcidlhniaaGreatRExt3
import Derived.Test.YtabeelcidlhniaaGreatRun35
import Derived.Test.YtabeelcidlhniaaGreatRun31
import Derived.Deep.RegionHeld3
import Derived.Test.YtabeelcidlhniaaGreatRDisk7
/-
  The reference's log: Failed, Records, Synced, Free, Sync, Append.
-/
namespace Go.Proofs.YtabeelcidlhniaaGreat
open Go.RowKit

/-- Block q is the reference's log on the disk in block g. -/
def RLB (w : World) (q g : Nat) (L : Wal.L) : Prop :=
  w.heap[q]? = some (.cells #[.pointer (some ⟨g, 0, none⟩), .int .i64 L.f, .int .i64 L.c, .int .u32 (L.ep : Nat), .int .i64 (L.en : Nat), .int .i64 (L.rc : Nat), .int .i64 (L.sy : Nat), .bool L.fl] 73 (0, 0))
theorem RLB.lt {w : World} {q g : Nat} {L : Wal.L} (h : RLB w q g L) : q < w.heap.size := heap_lt h
theorem RLB.same {w w' : World} {q g : Nat} {L : Wal.L} (h : RLB w q g L) (e : w'.heap[q]? = w.heap[q]?) : RLB w' q g L := e.trans h
theorem RLB.ext {w w' : World} {q g : Nat} {L : Wal.L} (h : RLB w q g L) (e : Below w.heap.size w w') : RLB w' q g L := h.same (e.block _ h.lt)
theorem RLB.cells {w : World} {q g : Nat} {L : Wal.L} (h : RLB w q g L) : w.cell? ⟨q, 0, none⟩ = some (.pointer (some ⟨g, 0, none⟩)) ∧ w.cell? ⟨q, 1, none⟩ = some (.int .i64 L.f) ∧ w.cell? ⟨q, 2, none⟩ = some (.int .i64 L.c) ∧ w.cell? ⟨q, 3, none⟩ = some (.int .u32 (L.ep : Nat)) ∧
    w.cell? ⟨q, 4, none⟩ = some (.int .i64 (L.en : Nat)) ∧ w.cell? ⟨q, 5, none⟩ = some (.int .i64 (L.rc : Nat)) ∧ w.cell? ⟨q, 6, none⟩ = some (.int .i64 (L.sy : Nat)) ∧ w.cell? ⟨q, 7, none⟩ = some (.bool L.fl) := by
  refine ⟨?_, ?_, ?_, ?_, ?_, ?_, ?_, ?_⟩ <;> rw [cell_of_row _ _ _ _ _ _ h] <;> rfl
theorem RLB.free {w : World} {q g : Nat} {L : Wal.L} (h : RLB w q g L) (k : Nat) : w.frozen? ⟨q, k, none⟩ = false := frozen_of_row _ _ _ _ _ h

theorem rl_failed_nil (w : World) : Calls Tryz.prog 55 #[.pointer none] w fun e w' => e = .returned (.bool true) ∧ w = w' := by
  go_enter Tryz.func55, Tryz.ntmps55
  go_wp2
  go_ret
  exact ⟨rfl, rfl⟩
theorem rl_failed {w : World} {q g : Nat} {L : Wal.L} (h : RLB w q g L) : Calls Tryz.prog 55 #[.pointer (some ⟨q, 0, none⟩)] w fun e w' => e = .returned (.bool L.fl) ∧ w = w' := by
  have h7 := h.cells.2.2.2.2.2.2.2
  go_enter Tryz.func55, Tryz.ntmps55
  go_wp2
  go_ret
  exact ⟨rfl, rfl⟩
theorem rl_records_nil (w : World) : Calls Tryz.prog 56 #[.pointer none] w fun e w' => e = .returned (.int .i64 0) ∧ w = w' := by
  go_enter Tryz.func56, Tryz.ntmps56
  go_wp2
  go_ret
  exact ⟨rfl, rfl⟩
theorem rl_records {w : World} {q g : Nat} {L : Wal.L} (h : RLB w q g L) : Calls Tryz.prog 56 #[.pointer (some ⟨q, 0, none⟩)] w fun e w' => e = .returned (.int .i64 (L.rc : Nat)) ∧ w = w' := by
  have h7 := h.cells.2.2.2.2.2.1
  go_enter Tryz.func56, Tryz.ntmps56
  go_wp2
  go_ret
  exact ⟨rfl, rfl⟩
theorem rl_synced_nil (w : World) : Calls Tryz.prog 57 #[.pointer none] w fun e w' => e = .returned (.int .i64 0) ∧ w = w' := by
  go_enter Tryz.func57, Tryz.ntmps57
  go_wp2
  go_ret
  exact ⟨rfl, rfl⟩
theorem rl_synced {w : World} {q g : Nat} {L : Wal.L} (h : RLB w q g L) : Calls Tryz.prog 57 #[.pointer (some ⟨q, 0, none⟩)] w fun e w' => e = .returned (.int .i64 (L.sy : Nat)) ∧ w = w' := by
  have h7 := h.cells.2.2.2.2.2.2.1
  go_enter Tryz.func57, Tryz.ntmps57
  go_wp2
  go_ret
  exact ⟨rfl, rfl⟩
theorem rl_free_nil (w : World) : Calls Tryz.prog 58 #[.pointer none] w fun e w' => e = .returned (.int .i64 0) ∧ w = w' := by
  go_enter Tryz.func58, Tryz.ntmps58
  go_wp2
  go_ret
  exact ⟨rfl, rfl⟩
set_option maxRecDepth 100000 in
theorem rl_free {w : World} {q g : Nat} {L : Wal.L} (h : RLB w q g L) (hf : Wal.Fits L) : Calls Tryz.prog 58 #[.pointer (some ⟨q, 0, none⟩)] w fun e w' => e = .returned (.int .i64 (Extent.size L.c - (L.en : Int))) ∧ Below w.heap.size w w' := by
  obtain ⟨c0, c1, c2, c3, c4, -⟩ := h.cells
  have HS := Lib.hid (fun W => re_size L.f L.c hf.c W)
  obtain ⟨s1, s2⟩ := hf.size
  have s3 := hf.en
  have hq := h.lt
  generalize Extent.size L.c = sz at *
  generalize L.en = en at *
  have hwz : IntKind.i64.wrap (sz - (en : Int)) = sz - (en : Int) := by rw [IntKind.wrap_i64]; omega
  go_enter Tryz.func58, Tryz.ntmps58
  go_wp2_with fail
  go_region_held3 (fun w' => w'.cell? ⟨q, 1, none⟩ = some (.int .i64 L.f) ∧ w'.cell? ⟨q, 2, none⟩ = some (.int .i64 L.c) ∧ w'.cell? ⟨q, 4, none⟩ = some (.int .i64 (en : Nat))) (first | exact ⟨c1, c2, c4⟩ | exact ⟨a1, a2, a4⟩) (first
    | (go_at_call 39; go_must (refine (HS.out _).mono ?_); rintro e w1 ⟨rfl, hb⟩; have hB : Below w.heap.size w w1 := (Below.drew (Below.refl _ _)).trans hb; have a1 := (hB.cell (p := ⟨q, 1, none⟩) hq).trans c1; have a2 := (hB.cell (p := ⟨q, 2, none⟩) hq).trans c2; have a4 := (hB.cell (p := ⟨q, 4, none⟩) hq).trans c4))
  go_wp2_with fail
  go_ret
  exact ⟨rfl, hB⟩

/-- The reference's log in memory on its disk. -/
structure RW (F : Nat → Prop) (w : World) (q g sb cb sc : Nat) (fa : Option Addr) (fn fc : Nat) (L : Wal.L) (d : Disk.Dk) : Prop where
  disk : RD F w g sb cb sc fa fn fc d
  log : RLB w q g L
  apart : ¬ F q

theorem RLB.setF {w : World} {q g : Nat} {L : Wal.L} (h : RLB w q g L) (b : Bool) : RLB (w.setCell ⟨q, 7, none⟩ (.bool b)) q g { L with fl := b } := by unfold RLB; rw [heap_setCell_same _ _ _ _ _ _ h]; rfl
theorem RLB.setS {w : World} {q g : Nat} {L : Wal.L} (h : RLB w q g L) (n : Nat) : RLB (w.setCell ⟨q, 6, none⟩ (.int .i64 (n : Nat))) q g { L with sy := n } := by unfold RLB; rw [heap_setCell_same _ _ _ _ _ _ h]; rfl
theorem RLB.setE {w : World} {q g : Nat} {L : Wal.L} (h : RLB w q g L) (n : Nat) : RLB (w.setCell ⟨q, 4, none⟩ (.int .i64 (n : Nat))) q g { L with en := n } := by unfold RLB; rw [heap_setCell_same _ _ _ _ _ _ h]; rfl
theorem RLB.setR {w : World} {q g : Nat} {L : Wal.L} (h : RLB w q g L) (n : Nat) : RLB (w.setCell ⟨q, 5, none⟩ (.int .i64 (n : Nat))) q g { L with rc := n } := by unfold RLB; rw [heap_setCell_same _ _ _ _ _ _ h]; rfl
theorem RD.other {F : Nat → Prop} {w : World} {g sb cb sc : Nat} {fa : Option Addr} {fn fc : Nat} {d : Disk.Dk} (h : RD F w g sb cb sc fa fn fc d) {b : Nat} (hb : ¬ F b) (o : Nat) (v : Value) : RD F (w.setCell ⟨b, o, none⟩ v) g sb cb sc fa fn fc d :=
  h.stay (fun k hk => heap_setCell_other _ _ _ _ (by rintro rfl; exact hb hk)) (by simp)

theorem rl_sync_nil (w : World) : Calls Tryz.prog 13 #[.pointer none] w fun e w' => e = .returned (.int .i64 12) ∧ w = w' := by
  go_enter Tryz.func13, Tryz.ntmps13
  go_wp2
  go_ret
  exact ⟨rfl, rfl⟩
theorem rl_append_nil (v : Value) (w : World) : Calls Tryz.prog 10 #[.pointer none, v] w fun e w' => e = .returned (.int .i64 12) ∧ w = w' := by
  go_enter Tryz.func10, Tryz.ntmps10
  go_wp2
  go_ret
  exact ⟨rfl, rfl⟩

set_option maxRecDepth 100000 in
set_option maxHeartbeats 2000000 in
theorem rl_sync {F : Nat → Prop} {w : World} {q g sb cb sc : Nat} {fa : Option Addr} {fn fc : Nat} {L : Wal.L} {d : Disk.Dk} (h : RW F w q g sb cb sc fa fn fc L d) {z : Int} {L' : Wal.L} {d' : Disk.Dk} (hr : Wal.sync L d = (z, L', d')) :
    Calls Tryz.prog 13 #[.pointer (some ⟨q, 0, none⟩)] w fun e w' => e = .returned (.int .i64 z) ∧ RW F w' q g sb cb sc fa fn fc L' d' ∧ Upd (fun k => F k ∨ k = q) w (fun k => F k ∨ k = q) w' := by
  obtain ⟨c0, -, -, -, -, c5, c6, c7⟩ := h.log.cells
  unfold Wal.sync at hr
  by_cases hf : L.fl = true
  · rw [if_pos hf] at hr
    cases hr
    rw [hf] at c7
    go_enter Tryz.func13, Tryz.ntmps13
    go_wp2
    go_ret
    exact ⟨rfl, h, Upd.refl _ _⟩
  rw [if_neg hf] at hr
  have hf' : L.fl = false := by simpa using hf
  rw [hf'] at c7
  obtain ⟨z1, d1, hs⟩ : ∃ z1 d1, Disk.sync d = (z1, d1) := ⟨_, _, rfl⟩
  rw [hs] at hr
  simp only at hr
  have hsy := rd_sync h.disk
  rw [hs] at hsy
  have HSY := Lib.hid hsy
  have hql := h.log.lt
  have hap := h.apart
  by_cases hz : z1 = 0
  · subst hz
    rw [if_pos rfl] at hr
    cases hr
    go_enter Tryz.func13, Tryz.ntmps13
    go_wp2_with (go_at_call 42; go_must (refine HSY.out.mono ?_); rintro e w1 ⟨rfl, hP, hU⟩; have hL := h.log.same (hU.block q hql hap); have x5 := hL.cells.2.2.2.2.2.1; have x6 := hL.cells.2.2.2.2.2.2.1; have f6 := hL.free 6)
    go_ret
    exact ⟨rfl, ⟨hP.other hap _ _, hL.setS L.rc, hap⟩, (hU.beside q).setCell (.inl (.inr rfl)) _ _⟩
  · have t1 : (z1 != 0) = true := by simpa using hz
    rw [if_neg hz] at hr
    cases hr
    clear hz
    go_enter Tryz.func13, Tryz.ntmps13
    go_wp2_with (go_at_call 42; go_must (refine HSY.out.mono ?_); rintro e w1 ⟨rfl, hP, hU⟩; have hL := h.log.same (hU.block q hql hap); have x7 := hL.cells.2.2.2.2.2.2.2; have f7 := hL.free 7)
    go_ret
    exact ⟨rfl, ⟨hP.other hap _ _, hL.setF true, hap⟩, (hU.beside q).setCell (.inl (.inr rfl)) _ _⟩

set_option maxRecDepth 100000 in
set_option maxHeartbeats 4000000 in
theorem rl_append {F : Nat → Prop} {w : World} {q g sb cb sc : Nat} {fa : Option Addr} {fn fc : Nat} {L : Wal.L} {d : Disk.Dk} (h : RW F w q g sb cb sc fa fn fc L d) (hfit : Wal.Fits L) (a : Option Addr) (n ca : Nat) (p : List UInt8) (hp : SlB w a n ca p) {z : Int} {L' : Wal.L} {d' : Disk.Dk} (hr : Wal.append L d p = (z, L', d')) :
    Calls Tryz.prog 10 #[.pointer (some ⟨q, 0, none⟩), .slice a n ca] w fun e w' => e = .returned (.int .i64 z) ∧ ∃ F', RW F' w' q g sb cb sc fa fn fc L' d' ∧ Upd (fun k => F k ∨ k = q) w (fun k => F' k ∨ k = q) w' := by
  obtain ⟨c0, c1, c2, c3, c4, c5, c6, c7⟩ := h.log.cells
  have hpl := hp.len
  have hpe := hp.le
  have hql := h.log.lt
  have hap := h.apart
  obtain ⟨f1, f2, f3, f4, f5, f6, f7⟩ := hfit
  unfold Wal.append at hr
  by_cases hf : L.fl = true
  · rw [if_pos hf] at hr
    cases hr
    rw [hf] at c7
    go_enter Tryz.func10, Tryz.ntmps10
    go_wp2
    go_ret
    exact ⟨rfl, F, h, Upd.refl _ _⟩
  rw [if_neg hf] at hr
  have hf' : L.fl = false := by simpa using hf
  rw [hf'] at c7
  have w3 : IntKind.u32.wrap (L.rc : Int) = (L.rc : Int) := by unfold IntKind.wrap; simp [IntKind.bits, IntKind.signed]; omega
  by_cases hbig : 1024 < p.length
  · rw [if_pos hbig] at hr
    cases hr
    have HE := Lib.hid (fun W => fref_encode_long L.ep L.rc a n ca W (by omega) hpe)
    clear hbig hf
    go_enter Tryz.func10, Tryz.ntmps10
    go_wp2_with fail
    go_region_held3 (fun w' => w'.cell? ⟨q, 3, none⟩ = some (.int .u32 (L.ep : Nat)) ∧ w'.cell? ⟨q, 5, none⟩ = some (.int .i64 (L.rc : Nat))) (first | exact ⟨c3, c5⟩) (first
      | (go_at_call 38; go_must (refine (HE.out _).mono ?_); rintro e w1 ⟨rfl, rfl⟩))
    go_wp2_with fail
    go_ret
    exact ⟨rfl, F, ⟨h.disk.stay (fun _ _ => rfl) (Nat.le_refl _), h.log, hap⟩, (Upd.refl _ _).drew⟩
  rw [if_neg hbig] at hr
  have hlen := Frame.enc_length L.ep L.rc p
  have HE := Lib.hid (fun W (e : Below w.heap.size w W) => fref_encode_ok L.ep L.rc f3 (by omega) a n ca p W (hp.ext e) (by omega))
  have HSZ := Lib.hid (fun W => re_size L.f L.c f2 W)
  obtain ⟨fr, hfr⟩ : ∃ fr, Frame.enc L.ep L.rc p = fr := ⟨_, rfl⟩
  rw [hfr] at hlen HE hr
  obtain ⟨m, hm⟩ : ∃ m, m = 14 + p.length := ⟨_, rfl⟩
  rw [← hm] at hlen hr
  have HLN := Lib.hid hlen
  have hB0 : Below w.heap.size w w.drew := Below.drew (Below.refl _ _)
  have hmb : m ≤ 2000 := by omega
  obtain ⟨sz, hsz⟩ : ∃ sz, Extent.size L.c = sz := ⟨_, rfl⟩
  rw [hsz] at f6 f7 hr HSZ
  clear hlen hsz hbig hf hm hpl
  have hwz : IntKind.i64.wrap (sz - (L.en : Int)) = sz - (L.en : Int) := by rw [IntKind.wrap_i64]; omega
  by_cases hfull : sz - (L.en : Int) < (m : Int)
  · rw [if_pos hfull] at hr
    cases hr
    go_enter Tryz.func10, Tryz.ntmps10
    go_wp2_with fail
    go_region_held3 (fun w' => w'.cell? ⟨q, 3, none⟩ = some (.int .u32 (L.ep : Nat)) ∧ w'.cell? ⟨q, 5, none⟩ = some (.int .i64 (L.rc : Nat))) (first | exact ⟨c3, c5⟩ | exact ⟨a3, a5⟩) (first
      | (go_at_call 38; go_must (refine (HE.out _ hB0).mono ?_); rintro e w1 ⟨v1, rfl, hO1, hb1⟩; have hB1 : Below w.heap.size w w1 := hB0.trans hb1; obtain ⟨a1, k1, rfl, hs1, hg1⟩ := hO1.sl; rw [HLN.out] at hs1; rw [HLN.out]; have hL1 := h.log.ext hB1; have a3 := hL1.cells.2.2.2.1; have a5 := hL1.cells.2.2.2.2.2.1; have x1 := hL1.cells.2.1; have x2 := hL1.cells.2.2.1; have x4 := hL1.cells.2.2.2.2.1))
    go_wp2_with fail
    go_region_held3 (fun w' => w'.cell? ⟨q, 1, none⟩ = some (.int .i64 L.f) ∧ w'.cell? ⟨q, 2, none⟩ = some (.int .i64 L.c) ∧ w'.cell? ⟨q, 4, none⟩ = some (.int .i64 (L.en : Nat))) (first | exact ⟨x1, x2, x4⟩ | exact ⟨y1, y2, y4⟩) (first
      | (go_at_call 39; go_must (refine (HSZ.out _).mono ?_); rintro e w2 ⟨rfl, hb2⟩; have hB2 : Below w.heap.size w w2 := (Below.drew hB1).trans (hb2.mono hB1.size); have hL2 := h.log.ext hB2; have y1 := hL2.cells.2.1; have y2 := hL2.cells.2.2.1; have y4 := hL2.cells.2.2.2.2.1))
    go_wp2_with fail
    go_ret
    exact ⟨rfl, F, ⟨h.disk.ext hB2, hL2, hap⟩, Upd.of_ext hB2⟩
  rw [if_neg hfull] at hr
  obtain ⟨z1, d1, hw⟩ : ∃ z1 d1, Extent.write d L.f L.c L.en fr = (z1, d1) := ⟨_, _, rfl⟩
  rw [hw] at hr
  simp only at hr
  have HW : Hid (∀ (W : World), Below w.heap.size w W → ∀ (b : Option Addr) (k : Nat), SlB W b m k fr → (∀ y, b = some y → fr ≠ [] → ¬ F y.block) → Calls Tryz.prog 40 #[.pointer (some ⟨g, 0, none⟩), .agg #[.int .i64 L.f, .int .i64 L.c], .int .i64 (L.en : Nat), .slice b m k] W fun e w' => e = .returned (.int .i64 z1) ∧ ∃ F', RD F' w' g sb cb sc fa fn fc d1 ∧ Upd F W F' w') := Lib.hid (fun W e b k hs hF => by
    have := re_write (h.disk.ext e) L.f L.c L.en f1 f2 ⟨by omega, by omega⟩ b m k fr hs hF
    unfold RExWritePost at this; rw [hw] at this; exact this)
  clear hw
  by_cases hz : z1 = 0
  · subst hz
    rw [if_pos rfl] at hr
    cases hr
    go_enter Tryz.func10, Tryz.ntmps10
    go_wp2_with fail
    go_region_held3 (fun w' => w'.cell? ⟨q, 3, none⟩ = some (.int .u32 (L.ep : Nat)) ∧ w'.cell? ⟨q, 5, none⟩ = some (.int .i64 (L.rc : Nat))) (first | exact ⟨c3, c5⟩ | exact ⟨a3, a5⟩) (first
      | (go_at_call 38; go_must (refine (HE.out _ hB0).mono ?_); rintro e w1 ⟨v1, rfl, hO1, hb1⟩; have hB1 : Below w.heap.size w w1 := hB0.trans hb1; obtain ⟨a1, k1, rfl, hs1, hg1⟩ := hO1.sl; rw [HLN.out] at hs1; rw [HLN.out]; have hL1 := h.log.ext hB1; have a3 := hL1.cells.2.2.2.1; have a5 := hL1.cells.2.2.2.2.2.1; have x1 := hL1.cells.2.1; have x2 := hL1.cells.2.2.1; have x4 := hL1.cells.2.2.2.2.1))
    go_wp2_with fail
    go_region_held3 (fun w' => w'.cell? ⟨q, 1, none⟩ = some (.int .i64 L.f) ∧ w'.cell? ⟨q, 2, none⟩ = some (.int .i64 L.c) ∧ w'.cell? ⟨q, 4, none⟩ = some (.int .i64 (L.en : Nat))) (first | exact ⟨x1, x2, x4⟩ | exact ⟨y1, y2, y4⟩) (first
      | (go_at_call 39; go_must (refine (HSZ.out _).mono ?_); rintro e w2 ⟨rfl, hb2⟩; have hb2' : Below w1.heap.size w1 w2 := (Below.drew (Below.refl _ _)).trans hb2; have hB2 : Below w.heap.size w w2 := hB1.trans (hb2'.mono hB1.size); have hL2 := h.log.ext hB2; have y0 := hL2.cells.1; have y1 := hL2.cells.2.1; have y2 := hL2.cells.2.2.1; have y4 := hL2.cells.2.2.2.2.1))
    go_wp2_with fail
    have HWW := Lib.hid (HW.out w2.drew (Below.drew hB2) a1 k1 ((hs1.ext hb2').stay (fun _ _ _ => rfl) (Nat.le_refl _)) (fun y hy _ e => by have k1 := (hg1 y hy).2.1; have k2 := h.disk.lt _ e; have k3 : w.drew.heap.size = w.heap.size := rfl; omega))
    go_region_held3 (fun w' => w'.cell? ⟨q, 0, none⟩ = some (.pointer (some ⟨g, 0, none⟩)) ∧ w'.cell? ⟨q, 1, none⟩ = some (.int .i64 L.f) ∧ w'.cell? ⟨q, 2, none⟩ = some (.int .i64 L.c) ∧ w'.cell? ⟨q, 4, none⟩ = some (.int .i64 (L.en : Nat))) (first | exact ⟨y0, y1, y2, y4⟩ | exact ⟨u0, u1, u2, u4⟩) (first
      | (go_at_call 40; go_must (refine HWW.out.mono ?_); rintro e w3 ⟨rfl, F3, hP3, hU3⟩; have hq3 : ¬ F3 q := (fun e => by rcases hU3.new q e with e | e; exact hap e; have k1 := hB2.size; have k2 : w2.drew.heap.size = w2.heap.size := rfl; omega); have hL3 : RLB w3 q g L := RLB.same (w := w2.drew) hL2 (hU3.block q (Nat.lt_of_lt_of_le hql hB2.size) hap); obtain ⟨u0, u1, u2, u3, u4, u5, u6, u7⟩ := hL3.cells; have fu4 := hL3.free 4; have fu5 := hL3.free 5; have fu7 := hL3.free 7))
    go_wp2_with fail
    go_ret
    have g1 := (hL3.setE (L.en + m)).setR (L.rc + 1)
    refine ⟨rfl, F3, ⟨(hP3.other hq3 _ _).other hq3 _ _, ?_, hq3⟩, ((((Upd.of_ext hB2).drew).trans hU3).beside q).setCell (.inl (.inr rfl)) _ _ |>.setCell (.inl (.inr rfl)) _ _⟩
    simpa using g1
  · have t1 : (z1 != 0) = true := by simpa using hz
    rw [if_neg hz] at hr
    cases hr
    clear hz
    go_enter Tryz.func10, Tryz.ntmps10
    go_wp2_with fail
    go_region_held3 (fun w' => w'.cell? ⟨q, 3, none⟩ = some (.int .u32 (L.ep : Nat)) ∧ w'.cell? ⟨q, 5, none⟩ = some (.int .i64 (L.rc : Nat))) (first | exact ⟨c3, c5⟩ | exact ⟨a3, a5⟩) (first
      | (go_at_call 38; go_must (refine (HE.out _ hB0).mono ?_); rintro e w1 ⟨v1, rfl, hO1, hb1⟩; have hB1 : Below w.heap.size w w1 := hB0.trans hb1; obtain ⟨a1, k1, rfl, hs1, hg1⟩ := hO1.sl; rw [HLN.out] at hs1; rw [HLN.out]; have hL1 := h.log.ext hB1; have a3 := hL1.cells.2.2.2.1; have a5 := hL1.cells.2.2.2.2.2.1; have x1 := hL1.cells.2.1; have x2 := hL1.cells.2.2.1; have x4 := hL1.cells.2.2.2.2.1))
    go_wp2_with fail
    go_region_held3 (fun w' => w'.cell? ⟨q, 1, none⟩ = some (.int .i64 L.f) ∧ w'.cell? ⟨q, 2, none⟩ = some (.int .i64 L.c) ∧ w'.cell? ⟨q, 4, none⟩ = some (.int .i64 (L.en : Nat))) (first | exact ⟨x1, x2, x4⟩ | exact ⟨y1, y2, y4⟩) (first
      | (go_at_call 39; go_must (refine (HSZ.out _).mono ?_); rintro e w2 ⟨rfl, hb2⟩; have hb2' : Below w1.heap.size w1 w2 := (Below.drew (Below.refl _ _)).trans hb2; have hB2 : Below w.heap.size w w2 := hB1.trans (hb2'.mono hB1.size); have hL2 := h.log.ext hB2; have y0 := hL2.cells.1; have y1 := hL2.cells.2.1; have y2 := hL2.cells.2.2.1; have y4 := hL2.cells.2.2.2.2.1))
    go_wp2_with fail
    have HWW := Lib.hid (HW.out w2.drew (Below.drew hB2) a1 k1 ((hs1.ext hb2').stay (fun _ _ _ => rfl) (Nat.le_refl _)) (fun y hy _ e => by have k1 := (hg1 y hy).2.1; have k2 := h.disk.lt _ e; have k3 : w.drew.heap.size = w.heap.size := rfl; omega))
    go_region_held3 (fun w' => w'.cell? ⟨q, 0, none⟩ = some (.pointer (some ⟨g, 0, none⟩)) ∧ w'.cell? ⟨q, 1, none⟩ = some (.int .i64 L.f) ∧ w'.cell? ⟨q, 2, none⟩ = some (.int .i64 L.c) ∧ w'.cell? ⟨q, 4, none⟩ = some (.int .i64 (L.en : Nat))) (first | exact ⟨y0, y1, y2, y4⟩ | exact ⟨u0, u1, u2, u4⟩) (first
      | (go_at_call 40; go_must (refine HWW.out.mono ?_); rintro e w3 ⟨rfl, F3, hP3, hU3⟩; have hq3 : ¬ F3 q := (fun e => by rcases hU3.new q e with e | e; exact hap e; have k1 := hB2.size; have k2 : w2.drew.heap.size = w2.heap.size := rfl; omega); have hL3 : RLB w3 q g L := RLB.same (w := w2.drew) hL2 (hU3.block q (Nat.lt_of_lt_of_le hql hB2.size) hap); obtain ⟨u0, u1, u2, u3, u4, u5, u6, u7⟩ := hL3.cells; have fu4 := hL3.free 4; have fu5 := hL3.free 5; have fu7 := hL3.free 7))
    go_wp2_with fail
    go_ret
    exact ⟨rfl, F3, ⟨hP3.other hq3 _ _, hL3.setF true, hq3⟩, ((((Upd.of_ext hB2).drew).trans hU3).beside q).setCell (.inl (.inr rfl)) _ _⟩

end Go.Proofs.YtabeelcidlhniaaGreat

/-
  The reference's log: Open.
-/
namespace Go.Proofs.YtabeelcidlhniaaGreat
open Go.RowKit

def RWOpenPost (F : Nat → Prop) (w : World) (g sb cb sc : Nat) (fa : Option Addr) (fn fc : Nat) (r : Option Wal.L × List (List UInt8) × Int × Disk.Dk) (e : Ending) (w' : World) : Prop :=
  match r with
  | (none, _, z, d') => e = .returned (.tuple #[.pointer none, .slice none 0 0, .int .i64 z]) ∧ ∃ F', RD F' w' g sb cb sc fa fn fc d' ∧ Upd F w F' w'
  | (some L, ps, z, d') => ∃ F' q v, e = .returned (.tuple #[.pointer (some ⟨q, 0, none⟩), v, .int .i64 z]) ∧ w.heap.size ≤ q ∧ OwnL w.heap.size w' v ps ∧ RW F' w' q g sb cb sc fa fn fc L d' ∧ Upd F w F' w'

theorem run_makeN (n : Nat) (hn : n ≤ 1000000) (w : World) : ∃ w' c, Sem.run Tryz.prog (Instr.makeSlice 37 (.int .i64 (n : Int)) (.int .i64 (n : Int))) w = .ok (Value.slice (some ⟨w.heap.size, 0, none⟩) n c) w' ∧ SlB w' (some ⟨w.heap.size, 0, none⟩) n c (List.replicate n 0) ∧ Below w.heap.size w w' := by
  obtain ⟨i0, hi, hz0, hz1, hz2⟩ := info_parts info5
  obtain ⟨w', hrun, r1, r2⟩ := run_make_full (P := Tryz.prog) w w.heap.size 37 5 i0 (.int .u8 0) 1 Tryz.underlying37 hi hz0 hz1 .i64 .i64 n (by rw [hz2]; omega) (by unfold maxLen; omega) (Nat.le_refl _)
  rw [madeB n] at r1
  have hO : OwnB w.heap.size w' (.slice (some ⟨w.heap.size, 0, none⟩) n n) (List.replicate n 0) := by unfold OwnB; rw [List.length_replicate]; exact r1
  obtain ⟨a, c, e, hs, -⟩ := hO.sl
  rw [List.length_replicate] at e hs
  refine ⟨w', n, hrun, ?_, (Below.refl _ _).grown r2 (Nat.le_refl _) (fun k hk => by cases hk)⟩
  cases e; exact hs

set_option maxRecDepth 100000 in
set_option maxHeartbeats 8000000 in
theorem rl_open {F : Nat → Prop} {w : World} {g sb cb sc : Nat} {fa : Option Addr} {fn fc : Nat} {d : Disk.Dk} (h : RD F w g sb cb sc fa fn fc d) (f c : Int) (hf : ib f) (hc : ib c) (ep : Nat) (hep : ep < 4294967296) (hn : d.st.length ≤ 1000) :
    Calls Tryz.prog 19 #[.pointer (some ⟨g, 0, none⟩), .agg #[.int .i64 f, .int .i64 c], .int .u32 (ep : Nat)] w (RWOpenPost F w g sb cb sc fa fn fc (Wal.open d f c ep)) := by
  have hb := (Below.refl _ w).alloc (Nat.le_refl _) (.cells #[.int .i64 f, .int .i64 c] 23)
  have HV := Lib.hid (re_valid (h.ext ((Below.refl _ w).alloc (Nat.le_refl _) (.cells #[.int .i64 f, .int .i64 c] 23))) f c)
  have hbox : XBox (w.alloc (.cells #[.int .i64 f, .int .i64 c] 23)) w.heap.size f c := heap_alloc_eq _ _ _ rfl
  have hbz : (w.alloc (.cells #[.int .i64 f, .int .i64 c] 23)).heap.size = w.heap.size + 1 := by simp
  obtain ⟨b, z, d1, hr⟩ : ∃ b z d1, Extent.read d f c 0 (Extent.size c) = (b, z, d1) := ⟨_, _, _, rfl⟩
  obtain ⟨vb, hvb⟩ : ∃ vb, Extent.valid d.st.length f c = vb := ⟨_, rfl⟩
  rw [hvb] at HV
  cases vb with
  | false =>
    have hz1 : Extent.read d f c 0 (Extent.size c) = ([], 1, d) := by
      unfold Extent.read Extent.check
      rw [hvb]; simp
    have HO := Lib.hid (Wal.open_e1 (ep := ep) hz1 (by decide))
    clear hz1 hvb hr
    go_enter Tryz.func19, Tryz.ntmps19
    go_wp2_with (go_at_call 52; go_must (refine HV.out.mono ?_); rintro e1 w1 ⟨rfl, hb1⟩)
    go_ret3
    rw [HO.out]
    have hB := hb.trans (hb1.mono (by rw [hbz]; exact Nat.le_succ _))
    exact ⟨rfl, F, h.ext hB, Upd.of_ext hB⟩
  | true =>
    clear hvb
    have HSZ := Lib.hid (fun W => re_size f c hc W)
    have HRE := Lib.hid (fun W (e : Below w.heap.size w W) => by
      have := re_read (h.ext e) f c 0 (Extent.size c) hf hc ⟨by decide, by decide⟩ (size_ib c)
      unfold RExReadPost at this; rw [hr] at this; exact this)
    have HRD := Lib.hid hr
    obtain ⟨sz, hsz⟩ : ∃ sz, Extent.size c = sz := ⟨_, rfl⟩
    have HSE := Lib.hid hsz
    rw [hsz] at HSZ HRE
    have hlt := h.lt
    have hRX := Lib.hid (fun hz : z = 0 => Wal.read_all h.ok hn (by rw [hr, hz]))
    clear hr hsz
    have q0 := hbox.cells.1
    by_cases hz : z = 0
    · subst hz
      obtain ⟨r1, r2, r3⟩ := hRX.out rfl
      obtain ⟨en, hen⟩ : ∃ en, en = (Frame.scan b ep).2 := ⟨_, rfl⟩
      obtain ⟨ps, hps⟩ : ∃ ps, ps = (Frame.scan b ep).1 := ⟨_, rfl⟩
      have hsc : Frame.scan b ep = (ps, en) := by rw [hen, hps]
      have hle := Frame.scan_le b ep
      rw [hsc] at hle
      obtain ⟨l1, l2⟩ := hle
      simp only at l1 l2
      have HSC := Lib.hid hsc
      obtain ⟨N, hN⟩ : ∃ N, b.length = N := ⟨_, rfl⟩
      rw [hN] at r1 r2 l1
      have HN := Lib.hid hN
      obtain ⟨z2, d2, he⟩ : ∃ z2 d2, Wal.erase d1 f c en (b.drop en) = (z2, d2) := ⟨_, _, rfl⟩
      have HER := Lib.hid (show Wal.erase d1 f c (Frame.scan b ep).2 (b.drop (Frame.scan b ep).2) = (z2, d2) by rw [hsc]; exact he)
      have HE := Lib.hid he
      have HFS := Lib.hid (fun W (a : Option Addr) (k : Nat) (hs : SlB W a N k b) => by
        have := fref_scan a N k b ep hep W hs (by omega)
        unfold ScanPost at this; rw [hsc] at this; exact this)
      clear hsc hen hps hN he r3 hRX
      go_enter Tryz.func19, Tryz.ntmps19
      go_wp2_with (go_at_call 52; go_must (refine HV.out.mono ?_); rintro e1 w1 ⟨rfl, hb1⟩)
      have hB1 : Below w.heap.size w w1 := hb.trans (hb1.mono (by rw [hbz]; exact Nat.le_succ _))
      have hbx1 : XBox w1 w.heap.size f c := (hb1.block _ (by rw [hbz]; exact Nat.lt_succ_self _)).trans hbox
      obtain ⟨x0, x1⟩ := hbx1.cells
      go_region_held3 (fun w' => w'.cell? ⟨w.heap.size, 0, none⟩ = some (.int .i64 f) ∧ w'.cell? ⟨w.heap.size, 1, none⟩ = some (.int .i64 c)) (first | exact ⟨x0, x1⟩ | exact ⟨u0, u1⟩ | exact ⟨y0, y1⟩) (first
        | (go_at_call 39; go_must (refine (HSZ.out _).mono ?_); rintro e2 w2 ⟨rfl, hb2⟩; have hb2' : Below w1.heap.size w1 w2 := (Below.drew (Below.refl _ _)).trans hb2; have hB2 := hB1.trans (hb2'.mono hB1.size); have hbx2 : XBox w2 w.heap.size f c := (hb2'.block _ (heap_lt hbx1)).trans hbx1; obtain ⟨u0, u1⟩ := hbx2.cells)
        | (go_at_call 53; go_must (refine (HRE.out _ hB2).mono ?_); rintro e3 w3 ⟨v3, rfl, hO3, hP3, hU3⟩; obtain ⟨g3, c3, rfl, hc3, hg3, hs3⟩ := ownb_rowN hO3 N HN.out (by omega); have hbx3 : XBox w3 w.heap.size f c := (hU3.block _ (heap_lt hbx2) (fun e => Nat.lt_irrefl _ (hlt _ e))).trans hbx2; obtain ⟨y0, y1⟩ := hbx3.cells))
      go_wp2_with (go_at_call 54; go_must (refine (HFS.out _ _ _ hs3).mono ?_); rintro e4 w4 ⟨v4, rfl, hO4, hb4⟩)
      have hU4 : Upd F w F w4 := ((Upd.of_ext hB2).trans hU3).ext hb4
      have hP4 := hP3.ext hb4
      have hs4 := hs3.ext hb4
      have hbx4 : XBox w4 w.heap.size f c := (hb4.block _ (heap_lt hbx3)).trans hbx3
      have hz3' : w.heap.size ≤ w3.heap.size := Nat.le_trans hB2.size hU3.size
      have hF3 : ∀ k, F k → k < w3.heap.size := hP3.lt
      clear hO3 hP3 hs3 hbx3 hbx2 hbx1 y0 y1 u0 u1 x0 x1 hb1 hb2 hb2' HSZ HRE HFS HV hU3 hb4
      obtain ⟨x0, x1⟩ := hbx4.cells
      have hbF : ¬ F w.heap.size := fun e => Nat.lt_irrefl _ (hlt _ e)
      have HZ := Lib.hid (fun (k : Nat) (hk : en + k < N) => zeros_snoc b en k (by rw [HN.out]; exact hk))
      go_loopw [13, 14] (fun cl i wr => ∃ k : Nat, en + k ≤ N ∧ i = .int .i64 ((en + k : Nat) : Int) ∧ cl = .bool (zeros ((b.drop en).take k)) ∧ wr = w4) (fun _ i _ => N - (intOf i).toNat)
      case atStart => exact ⟨0, l1, rfl, rfl, rfl⟩
      case round =>
        obtain ⟨k, hk, rfl, rfl, rfl⟩ := hrel
        by_cases hlk : en + k < N
        · obtain ⟨_, _, e5, -, -, cB⟩ := hs4.at hlk
          cases e5
          have hzz := HZ.out k hlk
          obtain ⟨zk, hzk⟩ : ∃ zk, zeros ((b.drop en).take k) = zk := ⟨_, rfl⟩
          obtain ⟨zk1, hzk1⟩ : ∃ zk1, zeros ((b.drop en).take (k + 1)) = zk1 := ⟨_, rfl⟩
          rw [hzk, hzk1] at hzz
          obtain ⟨x, hx⟩ : ∃ x, b[en + k]?.getD 0 = x := ⟨_, rfl⟩
          rw [hx] at cB hzz
          rw [hzk]
          have HK := Lib.hid (And.intro hzz hzk1)
          obtain ⟨p, hp⟩ : ∃ p, p = en + k := ⟨_, rfl⟩
          rw [← hp] at hlk cB hk
          rw [Nat.zero_add] at cB
          rw [← hp]
          have HPP := Lib.hid hp
          have i0 : (0 : Int) ≤ (p : Int) := by omega
          have i1 : (p : Int) < (N : Int) := by omega
          clear hzz hzk hzk1 hx hp
          cases zk with
          | false =>
            go_wp2
            exact ⟨⟨k + 1, by have := HPP.out; omega, by have := HPP.out; rw [show en + (k + 1) = p + 1 by omega]; go_num, by rw [HK.out.2, HK.out.1]; rfl, trivial⟩, by simp [intOf]; omega⟩
          | true =>
            by_cases hx0 : x = 0
            · subst hx0
              have cB0 : wr.cell? _ = some (.int .u8 0) := cB
              clear cB
              go_wp2
              exact ⟨⟨k + 1, by have := HPP.out; omega, by have := HPP.out; rw [show en + (k + 1) = p + 1 by omega]; go_num, by rw [HK.out.2, HK.out.1]; rfl, trivial⟩, by simp [intOf]; omega⟩
            · have tx : ((x.toNat : Int) == 0) = false := by
                apply beq_eq_false_iff_ne.2
                intro e9; exact hx0 (UInt8.toNat_inj.1 (by simpa using e9))
              have tb : (x == 0) = false := by simpa using hx0
              have HTB := Lib.hid tb
              clear hx0 tb
              go_wp2
              exact ⟨⟨k + 1, by have := HPP.out; omega, by have := HPP.out; rw [show en + (k + 1) = p + 1 by omega]; go_num, by rw [HK.out.2, HK.out.1, HTB.out]; rfl, trivial⟩, by simp [intOf]; omega⟩
        · have hkN : en + k = N := by omega
          have hall : (b.drop en).take k = b.drop en := List.take_of_length_le (by rw [List.length_drop, HN.out]; omega)
          rw [hall, hkN]
          have hE2 := HE.out
          unfold Wal.erase at hE2
          obtain ⟨zz, hzz⟩ : ∃ zz, zeros (b.drop en) = zz := ⟨_, rfl⟩
          rw [hzz] at hE2 ⊢
          clear hall hkN hzz HZ hlk hk
          cases zz with
          | true =>
            rw [if_pos rfl] at hE2
            have e1 : z2 = 0 := (congrArg Prod.fst hE2).symm
            have e2 : d2 = d1 := (congrArg Prod.snd hE2).symm
            clear hE2 HE
            subst e1
            subst e2
            have hP5 := hP4
            have hU45 : Upd F wr F wr := Upd.refl _ _
            obtain ⟨z3, d3, hs⟩ : ∃ z3 d3, Disk.sync d2 = (z3, d3) := ⟨_, _, rfl⟩
            have hsy := rd_sync hP5
            rw [hs] at hsy
            have HSY := Lib.hid hsy
            by_cases hz3 : z3 = 0
            · subst hz3
              have HOPN := Lib.hid (Wal.open_o HRD.out HER.out hs)
              rw [HSC.out] at HOPN
              clear hs hsy
              go_wp2_with (go_at_call 42; go_must (refine HSY.out.mono ?_); rintro e6 w6 ⟨rfl, hP6, hU6⟩; have hbx6 : XBox w6 w.heap.size f c := ((hU45.trans hU6).block w.heap.size (heap_lt hbx4) hbF).trans hbx4; obtain ⟨y0, y1⟩ := hbx6.cells; have hO6 := (hO4.keep (fun k hk hkl => (hU45.trans hU6).block k hkl (fun e => by have := hF3 k e; omega))).mono hz3'; obtain ⟨a6, c6, rfl, hs6⟩ := hO6.sl)
              go_ret3
              rw [HOPN.out]
              have hal : Below w6.heap.size w6 (w6.alloc (.cells #[.pointer (some ⟨g, 0, none⟩), .int .i64 f, .int .i64 c, .int .u32 (ep : Nat), .int .i64 (en : Nat), .int .i64 (ps.length : Nat), .int .i64 (ps.length : Nat), .bool false] 73)) := (Below.refl _ _).alloc (Nat.le_refl _) _
              have hU6' := hU4.trans (hU45.trans hU6)
              exact ⟨F, w6.heap.size, _, rfl, hU6'.size, hO6.ext hal, ⟨hP6.ext hal, heap_alloc_eq _ _ _ rfl, fun e => Nat.lt_irrefl _ (hP6.lt _ e)⟩, hU6'.ext hal⟩
            · have t3 : (z3 != 0) = true := by simpa using hz3
              have HOPN := Lib.hid (Wal.open_e3 HRD.out HER.out hs hz3)
              clear hs hsy hz3
              go_wp2_with (go_at_call 42; go_must (refine HSY.out.mono ?_); rintro e6 w6 ⟨rfl, hP6, hU6⟩)
              go_ret3
              rw [HOPN.out]
              exact ⟨rfl, F, hP6, hU4.trans (hU45.trans hU6)⟩
          | false =>
            rw [if_neg (by decide)] at hE2
            obtain ⟨m, hm⟩ : ∃ m, (b.drop en).length = m := ⟨_, rfl⟩
            rw [hm] at hE2
            rw [List.length_drop, HN.out] at hm
            have hmi : (N : Int) - (en : Int) = (m : Int) := by omega
            have hmw : IntKind.i64.wrap (m : Int) = (m : Int) := by rw [IntKind.wrap_i64]; omega
            have hmb : m ≤ 1000000 := by omega
            obtain ⟨wm, cm, hrun, hsm, hbm⟩ := run_makeN m hmb wr.drew
            have hbm' : Below wr.heap.size wr wm := (Below.drew (Below.refl _ _)).trans hbm
            have hbxm : XBox wm w.heap.size f c := (hbm'.block _ (heap_lt hbx4)).trans hbx4
            obtain ⟨m0, m1⟩ := hbxm.cells
            have HW := Lib.hid (show Calls Tryz.prog 40 #[.pointer (some ⟨g, 0, none⟩), .agg #[.int .i64 f, .int .i64 c], .int .i64 (en : Nat), .slice (some ⟨wr.drew.heap.size, 0, none⟩) m cm] wm fun e w' => e = .returned (.int .i64 z2) ∧ ∃ F', RD F' w' g sb cb sc fa fn fc d2 ∧ Upd F wm F' w' by
              have := re_write (hP4.ext hbm') f c en hf hc ⟨by omega, by omega⟩ (some ⟨wr.drew.heap.size, 0, none⟩) m cm (List.replicate m 0) hsm (fun y hy _ e => by cases hy; exact Nat.lt_irrefl _ (hP4.lt _ e))
              unfold RExWritePost at this; rw [hE2] at this; exact this)
            clear hE2 HE hm
            by_cases hz2 : z2 = 0
            · subst hz2
              go_wp2_with fail
              go_region_held3 (fun w' => w'.cell? ⟨w.heap.size, 0, none⟩ = some (.int .i64 f) ∧ w'.cell? ⟨w.heap.size, 1, none⟩ = some (.int .i64 c)) (first | exact ⟨x0, x1⟩ | exact ⟨m0, m1⟩ | exact ⟨k0, k1⟩) (first
                | (go_at_call 40; go_must (refine HW.out.mono ?_); rintro e5 w5 ⟨rfl, F5, hP5, hU5⟩; have hbx5 : XBox w5 w.heap.size f c := (hU5.block _ (heap_lt hbxm) hbF).trans hbxm; obtain ⟨k0, k1⟩ := hbx5.cells))
              have hU45 : Upd F wr F5 w5 := (Upd.of_ext hbm').trans hU5
              obtain ⟨z3, d3, hs⟩ : ∃ z3 d3, Disk.sync d2 = (z3, d3) := ⟨_, _, rfl⟩
              have hsy := rd_sync hP5
              rw [hs] at hsy
              have HSY := Lib.hid hsy
              by_cases hz3 : z3 = 0
              · subst hz3
                have HOPN := Lib.hid (Wal.open_o HRD.out HER.out hs)
                rw [HSC.out] at HOPN
                clear hs hsy
                go_wp2_with (go_at_call 42; go_must (refine HSY.out.mono ?_); rintro e6 w6 ⟨rfl, hP6, hU6⟩; have hbx6 : XBox w6 w.heap.size f c := ((hU45.trans hU6).block w.heap.size (heap_lt hbx4) hbF).trans hbx4; obtain ⟨y0, y1⟩ := hbx6.cells; have hO6 := (hO4.keep (fun k hk hkl => (hU45.trans hU6).block k hkl (fun e => by have := hF3 k e; omega))).mono hz3'; obtain ⟨a6, c6, rfl, hs6⟩ := hO6.sl)
                go_ret3
                rw [HOPN.out]
                have hal : Below w6.heap.size w6 (w6.alloc (.cells #[.pointer (some ⟨g, 0, none⟩), .int .i64 f, .int .i64 c, .int .u32 (ep : Nat), .int .i64 (en : Nat), .int .i64 (ps.length : Nat), .int .i64 (ps.length : Nat), .bool false] 73)) := (Below.refl _ _).alloc (Nat.le_refl _) _
                have hU6' := hU4.trans (hU45.trans hU6)
                exact ⟨F5, w6.heap.size, _, rfl, hU6'.size, hO6.ext hal, ⟨hP6.ext hal, heap_alloc_eq _ _ _ rfl, fun e => Nat.lt_irrefl _ (hP6.lt _ e)⟩, hU6'.ext hal⟩
              · have t3 : (z3 != 0) = true := by simpa using hz3
                have HOPN := Lib.hid (Wal.open_e3 HRD.out HER.out hs hz3)
                clear hs hsy hz3
                go_wp2_with (go_at_call 42; go_must (refine HSY.out.mono ?_); rintro e6 w6 ⟨rfl, hP6, hU6⟩)
                go_ret3
                rw [HOPN.out]
                exact ⟨rfl, F5, hP6, hU4.trans (hU45.trans hU6)⟩
            · have t2 : (z2 != 0) = true := by simpa using hz2
              have HOPN := Lib.hid (Wal.open_e2 HRD.out HER.out hz2)
              clear hz2
              go_wp2_with fail
              go_region_held3 (fun w' => w'.cell? ⟨w.heap.size, 0, none⟩ = some (.int .i64 f) ∧ w'.cell? ⟨w.heap.size, 1, none⟩ = some (.int .i64 c)) (first | exact ⟨x0, x1⟩ | exact ⟨m0, m1⟩ | exact ⟨k0, k1⟩) (first
                | (go_at_call 40; go_must (refine HW.out.mono ?_); rintro e5 w5 ⟨rfl, F5, hP5, hU5⟩; have hbx5 : XBox w5 w.heap.size f c := (hU5.block _ (heap_lt hbxm) hbF).trans hbxm; obtain ⟨k0, k1⟩ := hbx5.cells))
              go_wp2_with fail
              go_ret3
              rw [HOPN.out]
              exact ⟨rfl, F5, hP5, hU4.trans ((Upd.of_ext hbm').trans hU5)⟩
    · have t1 : (z != 0) = true := by simpa using hz
      have HOPN := Lib.hid (Wal.open_e1 (ep := ep) HRD.out hz)
      clear hz hRX
      go_enter Tryz.func19, Tryz.ntmps19
      go_wp2_with (go_at_call 52; go_must (refine HV.out.mono ?_); rintro e1 w1 ⟨rfl, hb1⟩)
      have hB1 : Below w.heap.size w w1 := hb.trans (hb1.mono (by rw [hbz]; exact Nat.le_succ _))
      have hbx1 : XBox w1 w.heap.size f c := (hb1.block _ (by rw [hbz]; exact Nat.lt_succ_self _)).trans hbox
      obtain ⟨x0, x1⟩ := hbx1.cells
      go_region_held3 (fun w' => w'.cell? ⟨w.heap.size, 0, none⟩ = some (.int .i64 f) ∧ w'.cell? ⟨w.heap.size, 1, none⟩ = some (.int .i64 c)) (first | exact ⟨x0, x1⟩ | exact ⟨u0, u1⟩ | exact ⟨y0, y1⟩) (first
        | (go_at_call 39; go_must (refine (HSZ.out _).mono ?_); rintro e2 w2 ⟨rfl, hb2⟩; have hb2' : Below w1.heap.size w1 w2 := (Below.drew (Below.refl _ _)).trans hb2; have hB2 := hB1.trans (hb2'.mono hB1.size); have hbx2 : XBox w2 w.heap.size f c := (hb2'.block _ (heap_lt hbx1)).trans hbx1; obtain ⟨u0, u1⟩ := hbx2.cells)
        | (go_at_call 53; go_must (refine (HRE.out _ hB2).mono ?_); rintro e3 w3 ⟨v3, rfl, hO3, hP3, hU3⟩; have hbx3 : XBox w3 w.heap.size f c := (hU3.block _ (heap_lt hbx2) (fun e => Nat.lt_irrefl _ (hlt _ e))).trans hbx2; obtain ⟨y0, y1⟩ := hbx3.cells; obtain ⟨a3, c3, rfl, hs3, -⟩ := hO3.sl))
      go_wp2_with fail
      go_ret3
      rw [HOPN.out]
      exact ⟨rfl, F, hP3, (Upd.of_ext hB2).trans hU3⟩

end Go.Proofs.YtabeelcidlhniaaGreat
