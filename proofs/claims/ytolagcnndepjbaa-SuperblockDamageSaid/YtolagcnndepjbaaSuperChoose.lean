/-
  The walks through Choose, of the package superblock and of its reference.
-/
import Derived.Test.YtolagcnndepjbaaSuperRefDec
import Derived.RegionTactic
namespace Go.Proofs.Ytolagcnndepjbaa
open Go.RowKit

theorem choose_result {fn : Func} {t p u : Tmp} (h : fn.results = #[.tmp t, .cell p 25, .tmp u]) (tmps : Array Value) {w : World} {H : Nat} {s : Super.S} (hb : SBox w H s) (hp : tmps.getD p undef = .pointer (some ⟨H, 0, none⟩)) :
    (results fn tmps).run Try.prog w = .ok (.tuple #[tmps.getD t undef, sv s, tmps.getD u undef]) w := by
  have hl := run_loadVar_row (P := Try.prog) w H _ 25 (scells s) _ _ hb Try.underlying25 rfl (scells_size s)
  have hp' : tmps[p]?.getD undef = .pointer (some ⟨H, 0, none⟩) := by simpa using hp
  simp only [results, h]
  simp [Result.andThen, hp', asAddr, hl]
  rfl

theorem SBox.free {w : World} {H : Nat} {s : Super.S} (h : SBox w H s) (k : Nat) : w.frozen? ⟨H, k, none⟩ = false := frozen_of_row _ _ _ _ _ h
theorem SBox.set5 {w : World} {H : Nat} {s : Super.S} (h : SBox w H s) (s' : Super.S) :
    SBox (((((w.setCell ⟨H, 0, none⟩ (.int .u64 s'.gen)).setCell ⟨H, 1, none⟩ (.int .i64 s'.act)).setCell ⟨H, 2, none⟩ (.int .u32 s'.epoch)).setCell ⟨H, 3, none⟩ (.int .i64 s'.len)).setCell ⟨H, 4, none⟩ (.int .u32 s'.sum)) H s' := by
  unfold SBox
  rw [heap_setCell_same _ _ _ _ _ _ (heap_setCell_same _ _ _ _ _ _ (heap_setCell_same _ _ _ _ _ _ (heap_setCell_same _ _ _ _ _ _ (heap_setCell_same _ _ _ _ _ _ h))))]
  simp

/-- The post of Choose. -/
def ChoosePost (la lb : List UInt8) (w : World) (e : Ending) (w' : World) : Prop :=
  e = .returned (.tuple #[.int .i64 (Super.choose la lb).1, sv (Super.choose la lb).2.1, .int .i64 (Super.choose la lb).2.2]) ∧ Below w.heap.size w w'

set_option maxHeartbeats 2000000 in
set_option maxRecDepth 100000 in
theorem sb_choose (a b : Option Addr) (n m c d : Nat) (la lb : List UInt8) (w : World) (ha : SlB w a n c la) (hb : SlB w b m d lb) :
    Calls Try.prog 23 #[.slice a n c, .slice b m d] w (ChoosePost la lb w) := by
  have hca := sb_decode a n c la
  have hcb := sb_decode b m d lb
  have hch : Super.choose la lb = if (Super.dec la).2 ≠ 0 ∧ (Super.dec lb).2 ≠ 0 then (0, Super.zero, 13) else if (Super.dec la).2 ≠ 0 ∨ ((Super.dec lb).2 = 0 ∧ (Super.dec la).1.gen < (Super.dec lb).1.gen) then (1, (Super.dec lb).1, 0) else (0, (Super.dec la).1, 0) := rfl
  unfold DecPost at hca hcb
  obtain ⟨⟨sa, ra⟩, hda⟩ : ∃ x, x = Super.dec la := ⟨_, rfl⟩
  obtain ⟨⟨sb, rb⟩, hdb⟩ : ∃ x, x = Super.dec lb := ⟨_, rfl⟩
  rw [← hda] at hca hch
  rw [← hdb] at hcb hch
  simp only at hca hcb hch
  clear hda hdb
  unfold sv at hca hcb
  have HA := Lib.hid hca; have HB := Lib.hid hcb; have HC := Lib.hid hch
  clear hca hcb hch
  have h1 := hb
  go_enter Try.func23, Try.ntmps23
  go_wp2_with fail
  have hz := heap_alloc_eq w (.cells #[.int .u64 0, .int .i64 0, .int .u32 0, .int .i64 0, .int .u32 0] 25) _ rfl
  have hZ1 : SBox (w.alloc (.cells #[.int .u64 0, .int .i64 0, .int .u32 0, .int .i64 0, .int .u32 0] 25)) w.heap.size Super.zero := hz
  have hbw1 : Below w.heap.size w (w.alloc (.cells #[.int .u64 0, .int .i64 0, .int .u32 0, .int .i64 0, .int .u32 0] 25)) := (Below.refl _ _).alloc (Nat.le_refl _) _
  refine (HA.out _ (ha.ext hbw1)).mono ?_; rintro e w2 ⟨rfl, hy2⟩
  have hZ2 : SBox w2 w.heap.size Super.zero := (hy2.block _ (heap_lt hZ1)).trans hZ1
  have hbw2 := hbw1.trans (hy2.mono hbw1.size)
  clear hz hZ1 hbw1 hy2
  go_wp2_with fail
  have hA3 : SBox (w2.alloc (.cells #[.int .u64 sa.gen, .int .i64 sa.act, .int .u32 sa.epoch, .int .i64 sa.len, .int .u32 sa.sum] 25)) w2.heap.size sa := heap_alloc_eq _ _ _ rfl
  have hZ3 : SBox (w2.alloc (.cells #[.int .u64 sa.gen, .int .i64 sa.act, .int .u32 sa.epoch, .int .i64 sa.len, .int .u32 sa.sum] 25)) w.heap.size Super.zero := (heap_alloc_lt _ _ _ (heap_lt hZ2)).trans hZ2
  have hbw3 := hbw2.alloc hbw2.size (.cells #[.int .u64 sa.gen, .int .i64 sa.act, .int .u32 sa.epoch, .int .i64 sa.len, .int .u32 sa.sum] 25)
  have hlt2 := heap_lt hZ2
  refine (HB.out _ (hb.ext hbw3)).mono ?_; rintro e w4 ⟨rfl, hy4⟩
  have hA4 : SBox w4 w2.heap.size sa := (hy4.block _ (heap_lt hA3)).trans hA3
  have hZ4 : SBox w4 w.heap.size Super.zero := (hy4.block _ (heap_lt hZ3)).trans hZ3
  have hbw4 := hbw3.trans (hy4.mono hbw3.size)
  clear hA3 hZ3 hbw3 hy4 hbw2 hZ2
  have hB5 : SBox (w4.alloc (.cells #[.int .u64 sb.gen, .int .i64 sb.act, .int .u32 sb.epoch, .int .i64 sb.len, .int .u32 sb.sum] 25)) w4.heap.size sb := heap_alloc_eq _ _ _ rfl
  have hA5 : SBox (w4.alloc (.cells #[.int .u64 sb.gen, .int .i64 sb.act, .int .u32 sb.epoch, .int .i64 sb.len, .int .u32 sb.sum] 25)) w2.heap.size sa := (heap_alloc_lt _ _ _ (heap_lt hA4)).trans hA4
  have hZ5 : SBox (w4.alloc (.cells #[.int .u64 sb.gen, .int .i64 sb.act, .int .u32 sb.epoch, .int .i64 sb.len, .int .u32 sb.sum] 25)) w.heap.size Super.zero := (heap_alloc_lt _ _ _ (heap_lt hZ4)).trans hZ4
  have hbw5 := hbw4.alloc hbw4.size (.cells #[.int .u64 sb.gen, .int .i64 sb.act, .int .u32 sb.epoch, .int .i64 sb.len, .int .u32 sb.sum] 25)
  have hlt4 := heap_lt hZ4
  have hlt5 := heap_lt hA4
  by_cases hra : ra = 0
  · have ta : (ra == 0) = true := by simp [hra]
    have ta' : (ra != 0) = false := by simp [hra]
    by_cases hrb : rb = 0
    · have tb : (rb == 0) = true := by simp [hrb]
      have tb' : (rb != 0) = false := by simp [hrb]
      by_cases hgt : sa.gen < sb.gen
      · have HC2 := Lib.hid ((HC.out.trans (if_neg (fun h => h.1 hra))).trans (if_pos (Or.inr ⟨hrb, hgt⟩)))
        clear hra hrb
        obtain ⟨q0, q1, q2, q3, q4⟩ := hB5.cells
        obtain ⟨p0, p1, p2, p3, p4⟩ := hA5.cells
        obtain ⟨z0, z1, z2, z3, z4⟩ := hZ4.cells
        have f0 := hZ4.free 0; have f1 := hZ4.free 1; have f2 := hZ4.free 2; have f3 := hZ4.free 3; have f4 := hZ4.free 4
        go_wp2_with fail
        go_region
        go_wp2
        refine bodyPost_ret (v := .tuple #[.int .i64 1, sv sb, .int .i64 0]) (choose_result (t := 4) (p := 5) (u := 6) (H := w.heap.size) rfl _ (show SBox _ w.heap.size sb from (heap_alloc_lt _ _ _ (by simp; omega)).trans (hZ4.set5 sb)) rfl) rfl ⟨by rw [HC2.out], ?_⟩
        exact ((((((hbw4.setCell (Nat.le_refl _) _).setCell (Nat.le_refl _) _).setCell (Nat.le_refl _) _).setCell (Nat.le_refl _) _).setCell (Nat.le_refl _) _).alloc (by simp; omega) _).drew
      · have HC2 := Lib.hid ((HC.out.trans (if_neg (fun h => h.1 hra))).trans (if_neg (fun h => h.elim (fun h => h hra) (fun h => hgt h.2))))
        clear hra hrb
        obtain ⟨q0, q1, q2, q3, q4⟩ := hB5.cells
        obtain ⟨p0, p1, p2, p3, p4⟩ := hA5.cells
        obtain ⟨z0, z1, z2, z3, z4⟩ := hZ4.cells
        have f0 := hZ4.free 0; have f1 := hZ4.free 1; have f2 := hZ4.free 2; have f3 := hZ4.free 3; have f4 := hZ4.free 4
        go_wp2_with fail
        go_region
        go_wp2
        refine bodyPost_ret (v := .tuple #[.int .i64 0, sv sa, .int .i64 0]) (choose_result (t := 4) (p := 5) (u := 6) (H := w.heap.size) rfl _ (show SBox _ w.heap.size sa from (heap_alloc_lt _ _ _ (by simp; omega)).trans (hZ4.set5 sa)) rfl) rfl ⟨by rw [HC2.out], ?_⟩
        exact ((((((hbw4.setCell (Nat.le_refl _) _).setCell (Nat.le_refl _) _).setCell (Nat.le_refl _) _).setCell (Nat.le_refl _) _).setCell (Nat.le_refl _) _).alloc (by simp; omega) _).drew
    · have tb : (rb == 0) = false := by simp [hrb]
      have tb' : (rb != 0) = true := by simp [hrb]
      have HC2 := Lib.hid ((HC.out.trans (if_neg (fun h => h.1 hra))).trans (if_neg (fun h => h.elim (fun h => h hra) (fun h => hrb h.1))))
      clear hra hrb
      obtain ⟨q0, q1, q2, q3, q4⟩ := hB5.cells
      obtain ⟨p0, p1, p2, p3, p4⟩ := hA5.cells
      obtain ⟨z0, z1, z2, z3, z4⟩ := hZ4.cells
      have f0 := hZ4.free 0; have f1 := hZ4.free 1; have f2 := hZ4.free 2; have f3 := hZ4.free 3; have f4 := hZ4.free 4
      go_wp2_with fail
      go_region
      go_wp2
      refine bodyPost_ret (v := .tuple #[.int .i64 0, sv sa, .int .i64 0]) (choose_result (t := 4) (p := 5) (u := 6) (H := w.heap.size) rfl _ (show SBox _ w.heap.size sa from (heap_alloc_lt _ _ _ (by simp; omega)).trans (hZ4.set5 sa)) rfl) rfl ⟨by rw [HC2.out], ?_⟩
      exact ((((((hbw4.setCell (Nat.le_refl _) _).setCell (Nat.le_refl _) _).setCell (Nat.le_refl _) _).setCell (Nat.le_refl _) _).setCell (Nat.le_refl _) _).alloc (by simp; omega) _).drew
  · have ta : (ra == 0) = false := by simp [hra]
    have ta' : (ra != 0) = true := by simp [hra]
    by_cases hrb : rb = 0
    · have tb : (rb == 0) = true := by simp [hrb]
      have tb' : (rb != 0) = false := by simp [hrb]
      have HC2 := Lib.hid ((HC.out.trans (if_neg (fun h => h.2 hrb))).trans (if_pos (Or.inl hra)))
      clear hra hrb
      obtain ⟨q0, q1, q2, q3, q4⟩ := hB5.cells
      obtain ⟨p0, p1, p2, p3, p4⟩ := hA5.cells
      obtain ⟨z0, z1, z2, z3, z4⟩ := hZ4.cells
      have f0 := hZ4.free 0; have f1 := hZ4.free 1; have f2 := hZ4.free 2; have f3 := hZ4.free 3; have f4 := hZ4.free 4
      go_wp2_with fail
      go_region
      go_wp2
      refine bodyPost_ret (v := .tuple #[.int .i64 1, sv sb, .int .i64 0]) (choose_result (t := 4) (p := 5) (u := 6) (H := w.heap.size) rfl _ (show SBox _ w.heap.size sb from (heap_alloc_lt _ _ _ (by simp; omega)).trans (hZ4.set5 sb)) rfl) rfl ⟨by rw [HC2.out], ?_⟩
      exact ((((((hbw4.setCell (Nat.le_refl _) _).setCell (Nat.le_refl _) _).setCell (Nat.le_refl _) _).setCell (Nat.le_refl _) _).setCell (Nat.le_refl _) _).alloc (by simp; omega) _).drew
    · have tb : (rb == 0) = false := by simp [hrb]
      have tb' : (rb != 0) = true := by simp [hrb]
      have HC2 := Lib.hid (HC.out.trans (if_pos ⟨hra, hrb⟩))
      clear hra hrb
      obtain ⟨q0, q1, q2, q3, q4⟩ := hB5.cells
      obtain ⟨p0, p1, p2, p3, p4⟩ := hA5.cells
      obtain ⟨z0, z1, z2, z3, z4⟩ := hZ4.cells
      have f0 := hZ4.free 0; have f1 := hZ4.free 1; have f2 := hZ4.free 2; have f3 := hZ4.free 3; have f4 := hZ4.free 4
      go_wp2_with fail
      refine bodyPost_ret (v := .tuple #[.int .i64 0, sv Super.zero, .int .i64 13]) (choose_result (t := 4) (p := 5) (u := 6) (H := w.heap.size) rfl _ (show SBox _ w.heap.size Super.zero from (heap_alloc_lt _ _ _ (by simp; omega)).trans (hZ4.set5 Super.zero)) rfl) rfl ⟨by rw [HC2.out], ?_⟩
      exact ((((((hbw4.setCell (Nat.le_refl _) _).setCell (Nat.le_refl _) _).setCell (Nat.le_refl _) _).setCell (Nat.le_refl _) _).setCell (Nat.le_refl _) _).alloc (by simp; omega) _)

set_option maxHeartbeats 2000000 in
set_option maxRecDepth 100000 in
theorem sref_choose (a b : Option Addr) (n m c d : Nat) (la lb : List UInt8) (w : World) (ha : SlB w a n c la) (hb : SlB w b m d lb) :
    Calls Try.prog 24 #[.slice a n c, .slice b m d] w (ChoosePost la lb w) := by
  have hca := sref_decode a n c la
  have hcb := sref_decode b m d lb
  have hch : Super.choose la lb = if (Super.dec la).2 ≠ 0 ∧ (Super.dec lb).2 ≠ 0 then (0, Super.zero, 13) else if (Super.dec la).2 ≠ 0 ∨ ((Super.dec lb).2 = 0 ∧ (Super.dec la).1.gen < (Super.dec lb).1.gen) then (1, (Super.dec lb).1, 0) else (0, (Super.dec la).1, 0) := rfl
  unfold DecPost at hca hcb
  obtain ⟨⟨sa, ra⟩, hda⟩ : ∃ x, x = Super.dec la := ⟨_, rfl⟩
  obtain ⟨⟨sb, rb⟩, hdb⟩ : ∃ x, x = Super.dec lb := ⟨_, rfl⟩
  rw [← hda] at hca hch
  rw [← hdb] at hcb hch
  simp only at hca hcb hch
  clear hda hdb
  unfold sv at hca hcb
  have HA := Lib.hid hca; have HB := Lib.hid hcb; have HC := Lib.hid hch
  clear hca hcb hch
  have h1 := hb
  go_enter Try.func24, Try.ntmps24
  go_wp2_with fail
  have hz := heap_alloc_eq w (.cells #[.int .u64 0, .int .i64 0, .int .u32 0, .int .i64 0, .int .u32 0] 25) _ rfl
  have hZ1 : SBox (w.alloc (.cells #[.int .u64 0, .int .i64 0, .int .u32 0, .int .i64 0, .int .u32 0] 25)) w.heap.size Super.zero := hz
  have hbw1 : Below w.heap.size w (w.alloc (.cells #[.int .u64 0, .int .i64 0, .int .u32 0, .int .i64 0, .int .u32 0] 25)) := (Below.refl _ _).alloc (Nat.le_refl _) _
  refine (HA.out _ (ha.ext hbw1)).mono ?_; rintro e w2 ⟨rfl, hy2⟩
  have hZ2 : SBox w2 w.heap.size Super.zero := (hy2.block _ (heap_lt hZ1)).trans hZ1
  have hbw2 := hbw1.trans (hy2.mono hbw1.size)
  clear hz hZ1 hbw1 hy2
  go_wp2_with fail
  have hA3 : SBox (w2.alloc (.cells #[.int .u64 sa.gen, .int .i64 sa.act, .int .u32 sa.epoch, .int .i64 sa.len, .int .u32 sa.sum] 25)) w2.heap.size sa := heap_alloc_eq _ _ _ rfl
  have hZ3 : SBox (w2.alloc (.cells #[.int .u64 sa.gen, .int .i64 sa.act, .int .u32 sa.epoch, .int .i64 sa.len, .int .u32 sa.sum] 25)) w.heap.size Super.zero := (heap_alloc_lt _ _ _ (heap_lt hZ2)).trans hZ2
  have hbw3 := hbw2.alloc hbw2.size (.cells #[.int .u64 sa.gen, .int .i64 sa.act, .int .u32 sa.epoch, .int .i64 sa.len, .int .u32 sa.sum] 25)
  have hlt2 := heap_lt hZ2
  refine (HB.out _ (hb.ext hbw3)).mono ?_; rintro e w4 ⟨rfl, hy4⟩
  have hA4 : SBox w4 w2.heap.size sa := (hy4.block _ (heap_lt hA3)).trans hA3
  have hZ4 : SBox w4 w.heap.size Super.zero := (hy4.block _ (heap_lt hZ3)).trans hZ3
  have hbw4 := hbw3.trans (hy4.mono hbw3.size)
  clear hA3 hZ3 hbw3 hy4 hbw2 hZ2
  have hB5 : SBox (w4.alloc (.cells #[.int .u64 sb.gen, .int .i64 sb.act, .int .u32 sb.epoch, .int .i64 sb.len, .int .u32 sb.sum] 25)) w4.heap.size sb := heap_alloc_eq _ _ _ rfl
  have hA5 : SBox (w4.alloc (.cells #[.int .u64 sb.gen, .int .i64 sb.act, .int .u32 sb.epoch, .int .i64 sb.len, .int .u32 sb.sum] 25)) w2.heap.size sa := (heap_alloc_lt _ _ _ (heap_lt hA4)).trans hA4
  have hZ5 : SBox (w4.alloc (.cells #[.int .u64 sb.gen, .int .i64 sb.act, .int .u32 sb.epoch, .int .i64 sb.len, .int .u32 sb.sum] 25)) w.heap.size Super.zero := (heap_alloc_lt _ _ _ (heap_lt hZ4)).trans hZ4
  have hbw5 := hbw4.alloc hbw4.size (.cells #[.int .u64 sb.gen, .int .i64 sb.act, .int .u32 sb.epoch, .int .i64 sb.len, .int .u32 sb.sum] 25)
  have hlt4 := heap_lt hZ4
  have hlt5 := heap_lt hA4
  by_cases hra : ra = 0
  · have ta : (ra == 0) = true := by simp [hra]
    have ta' : (ra != 0) = false := by simp [hra]
    by_cases hrb : rb = 0
    · have tb : (rb == 0) = true := by simp [hrb]
      have tb' : (rb != 0) = false := by simp [hrb]
      by_cases hgt : sa.gen < sb.gen
      · have HC2 := Lib.hid ((HC.out.trans (if_neg (fun h => h.1 hra))).trans (if_pos (Or.inr ⟨hrb, hgt⟩)))
        clear hra hrb
        obtain ⟨q0, q1, q2, q3, q4⟩ := hB5.cells
        obtain ⟨p0, p1, p2, p3, p4⟩ := hA5.cells
        obtain ⟨z0, z1, z2, z3, z4⟩ := hZ4.cells
        have f0 := hZ4.free 0; have f1 := hZ4.free 1; have f2 := hZ4.free 2; have f3 := hZ4.free 3; have f4 := hZ4.free 4
        go_wp2_with fail
        go_region
        go_wp2
        refine bodyPost_ret (v := .tuple #[.int .i64 1, sv sb, .int .i64 0]) (choose_result (t := 4) (p := 5) (u := 6) (H := w.heap.size) rfl _ (show SBox _ w.heap.size sb from (heap_alloc_lt _ _ _ (by simp; omega)).trans (hZ4.set5 sb)) rfl) rfl ⟨by rw [HC2.out], ?_⟩
        exact ((((((hbw4.setCell (Nat.le_refl _) _).setCell (Nat.le_refl _) _).setCell (Nat.le_refl _) _).setCell (Nat.le_refl _) _).setCell (Nat.le_refl _) _).alloc (by simp; omega) _).drew
      · have HC2 := Lib.hid ((HC.out.trans (if_neg (fun h => h.1 hra))).trans (if_neg (fun h => h.elim (fun h => h hra) (fun h => hgt h.2))))
        clear hra hrb
        obtain ⟨q0, q1, q2, q3, q4⟩ := hB5.cells
        obtain ⟨p0, p1, p2, p3, p4⟩ := hA5.cells
        obtain ⟨z0, z1, z2, z3, z4⟩ := hZ4.cells
        have f0 := hZ4.free 0; have f1 := hZ4.free 1; have f2 := hZ4.free 2; have f3 := hZ4.free 3; have f4 := hZ4.free 4
        go_wp2_with fail
        go_region
        go_wp2
        refine bodyPost_ret (v := .tuple #[.int .i64 0, sv sa, .int .i64 0]) (choose_result (t := 4) (p := 5) (u := 6) (H := w.heap.size) rfl _ (show SBox _ w.heap.size sa from (heap_alloc_lt _ _ _ (by simp; omega)).trans (hZ4.set5 sa)) rfl) rfl ⟨by rw [HC2.out], ?_⟩
        exact ((((((hbw4.setCell (Nat.le_refl _) _).setCell (Nat.le_refl _) _).setCell (Nat.le_refl _) _).setCell (Nat.le_refl _) _).setCell (Nat.le_refl _) _).alloc (by simp; omega) _).drew
    · have tb : (rb == 0) = false := by simp [hrb]
      have tb' : (rb != 0) = true := by simp [hrb]
      have HC2 := Lib.hid ((HC.out.trans (if_neg (fun h => h.1 hra))).trans (if_neg (fun h => h.elim (fun h => h hra) (fun h => hrb h.1))))
      clear hra hrb
      obtain ⟨q0, q1, q2, q3, q4⟩ := hB5.cells
      obtain ⟨p0, p1, p2, p3, p4⟩ := hA5.cells
      obtain ⟨z0, z1, z2, z3, z4⟩ := hZ4.cells
      have f0 := hZ4.free 0; have f1 := hZ4.free 1; have f2 := hZ4.free 2; have f3 := hZ4.free 3; have f4 := hZ4.free 4
      go_wp2_with fail
      go_region
      go_wp2
      refine bodyPost_ret (v := .tuple #[.int .i64 0, sv sa, .int .i64 0]) (choose_result (t := 4) (p := 5) (u := 6) (H := w.heap.size) rfl _ (show SBox _ w.heap.size sa from (heap_alloc_lt _ _ _ (by simp; omega)).trans (hZ4.set5 sa)) rfl) rfl ⟨by rw [HC2.out], ?_⟩
      exact ((((((hbw4.setCell (Nat.le_refl _) _).setCell (Nat.le_refl _) _).setCell (Nat.le_refl _) _).setCell (Nat.le_refl _) _).setCell (Nat.le_refl _) _).alloc (by simp; omega) _).drew
  · have ta : (ra == 0) = false := by simp [hra]
    have ta' : (ra != 0) = true := by simp [hra]
    by_cases hrb : rb = 0
    · have tb : (rb == 0) = true := by simp [hrb]
      have tb' : (rb != 0) = false := by simp [hrb]
      have HC2 := Lib.hid ((HC.out.trans (if_neg (fun h => h.2 hrb))).trans (if_pos (Or.inl hra)))
      clear hra hrb
      obtain ⟨q0, q1, q2, q3, q4⟩ := hB5.cells
      obtain ⟨p0, p1, p2, p3, p4⟩ := hA5.cells
      obtain ⟨z0, z1, z2, z3, z4⟩ := hZ4.cells
      have f0 := hZ4.free 0; have f1 := hZ4.free 1; have f2 := hZ4.free 2; have f3 := hZ4.free 3; have f4 := hZ4.free 4
      go_wp2_with fail
      go_region
      go_wp2
      refine bodyPost_ret (v := .tuple #[.int .i64 1, sv sb, .int .i64 0]) (choose_result (t := 4) (p := 5) (u := 6) (H := w.heap.size) rfl _ (show SBox _ w.heap.size sb from (heap_alloc_lt _ _ _ (by simp; omega)).trans (hZ4.set5 sb)) rfl) rfl ⟨by rw [HC2.out], ?_⟩
      exact ((((((hbw4.setCell (Nat.le_refl _) _).setCell (Nat.le_refl _) _).setCell (Nat.le_refl _) _).setCell (Nat.le_refl _) _).setCell (Nat.le_refl _) _).alloc (by simp; omega) _).drew
    · have tb : (rb == 0) = false := by simp [hrb]
      have tb' : (rb != 0) = true := by simp [hrb]
      have HC2 := Lib.hid (HC.out.trans (if_pos ⟨hra, hrb⟩))
      clear hra hrb
      obtain ⟨q0, q1, q2, q3, q4⟩ := hB5.cells
      obtain ⟨p0, p1, p2, p3, p4⟩ := hA5.cells
      obtain ⟨z0, z1, z2, z3, z4⟩ := hZ4.cells
      have f0 := hZ4.free 0; have f1 := hZ4.free 1; have f2 := hZ4.free 2; have f3 := hZ4.free 3; have f4 := hZ4.free 4
      go_wp2_with fail
      refine bodyPost_ret (v := .tuple #[.int .i64 0, sv Super.zero, .int .i64 13]) (choose_result (t := 4) (p := 5) (u := 6) (H := w.heap.size) rfl _ (show SBox _ w.heap.size Super.zero from (heap_alloc_lt _ _ _ (by simp; omega)).trans (hZ4.set5 Super.zero)) rfl) rfl ⟨by rw [HC2.out], ?_⟩
      exact ((((((hbw4.setCell (Nat.le_refl _) _).setCell (Nat.le_refl _) _).setCell (Nat.le_refl _) _).setCell (Nat.le_refl _) _).setCell (Nat.le_refl _) _).alloc (by simp; omega) _)

end Go.Proofs.Ytolagcnndepjbaa
