/-
  The walk through the store's snapshot.
-/
import Derived.Test.YtmanejniepghlaaGreatDoorRun38
import Derived.Test.YtmanejniepghlaaGreatDoorRun35
import Derived.Test.YtmanejniepghlaaGreatDoorRun36
import Derived.RegionTactic
import Derived.BigRegion
namespace Go.Proofs.YtmanejniepghlaaGreatDoor
open Go.RowKit
open Disk (Dk)

/-- Block q is a store of which the log is any value. -/
def SBv (w : World) (q g : Nat) (l : Reg.Lay) (slot : Int) (s : Super.S) (lv : Value) (fl : Bool) : Prop :=
  w.heap[q]? = some (.cells #[.pointer (some ⟨g, 0, none⟩), .int .i64 l.cap, .int .i64 (l.sf 0), .int .i64 l.sc, .int .i64 (l.sf 1), .int .i64 l.sc, .int .i64 (l.lf 0), .int .i64 l.lc, .int .i64 (l.lf 1), .int .i64 l.lc,
    .int .i64 slot, .int .u64 s.gen, .int .i64 s.act, .int .u32 s.epoch, .int .i64 s.len, .int .u32 s.sum, lv, .bool fl] 108 (0, 0))
section
variable {w w' : World} {q g : Nat} {l : Reg.Lay} {slot : Int} {s : Super.S} {lv : Value} {fl : Bool}
theorem SBv.lt (h : SBv w q g l slot s lv fl) : q < w.heap.size := heap_lt h
theorem SBv.same (h : SBv w q g l slot s lv fl) (e : w'.heap[q]? = w.heap[q]?) : SBv w' q g l slot s lv fl := e.trans h
theorem SBv.ext (h : SBv w q g l slot s lv fl) (e : Below w.heap.size w w') : SBv w' q g l slot s lv fl := h.same (e.block _ h.lt)
theorem SBv.free (h : SBv w q g l slot s lv fl) (k : Nat) : w.frozen? ⟨q, k, none⟩ = false := frozen_of_row _ _ _ _ _ h
theorem SBv.at (h : SBv w q g l slot s lv fl) (k : Nat) : w.cell? ⟨q, k, none⟩ = (#[.pointer (some ⟨g, 0, none⟩), .int .i64 l.cap, .int .i64 (l.sf 0), .int .i64 l.sc, .int .i64 (l.sf 1), .int .i64 l.sc, .int .i64 (l.lf 0), .int .i64 l.lc, .int .i64 (l.lf 1), .int .i64 l.lc,
    .int .i64 slot, .int .u64 s.gen, .int .i64 s.act, .int .u32 s.epoch, .int .i64 s.len, .int .u32 s.sum, lv, .bool fl] : Array Value)[k]? := cell_of_row _ _ _ _ _ _ h
theorem SBv.kept {F F' : Nat → Prop} {W : World} (h : SBv W q g l slot s lv fl) (u : Upd F W F' w) (hq : ¬ F q) : SBv w q g l slot s lv fl := h.same (u.block q h.lt hq)
end

/-- What snapshot does. -/
def Reg.snapS (l : Reg.Lay) (s : Super.S) (d : Dk) : (Int × List Pin) × Int × Dk :=
  if Extent.size l.sc < s.len then ((0, []), 13, d) else
    match Extent.read d (l.sf s.act.toNat) l.sc 0 s.len with
    | (b, z, d1) => if z ≠ 0 then ((0, []), z, d1) else if Reg.crc b ≠ s.sum ∨ (Snap.dec b).2 ≠ 0 ∨ l.cap < (Snap.dec b).1.2.length then ((0, []), 13, d1) else ((Snap.dec b).1, 0, d1)
theorem Reg.open3_snap {l : Reg.Lay} {a b : List UInt8} {d : Dk} {slot : Int} {s : Super.S} (h : Super.choose a b = (slot, s, 0)) : Reg.open3 l a b d =
    if (Reg.snapS l s d).2.1 ≠ 0 then Reg.bad (Reg.snapS l s d).2.1 (Reg.snapS l s d).2.2 else
      Reg.open5 l slot.toNat s (Reg.snapS l s d).1.1 (Reg.snapS l s d).1.2 (Wal.open (Reg.snapS l s d).2.2 (l.lf s.act.toNat) l.lc s.epoch) := by
  unfold Reg.open3 Reg.snapS
  rw [h]
  dsimp only
  rw [if_neg (by simp)]
  split
  · rfl
  · unfold Reg.open4
    rcases hr : Extent.read d (l.sf s.act.toNat) l.sc 0 s.len with ⟨b, z, d1⟩
    dsimp only
    split
    · rfl
    · split
      · rfl
      · rfl

theorem DP.set {g : Nat} {d : Dk} {F : Nat → Prop} {w : World} (h : DP g d F w) {b : Nat} (hb : ¬ F b) (o : Nat) (v : Value) : DP g d F (w.setCell ⟨b, o, none⟩ v) := by
  obtain ⟨s, m, fa, fn, fc, h⟩ := h; exact ⟨s, m, fa, fn, fc, h.other hb o v⟩

/-- What snapshot returns. -/
def SnapP (g : Nat) (F : Nat → Prop) (w : World) (r : (Int × List Pin) × Int × Dk) (e : Ending) (w' : World) : Prop :=
  ∃ a k, e = .returned (.tuple #[.agg #[.int .i64 r.1.1, .slice a r.1.2.length k], .int .i64 r.2.1]) ∧ SlN w' a r.1.2.length k r.1.2 ∧ (∀ x, a = some x → w.heap.size ≤ x.block) ∧ DP g r.2.2 F w' ∧ Upd F w F w'

theorem SnapP.fin {g : Nat} {F : Nat → Prop} {w w2 : World} {c : Int} {L : List Pin} {z : Int} {d' : Dk} {a : Option Addr} {k : Nat} (hd : DP g d' F w2) (hu : Upd F w F w2) (nB : ¬ F w.heap.size) (hs : SlN w2 a L.length k L) (hn : ∀ x, a = some x → w.heap.size ≤ x.block) {old : Int} {ov : Value} (hb : SBox w2 w.heap.size old ov) (c' v' : Value) :
    SnapP g F w ((c, L), z, d') (.returned (.tuple #[.agg #[.int .i64 c, .slice a L.length k], .int .i64 z])) ((w2.setCell ⟨w.heap.size, 0, none⟩ c').setCell ⟨w.heap.size, 1, none⟩ v') :=
  ⟨a, k, rfl, hs.setOldS hb 0 1 c' v', hn, (hd.set nB _ _).set nB _ _, (hu.setCell (.inr (Nat.le_refl _)) _ _).setCell (.inr (Nat.le_refl _)) _ _⟩

set_option maxRecDepth 100000 in
set_option maxHeartbeats 8000000 in
theorem rg_snapshot {w : World} {q g : Nat} {l : Reg.Lay} {slot : Int} {s : Super.S} {lv : Value} {fl : Bool} {r : Nat} (hr2 : r < 2) (hact : s.act = (r : Int)) (hq : SBv w q g l slot s lv fl) {d : Dk} {F : Nat → Prop} (hd : DP g d F w) (hqF : ¬ F q)
    (hf : ib (l.sf r)) (hc : ib l.sc) (hlen : 0 ≤ s.len ∧ s.len ≤ 262144) (hsz0 : Extent.size l.sc ≤ 100000) {R : (Int × List Pin) × Int × Dk} (hR : Reg.snapS l s d = R) :
    Calls Tryz.prog 114 #[.pointer (some ⟨q, 0, none⟩)] w (SnapP g F w R) := by
  have hb0 := (Below.refl w.heap.size w).alloc (Nat.le_refl _) (.cells #[.int .i64 0, .slice none 0 0] 44)
  have hs0 := SBox.new w 0 (.slice none 0 0)
  have hz0 : (w.alloc (.cells #[.int .i64 0, .slice none 0 0] 44)).heap.size = w.heap.size + 1 := by simp
  obtain ⟨W0, hW0⟩ : ∃ W0, W0 = w.alloc (.cells #[.int .i64 0, .slice none 0 0] 44) := ⟨_, rfl⟩
  have HW0 := Lib.hid hW0
  rw [← hW0] at hb0 hs0 hz0
  clear hW0
  have hq0 := hq.ext hb0
  have nB : ¬ F w.heap.size := fun e => Nat.lt_irrefl _ (hd.lt _ e)
  have nE : ¬ F (w.heap.size + 1) := fun e => by have := hd.lt _ e; omega
  have hd0 := hd.ext hb0
  rcases (show r = 0 ∨ r = 1 by omega) with rfl | rfl
  · have c0 : W0.cell? ⟨q, 0, none⟩ = some (.pointer (some ⟨g, 0, none⟩)) := hq0.at 0
    have c1 : W0.cell? ⟨q, 12, none⟩ = some (.int .i64 ((0 : Nat) : Int)) := (hq0.at 12).trans (by rw [← hact]; rfl)
    have c2 : W0.cell? ⟨q, 2, none⟩ = some (.int .i64 (l.sf 0)) := hq0.at 2
    have c3 : W0.cell? ⟨q, 3, none⟩ = some (.int .i64 l.sc) := hq0.at 3
    have hqlt := hq0.lt
    have hq1 := hq0.ext ((Below.refl _ W0).alloc (Nat.le_refl _) (.cells #[.int .i64 0, .int .i64 0] 23))
    have c4 : (W0.alloc (.cells #[.int .i64 0, .int .i64 0] 23)).cell? ⟨q, 12, none⟩ = some (.int .i64 ((0 : Nat) : Int)) := (hq1.at 12).trans (by rw [← hact]; rfl)
    have c5 : (W0.alloc (.cells #[.int .i64 0, .int .i64 0] 23)).cell? ⟨q, 2, none⟩ = some (.int .i64 (l.sf 0)) := hq1.at 2
    have c6 : (W0.alloc (.cells #[.int .i64 0, .int .i64 0] 23)).cell? ⟨q, 3, none⟩ = some (.int .i64 l.sc) := hq1.at 3
    clear hq0 hq1
    go_enter Tryz.func114, Tryz.ntmps114
    go_wp2_with fail
    rw [← HW0.out]
    go_region
    obtain ⟨W1, hW1⟩ : ∃ W1, W1 = (W0.alloc (.cells #[.int .i64 (l.sf 0), .int .i64 l.sc] 23)).drew := ⟨_, rfl⟩
    have hb1 : Below W0.heap.size W0 W1 := by rw [hW1]; exact ((Below.refl _ _).alloc (Nat.le_refl _) _).drew
    have hx1 : W1.heap[w.heap.size + 1]? = some (.cells #[.int .i64 (l.sf 0), .int .i64 l.sc] 23 (0, 0)) := by rw [hW1]; exact heap_alloc_eq _ _ _ hz0.symm
    have hB1 : Below w.heap.size w W1 := hb0.trans (hb1.mono hb0.size)
    have HW1 := Lib.hid hW1
    rw [← HW1.out]
    clear hW1 c0 c1 c2 c3 c4 c5 c6 hqlt
    have hs1 : SBox W1 w.heap.size 0 (.slice none 0 0) := (hb1.block _ (heap_lt hs0)).trans hs0
    have hk1 : ∀ W, Below W1.heap.size W1 W → SBv W q g l slot s lv fl ∧ W.heap[w.heap.size + 1]? = some (.cells #[.int .i64 (l.sf 0), .int .i64 l.sc] 23 (0, 0)) ∧ SBox W w.heap.size 0 (.slice none 0 0) := fun W e => ⟨(hq.ext hB1).ext e, (e.block _ (heap_lt hx1)).trans hx1, (e.block _ (heap_lt hs1)).trans hs1⟩
    have HK1 := Lib.hid hk1
    have hd1 := hd.ext hB1
    unfold Reg.snapS at hR
    obtain ⟨sz, hsz⟩ : ∃ sz, Extent.size l.sc = sz := ⟨_, rfl⟩
    have HSZ := Lib.hid (fun W => show Calls Tryz.prog 110 #[.agg #[.int .i64 (l.sf 0), .int .i64 l.sc]] W fun e w' => e = .returned (.int .i64 sz) ∧ Below W.heap.size W w' by rw [← hsz]; exact ex_size _ _ hc W)
    rw [hsz] at hR
    have FACT : ∀ W, Below W1.heap.size W1 W → W.cell? ⟨q, 14, none⟩ = some (.int .i64 s.len) ∧ W.cell? ⟨w.heap.size + 1, 0, none⟩ = some (.int .i64 (l.sf 0)) ∧ W.cell? ⟨w.heap.size + 1, 1, none⟩ = some (.int .i64 l.sc) := fun W e => ⟨(hk1 W e).1.at 14, cell_of_row _ _ _ _ _ _ (hk1 W e).2.1, cell_of_row _ _ _ _ _ _ (hk1 W e).2.1⟩
    have HFA := Lib.hid FACT
    obtain ⟨y1, y2, y3⟩ := FACT W1 (Below.refl _ _)
    have hx2 := hk1 W1 (Below.refl _ _)
    rw [hsz] at hsz0
    clear hk1 FACT hsz
    by_cases hbig : sz < s.len
    · rw [if_pos hbig] at hR
      subst hR
      go_wp2_with fail
      go_region_held3 (fun W => W.cell? ⟨q, 14, none⟩ = some (.int .i64 s.len) ∧ W.cell? ⟨w.heap.size + 1, 0, none⟩ = some (.int .i64 (l.sf 0)) ∧ W.cell? ⟨w.heap.size + 1, 1, none⟩ = some (.int .i64 l.sc)) (first | exact ⟨y1, y2, y3⟩ | exact HFA.out _ (by assumption)) (first
        | (go_at_call 110; go_must (refine (HSZ.out _).mono ?_); rintro e w2 ⟨rfl, hb2⟩; have hb2' : Below W1.heap.size W1 w2 := (Below.drew (Below.refl _ W1)).trans hb2; obtain ⟨x0, x1⟩ := SBox.cells (HK1.out w2 hb2').2.2; have f0 := SBox.frz (HK1.out w2 hb2').2.2 0; have f1 := SBox.frz (HK1.out w2 hb2').2.2 1; obtain ⟨g1, g2, g3⟩ := HFA.out w2 hb2'; have g0 : w2.cell? ⟨q, 0, none⟩ = some (.pointer (some ⟨g, 0, none⟩)) := (HK1.out w2 hb2').1.at 0))
      go_wp2_with fail
      have hE := SBox.set2 ((HK1.out w2 hb2').2.2) 0 (.slice none 0 0)
      obtain ⟨d0, d1⟩ := hE.cells
      refine bodyPost_ret (v := .tuple #[.agg #[.int .i64 0, .slice none 0 0], .int .i64 13]) (by simp [results, Tryz.results114, go_sem, d0, d1]) rfl ?_
      exact SnapP.fin (L := []) (hd1.ext hb2') (Upd.of_ext (F := F) (hB1.trans (hb2'.mono hB1.size))) nB (SlN.nil _) (fun x hx => by cases hx) (HK1.out w2 hb2').2.2 _ _
    · rw [if_neg hbig] at hR
      obtain ⟨b, z, d1, hrd⟩ : ∃ b z d1, Extent.read d (l.sf 0) l.sc 0 s.len = (b, z, d1) := ⟨_, _, _, rfl⟩
      rw [hact, Int.toNat_natCast, hrd] at hR
      dsimp only at hR
      have HRD := Lib.hid (fun W (e : Below W1.heap.size W1 W) => (hd1.ext e).eread (l.sf 0) l.sc 0 s.len hf hc (by unfold ib; omega) (by unfold ib; omega) hrd)
      have HK3 := Lib.hid (fun (W W' : World) (e : Below W1.heap.size W1 W) (u : Upd F W F W') => show W'.cell? ⟨q, 0, none⟩ = some (.pointer (some ⟨g, 0, none⟩)) ∧ W'.cell? ⟨q, 14, none⟩ = some (.int .i64 s.len) ∧ W'.cell? ⟨w.heap.size + 1, 0, none⟩ = some (.int .i64 (l.sf 0)) ∧ W'.cell? ⟨w.heap.size + 1, 1, none⟩ = some (.int .i64 l.sc) ∧ SBv W' q g l slot s lv fl ∧ SBox W' w.heap.size 0 (.slice none 0 0) from by
        obtain ⟨k1, k2, k3⟩ := HK1.out W e
        have k1' := k1.kept u hqF
        have k2' := (u.block _ (heap_lt k2) nE).trans k2
        exact ⟨k1'.at 0, k1'.at 14, cell_of_row _ _ _ _ _ _ k2', cell_of_row _ _ _ _ _ _ k2', k1', (u.block _ (heap_lt k3) nB).trans k3⟩)
      have HRL := Lib.hid (show z = 0 → b.length ≤ 100000 from fun hz => by subst hz; have := (Extent.read_len hd.ok hrd).1; omega)
      clear hrd
      go_wp2_with fail
      go_region_held3 (fun W => W.cell? ⟨q, 14, none⟩ = some (.int .i64 s.len) ∧ W.cell? ⟨w.heap.size + 1, 0, none⟩ = some (.int .i64 (l.sf 0)) ∧ W.cell? ⟨w.heap.size + 1, 1, none⟩ = some (.int .i64 l.sc)) (first | exact ⟨y1, y2, y3⟩ | exact HFA.out _ (by assumption)) (first
        | (go_at_call 110; go_must (refine (HSZ.out _).mono ?_); rintro e w2 ⟨rfl, hb2⟩; have hb2' : Below W1.heap.size W1 w2 := (Below.drew (Below.refl _ W1)).trans hb2; obtain ⟨x0, x1⟩ := SBox.cells (HK1.out w2 hb2').2.2; have f0 := SBox.frz (HK1.out w2 hb2').2.2 0; have f1 := SBox.frz (HK1.out w2 hb2').2.2 1; obtain ⟨g1, g2, g3⟩ := HFA.out w2 hb2'; have g0 : w2.cell? ⟨q, 0, none⟩ = some (.pointer (some ⟨g, 0, none⟩)) := (HK1.out w2 hb2').1.at 0))
      clear y1 y2 y3
      go_wp2_with fail
      go_region_held3 (fun W => W.cell? ⟨q, 0, none⟩ = some (.pointer (some ⟨g, 0, none⟩)) ∧ W.cell? ⟨q, 14, none⟩ = some (.int .i64 s.len) ∧ W.cell? ⟨w.heap.size + 1, 0, none⟩ = some (.int .i64 (l.sf 0)) ∧ W.cell? ⟨w.heap.size + 1, 1, none⟩ = some (.int .i64 l.sc)) (first | exact ⟨g0, g1, g2, g3⟩ | exact ⟨j0, j1, j2, j3⟩) (first
        | (go_at_call 127; go_must (refine (HRD.out _ (Below.drew hb2')).mono ?_); rintro e w3 ⟨v3, rfl, hO3, hd3, hU3⟩; obtain ⟨j0, j1, j2, j3, j4, j5⟩ := HK3.out _ w3 (Below.drew hb2') hU3; obtain ⟨x4, x5⟩ := SBox.cells j5; have f4 := SBox.frz j5 0; have f5 := SBox.frz j5 1; obtain ⟨a3, c3, rfl, hs3, hn3⟩ := hO3.sl))
      obtain ⟨N, hN⟩ : ∃ N, b.length = N := ⟨_, rfl⟩
      rw [hN] at hs3
      by_cases hz : z = 0
      · subst hz
        rw [if_neg (by simp)] at hR
        have hNb : N ≤ 100000 := by have := (HRL.out rfl); omega
        have HDC := Lib.hid (sn_decode_new a3 N c3 b w3 hs3 hNb)
        unfold SDecN at HDC
        rcases hdc : Snap.dec b with ⟨⟨c, L⟩, z4⟩
        rw [hdc] at HDC hR
        simp only at hR HDC
        have HU3 := Lib.hid (show Upd F w F w3 from (Upd.of_ext (hB1.trans ((Below.drew hb2').mono hB1.size))).trans hU3)
        clear hdc g0 g1 g2 g3
        rw [hN]
        go_wp2_with fail
        refine HDC.out.mono ?_; rintro e w4 ⟨a4, k4, rfl, hs4, hb4, hn4⟩
        obtain ⟨n4, hn4L⟩ : ∃ n, L.length = n := ⟨_, rfl⟩
        rw [hn4L] at hs4 hR ⊢
        have hb4' : Below w3.heap.size w3 w4 := hb4
        obtain ⟨W5, hW5⟩ : ∃ W5, W5 = w4.alloc (.cells #[.int .i64 c, .slice a4 n4 k4] 44) := ⟨_, rfl⟩
        have hb5 : Below w4.heap.size w4 W5 := by rw [hW5]; exact (Below.refl _ _).alloc (Nat.le_refl _) _
        have hbx5 : SBox W5 w4.heap.size c (.slice a4 n4 k4) := by rw [hW5]; exact SBox.new w4 c (.slice a4 n4 k4)
        have HW5 := Lib.hid hW5
        clear hW5
        have hB5 : Below w3.heap.size w3 W5 := hb4'.trans (hb5.mono hb4'.size)
        obtain ⟨t0, t1⟩ := hbx5.cells
        have u1 : W5.cell? ⟨q, 15, none⟩ = some (.int .u32 s.sum) := (j4.ext hB5).at 15
        have u2 : W5.cell? ⟨q, 1, none⟩ = some (.int .i64 l.cap) := (j4.ext hB5).at 1
        have HJ := Lib.hid (fun W (e : Below W5.heap.size W5 W) => show DP g d1 F W ∧ Upd F w F W ∧ SBox W w.heap.size 0 (.slice none 0 0) from ⟨hd3.ext (hB5.trans (e.mono hB5.size)), HU3.out.ext (hB5.trans (e.mono hB5.size)), j5.ext (hB5.trans (e.mono hB5.size))⟩)
        have HJN := Lib.hid (fun nq => HJ.out (W5.drewN nq) ⟨rfl, rfl, rfl, Nat.le_refl _, fun _ _ => rfl⟩)
        obtain ⟨cr, hcr⟩ : ∃ cr, Reg.crc b = cr := ⟨_, rfl⟩
        have HCR := Lib.hid (fun nq => show Calls Tryz.prog 48 #[.slice a3 N c3] (W5.drewN nq) fun e w' => e = .returned (.int .u32 (cr : Nat)) ∧ W5.drewN nq = w' by rw [← hcr]; exact crc_sum a3 N c3 b _ ((hs3.ext hB5).ext ⟨rfl, rfl, rfl, Nat.le_refl _, fun _ _ => rfl⟩))
        rw [hcr] at hR
        have hlt5 := heap_lt hbx5
        obtain ⟨x6, x7⟩ := SBox.cells (HJN.out 0).2.2
        have f6 := SBox.frz (HJN.out 0).2.2
        have x6' : W5.cell? ⟨w.heap.size, 0, none⟩ = some (.int .i64 0) := x6
        have x7' : W5.cell? ⟨w.heap.size, 1, none⟩ = some (.slice none 0 0) := x7
        have f60 : W5.frozen? ⟨w.heap.size, 0, none⟩ = false := f6 0
        have f61 : W5.frozen? ⟨w.heap.size, 1, none⟩ = false := f6 1
        have k0 : (0 : Int) ≤ (n4 : Int) := by omega
        clear x4 x5 f4 f5 hcr x6 x7 f6
        by_cases h1 : cr = s.sum
        · subst h1
          have g1 : ((s.sum : Int) == (s.sum : Int)) = true := by simp
          by_cases h2 : z4 = 0
          · subst h2
            by_cases h3 : l.cap < n4
            · rw [if_pos (.inr (.inr h3))] at hR
              subst hR
              have g2 : decide ((l.cap : Int) < (n4 : Int)) = true := by simp; omega
              go_wp2_with fail
              rw [← HW5.out]
              go_quiet (first | (go_at_call 48; exact Calls.quiet_of_same ((HCR.out _).mono fun _ _ ⟨h1, h2⟩ => ⟨h1, h2.symm⟩)))
              go_wp2_with fail
              have hE := SBox.set2 (HJN.out nq).2.2 0 (.slice none 0 0)
              obtain ⟨d0, d1⟩ := hE.cells
              refine bodyPost_ret (v := .tuple #[.agg #[.int .i64 0, .slice none 0 0], .int .i64 13]) (by simp [results, Tryz.results114, go_sem, d0, d1]) rfl ?_
              exact SnapP.fin (L := []) (HJN.out nq).1 (HJN.out nq).2.1 nB (SlN.nil _) (fun x hx => by cases hx) (HJN.out nq).2.2 _ _
            · rw [if_neg (by simp; omega)] at hR
              subst hR
              have g2 : decide ((l.cap : Int) < (n4 : Int)) = false := by simp; omega
              have HHN := Lib.hid hn4L
              clear hn4L
              go_wp2_with fail
              rw [← HW5.out]
              go_quiet (first | (go_at_call 48; exact Calls.quiet_of_same ((HCR.out _).mono fun _ _ ⟨h1, h2⟩ => ⟨h1, h2.symm⟩)))
              go_wp2_with fail
              have hE := SBox.set2 (HJN.out nq).2.2 c (.slice a4 n4 k4)
              obtain ⟨d0, d1⟩ := hE.cells
              refine bodyPost_ret (v := .tuple #[.agg #[.int .i64 c, .slice a4 n4 k4], .int .i64 0]) (by simp [results, Tryz.results114, go_sem, d0, d1]) rfl ?_
              have hs5 : SlN (W5.drewN nq) a4 n4 k4 L := (hs4.ext hb5).ext ⟨rfl, rfl, rfl, Nat.le_refl _, fun _ _ => rfl⟩
              obtain rfl := HHN.out
              exact SnapP.fin (HJN.out nq).1 (HJN.out nq).2.1 nB hs5 (fun x hx => by have := hn4 x hx; have := HU3.out.size; omega) (HJN.out nq).2.2 _ _
          · rw [if_pos (.inr (.inl h2))] at hR
            subst hR
            have g2 : (z4 == 0) = false := by simpa using h2
            go_wp2_with fail
            rw [← HW5.out]
            go_quiet (first | (go_at_call 48; exact Calls.quiet_of_same ((HCR.out _).mono fun _ _ ⟨h1, h2⟩ => ⟨h1, h2.symm⟩)))
            go_wp2_with fail
            have hE := SBox.set2 (HJN.out nq).2.2 0 (.slice none 0 0)
            obtain ⟨d0, d1⟩ := hE.cells
            refine bodyPost_ret (v := .tuple #[.agg #[.int .i64 0, .slice none 0 0], .int .i64 13]) (by simp [results, Tryz.results114, go_sem, d0, d1]) rfl ?_
            exact SnapP.fin (L := []) (HJN.out nq).1 (HJN.out nq).2.1 nB (SlN.nil _) (fun x hx => by cases hx) (HJN.out nq).2.2 _ _
        · rw [if_pos (.inl h1)] at hR
          subst hR
          have g1 : ((cr : Int) == (s.sum : Int)) = false := by simp; omega
          have g3 : ((cr : Int) != (s.sum : Int)) = true := by simp; omega
          have g4 : (cr == s.sum) = false := by simp; omega
          go_wp2_with fail
          rw [← HW5.out]
          go_quiet (first | (go_at_call 48; exact Calls.quiet_of_same ((HCR.out _).mono fun _ _ ⟨h1, h2⟩ => ⟨h1, h2.symm⟩)))
          go_wp2_with fail
          have hE := SBox.set2 (HJN.out nq).2.2 0 (.slice none 0 0)
          obtain ⟨d0, d1⟩ := hE.cells
          refine bodyPost_ret (v := .tuple #[.agg #[.int .i64 0, .slice none 0 0], .int .i64 13]) (by simp [results, Tryz.results114, go_sem, d0, d1]) rfl ?_
          exact SnapP.fin (L := []) (HJN.out nq).1 (HJN.out nq).2.1 nB (SlN.nil _) (fun x hx => by cases hx) (HJN.out nq).2.2 _ _
      · rw [if_pos hz] at hR
        subst hR
        have t1 : (z == 0) = false := by simpa using hz
        have HU3 := Lib.hid (show Upd F w F w3 from (Upd.of_ext (hB1.trans ((Below.drew hb2').mono hB1.size))).trans hU3)
        go_wp2_with fail
        have hE := SBox.set2 j5 0 (.slice none 0 0)
        obtain ⟨d0, d1⟩ := hE.cells
        refine bodyPost_ret (v := .tuple #[.agg #[.int .i64 0, .slice none 0 0], .int .i64 z]) (by simp [results, Tryz.results114, go_sem, d0, d1]) rfl ?_
        exact SnapP.fin (L := []) hd3 HU3.out nB (SlN.nil _) (fun x hx => by cases hx) j5 _ _
  · have c0 : W0.cell? ⟨q, 0, none⟩ = some (.pointer (some ⟨g, 0, none⟩)) := hq0.at 0
    have c1 : W0.cell? ⟨q, 12, none⟩ = some (.int .i64 ((1 : Nat) : Int)) := (hq0.at 12).trans (by rw [← hact]; rfl)
    have c2 : W0.cell? ⟨q, 4, none⟩ = some (.int .i64 (l.sf 1)) := hq0.at 4
    have c3 : W0.cell? ⟨q, 5, none⟩ = some (.int .i64 l.sc) := hq0.at 5
    have hqlt := hq0.lt
    have hq1 := hq0.ext ((Below.refl _ W0).alloc (Nat.le_refl _) (.cells #[.int .i64 0, .int .i64 0] 23))
    have c4 : (W0.alloc (.cells #[.int .i64 0, .int .i64 0] 23)).cell? ⟨q, 12, none⟩ = some (.int .i64 ((1 : Nat) : Int)) := (hq1.at 12).trans (by rw [← hact]; rfl)
    have c5 : (W0.alloc (.cells #[.int .i64 0, .int .i64 0] 23)).cell? ⟨q, 4, none⟩ = some (.int .i64 (l.sf 1)) := hq1.at 4
    have c6 : (W0.alloc (.cells #[.int .i64 0, .int .i64 0] 23)).cell? ⟨q, 5, none⟩ = some (.int .i64 l.sc) := hq1.at 5
    clear hq0 hq1
    go_enter Tryz.func114, Tryz.ntmps114
    go_wp2_with fail
    rw [← HW0.out]
    go_region
    obtain ⟨W1, hW1⟩ : ∃ W1, W1 = (W0.alloc (.cells #[.int .i64 (l.sf 1), .int .i64 l.sc] 23)).drew := ⟨_, rfl⟩
    have hb1 : Below W0.heap.size W0 W1 := by rw [hW1]; exact ((Below.refl _ _).alloc (Nat.le_refl _) _).drew
    have hx1 : W1.heap[w.heap.size + 1]? = some (.cells #[.int .i64 (l.sf 1), .int .i64 l.sc] 23 (0, 0)) := by rw [hW1]; exact heap_alloc_eq _ _ _ hz0.symm
    have hB1 : Below w.heap.size w W1 := hb0.trans (hb1.mono hb0.size)
    have HW1 := Lib.hid hW1
    rw [← HW1.out]
    clear hW1 c0 c1 c2 c3 c4 c5 c6 hqlt
    have hs1 : SBox W1 w.heap.size 0 (.slice none 0 0) := (hb1.block _ (heap_lt hs0)).trans hs0
    have hk1 : ∀ W, Below W1.heap.size W1 W → SBv W q g l slot s lv fl ∧ W.heap[w.heap.size + 1]? = some (.cells #[.int .i64 (l.sf 1), .int .i64 l.sc] 23 (0, 0)) ∧ SBox W w.heap.size 0 (.slice none 0 0) := fun W e => ⟨(hq.ext hB1).ext e, (e.block _ (heap_lt hx1)).trans hx1, (e.block _ (heap_lt hs1)).trans hs1⟩
    have HK1 := Lib.hid hk1
    have hd1 := hd.ext hB1
    unfold Reg.snapS at hR
    obtain ⟨sz, hsz⟩ : ∃ sz, Extent.size l.sc = sz := ⟨_, rfl⟩
    have HSZ := Lib.hid (fun W => show Calls Tryz.prog 110 #[.agg #[.int .i64 (l.sf 1), .int .i64 l.sc]] W fun e w' => e = .returned (.int .i64 sz) ∧ Below W.heap.size W w' by rw [← hsz]; exact ex_size _ _ hc W)
    rw [hsz] at hR
    have FACT : ∀ W, Below W1.heap.size W1 W → W.cell? ⟨q, 14, none⟩ = some (.int .i64 s.len) ∧ W.cell? ⟨w.heap.size + 1, 0, none⟩ = some (.int .i64 (l.sf 1)) ∧ W.cell? ⟨w.heap.size + 1, 1, none⟩ = some (.int .i64 l.sc) := fun W e => ⟨(hk1 W e).1.at 14, cell_of_row _ _ _ _ _ _ (hk1 W e).2.1, cell_of_row _ _ _ _ _ _ (hk1 W e).2.1⟩
    have HFA := Lib.hid FACT
    obtain ⟨y1, y2, y3⟩ := FACT W1 (Below.refl _ _)
    have hx2 := hk1 W1 (Below.refl _ _)
    rw [hsz] at hsz0
    clear hk1 FACT hsz
    by_cases hbig : sz < s.len
    · rw [if_pos hbig] at hR
      subst hR
      go_wp2_with fail
      go_region_held3 (fun W => W.cell? ⟨q, 14, none⟩ = some (.int .i64 s.len) ∧ W.cell? ⟨w.heap.size + 1, 0, none⟩ = some (.int .i64 (l.sf 1)) ∧ W.cell? ⟨w.heap.size + 1, 1, none⟩ = some (.int .i64 l.sc)) (first | exact ⟨y1, y2, y3⟩ | exact HFA.out _ (by assumption)) (first
        | (go_at_call 110; go_must (refine (HSZ.out _).mono ?_); rintro e w2 ⟨rfl, hb2⟩; have hb2' : Below W1.heap.size W1 w2 := (Below.drew (Below.refl _ W1)).trans hb2; obtain ⟨x0, x1⟩ := SBox.cells (HK1.out w2 hb2').2.2; have f0 := SBox.frz (HK1.out w2 hb2').2.2 0; have f1 := SBox.frz (HK1.out w2 hb2').2.2 1; obtain ⟨g1, g2, g3⟩ := HFA.out w2 hb2'; have g0 : w2.cell? ⟨q, 0, none⟩ = some (.pointer (some ⟨g, 0, none⟩)) := (HK1.out w2 hb2').1.at 0))
      go_wp2_with fail
      have hE := SBox.set2 ((HK1.out w2 hb2').2.2) 0 (.slice none 0 0)
      obtain ⟨d0, d1⟩ := hE.cells
      refine bodyPost_ret (v := .tuple #[.agg #[.int .i64 0, .slice none 0 0], .int .i64 13]) (by simp [results, Tryz.results114, go_sem, d0, d1]) rfl ?_
      exact SnapP.fin (L := []) (hd1.ext hb2') (Upd.of_ext (F := F) (hB1.trans (hb2'.mono hB1.size))) nB (SlN.nil _) (fun x hx => by cases hx) (HK1.out w2 hb2').2.2 _ _
    · rw [if_neg hbig] at hR
      obtain ⟨b, z, d1, hrd⟩ : ∃ b z d1, Extent.read d (l.sf 1) l.sc 0 s.len = (b, z, d1) := ⟨_, _, _, rfl⟩
      rw [hact, Int.toNat_natCast, hrd] at hR
      dsimp only at hR
      have HRD := Lib.hid (fun W (e : Below W1.heap.size W1 W) => (hd1.ext e).eread (l.sf 1) l.sc 0 s.len hf hc (by unfold ib; omega) (by unfold ib; omega) hrd)
      have HK3 := Lib.hid (fun (W W' : World) (e : Below W1.heap.size W1 W) (u : Upd F W F W') => show W'.cell? ⟨q, 0, none⟩ = some (.pointer (some ⟨g, 0, none⟩)) ∧ W'.cell? ⟨q, 14, none⟩ = some (.int .i64 s.len) ∧ W'.cell? ⟨w.heap.size + 1, 0, none⟩ = some (.int .i64 (l.sf 1)) ∧ W'.cell? ⟨w.heap.size + 1, 1, none⟩ = some (.int .i64 l.sc) ∧ SBv W' q g l slot s lv fl ∧ SBox W' w.heap.size 0 (.slice none 0 0) from by
        obtain ⟨k1, k2, k3⟩ := HK1.out W e
        have k1' := k1.kept u hqF
        have k2' := (u.block _ (heap_lt k2) nE).trans k2
        exact ⟨k1'.at 0, k1'.at 14, cell_of_row _ _ _ _ _ _ k2', cell_of_row _ _ _ _ _ _ k2', k1', (u.block _ (heap_lt k3) nB).trans k3⟩)
      have HRL := Lib.hid (show z = 0 → b.length ≤ 100000 from fun hz => by subst hz; have := (Extent.read_len hd.ok hrd).1; omega)
      clear hrd
      go_wp2_with fail
      go_region_held3 (fun W => W.cell? ⟨q, 14, none⟩ = some (.int .i64 s.len) ∧ W.cell? ⟨w.heap.size + 1, 0, none⟩ = some (.int .i64 (l.sf 1)) ∧ W.cell? ⟨w.heap.size + 1, 1, none⟩ = some (.int .i64 l.sc)) (first | exact ⟨y1, y2, y3⟩ | exact HFA.out _ (by assumption)) (first
        | (go_at_call 110; go_must (refine (HSZ.out _).mono ?_); rintro e w2 ⟨rfl, hb2⟩; have hb2' : Below W1.heap.size W1 w2 := (Below.drew (Below.refl _ W1)).trans hb2; obtain ⟨x0, x1⟩ := SBox.cells (HK1.out w2 hb2').2.2; have f0 := SBox.frz (HK1.out w2 hb2').2.2 0; have f1 := SBox.frz (HK1.out w2 hb2').2.2 1; obtain ⟨g1, g2, g3⟩ := HFA.out w2 hb2'; have g0 : w2.cell? ⟨q, 0, none⟩ = some (.pointer (some ⟨g, 0, none⟩)) := (HK1.out w2 hb2').1.at 0))
      clear y1 y2 y3
      go_wp2_with fail
      go_region_held3 (fun W => W.cell? ⟨q, 0, none⟩ = some (.pointer (some ⟨g, 0, none⟩)) ∧ W.cell? ⟨q, 14, none⟩ = some (.int .i64 s.len) ∧ W.cell? ⟨w.heap.size + 1, 0, none⟩ = some (.int .i64 (l.sf 1)) ∧ W.cell? ⟨w.heap.size + 1, 1, none⟩ = some (.int .i64 l.sc)) (first | exact ⟨g0, g1, g2, g3⟩ | exact ⟨j0, j1, j2, j3⟩) (first
        | (go_at_call 127; go_must (refine (HRD.out _ (Below.drew hb2')).mono ?_); rintro e w3 ⟨v3, rfl, hO3, hd3, hU3⟩; obtain ⟨j0, j1, j2, j3, j4, j5⟩ := HK3.out _ w3 (Below.drew hb2') hU3; obtain ⟨x4, x5⟩ := SBox.cells j5; have f4 := SBox.frz j5 0; have f5 := SBox.frz j5 1; obtain ⟨a3, c3, rfl, hs3, hn3⟩ := hO3.sl))
      obtain ⟨N, hN⟩ : ∃ N, b.length = N := ⟨_, rfl⟩
      rw [hN] at hs3
      by_cases hz : z = 0
      · subst hz
        rw [if_neg (by simp)] at hR
        have hNb : N ≤ 100000 := by have := (HRL.out rfl); omega
        have HDC := Lib.hid (sn_decode_new a3 N c3 b w3 hs3 hNb)
        unfold SDecN at HDC
        rcases hdc : Snap.dec b with ⟨⟨c, L⟩, z4⟩
        rw [hdc] at HDC hR
        simp only at hR HDC
        have HU3 := Lib.hid (show Upd F w F w3 from (Upd.of_ext (hB1.trans ((Below.drew hb2').mono hB1.size))).trans hU3)
        clear hdc g0 g1 g2 g3
        rw [hN]
        go_wp2_with fail
        refine HDC.out.mono ?_; rintro e w4 ⟨a4, k4, rfl, hs4, hb4, hn4⟩
        obtain ⟨n4, hn4L⟩ : ∃ n, L.length = n := ⟨_, rfl⟩
        rw [hn4L] at hs4 hR ⊢
        have hb4' : Below w3.heap.size w3 w4 := hb4
        obtain ⟨W5, hW5⟩ : ∃ W5, W5 = w4.alloc (.cells #[.int .i64 c, .slice a4 n4 k4] 44) := ⟨_, rfl⟩
        have hb5 : Below w4.heap.size w4 W5 := by rw [hW5]; exact (Below.refl _ _).alloc (Nat.le_refl _) _
        have hbx5 : SBox W5 w4.heap.size c (.slice a4 n4 k4) := by rw [hW5]; exact SBox.new w4 c (.slice a4 n4 k4)
        have HW5 := Lib.hid hW5
        clear hW5
        have hB5 : Below w3.heap.size w3 W5 := hb4'.trans (hb5.mono hb4'.size)
        obtain ⟨t0, t1⟩ := hbx5.cells
        have u1 : W5.cell? ⟨q, 15, none⟩ = some (.int .u32 s.sum) := (j4.ext hB5).at 15
        have u2 : W5.cell? ⟨q, 1, none⟩ = some (.int .i64 l.cap) := (j4.ext hB5).at 1
        have HJ := Lib.hid (fun W (e : Below W5.heap.size W5 W) => show DP g d1 F W ∧ Upd F w F W ∧ SBox W w.heap.size 0 (.slice none 0 0) from ⟨hd3.ext (hB5.trans (e.mono hB5.size)), HU3.out.ext (hB5.trans (e.mono hB5.size)), j5.ext (hB5.trans (e.mono hB5.size))⟩)
        have HJN := Lib.hid (fun nq => HJ.out (W5.drewN nq) ⟨rfl, rfl, rfl, Nat.le_refl _, fun _ _ => rfl⟩)
        obtain ⟨cr, hcr⟩ : ∃ cr, Reg.crc b = cr := ⟨_, rfl⟩
        have HCR := Lib.hid (fun nq => show Calls Tryz.prog 48 #[.slice a3 N c3] (W5.drewN nq) fun e w' => e = .returned (.int .u32 (cr : Nat)) ∧ W5.drewN nq = w' by rw [← hcr]; exact crc_sum a3 N c3 b _ ((hs3.ext hB5).ext ⟨rfl, rfl, rfl, Nat.le_refl _, fun _ _ => rfl⟩))
        rw [hcr] at hR
        have hlt5 := heap_lt hbx5
        obtain ⟨x6, x7⟩ := SBox.cells (HJN.out 0).2.2
        have f6 := SBox.frz (HJN.out 0).2.2
        have x6' : W5.cell? ⟨w.heap.size, 0, none⟩ = some (.int .i64 0) := x6
        have x7' : W5.cell? ⟨w.heap.size, 1, none⟩ = some (.slice none 0 0) := x7
        have f60 : W5.frozen? ⟨w.heap.size, 0, none⟩ = false := f6 0
        have f61 : W5.frozen? ⟨w.heap.size, 1, none⟩ = false := f6 1
        have k0 : (0 : Int) ≤ (n4 : Int) := by omega
        clear x4 x5 f4 f5 hcr x6 x7 f6
        by_cases h1 : cr = s.sum
        · subst h1
          have g1 : ((s.sum : Int) == (s.sum : Int)) = true := by simp
          by_cases h2 : z4 = 0
          · subst h2
            by_cases h3 : l.cap < n4
            · rw [if_pos (.inr (.inr h3))] at hR
              subst hR
              have g2 : decide ((l.cap : Int) < (n4 : Int)) = true := by simp; omega
              go_wp2_with fail
              rw [← HW5.out]
              go_quiet (first | (go_at_call 48; exact Calls.quiet_of_same ((HCR.out _).mono fun _ _ ⟨h1, h2⟩ => ⟨h1, h2.symm⟩)))
              go_wp2_with fail
              have hE := SBox.set2 (HJN.out nq).2.2 0 (.slice none 0 0)
              obtain ⟨d0, d1⟩ := hE.cells
              refine bodyPost_ret (v := .tuple #[.agg #[.int .i64 0, .slice none 0 0], .int .i64 13]) (by simp [results, Tryz.results114, go_sem, d0, d1]) rfl ?_
              exact SnapP.fin (L := []) (HJN.out nq).1 (HJN.out nq).2.1 nB (SlN.nil _) (fun x hx => by cases hx) (HJN.out nq).2.2 _ _
            · rw [if_neg (by simp; omega)] at hR
              subst hR
              have g2 : decide ((l.cap : Int) < (n4 : Int)) = false := by simp; omega
              have HHN := Lib.hid hn4L
              clear hn4L
              go_wp2_with fail
              rw [← HW5.out]
              go_quiet (first | (go_at_call 48; exact Calls.quiet_of_same ((HCR.out _).mono fun _ _ ⟨h1, h2⟩ => ⟨h1, h2.symm⟩)))
              go_wp2_with fail
              have hE := SBox.set2 (HJN.out nq).2.2 c (.slice a4 n4 k4)
              obtain ⟨d0, d1⟩ := hE.cells
              refine bodyPost_ret (v := .tuple #[.agg #[.int .i64 c, .slice a4 n4 k4], .int .i64 0]) (by simp [results, Tryz.results114, go_sem, d0, d1]) rfl ?_
              have hs5 : SlN (W5.drewN nq) a4 n4 k4 L := (hs4.ext hb5).ext ⟨rfl, rfl, rfl, Nat.le_refl _, fun _ _ => rfl⟩
              obtain rfl := HHN.out
              exact SnapP.fin (HJN.out nq).1 (HJN.out nq).2.1 nB hs5 (fun x hx => by have := hn4 x hx; have := HU3.out.size; omega) (HJN.out nq).2.2 _ _
          · rw [if_pos (.inr (.inl h2))] at hR
            subst hR
            have g2 : (z4 == 0) = false := by simpa using h2
            go_wp2_with fail
            rw [← HW5.out]
            go_quiet (first | (go_at_call 48; exact Calls.quiet_of_same ((HCR.out _).mono fun _ _ ⟨h1, h2⟩ => ⟨h1, h2.symm⟩)))
            go_wp2_with fail
            have hE := SBox.set2 (HJN.out nq).2.2 0 (.slice none 0 0)
            obtain ⟨d0, d1⟩ := hE.cells
            refine bodyPost_ret (v := .tuple #[.agg #[.int .i64 0, .slice none 0 0], .int .i64 13]) (by simp [results, Tryz.results114, go_sem, d0, d1]) rfl ?_
            exact SnapP.fin (L := []) (HJN.out nq).1 (HJN.out nq).2.1 nB (SlN.nil _) (fun x hx => by cases hx) (HJN.out nq).2.2 _ _
        · rw [if_pos (.inl h1)] at hR
          subst hR
          have g1 : ((cr : Int) == (s.sum : Int)) = false := by simp; omega
          have g3 : ((cr : Int) != (s.sum : Int)) = true := by simp; omega
          have g4 : (cr == s.sum) = false := by simp; omega
          go_wp2_with fail
          rw [← HW5.out]
          go_quiet (first | (go_at_call 48; exact Calls.quiet_of_same ((HCR.out _).mono fun _ _ ⟨h1, h2⟩ => ⟨h1, h2.symm⟩)))
          go_wp2_with fail
          have hE := SBox.set2 (HJN.out nq).2.2 0 (.slice none 0 0)
          obtain ⟨d0, d1⟩ := hE.cells
          refine bodyPost_ret (v := .tuple #[.agg #[.int .i64 0, .slice none 0 0], .int .i64 13]) (by simp [results, Tryz.results114, go_sem, d0, d1]) rfl ?_
          exact SnapP.fin (L := []) (HJN.out nq).1 (HJN.out nq).2.1 nB (SlN.nil _) (fun x hx => by cases hx) (HJN.out nq).2.2 _ _
      · rw [if_pos hz] at hR
        subst hR
        have t1 : (z == 0) = false := by simpa using hz
        have HU3 := Lib.hid (show Upd F w F w3 from (Upd.of_ext (hB1.trans ((Below.drew hb2').mono hB1.size))).trans hU3)
        go_wp2_with fail
        have hE := SBox.set2 j5 0 (.slice none 0 0)
        obtain ⟨d0, d1⟩ := hE.cells
        refine bodyPost_ret (v := .tuple #[.agg #[.int .i64 0, .slice none 0 0], .int .i64 z]) (by simp [results, Tryz.results114, go_sem, d0, d1]) rfl ?_
        exact SnapP.fin (L := []) hd3 HU3.out nB (SlN.nil _) (fun x hx => by cases hx) j5 _ _

end Go.Proofs.YtmanejniepghlaaGreatDoor
