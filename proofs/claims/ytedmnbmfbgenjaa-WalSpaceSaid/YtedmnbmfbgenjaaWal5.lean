/-
  The walk through wal.Open.
-/
import Derived.Test.YtedmnbmfbgenjaaWalPlain
namespace Go.Proofs.Ytedmnbmfbgenjaa
open Go.RowKit

theorem ownb_rowN {base : Nat} {w : World} {v : Value} {l : List UInt8} (h : OwnB base w v l) (N : Nat) (hl : l.length = N) (hN : 0 < N) : ∃ g c, v = .slice (some ⟨g, 0, none⟩) N c ∧ N ≤ c ∧ base ≤ g ∧ SlB w (some ⟨g, 0, none⟩) N c l := by
  obtain ⟨a, c, rfl, hs, hf⟩ := h.sl
  rw [hl] at hs ⊢
  cases a with
  | none => have := (hs.2.2.2.1 rfl).1; subst this; simp at hl; omega
  | some x =>
    obtain ⟨e, hb, -⟩ := hf x rfl
    exact ⟨x.block, c, by rw [← e], hs.2.1, hb, by rw [← e]; exact hs⟩

def WalOpenPost (F : Nat → Prop) (w : World) (g s m : Nat) (fa : Option Addr) (fn fc : Nat) (r : Option Wal.L × List (List UInt8) × Int × Disk.Dk) (e : Ending) (w' : World) : Prop :=
  match r with
  | (none, _, z, d') => e = .returned (.tuple #[.pointer none, .slice none 0 0, .int .i64 z]) ∧ ∃ F', PD F' w' g s m fa fn fc d' ∧ Upd F w F' w'
  | (some L, ps, z, d') => ∃ F' q v, e = .returned (.tuple #[.pointer (some ⟨q, 0, none⟩), v, .int .i64 z]) ∧ w.heap.size ≤ q ∧ OwnL w.heap.size w' v ps ∧ WD F' w' q g s m fa fn fc L d' ∧ Upd F w F' w'

theorem Wal.open_e1 {d : Disk.Dk} {f c : Int} {ep : Nat} {b : List UInt8} {z : Int} {d1 : Disk.Dk} (hr : Extent.read d f c 0 (Extent.size c) = (b, z, d1)) (hz : ¬ z = 0) : Wal.open d f c ep = (none, [], z, d1) := by
  unfold Wal.open; rw [hr]; exact if_neg hz
theorem Wal.open_e2 {d : Disk.Dk} {f c : Int} {ep : Nat} {b : List UInt8} {d1 d2 : Disk.Dk} {z2 : Int} (hr : Extent.read d f c 0 (Extent.size c) = (b, 0, d1)) (he : Wal.erase d1 f c (Frame.scan b ep).2 (b.drop (Frame.scan b ep).2) = (z2, d2)) (hz : ¬ z2 = 0) : Wal.open d f c ep = (none, [], z2, d2) := by
  unfold Wal.open; rw [hr]; simp only [if_true]; rw [he]; exact if_neg hz
theorem Wal.open_e3 {d : Disk.Dk} {f c : Int} {ep : Nat} {b : List UInt8} {d1 d2 d3 : Disk.Dk} {z3 : Int} (hr : Extent.read d f c 0 (Extent.size c) = (b, 0, d1)) (he : Wal.erase d1 f c (Frame.scan b ep).2 (b.drop (Frame.scan b ep).2) = (0, d2)) (hs : Disk.sync d2 = (z3, d3)) (hz : ¬ z3 = 0) : Wal.open d f c ep = (none, [], z3, d3) := by
  unfold Wal.open; rw [hr]; simp only [if_true]; rw [he]; simp only [if_true]; rw [hs]; exact if_neg hz
theorem Wal.open_o {d : Disk.Dk} {f c : Int} {ep : Nat} {b : List UInt8} {d1 d2 d3 : Disk.Dk} (hr : Extent.read d f c 0 (Extent.size c) = (b, 0, d1)) (he : Wal.erase d1 f c (Frame.scan b ep).2 (b.drop (Frame.scan b ep).2) = (0, d2)) (hs : Disk.sync d2 = (0, d3)) : Wal.open d f c ep = (some ⟨f, c, ep, (Frame.scan b ep).2, (Frame.scan b ep).1.length, (Frame.scan b ep).1.length, false⟩, (Frame.scan b ep).1, 0, d3) := by
  unfold Wal.open; rw [hr]; simp only [if_true]; rw [he]; simp only [if_true]; rw [hs]; exact if_pos rfl

set_option maxRecDepth 100000 in
set_option maxHeartbeats 2000000 in
theorem wl_open_ok {F : Nat → Prop} {w : World} {g s m : Nat} {fa : Option Addr} {fn fc : Nat} {d : Disk.Dk} (h : PD F w g s m fa fn fc d) (f c : Int) (hf : ib f) (hc : ib c) (ep : Nat) (hep : ep < 4294967296) {b : List UInt8} {d1 : Disk.Dk} (hr : Extent.read d f c 0 (Extent.size c) = (b, 0, d1)) (hb : b.length ≤ 100000) (hb64 : 64 ≤ b.length) {ps : List (List UInt8)} {en : Nat} (hsc : Frame.scan b ep = (ps, en)) (hen : en ≤ b.length) {z2 : Int} {d2 : Disk.Dk} (he : Wal.erase d1 f c en (b.drop en) = (z2, d2)) :
    Calls Try.prog 22 #[.pointer (some ⟨g, 0, none⟩), .agg #[.int .i64 f, .int .i64 c], .int .u32 (ep : Nat)] w (WalOpenPost F w g s m fa fn fc (Wal.open d f c ep)) := by
  obtain ⟨W0, hW0⟩ : ∃ W0, W0 = w.alloc (.cells #[.int .i64 f, .int .i64 c] 41) := ⟨_, rfl⟩
  have hB0 : Below w.heap.size w W0 := by rw [hW0]; exact (Below.refl _ _).alloc (Nat.le_refl _) _
  have hE0 : W0.heap[w.heap.size]? = some (.cells #[.int .i64 f, .int .i64 c] 41 (0, 0)) := by rw [hW0]; exact heap_alloc_eq _ _ _ rfl
  have HW0 := Lib.hid hW0
  have HE0 := Lib.hid hE0
  have x1 : W0.drew.cell? ⟨w.heap.size, 0, none⟩ = some (.int .i64 f) := by rw [show W0.drew.cell? ⟨w.heap.size, 0, none⟩ = W0.cell? ⟨w.heap.size, 0, none⟩ from rfl, cell_of_row _ _ _ _ _ _ hE0]; rfl
  have x2 : W0.drew.cell? ⟨w.heap.size, 1, none⟩ = some (.int .i64 c) := by rw [show W0.drew.cell? ⟨w.heap.size, 1, none⟩ = W0.cell? ⟨w.heap.size, 1, none⟩ from rfl, cell_of_row _ _ _ _ _ _ hE0]; rfl
  have hP0 : PD F W0.drew g s m fa fn fc d := (h.ext hB0).drew
  have hU0 : Upd F w F W0.drew := (Upd.of_ext hB0).drew
  have hlt : w.heap.size < W0.drew.heap.size := heap_lt hE0
  clear hW0 hE0
  have HRR := Lib.hid hr
  have HSCE := Lib.hid hsc
  have HEE := Lib.hid (hsc ▸ he : Wal.erase d1 f c (Frame.scan b ep).2 (b.drop (Frame.scan b ep).2) = (z2, d2))
  clear hsc
  clear hr
  go_enter Try.func22, Try.ntmps22
  go_wp2_with fail
  rw [← HW0.out]
  go_region_law (first | (go_simp; go_at_call 57; go_must (refine (ex_size f c hc _).mono ?_); rintro e w1 ⟨rfl, hB1⟩; have y1 : w1.cell? ⟨w.heap.size, 0, none⟩ = some (.int .i64 f) := (by simp only [World.cell?, hB1.block _ hlt] at x1 ⊢; exact x1); have y2 : w1.cell? ⟨w.heap.size, 1, none⟩ = some (.int .i64 c) := (by simp only [World.cell?, hB1.block _ hlt] at x2 ⊢; exact x2)) | (go_simp; go_at_call 51; go_must (refine (ex_read_at (hP0.ext hB1) f c 0 (Extent.size c) hf hc (by unfold ib; omega) (size_ib c) HRR.out).mono ?_); rintro e w2 ⟨v2, rfl, hO2, hP2, hU2⟩))
  all_goals
    obtain ⟨bb, c2, rfl, hcc, hbb, hs2⟩ := ownb_rowN hO2 b.length rfl (by omega)
    have nF : ¬ F w.heap.size := fun e => by have := h.lt _ e; omega
    have hz1 := hB1.size
    have hX2 : w2.heap[w.heap.size]? = some (.cells #[.int .i64 f, .int .i64 c] 41 (0, 0)) := (hU2.block _ (by omega) nF).trans ((hB1.block _ hlt).trans HE0.out)
    have HX2 := Lib.hid hX2
    have HSC : Hid (Calls Try.prog 66 #[.slice (some ⟨bb, 0, none⟩) b.length c2, .int .u32 (ep : Nat)] w2 fun e w' => ∃ v, e = .returned (.tuple #[v, .int .i64 (en : Nat)]) ∧ OwnL w2.heap.size w' v ps ∧ Below w2.heap.size w2 w') := by
      have := fr_scan (some ⟨bb, 0, none⟩) _ c2 b ep hep w2 hs2 hb
      unfold ScanPost at this
      rw [HSCE.out] at this
      exact Lib.hid this
    clear x1 x2 y1 y2 hX2
    have hle3 : en ≤ c2 := Nat.le_trans hen hs2.2.1
    have hle3i : (en : Int) ≤ (b.length : Int) := by omega
    go_wp2_with (go_at_call 66; go_must (refine HSC.out.mono ?_); rintro e w3 ⟨v3, rfl, hO3, hB3⟩; obtain ⟨a3, c3, rfl, hs3⟩ := hO3.sl; have hX3 := (hB3.block _ (heap_lt HX2.out)).trans HX2.out; have y1 := cell_of_row _ _ 0 _ _ _ hX3; have y2 := cell_of_row _ _ 1 _ _ _ hX3; simp only [List.getElem?_toArray, List.getElem?_cons_zero, List.getElem?_cons_succ] at y1 y2; have HX3 := Lib.hid hX3; clear hX3; obtain ⟨W4, hW4⟩ : ∃ W4, W4 = w3.alloc (.cells #[.pointer (some ⟨g, 0, none⟩), .int .i64 f, .int .i64 c, .int .u32 (ep : Nat), .int .i64 (en : Nat), .int .i64 (ps.length : Nat), .int .i64 (ps.length : Nat), .bool false] 100) := ⟨_, rfl⟩; have hL4 : LB W4 w3.heap.size g ⟨f, c, ep, en, ps.length, ps.length, false⟩ := (by rw [hW4]; exact heap_alloc_eq _ _ _ rfl); have HL4 := Lib.hid hL4; have HW4 := Lib.hid hW4; clear hL4 hW4)
    all_goals rw [← HW4.out]
    all_goals
      have hB4 : Below w3.heap.size w3 W4 := by rw [HW4.out]; exact (Below.refl _ _).alloc (Nat.le_refl _) _
      have hB24 : Below w2.heap.size w2 W4 := hB3.trans (hB4.mono hB3.size)
      have hO4 := hO2.ext hB24
      have hP4 := hP2.ext hB24
      have hU4 : Upd F w F W4 := ((hU0.ext hB1).trans hU2).ext hB24
      have h23 := hB3.size
      have hbl := (hO2.lt bb rfl).2
      have hbq : bb ≠ w3.heap.size := by omega
      have hwb : w.heap.size ≤ bb := by omega
      have hwq : w.heap.size ≤ w3.heap.size := by have := hU2.size; omega
      have hlF : ∀ k, F k → k < w.heap.size := ‹PD F w g s m fa fn fc d›.lt
      have nFb : ¬ F bb := fun e => by have := hlF _ e; omega
      have nFq : ¬ F w3.heap.size := fun e => by have := hlF _ e; omega
      have hS4 : SlB W4 (some ⟨bb, 0, none⟩) b.length c2 b := hs2.ext hB24
      have hER : ∀ (a : Option Addr) (r ca : Nat), en + r = b.length → r ≤ 1000000 → (r ≠ 0 → a = some ⟨bb, en, none⟩) → SlB W4 a r ca (b.drop en) →
        Calls Try.prog 67 #[.pointer (some ⟨w3.heap.size, 0, none⟩), .slice a r ca] W4 fun e w' => e = .returned (.int .i64 z2) ∧ ∃ F' w1, But bb W4 w1 ∧ PD F' w' g s m fa fn fc d2 ∧ Upd F w1 F' w' := fun a r ca h1 h2 h3 h4 =>
          wl_erase hP4 HL4.out hf hc (by simp only; omega) hO4 nFb hbq _ r h1 h2 a ca h3 h4 he
      have hz0 : c2 = en → SlB W4 (some ⟨bb, 0, none⟩) (b.length - en) 0 (b.drop en) := fun e => by
        have e2 : b.length - en = 0 := by omega
        rw [e2, List.drop_of_length_le (by omega)]; exact SlB.zero _ _ _
      have hz1 : SlB W4 (some ⟨bb, en, none⟩) (b.length - en) (c2 - en) (b.drop en) := by
        have := hS4.drop hen
        rwa [Nat.zero_add] at this
      clear y1 y2
      go_must (first | have hce : c2 = en := (by assumption); refine (hER (some ⟨bb, 0, none⟩) (b.length - en) 0 (by omega) (by omega) (fun e => absurd (by omega) e) (hz0 hce)).mono ?_ | refine (hER (some ⟨bb, en, none⟩) (b.length - en) (c2 - en) (by omega) (by omega) (fun _ => rfl) hz1).mono ?_)
      rintro e w5 ⟨rfl, F5, wE, hBt, hP5, hU5⟩
      have hL4 := HL4.out
      have hqE : w3.heap.size < wE.heap.size := Nat.lt_of_lt_of_le hL4.lt hBt.size
      have hL5 := (hL4.same (hBt.block _ hL4.lt (fun e => hbq e.symm))).same (hU5.block _ hqE nFq)
      have nF5 : ¬ F5 w3.heap.size := fun e => by
        rcases hU5.new _ e with e | e
        · exact nFq e
        · omega
      have hU05 : Upd F w F5 w5 := (hU4.but (.inr hwb) hBt).trans hU5
      have hO5 : ∀ w6, Upd F5 w5 F5 w6 → OwnL w.heap.size w6 (.slice a3 ps.length c3) ps := fun w6 hU6 => by
        refine (hO3.keep (w' := w6) fun k hk hk2 => ?_).mono (by have := hU2.size; omega)
        have hk4 := heap_lt hL4
        have nF5k : ¬ F5 k := fun e => by
          rcases hU5.new _ e with e | e
          · have := hlF _ e; have := hU2.size; omega
          · omega
        refine (hU6.block k (by have := hU5.size; omega) nF5k).trans ((hU5.block k (by omega) (fun e => by have := hlF _ e; have := hU2.size; omega)).trans ((hBt.block k (by omega) (by omega)).trans ?_))
        exact hB4.block k hk2
      clear hER hz0 hz1 hL4
      rcases hs : Disk.sync d2 with ⟨z3, d3⟩
      have HSY := Lib.hid (sd_sync_at hP5 hs)
      have HSS := Lib.hid hs
      have HL5 := Lib.hid hL5
      clear he hs hL5 hle3 hle3i
    all_goals
      by_cases hz2 : z2 = 0
      · subst hz2
        by_cases hz3 : z3 = 0
        · subst hz3
          go_wp2_with (go_at_call 34; go_must (refine HSY.out.mono ?_); rintro e w6 ⟨rfl, hP6, hU6⟩)
          go_ret3
          rw [Wal.open_o HRR.out HEE.out HSS.out, HSCE.out]
          refine ⟨F5, w3.heap.size, _, rfl, hwq, hO5 _ hU6, ⟨hP6, HL5.out.same (hU6.block _ HL5.out.lt nF5), nF5⟩, hU05.trans hU6⟩
        · have t3 : (z3 != 0) = true := by simpa using hz3
          go_wp2_with (go_at_call 34; go_must (refine HSY.out.mono ?_); rintro e w6 ⟨rfl, hP6, hU6⟩)
          go_ret3
          rw [Wal.open_e3 HRR.out HEE.out HSS.out hz3]
          exact ⟨rfl, F5, hP6, hU05.trans hU6⟩
      · have t2 : (z2 != 0) = true := by simpa using hz2
        go_wp2_with fail
        go_ret3
        rw [Wal.open_e2 HRR.out HEE.out hz2]
        exact ⟨rfl, F5, hP5, hU05⟩

theorem wl_open {F : Nat → Prop} {w : World} {g s m : Nat} {fa : Option Addr} {fn fc : Nat} {d : Disk.Dk} (h : PD F w g s m fa fn fc d) (f c : Int) (hf : ib f) (hc : ib c) (ep : Nat) (hep : ep < 4294967296) (hn : d.st.length ≤ 1000) :
    Calls Try.prog 22 #[.pointer (some ⟨g, 0, none⟩), .agg #[.int .i64 f, .int .i64 c], .int .u32 (ep : Nat)] w (WalOpenPost F w g s m fa fn fc (Wal.open d f c ep)) := by
  rcases hr : Extent.read d f c 0 (Extent.size c) with ⟨b, z, d1⟩
  by_cases hz : z = 0
  · subst hz
    obtain ⟨h1, h2, h3⟩ := Wal.read_all h.ok hn hr
    have h4 := (Frame.scan_le b ep).1
    rcases hsc : Frame.scan b ep with ⟨ps, en⟩
    rw [hsc] at h4
    rcases he : Wal.erase d1 f c en (b.drop en) with ⟨z2, d2⟩
    exact wl_open_ok h f c hf hc ep hep hr (by omega) h1 hsc h4 he
  · refine (wl_open_err h f c hf hc ep hr hz).mono ?_
    rintro e w' ⟨rfl, h1, h2⟩
    rw [Wal.open_e1 hr hz]
    exact ⟨rfl, F, h1, h2⟩

end Go.Proofs.Ytedmnbmfbgenjaa
