/-
  The law SectorMatchesSpec walked.
-/
import Derived.Test.YtedmnbmfbgenjaaPair
import Derived.Test.YtedmnbmfbgenjaaOps5
import Derived.Deep.RegionHeld3
namespace Go.Proofs.Ytedmnbmfbgenjaa
open Go.RowKit

/-- Where the script's loop stands. -/
def MRel (W : World) (g r : Nat) (wr : World) : Prop := ∃ F G d, Pr W F G g r d d wr

theorem MRel.intro {W : World} {F G : Nat → Prop} {g r : Nat} {d : Disk.Dk} {w w' : World} (h : Pr W F G g r d d w) (hB : Below w.heap.size w w') : MRel W g r w' := ⟨F, G, d, (h.ext hB).1⟩

set_option maxRecDepth 100000 in
set_option maxHeartbeats 8000000 in
theorem secm_law (cnt : Int) (a : Option Addr) (n c : Nat) (l : List O5) (w : World) (_hi : (Lit.int .i64 cnt).wf = true) (h : SlO w a n c l) :
    Calls Try.prog 6 #[.int .i64 cnt, .slice a n c] w fun e w' => e = .returned (.bool true) ∧ Below w.heap.size w w' := by
  have hle := h.le
  have HA := Lib.hid (fun W => law5_awake W)
  have HSM := Lib.hid (law5_small a n c l w h)
  by_cases hm : 100 < cnt ∧ cnt ≤ 4096
  · obtain ⟨h1, h2⟩ := hm
    clear h
    go_enter Try.func6, Try.ntmps6
    go_wp2_with fail
    refine (HA.out _).mono ?_; rintro e w1 ⟨rfl, hB⟩
    go_wp2_with fail
    go_ret
    exact ⟨rfl, hB⟩
  by_cases hlo : cnt < 1
  · clear hm
    have hd1 : ¬ 100 < cnt := by omega
    have HN := Lib.hid (fun W => sd_new_bad cnt (.inl hlo) W)
    have HRN := Lib.hid (fun W => rd_new_bad cnt (.inl hlo) W)
    clear h
    go_enter Try.func6, Try.ntmps6
    go_wp2_with fail
    refine HSM.out.mono ?_; rintro e w0 ⟨rr, rfl, hr, rfl⟩
    cases rr
    · clear hr
      go_wp2_with fail
      refine (HA.out _).mono ?_; rintro e w1 ⟨rfl, hB⟩
      go_wp2_with fail
      go_ret
      exact ⟨rfl, hB⟩
    · clear hr
      go_wp2_with fail
      refine (HN.out _).mono ?_; rintro e w1 ⟨rfl, rfl⟩
      go_wp2_with fail
      refine (HRN.out _).mono ?_; rintro e w1 ⟨rfl, rfl⟩
      go_wp2_with fail
      go_loopw [9] (fun i wr => i = .int .i64 0 ∧ wr = w0) (fun _ _ => 0)
      case atStart => exact ⟨rfl, rfl⟩
      case round =>
        obtain ⟨rfl, rfl⟩ := hrel
        go_wp2_with fail
        refine (HA.out _).mono ?_; rintro e w1 ⟨rfl, hB⟩
        go_wp2_with fail
        go_ret
        exact ⟨rfl, hB⟩
  by_cases hhi : 4096 < cnt
  · clear hm hlo
    have hd1 : 100 < cnt := by omega
    have hd2 : ¬ cnt ≤ 4096 := by omega
    have HN := Lib.hid (fun W => sd_new_bad cnt (.inr hhi) W)
    have HRN := Lib.hid (fun W => rd_new_bad cnt (.inr hhi) W)
    clear h
    go_enter Try.func6, Try.ntmps6
    go_wp2_with fail
    refine HSM.out.mono ?_; rintro e w0 ⟨rr, rfl, hr, rfl⟩
    cases rr
    · clear hr
      go_wp2_with fail
      refine (HA.out _).mono ?_; rintro e w1 ⟨rfl, hB⟩
      go_wp2_with fail
      go_ret
      exact ⟨rfl, hB⟩
    · clear hr
      go_wp2_with fail
      refine (HN.out _).mono ?_; rintro e w1 ⟨rfl, rfl⟩
      go_wp2_with fail
      refine (HRN.out _).mono ?_; rintro e w1 ⟨rfl, rfl⟩
      go_wp2_with fail
      go_loopw [9] (fun i wr => i = .int .i64 0 ∧ wr = w0) (fun _ _ => 0)
      case atStart => exact ⟨rfl, rfl⟩
      case round =>
        obtain ⟨rfl, rfl⟩ := hrel
        go_wp2_with fail
        refine (HA.out _).mono ?_; rintro e w1 ⟨rfl, hB⟩
        go_wp2_with fail
        go_ret
        exact ⟨rfl, hB⟩
  have hd1 : ¬ 100 < cnt := by omega
  obtain ⟨N, rfl⟩ : ∃ N : Nat, cnt = (N : Int) := ⟨cnt.toNat, by omega⟩
  have hN : 1 ≤ N := by omega
  have hN2 : N ≤ 4096 := by omega
  clear hm hlo hhi
  go_enter Try.func6, Try.ntmps6
  go_wp2_with fail
  refine HSM.out.mono ?_; rintro e w0 ⟨rr, rfl, hr, rfl⟩
  cases rr
  · clear h hr
    go_wp2_with fail
    refine (HA.out _).mono ?_; rintro e w1 ⟨rfl, hB⟩
    go_wp2_with fail
    go_ret
    exact ⟨rfl, hB⟩
  obtain ⟨hn80, hsm⟩ := hr rfl
  go_wp2_with fail
  refine (sd_new N hN hN2 _ N rfl).mono ?_; rintro e w1 ⟨F, g, s, m, fa, fn, fc, rfl, hP1, hF1, hB1⟩
  go_wp2_with fail
  refine (rd_new N hN hN2 _ N rfl).mono ?_; rintro e w2 ⟨G, r, sb, cb, sc, rfl, hR2, hG2, hB2⟩
  have hM0 : MRel w0 g r w2 := ⟨F, G, _, s, m, fa, fn, fc, sb, cb, sc, none, 0, 0, hP1.ext hB2, hR2, fun k hf hg => by have := hP1.lt k hf; have := hG2 k hg; omega, hF1, fun k hk => Nat.le_trans hB1.size (hG2 k hk), hB1.trans (hB2.mono hB1.size)⟩
  clear hP1 hF1 hB1 hR2 hG2 hB2
  go_wp2_with fail
  go_loopw [9, 10, 11, 12, 13, 14] (fun i _ _ _ _ _ wr => ∃ k : Nat, k ≤ n ∧ i = .int .i64 k ∧ MRel w0 g r wr) (fun i _ _ _ _ _ _ => n - (intOf i).toNat)
  case atStart => exact ⟨0, by omega, rfl, hM0⟩
  case round =>
    obtain ⟨k, hkk, rfl, F, G, d, hPr⟩ := hrel
    clear hM0
    by_cases hlt : k < n
    · obtain ⟨b, o, x, rfl, hb, hx, hi⟩ := h.at hlt
      obtain ⟨-, -, c0, c1, ⟨p, m1, d1, c2, s2⟩, ⟨p1, m2, d2, c3, s3⟩, ⟨p2, m3, d3, c4, s4⟩⟩ := hi
      have hbl := hPr.below
      replace c0 := (hbl.cell (p := ⟨b, o + k * 5, none⟩) hb).trans c0
      replace c1 := (hbl.cell (p := ⟨b, o + k * 5 + 1, none⟩) hb).trans c1
      replace c2 := (hbl.cell (p := ⟨b, o + k * 5 + 2, none⟩) hb).trans c2
      replace c3 := (hbl.cell (p := ⟨b, o + k * 5 + 3, none⟩) hb).trans c3
      replace c4 := (hbl.cell (p := ⟨b, o + k * 5 + 4, none⟩) hb).trans c4
      have i0 : (0 : Int) ≤ (k : Int) := by omega
      have i1 : (k : Int) < (n : Int) := by omega
      have hx100 : m1 ≤ 100 := by
        have := (hsm x (List.mem_of_getElem? hx)).1
        have := s2.len
        omega
      have HX := Lib.hid (And.intro hx100 (And.intro s2 (And.intro s3 s4)))
      clear s2 s3 s4 hx hx100
      obtain ⟨kind, sec, data, fs, ks⟩ := x
      simp only at c0 c1 c2 c3 c4 HX
      have hPA : ∀ o, Pr w0 F G g r d d (wr.alloc o) := fun o => hPr.alloc o
      have HPA := Lib.hid hPA
      clear hPA
      have hAT : ∀ A t, At5 F G (wr.alloc (.cells A t)) wr.heap.size A t := fun A t => by
        obtain ⟨_, _, _, _, _, _, _, _, _, _, _, hP, hR, -⟩ := hPr
        exact ⟨by simp, fun e => Nat.lt_irrefl _ (hP.lt _ e), fun e => Nat.lt_irrefl _ (hR.lt _ e), heap_alloc_eq _ _ _ rfl⟩
      have HAT := Lib.hid hAT
      clear hAT
      by_cases k0 : kind = 0
      · subst k0
        obtain ⟨bb, z, d', hr0⟩ : ∃ bb z d', Disk.read d sec = (bb, z, d') := ⟨_, _, _, rfl⟩
        have HR0 := Lib.hid hr0
        clear hr0
        go_wp2_with (first
          | (go_at_call 17; go_must (refine ((HPA.out _).sread _ HR0.out).mono ?_); rintro e w3 ⟨v3, rfl, hV3, hP3, hK3⟩; have t1 : w3.cell? ⟨wr.heap.size, 1, none⟩ = some (.int .i64 sec) := (hK3.2 _ _ _ (HAT.out _ _)).cell 1)
          | (go_at_call 31; go_must (refine (hP3.rread _ HR0.out).mono ?_); rintro e w4 ⟨v4, rfl, hV4, hP4, hK4⟩; obtain ⟨a3, e3, rfl, hs3, -⟩ := (hK4.1 _ _ hV3).sl; obtain ⟨a4, e4, rfl, hs4, -⟩ := hV4.sl)
          | (go_at_call 18; go_must (refine (keep_bytes _ _ _ _ _ _ _ _ _ hs3 hs4).mono ?_); rintro e w5 ⟨rfl, rfl⟩; rw [show (bb == bb) = true by simp])
          | (go_at_call 42; go_must (refine hP4.same.mono ?_); rintro e w6 ⟨rfl, hB6⟩))
        exact ⟨⟨k + 1, by omega, by go_num, MRel.intro hP4 hB6⟩, by simp [intOf]; omega⟩
      by_cases k2 : kind = 2
      · subst k2
        clear k0
        obtain ⟨z, d', hr0⟩ : ∃ z d', Disk.sync d = (z, d') := ⟨_, _, rfl⟩
        have HR0 := Lib.hid hr0
        clear hr0
        go_wp2_with (first
          | (go_at_call 34; go_must (refine ((HPA.out _).ssync HR0.out).mono ?_); rintro e w3 ⟨rfl, hP3, -⟩)
          | (go_at_call 35; go_must (refine (hP3.rsync HR0.out).mono ?_); rintro e w4 ⟨rfl, hP4, -⟩)
          | (go_at_call 42; go_must (refine hP4.same.mono ?_); rintro e w6 ⟨rfl, hB6⟩))
        exact ⟨⟨k + 1, by omega, by go_num, MRel.intro hP4 hB6⟩, by simp [intOf]; omega⟩
      by_cases k4 : kind = 4
      · subst k4
        clear k0 k2
        go_wp2_with (first
          | (go_at_call 38; go_must (refine (HPA.out _).scut.mono ?_); rintro e w3 ⟨rfl, hP3, -⟩)
          | (go_at_call 39; go_must (refine hP3.rcut.mono ?_); rintro e w4 ⟨rfl, hP4, -⟩)
          | (go_at_call 42; go_must (refine hP4.same.mono ?_); rintro e w6 ⟨rfl, hB6⟩))
        exact ⟨⟨k + 1, by omega, by go_num, MRel.intro hP4 hB6⟩, by simp [intOf]; omega⟩
      by_cases k1 : kind = 1
      · subst k1
        clear k0 k2 k4
        obtain ⟨z, d', hr0⟩ : ∃ z d', Disk.write d sec data = (z, d') := ⟨_, _, rfl⟩
        have HR0 := Lib.hid hr0
        clear hr0
        have hATd : At5 F G (wr.alloc (.cells #[.int .i64 1, .int .i64 sec, .slice p m1 d1, .slice p1 m2 d2, .slice p2 m3 d3] 56)).drew wr.heap.size #[.int .i64 1, .int .i64 sec, .slice p m1 d1, .slice p1 m2 d2, .slice p2 m3 d3] 56 := HAT.out _ _
        have q1 : (wr.alloc (.cells #[.int .i64 1, .int .i64 sec, .slice p m1 d1, .slice p1 m2 d2, .slice p2 m3 d3] 56)).drew.cell? ⟨wr.heap.size, 1, none⟩ = some (.int .i64 sec) := hATd.cell 1
        have q2 : (wr.alloc (.cells #[.int .i64 1, .int .i64 sec, .slice p m1 d1, .slice p1 m2 d2, .slice p2 m3 d3] 56)).drew.cell? ⟨wr.heap.size, 2, none⟩ = some (.slice p m1 d1) := hATd.cell 2
        have HATD := Lib.hid hATd
        clear hATd
        go_wp2
        go_region_held3 (fun w' => w'.cell? ⟨wr.heap.size, 1, none⟩ = some (.int .i64 sec) ∧ w'.cell? ⟨wr.heap.size, 2, none⟩ = some (.slice p m1 d1)) (first | exact ⟨q1, q2⟩ | exact ⟨t31, t32⟩ | exact ⟨t41, t42⟩ | exact ⟨t51, t52⟩) (first
          | (go_at_call 32; go_must (refine ((HPA.out _).drew.own HX.out.2.1 (by have := HX.out.1; omega)).mono ?_); rintro e w3 ⟨v3, rfl, hV3, hP3, hK3⟩; have hT3 := hK3.2 _ _ _ HATD.out; have t31 : w3.cell? ⟨wr.heap.size, 1, none⟩ = some (.int .i64 sec) := hT3.cell 1; have t32 : w3.cell? ⟨wr.heap.size, 2, none⟩ = some (.slice p m1 d1) := hT3.cell 2)
          | (go_at_call 15; go_must (refine (hP3.swrite _ hV3 HR0.out).mono ?_); rintro e w4 ⟨rfl, F4, hP4, hK4⟩; have hT4 := hK4.2 _ _ _ hT3; have t41 : w4.cell? ⟨wr.heap.size, 1, none⟩ = some (.int .i64 sec) := hT4.cell 1; have t42 : w4.cell? ⟨wr.heap.size, 2, none⟩ = some (.slice p m1 d1) := hT4.cell 2)
          | (go_at_call 33; go_must (refine (hP4.rwrite _ HX.out.2.1 HR0.out).mono ?_); rintro e w5 ⟨rfl, G5, hP5, hK5⟩; have hT5 := hK5.2 _ _ _ hT4; have t51 : w5.cell? ⟨wr.heap.size, 1, none⟩ = some (.int .i64 sec) := hT5.cell 1; have t52 : w5.cell? ⟨wr.heap.size, 2, none⟩ = some (.slice p m1 d1) := hT5.cell 2))
        go_wp2_with (go_at_call 42; go_must (refine hP5.same.mono ?_); rintro e w6 ⟨rfl, hB6⟩)
        exact ⟨⟨k + 1, by omega, by go_num, MRel.intro hP5 hB6⟩, by simp [intOf]; omega⟩
      by_cases k3 : kind = 3
      · subst k3
        clear k0 k1 k2 k4
        obtain ⟨z, d', hr0⟩ : ∃ z d', Disk.arm d fs = (z, d') := ⟨_, _, rfl⟩
        have HR0 := Lib.hid hr0
        clear hr0
        have hATd : At5 F G (wr.alloc (.cells #[.int .i64 3, .int .i64 sec, .slice p m1 d1, .slice p1 m2 d2, .slice p2 m3 d3] 56)).drew wr.heap.size #[.int .i64 3, .int .i64 sec, .slice p m1 d1, .slice p1 m2 d2, .slice p2 m3 d3] 56 := HAT.out _ _
        have q1 : (wr.alloc (.cells #[.int .i64 3, .int .i64 sec, .slice p m1 d1, .slice p1 m2 d2, .slice p2 m3 d3] 56)).drew.cell? ⟨wr.heap.size, 3, none⟩ = some (.slice p1 m2 d2) := hATd.cell 3
        have HATD := Lib.hid hATd
        clear hATd
        go_wp2
        go_region_held3 (fun w' => w'.cell? ⟨wr.heap.size, 3, none⟩ = some (.slice p1 m2 d2)) (first | exact q1 | exact t41 | exact t51) (first
          | (go_at_call 36; go_must (refine ((HPA.out _).drew.sarm HX.out.2.2.1 HR0.out).mono ?_); rintro e w4 ⟨rfl, F4, hP4, hK4⟩; have hT4 := hK4.2 _ _ _ HATD.out; have t41 : w4.cell? ⟨wr.heap.size, 3, none⟩ = some (.slice p1 m2 d2) := hT4.cell 3)
          | (go_at_call 37; go_must (refine (hP4.rarm HX.out.2.2.1 HR0.out).mono ?_); rintro e w5 ⟨rfl, G5, hP5, hK5⟩; have hT5 := hK5.2 _ _ _ hT4; have t51 : w5.cell? ⟨wr.heap.size, 3, none⟩ = some (.slice p1 m2 d2) := hT5.cell 3))
        go_wp2_with (go_at_call 42; go_must (refine hP5.same.mono ?_); rintro e w6 ⟨rfl, hB6⟩)
        exact ⟨⟨k + 1, by omega, by go_num, MRel.intro hP5 hB6⟩, by simp [intOf]; omega⟩
      have hd0 : (kind == 0) = false := by simpa using k0
      have hd1 : (kind == 1) = false := by simpa using k1
      have hd2 : (kind == 2) = false := by simpa using k2
      have hd3 : (kind == 3) = false := by simpa using k3
      have hd4 : (kind == 4) = false := by simpa using k4
      clear k0 k1 k2 k3 k4
      obtain ⟨d', hr0⟩ : ∃ d', Disk.restart d ks = d' := ⟨_, rfl⟩
      have HR0 := Lib.hid hr0
      clear hr0
      go_wp2_with (first
        | (go_at_call 40; go_must (refine ((HPA.out _).srestart HX.out.2.2.2 HR0.out).mono ?_); rintro e w3 ⟨rfl, hP3, hK3⟩; have t1 : w3.cell? ⟨wr.heap.size, 4, none⟩ = some (.slice p2 m3 d3) := (hK3.2 _ _ _ (HAT.out _ _)).cell 4)
        | (go_at_call 41; go_must (refine (hP3.rrestart HX.out.2.2.2 HR0.out).mono ?_); rintro e w4 ⟨rfl, G4, hP4, -⟩)
          | (go_at_call 42; go_must (refine hP4.same.mono ?_); rintro e w6 ⟨rfl, hB6⟩))
      exact ⟨⟨k + 1, by omega, by go_num, MRel.intro hP4 hB6⟩, by simp [intOf]; omega⟩
    · obtain rfl : n = k := by omega
      have hB := hPr.below
      clear h
      go_wp2_with (go_at_call 20; go_must (refine (HA.out _).mono ?_); rintro e w3 ⟨rfl, hB3⟩)
      go_ret
      exact ⟨rfl, hB.trans (hB3.mono hB.size)⟩

end Go.Proofs.Ytedmnbmfbgenjaa
