/-
  The law ExtentMatchesSpec walked.
-/
import Derived.Test.YtedmnbmfbgenjaaPairE
import Derived.Test.YtedmnbmfbgenjaaSecM
import Derived.Deep.RegionHeld3
namespace Go.Proofs.Ytedmnbmfbgenjaa
open Go.RowKit

set_option maxRecDepth 100000 in
set_option maxHeartbeats 16000000 in
theorem extm_law (num0 : Int) (a : Option Addr) (n c : Nat) (l : List O6) (w : World) (_hi : (Lit.int .i64 num0).wf = true) (h : SlO6 w a n c l) :
    Calls Try.prog 12 #[.int .i64 num0, .slice a n c] w fun e w' => e = .returned (.bool true) ∧ Below w.heap.size w w' := by
  have hle := h.le
  have HA := Lib.hid (fun W => law6_awake W)
  have HSM := Lib.hid (law6_small a n c l w h)
  by_cases hlo : num0 < 1
  · clear h
    go_enter Try.func12, Try.ntmps12
    go_wp2_with fail
    refine (HA.out _).mono ?_; rintro e w1 ⟨rfl, hB⟩
    go_wp2_with fail
    go_ret
    exact ⟨rfl, hB⟩
  by_cases hhi : 60 < num0
  · clear h
    go_enter Try.func12, Try.ntmps12
    go_wp2_with fail
    refine (HA.out _).mono ?_; rintro e w1 ⟨rfl, hB⟩
    go_wp2_with fail
    go_ret
    exact ⟨rfl, hB⟩
  obtain ⟨N, rfl⟩ : ∃ N : Nat, num0 = (N : Int) := ⟨num0.toNat, by omega⟩
  have hN : 1 ≤ N := by omega
  have hN2 : N ≤ 4096 := by omega
  go_enter Try.func12, Try.ntmps12
  go_wp2_with fail
  refine HSM.out.mono ?_; rintro e w0 ⟨rr, rfl, hr, rfl⟩
  cases rr
  · clear h hr
    go_wp2_with fail
    refine (HA.out _).mono ?_; rintro e w1 ⟨rfl, hB⟩
    go_wp2_with fail
    go_ret
    exact ⟨rfl, hB⟩
  obtain ⟨hn80, hsm⟩ := hr rfl
  go_wp2_with fail
  refine (sd_new N hN hN2 _ N rfl).mono ?_; rintro e w1 ⟨F, g, s, m, fa, fn, fc, rfl, hP1, hF1, hB1⟩
  go_wp2_with fail
  refine (rd_new N hN hN2 _ N rfl).mono ?_; rintro e w2 ⟨G, r, sb, cb, sc, rfl, hR2, hG2, hB2⟩
  have hM0 : MRel w0 g r w2 := ⟨F, G, _, s, m, fa, fn, fc, sb, cb, sc, none, 0, 0, hP1.ext hB2, hR2, fun k hf hg => by have := hP1.lt k hf; have := hG2 k hg; omega, hF1, fun k hk => Nat.le_trans hB1.size (hG2 k hk), hB1.trans (hB2.mono hB1.size)⟩
  clear hP1 hF1 hB1 hR2 hG2 hB2
  go_wp2_with fail
  go_loopw [9, 10, 11, 12, 13, 14, 15] (fun i _ _ _ _ _ _ wr => ∃ k : Nat, k ≤ n ∧ i = .int .i64 k ∧ MRel w0 g r wr) (fun i _ _ _ _ _ _ _ => n - (intOf i).toNat)
  case atStart => exact ⟨0, by omega, rfl, hM0⟩
  case round =>
    obtain ⟨k, hkk, rfl, F, G, d, hPr⟩ := hrel
    clear hM0
    by_cases hlt : k < n
    · obtain ⟨b, o, x, rfl, hb, hx, hi⟩ := h.at hlt
      obtain ⟨ib5, ⟨c0, c1, c2, c3, c4⟩, ⟨p, m1, d1, c5, s5⟩, ⟨p1, m2, d2, c6, s6⟩, ⟨p2, m3, d3, c7, s7⟩⟩ := hi
      have hbl := hPr.below
      replace c0 := (hbl.cell (p := ⟨b, o + k * 8, none⟩) hb).trans c0
      replace c1 := (hbl.cell (p := ⟨b, o + k * 8 + 1, none⟩) hb).trans c1
      replace c2 := (hbl.cell (p := ⟨b, o + k * 8 + 2, none⟩) hb).trans c2
      replace c3 := (hbl.cell (p := ⟨b, o + k * 8 + 3, none⟩) hb).trans c3
      replace c4 := (hbl.cell (p := ⟨b, o + k * 8 + 4, none⟩) hb).trans c4
      replace c5 := (hbl.cell (p := ⟨b, o + k * 8 + 5, none⟩) hb).trans c5
      replace c6 := (hbl.cell (p := ⟨b, o + k * 8 + 6, none⟩) hb).trans c6
      replace c7 := (hbl.cell (p := ⟨b, o + k * 8 + 7, none⟩) hb).trans c7
      have i0 : (0 : Int) ≤ (k : Int) := by omega
      have i1 : (k : Int) < (n : Int) := by omega
      have hx100 : m1 ≤ 1000 := by
        have := (hsm x (List.mem_of_getElem? hx)).1
        have := s5.len
        omega
      have HX := Lib.hid (And.intro hx100 (And.intro s5 (And.intro s6 s7)))
      obtain ⟨kind, fst, cnt, off, num, data, fs, ks⟩ := x
      have HB : Hid (ib fst ∧ ib cnt ∧ ib off ∧ ib num) := Lib.hid ⟨ib5.2.1, ib5.2.2.1, ib5.2.2.2.1, ib5.2.2.2.2⟩
      clear s5 s6 s7 hx hx100 ib5
      simp only at c0 c1 c2 c3 c4 c5 c6 c7 HX
      have hPA : ∀ o, Pr w0 F G g r d d (wr.alloc o) := fun o => hPr.alloc o
      have HPA := Lib.hid hPA
      clear hPA
      have hAT : ∀ A t, At5 F G (wr.alloc (.cells A t)) wr.heap.size A t := fun A t => by
        obtain ⟨_, _, _, _, _, _, _, _, _, _, _, hP, hR, -⟩ := hPr
        exact ⟨by simp, fun e => Nat.lt_irrefl _ (hP.lt _ e), fun e => Nat.lt_irrefl _ (hR.lt _ e), heap_alloc_eq _ _ _ rfl⟩
      have HAT := Lib.hid hAT
      clear hAT
      by_cases k0 : kind = 0
      · subst k0
        obtain ⟨bb, z, d', hr0⟩ : ∃ bb z d', Extent.read d fst cnt off num = (bb, z, d') := ⟨_, _, _, rfl⟩
        have HR0 := Lib.hid hr0
        clear hr0
        go_wp2_with (first
          | (go_at_call 51; go_must (refine ((HPA.out _).eread _ _ _ _ HB.out.1 HB.out.2.1 HB.out.2.2.1 HB.out.2.2.2 HR0.out).mono ?_); rintro e w3 ⟨v3, rfl, hV3, hP3, hK3⟩; have hT3 := hK3.2 _ _ _ (HAT.out _ _); have tw3_1 : w3.cell? ⟨wr.heap.size, 1, none⟩ = some (.int .i64 fst) := hT3.cell 1; have tw3_2 : w3.cell? ⟨wr.heap.size, 2, none⟩ = some (.int .i64 cnt) := hT3.cell 2; have tw3_3 : w3.cell? ⟨wr.heap.size, 3, none⟩ = some (.int .i64 off) := hT3.cell 3; have tw3_4 : w3.cell? ⟨wr.heap.size, 4, none⟩ = some (.int .i64 num) := hT3.cell 4; skip)
          | (go_at_call 53; go_must (refine (hP3.reread _ _ _ _ HB.out.1 HB.out.2.1 HB.out.2.2.1 HB.out.2.2.2 HR0.out).mono ?_); rintro e w4 ⟨v4, rfl, hV4, hP4, hK4⟩; have hT4 := hK4.2 _ _ _ hT3; obtain ⟨a3, e3, rfl, hs3, -⟩ := (hK4.1 _ _ hV3).sl; obtain ⟨a4, e4, rfl, hs4, -⟩ := hV4.sl)
          | (go_at_call 18; go_must (refine (keep_bytes _ _ _ _ _ _ _ _ _ hs3 hs4).mono ?_); rintro e w5 ⟨rfl, rfl⟩; rw [show (bb == bb) = true by simp]))
        have q1 : w4.drew.cell? ⟨wr.heap.size, 1, none⟩ = some (.int .i64 fst) := hT4.cell 1
        have q2 : w4.drew.cell? ⟨wr.heap.size, 2, none⟩ = some (.int .i64 cnt) := hT4.cell 2
        have hS6 : ∀ w', Below w4.heap.size w4 w' → w'.cell? ⟨wr.heap.size, 1, none⟩ = some (.int .i64 fst) ∧ w'.cell? ⟨wr.heap.size, 2, none⟩ = some (.int .i64 cnt) := fun w' e => ⟨(hT4.ext e).cell 1, (hT4.ext e).cell 2⟩
        have HP6 := Lib.hid (fun w' (e : Below w4.heap.size w4 w') => (hP4.ext e).1)
        have hB0 : Below w4.heap.size w4 w4.drew := Below.drew (Below.refl _ _)
        have HVL := Lib.hid (fun w' (e : Below w4.heap.size w4 w') => (hP4.ext e).1.evalid fst cnt)
        have HRV := Lib.hid (fun w' (e : Below w4.heap.size w4 w') => (hP4.ext e).1.revalid fst cnt)
        have HSO := Lib.hid (fun w' (e : Below w4.heap.size w4 w') => (hP4.ext e).1.soff)
        have HRO := Lib.hid (fun w' (e : Below w4.heap.size w4 w') => (hP4.ext e).1.roff)
        have HSD := Lib.hid (fun w' (e : Below w4.heap.size w4 w') => (hP4.ext e).1.sdirty)
        have HRD := Lib.hid (fun w' (e : Below w4.heap.size w4 w') => (hP4.ext e).1.rdirty)
        obtain ⟨vb, hvb⟩ : ∃ vb, d'.st.length = vb := ⟨_, rfl⟩
        rw [hvb] at HVL HRV
        obtain ⟨vv, hvv⟩ : ∃ vv, Extent.valid vb fst cnt = vv := ⟨_, rfl⟩
        rw [hvv] at HVL HRV
        obtain ⟨ob, hob⟩ : ∃ ob, d'.off = ob := ⟨_, rfl⟩
        rw [hob] at HSO HRO
        obtain ⟨dd, hdd⟩ : ∃ dd, Disk.dirty d' = dd := ⟨_, rfl⟩
        rw [hdd] at HSD HRD
        obtain ⟨sz, hsz⟩ : ∃ sz, Extent.size cnt = sz := ⟨_, rfl⟩
        have HSZ := Lib.hid (fun w' => ex_size fst cnt HB.out.2.1 w')
        have HRS := Lib.hid (fun w' => re_size fst cnt HB.out.2.1 w')
        rw [hsz] at HSZ HRS
        clear hvb hvv hob hdd hsz
        go_wp2_with fail
        go_region_held3 (fun w' => w'.cell? ⟨wr.heap.size, 1, none⟩ = some (.int .i64 fst) ∧ w'.cell? ⟨wr.heap.size, 2, none⟩ = some (.int .i64 cnt)) (first | exact ⟨q1, q2⟩ | exact hS6 _ (by assumption)) (first
          | (go_at_call 55; go_must (refine (HVL.out _ hB0).mono ?_); rintro e y1 ⟨rfl, hb1⟩; have hB1 := hB0.trans (hb1.mono hB0.size))
          | (go_at_call 56; go_must (refine (HRV.out _ hB1).mono ?_); rintro e y2 ⟨rfl, hb2⟩; have hB2 := hB1.trans (hb2.mono hB1.size))
          | (go_at_call 57; go_must (refine (HSZ.out _).mono ?_); rintro e y3 ⟨rfl, hb3⟩; have hB3 := hB2.trans (hb3.mono hB2.size))
          | (go_at_call 58; go_must (refine (HRS.out _).mono ?_); rintro e y4 ⟨rfl, hb4⟩; have hB4 := hB3.trans (hb4.mono hB3.size))
          | (go_at_call 44; go_must (refine (HSO.out _ hB4).mono ?_); rintro e y5 ⟨rfl, rfl⟩)
          | (go_at_call 59; go_must (refine (HRO.out _ hB4).mono ?_); rintro e y6 ⟨rfl, rfl⟩)
          | (go_at_call 43; go_must (refine (HSD.out _ hB4).mono ?_); rintro e y7 ⟨v7, rfl, hO7, hb7⟩; have hB7 := hB4.trans (hb7.mono hB4.size))
          | (go_at_call 61; go_must (refine (HRD.out _ hB7).mono ?_); rintro e y8 ⟨v8, rfl, hO8, hb8⟩; obtain ⟨a7, c7, rfl, hs7⟩ := (hO7.ext hb8).sl; obtain ⟨a8, c8, rfl, hs8⟩ := hO8.sl; have hB8 := hB7.trans (hb8.mono hB7.size))
          | (go_at_call 60; go_must (refine (keep_ints _ _ _ _ _ _ _ _ _ hs7 hs8).mono ?_); rintro e y9 ⟨rfl, hb9⟩; rw [show (dd == dd) = true by simp]; have hB9 := hB8.trans (hb9.mono hB8.size)))
        go_wp2_with fail
        exact ⟨⟨k + 1, by omega, by go_num, MRel.intro hP4 hB9⟩, by simp [intOf]; omega⟩
      by_cases k2 : kind = 2
      · subst k2
        clear k0
        obtain ⟨z, d', hr0⟩ : ∃ z d', Disk.sync d = (z, d') := ⟨_, _, rfl⟩
        have HR0 := Lib.hid hr0
        clear hr0
        go_wp2_with (first
          | (go_at_call 34; go_must (refine ((HPA.out _).ssync HR0.out).mono ?_); rintro e w3 ⟨rfl, hP3, hK3⟩; have hT3 := hK3.2 _ _ _ (HAT.out _ _))
          | (go_at_call 35; go_must (refine (hP3.rsync HR0.out).mono ?_); rintro e w4 ⟨rfl, hP4, hK4⟩; have hT4 := hK4.2 _ _ _ hT3))
        have q1 : w4.drew.cell? ⟨wr.heap.size, 1, none⟩ = some (.int .i64 fst) := hT4.cell 1
        have q2 : w4.drew.cell? ⟨wr.heap.size, 2, none⟩ = some (.int .i64 cnt) := hT4.cell 2
        have hS6 : ∀ w', Below w4.heap.size w4 w' → w'.cell? ⟨wr.heap.size, 1, none⟩ = some (.int .i64 fst) ∧ w'.cell? ⟨wr.heap.size, 2, none⟩ = some (.int .i64 cnt) := fun w' e => ⟨(hT4.ext e).cell 1, (hT4.ext e).cell 2⟩
        have HP6 := Lib.hid (fun w' (e : Below w4.heap.size w4 w') => (hP4.ext e).1)
        have hB0 : Below w4.heap.size w4 w4.drew := Below.drew (Below.refl _ _)
        have HVL := Lib.hid (fun w' (e : Below w4.heap.size w4 w') => (hP4.ext e).1.evalid fst cnt)
        have HRV := Lib.hid (fun w' (e : Below w4.heap.size w4 w') => (hP4.ext e).1.revalid fst cnt)
        have HSO := Lib.hid (fun w' (e : Below w4.heap.size w4 w') => (hP4.ext e).1.soff)
        have HRO := Lib.hid (fun w' (e : Below w4.heap.size w4 w') => (hP4.ext e).1.roff)
        have HSD := Lib.hid (fun w' (e : Below w4.heap.size w4 w') => (hP4.ext e).1.sdirty)
        have HRD := Lib.hid (fun w' (e : Below w4.heap.size w4 w') => (hP4.ext e).1.rdirty)
        obtain ⟨vb, hvb⟩ : ∃ vb, d'.st.length = vb := ⟨_, rfl⟩
        rw [hvb] at HVL HRV
        obtain ⟨vv, hvv⟩ : ∃ vv, Extent.valid vb fst cnt = vv := ⟨_, rfl⟩
        rw [hvv] at HVL HRV
        obtain ⟨ob, hob⟩ : ∃ ob, d'.off = ob := ⟨_, rfl⟩
        rw [hob] at HSO HRO
        obtain ⟨dd, hdd⟩ : ∃ dd, Disk.dirty d' = dd := ⟨_, rfl⟩
        rw [hdd] at HSD HRD
        obtain ⟨sz, hsz⟩ : ∃ sz, Extent.size cnt = sz := ⟨_, rfl⟩
        have HSZ := Lib.hid (fun w' => ex_size fst cnt HB.out.2.1 w')
        have HRS := Lib.hid (fun w' => re_size fst cnt HB.out.2.1 w')
        rw [hsz] at HSZ HRS
        clear hvb hvv hob hdd hsz
        go_wp2_with fail
        go_region_held3 (fun w' => w'.cell? ⟨wr.heap.size, 1, none⟩ = some (.int .i64 fst) ∧ w'.cell? ⟨wr.heap.size, 2, none⟩ = some (.int .i64 cnt)) (first | exact ⟨q1, q2⟩ | exact hS6 _ (by assumption)) (first
          | (go_at_call 55; go_must (refine (HVL.out _ hB0).mono ?_); rintro e y1 ⟨rfl, hb1⟩; have hB1 := hB0.trans (hb1.mono hB0.size))
          | (go_at_call 56; go_must (refine (HRV.out _ hB1).mono ?_); rintro e y2 ⟨rfl, hb2⟩; have hB2 := hB1.trans (hb2.mono hB1.size))
          | (go_at_call 57; go_must (refine (HSZ.out _).mono ?_); rintro e y3 ⟨rfl, hb3⟩; have hB3 := hB2.trans (hb3.mono hB2.size))
          | (go_at_call 58; go_must (refine (HRS.out _).mono ?_); rintro e y4 ⟨rfl, hb4⟩; have hB4 := hB3.trans (hb4.mono hB3.size))
          | (go_at_call 44; go_must (refine (HSO.out _ hB4).mono ?_); rintro e y5 ⟨rfl, rfl⟩)
          | (go_at_call 59; go_must (refine (HRO.out _ hB4).mono ?_); rintro e y6 ⟨rfl, rfl⟩)
          | (go_at_call 43; go_must (refine (HSD.out _ hB4).mono ?_); rintro e y7 ⟨v7, rfl, hO7, hb7⟩; have hB7 := hB4.trans (hb7.mono hB4.size))
          | (go_at_call 61; go_must (refine (HRD.out _ hB7).mono ?_); rintro e y8 ⟨v8, rfl, hO8, hb8⟩; obtain ⟨a7, c7, rfl, hs7⟩ := (hO7.ext hb8).sl; obtain ⟨a8, c8, rfl, hs8⟩ := hO8.sl; have hB8 := hB7.trans (hb8.mono hB7.size))
          | (go_at_call 60; go_must (refine (keep_ints _ _ _ _ _ _ _ _ _ hs7 hs8).mono ?_); rintro e y9 ⟨rfl, hb9⟩; rw [show (dd == dd) = true by simp]; have hB9 := hB8.trans (hb9.mono hB8.size)))
        go_wp2_with fail
        exact ⟨⟨k + 1, by omega, by go_num, MRel.intro hP4 hB9⟩, by simp [intOf]; omega⟩
      by_cases k1 : kind = 1
      · subst k1
        clear k0 k2
        obtain ⟨z, d', hr0⟩ : ∃ z d', Extent.write d fst cnt off data = (z, d') := ⟨_, _, rfl⟩
        have HR0 := Lib.hid hr0
        clear hr0
        go_wp2_with (go_at_call 32; go_must (refine ((HPA.out _).own HX.out.2.1 (by have := HX.out.1; omega)).mono ?_); rintro e w3 ⟨v3, rfl, hV3, hP3, hK3⟩; have hT3 := hK3.2 _ _ _ (HAT.out _ _))
        have hT3d : At5 F G w3.drew wr.heap.size #[.int .i64 1, .int .i64 fst, .int .i64 cnt, .int .i64 off, .int .i64 num, .slice p m1 d1, .slice p1 m2 d2, .slice p2 m3 d3] 82 := hT3
        have hV3d : Val w0 F G w3.drew v3 data := ⟨hV3.1.ext (Below.drew (Below.refl _ _)), hV3.2⟩
        have hSX : ∀ (F' G' : Nat → Prop) (w' : World), At5 F' G' w' wr.heap.size #[.int .i64 1, .int .i64 fst, .int .i64 cnt, .int .i64 off, .int .i64 num, .slice p m1 d1, .slice p1 m2 d2, .slice p2 m3 d3] 82 → w'.cell? ⟨wr.heap.size, 1, none⟩ = some (.int .i64 fst) ∧ w'.cell? ⟨wr.heap.size, 2, none⟩ = some (.int .i64 cnt) ∧ w'.cell? ⟨wr.heap.size, 3, none⟩ = some (.int .i64 off) ∧ w'.cell? ⟨wr.heap.size, 5, none⟩ = some (.slice p m1 d1) := fun F' G' w' e => ⟨e.cell 1, e.cell 2, e.cell 3, e.cell 5⟩
        go_wp2_with fail
        go_region_held3 (fun w' => w'.cell? ⟨wr.heap.size, 1, none⟩ = some (.int .i64 fst) ∧ w'.cell? ⟨wr.heap.size, 2, none⟩ = some (.int .i64 cnt) ∧ w'.cell? ⟨wr.heap.size, 3, none⟩ = some (.int .i64 off) ∧ w'.cell? ⟨wr.heap.size, 5, none⟩ = some (.slice p m1 d1)) (first | exact hSX _ _ _ (by assumption)) (first
          | (go_at_call 50; go_must (refine (hP3.drew.ewrite _ _ _ HB.out.1 HB.out.2.1 HB.out.2.2.1 hV3d HR0.out).mono ?_); rintro e w4 ⟨rfl, F4, hP4, hK4⟩; have hT4 := hK4.2 _ _ _ hT3d)
          | (go_at_call 54; go_must (refine (hP4.rewrite _ _ _ HB.out.1 HB.out.2.1 HB.out.2.2.1 HX.out.2.1 HR0.out).mono ?_); rintro e w5 ⟨rfl, G5, hP5, hK5⟩; have hT5 := hK5.2 _ _ _ hT4; obtain ⟨a3, e3, e3', hs3, -⟩ := (hK5.1 _ _ (hK4.1 _ _ hV3d)).sl; have hs4 := HX.out.2.1.ext hP5.below)
          | (go_at_call 18; go_must (refine (keep_bytes _ _ _ _ _ _ _ _ _ hs3 hs4).mono ?_); rintro e w6 ⟨rfl, rfl⟩; rw [show (data == data) = true by simp]))
        have q1 : w5.drew.cell? ⟨wr.heap.size, 1, none⟩ = some (.int .i64 fst) := hT5.cell 1
        have q2 : w5.drew.cell? ⟨wr.heap.size, 2, none⟩ = some (.int .i64 cnt) := hT5.cell 2
        have hS6 : ∀ w', Below w5.heap.size w5 w' → w'.cell? ⟨wr.heap.size, 1, none⟩ = some (.int .i64 fst) ∧ w'.cell? ⟨wr.heap.size, 2, none⟩ = some (.int .i64 cnt) := fun w' e => ⟨(hT5.ext e).cell 1, (hT5.ext e).cell 2⟩
        have HP6 := Lib.hid (fun w' (e : Below w5.heap.size w5 w') => (hP5.ext e).1)
        have hB0 : Below w5.heap.size w5 w5.drew := Below.drew (Below.refl _ _)
        have HVL := Lib.hid (fun w' (e : Below w5.heap.size w5 w') => (hP5.ext e).1.evalid fst cnt)
        have HRV := Lib.hid (fun w' (e : Below w5.heap.size w5 w') => (hP5.ext e).1.revalid fst cnt)
        have HSO := Lib.hid (fun w' (e : Below w5.heap.size w5 w') => (hP5.ext e).1.soff)
        have HRO := Lib.hid (fun w' (e : Below w5.heap.size w5 w') => (hP5.ext e).1.roff)
        have HSD := Lib.hid (fun w' (e : Below w5.heap.size w5 w') => (hP5.ext e).1.sdirty)
        have HRD := Lib.hid (fun w' (e : Below w5.heap.size w5 w') => (hP5.ext e).1.rdirty)
        obtain ⟨vb, hvb⟩ : ∃ vb, d'.st.length = vb := ⟨_, rfl⟩
        rw [hvb] at HVL HRV
        obtain ⟨vv, hvv⟩ : ∃ vv, Extent.valid vb fst cnt = vv := ⟨_, rfl⟩
        rw [hvv] at HVL HRV
        obtain ⟨ob, hob⟩ : ∃ ob, d'.off = ob := ⟨_, rfl⟩
        rw [hob] at HSO HRO
        obtain ⟨dd, hdd⟩ : ∃ dd, Disk.dirty d' = dd := ⟨_, rfl⟩
        rw [hdd] at HSD HRD
        obtain ⟨sz, hsz⟩ : ∃ sz, Extent.size cnt = sz := ⟨_, rfl⟩
        have HSZ := Lib.hid (fun w' => ex_size fst cnt HB.out.2.1 w')
        have HRS := Lib.hid (fun w' => re_size fst cnt HB.out.2.1 w')
        rw [hsz] at HSZ HRS
        clear hvb hvv hob hdd hsz
        go_wp2_with fail
        go_region_held3 (fun w' => w'.cell? ⟨wr.heap.size, 1, none⟩ = some (.int .i64 fst) ∧ w'.cell? ⟨wr.heap.size, 2, none⟩ = some (.int .i64 cnt)) (first | exact ⟨q1, q2⟩ | exact hS6 _ (by assumption)) (first
          | (go_at_call 55; go_must (refine (HVL.out _ hB0).mono ?_); rintro e y1 ⟨rfl, hb1⟩; have hB1 := hB0.trans (hb1.mono hB0.size))
          | (go_at_call 56; go_must (refine (HRV.out _ hB1).mono ?_); rintro e y2 ⟨rfl, hb2⟩; have hB2 := hB1.trans (hb2.mono hB1.size))
          | (go_at_call 57; go_must (refine (HSZ.out _).mono ?_); rintro e y3 ⟨rfl, hb3⟩; have hB3 := hB2.trans (hb3.mono hB2.size))
          | (go_at_call 58; go_must (refine (HRS.out _).mono ?_); rintro e y4 ⟨rfl, hb4⟩; have hB4 := hB3.trans (hb4.mono hB3.size))
          | (go_at_call 44; go_must (refine (HSO.out _ hB4).mono ?_); rintro e y5 ⟨rfl, rfl⟩)
          | (go_at_call 59; go_must (refine (HRO.out _ hB4).mono ?_); rintro e y6 ⟨rfl, rfl⟩)
          | (go_at_call 43; go_must (refine (HSD.out _ hB4).mono ?_); rintro e y7 ⟨v7, rfl, hO7, hb7⟩; have hB7 := hB4.trans (hb7.mono hB4.size))
          | (go_at_call 61; go_must (refine (HRD.out _ hB7).mono ?_); rintro e y8 ⟨v8, rfl, hO8, hb8⟩; obtain ⟨a7, c7, rfl, hs7⟩ := (hO7.ext hb8).sl; obtain ⟨a8, c8, rfl, hs8⟩ := hO8.sl; have hB8 := hB7.trans (hb8.mono hB7.size))
          | (go_at_call 60; go_must (refine (keep_ints _ _ _ _ _ _ _ _ _ hs7 hs8).mono ?_); rintro e y9 ⟨rfl, hb9⟩; rw [show (dd == dd) = true by simp]; have hB9 := hB8.trans (hb9.mono hB8.size)))
        go_wp2_with fail
        exact ⟨⟨k + 1, by omega, by go_num, MRel.intro hP5 hB9⟩, by simp [intOf]; omega⟩
      by_cases k3 : kind = 3
      · subst k3
        clear k0 k1 k2
        obtain ⟨z, d', hr0⟩ : ∃ z d', Disk.arm d fs = (z, d') := ⟨_, _, rfl⟩
        have HR0 := Lib.hid hr0
        clear hr0
        have hATd : At5 F G (wr.alloc (.cells #[.int .i64 3, .int .i64 fst, .int .i64 cnt, .int .i64 off, .int .i64 num, .slice p m1 d1, .slice p1 m2 d2, .slice p2 m3 d3] 82)).drew wr.heap.size #[.int .i64 3, .int .i64 fst, .int .i64 cnt, .int .i64 off, .int .i64 num, .slice p m1 d1, .slice p1 m2 d2, .slice p2 m3 d3] 82 := HAT.out _ _
        have q0 : (wr.alloc (.cells #[.int .i64 3, .int .i64 fst, .int .i64 cnt, .int .i64 off, .int .i64 num, .slice p m1 d1, .slice p1 m2 d2, .slice p2 m3 d3] 82)).drew.cell? ⟨wr.heap.size, 6, none⟩ = some (.slice p1 m2 d2) := hATd.cell 6
        have HATD := Lib.hid hATd
        clear hATd
        go_wp2_with fail
        go_region_held3 (fun w' => w'.cell? ⟨wr.heap.size, 6, none⟩ = some (.slice p1 m2 d2)) (first | exact q0 | exact t41 | exact t51) (first
          | (go_at_call 36; go_must (refine ((HPA.out _).drew.sarm HX.out.2.2.1 HR0.out).mono ?_); rintro e w4 ⟨rfl, F4, hP4, hK4⟩; have hT4 := hK4.2 _ _ _ HATD.out; have t41 : w4.cell? ⟨wr.heap.size, 6, none⟩ = some (.slice p1 m2 d2) := hT4.cell 6)
          | (go_at_call 37; go_must (refine (hP4.rarm HX.out.2.2.1 HR0.out).mono ?_); rintro e w5 ⟨rfl, G5, hP5, hK5⟩; have hT5 := hK5.2 _ _ _ hT4; have t51 : w5.cell? ⟨wr.heap.size, 6, none⟩ = some (.slice p1 m2 d2) := hT5.cell 6))
        have q1 : w5.drew.cell? ⟨wr.heap.size, 1, none⟩ = some (.int .i64 fst) := hT5.cell 1
        have q2 : w5.drew.cell? ⟨wr.heap.size, 2, none⟩ = some (.int .i64 cnt) := hT5.cell 2
        have hS6 : ∀ w', Below w5.heap.size w5 w' → w'.cell? ⟨wr.heap.size, 1, none⟩ = some (.int .i64 fst) ∧ w'.cell? ⟨wr.heap.size, 2, none⟩ = some (.int .i64 cnt) := fun w' e => ⟨(hT5.ext e).cell 1, (hT5.ext e).cell 2⟩
        have HP6 := Lib.hid (fun w' (e : Below w5.heap.size w5 w') => (hP5.ext e).1)
        have hB0 : Below w5.heap.size w5 w5.drew := Below.drew (Below.refl _ _)
        have HVL := Lib.hid (fun w' (e : Below w5.heap.size w5 w') => (hP5.ext e).1.evalid fst cnt)
        have HRV := Lib.hid (fun w' (e : Below w5.heap.size w5 w') => (hP5.ext e).1.revalid fst cnt)
        have HSO := Lib.hid (fun w' (e : Below w5.heap.size w5 w') => (hP5.ext e).1.soff)
        have HRO := Lib.hid (fun w' (e : Below w5.heap.size w5 w') => (hP5.ext e).1.roff)
        have HSD := Lib.hid (fun w' (e : Below w5.heap.size w5 w') => (hP5.ext e).1.sdirty)
        have HRD := Lib.hid (fun w' (e : Below w5.heap.size w5 w') => (hP5.ext e).1.rdirty)
        obtain ⟨vb, hvb⟩ : ∃ vb, d'.st.length = vb := ⟨_, rfl⟩
        rw [hvb] at HVL HRV
        obtain ⟨vv, hvv⟩ : ∃ vv, Extent.valid vb fst cnt = vv := ⟨_, rfl⟩
        rw [hvv] at HVL HRV
        obtain ⟨ob, hob⟩ : ∃ ob, d'.off = ob := ⟨_, rfl⟩
        rw [hob] at HSO HRO
        obtain ⟨dd, hdd⟩ : ∃ dd, Disk.dirty d' = dd := ⟨_, rfl⟩
        rw [hdd] at HSD HRD
        obtain ⟨sz, hsz⟩ : ∃ sz, Extent.size cnt = sz := ⟨_, rfl⟩
        have HSZ := Lib.hid (fun w' => ex_size fst cnt HB.out.2.1 w')
        have HRS := Lib.hid (fun w' => re_size fst cnt HB.out.2.1 w')
        rw [hsz] at HSZ HRS
        clear hvb hvv hob hdd hsz
        go_wp2_with fail
        go_region_held3 (fun w' => w'.cell? ⟨wr.heap.size, 1, none⟩ = some (.int .i64 fst) ∧ w'.cell? ⟨wr.heap.size, 2, none⟩ = some (.int .i64 cnt)) (first | exact ⟨q1, q2⟩ | exact hS6 _ (by assumption)) (first
          | (go_at_call 55; go_must (refine (HVL.out _ hB0).mono ?_); rintro e y1 ⟨rfl, hb1⟩; have hB1 := hB0.trans (hb1.mono hB0.size))
          | (go_at_call 56; go_must (refine (HRV.out _ hB1).mono ?_); rintro e y2 ⟨rfl, hb2⟩; have hB2 := hB1.trans (hb2.mono hB1.size))
          | (go_at_call 57; go_must (refine (HSZ.out _).mono ?_); rintro e y3 ⟨rfl, hb3⟩; have hB3 := hB2.trans (hb3.mono hB2.size))
          | (go_at_call 58; go_must (refine (HRS.out _).mono ?_); rintro e y4 ⟨rfl, hb4⟩; have hB4 := hB3.trans (hb4.mono hB3.size))
          | (go_at_call 44; go_must (refine (HSO.out _ hB4).mono ?_); rintro e y5 ⟨rfl, rfl⟩)
          | (go_at_call 59; go_must (refine (HRO.out _ hB4).mono ?_); rintro e y6 ⟨rfl, rfl⟩)
          | (go_at_call 43; go_must (refine (HSD.out _ hB4).mono ?_); rintro e y7 ⟨v7, rfl, hO7, hb7⟩; have hB7 := hB4.trans (hb7.mono hB4.size))
          | (go_at_call 61; go_must (refine (HRD.out _ hB7).mono ?_); rintro e y8 ⟨v8, rfl, hO8, hb8⟩; obtain ⟨a7, c7, rfl, hs7⟩ := (hO7.ext hb8).sl; obtain ⟨a8, c8, rfl, hs8⟩ := hO8.sl; have hB8 := hB7.trans (hb8.mono hB7.size))
          | (go_at_call 60; go_must (refine (keep_ints _ _ _ _ _ _ _ _ _ hs7 hs8).mono ?_); rintro e y9 ⟨rfl, hb9⟩; rw [show (dd == dd) = true by simp]; have hB9 := hB8.trans (hb9.mono hB8.size)))
        go_wp2_with fail
        exact ⟨⟨k + 1, by omega, by go_num, MRel.intro hP5 hB9⟩, by simp [intOf]; omega⟩
      have hd0 : (kind == 0) = false := by simpa using k0
      have hd1 : (kind == 1) = false := by simpa using k1
      have hd2 : (kind == 2) = false := by simpa using k2
      have hd3 : (kind == 3) = false := by simpa using k3
      clear k0 k1 k2 k3
      obtain ⟨d', hr0⟩ : ∃ d', Disk.restart d ks = d' := ⟨_, rfl⟩
      have HR0 := Lib.hid hr0
      clear hr0
      go_wp2_with (first
        | (go_at_call 40; go_must (refine ((HPA.out _).srestart HX.out.2.2.2 HR0.out).mono ?_); rintro e w3 ⟨rfl, hP3, hK3⟩; have hT3 := hK3.2 _ _ _ (HAT.out _ _); have t1 : w3.cell? ⟨wr.heap.size, 7, none⟩ = some (.slice p2 m3 d3) := hT3.cell 7)
        | (go_at_call 41; go_must (refine (hP3.rrestart HX.out.2.2.2 HR0.out).mono ?_); rintro e w4 ⟨rfl, G4, hP4, hK4⟩; have hT4 := hK4.2 _ _ _ hT3))
      have q1 : w4.drew.cell? ⟨wr.heap.size, 1, none⟩ = some (.int .i64 fst) := hT4.cell 1
      have q2 : w4.drew.cell? ⟨wr.heap.size, 2, none⟩ = some (.int .i64 cnt) := hT4.cell 2
      have hS6 : ∀ w', Below w4.heap.size w4 w' → w'.cell? ⟨wr.heap.size, 1, none⟩ = some (.int .i64 fst) ∧ w'.cell? ⟨wr.heap.size, 2, none⟩ = some (.int .i64 cnt) := fun w' e => ⟨(hT4.ext e).cell 1, (hT4.ext e).cell 2⟩
      have HP6 := Lib.hid (fun w' (e : Below w4.heap.size w4 w') => (hP4.ext e).1)
      have hB0 : Below w4.heap.size w4 w4.drew := Below.drew (Below.refl _ _)
      have HVL := Lib.hid (fun w' (e : Below w4.heap.size w4 w') => (hP4.ext e).1.evalid fst cnt)
      have HRV := Lib.hid (fun w' (e : Below w4.heap.size w4 w') => (hP4.ext e).1.revalid fst cnt)
      have HSO := Lib.hid (fun w' (e : Below w4.heap.size w4 w') => (hP4.ext e).1.soff)
      have HRO := Lib.hid (fun w' (e : Below w4.heap.size w4 w') => (hP4.ext e).1.roff)
      have HSD := Lib.hid (fun w' (e : Below w4.heap.size w4 w') => (hP4.ext e).1.sdirty)
      have HRD := Lib.hid (fun w' (e : Below w4.heap.size w4 w') => (hP4.ext e).1.rdirty)
      obtain ⟨vb, hvb⟩ : ∃ vb, d'.st.length = vb := ⟨_, rfl⟩
      rw [hvb] at HVL HRV
      obtain ⟨vv, hvv⟩ : ∃ vv, Extent.valid vb fst cnt = vv := ⟨_, rfl⟩
      rw [hvv] at HVL HRV
      obtain ⟨ob, hob⟩ : ∃ ob, d'.off = ob := ⟨_, rfl⟩
      rw [hob] at HSO HRO
      obtain ⟨dd, hdd⟩ : ∃ dd, Disk.dirty d' = dd := ⟨_, rfl⟩
      rw [hdd] at HSD HRD
      obtain ⟨sz, hsz⟩ : ∃ sz, Extent.size cnt = sz := ⟨_, rfl⟩
      have HSZ := Lib.hid (fun w' => ex_size fst cnt HB.out.2.1 w')
      have HRS := Lib.hid (fun w' => re_size fst cnt HB.out.2.1 w')
      rw [hsz] at HSZ HRS
      clear hvb hvv hob hdd hsz
      go_wp2_with fail
      go_region_held3 (fun w' => w'.cell? ⟨wr.heap.size, 1, none⟩ = some (.int .i64 fst) ∧ w'.cell? ⟨wr.heap.size, 2, none⟩ = some (.int .i64 cnt)) (first | exact ⟨q1, q2⟩ | exact hS6 _ (by assumption)) (first
        | (go_at_call 55; go_must (refine (HVL.out _ hB0).mono ?_); rintro e y1 ⟨rfl, hb1⟩; have hB1 := hB0.trans (hb1.mono hB0.size))
        | (go_at_call 56; go_must (refine (HRV.out _ hB1).mono ?_); rintro e y2 ⟨rfl, hb2⟩; have hB2 := hB1.trans (hb2.mono hB1.size))
        | (go_at_call 57; go_must (refine (HSZ.out _).mono ?_); rintro e y3 ⟨rfl, hb3⟩; have hB3 := hB2.trans (hb3.mono hB2.size))
        | (go_at_call 58; go_must (refine (HRS.out _).mono ?_); rintro e y4 ⟨rfl, hb4⟩; have hB4 := hB3.trans (hb4.mono hB3.size))
        | (go_at_call 44; go_must (refine (HSO.out _ hB4).mono ?_); rintro e y5 ⟨rfl, rfl⟩)
        | (go_at_call 59; go_must (refine (HRO.out _ hB4).mono ?_); rintro e y6 ⟨rfl, rfl⟩)
        | (go_at_call 43; go_must (refine (HSD.out _ hB4).mono ?_); rintro e y7 ⟨v7, rfl, hO7, hb7⟩; have hB7 := hB4.trans (hb7.mono hB4.size))
        | (go_at_call 61; go_must (refine (HRD.out _ hB7).mono ?_); rintro e y8 ⟨v8, rfl, hO8, hb8⟩; obtain ⟨a7, c7, rfl, hs7⟩ := (hO7.ext hb8).sl; obtain ⟨a8, c8, rfl, hs8⟩ := hO8.sl; have hB8 := hB7.trans (hb8.mono hB7.size))
        | (go_at_call 60; go_must (refine (keep_ints _ _ _ _ _ _ _ _ _ hs7 hs8).mono ?_); rintro e y9 ⟨rfl, hb9⟩; rw [show (dd == dd) = true by simp]; have hB9 := hB8.trans (hb9.mono hB8.size)))
      go_wp2_with fail
      exact ⟨⟨k + 1, by omega, by go_num, MRel.intro hP4 hB9⟩, by simp [intOf]; omega⟩
    · obtain rfl : n = k := by omega
      have hB := hPr.below
      have HI1 := Lib.hid hPr.simage
      have HI2 := Lib.hid (fun w' (e : Below wr.heap.size wr w') => (hPr.ext e).1.rimage)
      obtain ⟨fl, hfl⟩ : ∃ fl, d.st.flatten = fl := ⟨_, rfl⟩
      rw [hfl] at HI1 HI2
      clear h hfl
      go_wp2_with (first
        | (go_at_call 19; go_must (refine HI1.out.mono ?_); rintro e w5 ⟨v5, rfl, hO5, hB5⟩)
        | (go_at_call 62; go_must (refine (HI2.out _ hB5).mono ?_); rintro e w6 ⟨v6, rfl, hO6, hB6⟩; obtain ⟨a5, c5, rfl, hs5, -⟩ := (hO5.ext hB6).sl; obtain ⟨a6, c6, rfl, hs6, -⟩ := hO6.sl)
        | (go_at_call 18; go_must (refine (keep_bytes _ _ _ _ _ _ _ _ _ hs5 hs6).mono ?_); rintro e w7 ⟨rfl, rfl⟩; rw [show (fl == fl) = true by simp])
        | (go_at_call 49; go_must (refine (HA.out _).mono ?_); rintro e w8 ⟨rfl, hB8⟩))
      go_ret
      have h5 := hB5.size
      have h6 := hB6.size
      exact ⟨rfl, hB.trans ((hB5.trans ((hB6.trans (hB8.mono h6)).mono h5)).mono hB.size)⟩

end Go.Proofs.Ytedmnbmfbgenjaa
