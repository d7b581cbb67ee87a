/-
  The walks of the statements FrameScanFindsAll and FrameDetectsBursts.
-/
import Derived.Test.YtolagcnndepjbaaFrameL
import Derived.RegionTactic
namespace Go.Proofs.Ytolagcnndepjbaa
open Go.RowKit

set_option maxHeartbeats 8000000 in
set_option maxRecDepth 100000 in
theorem ffinds_law (ep : Nat) (a : Option Addr) (n c : Nat) (ls : List (List UInt8)) (b : Option Addr) (m d : Nat) (r : List UInt8) (w : World) (he : ep < 4294967296) (h : SlL w a n c ls) (hr : SlB w b m d r) :
    Calls Try.prog 11 #[.int .u32 ep, .slice a n c, .slice b m d] w fun e w' => e = .returned (.bool true) ∧ Below w.heap.size w w' := by
  have hle := h.le
  have hle' := hr.le
  by_cases hn : 20 < n
  · have ht : (20 : Int) < (n : Int) := by omega
    go_enter Try.func11, Try.ntmps11
    go_wp2_with fail
    refine (fr_awake _).mono ?_; rintro e w1 ⟨rfl, hb1⟩
    go_wp2_with fail
    go_ret
    exact ⟨rfl, hb1⟩
  have ht : ¬ (20 : Int) < (n : Int) := by omega
  by_cases hm : 1000 < m
  · have ht2 : (1000 : Int) < (m : Int) := by omega
    go_enter Try.func11, Try.ntmps11
    go_wp2_with fail
    refine (fr_awake _).mono ?_; rintro e w1 ⟨rfl, hb1⟩
    go_wp2_with fail
    go_ret
    exact ⟨rfl, hb1⟩
  have ht2 : ¬ (1000 : Int) < (m : Int) := by omega
  have HLN := Lib.hid h.len
  have HLR := Lib.hid hr.len
  go_enter Try.func11, Try.ntmps11
  go_wp2_with fail
  go_loopw [7, 8] (fun v i wr => ∃ k : Nat, k ≤ n ∧ i = .int .i64 k ∧ OwnB w.heap.size wr v (Frame.cat ep 0 (ls.take k)) ∧ Hid (∀ p ∈ ls.take k, p.length ≤ 1024) ∧ Below w.heap.size w wr) (fun _ i _ => n - (intOf i).toNat)
  case atStart => exact ⟨0, Nat.zero_le _, rfl, OwnB.nil _ _, Lib.hid (by simp), Below.refl _ _⟩
  case round =>
    obtain ⟨k, hk, rfl, hO, HP, hB⟩ := hrel
    have hsz := hB.size
    by_cases hlt : k < n
    · obtain ⟨g, o, rfl, hg, p, m1, d1, hc1, hs1⟩ := (h.ext hB).at hlt
      have hkl : k < ls.length := by rw [HLN.out]; exact hlt
      have e1 : ls[k]?.getD [] = ls[k] := by simp [hkl]
      rw [e1] at hs1
      have htk : ls.take (k + 1) = ls.take k ++ [ls[k]] := List.take_succ_eq_append_getElem hkl
      have HTK := Lib.hid htk
      have hm1 := hs1.le
      have HM1 := Lib.hid hs1.len
      have b0 : (0 : Int) ≤ (k : Int) := by omega
      have b1 : (k : Int) < (n : Int) := by omega
      clear e1 htk
      by_cases hq : 1024 < m1
      · have tq : (1024 : Int) < (m1 : Int) := by omega
        go_wp2_with fail
        refine (fr_awake _).mono ?_; rintro e w1 ⟨rfl, hb1⟩
        go_wp2_with fail
        go_ret
        exact ⟨rfl, hB.trans (Below.mono hb1 hsz)⟩
      · have tq : ¬ (1024 : Int) < (m1 : Int) := by omega
        have hcat := Frame.cat_length ep (ls.take k) HP.out 0
        rw [List.length_take, HLN.out] at hcat
        have hlc : (Frame.cat ep 0 (ls.take k)).length ≤ 20760 := by omega
        have HLC := Lib.hid hlc
        clear hcat hlc
        have hk3 : (k : Int) < 4294967296 := by omega
        go_wp2_with fail
        refine (fr_encode_ok ep k he (by omega) _ _ _ _ _ hs1 (by omega)).mono ?_; rintro e w1 ⟨v1, rfl, hO1, hb1⟩
        obtain ⟨a1, c1, rfl, hs2, -⟩ := id hO1.sl
        have hO2 := hO.ext hb1
        have hB1 := hB.trans (Below.mono hb1 hsz)
        have hel := Frame.enc_length ep k (ls[k])
        have HEL := Lib.hid hel
        clear hel hO1 hb1
        go_wp2_with (at_builtin; go_must (refine wpList_append_bytes rfl _ _ rfl w.heap.size _ _ rfl hO2 a1 _ c1 _ rfl hs2 (by rw [HEL.out, HM1.out]; have := HLC.out; omega) hB1.size ?_); intro v2 w2 hO3 hg2 _)
        have hB2 := hB1.grown hg2 hB1.size (fun k hk => (hO2.lt k hk).1)
        clear hO2 hg2 hs2
        go_wp2
        go_roundw
        case rel =>
          refine ⟨k + 1, by omega, by go_num, ?_, Lib.hid ?_, hB2⟩
          · rw [HTK.out, Frame.cat_snoc, List.length_take, HLN.out, Nat.min_eq_left (by omega), Nat.zero_add]; exact hO3
          · rw [HTK.out]
            intro p hp
            rcases List.mem_append.1 hp with hp | hp
            · exact HP.out p hp
            · simp at hp; rw [hp, HM1.out]; omega
        case measure => simp [intOf]; omega
    · obtain rfl : k = n := by omega
      rw [List.take_of_length_le (by rw [HLN.out]; omega)] at hO HP
      have hcat := Frame.cat_length ep ls HP.out 0
      rw [HLN.out] at hcat
      obtain ⟨s1, s2⟩ := Frame.scan_finds ep he ls r HP.out (by rw [HLN.out]; omega)
      have ho := Frame.scan_other ep ((ep + 1) % 4294967296) he (by omega) ls HP.out
      have hll : (Frame.cat ep 0 ls ++ r).length = (Frame.cat ep 0 ls).length + m := by rw [List.length_append, HLR.out]
      have h1 := fun a c w h => fr_scan a ((Frame.cat ep 0 ls).length + m) c (Frame.cat ep 0 ls ++ r) ep he w h (by omega)
      have h2 := fun a c w h => fr_scan a (Frame.cat ep 0 ls).length c (Frame.cat ep 0 ls) ((ep + 1) % 4294967296) (Nat.mod_lt _ (by decide)) w h (by omega)
      unfold ScanPost at h1 h2
      rw [ho] at h2
      generalize Frame.scan (Frame.cat ep 0 ls ++ r) ep = q at *
      obtain ⟨out, en⟩ := q
      simp only at s1 s2 h1 h2
      have hcl : (Frame.cat ep 0 ls).length ≤ 20760 := by omega
      generalize Frame.cat ep 0 ls = C at *
      obtain ⟨a1, c1, rfl, hsC, -⟩ := id hO.sl
      have hol : k ≤ out.length := by have := s1.length_le; rw [HLN.out] at this; exact this
      have hpre : out.take k = ls := by
        obtain ⟨t, rfl⟩ := s1
        rw [← HLN.out, List.take_left]
      have H1 := Lib.hid h1; have H2 := Lib.hid h2; have HLL := Lib.hid hll; have HPRE := Lib.hid hpre
      clear h1 h2 hll hpre s1 ho hcat
      go_wp2_with fail
      refine (keep_own _ _ _ _ _ hsC (by omega)).mono ?_; rintro e w1 ⟨v1, rfl, hO1, hb1⟩
      have hB1 := hB.trans (Below.mono hb1 hsz)
      have hr1 := hr.ext hB1
      have hsC1 := hsC.ext hb1
      have hz1 := hb1.size
      go_wp2_with (at_builtin; go_must (refine wpList_append_bytes rfl _ _ rfl wr.heap.size _ C rfl hO1 b m d r rfl hr1 (by omega) hz1 ?_); intro v2 w2 hO2 hg2 _)
      have hb2 := hb1.grown hg2 hb1.size (fun k hk => (hO1.lt k hk).1)
      have hB2 := hB.trans (Below.mono hb2 hsz)
      have hsC2 := hsC.ext hb2
      obtain ⟨a2, c2, rfl, hs2, -⟩ := id hO2.sl
      rw [HLL.out] at hs2
      rw [HLL.out]
      clear hO1 hb1 hB1 hr1 hsC1 hg2 hO2 hz1
      refine (H1.out _ _ _ hs2).mono ?_; rintro e w3 ⟨v3, rfl, hO3, hb3⟩
      obtain ⟨a3, c3, rfl, hs3⟩ := id hO3.sl
      have hsC3 := hsC2.ext hb3
      have hB3 := hB2.trans (Below.mono hb3 hB2.size)
      have h3 := h.ext hB3
      have t1 : decide ((out.length : Int) < (k : Int)) = false := by simp; omega
      have t2 : decide ((en : Int) < (C.length : Int)) = false := by simp; omega
      have hc3 := hs3.2.1
      have hst := hs3.take hol
      rw [HPRE.out] at hst
      have v1 : (k : Int) ≤ (c3 : Int) := by omega
      have v0 : (0 : Int) ≤ (k : Int) := by omega
      clear hs2 hb3 hsC2 hb2 hB2 hO3 hs3 hO
      go_wp2_with fail
      refine (keep_lists_t _ _ _ _ _ _ _ _ hst h3).mono ?_; rintro e w4 ⟨rfl, hb4⟩
      have hsC4 := hsC3.ext hb4
      have hB4 := hB3.trans (Below.mono hb4 hB3.size)
      clear hst h3 hb4 hB3 hsC3 t1 t2
      go_wp2_with fail
      rw [show ((ep : Int) + 1) % 4294967296 = (((ep + 1) % 4294967296 : Nat) : Int) by omega]
      refine (H2.out _ _ _ hsC4).mono ?_; rintro e w5 ⟨v5, rfl, hO5, hb5⟩
      have hB5 := hB4.trans (Below.mono hb5 hB4.size)
      obtain ⟨a5, c5, rfl, -⟩ := id hO5.sl
      go_wp2_with fail
      refine (fr_awake _).mono ?_; rintro e w6 ⟨rfl, hb6⟩
      go_wp2_with fail
      go_ret
      exact ⟨rfl, hB5.trans (Below.mono hb6 hB5.size)⟩

theorem ffinds_law' (ep : Int) (a : Option Addr) (n c : Nat) (ls : List (List UInt8)) (b : Option Addr) (m d : Nat) (r : List UInt8) (w : World) (he : (Lit.int .u32 ep).wf = true) (h : SlL w a n c ls) (hr : SlB w b m d r) :
    Calls Try.prog 11 #[.int .u32 ep, .slice a n c, .slice b m d] w fun e w' => e = .returned (.bool true) ∧ Below w.heap.size w w' := by
  obtain ⟨x, rfl, hx⟩ := u32_nat he
  exact ffinds_law x a n c ls b m d r w hx h hr

end Go.Proofs.Ytolagcnndepjbaa
