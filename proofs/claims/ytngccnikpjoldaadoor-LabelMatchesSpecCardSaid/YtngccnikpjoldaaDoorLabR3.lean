/-
  The walks through the reference's Valid, ToASCII and ToUnicode.
-/
import Derived.Test.YtngccnikpjoldaaDoorLabR2
namespace Go.Proofs.YtngccnikpjoldaaDoor
open Go.RowKit

set_option maxHeartbeats 8000000 in
set_option maxRecDepth 100000 in
theorem lr_valid (l : List UInt8) (w : World) (hl : l.length ≤ 1000000) :
    Calls Tryd.prog 13 #[.string (str l)] w fun e w' => e = .returned (.bool (Lab.valid l)) ∧ Below w.heap.size w w' := by
  have hsz := str_size l
  have hget : ∀ k (h : k < l.length) h', (str l)[k]'h' = l[k] := fun k h h' => str_get _ _ _
  have htl := str_toList l
  obtain ⟨sv, hsv⟩ : ∃ sv, sv = str l := ⟨_, rfl⟩
  have hget2 : ∀ i (h : i < l.length) (h' : i < sv.size), sv[i] = l[i] := by subst hsv; exact hget
  rw [← hsv] at hsz htl ⊢
  have HGET := Lib.hid hget2
  have HSV := Lib.hid hsv
  have HTL := Lib.hid htl
  clear hget hget2 hsv htl
  by_cases hl0 : l.length = 0
  · have hln := List.eq_nil_of_length_eq_zero hl0
    have HF := Lib.hid (show Lab.valid l = false by rw [hln]; rfl)
    have ht : sv.toList.isEmpty = true := by rw [HTL.out, hln]; rfl
    clear hln hl0 HGET
    go_enter Tryd.func13, Tryd.ntmps13
    go_wp2_with fail
    go_ret
    exact ⟨by rw [HF.out]; rfl, Below.refl _ _⟩
  have ht0 : sv.toList.isEmpty = false := by rw [HTL.out]; cases l; · simp at hl0
                                             rfl
  by_cases hl1 : 63 < l.length
  · have HF := Lib.hid (Lab.valid_long hl1)
    have ht : (63 : Int) < (l.length : Int) := by omega
    clear HGET
    go_enter Tryd.func13, Tryd.ntmps13
    go_wp2_with fail
    go_ret
    exact ⟨by rw [HF.out]; rfl, Below.refl _ _⟩
  have ht1 : ¬ (63 : Int) < (l.length : Int) := by omega
  have hp0 : 0 < l.length := by omega
  have hpz : (0 : Int) < (l.length : Int) := by omega
  have hm : l.length - 1 < l.length := by omega
  have hf0 := HGET.out 0 hp0
  have hf1 := HGET.out (l.length - 1) hm
  have HV0 := Lib.hid (Lab.valid_first hp0)
  have HV1 := Lib.hid (Lab.valid_last hm)
  have HVO := Lib.hid (Lab.valid_ok hp0 (by omega) hm)
  have HVB := Lib.hid (fun b hb h => Lab.valid_bad (l := l) (b := b) hb h)
  generalize l[0] = x0 at *
  generalize l[l.length - 1] = x1 at *
  by_cases hx0 : x0 = 45
  · have HF := Lib.hid (HV0.out hx0)
    have ht : ((x0.toNat : Int) == 45) = true := by rw [hx0]; rfl
    have ht' : (x0.toNat : Int) = 45 := by rw [hx0]; rfl
    clear hx0 HVO HV0 HV1 hf1
    go_enter Tryd.func13, Tryd.ntmps13
    go_wp2_with fail
    go_ret
    exact ⟨by rw [HF.out]; rfl, Below.refl _ _⟩
  have hz0 : ¬ (x0.toNat : Int) = 45 := byte_ne x0 45 (by omega) hx0
  have ht2 : ((x0.toNat : Int) == 45) = false := by simpa using hz0
  have i0 : (0 : Int) ≤ (l.length : Int) - 1 := by omega
  have i1 : (l.length : Int) - 1 < (l.length : Int) := by omega
  have i2 : ((l.length : Int) - 1).toNat = l.length - 1 := by omega
  by_cases hx1 : x1 = 45
  · have HF := Lib.hid (HV1.out hx1)
    have ht : ((x1.toNat : Int) == 45) = true := by rw [hx1]; rfl
    have ht' : (x1.toNat : Int) = 45 := by rw [hx1]; rfl
    clear hx1 HVO HV0 HV1
    go_enter Tryd.func13, Tryd.ntmps13
    go_wp2_with fail
    go_ret
    exact ⟨by rw [HF.out]; rfl, Below.refl _ _⟩
  have hz1 : ¬ (x1.toNat : Int) = 45 := byte_ne x1 45 (by omega) hx1
  have ht3 : ((x1.toNat : Int) == 45) = false := by simpa using hz1
  have HVK := Lib.hid (fun hc => HVO.out hx0 hx1 hc)
  clear HV0 HV1 HVO
  go_enter Tryd.func13, Tryd.ntmps13
  go_wp2_with fail
  go_loop [3] (fun i => ∃ k : Nat, k ≤ l.length ∧ i = .int .i64 k ∧ Hid (∀ b ∈ l.take k, Lab.canon b = true)) (fun i => l.length - (intOf i).toNat)
  case atStart => exact ⟨0, Nat.zero_le _, rfl, Lib.hid (by simp)⟩
  case round =>
    obtain ⟨k, hk, rfl, HC⟩ := hrel
    by_cases hlt : k < l.length
    · have b0 : (0 : Int) ≤ (k : Int) := by omega
      have b1 : (k : Int) < (l.length : Int) := by omega
      have HMEM := Lib.hid (List.getElem_mem hlt)
      have HTK := Lib.hid (List.take_succ_eq_append_getElem hlt)
      have hg := HGET.out k hlt
      clear hf0 hf1
      generalize l[k] = b at *
      have HBAD := Lib.hid (fun h => HVB.out b HMEM.out h)
      have HGOOD := Lib.hid (fun (h : Lab.canon b = true) => (show ∀ x ∈ l.take (k + 1), Lab.canon x = true by
        rw [HTK.out]; intro x hx
        rcases List.mem_append.1 hx with hx | hx
        · exact HC.out x hx
        · simp at hx; subst hx; exact h))
      clear HVK HVB
      by_cases c1 : 97 ≤ b.toNat
      · have d1 : (97 : Int) ≤ (b.toNat : Int) := by omega
        by_cases c2 : b.toNat ≤ 122
        · have d2 : (b.toNat : Int) ≤ 122 := by omega
          have HN := Lib.hid (HGOOD.out (by simp [Lab.canon, c1, c2]))
          go_wp2_with fail
          go_round
          case rel => exact ⟨k + 1, by omega, by go_num, HN⟩
          case measure => simp [intOf]; omega
        · have d2 : ¬ (b.toNat : Int) ≤ 122 := by omega
          have d3 : (48 : Int) ≤ (b.toNat : Int) := by omega
          have d4 : ¬ (b.toNat : Int) ≤ 57 := by omega
          have d5 : ((b.toNat : Int) == 45) = false := by simp; omega
          have d6 : ((b.toNat : Int) == 95) = false := by simp; omega
          have HF := Lib.hid (HBAD.out (by simp [Lab.canon]; omega))
          go_wp2_with fail
          go_ret
          exact ⟨by rw [HF.out]; rfl, Below.refl _ _⟩
      · have d1 : ¬ (97 : Int) ≤ (b.toNat : Int) := by omega
        by_cases c3 : 48 ≤ b.toNat
        · have d3 : (48 : Int) ≤ (b.toNat : Int) := by omega
          by_cases c4 : b.toNat ≤ 57
          · have d4 : (b.toNat : Int) ≤ 57 := by omega
            have HN := Lib.hid (HGOOD.out (by simp [Lab.canon, c3, c4]))
            go_wp2_with fail
            go_round
            case rel => exact ⟨k + 1, by omega, by go_num, HN⟩
            case measure => simp [intOf]; omega
          · have d4 : ¬ (b.toNat : Int) ≤ 57 := by omega
            have d5 : ((b.toNat : Int) == 45) = false := by simp; omega
            by_cases c5 : b.toNat = 95
            · have d6 : ((b.toNat : Int) == 95) = true := by simp; omega
              have HN := Lib.hid (HGOOD.out (by simp [Lab.canon, c5]))
              clear c5
              go_wp2_with fail
              go_round
              case rel => exact ⟨k + 1, by omega, by go_num, HN⟩
              case measure => simp [intOf]; omega
            · have d6 : ((b.toNat : Int) == 95) = false := by simp; omega
              have HF := Lib.hid (HBAD.out (by simp [Lab.canon]; omega))
              go_wp2_with fail
              go_ret
              exact ⟨by rw [HF.out]; rfl, Below.refl _ _⟩
        · have d3 : ¬ (48 : Int) ≤ (b.toNat : Int) := by omega
          have d6 : ((b.toNat : Int) == 95) = false := by simp; omega
          by_cases c5 : b.toNat = 45
          · have d5 : ((b.toNat : Int) == 45) = true := by simp; omega
            have HN := Lib.hid (HGOOD.out (by simp [Lab.canon, c5]))
            clear c5
            go_wp2_with fail
            go_round
            case rel => exact ⟨k + 1, by omega, by go_num, HN⟩
            case measure => simp [intOf]; omega
          · have d5 : ((b.toNat : Int) == 45) = false := by simp; omega
            have HF := Lib.hid (HBAD.out (by simp [Lab.canon]; omega))
            go_wp2_with fail
            go_ret
            exact ⟨by rw [HF.out]; rfl, Below.refl _ _⟩
    · obtain rfl : k = l.length := by omega
      rw [List.take_of_length_le (Nat.le_refl _)] at HC
      have hvk := HVK.out HC.out
      have hpt := Lab.prefix_take l
      have HPRO := Lib.hid (fun W => lr_proper (l.drop 4) W (by simp; omega))
      clear hf0 hf1 HGET HVB
      by_cases h4 : l.length < 4
      · have h4z : (l.length : Int) < 4 := by omega
        rw [hpt, decide_eq_false (by omega)] at hvk
        have HV := Lib.hid hvk
        clear hvk hpt
        go_wp2_with fail
        go_ret
        exact ⟨by rw [HV.out]; rfl, Below.refl _ _⟩
      have h4z : ¬ (l.length : Int) < 4 := by omega
      rw [decide_eq_true (by omega), Bool.true_and] at hpt
      obtain ⟨s4, hs4, hq⟩ : ∃ s4 : ByteArray, sv.extract 0 4 = s4 ∧ (s4.toList == [120, 110, 45, 45]) = (l.take 4 == Lab.pre) := by
        refine ⟨str (l.take 4), ?_, by rw [str_toList]; rfl⟩
        rw [HSV.out, Lib.extract_eq]; rfl
      obtain ⟨s5, hs5, HS5⟩ : ∃ s5 : ByteArray, sv.extract 4 l.length = s5 ∧ Hid (s5 = str (l.drop 4)) := by
        refine ⟨_, rfl, Lib.hid ?_⟩
        rw [HSV.out, Lib.extract_eq, show (str l).data.toList = l from rfl, List.take_of_length_le (by simp)]; rfl
      rw [← HS5.out] at HPRO
      have e4 : (4 : Int) ≤ (l.length : Int) := by omega
      cases hB : (l.take 4 == Lab.pre) with
      | false =>
        rw [hB] at hq hpt
        rw [hpt] at hvk
        have hq2 : (s4.toList != [120, 110, 45, 45]) = true := by rw [bne, hq]; rfl
        have HV := Lib.hid hvk
        clear hvk hpt hB HPRO
        go_wp2_with fail
        go_ret
        exact ⟨by rw [HV.out]; rfl, Below.refl _ _⟩
      | true =>
        rw [hB] at hq hpt
        rw [hpt] at hvk
        have hq2 : (s4.toList != [120, 110, 45, 45]) = false := by rw [bne, hq]; rfl
        have HV := Lib.hid hvk
        clear hvk hpt hB
        go_wp2_with fail
        refine (HPRO.out _).mono ?_; rintro e w2 ⟨rfl, hb2⟩
        go_wp2_with fail
        go_ret
        exact ⟨by rw [HV.out]; rfl, hb2⟩

set_option maxHeartbeats 8000000 in
set_option maxRecDepth 100000 in
theorem lr_toUnicode (l : List UInt8) (w : World) (hl : l.length ≤ 1000000) :
    Calls Tryd.prog 11 #[.string (str l)] w (StrPost (Lab.toU l) w) := by
  have hsz := str_size l
  have HVAL := Lib.hid (fun W => lr_valid l W hl)
  cases hv : Lab.valid l with
  | false =>
    have HF := Lib.hid (Lab.toU_bad hv)
    rw [hv] at HVAL
    clear hv
    generalize str l = sv at *
    go_enter Tryd.func11, Tryd.ntmps11
    go_wp2_with fail
    refine (HVAL.out _).mono ?_; rintro e w1 ⟨rfl, hb1⟩
    go_wp2_with fail
    go_ret2
    exact strPost_of HF.out rfl hb1
  | true =>
    rw [hv] at HVAL
    have hpt := Lab.prefix_take l
    have hpl := fun hp => Lab.toU_plain hv hp
    have hpp := fun hp => Lab.toU_pre hv hp
    obtain ⟨sv, hsv⟩ : ∃ sv, sv = str l := ⟨_, rfl⟩
    rw [← hsv] at HVAL hsz ⊢
    have HSV := Lib.hid hsv
    clear hsv hv
    by_cases h4 : l.length < 4
    · have h4z : (l.length : Int) < 4 := by omega
      rw [decide_eq_false (by omega), Bool.false_and] at hpt
      have HF := Lib.hid (hpl hpt)
      clear hpt hpl hpp
      go_enter Tryd.func11, Tryd.ntmps11
      go_wp2_with fail
      refine (HVAL.out _).mono ?_; rintro e w1 ⟨rfl, hb1⟩
      go_wp2_with fail
      go_ret2
      exact strPost_of HF.out (by rw [← HSV.out]; rfl) hb1
    have h4z : ¬ (l.length : Int) < 4 := by omega
    rw [decide_eq_true (by omega), Bool.true_and] at hpt
    obtain ⟨s4, hs4, hq⟩ : ∃ s4 : ByteArray, sv.extract 0 4 = s4 ∧ (s4.toList == [120, 110, 45, 45]) = (l.take 4 == Lab.pre) := by
      refine ⟨str (l.take 4), ?_, by rw [str_toList]; rfl⟩
      rw [HSV.out, Lib.extract_eq]; rfl
    have e4 : (4 : Int) ≤ (l.length : Int) := by omega
    cases hB : (l.take 4 == Lab.pre) with
    | false =>
      rw [hB] at hq hpt
      have HF := Lib.hid (hpl hpt)
      have hq2 : (s4.toList != [120, 110, 45, 45]) = true := by rw [bne, hq]; rfl
      clear hpt hpl hpp hB
      go_enter Tryd.func11, Tryd.ntmps11
      go_wp2_with fail
      refine (HVAL.out _).mono ?_; rintro e w1 ⟨rfl, hb1⟩
      go_wp2_with fail
      go_ret2
      exact strPost_of HF.out (by rw [← HSV.out]; rfl) hb1
    | true =>
      rw [hB] at hq hpt
      obtain ⟨p, hd, ht⟩ := hpp hpt
      obtain ⟨q1, q2, -, -⟩ := Puny.decode_ok _ _ hd
      have hdec := fun W => pr_decode (l.drop 4) W (by simp; omega)
      unfold PDecPost Puny.dec at hdec
      rw [hd] at hdec
      have hq2 : (s4.toList != [120, 110, 45, 45]) = false := by rw [bne, hq]; rfl
      obtain ⟨s5, hs5, HS5⟩ : ∃ s5 : ByteArray, sv.extract 4 l.length = s5 ∧ Hid (s5 = str (l.drop 4)) := by
        refine ⟨_, rfl, Lib.hid ?_⟩
        rw [HSV.out, Lib.extract_eq, show (str l).data.toList = l from rfl, List.take_of_length_le (by simp)]; rfl
      rw [← HS5.out] at hdec
      have HDEC := Lib.hid hdec; have HF := Lib.hid ht
      have HTX := Lib.hid (fun a n c W h => lr_text a n c p W h q1 q2)
      clear hpt hpl hpp hB hdec ht hd q1
      go_enter Tryd.func11, Tryd.ntmps11
      go_wp2_with fail
      refine (HVAL.out _).mono ?_; rintro e w1 ⟨rfl, hb1⟩
      have hsz1 := hb1.size
      go_wp2_with fail
      refine (HDEC.out _).mono ?_; rintro e w3 ⟨v3, rfl, hO3, hb3⟩
      simp only at hO3 ⊢
      obtain ⟨a3, c3, rfl, hs3⟩ := hO3.sl
      have hB3 := hb1.trans (hb3.mono hsz1)
      have hsz3 := hB3.size
      clear hO3 hb3
      go_wp2_with fail
      refine (HTX.out _ _ _ _ hs3).mono ?_; rintro e w4 ⟨rfl, hb4⟩
      have hB4 := hB3.trans (hb4.mono hsz3)
      go_wp2_with fail
      go_ret2
      exact strPost_of HF.out rfl hB4

set_option maxHeartbeats 8000000 in
set_option maxRecDepth 100000 in
theorem lr_toASCII (l : List UInt8) (w : World) (hl : l.length ≤ 1000000) :
    Calls Tryd.prog 9 #[.string (str l)] w (StrPost (Lab.toA l) w) := by
  have hsz := str_size l
  have hpts := fun W => lr_points l W hl
  unfold PtsPost at hpts
  have hlw := fun W => lab_lowerR l W hl
  cases hv : Lib.validD l with
  | false =>
    have HF := Lib.hid (Lab.toA_bad hv)
    rw [hv] at hpts
    have HPTS := Lib.hid hpts
    clear hv hpts hlw
    generalize str l = sv at *
    go_enter Tryd.func9, Tryd.ntmps9
    go_wp2_with fail
    refine (HPTS.out _).mono ?_; rintro e w1 ⟨v1, rfl, hO1, hb1⟩
    go_wp2_with fail
    go_ret2
    exact strPost_of HF.out rfl hb1
  | true =>
    rw [hv] at hpts
    simp only [if_true] at hpts
    by_cases hn : 256 < (Lab.runes l).length
    · have HF := Lib.hid (Lab.toA_many hv hn)
      have HPTS := Lib.hid hpts
      have ht : (256 : Int) < ((Lab.runes l).length : Int) := by omega
      clear hv hpts hlw hn
      generalize str l = sv at *
      generalize Lab.runes l = rn at *
      go_enter Tryd.func9, Tryd.ntmps9
      go_wp2_with fail
      refine (HPTS.out _).mono ?_; rintro e w1 ⟨v1, rfl, hO1, hb1⟩
      obtain ⟨a1, c1, rfl, -⟩ := hO1.sl
      go_wp2_with fail
      go_ret2
      exact strPost_of HF.out rfl hb1
    have hvl := Lab.valid_lower l
    rw [hv] at hvl
    have hpt := Lab.runes_points _ (Lab.lower l) (Nat.le_refl _) hvl
    have hrl : (Lab.runes (Lab.lower l)).length = (Lab.runes l).length := by rw [Lab.runes_lower, List.length_map]
    have hrn : ¬ (256 : Int) < ((Lab.runes l).length : Int) := by omega
    have HTO := Lib.hid (fun o ho => Lab.toA_out (o := o) hv hn ho)
    by_cases hc : (Lab.runes l).length < l.length
    · have ho : Lab.outA l = Lab.pre ++ Puny.encode (Lab.runes (Lab.lower l)) := by unfold Lab.outA; rw [if_pos hc]
      have HF := Lib.hid (HTO.out _ ho)
      have hcz : ((Lab.runes l).length : Int) < (l.length : Int) := by omega
      have hpts2 := fun W => lr_points (Lab.lower l) W (by rw [Lab.lower_len]; omega)
      unfold PtsPost at hpts2
      rw [hvl] at hpts2
      simp only [if_true] at hpts2
      have henc := fun a n c W h => pr_encode a n c (Lab.runes (Lab.lower l)) W h (fun x hx => by have := (Puny.point_iff _).1 (hpt x hx); omega)
      unfold PEncPost at henc
      rw [Puny.enc_ok' (by omega) hpt] at henc
      have hel := Puny.enc_len _ hpt (by omega)
      have hcs := str_size (Puny.encode (Lab.runes (Lab.lower l)))
      have hval := fun W => lr_valid (Lab.pre ++ Puny.encode (Lab.runes (Lab.lower l))) W (by rw [List.length_append]; simp [Lab.pre]; omega)
      have HCAT := Lib.hid (str_cat Lab.pre (Puny.encode (Lab.runes (Lab.lower l))))
      have HPTS := Lib.hid hpts; have HPTS2 := Lib.hid hpts2; have HLW := Lib.hid hlw; have HENC := Lib.hid henc; have HVAL := Lib.hid hval
      clear hv hpts hpts2 hlw hn hvl hpt hrl HTO hc ho henc hval
      generalize Lab.runes (Lab.lower l) = ps at *
      generalize str l = sv at *
      generalize str (Lab.lower l) = so at *
      generalize Lab.runes l = rn at *
      generalize Puny.encode ps = cd at *
      have hq : (⟨#[120, 110, 45, 45]⟩ : ByteArray) ++ str cd = str (Lab.pre ++ cd) := HCAT.out
      cases hva : Lab.valid (Lab.pre ++ cd)
      all_goals
        rw [hva] at HVAL HF
        clear hva
        go_enter Tryd.func9, Tryd.ntmps9
        go_wp2_with fail
        refine (HPTS.out _).mono ?_; rintro e w1 ⟨v1, rfl, hO1, hb1⟩
        obtain ⟨a1, c1, rfl, -⟩ := hO1.sl
        have hsz1 := hb1.size
        go_wp2_with fail
        refine (HLW.out _).mono ?_; rintro e w2 ⟨rfl, hb2⟩
        have hB2 := hb1.trans (hb2.mono hsz1)
        have hsz2 := hB2.size
        clear hO1 hb1 hb2
        go_wp2_with fail
        refine (HPTS2.out _).mono ?_; rintro e w3 ⟨v3, rfl, hO3, hb3⟩
        have hB3 := hB2.trans (hb3.mono hsz2)
        have hsz3 := hB3.size
        obtain ⟨a3, c3, rfl, hs3⟩ := hO3.sl
        clear hO3 hb3 hB2
        go_wp2_with fail
        refine (HENC.out _ _ _ _ hs3).mono ?_; rintro e w4 ⟨rfl, hb4⟩
        have hB4 := hB3.trans (hb4.mono hsz3)
        have hsz4 := hB4.size
        simp only
        go_wp2_with fail
        refine (HVAL.out _).mono ?_; rintro e w5 ⟨rfl, hb5⟩
        have hB5 := hB4.trans (hb5.mono hsz4)
        go_wp2_with fail
        go_ret2
        exact strPost_of HF.out rfl hB5
    · have ho : Lab.outA l = Lab.lower l := by unfold Lab.outA; rw [if_neg hc]
      have HF := Lib.hid (HTO.out _ ho)
      have hcz : ¬ ((Lab.runes l).length : Int) < (l.length : Int) := by omega
      have hval := fun W => lr_valid (Lab.lower l) W (by rw [Lab.lower_len]; omega)
      have HPTS := Lib.hid hpts; have HLW := Lib.hid hlw; have HVAL := Lib.hid hval
      clear hv hpts hlw hn hvl hpt hrl HTO hc ho hval
      generalize str l = sv at *
      generalize Lab.runes l = rn at *
      cases hva : Lab.valid (Lab.lower l)
      all_goals
        rw [hva] at HVAL HF
        clear hva
        go_enter Tryd.func9, Tryd.ntmps9
        go_wp2_with fail
        refine (HPTS.out _).mono ?_; rintro e w1 ⟨v1, rfl, hO1, hb1⟩
        obtain ⟨a1, c1, rfl, -⟩ := hO1.sl
        have hsz1 := hb1.size
        go_wp2_with fail
        refine (HLW.out _).mono ?_; rintro e w2 ⟨rfl, hb2⟩
        have hB2 := hb1.trans (hb2.mono hsz1)
        have hsz2 := hB2.size
        go_wp2_with fail
        refine (HVAL.out _).mono ?_; rintro e w5 ⟨rfl, hb5⟩
        have hB5 := hB2.trans (hb5.mono hsz2)
        go_wp2_with fail
        go_ret2
        exact strPost_of HF.out rfl hB5

end Go.Proofs.YtngccnikpjoldaaDoor
