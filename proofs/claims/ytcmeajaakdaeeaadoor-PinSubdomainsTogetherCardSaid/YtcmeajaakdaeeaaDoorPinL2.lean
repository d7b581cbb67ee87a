/-
  The walks of PinCompareMatchesSpec and PinSubdomainsTogether.
-/
import Derived.Test.YtcmeajaakdaeeaaDoorPinL1
namespace Go.Proofs.YtcmeajaakdaeeaaDoor
open Go.RowKit

theorem short3 (m : Nat) (a b c : List UInt8) (w : World) :
    Calls Tryd.prog 19 #[.int .i64 (m : Nat), .slice (some ⟨w.heap.size, 0, none⟩) 3 3] (w.alloc (.cells #[.string (str a), .string (str b), .string (str c)] 9)) fun e w' => e = .returned (.bool (decide (a.length ≤ m) && (decide (b.length ≤ m) && decide (c.length ≤ m)))) ∧ Below (w.heap.size + 1) (w.alloc (.cells #[.string (str a), .string (str b), .string (str c)] 9)) w' := by
  have := keep_short m _ 3 3 [a, b, c] _ (SlT.built w #[.string (str a), .string (str b), .string (str c)] [a, b, c] 3 w.heap.size 9 (0, 0) rfl rfl (by decide) rfl)
  have hz : (w.alloc (.cells #[.string (str a), .string (str b), .string (str c)] 9)).heap.size = w.heap.size + 1 := by simp
  rw [hz] at this
  simpa using this

set_option maxHeartbeats 4000000 in
set_option maxRecDepth 100000 in
theorem pin_compare_spec (s t u : ByteArray) (w : World) (_hs : s.size ≤ maxLen) (_ht : t.size ≤ maxLen) (_hu : u.size ≤ maxLen) :
    Calls Tryd.prog 5 #[.string s, .string t, .string u] w fun e w' => e = .returned (.bool true) ∧ Below w.heap.size w w' := by
  obtain ⟨a, rfl⟩ : ∃ l, s = str l := ⟨s.data.toList, by simp [str]⟩
  obtain ⟨b, rfl⟩ : ∃ l, t = str l := ⟨t.data.toList, by simp [str]⟩
  obtain ⟨c, rfl⟩ : ∃ l, u = str l := ⟨u.data.toList, by simp [str]⟩
  have HS := Lib.hid (short3 400 a b c w)
  have hb0 : Below w.heap.size w (w.alloc (.cells #[.string (str a), .string (str b), .string (str c)] 9)) := (Below.refl _ _).alloc (Nat.le_refl _) _
  have HAW := Lib.hid pin_awake
  by_cases hn : a.length ≤ 400 ∧ b.length ≤ 400 ∧ c.length ≤ 400
  · obtain ⟨n1, n2, n3⟩ := hn
    rw [decide_eq_true n1, decide_eq_true n2, decide_eq_true n3] at HS
    have HAB := Lib.hid (fun W => pn_compare a b (by omega) (by omega) W)
    have HBC := Lib.hid (fun W => pn_compare b c (by omega) (by omega) W)
    have HBA := Lib.hid (fun W => pn_compare b a (by omega) (by omega) W)
    have HAC := Lib.hid (fun W => pn_compare a c (by omega) (by omega) W)
    have HRF := Lib.hid (fun W => rp_compare a b (by omega) (by omega) W)
    rw [Host.cmp_neg] at HBA
    have hrn := Host.cmp_rng a b
    have heq : ((str a).toList == (str b).toList) = (Host.cmp a b == 0) := by
      rw [str_toList, str_toList, Bool.eq_iff_iff]; simp only [beq_iff_eq]
      exact ⟨fun h => by rw [h]; exact Host.cmp_self _, fun h => Host.cmp_eq h⟩
    have htr := fun h k => Host.cmp_trans (a := a) (b := b) (c := c) h k
    generalize Host.cmp a b = x at *
    generalize Host.cmp b c = y at *
    generalize Host.cmp a c = z at *
    have wx : IntKind.i64.wrap (-x) = -x := by rw [IntKind.wrap_i64]; omega
    generalize str a = sa at *
    generalize str b = sb at *
    generalize str c = sc at *
    have HB0 := Lib.hid hb0
    have hz0 : (w.alloc (.cells #[.string sa, .string sb, .string sc] 9)).heap.size = w.heap.size + 1 := by simp
    have HZ := Lib.hid hz0
    clear n1 n2 n3 hrn hb0 hz0 _hs _ht _hu
    have HPP : Hid (0 < x ∨ 0 < y ∨ z ≤ 0) := Lib.hid (by
      by_cases h1 : 0 < x; · exact .inl h1
      by_cases h2 : 0 < y; · exact .inr (.inl h2)
      exact .inr (.inr (htr (by omega) (by omega))))
    obtain ⟨B, hB1, hB2⟩ : ∃ B, (x == 0) = B ∧ (sa.toList == sb.toList) = B := ⟨_, rfl, heq⟩
    have HQ := Lib.hid (And.intro hB1 hB2)
    clear htr heq hB1 hB2
    go_enter Tryd.func5, Tryd.ntmps5
    go_wp2_with fail
    refine HS.out.mono ?_; rintro e w1 ⟨rfl, hB1⟩
    have hB := HB0.out.trans (hB1.mono (Nat.le_succ _))
    go_wp2_with fail
    refine (HAB.out _).mono ?_; rintro e v1 ⟨rfl, hC1⟩; replace hB := hB.trans (hC1.mono hB.size)
    go_wp2_with fail
    refine (HBC.out _).mono ?_; rintro e v2 ⟨rfl, hC2⟩; replace hB := hB.trans (hC2.mono hB.size)
    go_wp2_with fail
    refine (HRF.out _).mono ?_; rintro e v3 ⟨rfl, hC3⟩; replace hB := hB.trans (hC3.mono hB.size)
    have r1 : (x != x) = false := by simp
    go_wp2_with fail
    refine (HBA.out _).mono ?_; rintro e v4 ⟨rfl, hC4⟩; replace hB := hB.trans (hC4.mono hB.size)
    have r2 : (-x != -x) = false := by simp
    have r3 : (B != B) = false := by simp
    have r4 := HQ.out.1
    have r5 := HQ.out.2
    rcases HPP.out with h1 | h1 | h1
    · go_wp2_with fail
      refine (HAW.out _).mono ?_; rintro e v5 ⟨rfl, hC5⟩; replace hB := hB.trans (hC5.mono hB.size)
      go_wp2_with fail
      go_ret
      exact ⟨rfl, hB⟩
    · by_cases h2 : 0 < x
      · go_wp2_with fail
        refine (HAW.out _).mono ?_; rintro e v5 ⟨rfl, hC5⟩; replace hB := hB.trans (hC5.mono hB.size)
        go_wp2_with fail
        go_ret
        exact ⟨rfl, hB⟩
      · go_wp2_with fail
        refine (HAW.out _).mono ?_; rintro e v5 ⟨rfl, hC5⟩; replace hB := hB.trans (hC5.mono hB.size)
        go_wp2_with fail
        go_ret
        exact ⟨rfl, hB⟩
    · by_cases h2 : 0 < x
      · go_wp2_with fail
        refine (HAW.out _).mono ?_; rintro e v5 ⟨rfl, hC5⟩; replace hB := hB.trans (hC5.mono hB.size)
        go_wp2_with fail
        go_ret
        exact ⟨rfl, hB⟩
      · by_cases h3 : 0 < y
        · go_wp2_with fail
          refine (HAW.out _).mono ?_; rintro e v5 ⟨rfl, hC5⟩; replace hB := hB.trans (hC5.mono hB.size)
          go_wp2_with fail
          go_ret
          exact ⟨rfl, hB⟩
        · go_wp2_with fail
          refine (HAC.out _).mono ?_; rintro e v5 ⟨rfl, hC5⟩; replace hB := hB.trans (hC5.mono hB.size)
          go_wp2_with fail
          refine (HAW.out _).mono ?_; rintro e v6 ⟨rfl, hC6⟩; replace hB := hB.trans (hC6.mono hB.size)
          go_wp2_with fail
          go_ret
          exact ⟨rfl, hB⟩
  · have HS' := HS.out
    have hf : (decide (a.length ≤ 400) && (decide (b.length ≤ 400) && decide (c.length ≤ 400))) = false := by
      rw [Bool.eq_false_iff]; intro h; simp at h; exact hn ⟨h.1, h.2.1, h.2.2⟩
    rw [hf] at HS'
    have HS2 := Lib.hid HS'
    have HB0 := Lib.hid hb0
    generalize str a = sa at *
    generalize str b = sb at *
    generalize str c = sc at *
    clear hn HS HS' hf hb0 _hs _ht _hu
    go_enter Tryd.func5, Tryd.ntmps5
    go_wp2_with fail
    refine HS2.out.mono ?_; rintro e w1 ⟨rfl, hB1⟩
    have hB := HB0.out.trans (hB1.mono (Nat.le_succ _))
    go_wp2_with fail
    refine (HAW.out _).mono ?_; rintro e w2 ⟨rfl, hB2⟩
    go_wp2_with fail
    go_ret
    exact ⟨rfl, hB.trans (hB2.mono hB.size)⟩

set_option maxHeartbeats 4000000 in
set_option maxRecDepth 100000 in
theorem pin_together (s t u : ByteArray) (w : World) (_hs : s.size ≤ maxLen) (_ht : t.size ≤ maxLen) (_hu : u.size ≤ maxLen) :
    Calls Tryd.prog 6 #[.string s, .string t, .string u] w fun e w' => e = .returned (.bool true) ∧ Below w.heap.size w w' := by
  obtain ⟨a, rfl⟩ : ∃ l, s = str l := ⟨s.data.toList, by simp [str]⟩
  obtain ⟨b, rfl⟩ : ∃ l, t = str l := ⟨t.data.toList, by simp [str]⟩
  obtain ⟨c, rfl⟩ : ∃ l, u = str l := ⟨u.data.toList, by simp [str]⟩
  have HS := Lib.hid (short3 300 a b c w)
  have hb0 : Below w.heap.size w (w.alloc (.cells #[.string (str a), .string (str b), .string (str c)] 9)) := (Below.refl _ _).alloc (Nat.le_refl _) _
  have HAW := Lib.hid pin_awake
  by_cases hn : a.length ≤ 300 ∧ b.length ≤ 300 ∧ c.length ≤ 300
  · obtain ⟨n1, n2, n3⟩ := hn
    have HS2 := Lib.hid HS.out
    rw [decide_eq_true n1, decide_eq_true n2, decide_eq_true n3] at HS2
    have HB0 := Lib.hid hb0
    have HV := Lib.hid (fun W => hr_covers a c (by omega) (by omega) W)
    have HAB := Lib.hid (fun W => pn_compare a b (by omega) (by omega) W)
    have HBC := Lib.hid (fun W => pn_compare b c (by omega) (by omega) W)
    have HAC := Lib.hid (fun W => pn_compare a c (by omega) (by omega) W)
    have HNB := Lib.hid (fun W => hr_validName b (by omega) W)
    have HCV := Lib.hid (fun W => hr_covers a b (by omega) (by omega) W)
    have hbt := fun h h1 => Host.covers_between (a := a) (b := b) (c := c) h h1
    have hcc := Host.covers_cmp (a := a) (c := c)
    have hst : ((str a).toList == (str c).toList) = decide (a = c) := by
      rw [str_toList, str_toList, Bool.eq_iff_iff]; simp
    clear HS hb0 _hs _ht _hu n1 n2 n3
    cases hcv : Host.covers a c with
    | false =>
      rw [hcv] at HV
      clear hbt hcc hst hcv
      generalize str a = sa at *
      generalize str b = sb at *
      generalize str c = sc at *
      go_enter Tryd.func6, Tryd.ntmps6
      go_wp2_with fail
      refine HS2.out.mono ?_; rintro e w1 ⟨rfl, hB1⟩
      have hB := HB0.out.trans (hB1.mono (Nat.le_succ _))
      go_wp2_with fail
      refine (HV.out _).mono ?_; rintro e v2 ⟨rfl, hC2⟩; replace hB := hB.trans (hC2.mono hB.size)
      go_wp2_with fail
      refine (HAW.out _).mono ?_; rintro e v3 ⟨rfl, hC3⟩; replace hB := hB.trans (hC3.mono hB.size)
      go_wp2_with fail
      go_ret
      exact ⟨rfl, hB⟩
    | true =>
      rw [hcv] at HV
      have HVB := Lib.hid (show Host.name b = true → ¬ 0 < Host.cmp a b → ¬ 0 < Host.cmp b c → ∀ W, Calls Tryd.prog 22 #[.string (str a), .string (str b)] W fun e w' => e = .returned (.bool true) ∧ Below W.heap.size W w' from fun h1 h2 h3 W => by
        have := HCV.out W
        rwa [hbt hcv h1 (by omega) (by omega)] at this)
      have hc2 := hcc hcv
      clear hbt hcv HCV hcc
      generalize Host.cmp a b = x at *
      generalize Host.cmp b c = y at *
      generalize Host.cmp a c = z at *
      generalize Host.name b = nb at *
      rcases hc2 with ⟨q1, rfl⟩ | ⟨q1, rfl⟩
      · rw [decide_eq_true q1] at hst
        clear q1
        generalize str a = sa at *
        generalize str b = sb at *
        generalize str c = sc at *
        go_enter Tryd.func6, Tryd.ntmps6
        go_wp2_with fail
        refine HS2.out.mono ?_; rintro e w1 ⟨rfl, hB1⟩
        have hB := HB0.out.trans (hB1.mono (Nat.le_succ _))
        go_wp2_with fail
        refine (HV.out _).mono ?_; rintro e v2 ⟨rfl, hC2⟩; replace hB := hB.trans (hC2.mono hB.size)
        go_wp2_with fail
        refine (HAC.out _).mono ?_; rintro e v3 ⟨rfl, hC3⟩; replace hB := hB.trans (hC3.mono hB.size)
        go_wp2_with fail
        cases nb with
        | false =>
          go_wp2_with fail
          refine (HNB.out _).mono ?_; rintro e v11 ⟨rfl, hC11⟩; replace hB := hB.trans (hC11.mono hB.size)
          go_wp2_with fail
          refine (HAW.out _).mono ?_; rintro e v12 ⟨rfl, hC12⟩; replace hB := hB.trans (hC12.mono hB.size)
          go_wp2_with fail
          go_ret
          exact ⟨rfl, hB⟩
        | true =>
          by_cases h1 : 0 < x
          · go_wp2_with fail
            refine (HNB.out _).mono ?_; rintro e v11 ⟨rfl, hC11⟩; replace hB := hB.trans (hC11.mono hB.size)
            go_wp2_with fail
            refine (HAB.out _).mono ?_; rintro e v12 ⟨rfl, hC12⟩; replace hB := hB.trans (hC12.mono hB.size)
            go_wp2_with fail
            refine (HAW.out _).mono ?_; rintro e v13 ⟨rfl, hC13⟩; replace hB := hB.trans (hC13.mono hB.size)
            go_wp2_with fail
            go_ret
            exact ⟨rfl, hB⟩
          by_cases h2 : 0 < y
          · go_wp2_with fail
            refine (HNB.out _).mono ?_; rintro e v11 ⟨rfl, hC11⟩; replace hB := hB.trans (hC11.mono hB.size)
            go_wp2_with fail
            refine (HAB.out _).mono ?_; rintro e v12 ⟨rfl, hC12⟩; replace hB := hB.trans (hC12.mono hB.size)
            go_wp2_with fail
            refine (HBC.out _).mono ?_; rintro e v13 ⟨rfl, hC13⟩; replace hB := hB.trans (hC13.mono hB.size)
            go_wp2_with fail
            refine (HAW.out _).mono ?_; rintro e v14 ⟨rfl, hC14⟩; replace hB := hB.trans (hC14.mono hB.size)
            go_wp2_with fail
            go_ret
            exact ⟨rfl, hB⟩
          go_wp2_with fail
          refine (HNB.out _).mono ?_; rintro e v11 ⟨rfl, hC11⟩; replace hB := hB.trans (hC11.mono hB.size)
          go_wp2_with fail
          refine (HAB.out _).mono ?_; rintro e v12 ⟨rfl, hC12⟩; replace hB := hB.trans (hC12.mono hB.size)
          go_wp2_with fail
          refine (HBC.out _).mono ?_; rintro e v13 ⟨rfl, hC13⟩; replace hB := hB.trans (hC13.mono hB.size)
          go_wp2_with fail
          have HC4 := Lib.hid (fun W => HVB.out trivial h1 h2 W)
          refine (HC4.out _).mono ?_; rintro e v14 ⟨rfl, hC14⟩; replace hB := hB.trans (hC14.mono hB.size)
          go_wp2_with fail
          refine (HAW.out _).mono ?_; rintro e v15 ⟨rfl, hC15⟩; replace hB := hB.trans (hC15.mono hB.size)
          go_wp2_with fail
          go_ret
          exact ⟨rfl, hB⟩
      · rw [decide_eq_false q1] at hst
        clear q1
        generalize str a = sa at *
        generalize str b = sb at *
        generalize str c = sc at *
        go_enter Tryd.func6, Tryd.ntmps6
        go_wp2_with fail
        refine HS2.out.mono ?_; rintro e w1 ⟨rfl, hB1⟩
        have hB := HB0.out.trans (hB1.mono (Nat.le_succ _))
        go_wp2_with fail
        refine (HV.out _).mono ?_; rintro e v2 ⟨rfl, hC2⟩; replace hB := hB.trans (hC2.mono hB.size)
        go_wp2_with fail
        refine (HAC.out _).mono ?_; rintro e v3 ⟨rfl, hC3⟩; replace hB := hB.trans (hC3.mono hB.size)
        go_wp2_with fail
        refine (HAC.out _).mono ?_; rintro e v4 ⟨rfl, hC4⟩; replace hB := hB.trans (hC4.mono hB.size)
        cases nb with
        | false =>
          go_wp2_with fail
          refine (HNB.out _).mono ?_; rintro e v11 ⟨rfl, hC11⟩; replace hB := hB.trans (hC11.mono hB.size)
          go_wp2_with fail
          refine (HAW.out _).mono ?_; rintro e v12 ⟨rfl, hC12⟩; replace hB := hB.trans (hC12.mono hB.size)
          go_wp2_with fail
          go_ret
          exact ⟨rfl, hB⟩
        | true =>
          by_cases h1 : 0 < x
          · go_wp2_with fail
            refine (HNB.out _).mono ?_; rintro e v11 ⟨rfl, hC11⟩; replace hB := hB.trans (hC11.mono hB.size)
            go_wp2_with fail
            refine (HAB.out _).mono ?_; rintro e v12 ⟨rfl, hC12⟩; replace hB := hB.trans (hC12.mono hB.size)
            go_wp2_with fail
            refine (HAW.out _).mono ?_; rintro e v13 ⟨rfl, hC13⟩; replace hB := hB.trans (hC13.mono hB.size)
            go_wp2_with fail
            go_ret
            exact ⟨rfl, hB⟩
          by_cases h2 : 0 < y
          · go_wp2_with fail
            refine (HNB.out _).mono ?_; rintro e v11 ⟨rfl, hC11⟩; replace hB := hB.trans (hC11.mono hB.size)
            go_wp2_with fail
            refine (HAB.out _).mono ?_; rintro e v12 ⟨rfl, hC12⟩; replace hB := hB.trans (hC12.mono hB.size)
            go_wp2_with fail
            refine (HBC.out _).mono ?_; rintro e v13 ⟨rfl, hC13⟩; replace hB := hB.trans (hC13.mono hB.size)
            go_wp2_with fail
            refine (HAW.out _).mono ?_; rintro e v14 ⟨rfl, hC14⟩; replace hB := hB.trans (hC14.mono hB.size)
            go_wp2_with fail
            go_ret
            exact ⟨rfl, hB⟩
          go_wp2_with fail
          refine (HNB.out _).mono ?_; rintro e v11 ⟨rfl, hC11⟩; replace hB := hB.trans (hC11.mono hB.size)
          go_wp2_with fail
          refine (HAB.out _).mono ?_; rintro e v12 ⟨rfl, hC12⟩; replace hB := hB.trans (hC12.mono hB.size)
          go_wp2_with fail
          refine (HBC.out _).mono ?_; rintro e v13 ⟨rfl, hC13⟩; replace hB := hB.trans (hC13.mono hB.size)
          go_wp2_with fail
          have HC4 := Lib.hid (fun W => HVB.out trivial h1 h2 W)
          refine (HC4.out _).mono ?_; rintro e v14 ⟨rfl, hC14⟩; replace hB := hB.trans (hC14.mono hB.size)
          go_wp2_with fail
          refine (HAW.out _).mono ?_; rintro e v15 ⟨rfl, hC15⟩; replace hB := hB.trans (hC15.mono hB.size)
          go_wp2_with fail
          go_ret
          exact ⟨rfl, hB⟩
  · have HS' := HS.out
    have hf : (decide (a.length ≤ 300) && (decide (b.length ≤ 300) && decide (c.length ≤ 300))) = false := by
      rw [Bool.eq_false_iff]; intro h; simp at h; exact hn ⟨h.1, h.2.1, h.2.2⟩
    rw [hf] at HS'
    have HS2 := Lib.hid HS'
    have HB0 := Lib.hid hb0
    generalize str a = sa at *
    generalize str b = sb at *
    generalize str c = sc at *
    clear hn HS HS' hf hb0 _hs _ht _hu
    go_enter Tryd.func6, Tryd.ntmps6
    go_wp2_with fail
    refine HS2.out.mono ?_; rintro e w1 ⟨rfl, hB1⟩
    have hB := HB0.out.trans (hB1.mono (Nat.le_succ _))
    go_wp2_with fail
    refine (HAW.out _).mono ?_; rintro e v2 ⟨rfl, hC2⟩; replace hB := hB.trans (hC2.mono hB.size)
    go_wp2_with fail
    go_ret
    exact ⟨rfl, hB⟩

end Go.Proofs.YtcmeajaakdaeeaaDoor
