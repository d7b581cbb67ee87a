/-
  The walk through the reference's Compare.
-/
import Derived.Test.YtcmeajaakdaeeaaDoorRun31
namespace Go.Proofs.YtcmeajaakdaeeaaDoor
open Go.RowKit

namespace Host
theorem rev_at (l : List (List UInt8)) {k : Nat} (h1 : 1 ≤ k) (h2 : k ≤ l.length) : l.reverse.drop (k - 1) = l[l.length - k]?.getD [] :: l.reverse.drop k := by
  have hk : k - 1 < l.reverse.length := by rw [List.length_reverse]; omega
  rw [List.drop_eq_getElem_cons hk, show k - 1 + 1 = k by omega]
  congr 1
  rw [List.getElem_reverse, List.getElem?_eq_getElem (by omega), Option.getD_some]
  congr 1; omega
theorem rev_out (l : List (List UInt8)) {k : Nat} (h2 : l.length < k) : l.reverse.drop (k - 1) = [] := List.drop_of_length_le (by rw [List.length_reverse]; omega)
theorem cmpL_cons_lt {x y : List UInt8} (xs ys : List (List UInt8)) (h : lb x y = true) : cmpL (x :: xs) (y :: ys) = -1 := by rw [cmpL, if_pos h]
theorem cmpL_cons_gt {x y : List UInt8} (xs ys : List (List UInt8)) (h : lb x y = false) (h2 : lb y x = true) : cmpL (x :: xs) (y :: ys) = 1 := by rw [cmpL, if_neg (by simp [h]), if_pos h2]
theorem cmpL_cons_eq {x y : List UInt8} (xs ys : List (List UInt8)) (h : lb x y = false) (h2 : lb y x = false) : cmpL (x :: xs) (y :: ys) = cmpL xs ys := by rw [cmpL, if_neg (by simp [h]), if_neg (by simp [h2])]
end Host

set_option maxRecDepth 100000 in
set_option maxHeartbeats 8000000 in
theorem rp_compare (a b : List UInt8) (ha : a.length ≤ 1000000) (hb : b.length ≤ 1000000) (w : World) :
    Calls Tryd.prog 21 #[.string (str a), .string (str b)] w fun e w' => e = .returned (.int .i64 (Host.cmp a b)) ∧ Below w.heap.size w w' := by
  have HSA := Lib.hid (fun W => hr_split a ha W)
  have HSB := Lib.hid (fun W => hr_split b hb W)
  have ha2 := Host.split_len a
  have hb2 := Host.split_len b
  obtain ⟨r, hr⟩ : ∃ r, Host.cmp a b = r := ⟨_, rfl⟩
  have hr2 : r = Host.cmpL (Host.split a).reverse (Host.split b).reverse := hr.symm
  rw [hr]
  clear hr
  obtain ⟨X, hX⟩ : ∃ X, Host.split a = X := ⟨_, rfl⟩
  obtain ⟨Y, hY⟩ : ∃ Y, Host.split b = Y := ⟨_, rfl⟩
  rw [hX] at HSA ha2 hr2
  rw [hY] at HSB hb2 hr2
  have HR := Lib.hid hr2
  clear hr2 hX hY
  obtain ⟨n, hn⟩ : ∃ n, X.length = n := ⟨_, rfl⟩
  obtain ⟨m, hm⟩ : ∃ m, Y.length = m := ⟨_, rfl⟩
  rw [hn] at ha2
  rw [hm] at hb2
  have HN := Lib.hid hn
  have HM := Lib.hid hm
  clear hn hm
  obtain ⟨sa, hsa⟩ : ∃ s, str a = s := ⟨_, rfl⟩
  obtain ⟨sb, hsb⟩ : ∃ s, str b = s := ⟨_, rfl⟩
  rw [hsa] at HSA ⊢
  rw [hsb] at HSB ⊢
  clear hsa hsb
  go_enter Tryd.func21, Tryd.ntmps21
  go_wp2_with fail
  refine (HSA.out _).mono ?_; rintro e w1 ⟨v1, rfl, hO1, hB1⟩
  obtain ⟨p1, c1, rfl, hs1⟩ := hO1.sl
  rw [HN.out] at hs1 ⊢
  go_wp2_with fail
  refine (HSB.out _).mono ?_; rintro e w2 ⟨v2, rfl, hO2, hB2⟩
  obtain ⟨p2, c2, rfl, hs2⟩ := hO2.sl
  rw [HM.out] at hs2 ⊢
  have hs1 := hs1.ext hB2
  have hB02 := hB1.trans (hB2.mono hB1.size)
  go_wp2_with fail
  go_loopw [7, 8, 9] (fun i _ _ wr => ∃ k : Nat, 1 ≤ k ∧ k ≤ n + 1 ∧ k ≤ m + 1 ∧ i = .int .i64 k ∧ Hid (r = Host.cmpL (X.reverse.drop (k - 1)) (Y.reverse.drop (k - 1))) ∧ Below w2.heap.size w2 wr) (fun i _ _ _ => n + 1 - (intOf i).toNat)
  case atStart => exact ⟨1, by omega, by omega, by omega, rfl, Lib.hid (by rw [HR.out]; rfl), Below.refl _ _⟩
  case round =>
    obtain ⟨k, k1, kn, km, rfl, HC, hB⟩ := hrel
    have i0 : (0 : Int) ≤ (k : Int) := by omega
    by_cases h1 : k ≤ n
    · have i1 : (k : Int) ≤ (n : Int) := by omega
      by_cases h2 : k ≤ m
      · have i2 : (k : Int) ≤ (m : Int) := by omega
        obtain ⟨b1, o1, rfl, hb1, hkl1, hc1⟩ := (hs1.ext hB).at (k := n - k) (by omega)
        obtain ⟨b2, o2, rfl, hb2', hkl2, hc2⟩ := (hs2.ext hB).at (k := m - k) (by omega)
        have HX := Lib.hid (Host.rev_at X k1 (by rw [HN.out]; exact h1))
        have HY := Lib.hid (Host.rev_at Y k1 (by rw [HM.out]; exact h2))
        rw [HN.out] at HX
        rw [HM.out] at HY
        obtain ⟨x, hx⟩ : ∃ x, X[n - k]?.getD [] = x := ⟨_, rfl⟩
        obtain ⟨y, hy⟩ : ∃ y, Y[m - k]?.getD [] = y := ⟨_, rfl⟩
        rw [hx, tv] at hc1
        rw [hy, tv] at hc2
        rw [hx] at HX
        rw [hy] at HY
        have j1 : (0 : Int) ≤ (n : Int) - (k : Int) := by omega
        have j2 : (0 : Int) ≤ (m : Int) - (k : Int) := by omega
        have j3 : (n : Int) - (k : Int) < (n : Int) := by omega
        have j4 : (m : Int) - (k : Int) < (m : Int) := by omega
        have j5 : ((n : Int) - (k : Int)).toNat = n - k := by omega
        have j6 : ((m : Int) - (k : Int)).toNat = m - k := by omega
        have j7 : IntKind.i64.wrap ((n : Int) - (k : Int)) = (n : Int) - (k : Int) := by rw [IntKind.wrap_i64]; omega
        have j8 : IntKind.i64.wrap ((m : Int) - (k : Int)) = (m : Int) - (k : Int) := by rw [IntKind.wrap_i64]; omega
        have hxt : (str x).toList = x := str_toList x
        have hyt : (str y).toList = y := str_toList y
        have HLT := Lib.hid (Host.cmpL_cons_lt (x := x) (y := y) (X.reverse.drop k) (Y.reverse.drop k))
        have HGT := Lib.hid (Host.cmpL_cons_gt (x := x) (y := y) (X.reverse.drop k) (Y.reverse.drop k))
        have HEQ := Lib.hid (Host.cmpL_cons_eq (x := x) (y := y) (X.reverse.drop k) (Y.reverse.drop k))
        obtain ⟨q1, g1⟩ : ∃ q, Host.lb x y = q := ⟨_, rfl⟩
        obtain ⟨q2, g2⟩ : ∃ q, Host.lb y x = q := ⟨_, rfl⟩
        have t1 : Op.bytesLess (str x).toList (str y).toList = q1 := by rw [hxt, hyt]; exact g1
        have HQ := Lib.hid (show ((str x).toList == (str y).toList) = (!q1 && !q2) by
          rw [hxt, hyt]
          cases q1 with
          | true =>
            have : x ≠ y := by intro e; subst e; rw [Host.lb_irrefl] at g1; cases g1
            simpa using this
          | false =>
            cases q2 with
            | true =>
              have : x ≠ y := by intro e; subst e; rw [Host.lb_irrefl] at g2; cases g2
              simpa using this
            | false => have := Host.lb_total x y g1 g2; subst this; simp)
        have HG := Lib.hid (And.intro g1 g2)
        obtain ⟨sx, hsx⟩ : ∃ s, str x = s := ⟨_, rfl⟩
        obtain ⟨sy, hsy⟩ : ∃ s, str y = s := ⟨_, rfl⟩
        rw [hsx] at hc1 t1 HQ
        rw [hsy] at hc2 t1 HQ
        have t3 := HQ.out
        clear hx hy hxt hyt g1 g2 hsx hsy hkl1 hkl2
        cases q1
        · cases q2
          · have HN2 := Lib.hid (show r = Host.cmpL (X.reverse.drop k) (Y.reverse.drop k) by rw [HC.out, HX.out, HY.out, HEQ.out HG.out.1 HG.out.2])
            go_wp2_with fail
            go_quiet (fail)
            have hBq := hB.trans ((below_dn _ nq).mono hB.size)
            go_wp2_with fail
            go_roundw
            case rel => exact ⟨k + 1, by omega, by omega, by omega, by go_num, HN2, hBq⟩
            case measure => simp [intOf]; omega
          · have HF := Lib.hid (show r = 1 by rw [HC.out, HX.out, HY.out, HGT.out HG.out.1 HG.out.2])
            go_wp2_with fail
            go_quiet (fail)
            have hBq := hB.trans ((below_dn _ nq).mono hB.size)
            go_wp2_with fail
            go_ret
            exact ⟨by rw [HF.out]; rfl, hB02.trans (hBq.mono hB02.size)⟩
        · have HF := Lib.hid (show r = -1 by rw [HC.out, HX.out, HY.out, HLT.out HG.out.1])
          go_wp2_with fail
          go_quiet (fail)
          have hBq := hB.trans ((below_dn _ nq).mono hB.size)
          go_wp2_with fail
          go_ret
          exact ⟨by rw [HF.out]; rfl, hB02.trans (hBq.mono hB02.size)⟩
      · obtain rfl : k = m + 1 := by omega
        have i2 : ¬ ((m + 1 : Nat) : Int) ≤ (m : Int) := by omega
        have HF := Lib.hid (show r = 1 by
          rw [HC.out, Host.rev_out Y (by rw [HM.out]; omega), Host.rev_at X k1 (by rw [HN.out]; exact h1)]; rfl)
        have i3 : (m : Int) < (n : Int) := by omega
        go_wp2_with fail
        go_ret
        exact ⟨by rw [HF.out]; rfl, hB02.trans (hB.mono hB02.size)⟩
    · obtain rfl : k = n + 1 := by omega
      have i1 : ¬ ((n + 1 : Nat) : Int) ≤ (n : Int) := by omega
      by_cases h2 : n + 1 ≤ m
      · have HF := Lib.hid (show r = -1 by
          rw [HC.out, Host.rev_out X (by rw [HN.out]; omega), Host.rev_at Y k1 (by rw [HM.out]; exact h2)]; rfl)
        have i3 : (n : Int) < (m : Int) := by omega
        go_wp2_with fail
        go_ret
        exact ⟨by rw [HF.out]; rfl, hB02.trans (hB.mono hB02.size)⟩
      · obtain rfl : n = m := by omega
        have HF := Lib.hid (show r = 0 by
          rw [HC.out, Host.rev_out X (by rw [HN.out]; omega), Host.rev_out Y (by rw [HM.out]; omega)]; rfl)
        go_wp2_with fail
        go_ret
        exact ⟨by rw [HF.out]; rfl, hB02.trans (hB.mono hB02.size)⟩

end Go.Proofs.YtcmeajaakdaeeaaDoor
