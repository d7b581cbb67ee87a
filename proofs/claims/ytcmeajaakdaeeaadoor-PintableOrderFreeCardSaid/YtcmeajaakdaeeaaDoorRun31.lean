/-
  The walk through pin.Compare.
-/
import Derived.Test.YtcmeajaakdaeeaaDoorRun29
import Derived.Test.YtcmeajaakdaeeaaDoorRun30
import Derived.Test.YtcmeajaakdaeeaaDoorRun13
import Derived.Test.YtcmeajaakdaeeaaDoorRun20
namespace Go.Proofs.YtcmeajaakdaeeaaDoor
open Go.RowKit

/-- How two strings compare. -/
def cmpS (x y : List UInt8) : Int := if Host.lb x y then -1 else if Host.lb y x then 1 else 0
def cmpI (x y : Int) : Int := if x < y then -1 else if y < x then 1 else 0

set_option maxRecDepth 100000 in
theorem cm_str (x y : List UInt8) (w : World) : Calls Tryd.prog 46 #[.string (str x), .string (str y)] w fun e w' => e = .returned (.int .i64 (cmpS x y)) ∧ w = w' := by
  have HC := Lib.hid (show cmpS x y = if Host.lb x y then -1 else if Host.lb y x then 1 else 0 from rfl)
  obtain ⟨b1, h1⟩ : ∃ b, Host.lb x y = b := ⟨_, rfl⟩
  obtain ⟨b2, h2⟩ : ∃ b, Host.lb y x = b := ⟨_, rfl⟩
  rw [h1, h2] at HC
  have hx : (str x).toList = x := str_toList x
  have hy : (str y).toList = y := str_toList y
  have t1 : Op.bytesLess (str x).toList (str y).toList = b1 := by rw [hx, hy]; exact h1
  have t2 : Op.bytesLess (str y).toList (str x).toList = b2 := by rw [hx, hy]; exact h2
  obtain ⟨sx, hsx⟩ : ∃ sx, str x = sx := ⟨_, rfl⟩
  obtain ⟨sy, hsy⟩ : ∃ sy, str y = sy := ⟨_, rfl⟩
  have HEQ := Lib.hid (show ((str x).toList == (str y).toList) = (!b1 && !b2) by
    rw [hx, hy]
    cases b1 with
    | true =>
      have : x ≠ y := by intro e; subst e; rw [Host.lb_irrefl] at h1; cases h1
      simpa using this
    | false =>
      cases b2 with
      | true =>
        have : x ≠ y := by intro e; subst e; rw [Host.lb_irrefl] at h2; cases h2
        simpa using this
      | false => have := Host.lb_total x y h1 h2; subst this; simp)
  rw [hsx, hsy] at t1 t2 HEQ ⊢
  clear h1 h2 hx hy hsx hsy
  have t3 := HEQ.out
  cases b1
  · cases b2
    · have HR := Lib.hid (show cmpS x y = 0 by rw [HC.out]; rfl)
      go_enter Tryd.func46, Tryd.ntmps46
      go_wp2
      go_ret
      exact ⟨by rw [HR.out]; rfl, rfl⟩
    · have HR := Lib.hid (show cmpS x y = 1 by rw [HC.out]; rfl)
      go_enter Tryd.func46, Tryd.ntmps46
      go_wp2
      go_ret
      exact ⟨by rw [HR.out]; rfl, rfl⟩
  · have HR := Lib.hid (show cmpS x y = -1 by rw [HC.out]; rfl)
    go_enter Tryd.func46, Tryd.ntmps46
    go_wp2
    go_ret
    exact ⟨by rw [HR.out]; rfl, rfl⟩

set_option maxRecDepth 100000 in
theorem cm_int (x y : Int) (w : World) : Calls Tryd.prog 47 #[.int .i64 x, .int .i64 y] w fun e w' => e = .returned (.int .i64 (cmpI x y)) ∧ w = w' := by
  have HC := Lib.hid (show cmpI x y = if x < y then -1 else if y < x then 1 else 0 from rfl)
  by_cases h1 : x < y
  · have HR := Lib.hid (show cmpI x y = -1 by rw [HC.out, if_pos h1])
    go_enter Tryd.func47, Tryd.ntmps47
    go_wp2
    go_ret
    exact ⟨by rw [HR.out]; rfl, rfl⟩
  · by_cases h2 : y < x
    · have HR := Lib.hid (show cmpI x y = 1 by rw [HC.out, if_neg h1, if_pos h2])
      go_enter Tryd.func47, Tryd.ntmps47
      go_wp2
      go_ret
      exact ⟨by rw [HR.out]; rfl, rfl⟩
    · have HR := Lib.hid (show cmpI x y = 0 by rw [HC.out, if_neg h1, if_neg h2])
      go_enter Tryd.func47, Tryd.ntmps47
      go_wp2
      go_ret
      exact ⟨by rw [HR.out]; rfl, rfl⟩

namespace Host
theorem lastdot (a : List UInt8) : ∃ (i : Int) (ia : Nat) (x : List UInt8), Lib.lastIndexByte (str a) 46 = i ∧ i + 1 = (ia : Int) ∧ ia ≤ a.length ∧ a.drop ia = x ∧ (∀ c ∈ x, c ≠ 46) ∧
    ((i = -1 ∧ a = x) ∨ ∃ n : Nat, i = (n : Int) ∧ n < a.length ∧ a = a.take n ++ 46 :: x) := by
  have hs := Lib.lastIndexByte_spec (str a) 46
  have hz : (str a).size = a.length := strSize a
  have hne : ∀ j (h : j < a.length), (((str a).data[j]!).toNat : Int) ≠ 46 → a[j] ≠ 46 := by
    intro j h h1 e
    rw [str_at a j h, e] at h1; exact h1 rfl
  rcases hs with ⟨h1, h2⟩ | ⟨k, h1, h2, h3, h4⟩
  · refine ⟨-1, 0, a, h1, rfl, Nat.zero_le _, rfl, ?_, .inl ⟨rfl, rfl⟩⟩
    intro c hc
    obtain ⟨j, hj, rfl⟩ := List.mem_iff_getElem.1 hc
    exact hne j hj (h2 j (by rw [hz]; exact hj))
  · rw [hz] at h1
    have e46 : a[k] = 46 := by
      rw [str_at a k h1] at h3; apply UInt8.toNat_inj.1; exact Int.ofNat.inj h3
    refine ⟨k, k + 1, a.drop (k + 1), h2, by omega, by omega, rfl, ?_, .inr ⟨k, rfl, h1, ?_⟩⟩
    · intro c hc
      obtain ⟨j, hj, rfl⟩ := List.mem_iff_getElem.1 hc
      rw [List.length_drop] at hj
      rw [List.getElem_drop]
      exact hne _ (by omega) (h4 _ (by omega) (by rw [hz]; omega))
    · conv => lhs; rw [← List.take_append_drop k a]
      rw [List.drop_eq_getElem_cons h1, e46]
theorem cmp_ne {a b x y : List UInt8} (hx : ∀ c ∈ x, c ≠ 46) (hy : ∀ c ∈ y, c ≠ 46) (ha : a = x ∨ ∃ a', a = a' ++ 46 :: x) (hb : b = y ∨ ∃ b', b = b' ++ 46 :: y) (h : cmpS x y ≠ 0) : cmp a b = cmpS x y := by
  unfold cmpS at h ⊢
  rcases ha with rfl | ⟨a', rfl⟩
  · rcases hb with rfl | ⟨b', rfl⟩
    · rw [cmp_none hx hy]
    · rw [cmp_left hx hy]
      by_cases h1 : lb a y = true
      · rw [if_pos h1, if_pos h1]
      · rw [if_neg h1, if_neg h1] at *
        by_cases h2 : lb y a = true
        · rw [if_pos h2, if_pos h2]
        · rw [if_neg h2] at h; exact absurd rfl h
  · rcases hb with rfl | ⟨b', rfl⟩
    · rw [cmp_right hx hy]
      by_cases h1 : lb x b = true
      · rw [if_pos h1, if_pos h1]
      · rw [if_neg h1, if_neg h1] at *
        by_cases h2 : lb b x = true
        · rw [if_pos h2, if_pos h2]
        · rw [if_neg h2] at h; exact absurd rfl h
    · rw [cmp_both hx hy]
      by_cases h1 : lb x y = true
      · rw [if_pos h1, if_pos h1]
      · rw [if_neg h1, if_neg h1] at *
        by_cases h2 : lb y x = true
        · rw [if_pos h2, if_pos h2]
        · rw [if_neg h2] at h; exact absurd rfl h
theorem cmpS_zero {x y : List UInt8} (h : cmpS x y = 0) : lb x y = false ∧ lb y x = false := by
  unfold cmpS at h
  cases h1 : lb x y with
  | true => rw [h1, if_pos rfl] at h; cases h
  | false =>
    cases h2 : lb y x with
    | true => rw [h1, h2, if_neg (by decide), if_pos rfl] at h; cases h
    | false => exact ⟨rfl, rfl⟩
theorem cmp_z {x y : List UInt8} (hx : ∀ c ∈ x, c ≠ 46) (hy : ∀ c ∈ y, c ≠ 46) (h : cmpS x y = 0) : cmp x y = 0 ∧ (∀ b', cmp x (b' ++ 46 :: y) = -1) ∧ (∀ a', cmp (a' ++ 46 :: x) y = 1) ∧ ∀ a' b', cmp (a' ++ 46 :: x) (b' ++ 46 :: y) = cmp a' b' := by
  obtain ⟨h1, h2⟩ := cmpS_zero h
  refine ⟨?_, fun b' => ?_, fun a' => ?_, fun a' b' => ?_⟩
  · rw [cmp_none hx hy, h1, h2]; rfl
  · rw [cmp_left hx hy, h1, h2]; rfl
  · rw [cmp_right hx hy, h1, h2]; rfl
  · rw [cmp_both hx hy, h1, h2]; rfl
end Host

/-- Where Compare's loop stands. -/
def CmRel (a0 b0 : List UInt8) (w : World) (sa sb : Value) (wr : World) : Prop := ∃ a b : List UInt8, a.length ≤ 1000000 ∧ b.length ≤ 1000000 ∧ sa = .string (str a) ∧ sb = .string (str b) ∧ Hid (Host.cmp a0 b0 = Host.cmp a b) ∧ Below w.heap.size w wr

def slen (v : Value) : Nat := match v with
  | .string s => s.size
  | _ => 0
theorem slen_str (l : List UInt8) : slen (.string (str l)) = l.length := strSize l

set_option maxRecDepth 100000 in
set_option maxHeartbeats 8000000 in
theorem pn_compare (a0 b0 : List UInt8) (ha0 : a0.length ≤ 1000000) (hb0 : b0.length ≤ 1000000) (w : World) :
    Calls Tryd.prog 20 #[.string (str a0), .string (str b0)] w fun e w' => e = .returned (.int .i64 (Host.cmp a0 b0)) ∧ Below w.heap.size w w' := by
  have HST : CmRel a0 b0 w (.string (str a0)) (.string (str b0)) w := ⟨a0, b0, ha0, hb0, rfl, rfl, Lib.hid rfl, Below.refl _ _⟩
  have HST := Lib.hid HST
  obtain ⟨s1, hs1⟩ : ∃ s, str a0 = s := ⟨_, rfl⟩
  obtain ⟨s2, hs2⟩ : ∃ s, str b0 = s := ⟨_, rfl⟩
  rw [hs1, hs2] at HST ⊢
  clear hs1 hs2
  go_enter Tryd.func20, Tryd.ntmps20
  go_wp2_with fail
  go_step3
  go_wp2_with fail
  go_step3
  go_wp2_with fail
  go_loopw [0, 1, 5, 6, 7] (fun sa sb _ _ _ wr => CmRel a0 b0 w sa sb wr) (fun sa _ _ _ _ _ => slen sa)
  case atStart => exact HST.out
  case round =>
    obtain ⟨a, b, ha, hb, rfl, rfl, HC, hB⟩ := hrel
    obtain ⟨i, ia, x, l1, l2, l3, l4, l5, l6⟩ := Host.lastdot a
    obtain ⟨j, jb, y, m1, m2, m3, m4, m5, m6⟩ := Host.lastdot b
    have hli := fun W => sh_lastIndexByte (str a) 46 (by rw [strSize]; omega) W
    have hlj := fun W => sh_lastIndexByte (str b) 46 (by rw [strSize]; omega) W
    rw [l1] at hli
    rw [m1] at hlj
    have hca := strCut a ia a.length
    have hcb := strCut b jb b.length
    rw [List.take_length, l4] at hca
    rw [List.take_length, m4] at hcb
    have hsa := strSize a
    have hsb := strSize b
    have HTA := Lib.hid (fun n => strCut a 0 n)
    have HTB := Lib.hid (fun n => strCut b 0 n)
    have HNE := Lib.hid (Host.cmp_ne (a := a) (b := b) l5 m5 (by rcases l6 with ⟨_, e⟩ | ⟨n, _, _, e⟩; exact .inl e; exact .inr ⟨_, e⟩) (by rcases m6 with ⟨_, e⟩ | ⟨n, _, _, e⟩; exact .inl e; exact .inr ⟨_, e⟩))
    have HZ := Lib.hid (Host.cmp_z l5 m5)
    have HCMP := Lib.hid (fun W => cm_str x y W)
    obtain ⟨cc, hcc⟩ : ∃ cc, cmpS x y = cc := ⟨_, rfl⟩
    rw [hcc] at HNE HZ HCMP
    have hin : (ia : Int) ≤ (a.length : Int) := by omega
    have hjn : (jb : Int) ≤ (b.length : Int) := by omega
    have hi0 : (0 : Int) ≤ (ia : Int) := by omega
    have hj0 : (0 : Int) ≤ (jb : Int) := by omega
    have wia : IntKind.i64.wrap (ia : Int) = (ia : Int) := by rw [IntKind.wrap_i64]; omega
    have wjb : IntKind.i64.wrap (jb : Int) = (jb : Int) := by rw [IntKind.wrap_i64]; omega
    have HL6 := Lib.hid l6
    have HM6 := Lib.hid m6
    have hi1 : -1 ≤ i := by omega
    have hj1 : -1 ≤ j := by omega
    have hi2 : i ≤ 1000000 := by omega
    have hj2 : j ≤ 1000000 := by omega
    obtain ⟨sa, hsae⟩ : ∃ s, str a = s := ⟨_, rfl⟩
    obtain ⟨sb, hsbe⟩ : ∃ s, str b = s := ⟨_, rfl⟩
    obtain ⟨sx, hsxe⟩ : ∃ s, str x = s := ⟨_, rfl⟩
    obtain ⟨sy, hsye⟩ : ∃ s, str y = s := ⟨_, rfl⟩
    rw [hsae] at hli hca hsa HTA ⊢
    rw [hsbe] at hlj hcb hsb HTB ⊢
    rw [hsxe] at hca HCMP
    rw [hsye] at hcb HCMP
    have HSA := Lib.hid hsae
    have HLI := Lib.hid hli
    have HLJ := Lib.hid hlj
    clear l1 m1 l4 m4 l5 m5 l6 m6 hcc hli hlj hsae hsbe hsxe hsye
    by_cases hc0 : cc ≠ 0
    · have HR := Lib.hid (HNE.out hc0)
      have t1 : (cc != 0) = true := by simpa using hc0
      clear hc0
      go_wp2_with fail
      refine (HLI.out _).mono ?_; rintro e W1 ⟨rfl, rfl⟩
      go_wp2_with fail
      refine (HLJ.out _).mono ?_; rintro e W2 ⟨rfl, rfl⟩
      go_wp2_with fail
      go_quiet ((go_at_call 46; exact Calls.quiet_of_same ((HCMP.out _).mono fun _ _ ⟨h1, h2⟩ => ⟨h1, h2.symm⟩)))
      have hB2 := hB.trans ((below_dn _ nq).mono hB.size)
      go_wp2_with fail
      first | go_ret | (rw [Exit.noGoto_ret]; go_ret)
      exact ⟨by rw [HC.out, HR.out]; rfl, hB2⟩
    obtain rfl : cc = 0 := by omega
    obtain ⟨z0, z1, z2, z3⟩ := HZ.out rfl
    have HZZ := Lib.hid (And.intro z0 (And.intro z1 (And.intro z2 z3)))
    clear z0 z1 z2 z3 HNE HZ hc0
    rcases HL6.out with ⟨hi, e1⟩ | ⟨n, hi, n2, e1⟩
    · have HE1 := Lib.hid e1
      have g1 : i < 0 := by omega
      have g2 : min i 0 = -1 := by omega
      clear e1 hi
      rcases HM6.out with ⟨hj, e2⟩ | ⟨m, hj, m2', e2⟩
      · have HE2 := Lib.hid e2
        have g3 : j < 0 := by omega
        have g4 : min j 0 = -1 := by omega
        clear e2 hj
        have HCI := Lib.hid (fun W => cm_int (-1) (-1) W)
        go_wp2_with fail
        refine (HLI.out _).mono ?_; rintro e W1 ⟨rfl, rfl⟩
        go_wp2_with fail
        refine (HLJ.out _).mono ?_; rintro e W2 ⟨rfl, rfl⟩
        go_wp2_with fail
        go_quiet ((go_at_call 46; exact Calls.quiet_of_same ((HCMP.out _).mono fun _ _ ⟨h1, h2⟩ => ⟨h1, h2.symm⟩)))
        have hB2 := hB.trans ((below_dn _ nq).mono hB.size)
        go_wp2_with fail
        refine (HCI.out _).mono ?_; rintro e W3 ⟨rfl, rfl⟩
        go_wp2_with fail
        first | go_ret | (rw [Exit.noGoto_ret]; go_ret)
        exact ⟨by rw [HC.out, HE1.out, HE2.out, HZZ.out.1]; rfl, hB2⟩
      · have HE2 := Lib.hid e2
        have g3 : ¬ j < 0 := by omega
        have g4 : min j 0 = 0 := by omega
        clear e2 hj
        have HCI := Lib.hid (fun W => cm_int (-1) 0 W)
        go_wp2_with fail
        refine (HLI.out _).mono ?_; rintro e W1 ⟨rfl, rfl⟩
        go_wp2_with fail
        refine (HLJ.out _).mono ?_; rintro e W2 ⟨rfl, rfl⟩
        go_wp2_with fail
        go_quiet ((go_at_call 46; exact Calls.quiet_of_same ((HCMP.out _).mono fun _ _ ⟨h1, h2⟩ => ⟨h1, h2.symm⟩)))
        have hB2 := hB.trans ((below_dn _ nq).mono hB.size)
        go_wp2_with fail
        refine (HCI.out _).mono ?_; rintro e W3 ⟨rfl, rfl⟩
        go_wp2_with fail
        first | go_ret | (rw [Exit.noGoto_ret]; go_ret)
        exact ⟨by rw [HC.out, HE1.out, HE2.out, HZZ.out.2.1]; rfl, hB2⟩
    · have HE1 := Lib.hid e1
      have g1 : ¬ i < 0 := by omega
      have g2 : min i 0 = 0 := by omega
      rcases HM6.out with ⟨hj, e2⟩ | ⟨m, hj, m2', e2⟩
      · have HE2 := Lib.hid e2
        have g3 : j < 0 := by omega
        have g4 : min j 0 = -1 := by omega
        clear e1 hi e2 hj
        have HCI := Lib.hid (fun W => cm_int 0 (-1) W)
        go_wp2_with fail
        refine (HLI.out _).mono ?_; rintro e W1 ⟨rfl, rfl⟩
        go_wp2_with fail
        refine (HLJ.out _).mono ?_; rintro e W2 ⟨rfl, rfl⟩
        go_wp2_with fail
        go_quiet ((go_at_call 46; exact Calls.quiet_of_same ((HCMP.out _).mono fun _ _ ⟨h1, h2⟩ => ⟨h1, h2.symm⟩)))
        have hB2 := hB.trans ((below_dn _ nq).mono hB.size)
        go_wp2_with fail
        refine (HCI.out _).mono ?_; rintro e W3 ⟨rfl, rfl⟩
        go_wp2_with fail
        first | go_ret | (rw [Exit.noGoto_ret]; go_ret)
        exact ⟨by rw [HC.out, HE1.out, HE2.out, HZZ.out.2.2.1]; rfl, hB2⟩
      · have HE2 := Lib.hid e2
        have g3 : ¬ j < 0 := by omega
        have g5 : 0 ≤ i := by omega
        have g6 : 0 ≤ j := by omega
        have g7 : i.toNat = n := by omega
        have g8 : j.toNat = m := by omega
        have g9 : i ≤ (a.length : Int) := by omega
        have g10 : j ≤ (b.length : Int) := by omega
        have hta := HTA.out n
        have htb := HTB.out m
        rw [List.drop_zero] at hta htb
        obtain ⟨sn, hsn⟩ : ∃ s, str (a.take n) = s := ⟨_, rfl⟩
        obtain ⟨sm, hsm⟩ : ∃ s, str (b.take m) = s := ⟨_, rfl⟩
        rw [hsn] at hta
        rw [hsm] at htb
        have HSN := Lib.hid (And.intro hsn hsm)
        clear hsn hsm e1 hi e2 hj g2
        go_wp2_with fail
        refine (HLI.out _).mono ?_; rintro e W1 ⟨rfl, rfl⟩
        go_wp2_with fail
        refine (HLJ.out _).mono ?_; rintro e W2 ⟨rfl, rfl⟩
        go_wp2_with fail
        go_quiet ((go_at_call 46; exact Calls.quiet_of_same ((HCMP.out _).mono fun _ _ ⟨h1, h2⟩ => ⟨h1, h2.symm⟩)))
        have hB2 := hB.trans ((below_dn _ nq).mono hB.size)
        go_wp2_with fail
        go_quiet (fail)
        go_wp2_with fail
        go_roundw
        case rel => exact ⟨a.take n, b.take m, by rw [List.length_take]; omega, by rw [List.length_take]; omega, by rw [HSN.out.1], by rw [HSN.out.2], Lib.hid (by rw [HC.out, HE1.out, HE2.out, HZZ.out.2.2.2, ← HE1.out, ← HE2.out]), by first | exact hB2.trans ((below_dn _ _).mono hB2.size) | exact hB.trans ((below_dn _ _).mono hB.size)⟩
        case measure => rw [← HSN.out.1, ← HSA.out, slen_str, slen_str, List.length_take]; omega

end Go.Proofs.YtcmeajaakdaeeaaDoor
