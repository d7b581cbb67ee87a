/-
  The walk of the statement FrameDetectsBursts.
-/
import Derived.Test.YtolagcnndepjbaaFrameL
import Derived.RegionTactic
namespace Go.Proofs.Ytolagcnndepjbaa
open Go.RowKit

theorem xor_bit (q : UInt8) (r : Nat) (hr : r < 8) : Value.int .u8 (bits BinOp.xor IntKind.u8 (q.toNat : Int) (2 ^ r % 256)) = bv (UInt8.ofNat (q.toNat ^^^ 2 ^ r)) := by
  have h2 : (2 : Nat) ^ r < 256 := Nat.lt_of_lt_of_eq (Nat.pow_lt_pow_right (a := 2) (by decide) hr) (by decide)
  have h1 : (2 : Int) ^ r % 256 = ((2 ^ r : Nat) : Int) := by
    have e : ((2 ^ r : Nat) : Int) = (2 : Int) ^ r := by simp
    rw [← e]; generalize 2 ^ r = x at *; omega
  rw [h1, u8_xor_nat _ _ q.toNat_lt h2, bv, Crc.toNat_ofNat8 (Nat.xor_lt_two_pow (n := 8) q.toNat_lt h2)]

/-- Has one of the first j bits of the pattern, from s on, turned a bit of N? -/
def chg (N s p j : Nat) : Bool := decide (p % 2 ^ min j (N - s) ≠ 0)
theorem chg_zero (N s p : Nat) : chg N s p 0 = false := by simp [chg, Nat.mod_one]
theorem chg_yes (N s p j : Nat) (hb : p / 2 ^ j % 2 = 1) (h : s + j < N) : chg N s p (j + 1) = true := by
  unfold chg
  rw [show min (j + 1) (N - s) = j + 1 by omega]
  apply decide_eq_true
  intro h0
  obtain ⟨q, rfl⟩ := Nat.dvd_of_mod_eq_zero h0
  rw [Nat.pow_succ, Nat.mul_assoc, Nat.mul_div_cancel_left _ (Nat.pow_pos (by decide))] at hb
  omega
theorem chg_out (N s p j : Nat) (h : ¬ s + j < N) : chg N s p (j + 1) = chg N s p j := by
  unfold chg
  rw [show min (j + 1) (N - s) = min j (N - s) by omega]
theorem chg_no (N s p j : Nat) (hb : ¬ p / 2 ^ j % 2 = 1) : chg N s p (j + 1) = chg N s p j := by
  by_cases h : s + j < N
  · unfold chg
    rw [show min (j + 1) (N - s) = j + 1 by omega, show min j (N - s) = j by omega, Crc.mod_succ_xor, if_neg hb]
  · exact chg_out N s p j h

set_option maxHeartbeats 8000000 in
set_option maxRecDepth 100000 in
theorem fbursts_law (a : Option Addr) (n c : Nat) (l : List UInt8) (at_ : Int) (p : Nat) (w : World) (h : SlB w a n c l) (_ha1 : -9223372036854775808 ≤ at_) (_ha2 : at_ ≤ 9223372036854775807) (hp : p < 4294967296) :
    Calls Try.prog 12 #[.slice a n c, .int .i64 at_, .int .u32 p] w fun e w' => e = .returned (.bool true) ∧ Below w.heap.size w w' := by
  have hle := h.le
  by_cases hn : 1024 < n
  · have ht : (1024 : Int) < (n : Int) := by omega
    go_enter Try.func12, Try.ntmps12
    go_wp2_with fail
    refine (fr_awake _).mono ?_; rintro e w1 ⟨rfl, hb1⟩
    go_wp2_with fail
    go_ret
    exact ⟨rfl, hb1⟩
  have ht : ¬ (1024 : Int) < (n : Int) := by omega
  by_cases hp0 : p = 0
  · subst hp0
    go_enter Try.func12, Try.ntmps12
    go_wp2_with fail
    refine (fr_awake _).mono ?_; rintro e w1 ⟨rfl, hb1⟩
    go_wp2_with fail
    go_ret
    exact ⟨rfl, hb1⟩
  have ht2 : ((p : Int) == 0) = false := by simp; omega
  have hel := Frame.enc_length 7 p l
  rw [h.len] at hel
  have hdamage := fun κ h1 h2 h3 => Frame.dec_damaged 7 p κ p l (by rw [h.len]; omega) h1 h2 h3
  have hnone := fun κ h3 => Frame.enc_flip_none 7 p κ p l h3
  have hdec := Frame.dec_enc 7 p l [] (by rw [h.len]; omega) (by decide) hp
  rw [List.append_nil] at hdec
  rw [h.len] at hdamage hnone hdec
  have henc := fr_encode_ok 7 p (by decide) hp a n c l w h (by omega)
  generalize Frame.enc 7 p l = E at *
  have HEL := Lib.hid hel; have HDM := Lib.hid hdamage; have HNO := Lib.hid hnone; have HDE := Lib.hid hdec; have HENC := Lib.hid henc
  clear hel hdamage hnone hdec henc hp0
  go_enter Try.func12, Try.ntmps12
  go_wp2_with fail
  refine (HENC.out).mono ?_; rintro e w1 ⟨v1, rfl, hO, hb1⟩
  obtain ⟨a1, c1, rfl, -, -⟩ := id hO.sl
  rw [HEL.out]
  rw [HEL.out] at hO
  go_wp2_with fail
  refine (keep_mod at_ (8 * (14 + (n : Int)) - 16) _ (by omega) (by omega)).mono ?_; rintro e w2 ⟨rfl, rfl⟩
  have hm0 := Int.emod_nonneg at_ (show (8 * (14 + (n : Int)) - 16) ≠ 0 by omega)
  have hm1 := Int.emod_lt_of_pos at_ (show 0 < (8 * (14 + (n : Int)) - 16) by omega)
  obtain ⟨x, hx⟩ := Int.eq_ofNat_of_zero_le hm0
  rw [hx] at hm0 hm1 ⊢
  obtain ⟨κ, hκ⟩ : ∃ κ : Nat, κ = 16 + x := ⟨_, rfl⟩
  have hκ1 : (16 : Int) + (x : Int) = (κ : Int) := by omega
  have hκ2 : 16 ≤ κ := by omega
  have hκ3 : κ < 8 * (14 + n) := by omega
  have HK1 := Lib.hid hκ1
  clear hx hκ1 hm0 hm1
  go_wp2_with fail
  rw [HK1.out]
  clear hκ
  have hC0 := (chg_zero (8 * (14 + n)) κ p)
  have HC0 := Lib.hid hC0
  clear hC0
  go_loopw [10, 11] (fun u i wr => ∃ k : Nat, k ≤ 32 ∧ i = .int .i64 k ∧ u = .bool (chg (8 * (14 + n)) κ p k) ∧ OwnB w.heap.size wr (.slice a1 (14 + n) c1) (Crc.flipN E κ p k) ∧ Below w.heap.size w wr) (fun _ i _ => 32 - (intOf i).toNat)
  case atStart => exact ⟨0, Nat.zero_le _, rfl, by rw [HC0.out], hO, hb1⟩
  case round =>
    obtain ⟨k, hk, rfl, rfl, hOk, hB⟩ := hrel
    by_cases hlt : k < 32
    · have hcast : ((p / 2 ^ k : Nat) : Int) = (p : Int) / 2 ^ k := by simp
      have hnn : (0 : Int) ≤ (p : Int) / 2 ^ k := by rw [← hcast]; exact Int.natCast_nonneg _
      by_cases hbit : p / 2 ^ k % 2 = 1
      · have ht3 : ((p : Int) / 2 ^ k % 2 == 1) = true := by rw [← hcast]; generalize p / 2 ^ k = x at *; simp; omega
        clear hcast
        by_cases hin : (κ + k) / 8 < 14 + n
        · have hd : decide (((κ : Int) + k) / 8 < 14 + (n : Int)) = true := by simp; omega
          obtain ⟨a2, c2, e1, hsl, hfz⟩ := hOk.sl
          have hlen := Crc.flipN_length E κ p k
          rw [HEL.out] at hlen
          rw [hlen] at e1 hsl
          injection e1 with e1 e2 e3; subst e1; subst e3; clear e2
          obtain ⟨g, o, rfl, hgb, hkl, hcell⟩ := hsl.at hin
          obtain ⟨ho, hbg, hfr⟩ := hfz _ rfl
          injection ho with _ ho; subst ho
          rw [Nat.zero_add] at hcell
          have hfr1 := hfr ((κ + k) / 8)
          have hmod : 0 ≤ ((κ : Int) + k) % 8 := by omega
          have hmod2 : ((κ : Int) + k) % 8 < 8 := by omega
          have hi0 : 0 ≤ ((κ : Int) + k) / 8 := by omega
          have hi1 : ((κ : Int) + k) / 8 < ((14 + n : Nat) : Int) := by omega
          obtain ⟨q, hq⟩ : ∃ q, (Crc.flipN E κ p k)[(κ + k) / 8]?.getD 0 = q := ⟨_, rfl⟩
          rw [hq] at hcell
          have hq8 : q.toNat < 256 := q.toNat_lt
          have HQ := Lib.hid hq
          have HS := Lib.hid (show Crc.flipN E κ p (k + 1) = Crc.flip1 (Crc.flipN E κ p k) (κ + k) by rw [Crc.flipN, if_pos ⟨hbit, by rw [HEL.out]; exact hin⟩])
          have HCH := Lib.hid (chg_yes (8 * (14 + n)) κ p k hbit (by omega))
          clear hfr hfz hsl hlen hbit hkl hq
          go_wp2
          go_region
          go_wp2
          go_roundw
          case rel =>
            refine ⟨k + 1, by omega, by go_num, by rw [HCH.out], ?_, (hB.setCell hbg _).drew⟩
            rw [xor_bit q _ (by omega), HS.out, Crc.flip1, HQ.out]
            exact hOk.set _ _
          case measure => simp [intOf]; omega
        · have hd : decide (((κ : Int) + k) / 8 < 14 + (n : Int)) = false := by simp; omega
          have hlen := Crc.flipN_length E κ p k
          rw [HEL.out] at hlen
          have HS := Lib.hid (show Crc.flipN E κ p (k + 1) = Crc.flipN E κ p k by rw [Crc.flipN, if_neg (fun h => hin (by have := h.2; rwa [HEL.out] at this))])
          have HCH := Lib.hid (chg_out (8 * (14 + n)) κ p k (by omega))
          clear hbit hlen
          go_wp2
          go_roundw
          case rel => exact ⟨k + 1, by omega, by go_num, by rw [HCH.out], by rw [HS.out]; exact hOk, hB⟩
          case measure => simp [intOf]; omega
      · have ht3 : ((p : Int) / 2 ^ k % 2 == 1) = false := by rw [← hcast]; generalize p / 2 ^ k = x at *; simp; omega
        have HS := Lib.hid (show Crc.flipN E κ p (k + 1) = Crc.flipN E κ p k by rw [Crc.flipN, if_neg (fun h => hbit h.1)])
        have HCH := Lib.hid (chg_no (8 * (14 + n)) κ p k hbit)
        clear hcast hbit
        go_wp2
        go_roundw
        case rel => exact ⟨k + 1, by omega, by go_num, by rw [HCH.out], by rw [HS.out]; exact hOk, hB⟩
        case measure => simp [intOf]; omega
    · obtain rfl : k = 32 := by omega
      obtain ⟨a2, c2, e1, hsl, -⟩ := hOk.sl
      have hlen := Crc.flipN_length E κ p 32
      rw [HEL.out] at hlen
      rw [hlen] at e1 hsl
      injection e1 with e1 e2 e3; subst e1; subst e3; clear e2
      have hszB := hB.size
      cases hch : chg (8 * (14 + n)) κ p 32 with
      | true =>
        have hd := HDM.out κ hκ2 hκ3 (of_decide_eq_true hch)
        have HD := Lib.hid hd
        clear hch hd hlen
        go_wp2_with fail
        refine (fr_decode_at _ _ _ _ 7 p (by decide) hp _ hsl [] 0 7 HD.out).mono ?_; rintro e w3 ⟨v3, rfl, hO3, hb3⟩
        obtain ⟨a3, c3, rfl, -, -⟩ := id hO3.sl
        have hB3 := hB.trans (Below.mono hb3 hszB)
        go_wp2_with fail
        refine (fr_awake _).mono ?_; rintro e w6 ⟨rfl, hb6⟩
        go_wp2_with fail
        go_ret
        exact ⟨rfl, hB3.trans (Below.mono hb6 hB3.size)⟩
      | false =>
        have hnn := HNO.out κ (by have := of_decide_eq_false hch; simpa using this)
        rw [hnn] at hsl
        clear hch hnn hlen
        go_wp2_with fail
        refine (fr_decode_at _ _ _ _ 7 p (by decide) hp _ hsl l (14 + n) 0 HDE.out).mono ?_; rintro e w3 ⟨v3, rfl, hO3, hb3⟩
        have hB3 := hB.trans (Below.mono hb3 hszB)
        go_wp2_with fail
        refine (fr_awake _).mono ?_; rintro e w6 ⟨rfl, hb6⟩
        go_wp2_with fail
        go_ret
        exact ⟨rfl, hB3.trans (Below.mono hb6 hB3.size)⟩

theorem fbursts_law' (a : Option Addr) (n c : Nat) (l : List UInt8) (at_ p : Int) (w : World) (h : SlB w a n c l) (ha : (Lit.int .i64 at_).wf = true) (hp : (Lit.int .u32 p).wf = true) :
    Calls Try.prog 12 #[.slice a n c, .int .i64 at_, .int .u32 p] w fun e w' => e = .returned (.bool true) ∧ Below w.heap.size w w' := by
  obtain ⟨x, rfl, hx⟩ := u32_nat hp
  simp [Lit.wf, IntKind.min, IntKind.max, IntKind.signed, IntKind.bits] at ha
  exact fbursts_law a n c l at_ x w h (by omega) (by omega) hx

end Go.Proofs.Ytolagcnndepjbaa
