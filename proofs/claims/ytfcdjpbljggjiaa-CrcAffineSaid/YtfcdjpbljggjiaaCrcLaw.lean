/-
  The statements' own helpers on checksums: awake, flip; the reference's fixed numbers.
-/
import Derived.Test.YtfcdjpbljggjiaaCrcRef
import Derived.Test.YtfcdjpbljggjiaaKeep
import Derived.Test.YtfcdjpbljggjiaaCrcBurst
import Derived.Deep.QuietTactic
import Derived.BigQuiet
import Derived.RegionTactic
namespace Go.Proofs.Ytfcdjpbljggjiaa
open Go.RowKit

theorem awake_sum : Crc.update 0 [49, 50, 51, 52, 53, 54, 55, 56, 57] = 3421780262 := by decide +kernel
theorem awake_comb : Crc.combine (Crc.update 0 [49, 50, 51, 52]) (Crc.update 0 [53, 54, 55, 56, 57]) 5 = 3421780262 := by decide +kernel

theorem awake_any (w : World) : Calls Try.prog 9 #[] w fun e w' => e = .returned (.bool true) ∧ Below w.heap.size w w' := by
  have h1 := Lib.hid awake_sum
  have h2 := Lib.hid awake_comb
  have l4 := Crc.update_lt 0 [49, 50, 51, 52]
  have l5 := Crc.update_lt 0 [53, 54, 55, 56, 57]
  generalize hx9 : Crc.update 0 [49, 50, 51, 52, 53, 54, 55, 56, 57] = x9 at *
  generalize hx4 : Crc.update 0 [49, 50, 51, 52] = x4 at *
  generalize hx5 : Crc.update 0 [53, 54, 55, 56, 57] = x5 at *
  have H9 := Lib.hid hx9; have H4 := Lib.hid hx4; have H5 := Lib.hid hx5; clear hx9 hx4 hx5
  go_enter Try.func9, Try.ntmps9
  go_wp2_with fail
  refine (crc_sum _ _ _ [49, 50, 51, 52, 53, 54, 55, 56, 57] _ (SlB.built _ _ _ _ _ _ _ rfl rfl (by decide) (by simp))).mono ?_; rintro e w' ⟨rfl, rfl⟩
  rw [H9.out]
  have t9 : ((x9 : Int) == 3421780262) = true := by rw [h1.out]; rfl
  go_wp2_with fail
  refine (crc_sum _ _ _ [49, 50, 51, 52] _ (SlB.built _ _ _ _ _ _ _ rfl rfl (by decide) (by simp))).mono ?_; rintro e w' ⟨rfl, rfl⟩
  rw [H4.out]
  go_wp2_with fail
  refine (crc_sum _ _ _ [53, 54, 55, 56, 57] _ (SlB.built _ _ _ _ _ _ _ rfl rfl (by decide) (by simp))).mono ?_; rintro e w' ⟨rfl, rfl⟩
  rw [H5.out]
  go_wp2_with fail
  refine (crc_combine x4 x5 5 l4 l5 (by decide) _).mono ?_; rintro e w' ⟨rfl, hb⟩
  have hc : Crc.combine x4 x5 (Int.toNat 5) = 3421780262 := h2.out
  rw [hc]
  go_wp2
  go_ret
  exact ⟨rfl, ((((Below.refl _ _).alloc (Nat.le_refl _) _).alloc (by simp) _).alloc (by simp; omega) _).trans (hb.mono (by simp; omega))⟩

theorem ref_fixed (v : Nat) (hv : v < 4294967296) (w : World) : Calls Try.prog 20 #[.int .u32 v] w fun e w' =>
    ∃ a, e = .returned (.slice (some a) 4 4) ∧ SlB w' (some a) 4 4 (Crc.fix4 v) ∧ Below w.heap.size w w' := by
  have hA : #[Value.int .u8 ((v : Int) % 256), .int .u8 ((v : Int) / 256 % 256), .int .u8 ((v : Int) / 65536 % 256), .int .u8 ((v : Int) / 16777216)] = ((Crc.fix4 v).map bv).toArray := by
    simp only [Crc.fix4, bv, List.map_cons, List.map_nil]
    rw [Crc.toNat_ofNat8 (by omega), Crc.toNat_ofNat8 (by omega), Crc.toNat_ofNat8 (by omega), Crc.toNat_ofNat8 (by omega)]; simp
  have HA := Lib.hid hA; clear hA
  go_enter Try.func20, Try.ntmps20
  go_wp2
  go_ret
  exact ⟨_, rfl, SlB.built _ _ _ _ _ _ _ HA.out rfl (by unfold maxLen; omega) rfl, (Below.refl _ _).alloc (Nat.le_refl _) _⟩

theorem ref_decode_fixed (a : Option Addr) (n c : Nat) (l : List UInt8) (w : World) (h : SlB w a n c l) (hn : 4 ≤ n) : Calls Try.prog 21 #[.slice a n c] w fun e w' =>
    e = .returned (.tuple #[.int .u32 (Crc.unfix4 l : Nat), .int .i64 0]) ∧ ∃ k, w' = w.drewN k := by
  obtain ⟨b, o, rfl, hb, k0, c0⟩ := h.at (show 0 < n by omega)
  obtain ⟨b, o, e1, hb, k1, c1⟩ := h.at (show 1 < n by omega)
  cases e1
  obtain ⟨b, o, e1, hb, k2, c2⟩ := h.at (show 2 < n by omega)
  cases e1
  obtain ⟨b, o, e1, hb, k3, c3⟩ := h.at (show 3 < n by omega)
  cases e1
  rw [Nat.add_zero] at c0
  have hle := h.le
  have b0 : (0 : Int) < (n : Int) := by omega
  have b1 : (1 : Int) < (n : Int) := by omega
  have b2 : (2 : Int) < (n : Int) := by omega
  have b3 : (3 : Int) < (n : Int) := by omega
  have hun := Lib.hid (show Crc.unfix4 l = (l[0]?.getD 0).toNat + (l[1]?.getD 0).toNat * 256 + (l[2]?.getD 0).toNat * 65536 + (l[3]?.getD 0).toNat * 16777216 from rfl)
  generalize l[0]?.getD 0 = x0 at *
  generalize l[1]?.getD 0 = x1 at *
  generalize l[2]?.getD 0 = x2 at *
  generalize l[3]?.getD 0 = x3 at *
  have y0 : x0.toNat < 256 := x0.toNat_lt
  have y1 : x1.toNat < 256 := x1.toNat_lt
  have y2 : x2.toNat < 256 := x2.toNat_lt
  have y3 : x3.toNat < 256 := x3.toNat_lt
  go_enter Try.func21, Try.ntmps21
  go_wp2
  go_quiet (fail)
  go_wp2
  go_ret2
  refine ⟨?_, nq, rfl⟩
  rw [hun.out]; simp only [Int.natCast_add, Int.natCast_mul]; rfl

theorem xor_bit (q : UInt8) (r : Nat) (hr : r < 8) : Value.int .u8 (bits BinOp.xor IntKind.u8 (q.toNat : Int) (2 ^ r % 256)) = bv (UInt8.ofNat (q.toNat ^^^ 2 ^ r)) := by
  have h2 : (2 : Nat) ^ r < 256 := Nat.lt_of_lt_of_eq (Nat.pow_lt_pow_right (a := 2) (by decide) hr) (by decide)
  have h1 : (2 : Int) ^ r % 256 = ((2 ^ r : Nat) : Int) := by
    have e : ((2 ^ r : Nat) : Int) = (2 : Int) ^ r := by simp
    rw [← e]; generalize 2 ^ r = x at *; omega
  rw [h1, u8_xor_nat _ _ q.toNat_lt h2, bv, Crc.toNat_ofNat8 (Nat.xor_lt_two_pow (n := 8) q.toNat_lt h2)]

set_option maxRecDepth 100000 in
theorem flip_any (a : Option Addr) (n c at_ p : Nat) (l : List UInt8) (w : World) (h : SlB w a n c l) (hn : n ≤ 4096) (hat : at_ ≤ 8 * n) :
    Calls Try.prog 18 #[.slice a n c, .int .i64 at_, .int .u32 p] w fun e w' => ∃ v, e = .returned v ∧ OwnB w.heap.size w' v (Crc.flipN l at_ p 32) ∧ Below w.heap.size w w' := by
  obtain rfl := h.len
  go_enter Try.func18, Try.ntmps18
  go_wp2_with fail
  refine (keep_own a l.length c l _ h (by omega)).mono ?_; rintro e w1 ⟨v, rfl, hown, hb⟩
  obtain ⟨a', c', rfl, -, -⟩ := id hown.sl
  go_wp2_with fail
  go_loopw [8] (fun i wr => ∃ k : Nat, k ≤ 32 ∧ i = .int .i64 k ∧ OwnB w.heap.size wr (.slice a' l.length c') (Crc.flipN l at_ p k) ∧ Below w.heap.size w wr) (fun i _ => 32 - (intOf i).toNat)
  case atStart => exact ⟨0, Nat.zero_le _, rfl, hown, hb⟩
  case round =>
    obtain ⟨k, hk, rfl, hO, hB⟩ := hrel
    by_cases hlt : k < 32
    · have hcast : ((p / 2 ^ k : Nat) : Int) = (p : Int) / 2 ^ k := by simp
      have hnn : (0 : Int) ≤ (p : Int) / 2 ^ k := by rw [← hcast]; exact Int.natCast_nonneg _
      by_cases hbit : p / 2 ^ k % 2 = 1
      · have ht : ((p : Int) / 2 ^ k % 2 == 1) = true := by rw [← hcast]; generalize p / 2 ^ k = x at *; simp; omega
        clear hcast
        by_cases hin : (at_ + k) / 8 < l.length
        · have hd : decide (((at_ : Int) + k) / 8 < (l.length : Int)) = true := by simp; omega
          obtain ⟨a1, c1, e1, hsl, hfz⟩ := hO.sl
          have hlen := Crc.flipN_length l at_ p k
          rw [hlen] at e1 hsl
          injection e1 with e1 e2 e3; subst e1; clear e2 e3
          obtain ⟨g, o, rfl, hgb, hkl, hcell⟩ := hsl.at hin
          obtain ⟨ho, hbg, hfr⟩ := hfz _ rfl
          injection ho with _ ho; subst ho
          rw [Nat.zero_add] at hcell
          have hfr1 := hfr ((at_ + k) / 8)
          have hmod : 0 ≤ ((at_ : Int) + k) % 8 := by omega
          have hmod2 : ((at_ : Int) + k) % 8 < 8 := by omega
          have HQ : ∃ q, (Crc.flipN l at_ p k)[(at_ + k) / 8]?.getD 0 = q := ⟨_, rfl⟩
          obtain ⟨q, hq⟩ := HQ
          rw [hq] at hcell
          have hq8 : q.toNat < 256 := q.toNat_lt
          have HQ := Lib.hid hq
          have HS := Lib.hid (show Crc.flipN l at_ p (k + 1) = Crc.flip1 (Crc.flipN l at_ p k) (at_ + k) by rw [Crc.flipN, if_pos ⟨hbit, hin⟩])
          clear hfr hfz hsl hlen hbit hkl hq
          go_wp2
          go_region
          go_wp2
          go_roundw
          case rel =>
            refine ⟨k + 1, by omega, by go_num, ?_, (hB.setCell hbg _).drew⟩
            rw [xor_bit q _ (by omega), HS.out, Crc.flip1, HQ.out]
            exact hO.set _ _
          case measure => simp [intOf]; omega
        · have hd : decide (((at_ : Int) + k) / 8 < (l.length : Int)) = false := by simp; omega
          have HS := Lib.hid (show Crc.flipN l at_ p (k + 1) = Crc.flipN l at_ p k by rw [Crc.flipN, if_neg (fun h => hin h.2)])
          clear hbit
          go_wp2
          go_roundw
          case rel => exact ⟨k + 1, by omega, by go_num, by rw [HS.out]; exact hO, hB⟩
          case measure => simp [intOf]; omega
      · have ht : ((p : Int) / 2 ^ k % 2 == 1) = false := by rw [← hcast]; generalize p / 2 ^ k = x at *; simp; omega
        have HS := Lib.hid (show Crc.flipN l at_ p (k + 1) = Crc.flipN l at_ p k by rw [Crc.flipN, if_neg (fun h => hbit h.1)])
        clear hcast hbit
        go_wp2
        go_roundw
        case rel => exact ⟨k + 1, by omega, by go_num, by rw [HS.out]; exact hO, hB⟩
        case measure => simp [intOf]; omega
    · obtain rfl : k = 32 := by omega
      go_wp2
      go_ret
      exact ⟨_, rfl, hO, hB⟩

end Go.Proofs.Ytfcdjpbljggjiaa
