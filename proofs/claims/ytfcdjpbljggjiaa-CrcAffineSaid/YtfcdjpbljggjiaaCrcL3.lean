/-
  The walk of the statement CrcAffine.
-/
import Derived.Test.YtfcdjpbljggjiaaCrcL1
import Derived.OwnWalk
import Derived.Deep.RegionHeld3
namespace Go.Proofs.Ytfcdjpbljggjiaa
open Go.RowKit

theorem run_min4 (ts : Array TypeId) (t : TypeId) (k : IntKind) (x y z u m : Int) (hm : m ≤ x ∧ m ≤ y ∧ m ≤ z ∧ m ≤ u ∧ (m = x ∨ m = y ∨ m = z ∨ m = u)) (w : World) :
    (Builtin.min_ ts t #[.int k x, .int k y, .int k z, .int k u]).run Try.prog w = .ok (.int k m) w := by
  simp only [Builtin.min_, List.foldlM_cons, List.foldlM_nil, Builtin.min2, pure_bind]
  simp only [Sem.run_pure]
  congr 2
  split <;> split <;> split <;> omega

/-- The first k bytes are the XOR of the three sequences, the others 0. -/
def XL (la lb lc : List UInt8) (N k : Nat) : List UInt8 := (List.range N).map fun i => if i < k then Crc.xor3 (la[i]?.getD 0) (lb[i]?.getD 0) (lc[i]?.getD 0) else 0
theorem XL_length (la lb lc : List UInt8) (N k : Nat) : (XL la lb lc N k).length = N := by simp [XL]
theorem XL_set (la lb lc : List UInt8) (N k : Nat) : (XL la lb lc N k).set k (Crc.xor3 (la[k]?.getD 0) (lb[k]?.getD 0) (lc[k]?.getD 0)) = XL la lb lc N (k + 1) := by
  apply List.ext_getElem
  · simp [XL]
  · intro i h1 h2
    rw [List.getElem_set]
    simp only [XL, List.getElem_map, List.getElem_range]
    by_cases e : k = i
    · subst e; simp
    · simp only [e, if_false]
      by_cases h : i < k
      · simp [h, show i < k + 1 by omega]
      · simp [h, show ¬ i < k + 1 by omega]
theorem XL_full (la lb lc : List UInt8) (N : Nat) : XL la lb lc N N = (List.range N).map fun i => Crc.xor3 (la[i]?.getD 0) (lb[i]?.getD 0) (lc[i]?.getD 0) := by
  unfold XL
  apply List.map_congr_left
  intro i hi
  rw [if_pos (List.mem_range.1 hi)]
theorem take_range (l : List UInt8) (N : Nat) (h : N ≤ l.length) : l.take N = (List.range N).map fun i => l[i]?.getD 0 := by
  apply List.ext_getElem
  · simp; omega
  · intro i h1 h2
    simp at h1
    simp [List.getElem?_eq_getElem (show i < l.length by omega)]

theorem xor3_bits (x y z : UInt8) : Value.int .u8 (bits BinOp.xor IntKind.u8 (bits BinOp.xor IntKind.u8 (x.toNat : Int) (y.toNat : Int)) (z.toNat : Int)) = bv (Crc.xor3 x y z) := by
  rw [u8_xor_nat _ _ x.toNat_lt y.toNat_lt, u8_xor_nat _ _ (Nat.xor_lt_two_pow (n := 8) x.toNat_lt y.toNat_lt) z.toNat_lt, bv, Crc.xor3_toNat]

set_option maxRecDepth 100000 in
theorem affine_law (a : Option Addr) (n ca : Nat) (la : List UInt8) (b : Option Addr) (m cb : Nat) (lb : List UInt8) (c : Option Addr) (k cc : Nat) (lc : List UInt8) (w : World) (ha : SlB w a n ca la) (hb : SlB w b m cb lb) (hc : SlB w c k cc lc) :
    Calls Try.prog 8 #[.slice a n ca, .slice b m cb, .slice c k cc] w fun e w' => e = .returned (.bool true) ∧ Below w.heap.size w w' := by
  obtain rfl := ha.len
  obtain rfl := hb.len
  obtain rfl := hc.len
  have hla := ha.le
  have hlb := hb.le
  have hlc := hc.le
  obtain ⟨N, hN⟩ : ∃ N : Nat, N = min (min la.length lb.length) (min lc.length 2000) := ⟨_, rfl⟩
  have n1 : N ≤ la.length := by omega
  have n2 : N ≤ lb.length := by omega
  have n3 : N ≤ lc.length := by omega
  have n4 : N ≤ 2000 := by omega
  have hmin := run_min4 #[3, 3, 3, 3] 3 .i64 la.length lb.length lc.length 2000 N (by omega)
  clear hN
  obtain ⟨i0, hi, hz0, hz1, hz2⟩ := info_parts info5
  go_enter Try.func8, Try.ntmps8
  go_wp2_with (refine wpList_make_full _ rfl _ _ 22 rfl w.heap.size 5 i0 (.int .u8 0) 1 Try.underlying22 hi hz0 hz1 .i64 .i64 N N N rfl rfl rfl rfl (by rw [hz2]; omega) (by unfold maxLen; omega) (Nat.le_refl _) ?_; intro w1 hown hg)
  rw [Nat.mul_one, show madeCells (Value.int .u8 0).cells N = madeCells #[.int .u8 0] N from rfl, toList_madeCells_one] at hown
  have hown : OwnB w.heap.size w1 (.slice (some ⟨w.heap.size, 0, none⟩) N N) (XL la lb lc N 0) := by
    unfold OwnB
    rw [XL_length]
    have : (XL la lb lc N 0).map bv = List.replicate N (.int .u8 0) := by
      rw [List.eq_replicate_iff]
      refine ⟨by simp [XL], fun x hx => ?_⟩
      simp [XL, bv] at hx
      exact hx.2.symm
    rw [this]; exact hown
  have hb1 : Below w.heap.size w w1 := (Below.refl _ _).grown hg (Nat.le_refl _) (fun k hk => by cases hk)
  clear hmin hg
  go_loopw [9] (fun i wr => ∃ k : Nat, k ≤ N ∧ i = .int .i64 k ∧ OwnB w.heap.size wr (.slice (some ⟨w.heap.size, 0, none⟩) N N) (XL la lb lc N k) ∧ Below w.heap.size w wr) (fun i _ => N - (intOf i).toNat)
  case atStart => exact ⟨0, Nat.zero_le _, rfl, hown, hb1⟩
  case round =>
    obtain ⟨k, hk, rfl, hO, hB⟩ := hrel
    by_cases hlt : k < N
    · obtain ⟨ga, oa, rfl, _, _, hca⟩ := (ha.ext hB).at (show k < la.length by omega)
      obtain ⟨gb, ob, rfl, _, _, hcb⟩ := (hb.ext hB).at (show k < lb.length by omega)
      obtain ⟨gc, oc, rfl, _, _, hcc⟩ := (hc.ext hB).at (show k < lc.length by omega)
      have hx := hO.row k (by rw [XL_length]; exact hlt)
      have hfz := hO.free k
      have HS := Lib.hid (XL_set la lb lc N k)
      generalize la[k]?.getD 0 = xa at *
      generalize lb[k]?.getD 0 = xb at *
      generalize lc[k]?.getD 0 = xc at *
      have i1 : (k : Int) < (la.length : Int) := by omega
      have i2 : (k : Int) < (lb.length : Int) := by omega
      have i3 : (k : Int) < (lc.length : Int) := by omega
      have i4 : (0 : Int) ≤ (k : Int) := by omega
      have i5 : (k : Int) < (N : Int) := by omega
      go_wp2
      go_region
      go_wp2
      go_roundw
      case rel =>
        refine ⟨k + 1, by omega, by go_num, ?_, (hB.setCell (Nat.le_refl _) _).drew⟩
        rw [xor3_bits]
        rw [← HS.out]
        exact hO.set k _
      case measure => simp [intOf]; omega
    · have hXL := XL_full la lb lc N
      rw [show k = N by omega] at hO
      obtain ⟨ax, cx, ex, hsx, -⟩ := hO.sl
      rw [XL_length] at ex hsx
      injection ex with ex1 ex2 ex3
      subst ex1; subst ex3; clear ex2
      rw [hXL] at hsx
      have hlaw : Crc.update 0 ((List.range N).map fun i => Crc.xor3 (la[i]?.getD 0) (lb[i]?.getD 0) (lc[i]?.getD 0)) = Crc.update 0 (la.take N) ^^^ Crc.update 0 (lb.take N) ^^^ Crc.update 0 (lc.take N) := by
        rw [take_range la N n1, take_range lb N n2, take_range lc N n3]; exact Crc.update_xor3 N _ _ _
      have sa := (ha.ext hB).take n1
      have sb := (hb.ext hB).take n2
      have sc := (hc.ext hB).take n3
      have ua := Crc.update_lt 0 (la.take N)
      have ub := Crc.update_lt 0 (lb.take N)
      have uc := Crc.update_lt 0 (lc.take N)
      clear hXL hO ha hb hc
      generalize (List.range N).map (fun i => Crc.xor3 (la[i]?.getD 0) (lb[i]?.getD 0) (lc[i]?.getD 0)) = X at *
      generalize la.take N = ta at *
      generalize lb.take N = tb at *
      generalize lc.take N = tc at *
      have hx1 := u32_xor_nat _ _ ua ub
      have hx2 := u32_xor_nat _ _ (Crc.xor_lt ua ub) uc
      have hx3 : bits BinOp.xor IntKind.u32 (bits BinOp.xor IntKind.u32 ((Crc.update 0 ta : Nat) : Int) ((Crc.update 0 tb : Nat) : Int)) ((Crc.update 0 tc : Nat) : Int) = ((Crc.update 0 X : Nat) : Int) := by rw [hx1, hx2, hlaw]
      have hlast : (((Crc.update 0 X : Nat) : Int) == bits BinOp.xor IntKind.u32 (bits BinOp.xor IntKind.u32 ((Crc.update 0 ta : Nat) : Int) ((Crc.update 0 tb : Nat) : Int)) ((Crc.update 0 tc : Nat) : Int)) = true := by rw [hx3]; simp
      clear hx1 hx2 hx3 hlaw
      have i1 : (0 : Int) ≤ (N : Int) := by omega
      have i2 : (N : Int) ≤ (ca : Int) := by have := sa.2.1; omega
      have i3 : (N : Int) ≤ (cb : Int) := by have := sb.2.1; omega
      have i4 : (N : Int) ≤ (cc : Int) := by have := sc.2.1; omega
      go_wp2
      go_region_held3 (fun w' => Ext wr w') (first | assumption | exact Ext.drew (Ext.refl _) | exact Ext.step (by assumption) (by assumption)) (first | (go_at_call 11; ((with_reducible refine (crc_sum _ _ _ X _ (hsx.ext' (by assumption))).mono ?_)); rintro e w9 ⟨rfl, rfl⟩) | (go_at_call 11; ((with_reducible refine (crc_sum _ _ _ ta _ (sa.ext' (by assumption))).mono ?_)); rintro e w9 ⟨rfl, rfl⟩) | (go_at_call 11; ((with_reducible refine (crc_sum _ _ _ tb _ (sb.ext' (by assumption))).mono ?_)); rintro e w9 ⟨rfl, rfl⟩) | (go_at_call 11; ((with_reducible refine (crc_sum _ _ _ tc _ (sc.ext' (by assumption))).mono ?_)); rintro e w9 ⟨rfl, rfl⟩) | (go_at_call 9; refine (awake_any _).mono ?_; rintro e w9 ⟨rfl, hd9⟩))
      have hH : Ext wr w9 := by assumption
      go_wp2
      go_ret
      exact ⟨rfl, hB.trans (Below.mono hH hB.size)⟩

end Go.Proofs.Ytfcdjpbljggjiaa
