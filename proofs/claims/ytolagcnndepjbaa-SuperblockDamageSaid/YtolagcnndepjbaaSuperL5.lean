/-
  The walk of the statement SuperblockDamage.
-/
import Derived.Test.YtolagcnndepjbaaSuperL3
import Derived.OwnWalk
import Derived.RegionTactic
import Derived.Deep.QuietTactic
import Derived.BigQuiet
namespace Go.Proofs.Ytolagcnndepjbaa
open Go.RowKit

theorem sb_encode_v (s : Super.S) (hv : Super.valid s = true) (hf : s.fits) (w : World) : Calls Try.prog 14 #[sv s] w fun e w' =>
    ∃ K, e = .returned (.tuple #[.slice (some ⟨K, 0, none⟩) 64 64, .int .i64 0]) ∧ RowIs w' K 58 (Super.enc s) ∧ w.heap.size ≤ K ∧ Below w.heap.size w w' := by
  obtain ⟨gen, act, epoch, len, sum, rfl, h1, h2, h3, h4, h5⟩ := Super.valid_cases hv hf
  exact sb_encode0 gen act epoch len sum h1 h2 h3 h4 h5 hv w

theorem sb_choose_eq {l1 l2 : List UInt8} {k : Int} {s : Super.S} {er : Int} (hc : Super.choose l1 l2 = (k, s, er)) (a : Option Addr) (n c : Nat) (b : Option Addr) (m d : Nat) (w : World) (h1 : SlB w a n c l1) (h2 : SlB w b m d l2) :
    Calls Try.prog 23 #[.slice a n c, .slice b m d] w fun e w' => e = .returned (.tuple #[.int .i64 k, sv s, .int .i64 er]) ∧ Below w.heap.size w w' := by
  have := sb_choose a b n m c d l1 l2 w h1 h2
  unfold ChoosePost at this
  rw [hc] at this; exact this

theorem choose_enc (s t : Super.S) (hs : Super.valid s = true) (ht : Super.valid t = true) (fs : s.fits) (ft : t.fits) : Super.choose (Super.enc s) (Super.enc t) = if s.gen < t.gen then (1, t, 0) else (0, s, 0) := by
  unfold Super.choose
  rw [Super.dec_enc s hs fs, Super.dec_enc t ht ft]
  by_cases h : s.gen < t.gen <;> simp [h]
theorem choose_bad1 (l : List UInt8) (t : Super.S) (hl : Super.dec l = (Super.zero, 7)) (ht : Super.valid t = true) (ft : t.fits) : Super.choose l (Super.enc t) = (1, t, 0) := by
  unfold Super.choose
  rw [hl, Super.dec_enc t ht ft]; simp
theorem choose_bad2 (l : List UInt8) (t : Super.S) (hl : Super.dec l = (Super.zero, 7)) (ht : Super.valid t = true) (ft : t.fits) : Super.choose (Super.enc t) l = (0, t, 0) := by
  unfold Super.choose
  rw [hl, Super.dec_enc t ht ft]; simp
theorem xor_bit (q : UInt8) (r : Nat) (hr : r < 8) : Value.int .u8 (bits BinOp.xor IntKind.u8 (q.toNat : Int) (2 ^ r % 256)) = bv (UInt8.ofNat (q.toNat ^^^ 2 ^ r)) := by
  have h2 : (2 : Nat) ^ r < 256 := Nat.lt_of_lt_of_eq (Nat.pow_lt_pow_right (a := 2) (by decide) hr) (by decide)
  have h1 : (2 : Int) ^ r % 256 = ((2 ^ r : Nat) : Int) := by
    have e : ((2 ^ r : Nat) : Int) = (2 : Int) ^ r := by simp
    rw [← e]; generalize 2 ^ r = x at *; omega
  rw [h1, u8_xor_nat _ _ q.toNat_lt h2, bv, Crc.toNat_ofNat8 (Nat.xor_lt_two_pow (n := 8) q.toNat_lt h2)]

theorem below_drewN' (B : Nat) (w : World) (n : Nat) : Below B w (w.drewN n) := (Below.refl B w).trans ⟨rfl, rfl, rfl, Nat.le_refl _, fun _ _ => rfl⟩
theorem or_odd (d : Nat) : (d ||| 1) % 2 = 1 := by simp
/-- Block g holds the cells. -/
def RowV (w : World) (g : Nat) (cs : Array Value) (t : TypeId) : Prop := w.heap[g]? = some (.cells cs t (0, 0))
theorem RowV.ext {w w' : World} {g : Nat} {cs : Array Value} {t : TypeId} (h : RowV w g cs t) (e : Ext w w') : RowV w' g cs t := (Below.block e _ (heap_lt h)).trans h
theorem RowV.but {w w' : World} {g h : Nat} {cs : Array Value} {t : TypeId} (hr : RowV w h cs t) (hb : But g w w') (hg : h ≠ g) : RowV w' h cs t :=
  (hb.block _ (heap_lt hr) hg).trans hr
theorem RowV.at {w : World} {g : Nat} {cs : Array Value} {t : TypeId} (h : RowV w g cs t) (k : Nat) (v : Value) (hv : cs[k]? = some v) : w.cell? ⟨g, k, none⟩ = some v := by
  rw [cell_of_row _ _ _ _ _ _ h, hv]
theorem RowIs.ext {w w' : World} {g : Nat} {t : TypeId} {l : List UInt8} (h : RowIs w g t l) (e : Ext w w') : RowIs w' g t l := (Below.block e _ (heap_lt h)).trans h
theorem RowIs.but {w w' : World} {g h : Nat} {t : TypeId} {l : List UInt8} (hr : RowIs w h t l) (hb : But g w w') (hg : h ≠ g) : RowIs w' h t l := (hb.block _ (heap_lt hr) hg).trans hr
theorem RowIs.sl64 {w : World} {g : Nat} {t : TypeId} {l : List UInt8} (h : RowIs w g t l) (hl : l.length = 64) : SlB w (some ⟨g, 0, none⟩) 64 64 l := by
  have := h.slb 0 64 64 (by omega) (Nat.le_refl _) (by unfold maxLen; omega)
  rw [List.drop_zero, List.take_of_length_le (by omega)] at this; exact this

/-- The three boxes of the arguments. -/
theorem boxes3 (s t : Super.S) (d0 d1 : Nat) (w : World) : ∀ W, W = ((w.alloc (.cells #[.int .u64 s.gen, .int .i64 s.act, .int .u32 s.epoch, .int .i64 s.len, .int .u32 s.sum] 25)).alloc (.cells #[.int .u64 t.gen, .int .i64 t.act, .int .u32 t.epoch, .int .i64 t.len, .int .u32 t.sum] 25)).alloc (.cells #[.int .u32 d0, .int .u32 d1] 41) → Below w.heap.size w W ∧ SBox W w.heap.size s ∧ SBox W (w.heap.size + 1) t ∧ RowV W (w.heap.size + 2) #[.int .u32 d0, .int .u32 d1] 41 := by
  rintro W rfl
  refine ⟨(((Below.refl _ _).alloc (Nat.le_refl _) _).alloc (by simp) _).alloc (by simp; omega) _, ?_, ?_, ?_⟩
  · unfold SBox
    rw [heap_alloc_lt _ _ _ (by simp; omega), heap_alloc_lt _ _ _ (by simp)]; exact heap_alloc_eq _ _ _ rfl
  · unfold SBox
    rw [heap_alloc_lt _ _ _ (by simp)]; exact heap_alloc_eq _ _ _ (by simp)
  · exact heap_alloc_eq _ _ _ (by simp)

set_option maxHeartbeats 8000000 in
set_option maxRecDepth 100000 in
theorem damage_lt (s t : Super.S) (d0 d1 : Nat) (w : World) (hs : SIn s) (ht : SIn t) (hv : Super.valid s = true) (hu : Super.valid t = true) (hd0 : d0 < 4294967296) (hd1 : d1 < 4294967296) (hg : s.gen < t.gen) :
    Calls Try.prog 7 #[sv s, sv t, .agg #[.int .u32 d0, .int .u32 d1]] w fun e w' => e = .returned (.bool true) ∧ Below w.heap.size w w' := by
  have he1 := sb_encode_v s hv hs.1
  have he2 := sb_encode_v t hu ht.1
  have hv1 := sref_valid s
  have hv2 := sref_valid t
  rw [hv] at hv1
  rw [hu] at hv2
  have hch := choose_enc s t hv hu hs.1 ht.1
  rw [if_pos hg] at hch
  have hc1 := sb_choose_eq hch
  have hbad : ∀ k p, k + 32 < 512 → p % 2 = 1 → Super.dec (Crc.flipN (Super.enc s) k p 32) = (Super.zero, 7) := fun k p => Super.dec_damaged s k p
  have hc2 := fun k p hk hp => sb_choose_eq (choose_bad1 _ t (hbad k p hk hp) hu ht.1)
  have hc3 := fun k p hk hp => sb_choose_eq (choose_bad2 _ t (hbad k p hk hp) hu ht.1)
  have hl1 := Super.enc_length s
  have hl2 := Super.enc_length t
  have hbx := boxes3 s t d0 d1 w
  generalize Super.enc s = B at *
  generalize Super.enc t = C at *
  obtain ⟨gen, act, epoch, len, sum⟩ := s
  obtain ⟨gen', act', epoch', len', sum'⟩ := t
  unfold sv at he1 he2 hv1 hv2 hc1 hc2 hc3 ⊢
  simp only at hbx hg hc1 hc2 hc3
  have HE1 := Lib.hid he1; have HE2 := Lib.hid he2; have HV1 := Lib.hid hv1; have HV2 := Lib.hid hv2; have HC1 := Lib.hid hc1; have HC2 := Lib.hid hc2; have HC3 := Lib.hid hc3; have HL1 := Lib.hid hl1; have HL2 := Lib.hid hl2; have HBX := Lib.hid hbx
  clear he1 he2 hv1 hv2 hc1 hc2 hc3 hl1 hl2 hbx hch hbad hs ht hv hu
  go_enter Try.func7, Try.ntmps7
  go_wp2_with fail
  obtain ⟨W0, hW0⟩ : ∃ W, W = ((w.alloc (.cells #[.int .u64 gen, .int .i64 act, .int .u32 epoch, .int .i64 len, .int .u32 sum] 25)).alloc (.cells #[.int .u64 gen', .int .i64 act', .int .u32 epoch', .int .i64 len', .int .u32 sum'] 25)).alloc (.cells #[.int .u32 d0, .int .u32 d1] 41) := ⟨_, rfl⟩
  obtain ⟨hw0, hS0, hT0, hD0⟩ := HBX.out W0 hW0
  rw [← hW0]
  clear hW0
  refine (HE1.out _).mono ?_; rintro e w1 ⟨K1, rfl, hR1, hK1, hb1⟩
  have hS1 := hS0.ext hb1
  have hT1 := hT0.ext hb1
  have hD1 := hD0.ext hb1
  have hw1 := hw0.trans (Below.mono hb1 hw0.size)
  have hK1' : w.heap.size + 3 ≤ K1 := Nat.le_trans (heap_lt hD0) hK1
  clear hS0 hT0 hD0 hw0 hb1 hK1
  obtain ⟨q0, q1, q2, q3, q4⟩ := hT1.cells
  simp only at q0 q1 q2 q3 q4
  go_wp2_with fail
  clear q0 q1 q2 q3 q4
  refine (HE2.out _).mono ?_; rintro e w2 ⟨K2, rfl, hR2, hK2, hb2⟩
  have hS2 := hS1.ext hb2
  have hT2 := hT1.ext hb2
  have hD2 := hD1.ext hb2
  have hA2 := hR1.ext hb2
  have hw2 := hw1.trans (Below.mono hb2 hw1.size)
  have hK12 : K1 < K2 := Nat.lt_of_lt_of_le (heap_lt hR1) hK2
  clear hS1 hT1 hD1 hR1 hw1 hb2 hK2
  obtain ⟨q0, q1, q2, q3, q4⟩ := hS2.cells
  simp only at q0 q1 q2 q3 q4
  go_wp2_with fail
  clear q0 q1 q2 q3 q4
  refine (HV1.out _).mono ?_; rintro e w3 ⟨rfl, hb3⟩
  have hS3 := hS2.ext hb3
  have hT3 := hT2.ext hb3
  have hD3 := hD2.ext hb3
  have hA3 := hA2.ext hb3
  have hB3 := hR2.ext hb3
  have hw3 := hw2.trans (Below.mono hb3 hw2.size)
  clear hS2 hT2 hD2 hA2 hR2 hw2 hb3
  obtain ⟨q0, q1, q2, q3, q4⟩ := hT3.cells
  simp only at q0 q1 q2 q3 q4
  go_wp2_with fail
  clear q0 q1 q2 q3 q4
  refine (HV2.out _).mono ?_; rintro e w4 ⟨rfl, hb4⟩
  have hS4 := hS3.ext hb4
  have hT4 := hT3.ext hb4
  have hD4 := hD3.ext hb4
  have hA4 := hA3.ext hb4
  have hB4 := hB3.ext hb4
  have hw4 := hw3.trans (Below.mono hb4 hw3.size)
  clear hS3 hT3 hD3 hA3 hB3 hw3 hb4
  go_wp2_with fail
  refine (HC1.out _ _ _ _ _ _ _ (hA4.sl64 HL1.out) (hB4.sl64 HL2.out)).mono ?_; rintro e w5 ⟨rfl, hb5⟩
  have hS5 := hS4.ext hb5
  have hT5 := hT4.ext hb5
  have hD5 := hD4.ext hb5
  have hA5 := hA4.ext hb5
  have hB5 := hB4.ext hb5
  have hw5 := hw4.trans (Below.mono hb5 hw4.size)
  have hk5 := heap_lt hB5
  clear hS4 hT4 hD4 hA4 hB4 hw4 hb5
  obtain ⟨q0, q1, q2, q3, q4⟩ := hS5.cells
  obtain ⟨r0, r1, r2, r3, r4⟩ := hT5.cells
  simp only at q0 q1 q2 q3 q4 r0 r1 r2 r3 r4
  have hlS := heap_lt hS5
  have hlT := heap_lt hT5
  have g1 : ((gen : Int) == gen') = false := by simp; omega
  go_wp2_with fail
  clear q0 q1 q2 q3 q4 r0 r1 r2 r3 r4 g1
  obtain ⟨w6, hw6e⟩ : ∃ W, W = w5.alloc (.cells #[.int .u64 gen', .int .i64 act', .int .u32 epoch', .int .i64 len', .int .u32 sum'] 25) := ⟨_, rfl⟩
  have hE6 : Ext w5 w6 := by rw [hw6e]; exact Ext.alloc (Ext.refl _) _
  have hU6 : RowV w6 w5.heap.size #[.int .u64 gen', .int .i64 act', .int .u32 epoch', .int .i64 len', .int .u32 sum'] 25 := by rw [hw6e]; exact heap_alloc_eq _ _ _ rfl
  rw [← hw6e]
  clear hw6e
  have hT6 := hT5.ext hE6
  have hA6 := hA5.ext hE6
  have hB6 := hB5.ext hE6
  have hw6 := hw5.trans (Below.mono hE6 hw5.size)
  have p0 := (hD5.ext hE6).at 0 _ rfl
  have p1 := (hD5.ext hE6).at 1 _ rfl
  have hk6 := heap_lt hU6
  have ht6 := heap_lt hT6
  have e2 : w.heap.size + 2 = w.heap.size + 1 + 1 := rfl
  rw [e2] at p0 p1
  clear e2 hS5 hT5 hD5 hA5 hB5 hw5 hE6
  have hor : bits BinOp.or IntKind.u32 (d1 : Int) 1 = ((d1 ||| 1 : Nat) : Int) := u32_or_nat d1 1 hd1 (by decide)
  have HOR := Lib.hid hor
  clear hor
  go_quiet (fail)
  have hwq : Below w.heap.size w (w6.drewN nq) := hw6.trans (below_drewN' _ _ _)
  have hTq : SBox (w6.drewN nq) (w.heap.size + 1) ⟨gen', act', epoch', len', sum'⟩ := hT6.ext (below_drewN' _ _ _)
  have hUq := hU6.ext (below_drewN' w6.heap.size w6 nq)
  have hAq := hA6.ext (below_drewN' w6.heap.size w6 nq)
  have hBq := hB6.ext (below_drewN' w6.heap.size w6 nq)
  have hszq : w6.heap.size = (w6.drewN nq).heap.size := by simp
  rw [hszq] at hk6 ht6
  clear hszq
  go_wp2_with fail
  rw [HOR.out, show (d0 : Int) % 480 = ((d0 % 480 : Nat) : Int) from by omega]
  generalize w6.drewN nq = wq at *
  have hp : (d1 ||| 1) % 2 = 1 := or_odd d1
  have hat : d0 % 480 < 480 := Nat.mod_lt _ (by decide)
  generalize d0 % 480 = at_ at *
  generalize d1 ||| 1 = p at *
  have HP := Lib.hid hp
  clear hp hw6 hT6 hU6 hA6 hB6 p0 p1 hg hd0 hd1
  go_loopw [16] (fun i wr => ∃ k : Nat, k ≤ 32 ∧ i = .int .i64 k ∧ RowIs wr K1 58 (Crc.flipN B at_ p k) ∧ But K1 wq wr) (fun i _ => 32 - (intOf i).toNat)
  case atStart => exact ⟨0, Nat.zero_le _, rfl, hAq, But.refl _ _⟩
  case round =>
    obtain ⟨k, hk, rfl, hR, hbut⟩ := hrel
    by_cases hlt : k < 32
    · have hcast : ((p / 2 ^ k : Nat) : Int) = (p : Int) / 2 ^ k := by simp
      have hnn : (0 : Int) ≤ (p : Int) / 2 ^ k := by rw [← hcast]; exact Int.natCast_nonneg _
      by_cases hbit : p / 2 ^ k % 2 = 1
      · have ht : ((p : Int) / 2 ^ k % 2 == 1) = true := by rw [← hcast]; generalize p / 2 ^ k = x at *; simp; omega
        clear hcast
        have hlen := Crc.flipN_length B at_ p k
        rw [HL1.out] at hlen
        have hcell := hR.cell ((at_ + k) / 8) (by rw [hlen]; omega)
        have hfr1 := hR.free ((at_ + k) / 8)
        have hmod : 0 ≤ ((at_ : Int) + k) % 8 := by omega
        have hmod2 : ((at_ : Int) + k) % 8 < 8 := by omega
        obtain ⟨q, hq⟩ : ∃ q, (Crc.flipN B at_ p k)[(at_ + k) / 8]?.getD 0 = q := ⟨_, rfl⟩
        rw [hq] at hcell
        unfold bv at hcell
        have hq8 : q.toNat < 256 := q.toNat_lt
        have HQ := Lib.hid hq
        have HS := Lib.hid (show Crc.flipN B at_ p (k + 1) = Crc.flip1 (Crc.flipN B at_ p k) (at_ + k) by rw [Crc.flipN, if_pos ⟨hbit, by rw [HL1.out]; omega⟩])
        clear hlen hbit hq
        go_wp2
        go_region
        go_wp2
        go_roundw
        case rel =>
          refine ⟨k + 1, by omega, by go_num, ?_, (hbut.setCell _ _).drew⟩
          rw [xor_bit q _ (by omega), HS.out, Crc.flip1, HQ.out]
          exact hR.set _ _
        case measure => simp [intOf]; omega
      · have ht : ((p : Int) / 2 ^ k % 2 == 1) = false := by rw [← hcast]; generalize p / 2 ^ k = x at *; simp; omega
        have HS := Lib.hid (show Crc.flipN B at_ p (k + 1) = Crc.flipN B at_ p k by rw [Crc.flipN, if_neg (fun h => hbit h.1)])
        clear hcast hbit
        go_wp2
        go_roundw
        case rel => exact ⟨k + 1, by omega, by go_num, by rw [HS.out]; exact hR, hbut⟩
        case measure => simp [intOf]; omega
    · obtain rfl : k = 32 := by omega
      have hlA : (Crc.flipN B at_ p 32).length = 64 := (Crc.flipN_length _ _ _ _).trans HL1.out
      have HLA := Lib.hid hlA
      have hc2 := HC2.out at_ p (by omega) HP.out
      have hc3 := HC3.out at_ p (by omega) HP.out
      clear hlA HC2 HC3
      generalize Crc.flipN B at_ p 32 = A2 at *
      have HC2 := Lib.hid hc2; have HC3 := Lib.hid hc3
      clear hc2 hc3
      have hBr := hBq.but hbut (by omega)
      have hTr := hTq.but hbut (by omega)
      have hUr := hUq.but hbut (by omega)
      have hwr : Below w.heap.size w wr := But.below hwq hbut (by omega) (by omega)
      clear hAq hBq hTq hUq hwq hbut
      go_wp2_with fail
      refine (HC2.out _ _ _ _ _ _ _ (hR.sl64 HLA.out) (hBr.sl64 HL2.out)).mono ?_; rintro e w7 ⟨rfl, hb7⟩
      have hR7 := hR.ext hb7
      have hB7 := hBr.ext hb7
      have hT7 := hTr.ext hb7
      have hU7 := hUr.ext hb7
      have hw7 := hwr.trans (Below.mono hb7 hwr.size)
      have hk7 := heap_lt hU7
      have hz7 := hb7.size
      have hsz := (show (Try.prog.info? 25).map (·.size) = some 5 by kernel_rfl)
      have HSZ := Lib.hid hsz
      clear hR hBr hTr hUr hwr hb7 hsz
      go_wp2_with (first | ((show wpList _ _ _ (Oper.mk none _ _ _ _ _ :: _) _ _); go_must (apply wpList_store_row (ty := 25) (g := w5.heap.size) (t := 25) (old := #[.int .u64 gen', .int .i64 act', .int .u32 epoch', .int .i64 len', .int .u32 sum']) (cs := #[.int .u64 gen', .int .i64 act', .int .u32 epoch', .int .i64 len', .int .u32 sum']); (case hgd => rfl); (case ho => rfl); (case hx => rfl); (case hy => rfl); (case hg => exact hU7); (case hi => exact HSZ.out); (case hos => rfl); (case h1 => simp [Value.oneCell']))))
      obtain ⟨w8, hw8e⟩ : ∃ W, W = w7.setRow w5.heap.size #[.int .u64 gen', .int .i64 act', .int .u32 epoch', .int .i64 len', .int .u32 sum'] := ⟨_, rfl⟩
      have hbut8 : But w5.heap.size w7 w8 := by rw [hw8e]; exact (But.refl _ _).setRow _
      have hU8 : RowV w8 w5.heap.size #[.int .u64 gen', .int .i64 act', .int .u32 epoch', .int .i64 len', .int .u32 sum'] 25 := by rw [hw8e]; exact setRow_heap _ _ _ _ _ _ hU7
      rw [← hw8e]
      have hR8 := hR7.but hbut8 (by omega)
      have hB8 := hB7.but hbut8 (by omega)
      have hT8 := hT7.but hbut8 (by omega)
      have hw8 : Below w.heap.size w w8 := But.below hw7 hbut8 (by omega) (by omega)
      clear hw8e hR7 hB7 hT7 hU7 hw7 hbut8 hk7 hz7
      go_wp2_with fail
      refine (HC3.out _ _ _ _ _ _ _ (hB8.sl64 HL2.out) (hR8.sl64 HLA.out)).mono ?_; rintro e w9 ⟨rfl, hb9⟩
      have hT9 := hT8.ext hb9
      have hU9 := hU8.ext hb9
      have hw9 := hw8.trans (Below.mono hb9 hw8.size)
      clear hR8 hB8 hT8 hU8 hw8 hb9
      obtain ⟨W, hW⟩ : ∃ W, W = w9.alloc (.cells #[.int .u64 gen', .int .i64 act', .int .u32 epoch', .int .i64 len', .int .u32 sum'] 25) := ⟨_, rfl⟩
      have hlT9 := heap_lt hT9
      have hlU9 := heap_lt hU9
      have u0 := hU9.at 0 (.int .u64 gen') rfl
      have u1 := hU9.at 1 (.int .i64 act') rfl
      have u2 := hU9.at 2 (.int .u32 epoch') rfl
      have u3 := hU9.at 3 (.int .i64 len') rfl
      have u4 := hU9.at 4 (.int .u32 sum') rfl
      obtain ⟨r0, r1, r2, r3, r4⟩ := hT9.cells
      simp only at r0 r1 r2 r3 r4
      clear hT9 hU9 hW
      go_wp2_with (go_at_call 13; refine (sb_awake _).mono ?_; rintro e w4 ⟨rfl, hb10⟩)
      go_ret
      exact ⟨rfl, (hw9.alloc hw9.size _).trans (hb10.mono (by simp; omega))⟩
set_option maxHeartbeats 8000000 in
set_option maxRecDepth 100000 in
theorem damage_gt (s t : Super.S) (d0 d1 : Nat) (w : World) (hs : SIn s) (ht : SIn t) (hv : Super.valid s = true) (hu : Super.valid t = true) (hd0 : d0 < 4294967296) (hd1 : d1 < 4294967296) (hg : t.gen < s.gen) :
    Calls Try.prog 7 #[sv s, sv t, .agg #[.int .u32 d0, .int .u32 d1]] w fun e w' => e = .returned (.bool true) ∧ Below w.heap.size w w' := by
  have he1 := sb_encode_v s hv hs.1
  have he2 := sb_encode_v t hu ht.1
  have hv1 := sref_valid s
  have hv2 := sref_valid t
  rw [hv] at hv1
  rw [hu] at hv2
  have hch := choose_enc s t hv hu hs.1 ht.1
  rw [if_neg (Nat.not_lt.2 (Nat.le_of_lt hg))] at hch
  have hc1 := sb_choose_eq hch
  have hbad : ∀ k p, k + 32 < 512 → p % 2 = 1 → Super.dec (Crc.flipN (Super.enc s) k p 32) = (Super.zero, 7) := fun k p => Super.dec_damaged s k p
  have hc2 := fun k p hk hp => sb_choose_eq (choose_bad1 _ t (hbad k p hk hp) hu ht.1)
  have hc3 := fun k p hk hp => sb_choose_eq (choose_bad2 _ t (hbad k p hk hp) hu ht.1)
  have hl1 := Super.enc_length s
  have hl2 := Super.enc_length t
  have hbx := boxes3 s t d0 d1 w
  generalize Super.enc s = B at *
  generalize Super.enc t = C at *
  obtain ⟨gen, act, epoch, len, sum⟩ := s
  obtain ⟨gen', act', epoch', len', sum'⟩ := t
  unfold sv at he1 he2 hv1 hv2 hc1 hc2 hc3 ⊢
  simp only at hbx hg hc1 hc2 hc3
  have HE1 := Lib.hid he1; have HE2 := Lib.hid he2; have HV1 := Lib.hid hv1; have HV2 := Lib.hid hv2; have HC1 := Lib.hid hc1; have HC2 := Lib.hid hc2; have HC3 := Lib.hid hc3; have HL1 := Lib.hid hl1; have HL2 := Lib.hid hl2; have HBX := Lib.hid hbx
  clear he1 he2 hv1 hv2 hc1 hc2 hc3 hl1 hl2 hbx hch hbad hs ht hv hu
  go_enter Try.func7, Try.ntmps7
  go_wp2_with fail
  obtain ⟨W0, hW0⟩ : ∃ W, W = ((w.alloc (.cells #[.int .u64 gen, .int .i64 act, .int .u32 epoch, .int .i64 len, .int .u32 sum] 25)).alloc (.cells #[.int .u64 gen', .int .i64 act', .int .u32 epoch', .int .i64 len', .int .u32 sum'] 25)).alloc (.cells #[.int .u32 d0, .int .u32 d1] 41) := ⟨_, rfl⟩
  obtain ⟨hw0, hS0, hT0, hD0⟩ := HBX.out W0 hW0
  rw [← hW0]
  clear hW0
  refine (HE1.out _).mono ?_; rintro e w1 ⟨K1, rfl, hR1, hK1, hb1⟩
  have hS1 := hS0.ext hb1
  have hT1 := hT0.ext hb1
  have hD1 := hD0.ext hb1
  have hw1 := hw0.trans (Below.mono hb1 hw0.size)
  have hK1' : w.heap.size + 3 ≤ K1 := Nat.le_trans (heap_lt hD0) hK1
  clear hS0 hT0 hD0 hw0 hb1 hK1
  obtain ⟨q0, q1, q2, q3, q4⟩ := hT1.cells
  simp only at q0 q1 q2 q3 q4
  go_wp2_with fail
  clear q0 q1 q2 q3 q4
  refine (HE2.out _).mono ?_; rintro e w2 ⟨K2, rfl, hR2, hK2, hb2⟩
  have hS2 := hS1.ext hb2
  have hT2 := hT1.ext hb2
  have hD2 := hD1.ext hb2
  have hA2 := hR1.ext hb2
  have hw2 := hw1.trans (Below.mono hb2 hw1.size)
  have hK12 : K1 < K2 := Nat.lt_of_lt_of_le (heap_lt hR1) hK2
  clear hS1 hT1 hD1 hR1 hw1 hb2 hK2
  obtain ⟨q0, q1, q2, q3, q4⟩ := hS2.cells
  simp only at q0 q1 q2 q3 q4
  go_wp2_with fail
  clear q0 q1 q2 q3 q4
  refine (HV1.out _).mono ?_; rintro e w3 ⟨rfl, hb3⟩
  have hS3 := hS2.ext hb3
  have hT3 := hT2.ext hb3
  have hD3 := hD2.ext hb3
  have hA3 := hA2.ext hb3
  have hB3 := hR2.ext hb3
  have hw3 := hw2.trans (Below.mono hb3 hw2.size)
  clear hS2 hT2 hD2 hA2 hR2 hw2 hb3
  obtain ⟨q0, q1, q2, q3, q4⟩ := hT3.cells
  simp only at q0 q1 q2 q3 q4
  go_wp2_with fail
  clear q0 q1 q2 q3 q4
  refine (HV2.out _).mono ?_; rintro e w4 ⟨rfl, hb4⟩
  have hS4 := hS3.ext hb4
  have hT4 := hT3.ext hb4
  have hD4 := hD3.ext hb4
  have hA4 := hA3.ext hb4
  have hB4 := hB3.ext hb4
  have hw4 := hw3.trans (Below.mono hb4 hw3.size)
  clear hS3 hT3 hD3 hA3 hB3 hw3 hb4
  go_wp2_with fail
  refine (HC1.out _ _ _ _ _ _ _ (hA4.sl64 HL1.out) (hB4.sl64 HL2.out)).mono ?_; rintro e w5 ⟨rfl, hb5⟩
  have hS5 := hS4.ext hb5
  have hT5 := hT4.ext hb5
  have hD5 := hD4.ext hb5
  have hA5 := hA4.ext hb5
  have hB5 := hB4.ext hb5
  have hw5 := hw4.trans (Below.mono hb5 hw4.size)
  have hk5 := heap_lt hB5
  clear hS4 hT4 hD4 hA4 hB4 hw4 hb5
  obtain ⟨q0, q1, q2, q3, q4⟩ := hS5.cells
  obtain ⟨r0, r1, r2, r3, r4⟩ := hT5.cells
  simp only at q0 q1 q2 q3 q4 r0 r1 r2 r3 r4
  have hlS := heap_lt hS5
  have hlT := heap_lt hT5
  have g1 : ((gen : Int) == gen') = false := by simp; omega
  go_wp2_with fail
  clear q0 q1 q2 q3 q4 r0 r1 r2 r3 r4 g1
  obtain ⟨w6, hw6e⟩ : ∃ W, W = w5.alloc (.cells #[.int .u64 gen, .int .i64 act, .int .u32 epoch, .int .i64 len, .int .u32 sum] 25) := ⟨_, rfl⟩
  have hE6 : Ext w5 w6 := by rw [hw6e]; exact Ext.alloc (Ext.refl _) _
  have hU6 : RowV w6 w5.heap.size #[.int .u64 gen, .int .i64 act, .int .u32 epoch, .int .i64 len, .int .u32 sum] 25 := by rw [hw6e]; exact heap_alloc_eq _ _ _ rfl
  rw [← hw6e]
  clear hw6e
  have hT6 := hT5.ext hE6
  have hA6 := hA5.ext hE6
  have hB6 := hB5.ext hE6
  have hw6 := hw5.trans (Below.mono hE6 hw5.size)
  have p0 := (hD5.ext hE6).at 0 _ rfl
  have p1 := (hD5.ext hE6).at 1 _ rfl
  have hk6 := heap_lt hU6
  have ht6 := heap_lt hT6
  have e2 : w.heap.size + 2 = w.heap.size + 1 + 1 := rfl
  rw [e2] at p0 p1
  clear e2 hS5 hT5 hD5 hA5 hB5 hw5 hE6
  have hor : bits BinOp.or IntKind.u32 (d1 : Int) 1 = ((d1 ||| 1 : Nat) : Int) := u32_or_nat d1 1 hd1 (by decide)
  have HOR := Lib.hid hor
  clear hor
  go_quiet (fail)
  have hwq : Below w.heap.size w (w6.drewN nq) := hw6.trans (below_drewN' _ _ _)
  have hTq : SBox (w6.drewN nq) (w.heap.size + 1) ⟨gen', act', epoch', len', sum'⟩ := hT6.ext (below_drewN' _ _ _)
  have hUq := hU6.ext (below_drewN' w6.heap.size w6 nq)
  have hAq := hA6.ext (below_drewN' w6.heap.size w6 nq)
  have hBq := hB6.ext (below_drewN' w6.heap.size w6 nq)
  have hszq : w6.heap.size = (w6.drewN nq).heap.size := by simp
  rw [hszq] at hk6 ht6
  clear hszq
  go_wp2_with fail
  rw [HOR.out, show (d0 : Int) % 480 = ((d0 % 480 : Nat) : Int) from by omega]
  generalize w6.drewN nq = wq at *
  have hp : (d1 ||| 1) % 2 = 1 := or_odd d1
  have hat : d0 % 480 < 480 := Nat.mod_lt _ (by decide)
  generalize d0 % 480 = at_ at *
  generalize d1 ||| 1 = p at *
  have HP := Lib.hid hp
  clear hp hw6 hT6 hU6 hA6 hB6 p0 p1 hg hd0 hd1
  go_loopw [16] (fun i wr => ∃ k : Nat, k ≤ 32 ∧ i = .int .i64 k ∧ RowIs wr K1 58 (Crc.flipN B at_ p k) ∧ But K1 wq wr) (fun i _ => 32 - (intOf i).toNat)
  case atStart => exact ⟨0, Nat.zero_le _, rfl, hAq, But.refl _ _⟩
  case round =>
    obtain ⟨k, hk, rfl, hR, hbut⟩ := hrel
    by_cases hlt : k < 32
    · have hcast : ((p / 2 ^ k : Nat) : Int) = (p : Int) / 2 ^ k := by simp
      have hnn : (0 : Int) ≤ (p : Int) / 2 ^ k := by rw [← hcast]; exact Int.natCast_nonneg _
      by_cases hbit : p / 2 ^ k % 2 = 1
      · have ht : ((p : Int) / 2 ^ k % 2 == 1) = true := by rw [← hcast]; generalize p / 2 ^ k = x at *; simp; omega
        clear hcast
        have hlen := Crc.flipN_length B at_ p k
        rw [HL1.out] at hlen
        have hcell := hR.cell ((at_ + k) / 8) (by rw [hlen]; omega)
        have hfr1 := hR.free ((at_ + k) / 8)
        have hmod : 0 ≤ ((at_ : Int) + k) % 8 := by omega
        have hmod2 : ((at_ : Int) + k) % 8 < 8 := by omega
        obtain ⟨q, hq⟩ : ∃ q, (Crc.flipN B at_ p k)[(at_ + k) / 8]?.getD 0 = q := ⟨_, rfl⟩
        rw [hq] at hcell
        unfold bv at hcell
        have hq8 : q.toNat < 256 := q.toNat_lt
        have HQ := Lib.hid hq
        have HS := Lib.hid (show Crc.flipN B at_ p (k + 1) = Crc.flip1 (Crc.flipN B at_ p k) (at_ + k) by rw [Crc.flipN, if_pos ⟨hbit, by rw [HL1.out]; omega⟩])
        clear hlen hbit hq
        go_wp2
        go_region
        go_wp2
        go_roundw
        case rel =>
          refine ⟨k + 1, by omega, by go_num, ?_, (hbut.setCell _ _).drew⟩
          rw [xor_bit q _ (by omega), HS.out, Crc.flip1, HQ.out]
          exact hR.set _ _
        case measure => simp [intOf]; omega
      · have ht : ((p : Int) / 2 ^ k % 2 == 1) = false := by rw [← hcast]; generalize p / 2 ^ k = x at *; simp; omega
        have HS := Lib.hid (show Crc.flipN B at_ p (k + 1) = Crc.flipN B at_ p k by rw [Crc.flipN, if_neg (fun h => hbit h.1)])
        clear hcast hbit
        go_wp2
        go_roundw
        case rel => exact ⟨k + 1, by omega, by go_num, by rw [HS.out]; exact hR, hbut⟩
        case measure => simp [intOf]; omega
    · obtain rfl : k = 32 := by omega
      have hlA : (Crc.flipN B at_ p 32).length = 64 := (Crc.flipN_length _ _ _ _).trans HL1.out
      have HLA := Lib.hid hlA
      have hc2 := HC2.out at_ p (by omega) HP.out
      have hc3 := HC3.out at_ p (by omega) HP.out
      clear hlA HC2 HC3
      generalize Crc.flipN B at_ p 32 = A2 at *
      have HC2 := Lib.hid hc2; have HC3 := Lib.hid hc3
      clear hc2 hc3
      have hBr := hBq.but hbut (by omega)
      have hTr := hTq.but hbut (by omega)
      have hUr := hUq.but hbut (by omega)
      have hwr : Below w.heap.size w wr := But.below hwq hbut (by omega) (by omega)
      clear hAq hBq hTq hUq hwq hbut
      go_wp2_with fail
      refine (HC2.out _ _ _ _ _ _ _ (hR.sl64 HLA.out) (hBr.sl64 HL2.out)).mono ?_; rintro e w7 ⟨rfl, hb7⟩
      have hR7 := hR.ext hb7
      have hB7 := hBr.ext hb7
      have hT7 := hTr.ext hb7
      have hU7 := hUr.ext hb7
      have hw7 := hwr.trans (Below.mono hb7 hwr.size)
      have hk7 := heap_lt hU7
      have hz7 := hb7.size
      have hsz := (show (Try.prog.info? 25).map (·.size) = some 5 by kernel_rfl)
      have HSZ := Lib.hid hsz
      clear hR hBr hTr hUr hwr hb7 hsz
      go_wp2_with (first | ((show wpList _ _ _ (Oper.mk none _ _ _ _ _ :: _) _ _); go_must (apply wpList_store_row (ty := 25) (g := w5.heap.size) (t := 25) (old := #[.int .u64 gen, .int .i64 act, .int .u32 epoch, .int .i64 len, .int .u32 sum]) (cs := #[.int .u64 gen', .int .i64 act', .int .u32 epoch', .int .i64 len', .int .u32 sum']); (case hgd => rfl); (case ho => rfl); (case hx => rfl); (case hy => rfl); (case hg => exact hU7); (case hi => exact HSZ.out); (case hos => rfl); (case h1 => simp [Value.oneCell']))))
      obtain ⟨w8, hw8e⟩ : ∃ W, W = w7.setRow w5.heap.size #[.int .u64 gen', .int .i64 act', .int .u32 epoch', .int .i64 len', .int .u32 sum'] := ⟨_, rfl⟩
      have hbut8 : But w5.heap.size w7 w8 := by rw [hw8e]; exact (But.refl _ _).setRow _
      have hU8 : RowV w8 w5.heap.size #[.int .u64 gen', .int .i64 act', .int .u32 epoch', .int .i64 len', .int .u32 sum'] 25 := by rw [hw8e]; exact setRow_heap _ _ _ _ _ _ hU7
      rw [← hw8e]
      have hR8 := hR7.but hbut8 (by omega)
      have hB8 := hB7.but hbut8 (by omega)
      have hT8 := hT7.but hbut8 (by omega)
      have hw8 : Below w.heap.size w w8 := But.below hw7 hbut8 (by omega) (by omega)
      clear hw8e hR7 hB7 hT7 hU7 hw7 hbut8 hk7 hz7
      go_wp2_with fail
      refine (HC3.out _ _ _ _ _ _ _ (hB8.sl64 HL2.out) (hR8.sl64 HLA.out)).mono ?_; rintro e w9 ⟨rfl, hb9⟩
      have hT9 := hT8.ext hb9
      have hU9 := hU8.ext hb9
      have hw9 := hw8.trans (Below.mono hb9 hw8.size)
      clear hR8 hB8 hT8 hU8 hw8 hb9
      obtain ⟨W, hW⟩ : ∃ W, W = w9.alloc (.cells #[.int .u64 gen', .int .i64 act', .int .u32 epoch', .int .i64 len', .int .u32 sum'] 25) := ⟨_, rfl⟩
      have hlT9 := heap_lt hT9
      have hlU9 := heap_lt hU9
      have u0 := hU9.at 0 (.int .u64 gen') rfl
      have u1 := hU9.at 1 (.int .i64 act') rfl
      have u2 := hU9.at 2 (.int .u32 epoch') rfl
      have u3 := hU9.at 3 (.int .i64 len') rfl
      have u4 := hU9.at 4 (.int .u32 sum') rfl
      obtain ⟨r0, r1, r2, r3, r4⟩ := hT9.cells
      simp only at r0 r1 r2 r3 r4
      clear hT9 hU9 hW
      go_wp2_with (go_at_call 13; refine (sb_awake _).mono ?_; rintro e w4 ⟨rfl, hb10⟩)
      go_ret
      exact ⟨rfl, (hw9.alloc hw9.size _).trans (hb10.mono (by simp; omega))⟩
set_option maxHeartbeats 8000000 in
set_option maxRecDepth 100000 in
theorem damage_eq (s t : Super.S) (d0 d1 : Nat) (w : World) (hs : SIn s) (ht : SIn t) (hv : Super.valid s = true) (hu : Super.valid t = true) (hd0 : d0 < 4294967296) (hd1 : d1 < 4294967296) (hg : s.gen ≤ t.gen ∧ t.gen ≤ s.gen) :
    Calls Try.prog 7 #[sv s, sv t, .agg #[.int .u32 d0, .int .u32 d1]] w fun e w' => e = .returned (.bool true) ∧ Below w.heap.size w w' := by
  have he1 := sb_encode_v s hv hs.1
  have he2 := sb_encode_v t hu ht.1
  have hv1 := sref_valid s
  have hv2 := sref_valid t
  rw [hv] at hv1
  rw [hu] at hv2
  have hch := choose_enc s t hv hu hs.1 ht.1
  rw [if_neg (by omega)] at hch
  have hc1 := sb_choose_eq hch
  have hbad : ∀ k p, k + 32 < 512 → p % 2 = 1 → Super.dec (Crc.flipN (Super.enc s) k p 32) = (Super.zero, 7) := fun k p => Super.dec_damaged s k p
  have hc2 := fun k p hk hp => sb_choose_eq (choose_bad1 _ t (hbad k p hk hp) hu ht.1)
  have hc3 := fun k p hk hp => sb_choose_eq (choose_bad2 _ t (hbad k p hk hp) hu ht.1)
  have hl1 := Super.enc_length s
  have hl2 := Super.enc_length t
  have hbx := boxes3 s t d0 d1 w
  generalize Super.enc s = B at *
  generalize Super.enc t = C at *
  obtain ⟨gen, act, epoch, len, sum⟩ := s
  obtain ⟨gen', act', epoch', len', sum'⟩ := t
  unfold sv at he1 he2 hv1 hv2 hc1 hc2 hc3 ⊢
  simp only at hbx hg hc1 hc2 hc3
  have HE1 := Lib.hid he1; have HE2 := Lib.hid he2; have HV1 := Lib.hid hv1; have HV2 := Lib.hid hv2; have HC1 := Lib.hid hc1; have HC2 := Lib.hid hc2; have HC3 := Lib.hid hc3; have HL1 := Lib.hid hl1; have HL2 := Lib.hid hl2; have HBX := Lib.hid hbx
  clear he1 he2 hv1 hv2 hc1 hc2 hc3 hl1 hl2 hbx hch hbad hs ht hv hu
  go_enter Try.func7, Try.ntmps7
  go_wp2_with fail
  obtain ⟨W0, hW0⟩ : ∃ W, W = ((w.alloc (.cells #[.int .u64 gen, .int .i64 act, .int .u32 epoch, .int .i64 len, .int .u32 sum] 25)).alloc (.cells #[.int .u64 gen', .int .i64 act', .int .u32 epoch', .int .i64 len', .int .u32 sum'] 25)).alloc (.cells #[.int .u32 d0, .int .u32 d1] 41) := ⟨_, rfl⟩
  obtain ⟨hw0, hS0, hT0, hD0⟩ := HBX.out W0 hW0
  rw [← hW0]
  clear hW0
  refine (HE1.out _).mono ?_; rintro e w1 ⟨K1, rfl, hR1, hK1, hb1⟩
  have hS1 := hS0.ext hb1
  have hT1 := hT0.ext hb1
  have hD1 := hD0.ext hb1
  have hw1 := hw0.trans (Below.mono hb1 hw0.size)
  have hK1' : w.heap.size + 3 ≤ K1 := Nat.le_trans (heap_lt hD0) hK1
  clear hS0 hT0 hD0 hw0 hb1 hK1
  obtain ⟨q0, q1, q2, q3, q4⟩ := hT1.cells
  simp only at q0 q1 q2 q3 q4
  go_wp2_with fail
  clear q0 q1 q2 q3 q4
  refine (HE2.out _).mono ?_; rintro e w2 ⟨K2, rfl, hR2, hK2, hb2⟩
  have hS2 := hS1.ext hb2
  have hT2 := hT1.ext hb2
  have hD2 := hD1.ext hb2
  have hA2 := hR1.ext hb2
  have hw2 := hw1.trans (Below.mono hb2 hw1.size)
  have hK12 : K1 < K2 := Nat.lt_of_lt_of_le (heap_lt hR1) hK2
  clear hS1 hT1 hD1 hR1 hw1 hb2 hK2
  obtain ⟨q0, q1, q2, q3, q4⟩ := hS2.cells
  simp only at q0 q1 q2 q3 q4
  go_wp2_with fail
  clear q0 q1 q2 q3 q4
  refine (HV1.out _).mono ?_; rintro e w3 ⟨rfl, hb3⟩
  have hS3 := hS2.ext hb3
  have hT3 := hT2.ext hb3
  have hD3 := hD2.ext hb3
  have hA3 := hA2.ext hb3
  have hB3 := hR2.ext hb3
  have hw3 := hw2.trans (Below.mono hb3 hw2.size)
  clear hS2 hT2 hD2 hA2 hR2 hw2 hb3
  obtain ⟨q0, q1, q2, q3, q4⟩ := hT3.cells
  simp only at q0 q1 q2 q3 q4
  go_wp2_with fail
  clear q0 q1 q2 q3 q4
  refine (HV2.out _).mono ?_; rintro e w4 ⟨rfl, hb4⟩
  have hS4 := hS3.ext hb4
  have hT4 := hT3.ext hb4
  have hD4 := hD3.ext hb4
  have hA4 := hA3.ext hb4
  have hB4 := hB3.ext hb4
  have hw4 := hw3.trans (Below.mono hb4 hw3.size)
  clear hS3 hT3 hD3 hA3 hB3 hw3 hb4
  go_wp2_with fail
  refine (HC1.out _ _ _ _ _ _ _ (hA4.sl64 HL1.out) (hB4.sl64 HL2.out)).mono ?_; rintro e w5 ⟨rfl, hb5⟩
  have hS5 := hS4.ext hb5
  have hT5 := hT4.ext hb5
  have hD5 := hD4.ext hb5
  have hA5 := hA4.ext hb5
  have hB5 := hB4.ext hb5
  have hw5 := hw4.trans (Below.mono hb5 hw4.size)
  have hk5 := heap_lt hB5
  clear hS4 hT4 hD4 hA4 hB4 hw4 hb5
  obtain ⟨q0, q1, q2, q3, q4⟩ := hS5.cells
  obtain ⟨r0, r1, r2, r3, r4⟩ := hT5.cells
  simp only at q0 q1 q2 q3 q4 r0 r1 r2 r3 r4
  have hlS := heap_lt hS5
  have hlT := heap_lt hT5
  have g1 : ((gen : Int) == gen') = true := by simp; omega
  go_wp2_with fail
  clear q0 q1 q2 q3 q4 r0 r1 r2 r3 r4 g1
  obtain ⟨w6, hw6e⟩ : ∃ W, W = w5.alloc (.cells #[.int .u64 gen, .int .i64 act, .int .u32 epoch, .int .i64 len, .int .u32 sum] 25) := ⟨_, rfl⟩
  have hE6 : Ext w5 w6 := by rw [hw6e]; exact Ext.alloc (Ext.refl _) _
  have hU6 : RowV w6 w5.heap.size #[.int .u64 gen, .int .i64 act, .int .u32 epoch, .int .i64 len, .int .u32 sum] 25 := by rw [hw6e]; exact heap_alloc_eq _ _ _ rfl
  rw [← hw6e]
  clear hw6e
  have hT6 := hT5.ext hE6
  have hA6 := hA5.ext hE6
  have hB6 := hB5.ext hE6
  have hw6 := hw5.trans (Below.mono hE6 hw5.size)
  have p0 := (hD5.ext hE6).at 0 _ rfl
  have p1 := (hD5.ext hE6).at 1 _ rfl
  have hk6 := heap_lt hU6
  have ht6 := heap_lt hT6
  have e2 : w.heap.size + 2 = w.heap.size + 1 + 1 := rfl
  rw [e2] at p0 p1
  clear e2 hS5 hT5 hD5 hA5 hB5 hw5 hE6
  have hor : bits BinOp.or IntKind.u32 (d1 : Int) 1 = ((d1 ||| 1 : Nat) : Int) := u32_or_nat d1 1 hd1 (by decide)
  have HOR := Lib.hid hor
  clear hor
  go_quiet (fail)
  have hwq : Below w.heap.size w (w6.drewN nq) := hw6.trans (below_drewN' _ _ _)
  have hTq : SBox (w6.drewN nq) (w.heap.size + 1) ⟨gen', act', epoch', len', sum'⟩ := hT6.ext (below_drewN' _ _ _)
  have hUq := hU6.ext (below_drewN' w6.heap.size w6 nq)
  have hAq := hA6.ext (below_drewN' w6.heap.size w6 nq)
  have hBq := hB6.ext (below_drewN' w6.heap.size w6 nq)
  have hszq : w6.heap.size = (w6.drewN nq).heap.size := by simp
  rw [hszq] at hk6 ht6
  clear hszq
  go_wp2_with fail
  rw [HOR.out, show (d0 : Int) % 480 = ((d0 % 480 : Nat) : Int) from by omega]
  generalize w6.drewN nq = wq at *
  have hp : (d1 ||| 1) % 2 = 1 := or_odd d1
  have hat : d0 % 480 < 480 := Nat.mod_lt _ (by decide)
  generalize d0 % 480 = at_ at *
  generalize d1 ||| 1 = p at *
  have HP := Lib.hid hp
  clear hp hw6 hT6 hU6 hA6 hB6 p0 p1 hg hd0 hd1
  go_loopw [16] (fun i wr => ∃ k : Nat, k ≤ 32 ∧ i = .int .i64 k ∧ RowIs wr K1 58 (Crc.flipN B at_ p k) ∧ But K1 wq wr) (fun i _ => 32 - (intOf i).toNat)
  case atStart => exact ⟨0, Nat.zero_le _, rfl, hAq, But.refl _ _⟩
  case round =>
    obtain ⟨k, hk, rfl, hR, hbut⟩ := hrel
    by_cases hlt : k < 32
    · have hcast : ((p / 2 ^ k : Nat) : Int) = (p : Int) / 2 ^ k := by simp
      have hnn : (0 : Int) ≤ (p : Int) / 2 ^ k := by rw [← hcast]; exact Int.natCast_nonneg _
      by_cases hbit : p / 2 ^ k % 2 = 1
      · have ht : ((p : Int) / 2 ^ k % 2 == 1) = true := by rw [← hcast]; generalize p / 2 ^ k = x at *; simp; omega
        clear hcast
        have hlen := Crc.flipN_length B at_ p k
        rw [HL1.out] at hlen
        have hcell := hR.cell ((at_ + k) / 8) (by rw [hlen]; omega)
        have hfr1 := hR.free ((at_ + k) / 8)
        have hmod : 0 ≤ ((at_ : Int) + k) % 8 := by omega
        have hmod2 : ((at_ : Int) + k) % 8 < 8 := by omega
        obtain ⟨q, hq⟩ : ∃ q, (Crc.flipN B at_ p k)[(at_ + k) / 8]?.getD 0 = q := ⟨_, rfl⟩
        rw [hq] at hcell
        unfold bv at hcell
        have hq8 : q.toNat < 256 := q.toNat_lt
        have HQ := Lib.hid hq
        have HS := Lib.hid (show Crc.flipN B at_ p (k + 1) = Crc.flip1 (Crc.flipN B at_ p k) (at_ + k) by rw [Crc.flipN, if_pos ⟨hbit, by rw [HL1.out]; omega⟩])
        clear hlen hbit hq
        go_wp2
        go_region
        go_wp2
        go_roundw
        case rel =>
          refine ⟨k + 1, by omega, by go_num, ?_, (hbut.setCell _ _).drew⟩
          rw [xor_bit q _ (by omega), HS.out, Crc.flip1, HQ.out]
          exact hR.set _ _
        case measure => simp [intOf]; omega
      · have ht : ((p : Int) / 2 ^ k % 2 == 1) = false := by rw [← hcast]; generalize p / 2 ^ k = x at *; simp; omega
        have HS := Lib.hid (show Crc.flipN B at_ p (k + 1) = Crc.flipN B at_ p k by rw [Crc.flipN, if_neg (fun h => hbit h.1)])
        clear hcast hbit
        go_wp2
        go_roundw
        case rel => exact ⟨k + 1, by omega, by go_num, by rw [HS.out]; exact hR, hbut⟩
        case measure => simp [intOf]; omega
    · obtain rfl : k = 32 := by omega
      have hlA : (Crc.flipN B at_ p 32).length = 64 := (Crc.flipN_length _ _ _ _).trans HL1.out
      have HLA := Lib.hid hlA
      have hc2 := HC2.out at_ p (by omega) HP.out
      have hc3 := HC3.out at_ p (by omega) HP.out
      clear hlA HC2 HC3
      generalize Crc.flipN B at_ p 32 = A2 at *
      have HC2 := Lib.hid hc2; have HC3 := Lib.hid hc3
      clear hc2 hc3
      have hBr := hBq.but hbut (by omega)
      have hTr := hTq.but hbut (by omega)
      have hUr := hUq.but hbut (by omega)
      have hwr : Below w.heap.size w wr := But.below hwq hbut (by omega) (by omega)
      clear hAq hBq hTq hUq hwq hbut
      go_wp2_with fail
      refine (HC2.out _ _ _ _ _ _ _ (hR.sl64 HLA.out) (hBr.sl64 HL2.out)).mono ?_; rintro e w7 ⟨rfl, hb7⟩
      have hR7 := hR.ext hb7
      have hB7 := hBr.ext hb7
      have hT7 := hTr.ext hb7
      have hU7 := hUr.ext hb7
      have hw7 := hwr.trans (Below.mono hb7 hwr.size)
      have hk7 := heap_lt hU7
      have hz7 := hb7.size
      have hsz := (show (Try.prog.info? 25).map (·.size) = some 5 by kernel_rfl)
      have HSZ := Lib.hid hsz
      clear hR hBr hTr hUr hwr hb7 hsz
      go_wp2_with (first | ((show wpList _ _ _ (Oper.mk none _ _ _ _ _ :: _) _ _); go_must (apply wpList_store_row (ty := 25) (g := w5.heap.size) (t := 25) (old := #[.int .u64 gen, .int .i64 act, .int .u32 epoch, .int .i64 len, .int .u32 sum]) (cs := #[.int .u64 gen', .int .i64 act', .int .u32 epoch', .int .i64 len', .int .u32 sum']); (case hgd => rfl); (case ho => rfl); (case hx => rfl); (case hy => rfl); (case hg => exact hU7); (case hi => exact HSZ.out); (case hos => rfl); (case h1 => simp [Value.oneCell']))))
      obtain ⟨w8, hw8e⟩ : ∃ W, W = w7.setRow w5.heap.size #[.int .u64 gen', .int .i64 act', .int .u32 epoch', .int .i64 len', .int .u32 sum'] := ⟨_, rfl⟩
      have hbut8 : But w5.heap.size w7 w8 := by rw [hw8e]; exact (But.refl _ _).setRow _
      have hU8 : RowV w8 w5.heap.size #[.int .u64 gen', .int .i64 act', .int .u32 epoch', .int .i64 len', .int .u32 sum'] 25 := by rw [hw8e]; exact setRow_heap _ _ _ _ _ _ hU7
      rw [← hw8e]
      have hR8 := hR7.but hbut8 (by omega)
      have hB8 := hB7.but hbut8 (by omega)
      have hT8 := hT7.but hbut8 (by omega)
      have hw8 : Below w.heap.size w w8 := But.below hw7 hbut8 (by omega) (by omega)
      clear hw8e hR7 hB7 hT7 hU7 hw7 hbut8 hk7 hz7
      go_wp2_with fail
      refine (HC3.out _ _ _ _ _ _ _ (hB8.sl64 HL2.out) (hR8.sl64 HLA.out)).mono ?_; rintro e w9 ⟨rfl, hb9⟩
      have hT9 := hT8.ext hb9
      have hU9 := hU8.ext hb9
      have hw9 := hw8.trans (Below.mono hb9 hw8.size)
      clear hR8 hB8 hT8 hU8 hw8 hb9
      obtain ⟨W, hW⟩ : ∃ W, W = w9.alloc (.cells #[.int .u64 gen', .int .i64 act', .int .u32 epoch', .int .i64 len', .int .u32 sum'] 25) := ⟨_, rfl⟩
      have hlT9 := heap_lt hT9
      have hlU9 := heap_lt hU9
      have u0 := hU9.at 0 (.int .u64 gen') rfl
      have u1 := hU9.at 1 (.int .i64 act') rfl
      have u2 := hU9.at 2 (.int .u32 epoch') rfl
      have u3 := hU9.at 3 (.int .i64 len') rfl
      have u4 := hU9.at 4 (.int .u32 sum') rfl
      obtain ⟨r0, r1, r2, r3, r4⟩ := hT9.cells
      simp only at r0 r1 r2 r3 r4
      clear hT9 hU9 hW
      go_wp2_with (go_at_call 13; refine (sb_awake _).mono ?_; rintro e w4 ⟨rfl, hb10⟩)
      go_ret
      exact ⟨rfl, (hw9.alloc hw9.size _).trans (hb10.mono (by simp; omega))⟩
set_option maxHeartbeats 4000000 in
set_option maxRecDepth 100000 in
theorem damage_bad1 (s t : Super.S) (d0 d1 : Nat) (w : World) (hs : SIn s) (ht : SIn t) (hv : Super.valid s = false) :
    Calls Try.prog 7 #[sv s, sv t, .agg #[.int .u32 d0, .int .u32 d1]] w fun e w' => e = .returned (.bool true) ∧ Below w.heap.size w w' := by
  have he1 := sb_encode s hs.1
  have he2 := sb_encode t ht.1
  have hv1 := sref_valid s
  have hv2 := sref_valid t
  rw [hv] at hv1
  have hbx := boxes3 s t d0 d1 w
  unfold EncPost at he1 he2
  generalize (if Super.valid s = true then Super.enc s else []) = B at *
  generalize (if Super.valid t = true then Super.enc t else []) = C at *
  generalize (if Super.valid s = true then (0 : Int) else 1) = er at *
  generalize (if Super.valid t = true then (0 : Int) else 1) = er' at *
  obtain ⟨gen, act, epoch, len, sum⟩ := s
  obtain ⟨gen', act', epoch', len', sum'⟩ := t
  unfold sv at he1 he2 hv1 hv2 ⊢
  simp only at hbx
  have HE1 := Lib.hid he1; have HE2 := Lib.hid he2; have HV1 := Lib.hid hv1; have HV2 := Lib.hid hv2; have HBX := Lib.hid hbx
  clear he1 he2 hv1 hv2 hbx hs ht hv
  go_enter Try.func7, Try.ntmps7
  go_wp2_with fail
  obtain ⟨W0, hW0⟩ : ∃ W, W = ((w.alloc (.cells #[.int .u64 gen, .int .i64 act, .int .u32 epoch, .int .i64 len, .int .u32 sum] 25)).alloc (.cells #[.int .u64 gen', .int .i64 act', .int .u32 epoch', .int .i64 len', .int .u32 sum'] 25)).alloc (.cells #[.int .u32 d0, .int .u32 d1] 41) := ⟨_, rfl⟩
  obtain ⟨hw0, hS0, hT0, -⟩ := HBX.out W0 hW0
  rw [← hW0]
  clear hW0
  refine (HE1.out _).mono ?_; rintro e w1 ⟨a1, n1, c1, rfl, -, hb1, -⟩
  have hS1 := hS0.ext hb1
  have hT1 := hT0.ext hb1
  have hw1 := hw0.trans (Below.mono hb1 hw0.size)
  clear hS0 hT0 hw0 hb1
  obtain ⟨q0, q1, q2, q3, q4⟩ := hT1.cells
  simp only at q0 q1 q2 q3 q4
  go_wp2_with fail
  clear q0 q1 q2 q3 q4
  refine (HE2.out _).mono ?_; rintro e w2 ⟨a2, n2, c2, rfl, -, hb2, -⟩
  have hS2 := hS1.ext hb2
  have hT2 := hT1.ext hb2
  have hw2 := hw1.trans (Below.mono hb2 hw1.size)
  clear hS1 hT1 hw1 hb2
  obtain ⟨q0, q1, q2, q3, q4⟩ := hS2.cells
  simp only at q0 q1 q2 q3 q4
  go_wp2_with fail
  clear q0 q1 q2 q3 q4
  refine (HV1.out _).mono ?_; rintro e w3 ⟨rfl, hb3⟩
  have hT3 := hT2.ext hb3
  have hw3 := hw2.trans (Below.mono hb3 hw2.size)
  clear hS2 hT2 hw2 hb3
  go_wp2_with fail
  refine (sb_awake _).mono ?_; rintro e w4 ⟨rfl, hb4⟩
  go_wp2_with fail
  go_ret
  exact ⟨rfl, hw3.trans (Below.mono hb4 hw3.size)⟩

set_option maxHeartbeats 4000000 in
set_option maxRecDepth 100000 in
theorem damage_bad2 (s t : Super.S) (d0 d1 : Nat) (w : World) (hs : SIn s) (ht : SIn t) (hv : Super.valid s = true) (hu : Super.valid t = false) :
    Calls Try.prog 7 #[sv s, sv t, .agg #[.int .u32 d0, .int .u32 d1]] w fun e w' => e = .returned (.bool true) ∧ Below w.heap.size w w' := by
  have he1 := sb_encode s hs.1
  have he2 := sb_encode t ht.1
  have hv1 := sref_valid s
  have hv2 := sref_valid t
  rw [hv] at hv1
  rw [hu] at hv2
  have hbx := boxes3 s t d0 d1 w
  unfold EncPost at he1 he2
  generalize (if Super.valid s = true then Super.enc s else []) = B at *
  generalize (if Super.valid t = true then Super.enc t else []) = C at *
  generalize (if Super.valid s = true then (0 : Int) else 1) = er at *
  generalize (if Super.valid t = true then (0 : Int) else 1) = er' at *
  obtain ⟨gen, act, epoch, len, sum⟩ := s
  obtain ⟨gen', act', epoch', len', sum'⟩ := t
  unfold sv at he1 he2 hv1 hv2 ⊢
  simp only at hbx
  have HE1 := Lib.hid he1; have HE2 := Lib.hid he2; have HV1 := Lib.hid hv1; have HV2 := Lib.hid hv2; have HBX := Lib.hid hbx
  clear he1 he2 hv1 hv2 hbx hs ht hv hu
  go_enter Try.func7, Try.ntmps7
  go_wp2_with fail
  obtain ⟨W0, hW0⟩ : ∃ W, W = ((w.alloc (.cells #[.int .u64 gen, .int .i64 act, .int .u32 epoch, .int .i64 len, .int .u32 sum] 25)).alloc (.cells #[.int .u64 gen', .int .i64 act', .int .u32 epoch', .int .i64 len', .int .u32 sum'] 25)).alloc (.cells #[.int .u32 d0, .int .u32 d1] 41) := ⟨_, rfl⟩
  obtain ⟨hw0, hS0, hT0, -⟩ := HBX.out W0 hW0
  rw [← hW0]
  clear hW0
  refine (HE1.out _).mono ?_; rintro e w1 ⟨a1, n1, c1, rfl, -, hb1, -⟩
  have hS1 := hS0.ext hb1
  have hT1 := hT0.ext hb1
  have hw1 := hw0.trans (Below.mono hb1 hw0.size)
  clear hS0 hT0 hw0 hb1
  obtain ⟨q0, q1, q2, q3, q4⟩ := hT1.cells
  simp only at q0 q1 q2 q3 q4
  go_wp2_with fail
  clear q0 q1 q2 q3 q4
  refine (HE2.out _).mono ?_; rintro e w2 ⟨a2, n2, c2, rfl, -, hb2, -⟩
  have hS2 := hS1.ext hb2
  have hT2 := hT1.ext hb2
  have hw2 := hw1.trans (Below.mono hb2 hw1.size)
  clear hS1 hT1 hw1 hb2
  obtain ⟨q0, q1, q2, q3, q4⟩ := hS2.cells
  simp only at q0 q1 q2 q3 q4
  go_wp2_with fail
  clear q0 q1 q2 q3 q4
  refine (HV1.out _).mono ?_; rintro e w3 ⟨rfl, hb3⟩
  have hT3 := hT2.ext hb3
  have hw3 := hw2.trans (Below.mono hb3 hw2.size)
  clear hS2 hT2 hw2 hb3
  obtain ⟨q0, q1, q2, q3, q4⟩ := hT3.cells
  simp only at q0 q1 q2 q3 q4
  go_wp2_with fail
  refine (HV2.out _).mono ?_; rintro e w5 ⟨rfl, hb5⟩
  have hw5 := hw3.trans (Below.mono hb5 hw3.size)
  go_wp2_with fail
  refine (sb_awake _).mono ?_; rintro e w4 ⟨rfl, hb4⟩
  go_wp2_with fail
  go_ret
  exact ⟨rfl, hw5.trans (Below.mono hb4 hw5.size)⟩

theorem damage_law (s t : Super.S) (d0 d1 : Nat) (w : World) (hs : SIn s) (ht : SIn t) (hd0 : d0 < 4294967296) (hd1 : d1 < 4294967296) :
    Calls Try.prog 7 #[sv s, sv t, .agg #[.int .u32 d0, .int .u32 d1]] w fun e w' => e = .returned (.bool true) ∧ Below w.heap.size w w' := by
  cases hv : Super.valid s with
  | false => exact damage_bad1 s t d0 d1 w hs ht hv
  | true =>
    cases hu : Super.valid t with
    | false => exact damage_bad2 s t d0 d1 w hs ht hv hu
    | true =>
      rcases Nat.lt_trichotomy s.gen t.gen with hg | hg | hg
      · exact damage_lt s t d0 d1 w hs ht hv hu hd0 hd1 hg
      · exact damage_eq s t d0 d1 w hs ht hv hu hd0 hd1 ⟨by omega, by omega⟩
      · exact damage_gt s t d0 d1 w hs ht hv hu hd0 hd1 hg

section
open Go.ChangeShapes Go.WideShapes Go.ChangeAt
variable {H : Type} {enc : TypeId × Value → H} {w : World} {base : Nat} {spare : Nat → Bool} {held : Bool}
theorem open_pair {r : Reach} {b0 : Nat} {v : Value} {d : DataW H} {p : List MemPlace} (hv : Value.okWide Try.prog w r b0 41 v) (h : DataW.Trod enc Try.prog w base spare held 41 v d p) :
    ∃ d0 d1 : Nat, v = .agg #[.int .u32 d0, .int .u32 d1] ∧ d0 < 4294967296 ∧ d1 < 4294967296 := by
  simp only [Value.okWide, Try.underlying41] at hv
  obtain ⟨cs, rfl, hsz, _⟩ := hv
  obtain ⟨fuel, hf⟩ := h
  obtain ⟨xs, n, _, _, _, hxl, hg⟩ := DataW.trod_array Try.underlying41 hf
  have h2 : cs.size = 2 := hsz.trans (by kernel_rfl)
  have hc : Try.prog.cellsOf 23 = 1 := by kernel_rfl
  obtain ⟨l⟩ := cs
  match l, h2 with
  | [c0, c1], _ =>
    have g0 := hg 0 (by omega)
    have g1 := hg 1 (by omega)
    rw [hc] at g0 g1
    rw [List.getElem?_eq_getElem (by omega)] at g0 g1
    obtain ⟨m0, e0, _, w0⟩ := DataW.trod_int Try.underlying23 g0
    obtain ⟨m1, e1, _, w1⟩ := DataW.trod_int Try.underlying23 g1
    have f0 : c0 = .int .u32 m0 := by simpa [Value.cells] using e0
    have f1 : c1 = .int .u32 m1 := by simpa [Value.cells] using e1
    subst f0; subst f1
    simp [Lit.wf, IntKind.min, IntKind.max, IntKind.signed, IntKind.bits] at w0 w1
    obtain ⟨m0, rfl⟩ := Int.eq_ofNat_of_zero_le (show 0 ≤ m0 by omega)
    obtain ⟨m1, rfl⟩ := Int.eq_ofNat_of_zero_le (show 0 ≤ m1 by omega)
    exact ⟨m0, m1, rfl, by omega, by omega⟩
end

end Go.Proofs.Ytolagcnndepjbaa
