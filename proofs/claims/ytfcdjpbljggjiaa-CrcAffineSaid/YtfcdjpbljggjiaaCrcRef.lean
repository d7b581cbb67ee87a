/-
  The walks through the reference of the package crc.
-/
import Derived.Test.YtfcdjpbljggjiaaCrc2
import Derived.Deep.RegionHeld3
import Derived.Deep.MidRow
namespace Go.Proofs.Ytfcdjpbljggjiaa
open Go.RowKit

theorem crc_sum (a : Option Addr) (n c : Nat) (l : List UInt8) (w : World) (h : SlB w a n c l) :
    Calls Try.prog 11 #[.slice a n c] w fun e w' => e = .returned (.int .u32 (Crc.update 0 l)) ∧ w = w' := by
  go_enter Try.func11, Try.ntmps11
  go_wp2_with (go_at_call 13; refine (crc_update 0 (by decide) a n c l _ h).mono ?_; rintro e w' ⟨rfl, rfl⟩)
  go_ret
  exact ⟨rfl, rfl⟩

theorem ref_step (c : Nat) (hc : c < 4294967296) (w : World) :
    Calls Try.prog 23 #[.int .u32 c] w fun e w' => e = .returned (.int .u32 (Crc.step c)) ∧ w = w' := by
  by_cases h : c % 2 = 0
  · have hb2 : ((c : Int) % 2 == 0) = true := by simp; omega
    have hs : Crc.step c = c / 2 := by simp [Crc.step, h]
    rw [hs]; clear hs h
    go_enter Try.func23, Try.ntmps23
    go_wp2
    go_ret
    exact ⟨by simp, rfl⟩
  · have hb2 : ((c : Int) % 2 == 0) = false := by simp; omega
    have hx : bits BinOp.xor IntKind.u32 ((c : Int) / 2) 3988292384 = ((c / 2 ^^^ 3988292384 : Nat) : Int) := by
      have := u32_xor_nat (c / 2) 3988292384 (by omega) (by decide); simpa using this
    have hs : Crc.step c = c / 2 ^^^ 3988292384 := by simp [Crc.step, h]
    rw [hs]; have Hx := Lib.hid hx; clear hs h hx
    go_enter Try.func23, Try.ntmps23
    go_wp2
    go_ret
    exact ⟨by rw [Hx.out]; rfl, rfl⟩

theorem ref_update (s : Nat) (hs : s < 4294967296) (a : Option Addr) (n c : Nat) (l : List UInt8) (w : World) (h : SlB w a n c l) :
    Calls Try.prog 14 #[.int .u32 s, .slice a n c] w fun e w' => e = .returned (.int .u32 (Crc.update s l)) ∧ w = w' := by
  have hle := h.le
  have hn := not32 s hs
  have hfin : ∀ x : Nat, x < 4294967296 → x = l.foldl Crc.byte (4294967295 - s) → bits BinOp.xor IntKind.u32 4294967295 (x : Int) = ((Crc.update s l : Nat) : Int) := by
    intro x hx e; rw [not32 x hx, Crc.update, e]
  have Hfin := Lib.hid hfin; clear hfin
  go_enter Try.func14, Try.ntmps14
  go_wp2
  go_loop [5, 6] (fun x i => ∃ k : Nat, k ≤ n ∧ i = .int .i64 k ∧ x = .int .u32 ((l.take k).foldl Crc.byte (4294967295 - s) : Nat)) (fun _ i => n - (intOf i).toNat)
  case atStart => exact ⟨0, Nat.zero_le _, rfl, by simp⟩
  case round =>
    obtain ⟨k, hk, rfl, rfl⟩ := hrel
    by_cases hlt : k < n
    · obtain ⟨b, o, rfl, hb, hkl, hcell⟩ := h.at hlt
      have HS := Lib.hid (fold_snoc l (4294967295 - s) hkl)
      have hy : (l.take k).foldl Crc.byte (4294967295 - s) < 4294967296 := Crc.fold_lt _ (by omega)
      generalize (l.take k).foldl Crc.byte (4294967295 - s) = y at *
      generalize l[k]?.getD 0 = q at *
      have hbb : q.toNat < 256 := UInt8.toNat_lt _
      have hmod : (q.toNat : Int) % 4294967296 = q.toNat := by omega
      have hxor := u32_xor_nat y q.toNat hy (by omega)
      have hxl := Crc.xor_lt hy (show q.toNat < 4294967296 by omega)
      go_wp2
      go_loop [5, 7] (fun x i => ∃ j : Nat, j ≤ 8 ∧ i = .int .i64 j ∧ x = .int .u32 (Crc.steps j (y ^^^ q.toNat) : Nat)) (fun _ i => 8 - (intOf i).toNat)
      case atStart => exact ⟨0, Nat.zero_le _, rfl, rfl⟩
      case round =>
        obtain ⟨j, hj, rfl, rfl⟩ := hrel
        by_cases hj8 : j < 8
        · go_wp2_with (go_at_call 23; refine (ref_step _ (Crc.steps_lt j hxl) _).mono ?_; rintro e w' ⟨rfl, rfl⟩)
          go_round
          case rel => exact ⟨j + 1, by omega, by go_num, by rw [← steps_snoc]⟩
          case measure => simp [intOf]; omega
        · obtain rfl : j = 8 := by omega
          go_wp2
          go_round
          case rel => exact ⟨k + 1, by omega, by go_num, by rw [HS.out]; rfl⟩
          case measure => simp [intOf]; omega
    · go_wp2
      go_ret
      have : k = n := by omega
      subst this
      refine ⟨?_, rfl⟩
      rw [← Hfin.out _ (Crc.fold_lt l (by omega)) rfl, List.take_of_length_le (by rw [h.len]; exact Nat.le_refl _)]
      rfl

theorem ref_sum (a : Option Addr) (n c : Nat) (l : List UInt8) (w : World) (h : SlB w a n c l) :
    Calls Try.prog 12 #[.slice a n c] w fun e w' => e = .returned (.int .u32 (Crc.update 0 l)) ∧ w = w' := by
  go_enter Try.func12, Try.ntmps12
  go_wp2_with (go_at_call 14; refine (ref_update 0 (by decide) a n c l _ h).mono ?_; rintro e w' ⟨rfl, rfl⟩)
  go_ret
  exact ⟨rfl, rfl⟩

theorem ref_apply (A : Array Value) (m : Nat → Nat) (v : Nat) (hA : IsMat A m) (w : World) :
    Calls Try.prog 26 #[.agg A, .int .u32 v] w fun e w' => e = .returned (.int .u32 (Crc.applyN m v 32)) ∧ w' = w.alloc (.cells A 41) := by
  go_enter Try.func26, Try.ntmps26
  go_wp2
  go_loop [5, 6] (fun x i => ∃ k : Nat, k ≤ 32 ∧ i = .int .i64 k ∧ x = .int .u32 (Crc.applyN m v k : Nat)) (fun _ i => 32 - (intOf i).toNat)
  case atStart => exact ⟨0, Nat.zero_le _, rfl, rfl⟩
  case round =>
    obtain ⟨k, hk, rfl, rfl⟩ := hrel
    by_cases hlt : k < 32
    · obtain ⟨hAk, hml⟩ := hA.2 k hlt
      have hxl := Crc.applyN_lt v k hk (fun i hi => (hA.2 i hi).2)
      have hcast : ((v / 2 ^ k : Nat) : Int) = (v : Int) / 2 ^ k := by simp
      have hnn : (0 : Int) ≤ (v : Int) / 2 ^ k := by rw [← hcast]; exact Int.natCast_nonneg _
      by_cases hbit : v / 2 ^ k % 2 = 1
      · have ht : ((v : Int) / 2 ^ k % 2 == 1) = true := by rw [← hcast]; generalize v / 2 ^ k = x at *; simp; omega
        have hs : Crc.applyN m v (k + 1) = Crc.applyN m v k ^^^ m k := by simp [Crc.applyN, hbit]
        have HS := Lib.hid hs; have HX := Lib.hid (u32_xor_nat _ _ hxl hml)
        clear hs hbit hcast
        generalize Crc.applyN m v k = x at *
        go_wp2
        go_round
        case rel => exact ⟨k + 1, by omega, by go_num, by rw [HS.out, ← HX.out]⟩
        case measure => simp [intOf]; omega
      · have ht : ((v : Int) / 2 ^ k % 2 == 1) = false := by rw [← hcast]; generalize v / 2 ^ k = x at *; simp; omega
        have hs : Crc.applyN m v (k + 1) = Crc.applyN m v k := by simp [Crc.applyN, hbit]
        have HS := Lib.hid hs
        clear hs hbit hcast
        generalize Crc.applyN m v k = x at *
        go_wp2
        go_round
        case rel => exact ⟨k + 1, by omega, by go_num, by rw [HS.out]⟩
        case measure => simp [intOf]; omega
    · obtain rfl : k = 32 := by omega
      go_wp2
      go_ret
      exact ⟨rfl, rfl⟩

/-- The inner loop of the reference's Combine: the blocks of the map C and of its square D. -/
def TwiceAt (H K : Nat) (C D : Array Value) (w wr : World) : Prop :=
  wr.heap[K]? = some (.cells D 41 (0, 0)) ∧ wr.heap[H]? = some (.cells C 41 (0, 0)) ∧ Below H w wr
def TwiceRel (H K : Nat) (C : Array Value) (m : Nat → Nat) (w : World) (k : Nat) (wr : World) : Prop :=
  ∃ D : Array Value, D.size = 32 ∧ (∀ j, j < k → D[j]? = some (.int .u32 (Crc.applyN m (m j) 32 : Nat))) ∧ TwiceAt H K C D w wr

theorem heap_drew_at (w : World) (k : Nat) : w.drew.heap[k]? = w.heap[k]? := rfl

theorem rowS {H : Nat} {C : Array Value} {m : Nat → Nat} {k : Nat} {wr : World} (hC : IsMat C m) (hk : k < 32) (hH : wr.heap[H]? = some (.cells C 41 (0, 0))) :
    wr.heap[H]? = some (.cells C 41 (0, 0)) ∧ wr.rangeAt H 0 C.toList ∧ wr.cell? ⟨H, k, none⟩ = some (.int .u32 (m k : Nat)) := by
  refine ⟨hH, ?_, ?_⟩
  · intro j v hv
    rw [Nat.zero_add, cell_of_row _ _ _ _ _ _ hH, ← hv]; simp
  · rw [cell_of_row _ _ _ _ _ _ hH]; exact (hC.2 k hk).1

theorem TwiceRel.next {H K : Nat} {C D : Array Value} {m : Nat → Nat} {w : World} {k : Nat} {wr : World} (hD : D.size = 32) (hj : ∀ j, j < k → D[j]? = some (.int .u32 (Crc.applyN m (m j) 32 : Nat)))
    (h : TwiceAt H K C D w wr) (hk : k < 32) (hHK : H < K) (o : Obj) :
    TwiceRel H K C m w (k + 1) (((wr.setCell ⟨K, k, none⟩ (.int .u32 (Crc.applyN m (m k) 32 : Nat))).alloc o).drew) := by
  obtain ⟨hK, hH, hb⟩ := h
  have h1 := heap_lt hK
  have h2 := heap_lt hH
  refine ⟨D.setIfInBounds k (.int .u32 (Crc.applyN m (m k) 32 : Nat)), by simp [hD], ?_, (heap_alloc_lt _ _ _ (by simp; omega)).trans (heap_setCell_same _ _ _ _ _ _ hK), (heap_alloc_lt _ _ _ (by simp; omega)).trans ((heap_setCell_other _ _ _ _ (by simp; omega)).trans hH), ((hb.setCell (by simp; omega) _).alloc (by simp; omega) _).drew⟩
  intro j hjk
  by_cases e : j = k
  · subst e; rw [Array.getElem?_setIfInBounds_self_of_lt (by omega)]
  · rw [Array.getElem?_setIfInBounds_ne (by omega)]; exact hj j (by omega)

theorem ref_combine (a b : Nat) (n : Int) (ha : a < 4294967296) (hb' : b < 4294967296) (hn : n ≤ 9223372036854775807) (w : World) :
    Calls Try.prog 17 #[.int .u32 a, .int .u32 b, .int .i64 n] w fun e w' => e = .returned (.int .u32 (Crc.combine a b n.toNat)) ∧ Below w.heap.size w w' := by
  have HSZ : Hid (∀ X : Array Value, X.size = 32 → (Try.prog.info? 41).map (·.size) = some X.size) := Lib.hid fun X hX => by rw [hX]; kernel_rfl
  go_enter Try.func17, Try.ntmps17
  go_wp2
  go_loopw [8] (fun i wr => ∃ k : Nat, k ≤ 32 ∧ i = .int .i64 k ∧ FillRel 41 w.heap.size w k wr) (fun i _ => 32 - (intOf i).toNat)
  case atStart => exact ⟨0, Nat.zero_le _, rfl, _, rfl, fun j hj => absurd hj (Nat.not_lt_zero _), heap_alloc_eq _ _ _ rfl, (Below.refl _ _).alloc (Nat.le_refl _) _⟩
  case round =>
    obtain ⟨k, hk, rfl, hR⟩ := hrel
    by_cases hlt : k < 32
    · have hp : (2 : Nat) ^ k < 4294967296 := Nat.lt_of_lt_of_eq (Nat.pow_lt_pow_right (a := 2) (by decide) hlt) (by decide)
      obtain ⟨C, hC, hj, h0, hbl⟩ := id hR
      have HR := Lib.hid hR; clear hR hj
      have hc3 : wr.cell? ⟨w.heap.size, k, none⟩ = some (C[k]?.getD undef) := by
        rw [cell_of_row _ _ _ _ _ _ h0, Array.getElem?_eq_getElem (by omega)]; rfl
      have hf3 : wr.frozen? ⟨w.heap.size, k, none⟩ = false := frozen_of_row _ _ _ _ _ h0
      clear h0
      have hpm : (2 : Int) ^ k % 4294967296 = ((2 ^ k : Nat) : Int) := by
        have e : ((2 ^ k : Nat) : Int) = (2 : Int) ^ k := by simp
        rw [← e]; generalize 2 ^ k = x at *; omega
      have hd : decide ((k : Int) < 32) = true := by simp; omega
      have HPM := Lib.hid hpm; clear hpm
      go_wp2
      go_loop [9, 10] (fun x i => ∃ j : Nat, j ≤ 8 ∧ i = .int .i64 j ∧ x = .int .u32 (Crc.steps j (2 ^ k) : Nat)) (fun _ i => 8 - (intOf i).toNat)
      case atStart => exact ⟨0, Nat.zero_le _, rfl, by rw [HPM.out]; rfl⟩
      case round =>
        obtain ⟨j, hj, rfl, rfl⟩ := hrel
        by_cases hj8 : j < 8
        · go_wp2_with (go_at_call 23; refine (ref_step _ (Crc.steps_lt j hp) _).mono ?_; rintro e w' ⟨rfl, rfl⟩)
          go_round
          case rel => exact ⟨j + 1, by omega, by go_num, by rw [← steps_snoc]⟩
          case measure => simp [intOf]; omega
        · obtain rfl : j = 8 := by omega
          go_wp2
          go_roundw
          case rel => exact ⟨k + 1, by omega, by go_num, HR.out.next hlt⟩
          case measure => simp [intOf]; omega
    · have hd : decide ((k : Int) < 32) = false := by simp; omega
      have hR32 : FillRel 41 w.heap.size w 32 wr := by rw [show (32 : Nat) = k by omega]; exact hR
      go_wp2
      go_loopw [0, 2] (fun x i wr => ∃ (kk : Int) (a' : Nat), i = .int .i64 kk ∧ kk ≤ 9223372036854775807 ∧ x = .int .u32 a' ∧ a' < 4294967296 ∧ PowRel 41 w.heap.size w (Crc.steps (8 * n.toNat) a) kk.toNat a' wr) (fun _ i _ => (intOf i).toNat)
      case atStart => exact ⟨n, a, rfl, hn, rfl, ha, PowRel.start hR32 _ _⟩
      case round =>
        obtain ⟨kk, a', rfl, hkk, rfl, ha', q, C, hq, hC, hh, hb⟩ := hrel
        have HH := Lib.hid hh; clear hh
        have HQ := Lib.hid hq; clear hq
        have HC := Lib.hid (HSZ.out C hC.1)
        have hlt2 := heap_lt HH.out
        by_cases h0 : kk ≤ 0
        · have hfin : Crc.combine a b n.toNat = a' ^^^ b := by unfold Crc.combine; rw [← HQ.out, show kk.toNat = 0 by omega]; rfl
          have HF := Lib.hid hfin; clear hfin
          have Hx := Lib.hid (u32_xor_nat a' b ha' hb')
          go_wp2
          go_ret
          exact ⟨by rw [HF.out, ← Hx.out]; rfl, hb⟩
        · obtain ⟨kn, rfl⟩ := Int.eq_ofNat_of_zero_le (show 0 ≤ kk by omega)
          have hp : (0 : Int) < (kn : Int) := by omega
          have HAP := Lib.hid (Crc.applyN_steps q a' ha')
          by_cases hodd : kn % 2 = 1
          · have ht : ((kn : Int) % 2 == 1) = true := by simp; omega
            have HO := Lib.hid hodd; clear hodd
            go_wp2_with (first | (refine wpList_load_row rfl 41 _ rfl w.heap.size rfl 41 C (0, 0) _ HH.out Try.underlying41 rfl HC.out ?_) | (go_at_call 26; refine (ref_apply C _ a' hC _).mono ?_; rintro e w1 ⟨rfl, rfl⟩))
            obtain ⟨wo, rfl⟩ : ∃ wo : World, wo = wr := ⟨_, rfl⟩
            go_loopw [12] (fun i w3 => ∃ j : Nat, j ≤ 32 ∧ i = .int .i64 j ∧ TwiceRel w.heap.size (wo.heap.size + 1) C (fun j => Crc.steps q (2 ^ j)) w j w3) (fun i _ => 32 - (intOf i).toNat)
            case atStart => exact ⟨0, Nat.zero_le _, rfl, _, rfl, fun j hj => absurd hj (Nat.not_lt_zero _), heap_alloc_eq _ _ _ (by simp), (heap_alloc_lt _ _ _ (by simp; omega)).trans ((heap_alloc_lt _ _ _ hlt2).trans HH.out), (hb.alloc (Nat.le_of_lt hlt2) _).alloc (by simp; omega) _⟩
            case round =>
              obtain ⟨j, hj, rfl, hT⟩ := hrel
              by_cases hj32 : j < 32
              · have hd2 : decide ((j : Int) < 32) = true := by simp; omega
                obtain ⟨D, hD, hDj, hT⟩ := hT
                have hS := rowS hC hj32 hT.2.1
                have hcK : wr.cell? ⟨wo.heap.size + 1, j, none⟩ = some (D[j]?.getD undef) := by
                  rw [cell_of_row _ _ _ _ _ _ hT.1, Array.getElem?_eq_getElem (by omega)]; rfl
                have hfK := frozen_of_row _ _ j _ _ hT.1
                have hKs := heap_lt hT.1
                have hdj := (hC.2 j hj32).1
                have HDJ := Lib.hid hDj; have HT := Lib.hid hT; clear hDj hT
                have hj0 : (0 : Int) ≤ (j : Int) := Int.natCast_nonneg _
                have hj1 : (j : Int) < 32 := by omega
                have hu41 := Try.underlying41
                have hi41 : (Try.prog.info? 41).map (·.size) = some C.toList.length := by rw [Array.length_toList]; exact HC.out
                go_wp2
                go_region_held3 (fun w' => w'.heap[w.heap.size]? = some (.cells C 41 (0, 0)) ∧ w'.rangeAt w.heap.size 0 C.toList ∧ w'.cell? ⟨w.heap.size, j, none⟩ = some (.int .u32 (Crc.steps q (2 ^ j) : Nat))) (first | exact rowS hC hj32 hS.1 | exact rowS hC hj32 ((heap_drew_at _ _).trans ((heap_alloc_lt wr _ _ (by omega)).trans hS.1)) | exact rowS hC hj32 ((heap_drew_at _ _).trans ((heap_alloc_lt (wr.setCell _ _) _ _ (by simp; omega)).trans ((heap_setCell_other wr _ _ _ (by simp; omega)).trans hS.1)))) (first | (go_at_call 26; refine (ref_apply C _ _ hC _).mono ?_; rintro e w1 ⟨rfl, rfl⟩))
                go_wp2
                go_roundw
                case rel => exact ⟨j + 1, by omega, by go_num, TwiceRel.next hD HDJ.out HT.out hj32 (by omega) _⟩
                case measure => simp [intOf]; omega
              · have hT32 : TwiceRel w.heap.size (wo.heap.size + 1) C (fun j => Crc.steps q (2 ^ j)) w 32 wr := by rw [show (32 : Nat) = j by omega]; exact hT
                clear hT
                obtain ⟨D, hD, hDj, hK, hH, hb2⟩ := hT32
                have HK := Lib.hid hK; have HH2 := Lib.hid hH; have HD := Lib.hid (HSZ.out D hD); clear hK hH
                have hDm : IsMat D (fun j => Crc.applyN (fun j => Crc.steps q (2 ^ j)) (Crc.steps q (2 ^ j)) 32) := ⟨hD, fun i hi => ⟨hDj i hi, Crc.applyN_lt _ _ (Nat.le_refl _) fun i hi => (hC.2 i hi).2⟩⟩
                clear hDj
                go_wp2_with (first | (refine wpList_load_row rfl 41 _ rfl (wo.heap.size + 1) rfl 41 D (0, 0) _ HK.out Try.underlying41 rfl HD.out ?_) | (refine wpList_store_row rfl 41 _ _ rfl w.heap.size rfl 41 C D rfl HH2.out HD.out (hC.1.trans hD.symm) hDm.ones ?_))
                go_roundw
                case rel =>
                  refine ⟨_, _, rfl, by omega, rfl, Crc.applyN_lt _ _ (Nat.le_refl _) fun i hi => (hC.2 i hi).2, PowRel.next2 HH2.out hb2 hDm ?_⟩
                  rw [← HQ.out, HAP.out, show ((kn : Int) / 2).toNat = kn / 2 by omega, show ((kn : Int)).toNat = kn by omega, Crc.steps_odd q kn a' HO.out]
                case measure => simp [intOf]; omega
          · have ht : ((kn : Int) % 2 == 1) = false := by simp; omega
            have HO := Lib.hid hodd; clear hodd
            go_wp2
            obtain ⟨wo, rfl⟩ : ∃ wo : World, wo = wr := ⟨_, rfl⟩
            go_loopw [12] (fun i w3 => ∃ j : Nat, j ≤ 32 ∧ i = .int .i64 j ∧ TwiceRel w.heap.size (wo.heap.size) C (fun j => Crc.steps q (2 ^ j)) w j w3) (fun i _ => 32 - (intOf i).toNat)
            case atStart => exact ⟨0, Nat.zero_le _, rfl, _, rfl, fun j hj => absurd hj (Nat.not_lt_zero _), heap_alloc_eq _ _ _ (by simp), (heap_alloc_lt _ _ _ hlt2).trans HH.out, hb.alloc (Nat.le_of_lt hlt2) _⟩
            case round =>
              obtain ⟨j, hj, rfl, hT⟩ := hrel
              by_cases hj32 : j < 32
              · have hd2 : decide ((j : Int) < 32) = true := by simp; omega
                obtain ⟨D, hD, hDj, hT⟩ := hT
                have hS := rowS hC hj32 hT.2.1
                have hcK : wr.cell? ⟨wo.heap.size, j, none⟩ = some (D[j]?.getD undef) := by
                  rw [cell_of_row _ _ _ _ _ _ hT.1, Array.getElem?_eq_getElem (by omega)]; rfl
                have hfK := frozen_of_row _ _ j _ _ hT.1
                have hKs := heap_lt hT.1
                have hdj := (hC.2 j hj32).1
                have HDJ := Lib.hid hDj; have HT := Lib.hid hT; clear hDj hT
                have hj0 : (0 : Int) ≤ (j : Int) := Int.natCast_nonneg _
                have hj1 : (j : Int) < 32 := by omega
                have hu41 := Try.underlying41
                have hi41 : (Try.prog.info? 41).map (·.size) = some C.toList.length := by rw [Array.length_toList]; exact HC.out
                go_wp2
                go_region_held3 (fun w' => w'.heap[w.heap.size]? = some (.cells C 41 (0, 0)) ∧ w'.rangeAt w.heap.size 0 C.toList ∧ w'.cell? ⟨w.heap.size, j, none⟩ = some (.int .u32 (Crc.steps q (2 ^ j) : Nat))) (first | exact rowS hC hj32 hS.1 | exact rowS hC hj32 ((heap_drew_at _ _).trans ((heap_alloc_lt wr _ _ (by omega)).trans hS.1)) | exact rowS hC hj32 ((heap_drew_at _ _).trans ((heap_alloc_lt (wr.setCell _ _) _ _ (by simp; omega)).trans ((heap_setCell_other wr _ _ _ (by simp; omega)).trans hS.1)))) (first | (go_at_call 26; refine (ref_apply C _ _ hC _).mono ?_; rintro e w1 ⟨rfl, rfl⟩))
                go_wp2
                go_roundw
                case rel => exact ⟨j + 1, by omega, by go_num, TwiceRel.next hD HDJ.out HT.out hj32 (by omega) _⟩
                case measure => simp [intOf]; omega
              · have hT32 : TwiceRel w.heap.size (wo.heap.size) C (fun j => Crc.steps q (2 ^ j)) w 32 wr := by rw [show (32 : Nat) = j by omega]; exact hT
                clear hT
                obtain ⟨D, hD, hDj, hK, hH, hb2⟩ := hT32
                have HK := Lib.hid hK; have HH2 := Lib.hid hH; have HD := Lib.hid (HSZ.out D hD); clear hK hH
                have hDm : IsMat D (fun j => Crc.applyN (fun j => Crc.steps q (2 ^ j)) (Crc.steps q (2 ^ j)) 32) := ⟨hD, fun i hi => ⟨hDj i hi, Crc.applyN_lt _ _ (Nat.le_refl _) fun i hi => (hC.2 i hi).2⟩⟩
                clear hDj
                go_wp2_with (first | (refine wpList_load_row rfl 41 _ rfl (wo.heap.size) rfl 41 D (0, 0) _ HK.out Try.underlying41 rfl HD.out ?_) | (refine wpList_store_row rfl 41 _ _ rfl w.heap.size rfl 41 C D rfl HH2.out HD.out (hC.1.trans hD.symm) hDm.ones ?_))
                go_roundw
                case rel =>
                  refine ⟨_, _, rfl, by omega, rfl, ha', PowRel.next2 HH2.out hb2 hDm ?_⟩
                  rw [← HQ.out, show ((kn : Int) / 2).toNat = kn / 2 by omega, show ((kn : Int)).toNat = kn by omega, Crc.steps_even q kn a' (by have := HO.out; omega)]
                case measure => simp [intOf]; omega

end Go.Proofs.Ytfcdjpbljggjiaa
