/-
  The walks through the matrices of the package crc.
-/
import Derived.Test.YtfcdjpbljggjiaaCrc
import Derived.Lib.RabinKarpLaws
namespace Go.Proofs.Ytfcdjpbljggjiaa
open Go.RowKit

/-- The array holds the images of the bits. -/
def IsMat (A : Array Value) (m : Nat → Nat) : Prop := A.size = 32 ∧ ∀ i, i < 32 → A[i]? = some (.int .u32 (m i : Int)) ∧ m i < 4294967296

theorem crc_apply (A : Array Value) (m : Nat → Nat) (v : Nat) (hv : v < 4294967296) (hA : IsMat A m) (w : World) :
    Calls Try.prog 24 #[.agg A, .int .u32 v] w fun e w' => e = .returned (.int .u32 (Crc.applyN m v 32)) ∧ w' = w.alloc (.cells A 42) := by
  go_enter Try.func24, Try.ntmps24
  go_wp2
  go_loop [5, 7] (fun x i => ∃ k : Nat, k ≤ 32 ∧ i = .int .i64 k ∧ x = .int .u32 (Crc.applyN m v k : Nat)) (fun _ i => 32 - (intOf i).toNat)
  case atStart => exact ⟨0, Nat.zero_le _, rfl, rfl⟩
  case round =>
    obtain ⟨k, hk, rfl, rfl⟩ := hrel
    by_cases hlt : k < 32
    · obtain ⟨hAk, hml⟩ := hA.2 k hlt
      have hxl := Crc.applyN_lt v k hk (fun i hi => (hA.2 i hi).2)
      have hdiv : v / 2 ^ k < 4294967296 := Nat.lt_of_le_of_lt (Nat.div_le_self _ _) hv
      have hand := u32_and_nat (v / 2 ^ k) 1 hdiv (by decide)
      rw [nat_mask1] at hand
      have hcast : ((v / 2 ^ k : Nat) : Int) = (v : Int) / 2 ^ k := by simp
      rw [hcast] at hand
      by_cases hbit : v / 2 ^ k % 2 = 1
      · have ht : (bits BinOp.and IntKind.u32 ((v : Int) / 2 ^ k) 1 == 1) = true := by
          rw [show (1 : Int) = ((1 : Nat) : Int) from rfl, hand, hbit]; rfl
        have hs : Crc.applyN m v (k + 1) = Crc.applyN m v k ^^^ m k := by simp [Crc.applyN, hbit]
        have HS := Lib.hid hs; have HX := Lib.hid (u32_xor_nat _ _ hxl hml)
        clear hs hbit hand hcast
        generalize Crc.applyN m v k = x at *
        go_wp2
        go_round
        case rel => exact ⟨k + 1, by omega, by go_num, by rw [HS.out, ← HX.out]⟩
        case measure => simp [intOf]; omega
      · have ht : (bits BinOp.and IntKind.u32 ((v : Int) / 2 ^ k) 1 == 1) = false := by
          have h0 : v / 2 ^ k % 2 = 0 := by omega
          rw [show (1 : Int) = ((1 : Nat) : Int) from rfl, hand, h0]; rfl
        have hs : Crc.applyN m v (k + 1) = Crc.applyN m v k := by simp [Crc.applyN, hbit]
        have HS := Lib.hid hs
        clear hs hbit hand hcast
        generalize Crc.applyN m v k = x at *
        go_wp2
        go_round
        case rel => exact ⟨k + 1, by omega, by go_num, by rw [HS.out]⟩
        case measure => simp [intOf]; omega
    · obtain rfl : k = 32 := by omega
      go_wp2
      go_ret
      exact ⟨rfl, rfl⟩

/-- After k rounds the array holds the images of the first k bits. -/
def AfterRel (H : Nat) (A : Array Value) (m n : Nat → Nat) (w : World) (k : Nat) (wr : World) : Prop :=
  ∃ C Z : Array Value, C.size = 32 ∧ Z.size = 32 ∧ (∀ j, j < k → C[j]? = some (.int .u32 (Crc.applyN m (n j) 32 : Nat))) ∧ wr.heap[H + 3]? = some (.cells C 42 (0, 0)) ∧
    wr.heap[H]? = some (.cells A 42 (0, 0)) ∧ wr.heap[H + 2]? = some (.cells Z 42 (0, 0)) ∧ H + 3 < wr.heap.size ∧ Below H w wr

theorem AfterRel.next {H : Nat} {A : Array Value} {m n : Nat → Nat} {w : World} {k : Nat} {wr : World} (h : AfterRel H A m n w k wr) (hk : k < 32) (o : Obj) :
    AfterRel H A m n w (k + 1) ((wr.setCell ⟨H + 3, k, none⟩ (.int .u32 (Crc.applyN m (n k) 32 : Nat))).alloc o) := by
  obtain ⟨C, Z, hC, hZ, hj, h3, h0, h2, hs, hb⟩ := h
  refine ⟨C.setIfInBounds k (.int .u32 (Crc.applyN m (n k) 32 : Nat)), Z, by simp [hC], hZ, ?_, ?_, ?_, ?_, by simp; omega, ?_⟩
  · intro j hjk
    by_cases e : j = k
    · subst e; rw [Array.getElem?_setIfInBounds_self_of_lt (by omega)]
    · rw [Array.getElem?_setIfInBounds_ne (by omega)]; exact hj j (by omega)
  · rw [heap_alloc_lt _ _ _ (by simp; omega), heap_setCell_same _ _ _ _ _ _ h3]
  · rw [heap_alloc_lt _ _ _ (by simp; omega), heap_setCell_other _ _ _ _ (by simp)]; exact h0
  · rw [heap_alloc_lt _ _ _ (by simp; omega), heap_setCell_other _ _ _ _ (by simp)]; exact h2
  · exact (hb.setCell (by simp) _).alloc (by simp; omega) _

theorem AfterRel.start {H : Nat} {A B C Z : Array Value} {m n : Nat → Nat} {w : World} (hH : H = w.heap.size) (hC : C.size = 32) (hZ : Z.size = 32) :
    AfterRel H A m n w 0 ((((w.alloc (.cells A 42)).alloc (.cells B 42)).alloc (.cells Z 42)).alloc (.cells C 42)) := by
  subst hH
  refine ⟨C, Z, hC, hZ, fun j hj => absurd hj (Nat.not_lt_zero _), ?_, ?_, ?_, by simp, ?_⟩
  · exact heap_alloc_eq _ _ _ (by simp)
  · rw [heap_alloc_lt _ _ _ (by simp; omega), heap_alloc_lt _ _ _ (by simp; omega), heap_alloc_lt _ _ _ (by simp)]; exact heap_alloc_eq _ _ _ rfl
  · rw [heap_alloc_lt _ _ _ (by simp)]; exact heap_alloc_eq _ _ _ (by simp)
  · exact (((((Below.refl _ _).alloc (Nat.le_refl _) _).alloc (by simp) _).alloc (by simp; omega) _).alloc (by simp; omega) _)

theorem crc_after (A B : Array Value) (m n : Nat → Nat) (hA : IsMat A m) (hB : IsMat B n) (w : World) :
    Calls Try.prog 25 #[.agg A, .agg B] w fun e w' => ∃ C, e = .returned (.agg C) ∧ IsMat C (fun j => Crc.applyN m (n j) 32) ∧ Below w.heap.size w w' := by
  have hsz : ∀ X : Array Value, X.size = 32 → (Try.prog.info? 42).map (·.size) = some X.size := fun X hX => by rw [hX]; kernel_rfl
  have hsA := hsz A hA.1
  have hsB := hsz B hB.1
  have HA := Lib.hid hsA; have HB := Lib.hid hsB; have HS := Lib.hid hsz; clear hsA hsB hsz
  go_enter Try.func25, Try.ntmps25
  go_wp2_with (refine wpList_load_row rfl 42 _ rfl (w.heap.size + 1) rfl 42 B (0, 0) _ ?h1 Try.underlying42 rfl HB.out ?_)
  case h1 =>
    simp only [heap_alloc_if, World.size_alloc]
    repeat (first | rfl | rw [if_neg (by omega)] | rw [if_pos (by omega)])
  go_loopw [9] (fun i wr => ∃ k : Nat, k ≤ 32 ∧ i = .int .i64 k ∧ AfterRel w.heap.size A m n w k wr) (fun i _ => 32 - (intOf i).toNat)
  case atStart =>
    exact ⟨0, Nat.zero_le _, rfl, AfterRel.start rfl rfl rfl⟩
  case round =>
    obtain ⟨k, hk, rfl, hR⟩ := hrel
    by_cases hlt : k < 32
    · obtain ⟨hBk, hnl⟩ := hB.2 k hlt
      have hix : ∀ wx, (Instr.index 42 (.agg B) (.int .i64 k)).run Try.prog wx = .ok (.int .u32 (n k : Nat)) wx := by
        exact fun wx => run_index_arr Try.underlying42 (by kernel_rfl) (by kernel_rfl) hlt hBk wx
      obtain ⟨C, Z, hC, hZ, hj, h3, h0, h2, hs, hb⟩ := id hR
      have HR := Lib.hid hR; clear hR
      have hc3 : wr.cell? ⟨w.heap.size + 3, k, none⟩ = some (C[k]?.getD undef) := by
        rw [cell_of_row _ _ _ _ _ _ h3, Array.getElem?_eq_getElem (by omega)]; rfl
      have hf3 : wr.frozen? ⟨w.heap.size + 3, k, none⟩ = false := frozen_of_row _ _ _ _ _ h3
      have H3 := Lib.hid h3; have H0 := Lib.hid h0; have H2 := Lib.hid h2; clear h3 h0 h2
      go_wp2_with (first | (refine wpList_load_row rfl 42 _ rfl w.heap.size rfl 42 A (0, 0) _ H0.out Try.underlying42 rfl HA.out ?_) | (go_at_call 24; refine (crc_apply A m (n k) hnl hA _).mono ?_; rintro e w1 ⟨rfl, rfl⟩))
      go_roundw
      case rel => exact ⟨k + 1, by omega, by go_num, HR.out.next hlt _⟩
      case measure => simp [intOf]; omega
    · obtain rfl : k = 32 := by omega
      obtain ⟨C, Z, hC, hZ, hj, h3, h0, h2, hs, hb⟩ := hR
      have H3 := Lib.hid h3; have H2 := Lib.hid h2; clear h3 h0 h2
      have HC := Lib.hid (HS.out C hC)
      have hca : C.all (·.oneCell') = true := by
        rw [Array.all_eq_true]; intro i hi
        have := hj i (by omega); rw [Array.getElem?_eq_getElem hi] at this; injection this with this; rw [this]; rfl
      go_wp2_with (first | (refine wpList_load_row rfl 42 _ rfl (w.heap.size + 3) rfl 42 C (0, 0) _ H3.out Try.underlying42 rfl HC.out ?_) | (refine wpList_store_row rfl 42 _ _ rfl (w.heap.size + 2) rfl 42 Z C rfl H2.out HC.out (hZ.trans hC.symm) hca ?_))
      refine bodyPost_ret (v := .agg C) (results_cell_row Try.results25 _ _ (w.heap.size + 2) 42 C (0, 0) _ rfl (setRow_heap _ _ Z C _ _ H2.out) Try.underlying42 rfl HC.out) rfl ?_
      refine ⟨C, rfl, ⟨hC, fun i hi => ⟨hj i hi, Crc.applyN_lt _ _ (Nat.le_refl _) fun i hi => (hA.2 i hi).2⟩⟩, below_row hb (by omega) _⟩

/-- The array of Combine: the images of the first k bits under 8 steps. -/
def FillRel (T : TypeId) (H : Nat) (w : World) (k : Nat) (wr : World) : Prop :=
  ∃ C : Array Value, C.size = 32 ∧ (∀ j, j < k → C[j]? = some (.int .u32 (Crc.steps 8 (2 ^ j) : Nat))) ∧ wr.heap[H]? = some (.cells C T (0, 0)) ∧ Below H w wr

theorem FillRel.next {T : TypeId} {H : Nat} {w : World} {k : Nat} {wr : World} (h : FillRel T H w k wr) (hk : k < 32) :
    FillRel T H w (k + 1) (wr.setCell ⟨H, k, none⟩ (.int .u32 (Crc.steps 8 (2 ^ k) : Nat))) := by
  obtain ⟨C, hC, hj, h0, hb⟩ := h
  refine ⟨C.setIfInBounds k (.int .u32 (Crc.steps 8 (2 ^ k) : Nat)), by simp [hC], ?_, heap_setCell_same _ _ _ _ _ _ h0, hb.setCell (Nat.le_refl _) _⟩
  intro j hjk
  by_cases e : j = k
  · subst e; rw [Array.getElem?_setIfInBounds_self_of_lt (by omega)]
  · rw [Array.getElem?_setIfInBounds_ne (by omega)]; exact hj j (by omega)

/-- The loop of Combine: the array holds the map of q steps; what is left to do is q times kk steps from a'. -/
def PowRel (T : TypeId) (H : Nat) (w : World) (goal kk a' : Nat) (wr : World) : Prop :=
  ∃ (q : Nat) (C : Array Value), Crc.steps (q * kk) a' = goal ∧ IsMat C (fun j => Crc.steps q (2 ^ j)) ∧ wr.heap[H]? = some (.cells C T (0, 0)) ∧ Below H w wr

theorem PowRel.start {T : TypeId} {H : Nat} {w wr : World} (h : FillRel T H w 32 wr) (N a : Nat) : PowRel T H w (Crc.steps (8 * N) a) N a wr := by
  obtain ⟨C, hC, hj, h0, hb⟩ := h
  exact ⟨8, C, rfl, ⟨hC, fun i hi => ⟨hj i hi, Crc.steps_lt 8 (Nat.lt_of_lt_of_eq (Nat.pow_lt_pow_right (a := 2) (by decide) hi) (by decide))⟩⟩, h0, hb⟩

theorem IsMat.ones {C : Array Value} {m : Nat → Nat} (h : IsMat C m) : C.all (·.oneCell') = true := by
  rw [Array.all_eq_true]; intro i hi
  have := (h.2 i (by have := h.1; omega)).1; rw [Array.getElem?_eq_getElem hi] at this; injection this with this; rw [this]; rfl

theorem heap_lt {w : World} {k : Nat} {o : Obj} (h : w.heap[k]? = some o) : k < w.heap.size := (Array.getElem?_eq_some_iff.1 h).1

theorem PowRel.next2 {T : TypeId} {H : Nat} {w wr : World} {C D : Array Value} {q goal kk a' : Nat} (hh : wr.heap[H]? = some (.cells C T (0, 0))) (hb : Below H w wr)
    (hD : IsMat D (fun j => Crc.applyN (fun j => Crc.steps q (2 ^ j)) (Crc.steps q (2 ^ j)) 32)) (hg : Crc.steps ((q + q) * kk) a' = goal) : PowRel T H w goal kk a' (wr.setRow H D) := by
  refine ⟨q + q, D, hg, ⟨hD.1, fun i hi => ?_⟩, setRow_heap _ _ C D _ _ hh, below_row hb (Nat.le_refl _) _⟩
  have := hD.2 i hi
  simp only [Crc.applyN_square q i hi] at this; exact this

theorem PowRel.next {T : TypeId} {H : Nat} {w wr w1 : World} {C D : Array Value} {q goal kk a' : Nat} (hh : wr.heap[H]? = some (.cells C T (0, 0))) (hb : Below H w wr) (h1 : Below wr.heap.size wr w1)
    (hD : IsMat D (fun j => Crc.applyN (fun j => Crc.steps q (2 ^ j)) (Crc.steps q (2 ^ j)) 32)) (hg : Crc.steps ((q + q) * kk) a' = goal) : PowRel T H w goal kk a' (w1.setRow H D) := by
  have hlt := heap_lt hh
  refine ⟨q + q, D, hg, ⟨hD.1, fun i hi => ?_⟩, setRow_heap _ _ C D _ _ ((h1.block _ hlt).trans hh), below_row (hb.trans (h1.mono (Nat.le_of_lt hlt))) (Nat.le_refl _) _⟩
  have := hD.2 i hi
  simp only [Crc.applyN_square q i hi] at this; exact this

theorem crc_combine (a b : Nat) (n : Int) (ha : a < 4294967296) (hb' : b < 4294967296) (hn : n ≤ 9223372036854775807) (w : World) :
    Calls Try.prog 16 #[.int .u32 a, .int .u32 b, .int .i64 n] w fun e w' => e = .returned (.int .u32 (Crc.combine a b n.toNat)) ∧ Below w.heap.size w w' := by
  have HSZ : Hid (∀ X : Array Value, X.size = 32 → (Try.prog.info? 42).map (·.size) = some X.size) := Lib.hid fun X hX => by rw [hX]; kernel_rfl
  go_enter Try.func16, Try.ntmps16
  go_wp2
  go_loopw [11] (fun i wr => ∃ k : Nat, k ≤ 32 ∧ i = .int .i64 k ∧ FillRel 42 w.heap.size w k wr) (fun i _ => 32 - (intOf i).toNat)
  case atStart => exact ⟨0, Nat.zero_le _, rfl, _, rfl, fun j hj => absurd hj (Nat.not_lt_zero _), heap_alloc_eq _ _ _ rfl, (Below.refl _ _).alloc (Nat.le_refl _) _⟩
  case round =>
    obtain ⟨k, hk, rfl, hR⟩ := hrel
    by_cases hlt : k < 32
    · have hp : (2 : Nat) ^ k < 4294967296 := Nat.lt_of_lt_of_eq (Nat.pow_lt_pow_right (a := 2) (by decide) hlt) (by decide)
      obtain ⟨C, hC, hj, h0, hbl⟩ := id hR
      have HR := Lib.hid hR; clear hR hj
      have hc3 : wr.cell? ⟨w.heap.size, k, none⟩ = some (C[k]?.getD undef) := by
        rw [cell_of_row _ _ _ _ _ _ h0, Array.getElem?_eq_getElem (by omega)]; rfl
      have hf3 : wr.frozen? ⟨w.heap.size, k, none⟩ = false := frozen_of_row _ _ _ _ _ h0
      clear h0
      have hpm : (2 : Int) ^ k % 4294967296 = ((2 ^ k : Nat) : Int) := by
        have e : ((2 ^ k : Nat) : Int) = (2 : Int) ^ k := by simp
        rw [← e]; generalize 2 ^ k = x at *; omega
      have hd : decide ((k : Int) < 32) = true := by simp; omega
      have HPM := Lib.hid hpm; clear hpm
      go_wp2
      go_loop [9, 16] (fun x i => ∃ j : Nat, j ≤ 8 ∧ i = .int .i64 j ∧ x = .int .u32 (Crc.steps j (2 ^ k) : Nat)) (fun _ i => 8 - (intOf i).toNat)
      case atStart => exact ⟨0, Nat.zero_le _, rfl, by rw [HPM.out]; rfl⟩
      case round =>
        obtain ⟨j, hj, rfl, rfl⟩ := hrel
        by_cases hj8 : j < 8
        · go_wp2_with (go_at_call 22; refine (crc_step _ (Crc.steps_lt j hp) _).mono ?_; rintro e w' ⟨rfl, rfl⟩)
          go_round
          case rel => exact ⟨j + 1, by omega, by go_num, by rw [← steps_snoc]⟩
          case measure => simp [intOf]; omega
        · obtain rfl : j = 8 := by omega
          go_wp2
          go_roundw
          case rel => exact ⟨k + 1, by omega, by go_num, HR.out.next hlt⟩
          case measure => simp [intOf]; omega
    · have hR32 : FillRel 42 w.heap.size w 32 wr := by rw [show (32 : Nat) = k by omega]; exact hR
      have hmax : (if n < 0 then 0 else n) = ((n.toNat : Nat) : Int) := by split <;> omega
      go_wp2
      go_loopw [0, 10] (fun x i wr => ∃ kk a' : Nat, i = .int .i64 kk ∧ kk ≤ 9223372036854775807 ∧ x = .int .u32 a' ∧ a' < 4294967296 ∧ PowRel 42 w.heap.size w (Crc.steps (8 * n.toNat) a) kk a' wr) (fun _ i _ => (intOf i).toNat)
      case atStart => exact ⟨n.toNat, a, by rw [show max n 0 = ((n.toNat : Nat) : Int) by omega], by omega, rfl, ha, PowRel.start hR32 _ _⟩
      case round =>
        obtain ⟨kk, a', rfl, hkk, rfl, ha', q, C, hq, hC, hh, hb⟩ := hrel
        clear hmax
        have HH := Lib.hid hh; clear hh
        have HQ := Lib.hid hq; clear hq
        have HC := Lib.hid (HSZ.out C hC.1)
        have hlt2 := heap_lt HH.out
        have HH2 : Hid ((wr.alloc (.cells C 42)).heap[w.heap.size]? = some (.cells C 42 (0, 0))) := Lib.hid ((heap_alloc_lt _ _ _ hlt2).trans HH.out)
        by_cases h0 : kk = 0
        · subst h0
          have hfin : Crc.combine a b n.toNat = a' ^^^ b := by unfold Crc.combine; rw [← HQ.out]; rfl
          have Hx := Lib.hid (u32_xor_nat a' b ha' hb')
          have HF := Lib.hid hfin; clear hfin
          go_wp2
          go_ret
          exact ⟨by rw [HF.out, ← Hx.out]; rfl, hb⟩
        · have hp : (0 : Int) < (kk : Int) := by omega
          have hap := Crc.applyN_steps q a' ha'
          have HAP := Lib.hid hap; clear hap
          by_cases hodd : kk % 2 = 1
          · have ht : (bits BinOp.and IntKind.i64 (kk : Int) 1 == 1) = true := by
              rw [Go.Proofs.and_one kk (by omega), hodd]; rfl
            have HO := Lib.hid hodd; clear hodd
            go_wp2_with (first | (refine wpList_load_row rfl 42 _ rfl w.heap.size rfl 42 C (0, 0) _ HH.out Try.underlying42 rfl HC.out ?_) | (refine wpList_load_row rfl 42 _ rfl w.heap.size rfl 42 C (0, 0) _ HH2.out Try.underlying42 rfl HC.out ?_) | (go_at_call 24; refine (crc_apply C _ a' ha' hC _).mono ?_; rintro e w1 ⟨rfl, rfl⟩) | (go_at_call 25; refine (crc_after C C _ _ hC hC _).mono ?_; rintro e w2 ⟨D, rfl, hD, hb2⟩) | (refine wpList_store_row rfl 42 _ _ rfl w.heap.size rfl 42 C D rfl ((hb2.block _ (by simp; omega)).trans HH2.out) (HSZ.out _ hD.1) (hC.1.trans hD.1.symm) hD.ones ?_))
            go_roundw
            case rel =>
              refine ⟨kk / 2, _, by simp, by omega, rfl, Crc.applyN_lt _ _ (Nat.le_refl _) fun i hi => (hC.2 i hi).2, PowRel.next HH.out hb (((Below.refl _ _).alloc (Nat.le_refl _) _).trans (hb2.mono (by simp))) hD ?_⟩
              rw [← HQ.out, HAP.out, Crc.steps_odd q kk a' HO.out]
            case measure => simp [intOf]; omega
          · have ht : (bits BinOp.and IntKind.i64 (kk : Int) 1 == 1) = false := by
              rw [Go.Proofs.and_one kk (by omega), show kk % 2 = 0 by omega]; rfl
            have HO := Lib.hid hodd; clear hodd
            go_wp2_with (first | (refine wpList_load_row rfl 42 _ rfl w.heap.size rfl 42 C (0, 0) _ HH.out Try.underlying42 rfl HC.out ?_) | (go_at_call 25; refine (crc_after C C _ _ hC hC _).mono ?_; rintro e w2 ⟨D, rfl, hD, hb2⟩) | (refine wpList_store_row rfl 42 _ _ rfl w.heap.size rfl 42 C D rfl ((hb2.block _ hlt2).trans HH.out) (HSZ.out _ hD.1) (hC.1.trans hD.1.symm) hD.ones ?_))
            go_roundw
            case rel =>
              refine ⟨kk / 2, a', by simp, by omega, rfl, ha', PowRel.next HH.out hb hb2 hD ?_⟩
              rw [← HQ.out, Crc.steps_even q kk a' (by have := HO.out; omega)]
            case measure => simp [intOf]; omega

end Go.Proofs.Ytfcdjpbljggjiaa
