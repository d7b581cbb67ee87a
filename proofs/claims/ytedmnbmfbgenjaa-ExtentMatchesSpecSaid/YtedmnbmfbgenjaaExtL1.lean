/-
  The law ExtentOperations walked.
-/
import Derived.Test.YtedmnbmfbgenjaaExtAt
namespace Go.Proofs.Ytedmnbmfbgenjaa
open Go.RowKit
namespace Extent
open Disk (Dk)

/-! ### How many operations a write performs -/
/-- Operations of the sector s. -/
def opc (off e s : Nat) : Nat := if max off (64 * s) < min e (64 * (s + 1)) then (if min e (64 * (s + 1)) - max off (64 * s) < 64 then 2 else 1) else 0
def opsum (off e : Nat) : Nat → Nat
  | 0 => 0
  | j + 1 => opsum off e j + opc off e j
theorem opc_le (off e s : Nat) : opc off e s ≤ 2 := by unfold opc; split <;> (try split) <;> omega
theorem opsum_le (off e j : Nat) : opsum off e j ≤ 2 * j := by
  induction j with
  | zero => exact Nat.le_refl _
  | succ j ih => have := opc_le off e j; show opsum off e j + opc off e j ≤ _; omega
/-- Operations of m parts from the k-th on. -/
def wops (off e : Nat) : Nat → Nat → Nat
  | 0, _ => 0
  | m + 1, k => (if step e (pos off e k) < 64 then 2 else 1) + wops off e m (k + 1)
theorem wops_last (off e m k : Nat) : wops off e (m + 1) k = wops off e m k + (if step e (pos off e (k + m)) < 64 then 2 else 1) := by
  induction m generalizing k with
  | zero => simp [wops]
  | succ m ih => rw [wops, ih (k + 1), wops, show k + 1 + m = k + (m + 1) by omega]; omega
theorem opc_part {off e k : Nat} (h : k < cnt off e) : opc off e (off / 64 + k) = if step e (pos off e k) < 64 then 2 else 1 := by
  unfold cnt at h
  split at h
  · have h1 : max off (64 * (off / 64 + k)) = pos off e k := by unfold pos; omega
    have h2 : min e (64 * (off / 64 + k + 1)) - max off (64 * (off / 64 + k)) = step e (pos off e k) := by unfold step pos; omega
    have h3 : max off (64 * (off / 64 + k)) < min e (64 * (off / 64 + k + 1)) := by omega
    unfold opc
    rw [if_pos h3, h2]
  · omega
theorem opc_zero {off e s : Nat} (h : s < off / 64 ∨ off / 64 + cnt off e ≤ s) (he : off ≤ e) : opc off e s = 0 := by
  unfold opc
  rw [if_neg]
  unfold cnt at h
  split at h <;> omega
theorem opsum_wops {off e : Nat} (he : off ≤ e) (j : Nat) : opsum off e j = wops off e (min (cnt off e) (j - off / 64)) 0 := by
  induction j with
  | zero => rw [show min (cnt off e) (0 - off / 64) = 0 by omega]; rfl
  | succ j ih =>
    show opsum off e j + opc off e j = _
    rw [ih]
    by_cases h1 : j < off / 64
    · rw [opc_zero (.inl h1) he, show j - off / 64 = 0 by omega, show j + 1 - off / 64 = 0 by omega]; rfl
    · by_cases h2 : off / 64 + cnt off e ≤ j
      · rw [opc_zero (.inr h2) he, show min (cnt off e) (j - off / 64) = cnt off e by omega, show min (cnt off e) (j + 1 - off / 64) = cnt off e by omega]; rfl
      · have h3 : j - off / 64 < cnt off e := by omega
        have h4 := opc_part h3
        rw [show off / 64 + (j - off / 64) = j by omega] at h4
        rw [show min (cnt off e) (j - off / 64) = j - off / 64 by omega, show min (cnt off e) (j + 1 - off / 64) = (j - off / 64) + 1 by omega, wops_last, h4, Nat.zero_add]

/-! ### One fault -/
/-- A disk with power whose only fault is an error at operation K; c operations have run. -/
structure One (n : Nat) (K c : Nat) (d : Dk) : Prop where
  ok : d.Ok
  len : d.st.length = n
  on : d.off = false
  fs : d.fs = [((K : Int), 1)]
  cnt : d.cnt = (c : Int)
  small : c ≤ 1000000

theorem One.begin {n K c : Nat} {d : Dk} (h : One n K c d) (hc : c < 1000000) : (K ≠ c → Disk.begin d true = (false, 0, Disk.tick d)) ∧ (K = c → Disk.begin d true = (false, 9, Disk.tick d)) ∧ One n K (c + 1) (Disk.tick d) := by
  obtain ⟨h1, h2, h3, h4, h5, h6⟩ := h
  refine ⟨fun hk => ?_, fun hk => ?_, ⟨⟨h1.len, h1.pos, h1.max, h1.st64, h1.ca64⟩, h2, h3, h4, ?_, by omega⟩⟩
  · have : Disk.fault d = 0 := by
      unfold Disk.fault; rw [h4, h5]
      have : ((K : Int) == (c : Int)) = false := by simp; omega
      simp [List.find?, this]
    unfold Disk.begin
    rw [h3, this]; rfl
  · have : Disk.fault d = 1 := by
      unfold Disk.fault; rw [h4, h5, hk]
      simp [List.find?]
    unfold Disk.begin
    rw [h3, this]; rfl
  · unfold Disk.tick; rw [h5]; unfold Go.RowKit.wrap64; simp; omega

theorem One.read {n K c : Nat} {d : Dk} (h : One n K c d) (hc : c < 1000000) (i : Nat) (hi : i < n) : (K ≠ c → ∃ b, b.length = 64 ∧ Disk.read d (i : Int) = (b, 0, Disk.tick d)) ∧ (K = c → Disk.read d (i : Int) = ([], 9, Disk.tick d)) ∧ One n K (c + 1) (Disk.tick d) := by
  obtain ⟨h1, h2, h3⟩ := h.begin hc
  have hf : Disk.fits d (i : Int) = true := by unfold Disk.fits; simp [h.len, hi]
  refine ⟨fun hk => ⟨_, ?_, read_ok (by rw [hf]; exact h1 hk)⟩, fun hk => read_err (by rw [hf]; exact h2 hk) (by decide), h3⟩
  exact Disk.content64 h.ok _ (by rw [h.len]; omega)
theorem One.write {n K c : Nat} {d : Dk} (h : One n K c d) (hc : c < 1000000) (i : Nat) (hi : i < n) (x : List UInt8) (hx : x.length = 64) : (K ≠ c → Disk.write d (i : Int) x = (0, Disk.put (Disk.tick d) i x) ∧ One n K (c + 1) (Disk.put (Disk.tick d) i x)) ∧ (K = c → Disk.write d (i : Int) x = (9, Disk.tick d)) ∧ One n K (c + 1) (Disk.tick d) := by
  obtain ⟨h1, h2, h3⟩ := h.begin hc
  have hf : (Disk.fits d (i : Int) && decide (x.length = 64)) = true := by unfold Disk.fits; simp [h.len, hi, hx]
  refine ⟨fun hk => ⟨write_ok (by rw [hf]; exact h1 hk), ⟨h3.ok.put i x hx, h3.len, h3.on, h3.fs, h3.cnt, h3.small⟩⟩, fun hk => write_err (by rw [hf]; exact h2 hk) (by decide), h3⟩
theorem One.sync {n K c : Nat} {d : Dk} (h : One n K c d) (hc : c < 1000000) : (K ≠ c → ∃ d', Disk.sync d = (0, d')) ∧ (K = c → Disk.sync d = (9, Disk.tick d)) := by
  obtain ⟨h1, h2, -⟩ := h.begin hc
  refine ⟨fun hk => ⟨Disk.flush (Disk.tick d), ?_⟩, fun hk => ?_⟩
  · unfold Disk.sync; rw [h1 hk]; rfl
  · unfold Disk.sync; rw [h2 hk]; rfl

theorem wr_one {n K first off e : Nat} (hoe : off ≤ e) (hin : first * 64 + e ≤ n * 64) : ∀ (m k c : Nat) (data : List UInt8) (d : Dk), One n K c d → k + m = Extent.cnt off e → data.length = e - pos off e k → c + 2 * m ≤ 999999 →
    (c + wops off e m k ≤ K → ∃ d', wr first off e m k data d = (0, d') ∧ One n K (c + wops off e m k) d') ∧ (c ≤ K → K < c + wops off e m k → ∃ d', wr first off e m k data d = (9, d') ∧ One n K (K + 1) d') := by
  intro m
  induction m with
  | zero => intro k c data d h _ _ _; exact ⟨fun _ => ⟨d, rfl, h⟩, fun h1 h2 => by unfold wops at h2; omega⟩
  | succ m ih =>
    intro k c data d h hk hd hc
    have hlt := (pos_lt off e k hoe).2 (by omega)
    have hsu := pos_succ off e k (by omega)
    obtain ⟨s1, s2, s3, s4⟩ := step_pos hlt
    have hi : first + pos off e k / 64 < n := by omega
    have hd' : (data.drop (step e (pos off e k))).length = e - pos off e (k + 1) := by rw [List.length_drop, hd, hsu]; omega
    unfold wops
    by_cases hs : step e (pos off e k) < 64
    · rw [if_pos hs]
      obtain ⟨r1, r2, r3⟩ := h.read (by omega) _ hi
      by_cases hK : K = c
      · refine ⟨fun h1 => by omega, fun _ _ => ⟨_, wr_rerr hs (r2 hK) (by decide), by rw [hK] at r3 ⊢; exact r3⟩⟩
      · obtain ⟨b, hb, hr⟩ := r1 hK
        have hx : (b.take (pos off e k % 64) ++ data.take (step e (pos off e k)) ++ b.drop (pos off e k % 64 + step e (pos off e k))).length = 64 := by
          clear r1 r2 ih
          rw [List.length_append, List.length_append, List.length_take, List.length_take, List.length_drop, hb, hd]; omega
        obtain ⟨w1, w2, w3⟩ := r3.write (by omega) _ hi _ hx
        by_cases hK2 : K = c + 1
        · refine ⟨fun h1 => by omega, fun _ _ => ⟨_, (wr_part hs hr (w2 hK2)).trans (if_neg (by decide)), by rw [hK2] at w3 ⊢; exact w3⟩⟩
        · obtain ⟨w4, w5⟩ := w1 hK2
          obtain ⟨i1, i2⟩ := ih (k + 1) (c + 1 + 1) _ _ w5 (by omega) hd' (by omega)
          have e1 := (wr_part (m := m) hs hr w4).trans (if_pos rfl)
          refine ⟨fun h1 => ?_, fun h1 h2 => ?_⟩
          · obtain ⟨d', q1, q2⟩ := i1 (by omega)
            exact ⟨d', e1.trans q1, by rw [show c + (2 + wops off e m (k + 1)) = c + 1 + 1 + wops off e m (k + 1) by omega]; exact q2⟩
          · obtain ⟨d', q1, q2⟩ := i2 (by omega) (by omega)
            exact ⟨d', e1.trans q1, q2⟩
    · rw [if_neg hs]
      have hx : (data.take (step e (pos off e k))).length = 64 := by simp [hd]; omega
      obtain ⟨w1, w2, w3⟩ := h.write (by omega) _ hi _ hx
      by_cases hK : K = c
      · refine ⟨fun h1 => by omega, fun _ _ => ⟨_, (wr_full hs (w2 hK)).trans (if_neg (by decide)), by rw [hK] at w3 ⊢; exact w3⟩⟩
      · obtain ⟨w4, w5⟩ := w1 hK
        obtain ⟨i1, i2⟩ := ih (k + 1) (c + 1) _ _ w5 (by omega) hd' (by omega)
        have e1 := (wr_full (m := m) hs w4).trans (if_pos rfl)
        refine ⟨fun h1 => ?_, fun h1 h2 => ?_⟩
        · obtain ⟨d', q1, q2⟩ := i1 (by omega)
          exact ⟨d', e1.trans q1, by rw [show c + (1 + wops off e m (k + 1)) = c + 1 + wops off e m (k + 1) by omega]; exact q2⟩
        · obtain ⟨d', q1, q2⟩ := i2 (by omega) (by omega)
          exact ⟨d', e1.trans q1, q2⟩

theorem One.armed {n K : Nat} {d : Dk} (h1 : d.Ok) (h2 : d.st.length = n) (h3 : d.off = false) (_hK : K ≤ 1000000) : ∃ d', Disk.arm d [((K : Int), 1)] = (0, d') ∧ One n K 0 d' := by
  have : Disk.validFaults [((K : Int), 1)] = true := by
    unfold Disk.validFaults Disk.badf; simp
  unfold Disk.arm
  rw [if_pos this]
  exact ⟨_, rfl, ⟨h1.len, h1.pos, h1.max, h1.st64, h1.ca64⟩, h2, h3, rfl, rfl, by omega⟩

/-- What ExtentOperations sees. -/
theorem ops_facts (n off size : Nat) (hn : 1 ≤ n) (hn2 : n ≤ 40) (ho : off + size ≤ n * 64) : ∃ d1 d2 d3, Disk.arm (Disk.new n) [((opsum off (off + size) n : Nat), 1)] = (0, d1) ∧ Extent.write d1 0 n off (List.replicate size 0) = (0, d2) ∧ Disk.sync d2 = (9, d3) ∧
    (opsum off (off + size) n ≠ 0 → ∃ d4 d5 d6, Disk.arm d3 [((opsum off (off + size) n : Nat) - 1, 1)] = (0, d4) ∧ Extent.write d4 0 n off (List.replicate size 0) = (9, d5) ∧ Disk.sync d5 = (0, d6)) := by
  have hle := opsum_le off (off + size) n
  have hW : opsum off (off + size) n = wops off (off + size) (Extent.cnt off (off + size)) 0 := by
    rw [opsum_wops (by omega), Nat.min_eq_left]
    unfold Extent.cnt; split <;> omega
  have hcn : Extent.cnt off (off + size) ≤ 41 := by unfold Extent.cnt; split <;> omega
  generalize opsum off (off + size) n = ops at *
  have hwr : ∀ d, d.st.length = n → Extent.write d 0 n off (List.replicate size 0) = wr 0 off (off + size) (Extent.cnt off (off + size)) 0 (List.replicate size 0) d := by
    intro d hd
    have hck : Extent.check d.st.length 0 n off (List.replicate size (0 : UInt8)).length = 0 := by
      unfold Extent.check Extent.valid Extent.size
      rw [hd, List.length_replicate]
      simp
      omega
    unfold Extent.write
    rw [if_pos hck, List.length_replicate]
    have e1 : ((off : Int) + (size : Int)).toNat = off + size := by omega
    rw [e1]; rfl
  obtain ⟨d1, a1, o1⟩ := One.armed (n := n) (K := ops) (Disk.new_ok n hn (by omega)) (by simp [Disk.new]) rfl (by omega)
  obtain ⟨i1, -⟩ := wr_one (n := n) (K := ops) (first := 0) (show off ≤ off + size by omega) (by omega) (Extent.cnt off (off + size)) 0 0 (List.replicate size 0) d1 o1 (by omega) (by rw [pos_zero]; simp) (by omega)
  obtain ⟨d2, e2, o2⟩ := i1 (by omega)
  have s2 := (o2.sync (by omega)).2 (by omega)
  have t2 := (o2.begin (by omega)).2.2
  refine ⟨d1, d2, _, a1, (hwr d1 o1.len).trans e2, s2, fun h0 => ?_⟩
  obtain ⟨d4, a4, o4⟩ := One.armed (K := ops - 1) t2.ok t2.len t2.on (by omega)
  obtain ⟨-, i2⟩ := wr_one (n := n) (K := ops - 1) (first := 0) (show off ≤ off + size by omega) (by omega) (Extent.cnt off (off + size)) 0 0 (List.replicate size 0) d4 o4 (by omega) (by rw [pos_zero]; simp) (by omega)
  obtain ⟨d5, e5, o5⟩ := i2 (by omega) (by omega)
  obtain ⟨d6, s6⟩ := (o5.sync (by omega)).1 (by omega)
  refine ⟨d4, d5, d6, ?_, (hwr d4 o4.len).trans e5, s6⟩
  rw [show ((ops : Int) - 1) = ((ops - 1 : Nat) : Int) by omega]; exact a4

end Extent

set_option maxRecDepth 100000 in
set_option maxHeartbeats 4000000 in
theorem ops_law (n off size : Int) (w : World) (hn : (Lit.int .i64 n).wf = true) (ho : (Lit.int .i64 off).wf = true) (hs : (Lit.int .i64 size).wf = true) :
    Calls Try.prog 11 #[.int .i64 n, .int .i64 off, .int .i64 size] w fun e w' => e = .returned (.bool true) ∧ Below w.heap.size w w' := by
  simp [Lit.wf, IntKind.min, IntKind.max, IntKind.signed, IntKind.bits] at hn ho hs
  by_cases c1 : n < 1
  · go_enter Try.func11, Try.ntmps11
    go_wp2_with (go_at_call 49; refine (law6_awake _).mono ?_; rintro e w' ⟨rfl, hB⟩)
    go_ret
    exact ⟨rfl, hB⟩
  by_cases c2 : 40 < n
  · go_enter Try.func11, Try.ntmps11
    go_wp2_with (go_at_call 49; refine (law6_awake _).mono ?_; rintro e w' ⟨rfl, hB⟩)
    go_ret
    exact ⟨rfl, hB⟩
  by_cases c3 : off < 0
  · go_enter Try.func11, Try.ntmps11
    go_wp2_with (go_at_call 49; refine (law6_awake _).mono ?_; rintro e w' ⟨rfl, hB⟩)
    go_ret
    exact ⟨rfl, hB⟩
  by_cases c4 : size < 0
  · go_enter Try.func11, Try.ntmps11
    go_wp2_with (go_at_call 49; refine (law6_awake _).mono ?_; rintro e w' ⟨rfl, hB⟩)
    go_ret
    exact ⟨rfl, hB⟩
  obtain ⟨n, rfl⟩ := Int.eq_ofNat_of_zero_le (show 0 ≤ n by omega)
  obtain ⟨off, rfl⟩ := Int.eq_ofNat_of_zero_le (show 0 ≤ off by omega)
  obtain ⟨size, rfl⟩ := Int.eq_ofNat_of_zero_le (show 0 ≤ size by omega)
  by_cases c5 : n * 64 < off
  · have t5 : decide ((n : Int) * 64 < (off : Int)) = true := by simp; omega
    go_enter Try.func11, Try.ntmps11
    go_wp2_with (go_at_call 49; refine (law6_awake _).mono ?_; rintro e w' ⟨rfl, hB⟩)
    go_ret
    exact ⟨rfl, hB⟩
  by_cases c6 : n * 64 < off + size
  · have t5 : decide ((n : Int) * 64 < (off : Int)) = false := by simp; omega
    have t6 : decide ((n : Int) * 64 - (off : Int) < (size : Int)) = true := by simp; omega
    go_enter Try.func11, Try.ntmps11
    go_wp2_with (go_at_call 49; refine (law6_awake _).mono ?_; rintro e w' ⟨rfl, hB⟩)
    go_ret
    exact ⟨rfl, hB⟩
  have t5 : decide ((n : Int) * 64 < (off : Int)) = false := by simp; omega
  have t6 : decide ((n : Int) * 64 - (off : Int) < (size : Int)) = false := by simp; omega
  go_enter Try.func11, Try.ntmps11
  go_wp2_with fail
  have hnn : n ≤ 40 := by omega
  have hj1 : 1 ≤ n := by omega
  have hos : off + size ≤ n * 64 := by omega
  clear c1 c2 c3 c4 c5 c6 hn ho hs
  go_loopw [7, 8] (fun v i wr => ∃ j : Nat, j ≤ n ∧ i = .int .i64 j ∧ v = .int .i64 (Extent.opsum off (off + size) j : Nat) ∧ wr = w) (fun _ i _ => n - (intOf i).toNat)
  case atStart => exact ⟨0, by omega, rfl, rfl, rfl⟩
  case round =>
    obtain ⟨j, hj, rfl, rfl, rfl⟩ := hrel
    by_cases hlt : j < n
    · have k0 : decide ((j : Int) < (n : Int)) = true := by simp; omega
      have hle := Extent.opsum_le off (off + size) j
      have hnx : Extent.opsum off (off + size) (j + 1) = Extent.opsum off (off + size) j + Extent.opc off (off + size) j := rfl
      generalize Extent.opsum off (off + size) j = o at *
      have HNX := Lib.hid hnx
      clear hnx
      go_wp2
      all_goals
        refine ⟨⟨j + 1, by omega, rfl, ?_, trivial⟩, by simp [intOf]; omega⟩
        rw [HNX.out]
        unfold Extent.opc
        clear HNX
        simp only [Value.int.injEq, true_and]
        clear t5 t6 k0
        split <;> (try split) <;> omega
    · obtain rfl : j = n := by omega
      have k0 : decide ((j : Int) < (j : Int)) = false := by simp
      obtain ⟨d1, d2, d3, a1, a2, a3, a4⟩ := Extent.ops_facts j off size hj1 hnn hos
      have hle := Extent.opsum_le off (off + size) j
      generalize Extent.opsum off (off + size) j = o at *
      have A1 := Lib.hid a1; have A2 := Lib.hid a2; have A3 := Lib.hid a3; have A4 := Lib.hid a4
      clear a1 a2 a3 a4
      obtain ⟨i0, hi, hz0, hz1, hz2⟩ := info_parts info5'
      have HI := Lib.hid (And.intro hi (And.intro hz0 (And.intro hz1 hz2)))
      have HM := Lib.hid (madeB size)
      clear hi hz0 hz1 hz2
      obtain ⟨W0, hW0⟩ : ∃ W0, W0 = wr.alloc (.cells #[.int .i64 0, .int .i64 (j : Int)] 41) := ⟨_, rfl⟩
      have hB0 : Below wr.heap.size wr W0 := by rw [hW0]; exact (Below.refl _ _).alloc (Nat.le_refl _) _
      have hE0 : W0.heap[wr.heap.size]? = some (.cells #[.int .i64 0, .int .i64 (j : Int)] 41 (0, 0)) := by rw [hW0]; exact heap_alloc_eq _ _ _ rfl
      have hz0 : W0.heap.size = wr.heap.size + 1 := by rw [hW0]; simp
      have HW0 := Lib.hid hW0
      have HE0 := Lib.hid hE0
      clear hW0 hE0
      go_wp2_with ((show wpList _ _ _ (Oper.mk (some 74) _ _ _ _ _ :: _) _ _); rw [← HW0.out]; go_must (refine wpList_make_full _ rfl _ _ 26 rfl W0.heap.size 5 i0 (.int .u8 0) 1 Try.underlying26 HI.out.1 HI.out.2.1 HI.out.2.2.1 .i64 .i64 _ _ size rfl rfl (by omega) (by omega) (by rw [HI.out.2.2.2]; omega) (by unfold maxLen; omega) (Nat.le_refl _) ?_); intro w1 hown hg1; rw [HM.out] at hown; have hO : OwnB W0.heap.size w1 (.slice (some ⟨W0.heap.size, 0, none⟩) size size) (List.replicate size 0) := (by unfold OwnB; rw [List.length_replicate]; exact hown); have hb1 := (Below.refl W0.heap.size W0).grown hg1 (Nat.le_refl _) (fun k hk => by cases hk); clear hown hg1)
      have hE1 := (hb1.block _ (heap_lt HE0.out)).trans HE0.out
      have hz1 : wr.heap.size + 2 ≤ w1.heap.size := by
        have : wr.heap.size + 1 < w1.heap.size := by rw [← hz0]; exact heap_lt hO.isRow.2
        omega
      obtain ⟨ax, cx, ex, hS1, -⟩ := id hO.sl
      injection ex with ex1 ex2 ex3
      subst ex1 ex3
      rw [List.length_replicate, hz0] at hS1
      clear ex2
      have hB01 := hB0.trans (hb1.mono hB0.size)
      have ibj : ib ((j : Nat) : Int) := by unfold ib; omega
      have ib0 : ib 0 := by unfold ib; omega
      have ibo : ib ((off : Nat) : Int) := by unfold ib; omega
      refine (sd_new j hj1 (by omega) _ j rfl).mono ?_; rintro e w2 ⟨F, g, s, m, fa, fn, fc, rfl, hP2, hF2, hB2⟩
      have hz2 := hB2.size
      have hB02 := hB01.trans (hB2.mono hB01.size)
      have hE2 := (hB2.block _ (heap_lt hE1)).trans hE1
      have hS2 := hS1.ext hB2
      clear hE1 hS1 hb1 hO hB2 hB01 hB0 HW0
      go_wp2_with fail
      refine (sd_arm_at (hP2.alloc (.cells #[Value.int .i64 o, .int .i64 1] 77)) (SlP.one w2 o 1 _) A1.out).mono ?_; rintro e w3 ⟨rfl, F3, fa3, fn3, fc3, hP3, hU3⟩
      have nF3 : ∀ k, k < wr.heap.size + 2 → ¬ F3 k := fun k hk e => by
        rcases hU3.new k e with e | e
        · have := hF2 k e; omega
        · simp at e; omega
      have hUa : Upd F w2 F3 w3 := ((Upd.refl F w2).alloc _).trans hU3
      have hE3 := (hUa.block _ (heap_lt hE2) (fun e => by have := hF2 _ e; omega)).trans hE2
      have hS3 := hS2.upd hUa (fun y hy _ e => by cases hy; have := hF2 _ e; simp only at this; omega)
      have x1 := cell_of_row _ _ 0 _ _ _ hE3
      have x2 := cell_of_row _ _ 1 _ _ _ hE3
      simp only [List.getElem?_toArray, List.getElem?_cons_zero, List.getElem?_cons_succ] at x1 x2
      have HE3 := Lib.hid hE3
      clear hE2 hE3
      go_wp2_with fail
      refine (ex_write_at hP3 0 j off ib0 ibj ibo hS3 (fun y hy _ e => by cases hy; exact nF3 _ (by simp) e) A2.out).mono ?_; rintro e w4 ⟨rfl, F4, hP4, hU4⟩
      go_wp2_with fail
      refine (sd_sync_at hP4 A3.out).mono ?_; rintro e w5 ⟨rfl, hP5, hU5⟩
      have hUb : Upd F w2 F4 w5 := (hUa.trans hU4).trans hU5
      have nF4 : ∀ k, k < wr.heap.size + 2 → ¬ F4 k := fun k hk e => by
        rcases hUb.new k e with e | e
        · have := hF2 k e; omega
        · omega
      have hz3 := hUa.size
      have hz5 : w2.heap.size ≤ w5.heap.size := hUb.size
      have hUc : Upd F3 w3 F4 w5 := hU4.trans hU5
      have hE5 := (hUc.block _ (heap_lt HE3.out) (nF3 _ (by omega))).trans HE3.out
      have hS5 := hS3.upd hUc (fun y hy _ => by cases hy; exact nF3 _ (by simp))
      have HE5 := Lib.hid hE5
      clear hU3 hU4 hU5 hUa hUc hE5 hP3 hP4 hP2 x1 x2 HE3 hS3 HE0
      by_cases h0 : o = 0
      · subst h0
        go_wp2_with (go_at_call 49; refine (law6_awake _).mono ?_; rintro e w6 ⟨rfl, hB6⟩)
        go_ret
        exact ⟨rfl, (hUb.ext hB6).below hB02 (fun k e => by have := hF2 k e; omega) hB02.size⟩
      · obtain ⟨d4, d5, d6, b1, b2, b3⟩ := A4.out h0
        have B1 := Lib.hid b1; have B2 := Lib.hid b2; have B3 := Lib.hid b3
        clear b1 b2 b3
        have t0 : ((o : Int) == 0) = false := by simp; omega
        go_wp2_with fail
        refine (sd_arm_at (hP5.alloc (.cells #[Value.int .i64 ((o : Int) - 1), .int .i64 1] 77)) (SlP.one w5 ((o : Int) - 1) 1 _) B1.out).mono ?_; rintro e w6 ⟨rfl, F6, fa6, fn6, fc6, hP6, hU6⟩
        have hUd : Upd F4 w5 F6 w6 := ((Upd.refl F4 w5).alloc _).trans hU6
        have nF6 : ∀ k, k < wr.heap.size + 2 → ¬ F6 k := fun k hk e => by
          rcases hUd.new k e with e | e
          · exact nF4 k hk e
          · omega
        have hE6 := (hUd.block _ (heap_lt HE5.out) (nF4 _ (by omega))).trans HE5.out
        have hS6 := hS5.upd hUd (fun y hy _ => by cases hy; exact nF4 _ (by simp))
        have x1 := cell_of_row _ _ 0 _ _ _ hE6
        have x2 := cell_of_row _ _ 1 _ _ _ hE6
        simp only [List.getElem?_toArray, List.getElem?_cons_zero, List.getElem?_cons_succ] at x1 x2
        clear hE6
        go_wp2_with fail
        refine (ex_write_at hP6 0 j off ib0 ibj ibo hS6 (fun y hy _ e => by cases hy; exact nF6 _ (by simp) e) B2.out).mono ?_; rintro e w7 ⟨rfl, F7, hP7, hU7⟩
        go_wp2_with fail
        refine (sd_sync_at hP7 B3.out).mono ?_; rintro e w8 ⟨rfl, hP8, hU8⟩
        go_wp2_with (go_at_call 49; refine (law6_awake _).mono ?_; rintro e w9 ⟨rfl, hB9⟩)
        go_ret
        exact ⟨rfl, ((((hUb.trans hUd).trans hU7).trans hU8).ext hB9).below hB02 (fun k e => by have := hF2 k e; omega) hB02.size⟩

end Go.Proofs.Ytedmnbmfbgenjaa
