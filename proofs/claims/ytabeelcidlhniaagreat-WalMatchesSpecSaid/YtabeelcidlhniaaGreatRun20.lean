/-
  Texts in one: ExtAt, ExtL1, ExtRBPlain.
-/
import Derived.Test.YtabeelcidlhniaaGreatRun19
import Derived.Test.YtabeelcidlhniaaGreatDirty
import Derived.Test.YtabeelcidlhniaaGreatSecAt
/-
  extent.Read and extent.Write at known results; awake of law 06.
-/
namespace Go.Proofs.YtabeelcidlhniaaGreat
open Go.RowKit

section
variable {F : Nat → Prop} {w : World} {g s m : Nat} {fa : Option Addr} {fn fc : Nat} {d d' : Disk.Dk}
theorem ex_read_at (h : PD F w g s m fa fn fc d) (f c off len : Int) (hf : ib f) (hc : ib c) (ho : ib off) (hl : ib len) {b : List UInt8} {z : Int} (hr : Extent.read d f c off len = (b, z, d')) :
    Calls Tryz.prog 48 #[.pointer (some ⟨g, 0, none⟩), .agg #[.int .i64 f, .int .i64 c], .int .i64 off, .int .i64 len] w fun e w' => ∃ v, e = .returned (.tuple #[v, .int .i64 z]) ∧ OwnB w.heap.size w' v b ∧ PD F w' g s m fa fn fc d' ∧ Upd F w F w' := by
  have := ex_read h f c off len hf hc ho hl
  unfold ExReadPost at this; rw [hr] at this; exact this
theorem ex_write_at (h : PD F w g s m fa fn fc d) (f c off : Int) (hf : ib f) (hc : ib c) (ho : ib off) {a : Option Addr} {n ca : Nat} {x : List UInt8} (hx : SlB w a n ca x) (hF : ∀ y, a = some y → x ≠ [] → ¬ F y.block) {z : Int} (hr : Extent.write d f c off x = (z, d')) :
    Calls Tryz.prog 37 #[.pointer (some ⟨g, 0, none⟩), .agg #[.int .i64 f, .int .i64 c], .int .i64 off, .slice a n ca] w fun e w' => e = .returned (.int .i64 z) ∧ ∃ F', PD F' w' g s m fa fn fc d' ∧ Upd F w F' w' := by
  have := ex_write h f c off hf hc ho a n ca x hx hF
  unfold ExWritePost at this; rw [hr] at this; exact this
end

def ten : List UInt8 := [48, 49, 50, 51, 52, 53, 54, 55, 56, 57]
theorem aw6_facts : ∃ d1 d2 b, Extent.valid 4 1 2 = true ∧ Extent.size 2 = 128 ∧ Extent.write (Disk.new 4) 1 2 60 ten = (0, d1) ∧ Extent.read d1 1 2 58 14 = (b, 0, d2) ∧ b.length = 14 ∧ (b.take 12).drop 2 = ten ∧ (Disk.dirty d2).length = 2 := by
  refine ⟨_, _, _, ?_, ?_, Prod.ext (?_ : _ = (0 : Int)) rfl, Prod.ext rfl (Prod.ext (?_ : _ = (0 : Int)) rfl), ?_, ?_, ?_⟩ <;> decide +kernel


end Go.Proofs.YtabeelcidlhniaaGreat

/-
  The law ExtentOperations walked.
-/
namespace Go.Proofs.YtabeelcidlhniaaGreat
open Go.RowKit
namespace Extent
open Disk (Dk)

/-! ### How many operations a write performs -/
/-- Operations of the sector s. -/
def opc (off e s : Nat) : Nat := if max off (64 * s) < min e (64 * (s + 1)) then (if min e (64 * (s + 1)) - max off (64 * s) < 64 then 2 else 1) else 0
def opsum (off e : Nat) : Nat → Nat
  | 0 => 0
  | j + 1 => opsum off e j + opc off e j
theorem opc_le (off e s : Nat) : opc off e s ≤ 2 := by unfold opc; split <;> (try split) <;> omega
theorem opsum_le (off e j : Nat) : opsum off e j ≤ 2 * j := by
  induction j with
  | zero => exact Nat.le_refl _
  | succ j ih => have := opc_le off e j; show opsum off e j + opc off e j ≤ _; omega
/-- Operations of m parts from the k-th on. -/
def wops (off e : Nat) : Nat → Nat → Nat
  | 0, _ => 0
  | m + 1, k => (if step e (pos off e k) < 64 then 2 else 1) + wops off e m (k + 1)
theorem wops_last (off e m k : Nat) : wops off e (m + 1) k = wops off e m k + (if step e (pos off e (k + m)) < 64 then 2 else 1) := by
  induction m generalizing k with
  | zero => simp [wops]
  | succ m ih => rw [wops, ih (k + 1), wops, show k + 1 + m = k + (m + 1) by omega]; omega
theorem opc_part {off e k : Nat} (h : k < cnt off e) : opc off e (off / 64 + k) = if step e (pos off e k) < 64 then 2 else 1 := by
  unfold cnt at h
  split at h
  · have h1 : max off (64 * (off / 64 + k)) = pos off e k := by unfold pos; omega
    have h2 : min e (64 * (off / 64 + k + 1)) - max off (64 * (off / 64 + k)) = step e (pos off e k) := by unfold step pos; omega
    have h3 : max off (64 * (off / 64 + k)) < min e (64 * (off / 64 + k + 1)) := by omega
    unfold opc
    rw [if_pos h3, h2]
  · omega
theorem opc_zero {off e s : Nat} (h : s < off / 64 ∨ off / 64 + cnt off e ≤ s) (he : off ≤ e) : opc off e s = 0 := by
  unfold opc
  rw [if_neg]
  unfold cnt at h
  split at h <;> omega
theorem opsum_wops {off e : Nat} (he : off ≤ e) (j : Nat) : opsum off e j = wops off e (min (cnt off e) (j - off / 64)) 0 := by
  induction j with
  | zero => rw [show min (cnt off e) (0 - off / 64) = 0 by omega]; rfl
  | succ j ih =>
    show opsum off e j + opc off e j = _
    rw [ih]
    by_cases h1 : j < off / 64
    · rw [opc_zero (.inl h1) he, show j - off / 64 = 0 by omega, show j + 1 - off / 64 = 0 by omega]; rfl
    · by_cases h2 : off / 64 + cnt off e ≤ j
      · rw [opc_zero (.inr h2) he, show min (cnt off e) (j - off / 64) = cnt off e by omega, show min (cnt off e) (j + 1 - off / 64) = cnt off e by omega]; rfl
      · have h3 : j - off / 64 < cnt off e := by omega
        have h4 := opc_part h3
        rw [show off / 64 + (j - off / 64) = j by omega] at h4
        rw [show min (cnt off e) (j - off / 64) = j - off / 64 by omega, show min (cnt off e) (j + 1 - off / 64) = (j - off / 64) + 1 by omega, wops_last, h4, Nat.zero_add]

/-! ### One fault -/
/-- A disk with power whose only fault is an error at operation K; c operations have run. -/
structure One (n : Nat) (K c : Nat) (d : Dk) : Prop where
  ok : d.Ok
  len : d.st.length = n
  on : d.off = false
  fs : d.fs = [((K : Int), 1)]
  cnt : d.cnt = (c : Int)
  small : c ≤ 1000000

theorem One.begin {n K c : Nat} {d : Dk} (h : One n K c d) (hc : c < 1000000) : (K ≠ c → Disk.begin d true = (false, 0, Disk.tick d)) ∧ (K = c → Disk.begin d true = (false, 9, Disk.tick d)) ∧ One n K (c + 1) (Disk.tick d) := by
  obtain ⟨h1, h2, h3, h4, h5, h6⟩ := h
  refine ⟨fun hk => ?_, fun hk => ?_, ⟨⟨h1.len, h1.pos, h1.max, h1.st64, h1.ca64⟩, h2, h3, h4, ?_, by omega⟩⟩
  · have : Disk.fault d = 0 := by
      unfold Disk.fault; rw [h4, h5]
      have : ((K : Int) == (c : Int)) = false := by simp; omega
      simp [List.find?, this]
    unfold Disk.begin
    rw [h3, this]; rfl
  · have : Disk.fault d = 1 := by
      unfold Disk.fault; rw [h4, h5, hk]
      simp [List.find?]
    unfold Disk.begin
    rw [h3, this]; rfl
  · unfold Disk.tick; rw [h5]; unfold Go.RowKit.wrap64; simp; omega

theorem One.read {n K c : Nat} {d : Dk} (h : One n K c d) (hc : c < 1000000) (i : Nat) (hi : i < n) : (K ≠ c → ∃ b, b.length = 64 ∧ Disk.read d (i : Int) = (b, 0, Disk.tick d)) ∧ (K = c → Disk.read d (i : Int) = ([], 9, Disk.tick d)) ∧ One n K (c + 1) (Disk.tick d) := by
  obtain ⟨h1, h2, h3⟩ := h.begin hc
  have hf : Disk.fits d (i : Int) = true := by unfold Disk.fits; simp [h.len, hi]
  refine ⟨fun hk => ⟨_, ?_, read_ok (by rw [hf]; exact h1 hk)⟩, fun hk => read_err (by rw [hf]; exact h2 hk) (by decide), h3⟩
  exact Disk.content64 h.ok _ (by rw [h.len]; omega)
theorem One.write {n K c : Nat} {d : Dk} (h : One n K c d) (hc : c < 1000000) (i : Nat) (hi : i < n) (x : List UInt8) (hx : x.length = 64) : (K ≠ c → Disk.write d (i : Int) x = (0, Disk.put (Disk.tick d) i x) ∧ One n K (c + 1) (Disk.put (Disk.tick d) i x)) ∧ (K = c → Disk.write d (i : Int) x = (9, Disk.tick d)) ∧ One n K (c + 1) (Disk.tick d) := by
  obtain ⟨h1, h2, h3⟩ := h.begin hc
  have hf : (Disk.fits d (i : Int) && decide (x.length = 64)) = true := by unfold Disk.fits; simp [h.len, hi, hx]
  refine ⟨fun hk => ⟨write_ok (by rw [hf]; exact h1 hk), ⟨h3.ok.put i x hx, h3.len, h3.on, h3.fs, h3.cnt, h3.small⟩⟩, fun hk => write_err (by rw [hf]; exact h2 hk) (by decide), h3⟩
theorem One.sync {n K c : Nat} {d : Dk} (h : One n K c d) (hc : c < 1000000) : (K ≠ c → ∃ d', Disk.sync d = (0, d')) ∧ (K = c → Disk.sync d = (9, Disk.tick d)) := by
  obtain ⟨h1, h2, -⟩ := h.begin hc
  refine ⟨fun hk => ⟨Disk.flush (Disk.tick d), ?_⟩, fun hk => ?_⟩
  · unfold Disk.sync; rw [h1 hk]; rfl
  · unfold Disk.sync; rw [h2 hk]; rfl

theorem wr_one {n K first off e : Nat} (hoe : off ≤ e) (hin : first * 64 + e ≤ n * 64) : ∀ (m k c : Nat) (data : List UInt8) (d : Dk), One n K c d → k + m = Extent.cnt off e → data.length = e - pos off e k → c + 2 * m ≤ 999999 →
    (c + wops off e m k ≤ K → ∃ d', wr first off e m k data d = (0, d') ∧ One n K (c + wops off e m k) d') ∧ (c ≤ K → K < c + wops off e m k → ∃ d', wr first off e m k data d = (9, d') ∧ One n K (K + 1) d') := by
  intro m
  induction m with
  | zero => intro k c data d h _ _ _; exact ⟨fun _ => ⟨d, rfl, h⟩, fun h1 h2 => by unfold wops at h2; omega⟩
  | succ m ih =>
    intro k c data d h hk hd hc
    have hlt := (pos_lt off e k hoe).2 (by omega)
    have hsu := pos_succ off e k (by omega)
    obtain ⟨s1, s2, s3, s4⟩ := step_pos hlt
    have hi : first + pos off e k / 64 < n := by omega
    have hd' : (data.drop (step e (pos off e k))).length = e - pos off e (k + 1) := by rw [List.length_drop, hd, hsu]; omega
    unfold wops
    by_cases hs : step e (pos off e k) < 64
    · rw [if_pos hs]
      obtain ⟨r1, r2, r3⟩ := h.read (by omega) _ hi
      by_cases hK : K = c
      · refine ⟨fun h1 => by omega, fun _ _ => ⟨_, wr_rerr hs (r2 hK) (by decide), by rw [hK] at r3 ⊢; exact r3⟩⟩
      · obtain ⟨b, hb, hr⟩ := r1 hK
        have hx : (b.take (pos off e k % 64) ++ data.take (step e (pos off e k)) ++ b.drop (pos off e k % 64 + step e (pos off e k))).length = 64 := by
          clear r1 r2 ih
          rw [List.length_append, List.length_append, List.length_take, List.length_take, List.length_drop, hb, hd]; omega
        obtain ⟨w1, w2, w3⟩ := r3.write (by omega) _ hi _ hx
        by_cases hK2 : K = c + 1
        · refine ⟨fun h1 => by omega, fun _ _ => ⟨_, (wr_part hs hr (w2 hK2)).trans (if_neg (by decide)), by rw [hK2] at w3 ⊢; exact w3⟩⟩
        · obtain ⟨w4, w5⟩ := w1 hK2
          obtain ⟨i1, i2⟩ := ih (k + 1) (c + 1 + 1) _ _ w5 (by omega) hd' (by omega)
          have e1 := (wr_part (m := m) hs hr w4).trans (if_pos rfl)
          refine ⟨fun h1 => ?_, fun h1 h2 => ?_⟩
          · obtain ⟨d', q1, q2⟩ := i1 (by omega)
            exact ⟨d', e1.trans q1, by rw [show c + (2 + wops off e m (k + 1)) = c + 1 + 1 + wops off e m (k + 1) by omega]; exact q2⟩
          · obtain ⟨d', q1, q2⟩ := i2 (by omega) (by omega)
            exact ⟨d', e1.trans q1, q2⟩
    · rw [if_neg hs]
      have hx : (data.take (step e (pos off e k))).length = 64 := by simp [hd]; omega
      obtain ⟨w1, w2, w3⟩ := h.write (by omega) _ hi _ hx
      by_cases hK : K = c
      · refine ⟨fun h1 => by omega, fun _ _ => ⟨_, (wr_full hs (w2 hK)).trans (if_neg (by decide)), by rw [hK] at w3 ⊢; exact w3⟩⟩
      · obtain ⟨w4, w5⟩ := w1 hK
        obtain ⟨i1, i2⟩ := ih (k + 1) (c + 1) _ _ w5 (by omega) hd' (by omega)
        have e1 := (wr_full (m := m) hs w4).trans (if_pos rfl)
        refine ⟨fun h1 => ?_, fun h1 h2 => ?_⟩
        · obtain ⟨d', q1, q2⟩ := i1 (by omega)
          exact ⟨d', e1.trans q1, by rw [show c + (1 + wops off e m (k + 1)) = c + 1 + wops off e m (k + 1) by omega]; exact q2⟩
        · obtain ⟨d', q1, q2⟩ := i2 (by omega) (by omega)
          exact ⟨d', e1.trans q1, q2⟩

theorem One.armed {n K : Nat} {d : Dk} (h1 : d.Ok) (h2 : d.st.length = n) (h3 : d.off = false) (_hK : K ≤ 1000000) : ∃ d', Disk.arm d [((K : Int), 1)] = (0, d') ∧ One n K 0 d' := by
  have : Disk.validFaults [((K : Int), 1)] = true := by
    unfold Disk.validFaults Disk.badf; simp
  unfold Disk.arm
  rw [if_pos this]
  exact ⟨_, rfl, ⟨h1.len, h1.pos, h1.max, h1.st64, h1.ca64⟩, h2, h3, rfl, rfl, by omega⟩

/-- What ExtentOperations sees. -/
theorem ops_facts (n off size : Nat) (hn : 1 ≤ n) (hn2 : n ≤ 40) (ho : off + size ≤ n * 64) : ∃ d1 d2 d3, Disk.arm (Disk.new n) [((opsum off (off + size) n : Nat), 1)] = (0, d1) ∧ Extent.write d1 0 n off (List.replicate size 0) = (0, d2) ∧ Disk.sync d2 = (9, d3) ∧
    (opsum off (off + size) n ≠ 0 → ∃ d4 d5 d6, Disk.arm d3 [((opsum off (off + size) n : Nat) - 1, 1)] = (0, d4) ∧ Extent.write d4 0 n off (List.replicate size 0) = (9, d5) ∧ Disk.sync d5 = (0, d6)) := by
  have hle := opsum_le off (off + size) n
  have hW : opsum off (off + size) n = wops off (off + size) (Extent.cnt off (off + size)) 0 := by
    rw [opsum_wops (by omega), Nat.min_eq_left]
    unfold Extent.cnt; split <;> omega
  have hcn : Extent.cnt off (off + size) ≤ 41 := by unfold Extent.cnt; split <;> omega
  generalize opsum off (off + size) n = ops at *
  have hwr : ∀ d, d.st.length = n → Extent.write d 0 n off (List.replicate size 0) = wr 0 off (off + size) (Extent.cnt off (off + size)) 0 (List.replicate size 0) d := by
    intro d hd
    have hck : Extent.check d.st.length 0 n off (List.replicate size (0 : UInt8)).length = 0 := by
      unfold Extent.check Extent.valid Extent.size
      rw [hd, List.length_replicate]
      simp
      omega
    unfold Extent.write
    rw [if_pos hck, List.length_replicate]
    have e1 : ((off : Int) + (size : Int)).toNat = off + size := by omega
    rw [e1]; rfl
  obtain ⟨d1, a1, o1⟩ := One.armed (n := n) (K := ops) (Disk.new_ok n hn (by omega)) (by simp [Disk.new]) rfl (by omega)
  obtain ⟨i1, -⟩ := wr_one (n := n) (K := ops) (first := 0) (show off ≤ off + size by omega) (by omega) (Extent.cnt off (off + size)) 0 0 (List.replicate size 0) d1 o1 (by omega) (by rw [pos_zero]; simp) (by omega)
  obtain ⟨d2, e2, o2⟩ := i1 (by omega)
  have s2 := (o2.sync (by omega)).2 (by omega)
  have t2 := (o2.begin (by omega)).2.2
  refine ⟨d1, d2, _, a1, (hwr d1 o1.len).trans e2, s2, fun h0 => ?_⟩
  obtain ⟨d4, a4, o4⟩ := One.armed (K := ops - 1) t2.ok t2.len t2.on (by omega)
  obtain ⟨-, i2⟩ := wr_one (n := n) (K := ops - 1) (first := 0) (show off ≤ off + size by omega) (by omega) (Extent.cnt off (off + size)) 0 0 (List.replicate size 0) d4 o4 (by omega) (by rw [pos_zero]; simp) (by omega)
  obtain ⟨d5, e5, o5⟩ := i2 (by omega) (by omega)
  obtain ⟨d6, s6⟩ := (o5.sync (by omega)).1 (by omega)
  refine ⟨d4, d5, d6, ?_, (hwr d4 o4.len).trans e5, s6⟩
  rw [show ((ops : Int) - 1) = ((ops - 1 : Nat) : Int) by omega]; exact a4

end Extent


end Go.Proofs.YtabeelcidlhniaaGreat

/-
  What is read back of a disk without faults: plain laws.
-/
namespace Go.Proofs.YtabeelcidlhniaaGreat
namespace Extent
open Disk (Dk)

/-- The rows as they would be read. -/
def rows (d : Dk) : List (List UInt8) := (List.range d.st.length).map (Disk.content d)
def V (d : Dk) : List UInt8 := (rows d).flatten
theorem rows_length (d : Dk) : (rows d).length = d.st.length := by simp [rows]
theorem rows_mem {d : Dk} (h : d.Ok) : ∀ x ∈ rows d, x.length = 64 := by
  intro x hx
  obtain ⟨i, hi, rfl⟩ := List.mem_map.1 hx
  exact Disk.content64 h i (List.mem_range.1 hi)
theorem V_length {d : Dk} (h : d.Ok) : (V d).length = 64 * d.st.length := by rw [V, Disk.flat_length _ (rows_mem h), rows_length]
theorem rows_get (d : Dk) (i : Nat) (hi : i < d.st.length) : (rows d)[i]?.getD [] = Disk.content d i := by simp [rows, hi]
theorem V_slot {d : Dk} (h : d.Ok) (i : Nat) (hi : i < d.st.length) : Disk.content d i = ((V d).drop (64 * i)).take 64 := by
  rw [V, Disk.flat_slot _ (rows_mem h) i (by rw [rows_length]; exact hi), rows_get d i hi]
theorem content_put (d : Dk) (h : d.Ok) (i j : Nat) (hi : i < d.st.length) (x : List UInt8) : Disk.content (Disk.put d i x) j = if j = i then x else Disk.content d j := by
  unfold Disk.content Disk.put
  have h1 : i < d.ca.length := by rw [h.len]; exact hi
  by_cases e : j = i
  · subst e; rw [if_pos rfl]; simp [h1]
  · rw [if_neg e]; simp [Ne.symm e]
theorem V_put {d : Dk} (h : d.Ok) (i : Nat) (hi : i < d.st.length) (x : List UInt8) (hx : x.length = 64) : V (Disk.put d i x) = (V d).take (64 * i) ++ x ++ (V d).drop (64 * i + 64) := by
  have h1 := Disk.flat_set (rows d) (rows_mem h) i (by rw [rows_length]; exact hi) x 64 hx (Nat.le_refl _)
  unfold V
  rw [h1, rows_get d i hi]
  have h2 : (Disk.content d i).drop 64 = [] := List.drop_of_length_le (by rw [Disk.content64 h i hi]; exact Nat.le_refl _)
  rw [h2, List.append_nil]
  congr 1
  refine List.ext_getElem (by simp [rows, Disk.put]) fun j hj1 hj2 => ?_
  have hj : j < d.st.length := by simpa [rows, Disk.put] using hj1
  rw [List.getElem_set]
  simp only [rows, List.getElem_map, List.getElem_range]
  rw [content_put d h i j hi x]
  by_cases e : j = i
  · subst e; simp
  · rw [if_neg e, if_neg (fun e2 => e e2.symm)]
theorem V_flush {d : Dk} : (Disk.flush d).st.flatten = V d := rfl
theorem V_load (n : Nat) (l : List UInt8) (h : l.length = 64 * n) : V (Disk.load n l) = l := by
  have : rows (Disk.load n l) = Disk.chunks n l := by
    refine List.ext_getElem (by simp [rows, Disk.load]) fun j hj1 hj2 => ?_
    have hj : j < n := by simpa [Disk.chunks_length] using hj2
    simp only [rows, List.getElem_map, List.getElem_range]
    simp [Disk.content, Disk.load, hj, Disk.chunks]
  rw [V, this, Disk.chunks_flat n l h]

/-- A disk with power and without faults. -/
structure Quiet (n : Nat) (d : Dk) : Prop where
  ok : d.Ok
  len : d.st.length = n
  on : d.off = false
  fs : d.fs = []
theorem Quiet.tick {n : Nat} {d : Dk} (h : Quiet n d) : Quiet n (Disk.tick d) := ⟨⟨h.ok.len, h.ok.pos, h.ok.max, h.ok.st64, h.ok.ca64⟩, h.len, h.on, h.fs⟩
theorem Quiet.begin {n : Nat} {d : Dk} (h : Quiet n d) : Disk.begin d true = (false, 0, Disk.tick d) := by
  have : Disk.fault d = 0 := by unfold Disk.fault; rw [h.fs]; rfl
  unfold Disk.begin; rw [h.on, this]; rfl
theorem Quiet.read {n : Nat} {d : Dk} (h : Quiet n d) (i : Nat) (hi : i < n) : Disk.read d (i : Int) = (((V d).drop (64 * i)).take 64, 0, Disk.tick d) := by
  have hf : Disk.fits d (i : Int) = true := by unfold Disk.fits; simp [h.len, hi]
  rw [read_ok (by rw [hf]; exact h.begin), ← V_slot h.ok i (by rw [h.len]; exact hi)]; rfl
theorem Quiet.write {n : Nat} {d : Dk} (h : Quiet n d) (i : Nat) (hi : i < n) (x : List UInt8) (hx : x.length = 64) : Disk.write d (i : Int) x = (0, Disk.put (Disk.tick d) i x) ∧ Quiet n (Disk.put (Disk.tick d) i x) ∧ V (Disk.put (Disk.tick d) i x) = (V d).take (64 * i) ++ x ++ (V d).drop (64 * i + 64) := by
  have hf : (Disk.fits d (i : Int) && decide (x.length = 64)) = true := by unfold Disk.fits; simp [h.len, hi, hx]
  refine ⟨write_ok (by rw [hf]; exact h.begin), ⟨h.tick.ok.put i x hx, h.len, h.on, h.fs⟩, ?_⟩
  exact V_put h.tick.ok i (by rw [h.tick.len]; exact hi) x hx
theorem Quiet.sync {n : Nat} {d : Dk} (h : Quiet n d) : ∃ d', Disk.sync d = (0, d') ∧ d'.st.flatten = V d := by
  refine ⟨Disk.flush (Disk.tick d), ?_, rfl⟩
  unfold Disk.sync; rw [h.begin]; rfl
theorem isSome_put (d : Dk) (i j : Nat) (x : List UInt8) (h : (((Disk.put (Disk.tick d) i x).ca[j]?).getD none).isSome = true) : ((d.ca[j]?).getD none).isSome = true ∨ j = i := by
  by_cases e : j = i
  · exact .inr e
  · left
    have : (Disk.put (Disk.tick d) i x).ca[j]? = d.ca[j]? := by
      show (d.ca.set i (some x))[j]? = _
      simp [Ne.symm e]
    rw [this] at h; exact h

theorem glue (v : List UInt8) (A t : Nat) (x y : List UInt8) (hx : x.length = t) (hA : A ≤ v.length) :
    (v.take A ++ x ++ v.drop (A + t)).take (A + t) ++ y ++ (v.take A ++ x ++ v.drop (A + t)).drop (A + t + y.length) = v.take A ++ (x ++ y) ++ v.drop (A + (t + y.length)) := by
  have e1 : (v.take A ++ x).length = A + t := by rw [List.length_append, List.length_take, hx]; omega
  rw [List.take_append_of_le_length (by omega), List.take_of_length_le (by omega), List.drop_append, List.drop_of_length_le (by omega), e1, List.nil_append, List.drop_drop]
  simp only [List.append_assoc]
  congr 4; omega

theorem sect (v x : List UInt8) (i q t : Nat) (hx : x.length = t) (hq : q + t ≤ 64) (hv : 64 * i + 64 ≤ v.length) :
    v.take (64 * i) ++ (((v.drop (64 * i)).take 64).take q ++ x ++ ((v.drop (64 * i)).take 64).drop (q + t)) ++ v.drop (64 * i + 64) = v.take (64 * i + q) ++ x ++ v.drop (64 * i + q + t) := by
  have e1 : ((v.drop (64 * i)).take 64).take q = (v.drop (64 * i)).take q := by rw [List.take_take, Nat.min_eq_left (by omega)]
  have e2 : v.take (64 * i) ++ (v.drop (64 * i)).take q = v.take (64 * i + q) := List.take_add.symm
  have e3 : ((v.drop (64 * i)).take 64).drop (q + t) ++ v.drop (64 * i + 64) = v.drop (64 * i + q + t) := by
    have : v.drop (64 * i + 64) = (v.drop (64 * i)).drop 64 := by rw [List.drop_drop]
    rw [this]
    have h2 := List.take_append_drop 64 (v.drop (64 * i))
    have h3 : (v.drop (64 * i)).drop (q + t) = v.drop (64 * i + q + t) := by rw [List.drop_drop, Nat.add_assoc]
    rw [← h3]
    conv => rhs; rw [← h2]
    rw [List.drop_append_of_le_length (by rw [List.length_take, List.length_drop]; omega)]
  rw [e1]
  simp only [List.append_assoc]
  rw [e3, ← List.append_assoc, e2]

theorem wr_quiet {n first off e : Nat} (hoe : off ≤ e) (hin : first * 64 + e ≤ n * 64) : ∀ (m k : Nat) (data : List UInt8) (d : Dk), Quiet n d → k + m = Extent.cnt off e → data.length = e - pos off e k →
    ∃ d', wr first off e m k data d = (0, d') ∧ Quiet n d' ∧ V d' = (V d).take (first * 64 + pos off e k) ++ data ++ (V d).drop (first * 64 + pos off e k + data.length) ∧
      ∀ j, ((d'.ca[j]?).getD none).isSome = true → ((d.ca[j]?).getD none).isSome = true ∨ (first + pos off e k / 64 ≤ j ∧ j * 64 < first * 64 + e ∧ pos off e k < e) := by
  intro m
  induction m with
  | zero =>
    intro k data d h hk hd
    have hpc : pos off e k = e := by rw [show k = Extent.cnt off e by omega]; exact pos_cnt off e hoe
    have : data = [] := List.eq_nil_of_length_eq_zero (by omega)
    exact ⟨d, rfl, h, by rw [this]; simp, fun j hj => .inl hj⟩
  | succ m ih =>
    intro k data d h hk hd
    have hlt := (pos_lt off e k hoe).2 (by omega)
    have hsu := pos_succ off e k (by omega)
    obtain ⟨s1, s2, s3, s4⟩ := step_pos hlt
    have hi : first + pos off e k / 64 < n := by omega
    have hd' : (data.drop (step e (pos off e k))).length = e - pos off e (k + 1) := by rw [List.length_drop, hd, hsu]; omega
    have hVl := V_length h.ok
    rw [h.len] at hVl
    -- what one write does
    have key : ∃ d2, Disk.write (if step e (pos off e k) < 64 then Disk.tick d else d) ((first + pos off e k / 64 : Nat) : Int) ((((V d).drop (64 * (first + pos off e k / 64))).take 64).take (pos off e k % 64) ++ data.take (step e (pos off e k)) ++ (((V d).drop (64 * (first + pos off e k / 64))).take 64).drop (pos off e k % 64 + step e (pos off e k))) = (0, d2) ∧ Quiet n d2 ∧
        V d2 = (V d).take (first * 64 + pos off e k) ++ data.take (step e (pos off e k)) ++ (V d).drop (first * 64 + pos off e k + step e (pos off e k)) ∧ ∀ j, ((d2.ca[j]?).getD none).isSome = true → ((d.ca[j]?).getD none).isSome = true ∨ j = first + pos off e k / 64 := by
      have hq : Quiet n (if step e (pos off e k) < 64 then Disk.tick d else d) := by split; exact h.tick; exact h
      have hx : ((((V d).drop (64 * (first + pos off e k / 64))).take 64).take (pos off e k % 64) ++ data.take (step e (pos off e k)) ++ (((V d).drop (64 * (first + pos off e k / 64))).take 64).drop (pos off e k % 64 + step e (pos off e k))).length = 64 := by
        simp only [List.length_append, List.length_take, List.length_drop, hVl, hd]; omega
      obtain ⟨q1, q2, q3⟩ := hq.write _ hi _ hx
      have hVt : V (if step e (pos off e k) < 64 then Disk.tick d else d) = V d := by split <;> rfl
      have hct : (if step e (pos off e k) < 64 then Disk.tick d else d).ca = d.ca := by split <;> rfl
      refine ⟨_, q1, q2, ?_, fun j hj => ?_⟩
      · rw [q3, hVt, sect _ _ _ _ _ (by rw [List.length_take, hd]; omega) s3 (by omega)]
        have e1 : 64 * (first + pos off e k / 64) + pos off e k % 64 = first * 64 + pos off e k := by omega
        rw [e1]
      · have := isSome_put _ _ _ _ hj
        rw [hct] at this; exact this
    obtain ⟨d2, w1, w2, w3, w4⟩ := key
    obtain ⟨d', i1, i2, i3, i4⟩ := ih (k + 1) _ d2 w2 (by omega) hd'
    have e1 : wr first off e (m + 1) k data d = (0, d') := by
      by_cases hs : step e (pos off e k) < 64
      · rw [if_pos hs] at w1
        have hrd := h.read (first + pos off e k / 64) hi
        generalize (V d).drop (64 * (first + pos off e k / 64)) = S at *
        have e3 := wr_part (first := first) (off := off) (e := e) (k := k) (m := m) (data := data) hs hrd w1
        rw [if_pos rfl] at e3
        exact e3.trans i1
      · rw [if_neg hs] at w1
        have hst : step e (pos off e k) = 64 := by omega
        have hmod : pos off e k % 64 = 0 := by omega
        rw [hmod, hst] at w1
        have e2 : (((V d).drop (64 * (first + pos off e k / 64))).take 64).drop (0 + 64) = [] := List.drop_of_length_le (by rw [List.length_take]; omega)
        rw [e2, List.take_zero, List.nil_append, List.append_nil] at w1
        have e3 := wr_full (first := first) (off := off) (e := e) (k := k) (m := m) (data := data) (d := d) (z2 := 0) (d2 := d2) hs (by rw [hst]; exact w1)
        rw [if_pos rfl] at e3
        exact e3.trans i1
    refine ⟨d', e1, i2, ?_, fun j hj => ?_⟩
    · rw [i3, w3, hsu, show first * 64 + (pos off e k + step e (pos off e k)) = first * 64 + pos off e k + step e (pos off e k) by omega,
        glue _ _ _ _ _ (by rw [List.length_take, hd]; omega) (by omega), List.take_append_drop]
      congr 2
      rw [List.length_drop]; omega
    · rcases i4 j hj with e | ⟨e2, e3, e4⟩
      · rcases w4 j e with e | e
        · exact .inl e
        · exact .inr ⟨by omega, by omega, hlt⟩
      · exact .inr ⟨by omega, e3, hlt⟩

theorem rd_quiet {n first off e : Nat} (hoe : off ≤ e) (hin : first * 64 + e ≤ n * 64) : ∀ (m k : Nat) (acc : List UInt8) (d : Dk), Quiet n d → k + m = Extent.cnt off e →
    ∃ d', rd first off e m k acc d = (acc ++ ((V d).drop (first * 64 + pos off e k)).take (e - pos off e k), 0, d') ∧ Quiet n d' ∧ V d' = V d ∧ d'.ca = d.ca := by
  intro m
  induction m with
  | zero =>
    intro k acc d h hk
    have hpc : pos off e k = e := by rw [show k = Extent.cnt off e by omega]; exact pos_cnt off e hoe
    exact ⟨d, by rw [hpc]; simp [rd], h, rfl, rfl⟩
  | succ m ih =>
    intro k acc d h hk
    have hlt := (pos_lt off e k hoe).2 (by omega)
    have hsu := pos_succ off e k (by omega)
    obtain ⟨s1, s2, s3, s4⟩ := step_pos hlt
    have hi : first + pos off e k / 64 < n := by omega
    have hVl := V_length h.ok
    rw [h.len] at hVl
    obtain ⟨d', i1, i2, i3, i4⟩ := ih (k + 1) (acc ++ ((((V d).drop (64 * (first + pos off e k / 64))).take 64).drop (pos off e k % 64)).take (step e (pos off e k))) (Disk.tick d) h.tick (by omega)
    refine ⟨d', ?_, i2, i3, i4⟩
    rw [Extent.rd_ok (first := first) (off := off) (e := e) (m := m) (k := k) (h.read (first + pos off e k / 64) hi), i1]
    congr 1
    have hVt : V (Disk.tick d) = V d := rfl
    rw [hVt, List.append_assoc, hsu]
    congr 1
    have e1 : ((((V d).drop (64 * (first + pos off e k / 64))).take 64).drop (pos off e k % 64)).take (step e (pos off e k)) = ((V d).drop (first * 64 + pos off e k)).take (step e (pos off e k)) := by
      rw [List.drop_take, List.take_take, Nat.min_eq_left (by omega), List.drop_drop, show 64 * (first + pos off e k / 64) + pos off e k % 64 = first * 64 + pos off e k by omega]
    rw [e1, show first * 64 + (pos off e k + step e (pos off e k)) = (first * 64 + pos off e k) + step e (pos off e k) by omega, ← List.drop_drop, show e - pos off e k = step e (pos off e k) + (e - (pos off e k + step e (pos off e k))) by omega, List.take_add]
    simp only [List.drop_drop, Nat.add_assoc]

/-- What ExtentReadBack sees of the disk. -/
theorem back_facts (n first count off : Nat) (image data : List UInt8) (hn : 1 ≤ n) (hn2 : n ≤ 4096) (hi : image.length = 64 * n) (hc : 1 ≤ count) (hf : first + count ≤ n) (hod : off + data.length ≤ count * 64) :
    ∃ d1 d2 d3, Extent.write (Disk.load n image) first count off data = (0, d1) ∧ Extent.read d1 first count 0 ((count * 64 : Nat) : Int) = (((image.take (first * 64 + off) ++ data ++ image.drop (first * 64 + off + data.length)).drop (first * 64)).take (count * 64), 0, d2) ∧
      Disk.sync d2 = (0, d3) ∧ d3.st.flatten = image.take (first * 64 + off) ++ data ++ image.drop (first * 64 + off + data.length) ∧
      (∀ z ∈ Disk.dirty d2, data.length ≠ 0 ∧ (((first * 64 + off : Nat) : Int) / 64) ≤ z ∧ z ≤ ((first * 64 + off + data.length - 1 : Nat) : Int) / 64) := by
  have hq : Quiet n (Disk.load n image) := ⟨Disk.load_ok n image hn hn2 hi, by simp [Disk.load, Disk.chunks_length], rfl, rfl⟩
  have hV := V_load n image hi
  have hsz : Extent.size (count : Int) = ((count * 64 : Nat) : Int) := by unfold Extent.size; rw [if_neg (by omega)]; omega
  have hck : ∀ (d : Dk) (o l : Nat), d.st.length = n → o + l ≤ count * 64 → Extent.check d.st.length first count o l = 0 := by
    intro d o l hd hol
    unfold Extent.check
    rw [hsz]
    unfold Extent.valid
    rw [hd]
    have : (decide (0 ≤ (first : Int)) && (decide (1 ≤ (count : Int)) && (decide ((count : Int) ≤ (n : Int)) && decide ((first : Int) ≤ (n : Int) - (count : Int))))) = true := by
      simp; omega
    rw [if_pos this, if_neg (by omega)]
  have hp0 : pos off (off + data.length) 0 = off := pos_zero _ _
  obtain ⟨d1, w1, w2, w3, w4⟩ := wr_quiet (n := n) (first := first) (show off ≤ off + data.length by omega) (by omega) (Extent.cnt off (off + data.length)) 0 data _ hq (by omega) (by rw [hp0]; omega)
  rw [hV, hp0] at w3
  have e1 : Extent.write (Disk.load n image) first count off data = (0, d1) := by
    unfold Extent.write
    rw [if_pos (hck _ off data.length hq.len hod)]
    have : ((off : Int) + (data.length : Int)).toNat = off + data.length := by omega
    rw [this]; exact w1
  obtain ⟨d2, r1, r2, r3, r4⟩ := rd_quiet (n := n) (first := first) (show 0 ≤ 0 + count * 64 by omega) (by omega) (Extent.cnt 0 (0 + count * 64)) 0 [] d1 w2 (by omega)
  have hp1 : pos 0 (0 + count * 64) 0 = 0 := pos_zero _ _
  have e2 : Extent.read d1 first count 0 ((count * 64 : Nat) : Int) = (((V d1).drop (first * 64)).take (count * 64), 0, d2) := by
    unfold Extent.read
    rw [if_pos (show Extent.check d1.st.length first count 0 ((count * 64 : Nat) : Int) = 0 from hck d1 0 (count * 64) w2.len (by omega))]
    have : ((0 : Int) + ((count * 64 : Nat) : Int)).toNat = 0 + count * 64 := by omega
    rw [this]
    rw [hp1] at r1
    simp only [List.nil_append, Nat.add_zero, Nat.sub_zero, Nat.zero_add] at r1 ⊢
    exact r1
  obtain ⟨d3, s1, s2⟩ := r2.sync
  refine ⟨d1, d2, d3, e1, by rw [e2, w3], s1, by rw [s2, r3, w3], fun z hz => ?_⟩
  unfold Disk.dirty at hz
  obtain ⟨j, hj, rfl⟩ := List.mem_map.1 hz
  have hj2 := (List.mem_filter.1 hj).2
  rw [r4] at hj2
  rcases w4 j hj2 with e | ⟨e3, e4, e5⟩
  · have hl : (Disk.load n image).ca = List.replicate n none := rfl
    rw [hl] at e
    rw [List.getElem?_replicate] at e
    split at e <;> cases e
  · rw [hp0] at e3 e5
    omega

end Extent
end Go.Proofs.YtabeelcidlhniaaGreat
