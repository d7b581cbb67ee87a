/-
  Plain laws about logs: what a read extent holds, scans, fresh logs on a disk without faults.
-/
import Derived.Test.YtedmnbmfbgenjaaWal4
import Derived.Test.YtedmnbmfbgenjaaExtRBPlain
namespace Go.Proofs.Ytedmnbmfbgenjaa
open Go.RowKit

theorem Extent.rd_len {first off e : Nat} (hoe : off ≤ e) : ∀ (m k : Nat) (acc : List UInt8) (d : Disk.Dk), d.Ok → k + m = Extent.cnt off e → acc.length = Extent.pos off e k - off → ∀ {b : List UInt8} {d' : Disk.Dk}, Extent.rd first off e m k acc d = (b, 0, d') → b.length = e - off := by
  intro m
  induction m with
  | zero =>
    intro k acc d h hk ha b d' hr
    have hpc : Extent.pos off e k = e := by rw [show k = Extent.cnt off e by omega]; exact Extent.pos_cnt off e hoe
    have hr : (acc, (0 : Int), d) = (b, 0, d') := hr
    injection hr with h1 _
    rw [← h1, ha, hpc]
  | succ m ih =>
    intro k acc d h hk ha b d' hr
    have hlt := (Extent.pos_lt off e k hoe).2 (by omega)
    have hsu := Extent.pos_succ off e k (by omega)
    have hge := Extent.pos_ge off e k
    obtain ⟨s1, s2, s3, s4⟩ := Extent.step_pos hlt
    rcases hd : Disk.read d ((first + Extent.pos off e k / 64 : Nat) : Int) with ⟨b1, z, d1⟩
    by_cases hz : z = 0
    · subst hz
      rw [Extent.rd_ok hd] at hr
      have hl := Disk.read_len h hd
      have hOk := h.read ((first + Extent.pos off e k / 64 : Nat) : Int)
      rw [hd] at hOk
      refine ih (k + 1) _ d1 hOk (by omega) ?_ hr
      rw [List.length_append, ha, List.length_take, List.length_drop, hl, hsu]; omega
    · rw [Extent.rd_err hd hz] at hr
      injection hr with _ hr; injection hr with hr _; exact absurd hr hz

theorem Extent.read_len {d : Disk.Dk} (h : d.Ok) {f c off len : Int} {b : List UInt8} {d' : Disk.Dk} (hr : Extent.read d f c off len = (b, 0, d')) : (b.length : Int) = len ∧ Extent.check d.st.length f c off len = 0 := by
  unfold Extent.read at hr
  by_cases hc : Extent.check d.st.length f c off len = 0
  · rw [if_pos hc] at hr
    obtain ⟨c1, c2, c3, c4, c5, c6, c7⟩ := Extent.check_ok hc
    have hp : Extent.pos off.toNat (off + len).toNat 0 = off.toNat := Extent.pos_zero _ _
    have := Extent.rd_len (by omega) _ _ _ d h (by omega) (by rw [hp]; simp) hr
    exact ⟨by omega, hc⟩
  · rw [if_neg hc] at hr
    injection hr with _ hr; injection hr with hr _; exact absurd hr hc

/-- What Open reads of an extent. -/
theorem Wal.read_all {d : Disk.Dk} (h : d.Ok) (hn : d.st.length ≤ 1000) {f c : Int} {b : List UInt8} {d' : Disk.Dk} (hr : Extent.read d f c 0 (Extent.size c) = (b, 0, d')) : 64 ≤ b.length ∧ b.length ≤ 64000 ∧ (b.length : Int) = Extent.size c := by
  obtain ⟨h1, h2⟩ := Extent.read_len h hr
  obtain ⟨c1, c2, c3, c4, c5, c6, c7⟩ := Extent.check_ok h2
  have hs : Extent.size c = c * 64 := by unfold Extent.size; rw [if_neg (by omega)]
  rw [hs] at h1 ⊢
  exact ⟨by omega, by omega, h1⟩

theorem Frame.go_le (b : List UInt8) (ep f : Nat) : ∀ k out e, e ≤ b.length → 14 * out.length ≤ e → (Frame.go b ep f k out e).2 ≤ b.length ∧ 14 * (Frame.go b ep f k out e).1.length ≤ (Frame.go b ep f k out e).2 := by
  induction f with
  | zero => intro k out e h1 h2; exact ⟨h1, h2⟩
  | succ f ih =>
    intro k out e h1 h2
    by_cases h : (Frame.dec (b.drop e) ep k).2.2 = 0
    · rw [Frame.go_ok _ _ _ _ _ _ h]
      obtain ⟨k1, k2, k3⟩ := Frame.dec_ok _ _ _ h
      rw [List.length_drop] at k2
      exact ih _ _ _ (by omega) (by rw [List.length_append, List.length_singleton]; omega)
    · rw [Frame.go_end _ _ _ _ _ _ h]; exact ⟨h1, h2⟩
theorem Frame.scan_le (b : List UInt8) (ep : Nat) : (Frame.scan b ep).2 ≤ b.length ∧ 14 * (Frame.scan b ep).1.length ≤ (Frame.scan b ep).2 := Frame.go_le b ep _ _ _ _ (by omega) (by simp)

theorem Frame.scan_zeros (n ep : Nat) : Frame.scan (List.replicate n 0) ep = ([], 0) := by
  unfold Frame.scan
  apply Frame.go_end
  rw [List.drop_zero]
  by_cases hn : n < 14
  · unfold Frame.dec
    rw [if_pos (by simpa using hn)]; simp
  · obtain ⟨m, rfl⟩ : ∃ m, n = 14 + m := ⟨n - 14, by omega⟩
    have e : List.replicate (14 + m) (0 : UInt8) = List.replicate 14 0 ++ List.replicate m 0 := List.replicate_append_replicate.symm
    have h2 : Frame.len2 (List.replicate (14 + m) 0) = 0 := by
      unfold Frame.len2
      rw [e, List.take_append_of_le_length (by simp)]; decide
    unfold Frame.dec
    rw [if_neg (by simp), h2, if_neg (by omega), if_neg (by simp), if_pos]
    · simp
    · rw [e, List.drop_append_of_le_length (by simp), List.take_append_of_le_length (by simp), List.take_append_of_le_length (by simp)]
      decide +kernel

/-- A fresh log. -/
theorem Wal.open_new (n ep : Nat) (hn : 1 ≤ n) (hn2 : n ≤ 1000) : ∃ d, Wal.open (Disk.new n) 0 n ep = (some ⟨0, n, ep, 0, 0, 0, false⟩, [], 0, d) ∧ Extent.Quiet n d := by
  have hq : Extent.Quiet n (Disk.new n) := ⟨Disk.new_ok n hn (by omega), by simp [Disk.new], rfl, rfl⟩
  have hV : Extent.V (Disk.new n) = List.replicate (64 * n) 0 := by
    have : Extent.rows (Disk.new n) = List.replicate n (List.replicate 64 0) := by
      refine List.ext_getElem (by simp [Extent.rows, Disk.new]) fun j hj1 hj2 => ?_
      have hj : j < n := by simpa using hj2
      simp [Extent.rows, Disk.content, Disk.new, hj]
    unfold Extent.V
    rw [this, List.flatten_replicate_replicate, Nat.mul_comm]
  have hsz : Extent.size (n : Int) = ((n * 64 : Nat) : Int) := by unfold Extent.size; rw [if_neg (by omega)]; omega
  have hck : Extent.check (Disk.new n).st.length 0 n 0 ((n * 64 : Nat) : Int) = 0 := by
    unfold Extent.check
    rw [hsz]
    unfold Extent.valid
    rw [hq.len]
    have : (decide (0 ≤ (0 : Int)) && (decide (1 ≤ (n : Int)) && (decide ((n : Int) ≤ (n : Int)) && decide ((0 : Int) ≤ (n : Int) - (n : Int))))) = true := by simp; omega
    rw [if_pos this, if_neg (by omega)]
  obtain ⟨d1, r1, r2, r3, r4⟩ := Extent.rd_quiet (n := n) (first := 0) (show 0 ≤ 0 + n * 64 by omega) (by omega) (Extent.cnt 0 (0 + n * 64)) 0 [] _ hq (by omega)
  have hp1 : Extent.pos 0 (0 + n * 64) 0 = 0 := Extent.pos_zero _ _
  have e2 : Extent.read (Disk.new n) 0 n 0 (Extent.size n) = (List.replicate (64 * n) 0, 0, d1) := by
    rw [hsz]
    unfold Extent.read
    rw [if_pos hck]
    have : ((0 : Int) + ((n * 64 : Nat) : Int)).toNat = 0 + n * 64 := by omega
    rw [this]
    rw [hp1, hV] at r1
    simp only [List.nil_append, Nat.add_zero, Nat.sub_zero, Nat.zero_add, Nat.zero_mul, List.drop_zero] at r1 ⊢
    rw [show (0 : Int).toNat = 0 from rfl]
    rw [r1, List.take_of_length_le (by simp; omega)]
  have hz : Wal.erase d1 0 n (0 : Nat) (List.replicate (64 * n) 0) = (0, d1) := by
    unfold Wal.erase
    rw [if_pos (by unfold zeros; rw [List.all_replicate]; split <;> rfl)]
  have hs : Disk.sync d1 = (0, Disk.flush (Disk.tick d1)) := by unfold Disk.sync; rw [r2.begin]; rfl
  refine ⟨Disk.flush (Disk.tick d1), ?_, ⟨r2.tick.ok.flush, ?_, r2.on, r2.fs⟩⟩
  · unfold Wal.open
    rw [e2]
    simp only [Frame.scan_zeros, List.drop_zero, if_true]
    rw [hz]
    simp only [if_true]
    rw [hs]
    simp only [if_true]; rfl
  · have := r2.len
    simpa [Disk.flush, Disk.tick] using this

/-- Records on a disk without faults. -/
theorem Wal.append_ok {n : Nat} {d : Disk.Dk} (h : Extent.Quiet n d) {c : Nat} (hc : 1 ≤ c) (hc2 : c ≤ n) (ep en rc sy : Nat) (p : List UInt8) (hp : p.length ≤ 1024) (hf : en + (14 + p.length) ≤ c * 64) :
    ∃ d', Wal.append ⟨0, c, ep, en, rc, sy, false⟩ d p = (0, ⟨0, c, ep, en + (14 + p.length), rc + 1, sy, false⟩, d') ∧ Extent.Quiet n d' := by
  have hn2 := h.ok.max
  rw [h.len] at hn2
  have hsz : Extent.size (c : Int) = ((c * 64 : Nat) : Int) := by unfold Extent.size; rw [if_neg (by omega)]; omega
  have hl := Frame.enc_length ep rc p
  have hck : Extent.check d.st.length 0 c en (Frame.enc ep rc p).length = 0 := by
    unfold Extent.check
    rw [hsz, hl]
    unfold Extent.valid
    rw [h.len]
    have : (decide (0 ≤ (0 : Int)) && (decide (1 ≤ (c : Int)) && (decide ((c : Int) ≤ (n : Int)) && decide ((0 : Int) ≤ (n : Int) - (c : Int))))) = true := by simp; omega
    rw [if_pos this, if_neg (by omega)]
  obtain ⟨d', w1, w2, w3, w4⟩ := Extent.wr_quiet (n := n) (first := 0) (show en ≤ en + (14 + p.length) by omega) (by omega) (Extent.cnt en (en + (14 + p.length))) 0 (Frame.enc ep rc p) d h (by omega) (by rw [Extent.pos_zero, hl]; omega)
  have hw : Extent.write d 0 c en (Frame.enc ep rc p) = (0, d') := by
    unfold Extent.write
    rw [if_pos hck]
    have : ((en : Int) + ((Frame.enc ep rc p).length : Int)).toNat = en + (14 + p.length) := by rw [hl]; omega
    rw [this]; exact w1
  refine ⟨d', ?_, w2⟩
  unfold Wal.append
  rw [if_neg (by simp), if_neg (by omega), if_neg (by simp only [hsz]; omega)]
  simp only
  rw [hw]; rfl
theorem Wal.append_full {d : Disk.Dk} {c : Nat} (hc : c ≤ 4096) (ep en rc sy : Nat) (p : List UInt8) (hp : p.length ≤ 1024) (hf : c * 64 < en + (14 + p.length)) :
    Wal.append ⟨0, c, ep, en, rc, sy, false⟩ d p = (11, ⟨0, c, ep, en, rc, sy, false⟩, d) := by
  have hsz : Extent.size (c : Int) = ((c * 64 : Nat) : Int) := by unfold Extent.size; rw [if_neg (by omega)]; omega
  unfold Wal.append
  rw [if_neg (by simp), if_neg (by omega), if_pos (by simp only [hsz]; omega)]

/-- A list of lists is kept where its blocks are. -/
theorem OwnB.keep {base : Nat} {w w' : World} {v : Value} {l : List UInt8} (h : OwnB base w v l) (e : ∀ k, base ≤ k → k < w.heap.size → w'.heap[k]? = w.heap[k]?) : OwnB base w' v l := by
  refine ⟨h.1, ?_⟩
  rcases h.2 with hn | ⟨g, cap, cur, rfl, hb, hgg, rest⟩
  · exact .inl hn
  · exact .inr ⟨g, cap, cur, rfl, hb, (e g hb (heap_lt hgg)).trans hgg, rest⟩
theorem OwnL.keep {base : Nat} {w w' : World} {v : Value} {ls : List (List UInt8)} (h : OwnL base w v ls) (e : ∀ k, base ≤ k → k < w.heap.size → w'.heap[k]? = w.heap[k]?) : OwnL base w' v ls := by
  obtain ⟨vs, h1, h2⟩ := h
  refine ⟨vs, ⟨h1.1, ?_⟩, fun i hi => ?_⟩
  · rcases h1.2 with hn | ⟨g, cap, cur, rfl, hb, hgg, rest⟩
    · exact .inl hn
    · exact .inr ⟨g, cap, cur, rfl, hb, (e g hb (heap_lt hgg)).trans hgg, rest⟩
  · obtain ⟨u, h3, h4⟩ := h2 i hi
    exact ⟨u, h3, h4.keep e⟩
theorem OwnL.mono {b b' : Nat} {w : World} {v : Value} {ls : List (List UInt8)} (h : OwnL b w v ls) (hb : b' ≤ b) : OwnL b' w v ls := by
  obtain ⟨vs, h1, h2⟩ := h
  refine ⟨vs, ⟨h1.1, ?_⟩, fun i hi => ?_⟩
  · rcases h1.2 with hn | ⟨g, cap, cur, rfl, hbb, rest⟩
    · exact .inl hn
    · exact .inr ⟨g, cap, cur, rfl, by omega, rest⟩
  · obtain ⟨u, h3, h4⟩ := h2 i hi
    exact ⟨u, h3, h4.mono hb⟩

end Go.Proofs.Ytedmnbmfbgenjaa
