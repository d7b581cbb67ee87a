/-
  What is read back of a disk without faults: plain laws.
-/
import Derived.Test.YtedmnbmfbgenjaaExtL1
namespace Go.Proofs.Ytedmnbmfbgenjaa
namespace Extent
open Disk (Dk)

/-- The rows as they would be read. -/
def rows (d : Dk) : List (List UInt8) := (List.range d.st.length).map (Disk.content d)
def V (d : Dk) : List UInt8 := (rows d).flatten
theorem rows_length (d : Dk) : (rows d).length = d.st.length := by simp [rows]
theorem rows_mem {d : Dk} (h : d.Ok) : ∀ x ∈ rows d, x.length = 64 := by
  intro x hx
  obtain ⟨i, hi, rfl⟩ := List.mem_map.1 hx
  exact Disk.content64 h i (List.mem_range.1 hi)
theorem V_length {d : Dk} (h : d.Ok) : (V d).length = 64 * d.st.length := by rw [V, Disk.flat_length _ (rows_mem h), rows_length]
theorem rows_get (d : Dk) (i : Nat) (hi : i < d.st.length) : (rows d)[i]?.getD [] = Disk.content d i := by simp [rows, hi]
theorem V_slot {d : Dk} (h : d.Ok) (i : Nat) (hi : i < d.st.length) : Disk.content d i = ((V d).drop (64 * i)).take 64 := by
  rw [V, Disk.flat_slot _ (rows_mem h) i (by rw [rows_length]; exact hi), rows_get d i hi]
theorem content_put (d : Dk) (h : d.Ok) (i j : Nat) (hi : i < d.st.length) (x : List UInt8) : Disk.content (Disk.put d i x) j = if j = i then x else Disk.content d j := by
  unfold Disk.content Disk.put
  have h1 : i < d.ca.length := by rw [h.len]; exact hi
  by_cases e : j = i
  · subst e; rw [if_pos rfl]; simp [h1]
  · rw [if_neg e]; simp [Ne.symm e]
theorem V_put {d : Dk} (h : d.Ok) (i : Nat) (hi : i < d.st.length) (x : List UInt8) (hx : x.length = 64) : V (Disk.put d i x) = (V d).take (64 * i) ++ x ++ (V d).drop (64 * i + 64) := by
  have h1 := Disk.flat_set (rows d) (rows_mem h) i (by rw [rows_length]; exact hi) x 64 hx (Nat.le_refl _)
  unfold V
  rw [h1, rows_get d i hi]
  have h2 : (Disk.content d i).drop 64 = [] := List.drop_of_length_le (by rw [Disk.content64 h i hi]; exact Nat.le_refl _)
  rw [h2, List.append_nil]
  congr 1
  refine List.ext_getElem (by simp [rows, Disk.put]) fun j hj1 hj2 => ?_
  have hj : j < d.st.length := by simpa [rows, Disk.put] using hj1
  rw [List.getElem_set]
  simp only [rows, List.getElem_map, List.getElem_range]
  rw [content_put d h i j hi x]
  by_cases e : j = i
  · subst e; simp
  · rw [if_neg e, if_neg (fun e2 => e e2.symm)]
theorem V_flush {d : Dk} : (Disk.flush d).st.flatten = V d := rfl
theorem V_load (n : Nat) (l : List UInt8) (h : l.length = 64 * n) : V (Disk.load n l) = l := by
  have : rows (Disk.load n l) = Disk.chunks n l := by
    refine List.ext_getElem (by simp [rows, Disk.load]) fun j hj1 hj2 => ?_
    have hj : j < n := by simpa [Disk.chunks_length] using hj2
    simp only [rows, List.getElem_map, List.getElem_range]
    simp [Disk.content, Disk.load, hj, Disk.chunks]
  rw [V, this, Disk.chunks_flat n l h]

/-- A disk with power and without faults. -/
structure Quiet (n : Nat) (d : Dk) : Prop where
  ok : d.Ok
  len : d.st.length = n
  on : d.off = false
  fs : d.fs = []
theorem Quiet.tick {n : Nat} {d : Dk} (h : Quiet n d) : Quiet n (Disk.tick d) := ⟨⟨h.ok.len, h.ok.pos, h.ok.max, h.ok.st64, h.ok.ca64⟩, h.len, h.on, h.fs⟩
theorem Quiet.begin {n : Nat} {d : Dk} (h : Quiet n d) : Disk.begin d true = (false, 0, Disk.tick d) := by
  have : Disk.fault d = 0 := by unfold Disk.fault; rw [h.fs]; rfl
  unfold Disk.begin; rw [h.on, this]; rfl
theorem Quiet.read {n : Nat} {d : Dk} (h : Quiet n d) (i : Nat) (hi : i < n) : Disk.read d (i : Int) = (((V d).drop (64 * i)).take 64, 0, Disk.tick d) := by
  have hf : Disk.fits d (i : Int) = true := by unfold Disk.fits; simp [h.len, hi]
  rw [read_ok (by rw [hf]; exact h.begin), ← V_slot h.ok i (by rw [h.len]; exact hi)]; rfl
theorem Quiet.write {n : Nat} {d : Dk} (h : Quiet n d) (i : Nat) (hi : i < n) (x : List UInt8) (hx : x.length = 64) : Disk.write d (i : Int) x = (0, Disk.put (Disk.tick d) i x) ∧ Quiet n (Disk.put (Disk.tick d) i x) ∧ V (Disk.put (Disk.tick d) i x) = (V d).take (64 * i) ++ x ++ (V d).drop (64 * i + 64) := by
  have hf : (Disk.fits d (i : Int) && decide (x.length = 64)) = true := by unfold Disk.fits; simp [h.len, hi, hx]
  refine ⟨write_ok (by rw [hf]; exact h.begin), ⟨h.tick.ok.put i x hx, h.len, h.on, h.fs⟩, ?_⟩
  exact V_put h.tick.ok i (by rw [h.tick.len]; exact hi) x hx
theorem Quiet.sync {n : Nat} {d : Dk} (h : Quiet n d) : ∃ d', Disk.sync d = (0, d') ∧ d'.st.flatten = V d := by
  refine ⟨Disk.flush (Disk.tick d), ?_, rfl⟩
  unfold Disk.sync; rw [h.begin]; rfl
theorem isSome_put (d : Dk) (i j : Nat) (x : List UInt8) (h : (((Disk.put (Disk.tick d) i x).ca[j]?).getD none).isSome = true) : ((d.ca[j]?).getD none).isSome = true ∨ j = i := by
  by_cases e : j = i
  · exact .inr e
  · left
    have : (Disk.put (Disk.tick d) i x).ca[j]? = d.ca[j]? := by
      show (d.ca.set i (some x))[j]? = _
      simp [Ne.symm e]
    rw [this] at h; exact h

theorem glue (v : List UInt8) (A t : Nat) (x y : List UInt8) (hx : x.length = t) (hA : A ≤ v.length) :
    (v.take A ++ x ++ v.drop (A + t)).take (A + t) ++ y ++ (v.take A ++ x ++ v.drop (A + t)).drop (A + t + y.length) = v.take A ++ (x ++ y) ++ v.drop (A + (t + y.length)) := by
  have e1 : (v.take A ++ x).length = A + t := by rw [List.length_append, List.length_take, hx]; omega
  rw [List.take_append_of_le_length (by omega), List.take_of_length_le (by omega), List.drop_append, List.drop_of_length_le (by omega), e1, List.nil_append, List.drop_drop]
  simp only [List.append_assoc]
  congr 4; omega

theorem sect (v x : List UInt8) (i q t : Nat) (hx : x.length = t) (hq : q + t ≤ 64) (hv : 64 * i + 64 ≤ v.length) :
    v.take (64 * i) ++ (((v.drop (64 * i)).take 64).take q ++ x ++ ((v.drop (64 * i)).take 64).drop (q + t)) ++ v.drop (64 * i + 64) = v.take (64 * i + q) ++ x ++ v.drop (64 * i + q + t) := by
  have e1 : ((v.drop (64 * i)).take 64).take q = (v.drop (64 * i)).take q := by rw [List.take_take, Nat.min_eq_left (by omega)]
  have e2 : v.take (64 * i) ++ (v.drop (64 * i)).take q = v.take (64 * i + q) := List.take_add.symm
  have e3 : ((v.drop (64 * i)).take 64).drop (q + t) ++ v.drop (64 * i + 64) = v.drop (64 * i + q + t) := by
    have : v.drop (64 * i + 64) = (v.drop (64 * i)).drop 64 := by rw [List.drop_drop]
    rw [this]
    have h2 := List.take_append_drop 64 (v.drop (64 * i))
    have h3 : (v.drop (64 * i)).drop (q + t) = v.drop (64 * i + q + t) := by rw [List.drop_drop, Nat.add_assoc]
    rw [← h3]
    conv => rhs; rw [← h2]
    rw [List.drop_append_of_le_length (by rw [List.length_take, List.length_drop]; omega)]
  rw [e1]
  simp only [List.append_assoc]
  rw [e3, ← List.append_assoc, e2]

theorem wr_quiet {n first off e : Nat} (hoe : off ≤ e) (hin : first * 64 + e ≤ n * 64) : ∀ (m k : Nat) (data : List UInt8) (d : Dk), Quiet n d → k + m = Extent.cnt off e → data.length = e - pos off e k →
    ∃ d', wr first off e m k data d = (0, d') ∧ Quiet n d' ∧ V d' = (V d).take (first * 64 + pos off e k) ++ data ++ (V d).drop (first * 64 + pos off e k + data.length) ∧
      ∀ j, ((d'.ca[j]?).getD none).isSome = true → ((d.ca[j]?).getD none).isSome = true ∨ (first + pos off e k / 64 ≤ j ∧ j * 64 < first * 64 + e ∧ pos off e k < e) := by
  intro m
  induction m with
  | zero =>
    intro k data d h hk hd
    have hpc : pos off e k = e := by rw [show k = Extent.cnt off e by omega]; exact pos_cnt off e hoe
    have : data = [] := List.eq_nil_of_length_eq_zero (by omega)
    exact ⟨d, rfl, h, by rw [this]; simp, fun j hj => .inl hj⟩
  | succ m ih =>
    intro k data d h hk hd
    have hlt := (pos_lt off e k hoe).2 (by omega)
    have hsu := pos_succ off e k (by omega)
    obtain ⟨s1, s2, s3, s4⟩ := step_pos hlt
    have hi : first + pos off e k / 64 < n := by omega
    have hd' : (data.drop (step e (pos off e k))).length = e - pos off e (k + 1) := by rw [List.length_drop, hd, hsu]; omega
    have hVl := V_length h.ok
    rw [h.len] at hVl
    -- what one write does
    have key : ∃ d2, Disk.write (if step e (pos off e k) < 64 then Disk.tick d else d) ((first + pos off e k / 64 : Nat) : Int) ((((V d).drop (64 * (first + pos off e k / 64))).take 64).take (pos off e k % 64) ++ data.take (step e (pos off e k)) ++ (((V d).drop (64 * (first + pos off e k / 64))).take 64).drop (pos off e k % 64 + step e (pos off e k))) = (0, d2) ∧ Quiet n d2 ∧
        V d2 = (V d).take (first * 64 + pos off e k) ++ data.take (step e (pos off e k)) ++ (V d).drop (first * 64 + pos off e k + step e (pos off e k)) ∧ ∀ j, ((d2.ca[j]?).getD none).isSome = true → ((d.ca[j]?).getD none).isSome = true ∨ j = first + pos off e k / 64 := by
      have hq : Quiet n (if step e (pos off e k) < 64 then Disk.tick d else d) := by split; exact h.tick; exact h
      have hx : ((((V d).drop (64 * (first + pos off e k / 64))).take 64).take (pos off e k % 64) ++ data.take (step e (pos off e k)) ++ (((V d).drop (64 * (first + pos off e k / 64))).take 64).drop (pos off e k % 64 + step e (pos off e k))).length = 64 := by
        simp only [List.length_append, List.length_take, List.length_drop, hVl, hd]; omega
      obtain ⟨q1, q2, q3⟩ := hq.write _ hi _ hx
      have hVt : V (if step e (pos off e k) < 64 then Disk.tick d else d) = V d := by split <;> rfl
      have hct : (if step e (pos off e k) < 64 then Disk.tick d else d).ca = d.ca := by split <;> rfl
      refine ⟨_, q1, q2, ?_, fun j hj => ?_⟩
      · rw [q3, hVt, sect _ _ _ _ _ (by rw [List.length_take, hd]; omega) s3 (by omega)]
        have e1 : 64 * (first + pos off e k / 64) + pos off e k % 64 = first * 64 + pos off e k := by omega
        rw [e1]
      · have := isSome_put _ _ _ _ hj
        rw [hct] at this; exact this
    obtain ⟨d2, w1, w2, w3, w4⟩ := key
    obtain ⟨d', i1, i2, i3, i4⟩ := ih (k + 1) _ d2 w2 (by omega) hd'
    have e1 : wr first off e (m + 1) k data d = (0, d') := by
      by_cases hs : step e (pos off e k) < 64
      · rw [if_pos hs] at w1
        have hrd := h.read (first + pos off e k / 64) hi
        generalize (V d).drop (64 * (first + pos off e k / 64)) = S at *
        have e3 := wr_part (first := first) (off := off) (e := e) (k := k) (m := m) (data := data) hs hrd w1
        rw [if_pos rfl] at e3
        exact e3.trans i1
      · rw [if_neg hs] at w1
        have hst : step e (pos off e k) = 64 := by omega
        have hmod : pos off e k % 64 = 0 := by omega
        rw [hmod, hst] at w1
        have e2 : (((V d).drop (64 * (first + pos off e k / 64))).take 64).drop (0 + 64) = [] := List.drop_of_length_le (by rw [List.length_take]; omega)
        rw [e2, List.take_zero, List.nil_append, List.append_nil] at w1
        have e3 := wr_full (first := first) (off := off) (e := e) (k := k) (m := m) (data := data) (d := d) (z2 := 0) (d2 := d2) hs (by rw [hst]; exact w1)
        rw [if_pos rfl] at e3
        exact e3.trans i1
    refine ⟨d', e1, i2, ?_, fun j hj => ?_⟩
    · rw [i3, w3, hsu, show first * 64 + (pos off e k + step e (pos off e k)) = first * 64 + pos off e k + step e (pos off e k) by omega,
        glue _ _ _ _ _ (by rw [List.length_take, hd]; omega) (by omega), List.take_append_drop]
      congr 2
      rw [List.length_drop]; omega
    · rcases i4 j hj with e | ⟨e2, e3, e4⟩
      · rcases w4 j e with e | e
        · exact .inl e
        · exact .inr ⟨by omega, by omega, hlt⟩
      · exact .inr ⟨by omega, e3, hlt⟩

theorem rd_quiet {n first off e : Nat} (hoe : off ≤ e) (hin : first * 64 + e ≤ n * 64) : ∀ (m k : Nat) (acc : List UInt8) (d : Dk), Quiet n d → k + m = Extent.cnt off e →
    ∃ d', rd first off e m k acc d = (acc ++ ((V d).drop (first * 64 + pos off e k)).take (e - pos off e k), 0, d') ∧ Quiet n d' ∧ V d' = V d ∧ d'.ca = d.ca := by
  intro m
  induction m with
  | zero =>
    intro k acc d h hk
    have hpc : pos off e k = e := by rw [show k = Extent.cnt off e by omega]; exact pos_cnt off e hoe
    exact ⟨d, by rw [hpc]; simp [rd], h, rfl, rfl⟩
  | succ m ih =>
    intro k acc d h hk
    have hlt := (pos_lt off e k hoe).2 (by omega)
    have hsu := pos_succ off e k (by omega)
    obtain ⟨s1, s2, s3, s4⟩ := step_pos hlt
    have hi : first + pos off e k / 64 < n := by omega
    have hVl := V_length h.ok
    rw [h.len] at hVl
    obtain ⟨d', i1, i2, i3, i4⟩ := ih (k + 1) (acc ++ ((((V d).drop (64 * (first + pos off e k / 64))).take 64).drop (pos off e k % 64)).take (step e (pos off e k))) (Disk.tick d) h.tick (by omega)
    refine ⟨d', ?_, i2, i3, i4⟩
    rw [Extent.rd_ok (first := first) (off := off) (e := e) (m := m) (k := k) (h.read (first + pos off e k / 64) hi), i1]
    congr 1
    have hVt : V (Disk.tick d) = V d := rfl
    rw [hVt, List.append_assoc, hsu]
    congr 1
    have e1 : ((((V d).drop (64 * (first + pos off e k / 64))).take 64).drop (pos off e k % 64)).take (step e (pos off e k)) = ((V d).drop (first * 64 + pos off e k)).take (step e (pos off e k)) := by
      rw [List.drop_take, List.take_take, Nat.min_eq_left (by omega), List.drop_drop, show 64 * (first + pos off e k / 64) + pos off e k % 64 = first * 64 + pos off e k by omega]
    rw [e1, show first * 64 + (pos off e k + step e (pos off e k)) = (first * 64 + pos off e k) + step e (pos off e k) by omega, ← List.drop_drop, show e - pos off e k = step e (pos off e k) + (e - (pos off e k + step e (pos off e k))) by omega, List.take_add]
    simp only [List.drop_drop, Nat.add_assoc]

/-- What ExtentReadBack sees of the disk. -/
theorem back_facts (n first count off : Nat) (image data : List UInt8) (hn : 1 ≤ n) (hn2 : n ≤ 4096) (hi : image.length = 64 * n) (hc : 1 ≤ count) (hf : first + count ≤ n) (hod : off + data.length ≤ count * 64) :
    ∃ d1 d2 d3, Extent.write (Disk.load n image) first count off data = (0, d1) ∧ Extent.read d1 first count 0 ((count * 64 : Nat) : Int) = (((image.take (first * 64 + off) ++ data ++ image.drop (first * 64 + off + data.length)).drop (first * 64)).take (count * 64), 0, d2) ∧
      Disk.sync d2 = (0, d3) ∧ d3.st.flatten = image.take (first * 64 + off) ++ data ++ image.drop (first * 64 + off + data.length) ∧
      (∀ z ∈ Disk.dirty d2, data.length ≠ 0 ∧ (((first * 64 + off : Nat) : Int) / 64) ≤ z ∧ z ≤ ((first * 64 + off + data.length - 1 : Nat) : Int) / 64) := by
  have hq : Quiet n (Disk.load n image) := ⟨Disk.load_ok n image hn hn2 hi, by simp [Disk.load, Disk.chunks_length], rfl, rfl⟩
  have hV := V_load n image hi
  have hsz : Extent.size (count : Int) = ((count * 64 : Nat) : Int) := by unfold Extent.size; rw [if_neg (by omega)]; omega
  have hck : ∀ (d : Dk) (o l : Nat), d.st.length = n → o + l ≤ count * 64 → Extent.check d.st.length first count o l = 0 := by
    intro d o l hd hol
    unfold Extent.check
    rw [hsz]
    unfold Extent.valid
    rw [hd]
    have : (decide (0 ≤ (first : Int)) && (decide (1 ≤ (count : Int)) && (decide ((count : Int) ≤ (n : Int)) && decide ((first : Int) ≤ (n : Int) - (count : Int))))) = true := by
      simp; omega
    rw [if_pos this, if_neg (by omega)]
  have hp0 : pos off (off + data.length) 0 = off := pos_zero _ _
  obtain ⟨d1, w1, w2, w3, w4⟩ := wr_quiet (n := n) (first := first) (show off ≤ off + data.length by omega) (by omega) (Extent.cnt off (off + data.length)) 0 data _ hq (by omega) (by rw [hp0]; omega)
  rw [hV, hp0] at w3
  have e1 : Extent.write (Disk.load n image) first count off data = (0, d1) := by
    unfold Extent.write
    rw [if_pos (hck _ off data.length hq.len hod)]
    have : ((off : Int) + (data.length : Int)).toNat = off + data.length := by omega
    rw [this]; exact w1
  obtain ⟨d2, r1, r2, r3, r4⟩ := rd_quiet (n := n) (first := first) (show 0 ≤ 0 + count * 64 by omega) (by omega) (Extent.cnt 0 (0 + count * 64)) 0 [] d1 w2 (by omega)
  have hp1 : pos 0 (0 + count * 64) 0 = 0 := pos_zero _ _
  have e2 : Extent.read d1 first count 0 ((count * 64 : Nat) : Int) = (((V d1).drop (first * 64)).take (count * 64), 0, d2) := by
    unfold Extent.read
    rw [if_pos (show Extent.check d1.st.length first count 0 ((count * 64 : Nat) : Int) = 0 from hck d1 0 (count * 64) w2.len (by omega))]
    have : ((0 : Int) + ((count * 64 : Nat) : Int)).toNat = 0 + count * 64 := by omega
    rw [this]
    rw [hp1] at r1
    simp only [List.nil_append, Nat.add_zero, Nat.sub_zero, Nat.zero_add] at r1 ⊢
    exact r1
  obtain ⟨d3, s1, s2⟩ := r2.sync
  refine ⟨d1, d2, d3, e1, by rw [e2, w3], s1, by rw [s2, r3, w3], fun z hz => ?_⟩
  unfold Disk.dirty at hz
  obtain ⟨j, hj, rfl⟩ := List.mem_map.1 hz
  have hj2 := (List.mem_filter.1 hj).2
  rw [r4] at hj2
  rcases w4 j hj2 with e | ⟨e3, e4, e5⟩
  · have hl : (Disk.load n image).ca = List.replicate n none := rfl
    rw [hl] at e
    rw [List.getElem?_replicate] at e
    split at e <;> cases e
  · rw [hp0] at e3 e5
    omega

end Extent
end Go.Proofs.Ytedmnbmfbgenjaa
