/-
  Plain laws: the operations on disks, extents and logs keep the number of sectors; logs that lie in their extents.
-/
import Derived.Test.YtabeelcidlhniaaGreatRun31
import Derived.Test.YtabeelcidlhniaaGreatRun35
namespace Go.Proofs.YtabeelcidlhniaaGreat
open Go.RowKit

theorem Disk.sync_len (d : Disk.Dk) : (Disk.sync d).2.st.length = d.st.length := by
  rw [sync_is]
  split
  · rfl
  · split
    · rfl
    · split
      · rfl
      · simp [Disk.flush, Disk.tick]
theorem Disk.arm_len (d : Disk.Dk) (fs : List (Int × Int)) : (Disk.arm d fs).2.st.length = d.st.length := by unfold Disk.arm; split <;> rfl
theorem Disk.tears_len (ks : List (Int × Int)) : ∀ d : Disk.Dk, (ks.foldl Disk.tear d).st.length = d.st.length := by
  induction ks with
  | nil => intro d; rfl
  | cons k ks ih => intro d; rw [List.foldl_cons, ih, (Disk.tear_ca d k).2]
theorem Disk.restart_len (d : Disk.Dk) (ks : List (Int × Int)) : (Disk.restart d ks).st.length = d.st.length := by unfold Disk.restart; exact Disk.tears_len ks d
theorem Extent.rd_st (first off e : Nat) : ∀ (m k : Nat) (acc : List UInt8) (d : Disk.Dk), (Extent.rd first off e m k acc d).2.2.st.length = d.st.length := by
  intro m
  induction m with
  | zero => intro k acc d; rfl
  | succ m ih =>
    intro k acc d
    rcases hr : Disk.read d ((first + Extent.pos off e k / 64 : Nat) : Int) with ⟨b, z, d1⟩
    have hs := (Disk.read_st d ((first + Extent.pos off e k / 64 : Nat) : Int)).1
    rw [hr] at hs
    have hs : d1.st = d.st := hs
    by_cases hz : z = 0
    · subst hz; rw [Extent.rd_ok hr, ih, hs]
    · rw [Extent.rd_err hr hz]; exact congrArg List.length hs
theorem Extent.wr_st (first off e : Nat) : ∀ (m k : Nat) (x : List UInt8) (d : Disk.Dk), (Extent.wr first off e m k x d).2.st.length = d.st.length := by
  intro m
  induction m with
  | zero => intro k x d; rfl
  | succ m ih =>
    intro k x d
    by_cases hs : Extent.step e (Extent.pos off e k) < 64
    · rcases hr : Disk.read d ((first + Extent.pos off e k / 64 : Nat) : Int) with ⟨b, z, d1⟩
      have h1 := (Disk.read_st d ((first + Extent.pos off e k / 64 : Nat) : Int)).1
      rw [hr] at h1
      have h1 : d1.st = d.st := h1
      by_cases hz : z = 0
      · subst hz
        rcases hw : Disk.write d1 ((first + Extent.pos off e k / 64 : Nat) : Int) (b.take (Extent.pos off e k % 64) ++ x.take (Extent.step e (Extent.pos off e k)) ++ b.drop (Extent.pos off e k % 64 + Extent.step e (Extent.pos off e k))) with ⟨z2, d2⟩
        have h2 := Disk.write_st d1 ((first + Extent.pos off e k / 64 : Nat) : Int) (b.take (Extent.pos off e k % 64) ++ x.take (Extent.step e (Extent.pos off e k)) ++ b.drop (Extent.pos off e k % 64 + Extent.step e (Extent.pos off e k)))
        rw [hw] at h2
        have h2 : d2.st = d1.st := h2
        rw [Extent.wr_part hs hr hw]
        split
        · rw [ih, h2, h1]
        · show d2.st.length = _; rw [h2, h1]
      · rw [Extent.wr_rerr hs hr hz]; show d1.st.length = _; rw [h1]
    · rcases hw : Disk.write d ((first + Extent.pos off e k / 64 : Nat) : Int) (x.take (Extent.step e (Extent.pos off e k))) with ⟨z2, d2⟩
      have h2 := Disk.write_st d ((first + Extent.pos off e k / 64 : Nat) : Int) (x.take (Extent.step e (Extent.pos off e k)))
      rw [hw] at h2
      have h2 : d2.st = d.st := h2
      rw [Extent.wr_full hs hw]
      split
      · rw [ih, h2]
      · show d2.st.length = _; rw [h2]
theorem Extent.read_st (d : Disk.Dk) (f c off len : Int) : (Extent.read d f c off len).2.2.st.length = d.st.length := by
  unfold Extent.read; split
  · exact Extent.rd_st _ _ _ _ _ _ _
  · rfl
theorem Extent.write_st (d : Disk.Dk) (f c off : Int) (x : List UInt8) : (Extent.write d f c off x).2.st.length = d.st.length := by
  unfold Extent.write; split
  · exact Extent.wr_st _ _ _ _ _ _ _
  · rfl
theorem Wal.erase_st (d : Disk.Dk) (f c en : Int) (r : List UInt8) : (Wal.erase d f c en r).2.st.length = d.st.length := by
  unfold Wal.erase; split
  · rfl
  · exact Extent.write_st _ _ _ _ _
theorem Wal.sync_st (L : Wal.L) (d : Disk.Dk) : (Wal.sync L d).2.2.st.length = d.st.length := by
  unfold Wal.sync; split
  · rfl
  · have h := Disk.sync_len d
    rcases hs : Disk.sync d with ⟨z, d1⟩
    rw [hs] at h
    simp only
    split <;> exact h
theorem Wal.append_st (L : Wal.L) (d : Disk.Dk) (p : List UInt8) : (Wal.append L d p).2.2.st.length = d.st.length := by
  unfold Wal.append
  split
  · rfl
  · split
    · rfl
    · split
      · rfl
      · have h := Extent.write_st d L.f L.c L.en (Frame.enc L.ep L.rc p)
        rcases hs : Extent.write d L.f L.c L.en (Frame.enc L.ep L.rc p) with ⟨z, d1⟩
        rw [hs] at h
        simp only
        split <;> exact h
theorem Wal.open_st (d : Disk.Dk) (f c : Int) (ep : Nat) : (Wal.open d f c ep).2.2.2.st.length = d.st.length := by
  rcases hr : Extent.read d f c 0 (Extent.size c) with ⟨b, z, d1⟩
  have h1 := Extent.read_st d f c 0 (Extent.size c)
  rw [hr] at h1
  have h1 : d1.st.length = d.st.length := h1
  by_cases hz : z = 0
  · subst hz
    rcases he : Wal.erase d1 f c (Frame.scan b ep).2 (b.drop (Frame.scan b ep).2) with ⟨z2, d2⟩
    have h2 := Wal.erase_st d1 f c (Frame.scan b ep).2 (b.drop (Frame.scan b ep).2)
    rw [he] at h2
    have h2 : d2.st.length = d1.st.length := h2
    by_cases hz2 : z2 = 0
    · subst hz2
      rcases hs : Disk.sync d2 with ⟨z3, d3⟩
      have h3 := Disk.sync_len d2
      rw [hs] at h3
      have h3 : d3.st.length = d2.st.length := h3
      by_cases hz3 : z3 = 0
      · subst hz3; rw [Wal.open_o hr he hs]; show d3.st.length = _; omega
      · rw [Wal.open_e3 hr he hs hz3]; show d3.st.length = _; omega
    · rw [Wal.open_e2 hr he hz2]; show d2.st.length = _; omega
  · rw [Wal.open_e1 hr hz]; exact h1

/-- A log that lies in its extent. -/
structure GoodL (L : Wal.L) : Prop where
  f : ib L.f
  c : ib L.c
  ep : L.ep < 4294967296
  en : (L.en : Int) ≤ Extent.size L.c
  size : Extent.size L.c ≤ 64000
  rc : 14 * L.rc ≤ L.en
theorem GoodL.fits {L : Wal.L} (h : GoodL L) : Wal.Fits L := by
  have h1 := h.en; have h2 := h.size; have h3 := h.rc
  exact ⟨h.f, h.c, h.ep, by omega, by omega, by omega, by omega⟩
theorem GoodL.sync {L : Wal.L} (h : GoodL L) (d : Disk.Dk) : GoodL (Wal.sync L d).2.1 := by
  unfold Wal.sync; split
  · exact h
  · rcases hs : Disk.sync d with ⟨z, d1⟩
    simp only
    split <;> exact ⟨h.f, h.c, h.ep, h.en, h.size, h.rc⟩
theorem GoodL.append {L : Wal.L} (h : GoodL L) (d : Disk.Dk) (p : List UInt8) : GoodL (Wal.append L d p).2.1 := by
  unfold Wal.append
  split
  · exact h
  · split
    · exact h
    · split
      · exact h
      · rename_i hx
        rcases hs : Extent.write d L.f L.c L.en (Frame.enc L.ep L.rc p) with ⟨z, d1⟩
        simp only
        have h1 := h.en; have h3 := h.rc
        split
        · exact ⟨h.f, h.c, h.ep, by show ((L.en + (14 + p.length) : Nat) : Int) ≤ Extent.size L.c; omega, h.size, by show 14 * (L.rc + 1) ≤ L.en + (14 + p.length); omega⟩
        · exact ⟨h.f, h.c, h.ep, h.en, h.size, h.rc⟩
theorem GoodL.opened {d : Disk.Dk} (hd : d.Ok) (hn : d.st.length ≤ 1000) {f c : Int} (hf : ib f) (hc : ib c) {ep : Nat} (hep : ep < 4294967296) {L : Wal.L} (hr : (Wal.open d f c ep).1 = some L) : GoodL L := by
  rcases h0 : Extent.read d f c 0 (Extent.size c) with ⟨b, z, d1⟩
  by_cases hz : z = 0
  · subst hz
    rcases he : Wal.erase d1 f c (Frame.scan b ep).2 (b.drop (Frame.scan b ep).2) with ⟨z2, d2⟩
    by_cases hz2 : z2 = 0
    · subst hz2
      rcases hs : Disk.sync d2 with ⟨z3, d3⟩
      by_cases hz3 : z3 = 0
      · subst hz3
        rw [Wal.open_o h0 he hs] at hr
        cases hr
        obtain ⟨r1, r2, r3⟩ := Wal.read_all hd hn h0
        obtain ⟨l1, l2⟩ := Frame.scan_le b ep
        exact ⟨hf, hc, hep, by show (((Frame.scan b ep).2 : Nat) : Int) ≤ Extent.size c; omega, by show Extent.size c ≤ 64000; omega, l2⟩
      · rw [Wal.open_e3 h0 he hs hz3] at hr; cases hr
    · rw [Wal.open_e2 h0 he hz2] at hr; cases hr
  · rw [Wal.open_e1 h0 hz] at hr; cases hr
theorem Wal.open_none {d : Disk.Dk} {f c : Int} {ep : Nat} (hr : (Wal.open d f c ep).1 = none) : (Wal.open d f c ep).2.1 = [] := by
  rcases h0 : Extent.read d f c 0 (Extent.size c) with ⟨b, z, d1⟩
  by_cases hz : z = 0
  · subst hz
    rcases he : Wal.erase d1 f c (Frame.scan b ep).2 (b.drop (Frame.scan b ep).2) with ⟨z2, d2⟩
    by_cases hz2 : z2 = 0
    · subst hz2
      rcases hs : Disk.sync d2 with ⟨z3, d3⟩
      by_cases hz3 : z3 = 0
      · subst hz3; rw [Wal.open_o h0 he hs] at hr; cases hr
      · rw [Wal.open_e3 h0 he hs hz3]
    · rw [Wal.open_e2 h0 he hz2]
  · rw [Wal.open_e1 h0 hz]

end Go.Proofs.YtabeelcidlhniaaGreat
