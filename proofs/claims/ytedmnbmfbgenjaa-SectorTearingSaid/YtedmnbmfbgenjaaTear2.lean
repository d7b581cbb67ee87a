/-
  Plain laws for SectorTearing: disks without faults, what Restart leaves.
-/
import Derived.Test.YtedmnbmfbgenjaaTear
namespace Go.Proofs.Ytedmnbmfbgenjaa
open Go.RowKit

namespace Extent
open Disk (Dk)
theorem Quiet.write_any {n : Nat} {d : Dk} (h : Quiet n d) (i : Int) (x : List UInt8) : Quiet n (Disk.write d i x).2 := by
  by_cases hf : (Disk.fits d i && decide (x.length = 64)) = true
  · have hf' := hf
    simp only [Disk.fits, Bool.and_eq_true, decide_eq_true_eq, h.len] at hf'
    obtain ⟨j, rfl⟩ : ∃ j : Nat, i = (j : Int) := ⟨i.toNat, by omega⟩
    obtain ⟨h1, h2, -⟩ := h.write j (by omega) x hf'.2
    rw [h1]; exact h2
  · have : Disk.write d i x = (2, d) := by
      unfold Disk.write Disk.begin
      rw [show (Disk.fits d i && decide (x.length = 64)) = false by simpa using hf, h.on]; rfl
    rw [this]; exact h
theorem Quiet.sync_any {n : Nat} {d : Dk} (h : Quiet n d) : Quiet n (Disk.sync d).2 := by
  have : Disk.sync d = (0, Disk.flush (Disk.tick d)) := by unfold Disk.sync; rw [h.begin]; rfl
  rw [this]
  refine ⟨h.tick.ok.flush, ?_, h.on, h.fs⟩
  have := h.len
  simpa [Disk.flush, Disk.tick] using this
end Extent

/-- A sector that was torn at t. -/
def tornAt (x s : List UInt8) (t : Nat) : List UInt8 := x.take t ++ s.drop t
theorem tornAt_again (x s : List UInt8) (m t : Nat) (hx : x.length = 64) (ht : t ≤ 64) (_hm : m ≤ 64) : x.take m ++ (tornAt x s t).drop m = tornAt x s (max m t) := by
  unfold tornAt
  rcases Nat.le_total m t with h | h
  · rw [Nat.max_eq_right h, List.drop_append_of_le_length (by rw [List.length_take]; omega), ← List.append_assoc]
    congr 1
    have := List.take_append_drop m (x.take t)
    rwa [List.take_take, Nat.min_eq_left h] at this
  · rw [Nat.max_eq_left h, List.drop_append, List.drop_of_length_le (by rw [List.length_take]; omega), List.nil_append, List.length_take, List.drop_drop]
    congr 2; omega
theorem tear_fold {d : Disk.Dk} (h : d.Ok) : ∀ (ks : List (Int × Int)) (e : Disk.Dk), e.ca = d.ca → e.st.length = d.st.length → (∀ i, i < d.st.length → ∃ t, t ≤ 64 ∧ e.st[i]?.getD [] = tornAt (Disk.content d i) (d.st[i]?.getD []) t) →
    ((ks.foldl Disk.tear e).st.length = d.st.length ∧ ∀ i, i < d.st.length → ∃ t, t ≤ 64 ∧ (ks.foldl Disk.tear e).st[i]?.getD [] = tornAt (Disk.content d i) (d.st[i]?.getD []) t)
  | [], e, _, hl, hi => ⟨hl, hi⟩
  | k :: ks, e, hc, hl, hi => by
    rw [List.foldl_cons]
    have key : (Disk.tear e k).ca = d.ca ∧ (Disk.tear e k).st.length = d.st.length ∧ ∀ i, i < d.st.length → ∃ t, t ≤ 64 ∧ (Disk.tear e k).st[i]?.getD [] = tornAt (Disk.content d i) (d.st[i]?.getD []) t := by
      unfold Disk.tear
      by_cases h0 : 0 ≤ k.1
      · rw [if_pos h0]
        split
        · rename_i x hx
          rw [hc] at hx
          refine ⟨hc, by simpa using hl, fun i hil => ?_⟩
          by_cases hik : i = k.1.toNat
          · subst hik
            have hcon : Disk.content d k.1.toNat = x := by unfold Disk.content; rw [hx]; rfl
            obtain ⟨t, ht, he⟩ := hi _ hil
            have hlx := Disk.content64 h _ hil
            refine ⟨max (min (max k.2 0) 64).toNat t, by omega, ?_⟩
            simp only [List.getElem?_set_self (show k.1.toNat < e.st.length by omega), Option.getD_some]
            rw [he]
            have := tornAt_again (Disk.content d k.1.toNat) (d.st[k.1.toNat]?.getD []) (min (max k.2 0) 64).toNat t hlx ht (by omega)
            rw [← this, hcon]
          · obtain ⟨t, ht, he⟩ := hi i hil
            refine ⟨t, ht, ?_⟩
            simp only [List.getElem?_set_ne (show k.1.toNat ≠ i from fun e2 => hik e2.symm)]
            exact he
        · exact ⟨hc, hl, hi⟩
      · rw [if_neg h0]; exact ⟨hc, hl, hi⟩
    exact tear_fold h ks _ key.1 key.2.1 key.2.2

theorem dirty_restart (d : Disk.Dk) (ks : List (Int × Int)) : Disk.dirty (Disk.restart d ks) = [] := by
  have h : ∀ i : Nat, ((Disk.restart d ks).ca[i]?.getD none).isSome = false := fun i => by
    have e : (Disk.restart d ks).ca = List.replicate d.ca.length none := rfl
    rw [e, List.getElem?_replicate]; split <;> rfl
  unfold Disk.dirty
  rw [List.filter_eq_nil_iff.2 (fun i _ => by rw [h i]; simp)]; rfl
/-- What SectorTearing sees. -/
theorem tear_facts {n : Nat} {d : Disk.Dk} (h : Extent.Quiet n d) (ks : List (Int × Int)) :
    (∀ x ∈ (Disk.restart (Disk.cut d) ks).st, x.length = 64) → (Disk.restart (Disk.cut d) ks).st.length = n ∧ ∀ i, i < n → ∃ t, t ≤ 64 ∧
      ((Disk.restart (Disk.cut d) ks).st.flatten.drop (64 * i)).take 64 = (((Extent.V d).drop (64 * i)).take 64).take t ++ ((d.st.flatten.drop (64 * i)).take 64).drop t := by
  intro h64
  have hl := h.len
  have hst : (Disk.restart (Disk.cut d) ks).st = (ks.foldl Disk.tear (Disk.cut d)).st := rfl
  obtain ⟨f1, f2⟩ := tear_fold h.ok ks (Disk.cut d) rfl rfl (fun i hi => ⟨0, by omega, by simp [tornAt, Disk.cut]⟩)
  rw [hst] at h64 ⊢
  refine ⟨by rw [f1, hl], fun i hi => ?_⟩
  obtain ⟨t, ht, he⟩ := f2 i (by omega)
  refine ⟨t, ht, ?_⟩
  rw [Disk.flat_slot _ h64 i (by omega), he, ← Extent.V_slot h.ok i (by omega), Disk.flat_slot _ h.ok.st64 i (by omega)]
  rfl

/-- A byte of a sector. -/
theorem byte_at (l : List UInt8) (i j : Nat) (hj : j < 64) : (l.drop (64 * i)).take 64 = (l.drop (64 * i)).take 64 → l[64 * i + j]?.getD 0 = ((l.drop (64 * i)).take 64)[j]?.getD 0 := by
  intro _
  rw [List.getElem?_take_of_lt hj, List.getElem?_drop]

end Go.Proofs.Ytedmnbmfbgenjaa
