/-
  How a slice of slices of bytes that came in as an argument is opened.
-/
import Derived.Test.YtedmnbmfbgenjaaLists
import Derived.Deep.Matrix
namespace Go.Proofs.Ytedmnbmfbgenjaa
open Go.RowKit

theorem SlL.of_rows {w : World} {x : Addr} {len cap base : Nat} {A : Nat → Option Addr} {L C : Nat → Nat} {Z : Nat → List Int} (hl : len ≤ cap) (hm : cap ≤ maxLen)
    (h : ∀ r, r < cap → w.cell? (x.add r) = some (.slice (A r) (L r) (C r)) ∧ L r ≤ C r ∧ C r ≤ maxLen ∧ (Z r).length = C r ∧ (∀ n ∈ Z r, (Lit.int .u8 n).wf = true) ∧ (A r = none → C r = 0) ∧
      ∀ a', A r = some a' → base ≤ a'.block ∧ ∀ c, c < C r → w.cell? (a'.add c) = some (.int .u8 ((Z r).getD c 0))) :
    SlL w (some x) len cap ((List.range len).map fun r => ((Z r).take (L r)).map fun z => UInt8.ofNat z.toNat) := by
  refine ⟨by simp, hl, hm, (fun h => by cases h), fun y hy i hi => ?_⟩
  cases hy
  simp at hi
  obtain ⟨hc, h1, h2, h3, h4, h5, h6⟩ := h i (by omega)
  obtain ⟨b, o, sp⟩ := x
  have hsp : sp = none := by
    have := World.cell?_spot (h 0 (by omega)).1
    simpa [Addr.add] using this
  subst hsp
  have hadd : (⟨b, o, none⟩ : Addr).add i = ⟨b, o + i, none⟩ := by unfold Addr.add; split <;> simp_all
  rw [hadd] at hc
  refine ⟨rfl, World.block_lt_of_cell? w ⟨b, o + i, none⟩ hc, A i, L i, C i, hc, ?_⟩
  simp only [List.getElem_map, List.getElem_range]
  cases hA : A i with
  | none =>
    have h7 := h5 hA
    have h8 : L i = 0 := by omega
    rw [h7, h8]
    exact ⟨by simp, Nat.le_refl _, by unfold maxLen; omega, fun _ => ⟨by simp, rfl⟩, fun x hx => by cases hx⟩
  | some a' =>
    exact SlB.of_row h1 h2 h3 (fun c hc => (h6 a' hA).2 c (by rw [← h3]; exact hc)) h4

end Go.Proofs.Ytedmnbmfbgenjaa
