/-
  copy of a slice of bytes into a row of bytes, as one law.
-/
import Derived.Test.YtabeelcidlhniaaGreatBase
namespace Go.Proofs.YtabeelcidlhniaaGreat
open Go.RowKit

/-- copy of a slice of bytes into a row. -/
theorem wpList_copy_bytes {w : World} {ops : Array Oper} {rest : List Oper} {o : Oper} {a : Act} {Q : Exit → Act → World → Prop} (hgd : o.guard = none) (d s : Operand)
    (ho : o.op = .call { callee := .builtin .copy, args := #[d, s], argTypes := #[37, 37] })
    (g off dLen dCap : Nat) (sp : Option Addr) (sLen sCap : Nat) (l2 : List UInt8) (hd : a.eval d = .slice (some ⟨g, off, none⟩) dLen dCap) (hs : a.eval s = .slice sp sLen sCap)
    (t : TypeId) (l : List UInt8) (hr : RowIs w g t l) (hsl : SlB w sp sLen sCap l2) (hfit : off + min sLen dLen ≤ l.length)
    (h : ∀ w', RowIs w' g t (l.take off ++ l2.take dLen ++ l.drop (off + min sLen dLen)) → But g w w' → wpList Tryz.prog ops Q rest (a.put o.dst (goInt (min sLen dLen : Nat))) w') : wpList Tryz.prog ops Q (o :: rest) a w := by
  have hsz : (Tryz.prog.info? 5).map (·.size) = some 1 := by kernel_rfl
  have hl2 := hsl.len
  by_cases h0 : min sLen dLen = 0
  · refine wpList_copy_nothing hgd d s _ _ ho 5 Tryz.underlying37 hsz _ sp dLen dCap sLen sCap hd hs h0 ?_
    rw [h0] at h
    refine h w ?_ (But.refl _ _)
    have : l2.take dLen = [] := List.eq_nil_of_length_eq_zero (by rw [List.length_take]; omega)
    rw [this]; simpa using hr
  · cases sp with
    | none => have := (hsl.2.2.2.1 rfl).1; subst this; simp at hl2; omega
    | some ad =>
      have hcl : ((l2.take dLen).map bv).length = min sLen dLen := by rw [List.length_map, List.length_take]; omega
      refine wpList_copy_own hgd d s _ _ ho 5 Tryz.underlying37 hsz g off dLen dCap ad sLen sCap hd hs (l.map bv).toArray t hr ((l2.take dLen).map bv) hcl ?_ ?_ ?_ ?_
      · intro j v hj
        have hj' : j < min sLen dLen := by rw [← hcl]; exact (List.getElem?_eq_some_iff.1 hj).1
        obtain ⟨hsp, hb, hc⟩ := hsl.2.2.2.2 ad rfl j (by omega)
        have hadd : ad.add j = ⟨ad.block, ad.off + j, none⟩ := by
          obtain ⟨b, o, sp⟩ := ad; simp only at hsp; subst hsp; unfold Addr.add; split <;> simp_all
        rw [hadd, hc, ← hj]
        simp [bv, show j < dLen by omega, show j < l2.length by omega]
      · rw [hcl]; simpa using hfit
      · intro v hv
        obtain ⟨b, _, rfl⟩ := List.mem_map.1 hv; rfl
      · rw [hcl]
        refine h _ ?_ ((But.refl _ _).setRow _)
        unfold RowIs
        rw [setRow_heap w g _ _ t _ hr]
        simp [List.map_take, List.map_drop]

/-- A slice that was just made is a row, and the other way round. -/
theorem OwnB.isRow {base : Nat} {w : World} {g n : Nat} {l : List UInt8} (h : OwnB base w (.slice (some ⟨g, 0, none⟩) n n) l) : base ≤ g ∧ RowIs w g 5 l := by
  rcases h.2 with ⟨hv, _⟩ | ⟨g', cap, cur, hv, hb, hc, hnc, hcm, hcs, ht⟩
  · cases hv
  · injection hv with e1 e2 e3
    cases e1
    subst e2; subst e3
    refine ⟨hb, ?_⟩
    unfold RowIs
    rw [hc, ← ht, List.take_of_length_le (by simp; omega)]
theorem RowIs.own {base : Nat} {w : World} {g n : Nat} {l : List UInt8} (h : RowIs w g 5 l) (hb : base ≤ g) (hn : l.length = n) (hm : n ≤ maxLen) : OwnB base w (.slice (some ⟨g, 0, none⟩) n n) l := by
  subst hn
  exact ⟨by simp, .inr ⟨g, l.length, (l.map bv).toArray, rfl, hb, h, Nat.le_refl _, hm, by simp, by simp [List.take_of_length_le]⟩⟩

end Go.Proofs.YtabeelcidlhniaaGreat
