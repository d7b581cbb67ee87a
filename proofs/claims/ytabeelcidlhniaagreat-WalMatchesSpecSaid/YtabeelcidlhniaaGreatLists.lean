/-
  Slices of slices of bytes: what they read as, append, comparison.
-/
import Derived.Test.YtabeelcidlhniaaGreatBase
import Derived.Deep.QuietTactic
import Derived.BigQuiet
import Derived.Deep.DeepMust
namespace Go.Proofs.YtabeelcidlhniaaGreat
open Go.RowKit

/-- The slice of slices reads as the lists. -/
def SlL (w : World) (a : Option Addr) (n c : Nat) (ls : List (List UInt8)) : Prop :=
  ls.length = n ∧ n ≤ c ∧ c ≤ maxLen ∧ (a = none → ls = [] ∧ c = 0) ∧
    ∀ x, a = some x → ∀ i (h : i < ls.length), x.spot = none ∧ x.block < w.heap.size ∧ ∃ b m d, w.cell? ⟨x.block, x.off + i, none⟩ = some (.slice b m d) ∧ SlB w b m d ls[i]

theorem SlL.len {w : World} {a : Option Addr} {n c : Nat} {l : List (List UInt8)} (h : SlL w a n c l) : l.length = n := h.1
theorem SlL.le {w : World} {a : Option Addr} {n c : Nat} {l : List (List UInt8)} (h : SlL w a n c l) : n ≤ 9223372036854775807 := by
  have := h.2.1; have := h.2.2.1; unfold maxLen at *; omega
theorem SlL.nil (w : World) : SlL w none 0 0 [] := ⟨rfl, Nat.le_refl _, by unfold maxLen; omega, fun _ => ⟨rfl, rfl⟩, fun x hx => by cases hx⟩
theorem SlL.at {w : World} {a : Option Addr} {n c : Nat} {l : List (List UInt8)} (h : SlL w a n c l) {k : Nat} (hk : k < n) :
    ∃ b o, a = some ⟨b, o, none⟩ ∧ b < w.heap.size ∧ ∃ p m d, w.cell? ⟨b, o + k, none⟩ = some (.slice p m d) ∧ SlB w p m d (l[k]?.getD []) := by
  obtain ⟨hl, hn, hc, h0, h1⟩ := h
  cases a with
  | none => have := (h0 rfl).1; subst this; simp at hl; omega
  | some x =>
    obtain ⟨b, o, sp⟩ := x
    have hk' : k < l.length := by omega
    obtain ⟨hs, hb, p, m, d, hi, hq⟩ := h1 _ rfl k hk'
    simp only at hs; subst hs
    refine ⟨b, o, rfl, hb, p, m, d, hi, ?_⟩
    rw [List.getElem?_eq_getElem hk']
    exact hq
theorem SlL.ext {w w' : World} {a : Option Addr} {n c : Nat} {l : List (List UInt8)} (h : SlL w a n c l) (e : Below w.heap.size w w') : SlL w' a n c l := by
  obtain ⟨hl, hn, hc, h0, h1⟩ := h
  refine ⟨hl, hn, hc, h0, fun x hx i hi => ?_⟩
  obtain ⟨hs, hb, p, m, d, hi, hq⟩ := h1 x hx i hi
  exact ⟨hs, Nat.lt_of_lt_of_le hb e.size, p, m, d, (e.cell (p := ⟨x.block, x.off + i, none⟩) hb).trans hi, hq.ext e⟩
theorem SlL.take {w : World} {a : Option Addr} {n c : Nat} {l : List (List UInt8)} (h : SlL w a n c l) {k : Nat} (hk : k ≤ n) : SlL w a k c (l.take k) := by
  obtain ⟨hl, hn, hc, h0, h1⟩ := h
  refine ⟨by simp; omega, by omega, hc, fun e => by simp [h0 e], fun x hx i hi => ?_⟩
  have hi' : i < l.length := by simp at hi; omega
  obtain ⟨hs, hb, p, m, d, hcl, hq⟩ := h1 x hx i hi'
  exact ⟨hs, hb, p, m, d, hcl, by simpa using hq⟩

theorem info26 : (Tryz.prog.info? 37).map (fun i => (i.zero, i.size, i.bytes)) = some (some (.slice none 0 0), 1, 24) := by kernel_rfl

/-- The slice of slices is the call's own, and so are its parts. -/
def OwnL (base : Nat) (w : World) (v : Value) (ls : List (List UInt8)) : Prop :=
  ∃ vs : List Value, w.ownsRow base 37 1 v ls.length vs ∧ ∀ i, i < ls.length → ∃ u, vs[i]? = some u ∧ OwnB base w u (ls[i]?.getD [])

theorem OwnL.nil (base : Nat) (w : World) : OwnL base w (.slice none 0 0) [] := ⟨[], World.ownsRow_nil w base _ _, fun i hi => by simp at hi⟩
theorem OwnL.lt {base : Nat} {w : World} {v : Value} {ls : List (List UInt8)} (h : OwnL base w v ls) : ∀ k, v.ownBlock = some k → base ≤ k ∧ k < w.heap.size := by
  obtain ⟨vs, h1, _⟩ := h; exact World.ownsRow.lt h1
theorem OwnL.ext {base : Nat} {w w' : World} {v : Value} {ls : List (List UInt8)} (h : OwnL base w v ls) (e : Below w.heap.size w w') : OwnL base w' v ls := by
  obtain ⟨vs, h1, h2⟩ := h
  refine ⟨vs, ⟨h1.1, ?_⟩, fun i hi => ?_⟩
  · rcases h1.2 with hn | ⟨g, cap, cur, rfl, hb, hgg, rest⟩
    · exact .inl hn
    · exact .inr ⟨g, cap, cur, rfl, hb, (e.block g (Array.getElem?_eq_some_iff.1 hgg).1).trans hgg, rest⟩
  · obtain ⟨u, h3, h4⟩ := h2 i hi
    exact ⟨u, h3, h4.ext e⟩
theorem OwnL.sl {base : Nat} {w : World} {v : Value} {ls : List (List UInt8)} (h : OwnL base w v ls) : ∃ a c, v = .slice a ls.length c ∧ SlL w a ls.length c ls := by
  obtain ⟨vs, h1, h2⟩ := h
  rcases id h1.2 with ⟨hv, hn⟩ | ⟨g, cap, cur, hv, hg, hc, hnc, hcm, hcs, htake⟩
  · have hl : ls = [] := List.eq_nil_of_length_eq_zero hn
    subst hl
    exact ⟨none, 0, hv, SlL.nil w⟩
  · refine ⟨some ⟨g, 0, none⟩, cap, hv, ⟨rfl, hnc, hcm, (fun h => by cases h), fun x hx i hi => ?_⟩⟩
    cases hx
    refine ⟨rfl, (Array.getElem?_eq_some_iff.1 hc).1, ?_⟩
    obtain ⟨u, h3, h4⟩ := h2 i hi
    obtain ⟨p, d, rfl, h5, -⟩ := h4.sl
    have e : ls[i]?.getD [] = ls[i] := by simp [hi]
    rw [e] at h3 h5
    refine ⟨p, ls[i].length, d, ?_, h5⟩
    · have hl : vs.length = ls.length := by rw [h1.1]; simp
      have := World.ownsRow.cellAt (g := g) (cap := cap) (by rw [← hv]; exact h1) i (by omega)
      simp only [Nat.zero_add]
      rw [this]; simpa using h3

/-- What is no row of slices is kept by an append to a row of slices. -/
theorem OwnB.grownL {base : Nat} {w w' : World} {u v : Value} {l : List UInt8} {n : Nat} {vs : List Value} (h : OwnB base w u l) (hv : w.ownsRow base 37 1 v n vs) (hg : w.grownBy w' v.ownBlock) : OwnB base w' u l := by
  refine ⟨h.1, ?_⟩
  rcases h.2 with hn | ⟨g, cap, cur, rfl, hb, hgg, rest⟩
  · exact .inl hn
  · refine .inr ⟨g, cap, cur, rfl, hb, (hg.block g (heap_lt hgg) ?_).trans hgg, rest⟩
    intro e
    rcases hv.2 with ⟨rfl, _⟩ | ⟨g', cap', cur', rfl, _, hgg', _⟩
    · cases e
    · simp [Value.ownBlock] at e
      subst e
      rw [hgg] at hgg'
      cases hgg'

/-- append of one slice of bytes to a slice of slices. -/
theorem wpList_append_list {w : World} {ops : Array Oper} {rest : List Oper} {o : Oper} {a : Act} {Q : Exit → Act → World → Prop} (hgd : o.guard = none) (s x : Operand)
    (ho : o.op = .call { callee := .builtin .append, args := #[s, x], argTypes := #[48, 48] })
    (base : Nat) (v : Value) (ls : List (List UInt8)) (hs : a.eval s = v) (hown : OwnL base w v ls) (u : Value) (l : List UInt8) (hu : OwnB base w u l)
    (t : TypeId) (W : World) (hW : W = w.alloc (.cells #[u] t)) (k : Nat) (hk : k = w.heap.size) (hx : a.eval x = .slice (some ⟨k, 0, none⟩) 1 1)
    (hlen : ls.length ≤ 1000000000) (hbase : base ≤ w.heap.size)
    (h : ∀ v' w', OwnL base w' v' (ls ++ [l]) → Below base w w' → wpList Tryz.prog ops Q rest (a.put o.dst v') w') : wpList Tryz.prog ops Q (o :: rest) a W := by
  subst hW; subst hk
  obtain ⟨i0, hi, hz0, hz1, hz2⟩ := info_parts info26
  obtain ⟨vs, h1, h2⟩ := hown
  have hvl : vs.length = ls.length := by rw [h1.1]; simp
  refine wpList_append_own (w.alloc (.cells #[u] t)) hgd s x 48 ho base 37 i0 (.slice none 0 0) 1 24 Tryz.underlying48 hi hz0 hz1 hz2 rfl (by decide) v ls.length vs hs (h1.alloc _) ⟨w.heap.size, 0, none⟩ 1 1 [u] hx rfl ?_ ?_ (by unfold maxLen; omega) (by omega) (by simp; omega) ?_
  · intro j q hj
    obtain ⟨rfl, rfl⟩ : j = 0 ∧ q = u := by
      cases j with
      | zero => exact ⟨rfl, by simpa using hj.symm⟩
      | succ j => simp at hj
    have hadd : (⟨w.heap.size, 0, none⟩ : Addr).add 0 = ⟨w.heap.size, 0, none⟩ := by unfold Addr.add; split <;> simp_all
    rw [hadd, World.cell?_alloc_at _ _ _ _ rfl]; rfl
  · intro q hq
    simp at hq; subst hq
    obtain ⟨p, d, rfl, -⟩ := hu.sl
    rfl
  · intro v' w' h3 h4 _
    have hal : Below base w (w.alloc (.cells #[u] t)) := (Below.refl _ _).alloc hbase _
    refine h v' w' ⟨vs ++ [u], by simpa using h3, fun i hi => ?_⟩ (hal.grown h4 (by simp; omega) (fun k hk => ((World.ownsRow.lt h1) k hk).1))
    have hkeep : ∀ q m, OwnB base w q m → OwnB base w' q m := fun q m hq => (hq.alloc (.cells #[u] t)).grownL (h1.alloc (.cells #[u] t)) h4
    by_cases hil : i < ls.length
    · obtain ⟨q, h5, h6⟩ := h2 i hil
      refine ⟨q, ?_, ?_⟩
      · rw [List.getElem?_append_left (by omega)]; exact h5
      · rw [List.getElem?_append_left hil]; exact hkeep _ _ h6
    · obtain rfl : i = ls.length := by simp at hi; omega
      refine ⟨u, ?_, ?_⟩
      · rw [List.getElem?_append_right (by omega), hvl]; simp
      · rw [List.getElem?_append_right (by omega)]; simpa using hkeep _ _ hu

theorem take_eq_succ {α : Type} [BEq α] [LawfulBEq α] (l k : List α) (i : Nat) (h1 : i < l.length) (h2 : i < k.length) (h : l.take i = k.take i) : (l.take (i + 1) = k.take (i + 1)) ↔ l[i] = k[i] := by
  rw [List.take_succ_eq_append_getElem h1, List.take_succ_eq_append_getElem h2, h]
  exact ⟨fun hh => by simpa using List.append_cancel_left hh, fun hh => by rw [hh]⟩

theorem below_drewQ (B : Nat) (w : World) (n : Nat) : Below B w (w.drewN n) := (Below.refl B w).trans ⟨rfl, rfl, rfl, Nat.le_refl _, fun _ _ => rfl⟩

set_option maxHeartbeats 2000000 in
set_option maxRecDepth 100000 in
theorem keep_lists (a b : Option Addr) (n m c d : Nat) (ls ks : List (List UInt8)) (w : World) (h : SlL w a n c ls) (h' : SlL w b m d ks) :
    Calls Tryz.prog 20 #[.slice a n c, .slice b m d] w fun e w' => e = .returned (.bool (ls == ks)) ∧ Below w.heap.size w w' := by
  have hle := h.le
  have hle' := h'.le
  have hl := h.len
  have hl' := h'.len
  by_cases hnm : n = m
  · subst hnm
    obtain ⟨r, hr⟩ : ∃ r, r = (ls == ks) := ⟨_, rfl⟩
    rw [← hr]
    have HR := Lib.hid hr; have HL := Lib.hid hl; have HL' := Lib.hid hl'
    clear hr hl hl'
    go_enter Tryz.func20, Tryz.ntmps20
    go_wp2
    go_loopw [5] (fun i wr => ∃ k : Nat, k ≤ n ∧ i = .int .i64 k ∧ Hid (ls.take k = ks.take k) ∧ Below w.heap.size w wr) (fun i _ => n - (intOf i).toNat)
    case atStart => exact ⟨0, Nat.zero_le _, rfl, Lib.hid rfl, Below.refl _ _⟩
    case round =>
      obtain ⟨k, hk, rfl, HT, hB⟩ := hrel
      by_cases hlt : k < n
      · obtain ⟨g, o, rfl, hg, p, m1, d1, hc1, hs1⟩ := (h.ext hB).at hlt
        obtain ⟨g', o', rfl, hg', p', m1', d1', hc1', hs1'⟩ := (h'.ext hB).at hlt
        have hcv := fun q => run_conv_bytes (hs1.ext (below_drewQ _ wr q))
        have hcv' := fun q => run_conv_bytes (hs1'.ext (below_drewQ _ wr q))
        have b0 : (0 : Int) ≤ (k : Int) := by omega
        have b1 : (k : Int) < (n : Int) := by omega
        have HN := Lib.hid (take_eq_succ ls ks k (by rw [HL.out]; omega) (by rw [HL'.out]; omega) HT.out)
        have e1 : ls[k]?.getD [] = ls[k]'(by rw [HL.out]; omega) := by simp [show k < ls.length by rw [HL.out]; omega]
        have e2 : ks[k]?.getD [] = ks[k]'(by rw [HL'.out]; omega) := by simp [show k < ks.length by rw [HL'.out]; omega]
        rw [e1] at hs1 hcv
        rw [e2] at hs1' hcv'
        clear e1 e2
        generalize ls[k]'(by rw [HL.out]; omega) = u1 at *
        generalize ks[k]'(by rw [HL'.out]; omega) = u2 at *
        clear hs1 hs1'
        by_cases hu : u1 = u2
        · have t1 : (u1 == u2) = true := by simp [hu]
          have t2 : (u1 != u2) = false := by simp [hu]
          have HU := Lib.hid hu
          clear hu
          go_wp2
          go_quiet (fail)
          go_wp2
          go_roundw
          case rel => exact ⟨k + 1, by omega, by go_num, Lib.hid (HN.out.2 HU.out), hB.trans (below_drewQ _ _ _)⟩
          case measure => simp [intOf]; omega
        · have t1 : (u1 == u2) = false := by simp [hu]
          have t2 : (u1 != u2) = true := by simp [hu]
          have hrf : r = false := by
            rw [HR.out]; apply beq_eq_false_iff_ne.2; intro e; exact hu (HN.out.1 (by rw [e]))
          subst hrf
          clear hu
          go_wp2
          go_quiet (fail)
          go_wp2
          go_ret
          exact ⟨rfl, hB.trans (below_drewQ _ _ _)⟩
      · obtain rfl : k = n := by omega
        have hrt : r = true := by
          rw [HR.out]; apply beq_iff_eq.2
          have := HT.out
          rwa [List.take_of_length_le (by rw [HL.out]; omega), List.take_of_length_le (by rw [HL'.out]; omega)] at this
        subst hrt
        go_wp2
        go_ret
        exact ⟨rfl, hB⟩
  · have hr : (ls == ks) = false := by
      apply beq_eq_false_iff_ne.2; rintro rfl; omega
    have ht : ((n : Int) == m) = false := by simp; omega
    have ht' : ((n : Int) != m) = true := by simp; omega
    rw [hr]
    clear hl hl' hr hnm
    go_enter Tryz.func20, Tryz.ntmps20
    go_wp2
    go_ret
    exact ⟨rfl, Below.refl _ _⟩

end Go.Proofs.YtabeelcidlhniaaGreat
