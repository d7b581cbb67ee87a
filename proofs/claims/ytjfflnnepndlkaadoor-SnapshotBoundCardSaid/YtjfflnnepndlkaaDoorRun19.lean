/-
  append and copy of bytes as equations on the builtins' runs, and copy at an operation inside a fence.
-/
import Derived.Test.YtjfflnnepndlkaaDoorRun2
import Derived.OwnWalkIn
import Derived.Laws.CopyOwn
namespace Go.Proofs.YtjfflnnepndlkaaDoor
open Go.RowKit

theorem run_append_bytes {w : World} (ty : TypeId) (base : Nat) (v : Value) (l : List UInt8) (hown : OwnB base w v l) (b : Option Addr) (m c : Nat) (l2 : List UInt8) (hsl : SlB w b m c l2) (hlen : l.length + m ≤ 140737488355328) (hbase : base ≤ w.heap.size) :
    ∃ v' w', (Builtin.append_ #[39, 39] ty #[v, .slice b m c]).run Tryd.prog w = .ok v' w' ∧ OwnB base w' v' (l ++ l2) ∧ w.grownBy w' v.ownBlock := by
  obtain ⟨i0, hi, hz0, hz1, hz2⟩ := info_parts info5
  cases b with
  | none =>
    obtain ⟨rfl, rfl⟩ := hsl.2.2.2.1 rfl
    obtain rfl : m = 0 := hsl.1.symm
    exact ⟨v, w, run_append_owned_none (P := Tryd.prog) (w := w) base 39 ty 5 i0 1 Tryd.underlying39 hi v l.length _ hown, by simpa using hown, ⟨rfl, rfl, rfl, Nat.le_refl _, fun _ _ _ => rfl⟩⟩
  | some ad =>
    have hl2 := hsl.len
    obtain ⟨v', w', hrun, h1, h2, _⟩ := run_append_own (P := Tryd.prog) w base 39 ty 5 i0 (.int .u8 0) 1 1 Tryd.underlying39 hi hz0 hz1 hz2 rfl (by decide) v l.length _ hown ad m c (l2.map bv) (by simp [hl2]) (fun j u hj => by
      have hjl : j < l2.length := by
        have := (List.getElem?_eq_some_iff.1 hj).1; simpa using this
      obtain ⟨hsp, hb, this⟩ := hsl.2.2.2.2 ad rfl j hjl
      have hadd : ad.add j = ⟨ad.block, ad.off + j, none⟩ := by
        obtain ⟨b, o, sp⟩ := ad; simp only at hsp; subst hsp; unfold Addr.add; split <;> simp_all
      rw [hadd, this]; rw [← hj]; simp [bv, hjl]) (fun u hu => by obtain ⟨b, _, rfl⟩ := List.mem_map.1 hu; rfl) (by unfold maxLen; omega) (by omega) hbase
    refine ⟨v', w', hrun, ?_, h2⟩
    unfold OwnB; rw [List.length_append, List.map_append, hl2]; exact h1

theorem splice_take {α : Type} (L B : List α) (n off m : Nat) (hB : B.length = m) (h : off + m ≤ n) (hL : n ≤ L.length) : (L.take off ++ B ++ L.drop (off + m)).take n = (L.take n).take off ++ B ++ (L.take n).drop (off + m) := by
  subst hB
  have e1 : (L.take n).take off = L.take off := by rw [List.take_take, Nat.min_eq_left (by omega)]
  have e2 : (L.take off ++ B).length = off + B.length := by rw [List.length_append, List.length_take]; omega
  rw [e1, List.take_append, List.take_of_length_le (by omega), e2, List.drop_take]

/-- copy into a part of an own slice. -/
theorem run_copy_ownb {w : World} (ty : TypeId) {base g n c : Nat} {l : List UInt8} (h : OwnB base w (.slice (some ⟨g, 0, none⟩) n c) l) (off dLen dCap : Nat) (sp : Option Addr) (sLen sCap : Nat) (l2 : List UInt8) (hsl : SlB w sp sLen sCap l2) (hle : sLen = dLen) (hfit : off + dLen ≤ l.length) :
    ∃ w', (Builtin.copy_ #[39, 39] ty #[.slice (some ⟨g, off, none⟩) dLen dCap, .slice sp sLen sCap]).run Tryd.prog w = .ok (goInt dLen) w' ∧ OwnB base w' (.slice (some ⟨g, 0, none⟩) n c) (l.take off ++ l2 ++ l.drop (off + dLen)) ∧ But g w w' := by
  subst hle
  have hsz : (Tryd.prog.info? 5).map (·.size) = some 1 := by kernel_rfl
  have hl2 := hsl.len
  by_cases h0 : sLen = 0
  · have hrun := run_copy_none (P := Tryd.prog) w 39 39 ty 5 (some ⟨g, off, none⟩) sp sLen dCap sLen sCap Tryd.underlying39 hsz (by rw [h0]; rfl)
    refine ⟨w, by rw [hrun, h0]; rfl, ?_, But.refl _ _⟩
    have : l2 = [] := List.eq_nil_of_length_eq_zero (by omega)
    rw [this, h0]; simpa using h
  · cases sp with
    | none => have := (hsl.2.2.2.1 rfl).1; subst this; simp at hl2; omega
    | some ad =>
      have hn : n = l.length := by obtain ⟨a, c', e, -, -⟩ := h.sl; injection e
      subst hn
      rcases h.2 with ⟨hv, _⟩ | ⟨g', cap, cur, hv, hb, hc, hnc, hcm, hcs, ht⟩
      · cases hv
      · injection hv with e1 e2 e3
        cases e1
        subst e3
        have hmin : Nat.min sLen sLen = sLen := Nat.min_self _
        have hrun := run_copy_row (P := Tryd.prog) w 39 39 ty 5 g off sLen dCap ad sLen sCap cur 5 (l2.map bv) Tryd.underlying39 hsz hc (by rw [List.length_map, hl2, hmin]) (fun j v hj => by
          have hj' : j < l2.length := by have := (List.getElem?_eq_some_iff.1 hj).1; simpa using this
          obtain ⟨hsp, hbl, hcc⟩ := hsl.2.2.2.2 ad rfl j hj'
          have hadd : ad.add j = ⟨ad.block, ad.off + j, none⟩ := by
            obtain ⟨b, o, sp⟩ := ad; simp only at hsp; subst hsp; unfold Addr.add; split <;> simp_all
          rw [hadd, hcc, ← hj]; simp [bv, hj']) (by rw [List.length_map, hl2, hcs]; omega) (fun v hv => by obtain ⟨b, _, rfl⟩ := List.mem_map.1 hv; rfl)
        refine ⟨_, by rw [hrun, List.length_map, hl2], ?_, (But.refl _ _).setRow _⟩
        have hnew : (w.setRow g (cur.toList.take off ++ l2.map bv ++ cur.toList.drop (off + sLen)).toArray).heap[g]? = some (.cells (cur.toList.take off ++ l2.map bv ++ cur.toList.drop (off + sLen)).toArray 5 (0, 0)) := setRow_heap w g _ _ _ _ hc
        have hcl : cur.toList.length = c := by simpa using hcs
        have hll : (l.take off ++ l2 ++ l.drop (off + sLen)).length = l.length := by simp; omega
        refine ⟨by rw [List.length_map]; simp, .inr ⟨g, c, _, by rw [hll], hb, hnew, by rw [hll]; exact hnc, hcm, ?_, ?_⟩⟩
        · simp; omega
        · rw [hll]
          rw [Nat.mul_one] at ht ⊢
          rw [splice_take cur.toList (l2.map bv) l.length off sLen (by rw [List.length_map, hl2]) hfit (by omega), ht]
          simp only [List.map_append, List.map_take, List.map_drop]

theorem wpListIn_copy_ownb {F : Fence} {n0 : Nat} {w : World} {ops : Array Oper} {rest : List Oper} {o : Oper} {a : Act} {Q : Exit → Act → World → Prop} (hgd : o.guard = none) (d s : Operand)
    (ho : o.op = .call { callee := .builtin .copy, args := #[d, s], argTypes := #[39, 39] })
    {base g n c : Nat} {l : List UInt8} (h : OwnB base w (.slice (some ⟨g, 0, none⟩) n c) l) (off dLen dCap : Nat) (sp : Option Addr) (sLen sCap : Nat) (l2 : List UInt8) (hd : a.eval d = .slice (some ⟨g, off, none⟩) dLen dCap) (hs : a.eval s = .slice sp sLen sCap) (hsl : SlB w sp sLen sCap l2) (hle : sLen = dLen) (hfit : off + dLen ≤ l.length)
    (hK : ∀ w', OwnB base w' (.slice (some ⟨g, 0, none⟩) n c) (l.take off ++ l2 ++ l.drop (off + dLen)) → But g w w' → wpListIn F n0 Tryd.prog ops Q rest (a.put o.dst (goInt dLen)) w') : wpListIn F n0 Tryd.prog ops Q (o :: rest) a w := by
  refine wpListIn_plain hgd fun K hK' => ?_
  obtain ⟨w', hrun, r1, r2⟩ := run_copy_ownb o.type h off dLen dCap sp sLen sCap l2 hsl hle hfit
  unfold Oper.wpIn
  refine ⟨?_, ?_⟩
  · simp [Oper.about, ho, resolve, Target.leads, Sem.run_pure]
  · rw [Oper.semAt_plain F _ _ (by rw [ho]; intro c hc'; cases hc')]
    simp [execOp, ho, resolve, invoke, builtin, hd, hs, hrun, Result.andThen]
    exact hK' _ _ (hK w' r1 r2)

/-- make of an empty slice of bytes with a capacity. -/
theorem wpList_make_b {w : World} {ops : Array Oper} {rest : List Oper} {o : Oper} {a : Act} {Q : Exit → Act → World → Prop} (hg : o.guard = none) (l c : Operand) (hop : o.op = Op.makeSlice 39 l c)
    (base : Nat) (n : Nat) (C : Int) (hl : a.eval l = .int .i64 0) (hc : a.eval c = .int .i64 C) (hC : C = (n : Int)) (b2 : n ≤ 281474976710656) (b4 : base ≤ w.heap.size)
    (hK : ∀ v w', OwnB base w' v [] → Below w.heap.size w w' → wpList Tryd.prog ops Q rest (a.put o.dst v) w') : wpList Tryd.prog ops Q (o :: rest) a w := by
  obtain ⟨i0, hi, hz0, hz1, hz2⟩ := info_parts info5
  refine wpList_make_own w hg l c 39 hop base 5 i0 _ 1 Tryd.underlying39 hi hz0 hz1 .i64 .i64 C n hl hc hC (by rw [hz2]; omega) (by unfold maxLen; omega) b4 ?_
  intro w' hown hg'
  exact hK _ w' hown ((Below.refl _ _).grown hg' (Nat.le_refl _) (fun k hk => by cases hk))

end Go.Proofs.YtjfflnnepndlkaaDoor
