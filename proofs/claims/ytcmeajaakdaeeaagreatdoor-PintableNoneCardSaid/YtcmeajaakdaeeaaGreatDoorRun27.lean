/-
  slices.Delete of one pin.
-/
import Derived.Test.YtcmeajaakdaeeaaGreatDoorRun25
import Derived.Deep.RegionLaw
namespace Go.Proofs.YtcmeajaakdaeeaaGreatDoor
open Go.RowKit

theorem step_append_runN {w : World} {ops : Array Oper} {o : Oper} {a : Act} {K : Act → World → Prop} {Q : Exit → Act → World → Prop} {E : Prop} (hgd : o.guard = none) (s x : Operand)
    (ho : o.op = .call { callee := .builtin .append, args := #[s, x], argTypes := #[28, 28] }) (vs vx v' : Value) (w' : World) (hs : a.eval s = vs) (hx : a.eval x = vx)
    (hrun : (Builtin.append_ #[28, 28] o.type #[vs, vx]).run Tryz.prog w = .ok v' w') (h : K (a.put o.dst v') w') :
    if Region.wanted o (yielded ops a.tmps) = true then Oper.wp Tryz.prog o a w K Q else E := by
  have hw : Region.wanted o (yielded ops a.tmps) = true := by simp [Region.wanted, hgd]
  rw [if_pos hw]
  unfold Oper.wp
  simp [execOp, ho, resolve, invoke, builtin, hs, hx, hrun, Result.andThen]
  exact h

set_option maxHeartbeats 4000000 in
set_option maxRecDepth 100000 in
theorem sl_delete (base g c i m : Nat) (L : List Pin) (w : World) (h : OwnN base w (.slice (some ⟨g, 0, none⟩) (m + 1) c) L) (hL : L.length = m + 1) (hi : i < m + 1) (hn : m ≤ 1000000) :
    Calls Tryz.prog 29 #[.slice (some ⟨g, 0, none⟩) (m + 1) c, .int .i64 (i : Nat), .int .i64 ((i : Int) + 1)] w
      fun e w' => e = .returned (.slice (some ⟨g, 0, none⟩) m c) ∧ OwnN base w' (.slice (some ⟨g, 0, none⟩) m c) (L.take i ++ L.drop (i + 1)) ∧ w.grownBy w' (some g) := by
  obtain ⟨i9, hi9, hz9, hzs9, -⟩ := info_parts infoPin
  have hrow : ∃ cur, w.heap[g]? = some (.cells cur 23 (0, 0)) ∧ cur.size = c * 3 ∧ m + 1 ≤ c ∧ cur.toList.take ((m + 1) * 3) = L.flatMap pl ∧ c ≤ maxLen ∧ base ≤ g := by
    rcases h.2 with ⟨hv, -⟩ | ⟨g2, cap', cur, hv, hbg, hc, hnc, hcm, hcs, htk⟩
    · cases hv
    · rw [hL] at hv hnc htk; cases hv; exact ⟨cur, hc, hcs, hnc, htk, hcm, hbg⟩
  obtain ⟨cur, hcur, hcs, hnc, htk, hcm, hbg⟩ := hrow
  obtain ⟨D, hD⟩ : ∃ D, (L.drop (i + 1)).flatMap pl = D := ⟨_, rfl⟩
  have hDl : D.length = (m - i) * 3 := by rw [← hD, flat_pl_length, List.length_drop, hL]; omega
  have hDg : ∀ j u, D[j]? = some u → cur[(i + 1) * 3 + j]? = some u := by
    intro j u hj
    have hjl := (List.getElem?_eq_some_iff.1 hj).1
    rw [← hD, flat_drop L (by omega), List.getElem?_drop, ← htk, List.getElem?_take_of_lt (by omega), Array.getElem?_toList] at hj
    exact hj
  have hD1 : ∀ v ∈ D, v.oneCell' = true := by rw [← hD]; exact pl_one _
  obtain ⟨zs, hzs⟩ : ∃ zs, (Builtin.zeroCells (Value.agg #[.string ⟨#[]⟩, .bool false, .int .i64 0]).cells 1).toList = zs := ⟨_, rfl⟩
  have hzl : zs.length = 1 * 3 := by rw [← hzs]; exact zero_len _
  have hz1 : ∀ v ∈ zs, v.oneCell' = true := by rw [← hzs]; exact zero_one _
  obtain ⟨cur2, hcur2⟩ : ∃ cur2, (cur.toList.take (i * 3) ++ D ++ cur.toList.drop (i * 3 + D.length)).toArray = cur2 := ⟨_, rfl⟩
  have hs2 : cur2.size = c * 3 := by rw [← hcur2]; simp only [List.size_toArray, List.length_append, List.length_take, List.length_drop, Array.length_toList]; omega
  have ht2 : cur2.toList.take (m * 3) = (L.take i ++ L.drop (i + 1)).flatMap pl := by
    rw [← hcur2, List.flatMap_append, hD, flat_take L (by omega), ← htk, List.take_take, show min (i * 3) ((m + 1) * 3) = i * 3 by omega]
    rw [List.toList_toArray, List.take_left' (by rw [List.length_append, List.length_take, Array.length_toList]; omega)]
  -- the append, in place
  have hap : ∀ (a : Addr) (k : Nat) (ty : TypeId), (∀ j u, D[j]? = some u → w.drew.cell? (a.add j) = some u) →
      (Builtin.append_ #[28, 28] ty #[.slice (some ⟨g, 0, none⟩) i c, .slice (some a) (m - i) k]).run Tryz.prog w.drew = .ok (.slice (some ⟨g, 0, none⟩) m c) (w.drew.setRow g cur2) := by
    intro a k ty hs
    have := run_append_room (P := Tryz.prog) w.drew 28 ty 23 i9 Tryz.underlying28 hi9 g i c cur hcur a (m - i) k D (by rw [hzs9, hDl]) hs hD1 (by omega) (by rw [hzs9, hDl]; omega)
    rw [this, hzs9, hcur2, show i + (m - i) = m by omega]
  have hsrc : ∀ j u, D[j]? = some u → w.drew.cell? ((⟨g, (i + 1) * 3, none⟩ : Addr).add j) = some u := by
    intro j u hj
    rw [Addr.add_lit]
    exact (cell_of_row w g _ _ _ _ hcur).trans (hDg j u hj)
  have hw1 : (w.drew.setRow g cur2).heap[g]? = some (.cells cur2 23 (0, 0)) := setRow_heap w.drew g cur cur2 _ _ hcur
  have hcl : ∀ ty, (Builtin.clear_ #[28] ty #[.slice (some ⟨g, m * 3, none⟩) 1 (c - m)]).run Tryz.prog (w.drew.setRow g cur2) = .ok (.tuple #[]) ((w.drew.setRow g cur2).setCells g (m * 3) zs) := fun ty =>
    run_clear_k _ _ 23 ty (Value.agg #[.string ⟨#[]⟩, .bool false, .int .i64 0]) Tryz.underlying28 (fun w => by simp [zeroValue, typeInfo, hi9, hz9]) g (m * 3) 1 (c - m) (by omega) zs hzs
      (fun q hq => by rw [cell_of_row _ _ _ _ _ _ hw1, Array.getElem?_eq_getElem (by omega)]; rfl) (fun q hq => frozen_of_row _ _ _ _ _ hw1) hz1
  have HFIN := Lib.hid (show OwnN base ((w.drew.setRow g cur2).setCells g (m * 3) zs) (.slice (some ⟨g, 0, none⟩) m c) (L.take i ++ L.drop (i + 1)) ∧ w.grownBy ((w.drew.setRow g cur2).setCells g (m * 3) zs) (some g) from by
    have hr := heap_setCells_row g 23 zs cur2 (m * 3) _ hw1
    have hl : (L.take i ++ L.drop (i + 1)).length = m := by rw [List.length_append, List.length_take, List.length_drop]; omega
    have hg1 : w.grownBy (w.drew.setRow g cur2) (some g) := ⟨rfl, rfl, rfl, by simp, fun k _ hk => setRow_other w.drew g k cur2 (fun e => hk (by rw [e]))⟩
    refine ⟨⟨by rw [flat_pl_length], .inr ⟨g, c, _, by rw [hl], hbg, hr, by rw [hl]; omega, hcm, by rw [splice_size]; exact hs2, ?_⟩⟩, grown_trans hg1 (setCells_grown g zs (m * 3) _)⟩
    rw [hl, splice_toList _ _ _ (by omega), List.append_assoc, List.take_left' (by rw [List.length_take, Array.length_toList]; omega), ht2])
  have hi0 : (0 : Int) ≤ (i : Int) := by omega
  have e1 : (i : Int) ≤ (i : Int) + 1 := by omega
  have e2 : (i : Int) + 1 ≤ ((m + 1 : Nat) : Int) := by omega
  have e3 : ((m + 1 : Nat) : Int) ≤ (c : Int) := by omega
  have e4 : ¬ c = i := by omega
  have e6 : i ≤ c := by omega
  have z1 : (0 : Int) ≤ (i : Int) + 1 := by omega
  have z2 : i ≤ m := by omega
  have e7 : (i : Int) ≤ (c : Int) := by omega
  have e8 : (m : Int) ≤ (c : Int) := by omega
  have hin : (i : Int) ≤ ((m + 1 : Nat) : Int) := by omega
  have e5 : ¬ c = m := by omega
  by_cases hci : c = i + 1
  · obtain rfl : i = m := by omega
    have hD0 : D = [] := List.eq_nil_of_length_eq_zero (by rw [hDl]; simp)
    have hap2 := fun ty => hap ⟨g, 0, none⟩ 0 ty (by rw [hD0]; intro j u hj; cases hj)
    rw [Nat.sub_self] at hap2
    subst hci
    rw [show i + 1 - i = 1 by omega] at hcl
    clear hD0
    clear hap hsrc hDg hD1 hD hDl hcur2 hs2 ht2 hw1 hzs hz1 hzl hcur htk hcs h hi9 hz9 hzs9
    go_enter Tryz.func29, Tryz.ntmps29
    go_wp2_with fail
    go_region_law (refine step_append_runN rfl (.tmp 22) (.tmp 25) rfl _ _ _ _ (by simp [Act.eval, Act.put]) (by simp [Act.eval, Act.put]) (hap2 _) ?_)
    go_wp2_with fail
    go_ret
    exact ⟨rfl, HFIN.out.1, HFIN.out.2⟩
  · have hap2 := fun ty => hap ⟨g, (i + 1) * 3, none⟩ (c - (i + 1)) ty hsrc
    clear hap hsrc hDg hD1 hD hDl hcur2 hs2 ht2 hw1 hzs hz1 hzl hcur htk hcs h hi9 hz9 hzs9
    go_enter Tryz.func29, Tryz.ntmps29
    go_wp2_with fail
    go_region_law (refine step_append_runN rfl (.tmp 22) (.tmp 25) rfl _ _ _ _ (by simp [Act.eval, Act.put]) (by simp [Act.eval, Act.put]) (hap2 _) ?_)
    go_wp2_with fail
    go_ret
    exact ⟨rfl, HFIN.out.1, HFIN.out.2⟩

end Go.Proofs.YtcmeajaakdaeeaaGreatDoor
