/-
  Texts in one: Del, TabGet.
-/
import Derived.Test.YtcmeajaakdaeeaaGreatDoorRun25
import Derived.Deep.RegionLaw
import Derived.Test.YtcmeajaakdaeeaaGreatDoorRun26
import Derived.Test.YtcmeajaakdaeeaaGreatDoorRun23
/-
  slices.Delete of one pin.
-/
namespace Go.Proofs.YtcmeajaakdaeeaaGreatDoor
open Go.RowKit

theorem step_append_runN {w : World} {ops : Array Oper} {o : Oper} {a : Act} {K : Act → World → Prop} {Q : Exit → Act → World → Prop} {E : Prop} (hgd : o.guard = none) (s x : Operand)
    (ho : o.op = .call { callee := .builtin .append, args := #[s, x], argTypes := #[28, 28] }) (vs vx v' : Value) (w' : World) (hs : a.eval s = vs) (hx : a.eval x = vx)
    (hrun : (Builtin.append_ #[28, 28] o.type #[vs, vx]).run Tryz.prog w = .ok v' w') (h : K (a.put o.dst v') w') :
    if Region.wanted o (yielded ops a.tmps) = true then Oper.wp Tryz.prog o a w K Q else E := by
  have hw : Region.wanted o (yielded ops a.tmps) = true := by simp [Region.wanted, hgd]
  rw [if_pos hw]
  unfold Oper.wp
  simp [execOp, ho, resolve, invoke, builtin, hs, hx, hrun, Result.andThen]
  exact h

set_option maxHeartbeats 4000000 in
set_option maxRecDepth 100000 in
theorem sl_delete (base g c i m : Nat) (L : List Pin) (w : World) (h : OwnN base w (.slice (some ⟨g, 0, none⟩) (m + 1) c) L) (hL : L.length = m + 1) (hi : i < m + 1) (hn : m ≤ 1000000) :
    Calls Tryz.prog 29 #[.slice (some ⟨g, 0, none⟩) (m + 1) c, .int .i64 (i : Nat), .int .i64 ((i : Int) + 1)] w
      fun e w' => e = .returned (.slice (some ⟨g, 0, none⟩) m c) ∧ OwnN base w' (.slice (some ⟨g, 0, none⟩) m c) (L.take i ++ L.drop (i + 1)) ∧ w.grownBy w' (some g) := by
  obtain ⟨i9, hi9, hz9, hzs9, -⟩ := info_parts infoPin
  have hrow : ∃ cur, w.heap[g]? = some (.cells cur 23 (0, 0)) ∧ cur.size = c * 3 ∧ m + 1 ≤ c ∧ cur.toList.take ((m + 1) * 3) = L.flatMap pl ∧ c ≤ maxLen ∧ base ≤ g := by
    rcases h.2 with ⟨hv, -⟩ | ⟨g2, cap', cur, hv, hbg, hc, hnc, hcm, hcs, htk⟩
    · cases hv
    · rw [hL] at hv hnc htk; cases hv; exact ⟨cur, hc, hcs, hnc, htk, hcm, hbg⟩
  obtain ⟨cur, hcur, hcs, hnc, htk, hcm, hbg⟩ := hrow
  obtain ⟨D, hD⟩ : ∃ D, (L.drop (i + 1)).flatMap pl = D := ⟨_, rfl⟩
  have hDl : D.length = (m - i) * 3 := by rw [← hD, flat_pl_length, List.length_drop, hL]; omega
  have hDg : ∀ j u, D[j]? = some u → cur[(i + 1) * 3 + j]? = some u := by
    intro j u hj
    have hjl := (List.getElem?_eq_some_iff.1 hj).1
    rw [← hD, flat_drop L (by omega), List.getElem?_drop, ← htk, List.getElem?_take_of_lt (by omega), Array.getElem?_toList] at hj
    exact hj
  have hD1 : ∀ v ∈ D, v.oneCell' = true := by rw [← hD]; exact pl_one _
  obtain ⟨zs, hzs⟩ : ∃ zs, (Builtin.zeroCells (Value.agg #[.string ⟨#[]⟩, .bool false, .int .i64 0]).cells 1).toList = zs := ⟨_, rfl⟩
  have hzl : zs.length = 1 * 3 := by rw [← hzs]; exact zero_len _
  have hz1 : ∀ v ∈ zs, v.oneCell' = true := by rw [← hzs]; exact zero_one _
  obtain ⟨cur2, hcur2⟩ : ∃ cur2, (cur.toList.take (i * 3) ++ D ++ cur.toList.drop (i * 3 + D.length)).toArray = cur2 := ⟨_, rfl⟩
  have hs2 : cur2.size = c * 3 := by rw [← hcur2]; simp only [List.size_toArray, List.length_append, List.length_take, List.length_drop, Array.length_toList]; omega
  have ht2 : cur2.toList.take (m * 3) = (L.take i ++ L.drop (i + 1)).flatMap pl := by
    rw [← hcur2, List.flatMap_append, hD, flat_take L (by omega), ← htk, List.take_take, show min (i * 3) ((m + 1) * 3) = i * 3 by omega]
    rw [List.toList_toArray, List.take_left' (by rw [List.length_append, List.length_take, Array.length_toList]; omega)]
  -- the append, in place
  have hap : ∀ (a : Addr) (k : Nat) (ty : TypeId), (∀ j u, D[j]? = some u → w.drew.cell? (a.add j) = some u) →
      (Builtin.append_ #[28, 28] ty #[.slice (some ⟨g, 0, none⟩) i c, .slice (some a) (m - i) k]).run Tryz.prog w.drew = .ok (.slice (some ⟨g, 0, none⟩) m c) (w.drew.setRow g cur2) := by
    intro a k ty hs
    have := run_append_room (P := Tryz.prog) w.drew 28 ty 23 i9 Tryz.underlying28 hi9 g i c cur hcur a (m - i) k D (by rw [hzs9, hDl]) hs hD1 (by omega) (by rw [hzs9, hDl]; omega)
    rw [this, hzs9, hcur2, show i + (m - i) = m by omega]
  have hsrc : ∀ j u, D[j]? = some u → w.drew.cell? ((⟨g, (i + 1) * 3, none⟩ : Addr).add j) = some u := by
    intro j u hj
    rw [Addr.add_lit]
    exact (cell_of_row w g _ _ _ _ hcur).trans (hDg j u hj)
  have hw1 : (w.drew.setRow g cur2).heap[g]? = some (.cells cur2 23 (0, 0)) := setRow_heap w.drew g cur cur2 _ _ hcur
  have hcl : ∀ ty, (Builtin.clear_ #[28] ty #[.slice (some ⟨g, m * 3, none⟩) 1 (c - m)]).run Tryz.prog (w.drew.setRow g cur2) = .ok (.tuple #[]) ((w.drew.setRow g cur2).setCells g (m * 3) zs) := fun ty =>
    run_clear_k _ _ 23 ty (Value.agg #[.string ⟨#[]⟩, .bool false, .int .i64 0]) Tryz.underlying28 (fun w => by simp [zeroValue, typeInfo, hi9, hz9]) g (m * 3) 1 (c - m) (by omega) zs hzs
      (fun q hq => by rw [cell_of_row _ _ _ _ _ _ hw1, Array.getElem?_eq_getElem (by omega)]; rfl) (fun q hq => frozen_of_row _ _ _ _ _ hw1) hz1
  have HFIN := Lib.hid (show OwnN base ((w.drew.setRow g cur2).setCells g (m * 3) zs) (.slice (some ⟨g, 0, none⟩) m c) (L.take i ++ L.drop (i + 1)) ∧ w.grownBy ((w.drew.setRow g cur2).setCells g (m * 3) zs) (some g) from by
    have hr := heap_setCells_row g 23 zs cur2 (m * 3) _ hw1
    have hl : (L.take i ++ L.drop (i + 1)).length = m := by rw [List.length_append, List.length_take, List.length_drop]; omega
    have hg1 : w.grownBy (w.drew.setRow g cur2) (some g) := ⟨rfl, rfl, rfl, by simp, fun k _ hk => setRow_other w.drew g k cur2 (fun e => hk (by rw [e]))⟩
    refine ⟨⟨by rw [flat_pl_length], .inr ⟨g, c, _, by rw [hl], hbg, hr, by rw [hl]; omega, hcm, by rw [splice_size]; exact hs2, ?_⟩⟩, grown_trans hg1 (setCells_grown g zs (m * 3) _)⟩
    rw [hl, splice_toList _ _ _ (by omega), List.append_assoc, List.take_left' (by rw [List.length_take, Array.length_toList]; omega), ht2])
  have hi0 : (0 : Int) ≤ (i : Int) := by omega
  have e1 : (i : Int) ≤ (i : Int) + 1 := by omega
  have e2 : (i : Int) + 1 ≤ ((m + 1 : Nat) : Int) := by omega
  have e3 : ((m + 1 : Nat) : Int) ≤ (c : Int) := by omega
  have e4 : ¬ c = i := by omega
  have e6 : i ≤ c := by omega
  have z1 : (0 : Int) ≤ (i : Int) + 1 := by omega
  have z2 : i ≤ m := by omega
  have e7 : (i : Int) ≤ (c : Int) := by omega
  have e8 : (m : Int) ≤ (c : Int) := by omega
  have hin : (i : Int) ≤ ((m + 1 : Nat) : Int) := by omega
  have e5 : ¬ c = m := by omega
  by_cases hci : c = i + 1
  · obtain rfl : i = m := by omega
    have hD0 : D = [] := List.eq_nil_of_length_eq_zero (by rw [hDl]; simp)
    have hap2 := fun ty => hap ⟨g, 0, none⟩ 0 ty (by rw [hD0]; intro j u hj; cases hj)
    rw [Nat.sub_self] at hap2
    subst hci
    rw [show i + 1 - i = 1 by omega] at hcl
    clear hD0
    clear hap hsrc hDg hD1 hD hDl hcur2 hs2 ht2 hw1 hzs hz1 hzl hcur htk hcs h hi9 hz9 hzs9
    go_enter Tryz.func29, Tryz.ntmps29
    go_wp2_with fail
    go_region_law (refine step_append_runN rfl (.tmp 22) (.tmp 25) rfl _ _ _ _ (by simp [Act.eval, Act.put]) (by simp [Act.eval, Act.put]) (hap2 _) ?_)
    go_wp2_with fail
    go_ret
    exact ⟨rfl, HFIN.out.1, HFIN.out.2⟩
  · have hap2 := fun ty => hap ⟨g, (i + 1) * 3, none⟩ (c - (i + 1)) ty hsrc
    clear hap hsrc hDg hD1 hD hDl hcur2 hs2 ht2 hw1 hzs hz1 hzl hcur htk hcs h hi9 hz9 hzs9
    go_enter Tryz.func29, Tryz.ntmps29
    go_wp2_with fail
    go_region_law (refine step_append_runN rfl (.tmp 22) (.tmp 25) rfl _ _ _ _ (by simp [Act.eval, Act.put]) (by simp [Act.eval, Act.put]) (hap2 _) ?_)
    go_wp2_with fail
    go_ret
    exact ⟨rfl, HFIN.out.1, HFIN.out.2⟩

end Go.Proofs.YtcmeajaakdaeeaaGreatDoor

/-
  The table's Get and Remove; the methods of a nil table.
-/
namespace Go.Proofs.YtcmeajaakdaeeaaGreatDoor
open Go.RowKit

/-- The pin that Get returns. -/
def getP (L : List Pin) (t : List UInt8) : Pin := if Tab.hit L t then L[Tab.lo L t]?.getD Pin.none else Pin.none

set_option maxRecDepth 100000 in
set_option maxHeartbeats 2000000 in
theorem tb_get {B : Nat} {w : World} {g : Nat} {v : Value} {L : List Pin} {cap : Int} (h : TabW B w g v L cap) (t : List UInt8) (hn : L.length ≤ 1000000) (hA : Tab.Asc L) (hL : ∀ p ∈ L, p.h.length ≤ 1000000) (ht : t.length ≤ 1000000) :
    Calls Tryz.prog 6 #[.pointer (some ⟨g, 0, none⟩), .string (str t)] w fun e w' => e = .returned (.tuple #[pv (getP L t), .bool (Tab.hit L t)]) ∧ Below w.heap.size w w' := by
  have hb0 := (Below.refl w.heap.size w).alloc (Nat.le_refl _) (.cells #[.string ⟨#[]⟩, .bool false, .int .i64 0] 23)
  have hbk : (w.alloc (.cells #[.string ⟨#[]⟩, .bool false, .int .i64 0] 23)).heap[w.heap.size]? = some (.cells #[.string ⟨#[]⟩, .bool false, .int .i64 0] 23 (0, 0)) := heap_alloc_eq _ _ _ rfl
  have hT0 := h.ext hb0
  have HF := Lib.hid (tb_find hT0 t hn hA hL ht)
  obtain ⟨a, c, rfl, hs, -⟩ := h.2.1.sl
  have HT0 := Lib.hid hT0
  have HLO := Lib.hid (Tab.lo_le L t)
  obtain ⟨lo, hlo⟩ : ∃ b, Tab.lo L t = b := ⟨_, rfl⟩
  obtain ⟨hit, hhit⟩ : ∃ b, Tab.hit L t = b := ⟨_, rfl⟩
  have hg : getP L t = if hit then L[lo]?.getD Pin.none else Pin.none := by unfold getP; rw [hlo, hhit]
  have hh : hit = match L[lo]? with | some p => decide (p.h = t) | none => false := by rw [← hhit, ← hlo]; rfl
  rw [hlo, hhit] at HF
  rw [hlo] at HLO
  rw [hhit, hg]
  obtain ⟨st, hst⟩ : ∃ s, str t = s := ⟨_, rfl⟩
  rw [hst] at HF ⊢
  have HB0 := Lib.hid (And.intro hb0 hbk)
  have hz0 : (w.alloc (.cells #[.string ⟨#[]⟩, .bool false, .int .i64 0] 23)).heap.size = w.heap.size + 1 := by simp
  have HZ0 := Lib.hid hz0
  clear hst hlo hhit hg hb0 hbk hT0 h hs hA hL hz0
  cases hit with
  | false =>
    clear hh
    rw [if_neg (by decide)]
    go_enter Tryz.func6, Tryz.ntmps6
    go_wp2_with fail
    refine HF.out.mono ?_; rintro e w1 ⟨rfl, hb1⟩
    rw [HZ0.out] at hb1
    have hbk := (hb1.block w.heap.size (Nat.lt_succ_self _)).trans HB0.out.2
    have y0 := (cell_of_row _ _ 0 _ _ _ hbk).trans rfl
    have y1 := (cell_of_row _ _ 1 _ _ _ hbk).trans rfl
    have y2 := (cell_of_row _ _ 2 _ _ _ hbk).trans rfl
    have fz := fun k => frozen_of_row _ _ k _ _ hbk
    have hlt := heap_lt hbk
    have HBK := Lib.hid hbk
    clear hbk
    go_wp2_with fail
    have hfin := set3 HBK.out (.string ⟨#[]⟩) (.bool false) (.int .i64 0)
    have d0 := (cell_of_row _ _ 0 _ _ _ hfin).trans rfl
    have d1 := (cell_of_row _ _ 1 _ _ _ hfin).trans rfl
    have d2 := (cell_of_row _ _ 2 _ _ _ hfin).trans rfl
    refine bodyPost_ret (v := .tuple #[.agg #[.string ⟨#[]⟩, .bool false, .int .i64 0], .bool false]) (by simp [results, Tryz.results6, go_sem, d0, d1, d2]) rfl ⟨rfl, ?_⟩
    exact (((HB0.out.1.trans (hb1.mono (Nat.le_succ _))).setCell (Nat.le_refl _) _).setCell (Nat.le_refl _) _).setCell (Nat.le_refl _) _
  | true =>
    rw [if_pos rfl]
    have hlol : lo < L.length := by
      cases h2 : L[lo]? with
      | none => rw [h2] at hh; cases hh
      | some q => exact (List.getElem?_eq_some_iff.1 h2).1
    clear hh
    have l0 : (0 : Int) ≤ (lo : Int) := by omega
    obtain ⟨n, hn2⟩ : ∃ n, L.length = n := ⟨_, rfl⟩
    rw [hn2] at hlol HT0
    have l1 : (lo : Int) < (n : Int) := by omega
    have HLL := Lib.hid hn2
    obtain ⟨p, hp⟩ : ∃ p, L[lo]?.getD Pin.none = p := ⟨_, rfl⟩
    rw [hp]
    unfold pv
    obtain ⟨sp, hsp⟩ : ∃ s, str p.h = s := ⟨_, rfl⟩
    rw [hsp]
    have HP := Lib.hid (And.intro hp hsp)
    clear hn2 hn hp hsp
    go_enter Tryz.func6, Tryz.ntmps6
    go_wp2_with fail
    refine HF.out.mono ?_; rintro e w1 ⟨rfl, hb1⟩
    have hT1 := HT0.out.ext hb1
    rw [HZ0.out] at hb1
    have hbk := (hb1.block w.heap.size (Nat.lt_succ_self _)).trans HB0.out.2
    obtain ⟨c0, -⟩ := hT1.cells
    have hltg := hT1.lt
    obtain ⟨bb, o, rfl, hbb, hkl, e0, e1, e2⟩ := hT1.2.1.slN.at hlol
    rw [HP.out.1] at e0 e1 e2
    rw [HP.out.2] at e0
    have y0 := (cell_of_row _ _ 0 _ _ _ hbk).trans rfl
    have y1 := (cell_of_row _ _ 1 _ _ _ hbk).trans rfl
    have y2 := (cell_of_row _ _ 2 _ _ _ hbk).trans rfl
    have fz := fun k => frozen_of_row _ _ k _ _ hbk
    have hlt := heap_lt hbk
    have HBK := Lib.hid hbk
    clear hbk hT1 hkl
    go_wp2_with fail
    have hfin := set3 HBK.out (.string sp) (.bool p.s) (.int .i64 p.x)
    have d0 := (cell_of_row _ _ 0 _ _ _ hfin).trans rfl
    have d1 := (cell_of_row _ _ 1 _ _ _ hfin).trans rfl
    have d2 := (cell_of_row _ _ 2 _ _ _ hfin).trans rfl
    refine bodyPost_ret (v := .tuple #[.agg #[.string sp, .bool p.s, .int .i64 p.x], .bool true]) (by simp [results, Tryz.results6, go_sem, d0, d1, d2]) rfl ⟨rfl, ?_⟩
    exact (((HB0.out.1.trans (hb1.mono (Nat.le_succ _))).setCell (Nat.le_refl _) _).setCell (Nat.le_refl _) _).setCell (Nat.le_refl _) _

/-- What Remove does. -/
def RemP (B : Nat) (g : Nat) (v : Value) (L : List Pin) (cap : Int) (t : List UInt8) (w : World) (e : Ending) (w' : World) : Prop :=
  ∃ v', e = .returned (.bool (Tab.remove L t).2) ∧ TabW B w' g v' (Tab.remove L t).1 cap ∧ Upd (Foot g v) w (Foot g v') w'

set_option maxRecDepth 100000 in
set_option maxHeartbeats 2000000 in
theorem tb_remove {B : Nat} {w : World} {g : Nat} {v : Value} {L : List Pin} {cap : Int} (h : TabW B w g v L cap) (t : List UInt8) (hn : L.length ≤ 1000000) (hA : Tab.Asc L) (hL : ∀ p ∈ L, p.h.length ≤ 1000000) (ht : t.length ≤ 1000000) :
    Calls Tryz.prog 10 #[.pointer (some ⟨g, 0, none⟩), .string (str t)] w (RemP B g v L cap t w) := by
  have HF := Lib.hid (tb_find h t hn hA hL ht)
  have HT := Lib.hid h
  have hhl : Tab.hit L t = true → Tab.lo L t < L.length := fun e => Tab.lo_lt hA e
  have HR := Lib.hid (show Tab.remove L t = if Tab.hit L t then (L.take (Tab.lo L t) ++ L.drop (Tab.lo L t + 1), true) else (L, false) from rfl)
  have HGO := Lib.hid (show ∀ L' b e w' v', Tab.remove L t = (L', b) → e = .returned (.bool b) → TabW B w' g v' L' cap → Upd (Foot g v) w (Foot g v') w' → RemP B g v L cap t w e w' from fun L' b e w' v' h1 h2 h3 h4 => by unfold RemP; rw [h1]; exact ⟨v', h2, h3, h4⟩)
  obtain ⟨lo, hlo⟩ : ∃ b, Tab.lo L t = b := ⟨_, rfl⟩
  obtain ⟨hit, hhit⟩ : ∃ b, Tab.hit L t = b := ⟨_, rfl⟩
  rw [hlo, hhit] at HF HR hhl
  obtain ⟨st, hst⟩ : ∃ s, str t = s := ⟨_, rfl⟩
  rw [hst] at HF ⊢
  clear hst hlo hhit hA hL h
  cases hit with
  | false =>
    have HRR := Lib.hid (HR.out.trans (if_neg (by decide)))
    clear hhl
    go_enter Tryz.func10, Tryz.ntmps10
    go_wp2_with fail
    refine HF.out.mono ?_; rintro e w1 ⟨rfl, hb1⟩
    go_wp2_with fail
    go_ret
    exact HGO.out _ _ _ _ _ HRR.out rfl (HT.out.ext hb1) (Upd.of_ext hb1)
  | true =>
    have HRR := Lib.hid (HR.out.trans (if_pos rfl))
    have hlol := hhl rfl
    clear hhl
    obtain ⟨g', c', rfl⟩ : ∃ g' c', v = .slice (some ⟨g', 0, none⟩) L.length c' := by
      rcases HT.out.2.1.2 with ⟨hv, hn0⟩ | ⟨g', cap', cur, hv, -⟩
      · omega
      · exact ⟨g', cap', hv⟩
    have hgg : g' ≠ g := fun e => HT.out.2.2.2 (by rw [← e]; rfl)
    obtain ⟨m, hm⟩ : ∃ m, L.length = m + 1 := ⟨L.length - 1, by omega⟩
    have HM := Lib.hid hm
    rw [hm] at HT HGO hlol hn ⊢
    have l0 : (0 : Int) ≤ (lo : Int) := by omega
    have l1 : (lo : Int) < 1000001 := by omega
    clear hm
    go_enter Tryz.func10, Tryz.ntmps10
    go_wp2_with fail
    refine HF.out.mono ?_; rintro e w1 ⟨rfl, hb1⟩
    have hT1 := HT.out.ext hb1
    obtain ⟨c0, -⟩ := hT1.cells
    have hltg := hT1.lt
    have HD := Lib.hid (sl_delete B g' c' lo m L w1 hT1.2.1 HM.out hlol (by omega))
    have HT1 := Lib.hid hT1
    clear hT1
    go_wp2_with fail
    refine HD.out.mono ?_; rintro e w2 ⟨rfl, ho2, hg2⟩
    have hk2 : w2.heap[g]? = _ := (hg2.block g HT1.out.lt (fun e => hgg (by cases e; rfl))).trans HT1.out.1
    have c2 : w2.cell? ⟨g, 0, none⟩ = some (.slice (some ⟨g', 0, none⟩) (m + 1) c') := (cell_of_row _ _ _ _ _ _ hk2).trans rfl
    have f2 : w2.frozen? ⟨g, 0, none⟩ = false := frozen_of_row _ _ _ _ _ hk2
    have hlt2 := heap_lt hk2
    have hne2 : (Value.slice (some ⟨g', 0, none⟩) m c').ownBlock ≠ some g := fun e => hgg (by simpa [Value.ownBlock] using e)
    have HFT := Lib.hid (show TabW B (w2.setCell ⟨g, 0, none⟩ (.slice (some ⟨g', 0, none⟩) m c')) g (.slice (some ⟨g', 0, none⟩) m c') (L.take lo ++ L.drop (lo + 1)) cap from
      ⟨heap_setCell_same w2 g 0 _ _ _ hk2, ho2.stay (fun k hk => heap_setCell_other _ _ _ _ (fun e => hne2 (by rw [hk]; exact congrArg some e))), HT1.out.2.2.1, hne2⟩)
    have HU := Lib.hid ((((Upd.of_ext (F := Foot g (.slice (some ⟨g', 0, none⟩) (m + 1) c')) hb1).grown (fun k hk => .inl (.inr (by rw [← hk]; rfl))) hg2).setCell (g := g) (.inl (.inl rfl)) 0 (.slice (some ⟨g', 0, none⟩) m c')).grow (F2 := Foot g (.slice (some ⟨g', 0, none⟩) m c')) (fun k hk => by
      rcases hk with rfl | hk
      · exact .inl (.inl rfl)
      · exact .inl (.inr hk)))
    clear hk2 ho2
    go_wp2_with fail
    go_ret
    exact HGO.out _ _ _ _ _ HRR.out rfl HFT.out HU.out

/-! ### A nil table -/
theorem nt_len (w : World) : Calls Tryz.prog 12 #[.pointer none] w fun e w' => e = .returned (.int .i64 0) ∧ w = w' := by
  go_enter Tryz.func12, Tryz.ntmps12
  go_wp2_with fail
  go_ret
  exact ⟨rfl, rfl⟩
theorem nt_cap (w : World) : Calls Tryz.prog 13 #[.pointer none] w fun e w' => e = .returned (.int .i64 0) ∧ w = w' := by
  go_enter Tryz.func13, Tryz.ntmps13
  go_wp2_with fail
  go_ret
  exact ⟨rfl, rfl⟩
theorem nt_pins (w : World) : Calls Tryz.prog 14 #[.pointer none] w fun e w' => e = .returned (.slice none 0 0) ∧ w = w' := by
  go_enter Tryz.func14, Tryz.ntmps14
  go_wp2_with fail
  go_ret
  exact ⟨rfl, rfl⟩
theorem nt_find (st : ByteArray) (w : World) : Calls Tryz.prog 24 #[.pointer none, .string st] w fun e w' => e = .returned (.tuple #[.int .i64 0, .bool false]) ∧ w = w' := by
  go_enter Tryz.func24, Tryz.ntmps24
  go_wp2_with fail
  go_ret2
  exact ⟨rfl, rfl⟩
theorem nt_remove (st : ByteArray) (w : World) : Calls Tryz.prog 10 #[.pointer none, .string st] w fun e w' => e = .returned (.bool false) ∧ w = w' := by
  go_enter Tryz.func10, Tryz.ntmps10
  go_wp2_with fail
  refine (nt_find _ _).mono ?_; rintro e w1 ⟨rfl, rfl⟩
  go_wp2_with fail
  go_ret
  exact ⟨rfl, rfl⟩
theorem nt_expire (now : Int) (w : World) : Calls Tryz.prog 11 #[.pointer none, .int .i64 now] w fun e w' => e = .returned (.int .i64 0) ∧ Below w.heap.size w w' := by
  have hb := (Below.refl w.heap.size w).alloc (Nat.le_refl _) (.cells #[.int .i64 now] 3)
  go_enter Tryz.func11, Tryz.ntmps11
  go_wp2_with fail
  refine (nt_len _).mono ?_; rintro e w1 ⟨rfl, rfl⟩
  go_wp2_with fail
  refine (nt_len _).mono ?_; rintro e w1 ⟨rfl, rfl⟩
  go_wp2_with fail
  go_ret
  exact ⟨rfl, hb⟩
theorem nt_get (st : ByteArray) (w : World) : Calls Tryz.prog 6 #[.pointer none, .string st] w fun e w' => e = .returned (.tuple #[.agg #[.string ⟨#[]⟩, .bool false, .int .i64 0], .bool false]) ∧ Below w.heap.size w w' := by
  have hb := (Below.refl w.heap.size w).alloc (Nat.le_refl _) (.cells #[.string ⟨#[]⟩, .bool false, .int .i64 0] 23)
  have HBK := Lib.hid hb
  clear hb
  go_enter Tryz.func6, Tryz.ntmps6
  go_wp2_with fail
  refine (nt_find _ _).mono ?_; rintro e w1 ⟨rfl, rfl⟩
  go_wp2_with fail
  refine bodyPost_ret (v := .tuple #[.agg #[.string ⟨#[]⟩, .bool false, .int .i64 0], .bool false]) (by simp [results, Tryz.results6, go_sem]) rfl ⟨rfl, ?_⟩
  exact HBK.out


end Go.Proofs.YtcmeajaakdaeeaaGreatDoor
