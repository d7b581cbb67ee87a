/-
  The table's Get and Remove; the methods of a nil table.
-/
import Derived.Test.YtcmeajaakdaeeaaGreatDoorRun27
import Derived.Test.YtcmeajaakdaeeaaGreatDoorRun28
import Derived.Test.YtcmeajaakdaeeaaGreatDoorRun23
namespace Go.Proofs.YtcmeajaakdaeeaaGreatDoor
open Go.RowKit

/-- The pin that Get returns. -/
def getP (L : List Pin) (t : List UInt8) : Pin := if Tab.hit L t then L[Tab.lo L t]?.getD Pin.none else Pin.none

set_option maxRecDepth 100000 in
set_option maxHeartbeats 2000000 in
theorem tb_get {B : Nat} {w : World} {g : Nat} {v : Value} {L : List Pin} {cap : Int} (h : TabW B w g v L cap) (t : List UInt8) (hn : L.length ≤ 1000000) (hA : Tab.Asc L) (hL : ∀ p ∈ L, p.h.length ≤ 1000000) (ht : t.length ≤ 1000000) :
    Calls Tryz.prog 6 #[.pointer (some ⟨g, 0, none⟩), .string (str t)] w fun e w' => e = .returned (.tuple #[pv (getP L t), .bool (Tab.hit L t)]) ∧ Below w.heap.size w w' := by
  have hb0 := (Below.refl w.heap.size w).alloc (Nat.le_refl _) (.cells #[.string ⟨#[]⟩, .bool false, .int .i64 0] 23)
  have hbk : (w.alloc (.cells #[.string ⟨#[]⟩, .bool false, .int .i64 0] 23)).heap[w.heap.size]? = some (.cells #[.string ⟨#[]⟩, .bool false, .int .i64 0] 23 (0, 0)) := heap_alloc_eq _ _ _ rfl
  have hT0 := h.ext hb0
  have HF := Lib.hid (tb_find hT0 t hn hA hL ht)
  obtain ⟨a, c, rfl, hs, -⟩ := h.2.1.sl
  have HT0 := Lib.hid hT0
  have HLO := Lib.hid (Tab.lo_le L t)
  obtain ⟨lo, hlo⟩ : ∃ b, Tab.lo L t = b := ⟨_, rfl⟩
  obtain ⟨hit, hhit⟩ : ∃ b, Tab.hit L t = b := ⟨_, rfl⟩
  have hg : getP L t = if hit then L[lo]?.getD Pin.none else Pin.none := by unfold getP; rw [hlo, hhit]
  have hh : hit = match L[lo]? with | some p => decide (p.h = t) | none => false := by rw [← hhit, ← hlo]; rfl
  rw [hlo, hhit] at HF
  rw [hlo] at HLO
  rw [hhit, hg]
  obtain ⟨st, hst⟩ : ∃ s, str t = s := ⟨_, rfl⟩
  rw [hst] at HF ⊢
  have HB0 := Lib.hid (And.intro hb0 hbk)
  have hz0 : (w.alloc (.cells #[.string ⟨#[]⟩, .bool false, .int .i64 0] 23)).heap.size = w.heap.size + 1 := by simp
  have HZ0 := Lib.hid hz0
  clear hst hlo hhit hg hb0 hbk hT0 h hs hA hL hz0
  cases hit with
  | false =>
    clear hh
    rw [if_neg (by decide)]
    go_enter Tryz.func6, Tryz.ntmps6
    go_wp2_with fail
    refine HF.out.mono ?_; rintro e w1 ⟨rfl, hb1⟩
    rw [HZ0.out] at hb1
    have hbk := (hb1.block w.heap.size (Nat.lt_succ_self _)).trans HB0.out.2
    have y0 := (cell_of_row _ _ 0 _ _ _ hbk).trans rfl
    have y1 := (cell_of_row _ _ 1 _ _ _ hbk).trans rfl
    have y2 := (cell_of_row _ _ 2 _ _ _ hbk).trans rfl
    have fz := fun k => frozen_of_row _ _ k _ _ hbk
    have hlt := heap_lt hbk
    have HBK := Lib.hid hbk
    clear hbk
    go_wp2_with fail
    have hfin := set3 HBK.out (.string ⟨#[]⟩) (.bool false) (.int .i64 0)
    have d0 := (cell_of_row _ _ 0 _ _ _ hfin).trans rfl
    have d1 := (cell_of_row _ _ 1 _ _ _ hfin).trans rfl
    have d2 := (cell_of_row _ _ 2 _ _ _ hfin).trans rfl
    refine bodyPost_ret (v := .tuple #[.agg #[.string ⟨#[]⟩, .bool false, .int .i64 0], .bool false]) (by simp [results, Tryz.results6, go_sem, d0, d1, d2]) rfl ⟨rfl, ?_⟩
    exact (((HB0.out.1.trans (hb1.mono (Nat.le_succ _))).setCell (Nat.le_refl _) _).setCell (Nat.le_refl _) _).setCell (Nat.le_refl _) _
  | true =>
    rw [if_pos rfl]
    have hlol : lo < L.length := by
      cases h2 : L[lo]? with
      | none => rw [h2] at hh; cases hh
      | some q => exact (List.getElem?_eq_some_iff.1 h2).1
    clear hh
    have l0 : (0 : Int) ≤ (lo : Int) := by omega
    obtain ⟨n, hn2⟩ : ∃ n, L.length = n := ⟨_, rfl⟩
    rw [hn2] at hlol HT0
    have l1 : (lo : Int) < (n : Int) := by omega
    have HLL := Lib.hid hn2
    obtain ⟨p, hp⟩ : ∃ p, L[lo]?.getD Pin.none = p := ⟨_, rfl⟩
    rw [hp]
    unfold pv
    obtain ⟨sp, hsp⟩ : ∃ s, str p.h = s := ⟨_, rfl⟩
    rw [hsp]
    have HP := Lib.hid (And.intro hp hsp)
    clear hn2 hn hp hsp
    go_enter Tryz.func6, Tryz.ntmps6
    go_wp2_with fail
    refine HF.out.mono ?_; rintro e w1 ⟨rfl, hb1⟩
    have hT1 := HT0.out.ext hb1
    rw [HZ0.out] at hb1
    have hbk := (hb1.block w.heap.size (Nat.lt_succ_self _)).trans HB0.out.2
    obtain ⟨c0, -⟩ := hT1.cells
    have hltg := hT1.lt
    obtain ⟨bb, o, rfl, hbb, hkl, e0, e1, e2⟩ := hT1.2.1.slN.at hlol
    rw [HP.out.1] at e0 e1 e2
    rw [HP.out.2] at e0
    have y0 := (cell_of_row _ _ 0 _ _ _ hbk).trans rfl
    have y1 := (cell_of_row _ _ 1 _ _ _ hbk).trans rfl
    have y2 := (cell_of_row _ _ 2 _ _ _ hbk).trans rfl
    have fz := fun k => frozen_of_row _ _ k _ _ hbk
    have hlt := heap_lt hbk
    have HBK := Lib.hid hbk
    clear hbk hT1 hkl
    go_wp2_with fail
    have hfin := set3 HBK.out (.string sp) (.bool p.s) (.int .i64 p.x)
    have d0 := (cell_of_row _ _ 0 _ _ _ hfin).trans rfl
    have d1 := (cell_of_row _ _ 1 _ _ _ hfin).trans rfl
    have d2 := (cell_of_row _ _ 2 _ _ _ hfin).trans rfl
    refine bodyPost_ret (v := .tuple #[.agg #[.string sp, .bool p.s, .int .i64 p.x], .bool true]) (by simp [results, Tryz.results6, go_sem, d0, d1, d2]) rfl ⟨rfl, ?_⟩
    exact (((HB0.out.1.trans (hb1.mono (Nat.le_succ _))).setCell (Nat.le_refl _) _).setCell (Nat.le_refl _) _).setCell (Nat.le_refl _) _

/-- What Remove does. -/
def RemP (B : Nat) (g : Nat) (v : Value) (L : List Pin) (cap : Int) (t : List UInt8) (w : World) (e : Ending) (w' : World) : Prop :=
  ∃ v', e = .returned (.bool (Tab.remove L t).2) ∧ TabW B w' g v' (Tab.remove L t).1 cap ∧ Upd (Foot g v) w (Foot g v') w'

set_option maxRecDepth 100000 in
set_option maxHeartbeats 2000000 in
theorem tb_remove {B : Nat} {w : World} {g : Nat} {v : Value} {L : List Pin} {cap : Int} (h : TabW B w g v L cap) (t : List UInt8) (hn : L.length ≤ 1000000) (hA : Tab.Asc L) (hL : ∀ p ∈ L, p.h.length ≤ 1000000) (ht : t.length ≤ 1000000) :
    Calls Tryz.prog 10 #[.pointer (some ⟨g, 0, none⟩), .string (str t)] w (RemP B g v L cap t w) := by
  have HF := Lib.hid (tb_find h t hn hA hL ht)
  have HT := Lib.hid h
  have hhl : Tab.hit L t = true → Tab.lo L t < L.length := fun e => Tab.lo_lt hA e
  have HR := Lib.hid (show Tab.remove L t = if Tab.hit L t then (L.take (Tab.lo L t) ++ L.drop (Tab.lo L t + 1), true) else (L, false) from rfl)
  have HGO := Lib.hid (show ∀ L' b e w' v', Tab.remove L t = (L', b) → e = .returned (.bool b) → TabW B w' g v' L' cap → Upd (Foot g v) w (Foot g v') w' → RemP B g v L cap t w e w' from fun L' b e w' v' h1 h2 h3 h4 => by unfold RemP; rw [h1]; exact ⟨v', h2, h3, h4⟩)
  obtain ⟨lo, hlo⟩ : ∃ b, Tab.lo L t = b := ⟨_, rfl⟩
  obtain ⟨hit, hhit⟩ : ∃ b, Tab.hit L t = b := ⟨_, rfl⟩
  rw [hlo, hhit] at HF HR hhl
  obtain ⟨st, hst⟩ : ∃ s, str t = s := ⟨_, rfl⟩
  rw [hst] at HF ⊢
  clear hst hlo hhit hA hL h
  cases hit with
  | false =>
    have HRR := Lib.hid (HR.out.trans (if_neg (by decide)))
    clear hhl
    go_enter Tryz.func10, Tryz.ntmps10
    go_wp2_with fail
    refine HF.out.mono ?_; rintro e w1 ⟨rfl, hb1⟩
    go_wp2_with fail
    go_ret
    exact HGO.out _ _ _ _ _ HRR.out rfl (HT.out.ext hb1) (Upd.of_ext hb1)
  | true =>
    have HRR := Lib.hid (HR.out.trans (if_pos rfl))
    have hlol := hhl rfl
    clear hhl
    obtain ⟨g', c', rfl⟩ : ∃ g' c', v = .slice (some ⟨g', 0, none⟩) L.length c' := by
      rcases HT.out.2.1.2 with ⟨hv, hn0⟩ | ⟨g', cap', cur, hv, -⟩
      · omega
      · exact ⟨g', cap', hv⟩
    have hgg : g' ≠ g := fun e => HT.out.2.2.2 (by rw [← e]; rfl)
    obtain ⟨m, hm⟩ : ∃ m, L.length = m + 1 := ⟨L.length - 1, by omega⟩
    have HM := Lib.hid hm
    rw [hm] at HT HGO hlol hn ⊢
    have l0 : (0 : Int) ≤ (lo : Int) := by omega
    have l1 : (lo : Int) < 1000001 := by omega
    clear hm
    go_enter Tryz.func10, Tryz.ntmps10
    go_wp2_with fail
    refine HF.out.mono ?_; rintro e w1 ⟨rfl, hb1⟩
    have hT1 := HT.out.ext hb1
    obtain ⟨c0, -⟩ := hT1.cells
    have hltg := hT1.lt
    have HD := Lib.hid (sl_delete B g' c' lo m L w1 hT1.2.1 HM.out hlol (by omega))
    have HT1 := Lib.hid hT1
    clear hT1
    go_wp2_with fail
    refine HD.out.mono ?_; rintro e w2 ⟨rfl, ho2, hg2⟩
    have hk2 : w2.heap[g]? = _ := (hg2.block g HT1.out.lt (fun e => hgg (by cases e; rfl))).trans HT1.out.1
    have c2 : w2.cell? ⟨g, 0, none⟩ = some (.slice (some ⟨g', 0, none⟩) (m + 1) c') := (cell_of_row _ _ _ _ _ _ hk2).trans rfl
    have f2 : w2.frozen? ⟨g, 0, none⟩ = false := frozen_of_row _ _ _ _ _ hk2
    have hlt2 := heap_lt hk2
    have hne2 : (Value.slice (some ⟨g', 0, none⟩) m c').ownBlock ≠ some g := fun e => hgg (by simpa [Value.ownBlock] using e)
    have HFT := Lib.hid (show TabW B (w2.setCell ⟨g, 0, none⟩ (.slice (some ⟨g', 0, none⟩) m c')) g (.slice (some ⟨g', 0, none⟩) m c') (L.take lo ++ L.drop (lo + 1)) cap from
      ⟨heap_setCell_same w2 g 0 _ _ _ hk2, ho2.stay (fun k hk => heap_setCell_other _ _ _ _ (fun e => hne2 (by rw [hk]; exact congrArg some e))), HT1.out.2.2.1, hne2⟩)
    have HU := Lib.hid ((((Upd.of_ext (F := Foot g (.slice (some ⟨g', 0, none⟩) (m + 1) c')) hb1).grown (fun k hk => .inl (.inr (by rw [← hk]; rfl))) hg2).setCell (g := g) (.inl (.inl rfl)) 0 (.slice (some ⟨g', 0, none⟩) m c')).grow (F2 := Foot g (.slice (some ⟨g', 0, none⟩) m c')) (fun k hk => by
      rcases hk with rfl | hk
      · exact .inl (.inl rfl)
      · exact .inl (.inr hk)))
    clear hk2 ho2
    go_wp2_with fail
    go_ret
    exact HGO.out _ _ _ _ _ HRR.out rfl HFT.out HU.out

/-! ### A nil table -/
theorem nt_len (w : World) : Calls Tryz.prog 12 #[.pointer none] w fun e w' => e = .returned (.int .i64 0) ∧ w = w' := by
  go_enter Tryz.func12, Tryz.ntmps12
  go_wp2_with fail
  go_ret
  exact ⟨rfl, rfl⟩
theorem nt_cap (w : World) : Calls Tryz.prog 13 #[.pointer none] w fun e w' => e = .returned (.int .i64 0) ∧ w = w' := by
  go_enter Tryz.func13, Tryz.ntmps13
  go_wp2_with fail
  go_ret
  exact ⟨rfl, rfl⟩
theorem nt_pins (w : World) : Calls Tryz.prog 14 #[.pointer none] w fun e w' => e = .returned (.slice none 0 0) ∧ w = w' := by
  go_enter Tryz.func14, Tryz.ntmps14
  go_wp2_with fail
  go_ret
  exact ⟨rfl, rfl⟩
theorem nt_find (st : ByteArray) (w : World) : Calls Tryz.prog 24 #[.pointer none, .string st] w fun e w' => e = .returned (.tuple #[.int .i64 0, .bool false]) ∧ w = w' := by
  go_enter Tryz.func24, Tryz.ntmps24
  go_wp2_with fail
  go_ret2
  exact ⟨rfl, rfl⟩
theorem nt_remove (st : ByteArray) (w : World) : Calls Tryz.prog 10 #[.pointer none, .string st] w fun e w' => e = .returned (.bool false) ∧ w = w' := by
  go_enter Tryz.func10, Tryz.ntmps10
  go_wp2_with fail
  refine (nt_find _ _).mono ?_; rintro e w1 ⟨rfl, rfl⟩
  go_wp2_with fail
  go_ret
  exact ⟨rfl, rfl⟩
theorem nt_expire (now : Int) (w : World) : Calls Tryz.prog 11 #[.pointer none, .int .i64 now] w fun e w' => e = .returned (.int .i64 0) ∧ Below w.heap.size w w' := by
  have hb := (Below.refl w.heap.size w).alloc (Nat.le_refl _) (.cells #[.int .i64 now] 3)
  go_enter Tryz.func11, Tryz.ntmps11
  go_wp2_with fail
  refine (nt_len _).mono ?_; rintro e w1 ⟨rfl, rfl⟩
  go_wp2_with fail
  refine (nt_len _).mono ?_; rintro e w1 ⟨rfl, rfl⟩
  go_wp2_with fail
  go_ret
  exact ⟨rfl, hb⟩
theorem nt_get (st : ByteArray) (w : World) : Calls Tryz.prog 6 #[.pointer none, .string st] w fun e w' => e = .returned (.tuple #[.agg #[.string ⟨#[]⟩, .bool false, .int .i64 0], .bool false]) ∧ Below w.heap.size w w' := by
  have hb := (Below.refl w.heap.size w).alloc (Nat.le_refl _) (.cells #[.string ⟨#[]⟩, .bool false, .int .i64 0] 23)
  have HBK := Lib.hid hb
  clear hb
  go_enter Tryz.func6, Tryz.ntmps6
  go_wp2_with fail
  refine (nt_find _ _).mono ?_; rintro e w1 ⟨rfl, rfl⟩
  go_wp2_with fail
  refine bodyPost_ret (v := .tuple #[.agg #[.string ⟨#[]⟩, .bool false, .int .i64 0], .bool false]) (by simp [results, Tryz.results6, go_sem]) rfl ⟨rfl, ?_⟩
  exact HBK.out


end Go.Proofs.YtcmeajaakdaeeaaGreatDoor
