/-
  Texts in one: Put, Exp, DelF, DelF2, Expire, TabAw, TabLoad, TabL1.
-/
import Derived.Test.YtcmeajaakdaeeaaDoorRun42
import Derived.Test.YtcmeajaakdaeeaaDoorRun43
import Derived.Test.YtcmeajaakdaeeaaDoorRun39
/-
  The table's Put.
-/
namespace Go.Proofs.YtcmeajaakdaeeaaDoor
open Go.RowKit

/-- The blocks of a table. -/
def Foot (g : Nat) (v : Value) (k : Nat) : Prop := k = g ∨ v.ownBlock = some k
theorem Foot.own {B : Nat} {w : World} {g : Nat} {v : Value} {L : List Pin} {cap : Int} (h : TabW B w g v L cap) : ∀ k, Foot g v k → B ≤ k ∧ k < w.heap.size := by
  rintro k (rfl | hk)
  · exact ⟨h.2.2.1, h.lt⟩
  · exact h.2.1.lt k hk
theorem TabW.upd {B : Nat} {F F' : Nat → Prop} {w w' : World} {g : Nat} {v : Value} {L : List Pin} {cap : Int} (h : TabW B w g v L cap) (k : Upd F w F' w') (hF : ∀ k, Foot g v k → ¬ F k) : TabW B w' g v L cap :=
  ⟨(k.block g h.lt (hF g (.inl rfl))).trans h.1, h.2.1.stay (fun j hj => k.block j (h.2.1.lt j hj).2 (hF j (.inr hj))), h.2.2⟩

theorem flat_take (L : List Pin) {i : Nat} (hi : i ≤ L.length) : (L.take i).flatMap pl = (L.flatMap pl).take (i * 3) := by
  conv => rhs; rw [← List.take_append_drop i L, List.flatMap_append]
  rw [List.take_left' (by rw [flat_pl_length, List.length_take]; omega)]
theorem flat_drop (L : List Pin) {i : Nat} (hi : i ≤ L.length) : (L.drop i).flatMap pl = (L.flatMap pl).drop (i * 3) := by
  conv => rhs; rw [← List.take_append_drop i L, List.flatMap_append]
  rw [List.drop_left' (by rw [flat_pl_length, List.length_take]; omega)]
/-- One element of an own slice is set. -/
theorem OwnN.set3 {base : Nat} {w : World} {g n c : Nat} {L : List Pin} (h : OwnN base w (.slice (some ⟨g, 0, none⟩) n c) L) {i : Nat} (hi : i < L.length) (p : Pin) :
    OwnN base (((w.setCell ⟨g, i * 3, none⟩ (.string (str p.h))).setCell ⟨g, i * 3 + 1, none⟩ (.bool p.s)).setCell ⟨g, i * 3 + 2, none⟩ (.int .i64 p.x)) (.slice (some ⟨g, 0, none⟩) n c) (L.set i p) := by
  refine ⟨by rw [flat_pl_length], ?_⟩
  rcases h.2 with ⟨hv, hn⟩ | ⟨g', cap, cur, hv, hg, hc, hnc, hcm, hcs, htake⟩
  · cases hv
  · cases hv
    have h1 := heap_setCells_row g 23 (pl p) cur (i * 3) w hc
    refine .inr ⟨g, c, _, by rw [List.length_set], hg, h1, by rw [List.length_set]; exact hnc, hcm, by rw [splice_size]; exact hcs, ?_⟩
    have hpl : (pl p).length = 3 := rfl
    have hset : L.set i p = L.take i ++ p :: L.drop (i + 1) := by rw [List.set_eq_take_append_cons_drop, if_pos hi]
    rw [List.length_set, hset, splice_toList _ _ _ (by rw [hpl]; omega), List.flatMap_append, List.flatMap_cons, hpl]
    have e1 : cur.toList.take (i * 3) = (L.take i).flatMap pl := by
      rw [flat_take L (by omega), ← htake, List.take_take, show min (i * 3) (L.length * 3) = i * 3 by omega]
    have e2 : (cur.toList.drop (i * 3 + 3)).take (L.length * 3 - (i * 3 + 3)) = (L.drop (i + 1)).flatMap pl := by
      rw [flat_drop L (by omega), ← htake, List.drop_take, show (i + 1) * 3 = i * 3 + 3 by omega]
    have hl : ((L.take i).flatMap pl ++ pl p).length = i * 3 + 3 := by rw [List.length_append, flat_pl_length, List.length_take, hpl]; omega
    rw [e1, List.take_append, List.take_of_length_le (by omega), hl, e2, List.append_assoc]

/-- What Put does. -/
def PutP (B : Nat) (g : Nat) (v : Value) (L : List Pin) (cap : Int) (p : Pin) (w : World) (e : Ending) (w' : World) : Prop :=
  ∃ v', e = .returned (.int .i64 (Tab.put L cap p).2) ∧ TabW B w' g v' (Tab.put L cap p).1 cap ∧ Upd (Foot g v) w (Foot g v') w'
theorem PutP.of {B : Nat} {g : Nat} {v : Value} {L L' : List Pin} {cap : Int} {p : Pin} {z : Int} (h : Tab.put L cap p = (L', z)) {w : World} {e : Ending} {w' : World} {v' : Value} (he : e = .returned (.int .i64 z)) (ht : TabW B w' g v' L' cap) (hu : Upd (Foot g v) w (Foot g v') w') : PutP B g v L cap p w e w' := by
  unfold PutP; rw [h]; exact ⟨v', he, ht, hu⟩

set_option maxHeartbeats 8000000 in
set_option maxRecDepth 100000 in
theorem tb_put {B : Nat} {w : World} {g : Nat} {v : Value} {L : List Pin} {cap : Int} (h : TabW B w g v L cap) (p : Pin) (hn : L.length ≤ 100000) (hA : Tab.Asc L) (hL : ∀ q ∈ L, q.h.length ≤ 1000000) (hp : p.h.length ≤ 1000000) :
    Calls Tryd.prog 29 #[.pointer (some ⟨g, 0, none⟩), pv p] w (PutP B g v L cap p w) := by
  have HV := Lib.hid (fun W => pi_valid p hp W)
  have HT := Lib.hid h
  have hb0 := (Below.refl w.heap.size w).alloc (Nat.le_refl _) (.cells (pc p) 23)
  have HF := Lib.hid (fun W (hW : TabW B W g v L cap) => tb_find hW p.h (by omega) hA hL hp)
  have HBX := Lib.hid (PBox.new w (str p.h) p.s p.x)
  have hlt := h.lt
  have HPT := Lib.hid (show Tab.put L cap p = if Pin.valid p = false then (L, 1) else if Tab.hit L p.h then (L.set (Tab.lo L p.h) p, 0) else if (L.length : Int) = cap then (L, 11) else (L.take (Tab.lo L p.h) ++ p :: L.drop (Tab.lo L p.h), 0) from rfl)
  have HLO := Lib.hid (Tab.lo_le L p.h)
  unfold pc at hb0
  unfold pv at HV ⊢
  have HB0 := Lib.hid hb0
  have hz0 : (w.alloc (.cells #[.string (str p.h), .bool p.s, .int .i64 p.x] 23)).heap.size = w.heap.size + 1 := by simp
  have HZ0 := Lib.hid hz0
  clear hb0 hz0 h hA hL
  obtain ⟨ok, hok⟩ : ∃ b, Pin.valid p = b := ⟨_, rfl⟩
  obtain ⟨lo, hlo⟩ : ∃ b, Tab.lo L p.h = b := ⟨_, rfl⟩
  obtain ⟨hit, hhit⟩ : ∃ b, Tab.hit L p.h = b := ⟨_, rfl⟩
  rw [hok] at HV HPT
  rw [hlo, hhit] at HF HPT
  rw [hlo] at HLO
  clear hok
  have HHI := Lib.hid hhit
  have HLQ := Lib.hid hlo
  clear hlo hhit
  obtain ⟨sh, hsh⟩ : ∃ s, str p.h = s := ⟨_, rfl⟩
  rw [hsh] at HV HF HBX HB0 HZ0 ⊢
  have HSH := Lib.hid hsh
  clear hsh
  cases ok with
  | false =>
    have HR := Lib.hid (HPT.out.trans (if_pos rfl))
    go_enter Tryd.func29, Tryd.ntmps29
    go_wp2_with fail
    refine (HV.out _).mono ?_; rintro e w1 ⟨rfl, hB1⟩
    rw [HZ0.out] at hB1
    have hB := HB0.out.trans (hB1.mono (Nat.le_succ _))
    go_wp2_with fail
    go_ret
    exact PutP.of HR.out rfl (HT.out.ext hB) (Upd.of_ext hB)
  | true =>
    have HPT := Lib.hid (HPT.out.trans (if_neg (by decide)))
    cases hit with
    | true =>
      have HR := Lib.hid (HPT.out.trans (if_pos rfl))
      have hlol : lo < L.length := by
        have h1 := HHI.out
        unfold Tab.hit at h1
        rw [HLQ.out] at h1
        cases h2 : L[lo]? with
        | none => rw [h2] at h1; cases h1
        | some q => exact (List.getElem?_eq_some_iff.1 h2).1
      obtain ⟨g', c', rfl⟩ : ∃ g' c', v = .slice (some ⟨g', 0, none⟩) L.length c' := by
        rcases HT.out.2.1.2 with ⟨hv, hn0⟩ | ⟨g', cap', cur, hv, -⟩
        · omega
        · exact ⟨g', cap', hv⟩
      have hgg : g' ≠ g := fun e => HT.out.2.2.2 (by rw [← e]; rfl)
      obtain ⟨n, hn2⟩ : ∃ n, L.length = n := ⟨_, rfl⟩
      rw [hn2] at hlol HT HF
      have HN := Lib.hid hn2
      have l0 : (0 : Int) ≤ (lo : Int) := by omega
      have l1 : (lo : Int) < (n : Int) := by omega
      rw [hn2]
      clear hn2
      go_enter Tryd.func29, Tryd.ntmps29
      go_wp2_with fail
      refine (HV.out _).mono ?_; rintro e w1 ⟨rfl, hB1⟩
      rw [HZ0.out] at hB1
      have hB := HB0.out.trans (hB1.mono (Nat.le_succ _))
      have hP1 : PBox w1 w.heap.size sh p.s p.x := (hB1.block _ (Nat.lt_succ_self _)).trans HBX.out
      obtain ⟨q0, q1, q2⟩ := hP1.cells
      have hlt1 := heap_lt hP1
      go_wp2_with fail
      refine (HF.out _ (HT.out.ext hB)).mono ?_; rintro e w2 ⟨rfl, hB2⟩
      have hBB := hB.trans (hB2.mono hB.size)
      have hP2 := hP1.ext hB2
      have hT2 := HT.out.ext hBB
      clear q0 q1 q2
      obtain ⟨c0, -⟩ := hT2.cells
      obtain ⟨q0, q1, q2⟩ := hP2.cells
      have hlt2 := heap_lt hP2
      have hltg := hT2.lt
      have hrow : ∃ cur, w2.heap[g']? = some (.cells cur 23 (0, 0)) ∧ cur.size = c' * 3 ∧ n ≤ c' := by
        rcases hT2.2.1.2 with ⟨hv, -⟩ | ⟨g2, cap', cur, hv, -, hc, hnc, -, hcs, -⟩
        · cases hv
        · cases hv; exact ⟨cur, hc, hcs, by have := HN.out; omega⟩
      obtain ⟨cur, hcur, hcs, hnc⟩ := hrow
      have hcl : ∀ j, j < 3 → ∃ u, w2.cell? ⟨g', lo * 3 + j, none⟩ = some u := fun j hj => by
        rw [cell_of_row _ _ _ _ _ _ hcur, Array.getElem?_eq_getElem (by omega)]; exact ⟨_, rfl⟩
      obtain ⟨x0, e0⟩ := hcl 0 (by omega)
      obtain ⟨x1, e1⟩ := hcl 1 (by omega)
      obtain ⟨x2, e2⟩ := hcl 2 (by omega)
      rw [Nat.add_zero] at e0
      have fz : ∀ k, w2.frozen? ⟨g', k, none⟩ = false := fun k => frozen_of_row _ _ _ _ _ hcur
      have hltg' := heap_lt hcur
      have HT2 := Lib.hid hT2
      have HNC := Lib.hid hnc
      clear hcur hcs hcl hnc hP1 hP2 hT2
      go_wp2_with fail
      go_region
      all_goals
        have hset := HT2.out.2.1.set3 (i := lo) (by rw [HN.out]; exact hlol) p
        rw [HSH.out] at hset
        have hno : ∀ (W : World) (j : Nat) (u : Value), (W.setCell ⟨g', j, none⟩ u).heap[g]? = W.heap[g]? := fun W j u => heap_setCell_other _ _ _ _ (fun e => hgg e.symm)
        have HFT := Lib.hid (show TabW B (((w2.setCell ⟨g', lo * 3, none⟩ (.string sh)).setCell ⟨g', lo * 3 + 1, none⟩ (.bool p.s)).setCell ⟨g', lo * 3 + 2, none⟩ (.int .i64 p.x)).drew g (.slice (some ⟨g', 0, none⟩) n c') (L.set lo p) cap from
          ⟨(hno _ _ _).trans ((hno _ _ _).trans ((hno _ _ _).trans HT2.out.1)), hset, HT2.out.2.2.1, HT2.out.2.2.2⟩)
        have HU := Lib.hid (((((Upd.of_ext (F := Foot g (.slice (some ⟨g', 0, none⟩) n c')) hBB).setCell (g := g') (.inl (.inr rfl)) (lo * 3) (.string sh)).setCell (g := g') (.inl (.inr rfl)) (lo * 3 + 1) (.bool p.s)).setCell (g := g') (.inl (.inr rfl)) (lo * 3 + 2) (.int .i64 p.x)).drew)
        go_wp2
        go_ret
        exact PutP.of HR.out rfl HFT.out HU.out
    | false =>
      have HPT := Lib.hid (HPT.out.trans (if_neg (by decide)))
      go_enter Tryd.func29, Tryd.ntmps29
      go_wp2_with fail
      refine (HV.out _).mono ?_; rintro e w1 ⟨rfl, hB1⟩
      rw [HZ0.out] at hB1
      have hB := HB0.out.trans (hB1.mono (Nat.le_succ _))
      have hP1 : PBox w1 w.heap.size sh p.s p.x := (hB1.block _ (Nat.lt_succ_self _)).trans HBX.out
      obtain ⟨q0, q1, q2⟩ := hP1.cells
      have hlt1 := heap_lt hP1
      go_wp2_with fail
      refine (HF.out _ (HT.out.ext hB)).mono ?_; rintro e w2 ⟨rfl, hB2⟩
      have hBB := hB.trans (hB2.mono hB.size)
      have hP2 := hP1.ext hB2
      have hT2 := HT.out.ext hBB
      clear q0 q1 q2
      go_wp2_with fail
      refine (tb_len hT2).mono ?_; rintro e w3 ⟨rfl, rfl⟩
      go_wp2_with fail
      refine (tb_cap hT2).mono ?_; rintro e w4 ⟨rfl, rfl⟩
      by_cases hfull : (L.length : Int) = cap
      · have HR := Lib.hid (HPT.out.trans (if_pos hfull))
        subst hfull
        go_wp2_with fail
        go_ret
        exact PutP.of HR.out rfl hT2 (Upd.of_ext hBB)
      · have HR := Lib.hid (HPT.out.trans (if_neg hfull))
        have tf : ((L.length : Int) == cap) = false := by simpa using hfull
        clear hfull
        obtain ⟨c0, -⟩ := hT2.cells
        obtain ⟨q0, q1, q2⟩ := hP2.cells
        have hlt2 := heap_lt hP2
        have hltg := hT2.lt
        have hex : Below w4.heap.size w4 (w4.drew.alloc (.cells #[.string sh, .bool p.s, .int .i64 p.x] 23)) := (Below.drew (Below.refl _ _)).alloc (Nat.le_refl _) _
        have hT3 := hT2.ext hex
        have hne3 : v.ownBlock ≠ some w4.heap.size := fun e => by have := (hT2.2.1.lt _ e).2; omega
        have hI := ins_pins B v L lo p w4.heap.size (w4.drew.alloc (.cells #[.string sh, .bool p.s, .int .i64 p.x] 23)) hT3.2.1 HLO.out (by omega) (Nat.le_trans hT3.2.2.1 (Nat.le_of_lt hT3.lt)) (by rw [HSH.out]; exact heap_alloc_eq w4.drew _ _ rfl) hne3
        have HI := Lib.hid hI
        have HT3 := Lib.hid hT3
        have HT2 := Lib.hid hT2
        clear hI hT3 hex hP1 hP2 hT2
        go_wp2_with fail
        go_region_law (go_simp; go_at_call 54; refine HI.out.mono ?_; rintro e w5 ⟨v5, rfl, ho5, hg5, hn5k⟩; obtain ⟨a5, k5, hv5, -, -⟩ := ho5.sl; obtain ⟨n5, hn5⟩ : ∃ n, (L.take lo ++ p :: L.drop lo).length = n := ⟨_, rfl⟩; rw [hn5] at hv5; subst hv5; clear hn5; have hk5 : w5.heap[g]? = _ := (hg5.block g HT3.out.lt (fun e => HT3.out.2.2.2 e.symm)).trans HT3.out.1; have c5 : w5.cell? ⟨g, 0, none⟩ = some v := (cell_of_row _ _ _ _ _ _ hk5).trans rfl; have f5 : w5.frozen? ⟨g, 0, none⟩ = false := frozen_of_row _ _ _ _ _ hk5)
        all_goals
          have hT3 := HT3.out
          have hne5 : (Value.slice a5 n5 k5).ownBlock ≠ some g := fun e => by
            rcases hn5k g e with h9 | h9
            · exact hT3.2.2.2 h9
            · have := hT3.lt; omega
          have HFT := Lib.hid (show TabW B (w5.setCell ⟨g, 0, none⟩ (.slice a5 n5 k5)) g (.slice a5 n5 k5) (L.take lo ++ p :: L.drop lo) cap from
            ⟨heap_setCell_same w5 g 0 _ _ _ hk5, ho5.stay (fun k hk => heap_setCell_other _ _ _ _ (fun e => hne5 (by rw [hk]; exact congrArg some e))), hT3.2.2.1, hne5⟩)
          have U1 : Upd (Foot g v) w (Foot g v) (w4.drew.alloc (.cells #[.string sh, .bool p.s, .int .i64 p.x] 23)) := ((Upd.of_ext hBB).drew).alloc _
          have HU := Lib.hid (((U1.grown (fun k hk => .inl (.inr hk)) hg5).setCell (g := g) (.inl (.inl rfl)) 0 (.slice a5 n5 k5)).grow (F2 := Foot g (.slice a5 n5 k5)) (fun k hk => by
            rcases hk with rfl | hk
            · exact .inl (.inl rfl)
            · rcases hn5k k hk with h9 | h9
              · exact .inl (.inr h9)
              · exact .inr (Nat.le_trans U1.size h9)))
          go_wp2
          go_ret
          exact PutP.of HR.out rfl HFT.out HU.out

end Go.Proofs.YtcmeajaakdaeeaaDoor

/-
  The table's Expire: Expire$1, slices.IndexFunc, slices.DeleteFunc.
-/
namespace Go.Proofs.YtcmeajaakdaeeaaDoor
open Go.RowKit

theorem boxedN_ext {W W' : World} {B : Nat} {t : TypeId} {v : Value} (h : Boxed W B t v) (e : Below W.heap.size W W') : Boxed W' B t v := (e.block _ (heap_lt h)).trans h

theorem se_expired (x now : Int) (w : World) : Calls Tryd.prog 70 #[.int .i64 x, .int .i64 now] w fun e w' => e = .returned (.bool (decide (x ≤ now))) ∧ w' = w := by
  go_enter Tryd.func70, Tryd.ntmps70
  go_wp2_with fail
  go_ret
  exact ⟨rfl, rfl⟩

set_option maxRecDepth 100000 in
theorem tb_exp1 (sh : ByteArray) (ps : Bool) (px now : Int) (nb : Nat) (w : World) (hb : Boxed w nb 3 (.int .i64 now)) :
    Calls Tryd.prog 69 #[.agg #[.string sh, .bool ps, .int .i64 px], .pointer (some ⟨nb, 0, none⟩)] w fun e w' => e = .returned (.bool (decide (px ≤ now))) ∧ Below w.heap.size w w' := by
  have hb0 := (Below.refl w.heap.size w).alloc (Nat.le_refl _) (.cells #[.string sh, .bool ps, .int .i64 px] 23)
  have HB0 := Lib.hid hb0
  have hb2 : Boxed (w.alloc (.cells #[.string sh, .bool ps, .int .i64 px] 23)) nb 3 (.int .i64 now) := boxedN_ext hb hb0
  have d1 := hb2.cell
  have hlt := heap_lt hb2
  have HE := Lib.hid (fun W => se_expired px now W)
  have hr : ∃ r, decide (px ≤ now) = r := ⟨_, rfl⟩
  obtain ⟨r, hr⟩ := hr
  rw [hr] at HE ⊢
  clear hb0 hr
  go_enter Tryd.func69, Tryd.ntmps69
  go_wp2_with fail
  refine (HE.out _).mono ?_; rintro e w1 ⟨rfl, rfl⟩
  go_wp2_with fail
  go_ret
  exact ⟨rfl, HB0.out⟩

/-- How many pins at the head are live. -/
def lvn (L : List Pin) (now : Int) : Nat := (L.takeWhile fun q => decide (now < q.x)).length
theorem lvn_le (L : List Pin) (now : Int) : lvn L now ≤ L.length := (List.takeWhile_sublist _).length_le
theorem lvn_at : ∀ (L : List Pin) (now : Int) (i : Nat), (∀ q ∈ L.take i, now < q.x) → i ≤ L.length → (∀ q, L[i]? = some q → ¬ now < q.x) → lvn L now = i
  | [], now, i, _, h2, _ => by simp at h2; subst h2; rfl
  | p :: L, now, i, h1, h2, h3 => by
    cases i with
    | zero =>
      have := h3 p rfl
      unfold lvn; rw [List.takeWhile_cons_of_neg (by simpa using this)]; rfl
    | succ i =>
      have hp : now < p.x := h1 p (by simp)
      have ih := lvn_at L now i (fun q hq => h1 q (by simp [hq])) (by simpa using h2) (fun q hq => h3 q (by simpa using hq))
      have e : lvn (p :: L) now = lvn L now + 1 := by unfold lvn; rw [List.takeWhile_cons_of_pos (by simpa using hp)]; rfl
      rw [e, ih]

set_option maxRecDepth 100000 in
theorem sl_indexN (a : Option Addr) (n c : Nat) (L : List Pin) (now : Int) (nb : Nat) (w : World) (h : SlN w a n c L) (hn : n ≤ 1000000) (hb : Boxed w nb 3 (.int .i64 now)) :
    Calls Tryd.prog 85 #[.slice a n c, .func (.func 69) #[] #[.pointer (some ⟨nb, 0, none⟩)]] w
      fun e w' => e = .returned (.int .i64 (if lvn L now = n then -1 else (lvn L now : Nat))) ∧ Below w.heap.size w w' := by
  have HLN := Lib.hid h.len
  have HB := Lib.hid hb
  have HAT := Lib.hid (fun i => lvn_at L now i)
  obtain ⟨k, hk⟩ : ∃ k, lvn L now = k := ⟨_, rfl⟩
  rw [hk] at HAT ⊢
  clear hk hb
  obtain ⟨r, hr⟩ : ∃ r : Int, (if k = n then -1 else (k : Int)) = r := ⟨_, rfl⟩
  rw [hr]
  have HR := Lib.hid hr
  clear hr
  go_enter Tryd.func85, Tryd.ntmps85
  go_wp2_with fail
  go_loopw [8] (fun i wr => ∃ (i' : Nat), i = .int .i64 (i' : Nat) ∧ i' ≤ n ∧ Hid (∀ q ∈ L.take i', now < q.x) ∧ Below w.heap.size w wr) (fun i _ => n - (intOf i).toNat)
  case atStart => exact ⟨0, rfl, Nat.zero_le _, Lib.hid (by simp), Below.refl _ _⟩
  case round =>
    obtain ⟨i, rfl, h1, HC, hB⟩ := hrel
    have i0 : (0 : Int) ≤ (i : Int) := by omega
    by_cases hij : i < n
    · have i1 : (i : Int) < (n : Int) := by omega
      obtain ⟨bb, o, rfl, hbb, hkl, c1, c2, c3⟩ := (h.ext hB).at hij
      have HGT := Lib.hid (List.getElem?_eq_getElem hkl)
      rw [List.getElem?_eq_getElem hkl, Option.getD_some] at c1 c2 c3
      have HTK := Lib.hid (List.take_succ_eq_append_getElem hkl)
      generalize L[i] = p at *
      have HX := Lib.hid (tb_exp1 (str p.h) p.s p.x now nb wr (boxedN_ext HB.out hB))
      have HP := Lib.hid (show p.x = p.x from rfl)
      obtain ⟨sh, hsh⟩ : ∃ s, str p.h = s := ⟨_, rfl⟩
      rw [hsh] at c1 HX
      by_cases hlv : p.x ≤ now
      · rw [decide_eq_true hlv] at HX
        have hki : k = i := HAT.out i HC.out (by rw [HLN.out]; omega) (fun q hq => by rw [HGT.out] at hq; cases hq; omega)
        have hrr : r = (i : Int) := by rw [← HR.out, hki, if_neg (by omega)]
        subst hrr
        clear hkl hsh hlv hki
        go_wp2_with fail
        refine HX.out.mono ?_; rintro e w1 ⟨rfl, hb1⟩
        go_wp2_with fail
        go_ret
        exact ⟨rfl, hB.trans (hb1.mono hB.size)⟩
      · rw [decide_eq_false hlv] at HX
        have HNX := Lib.hid (show ∀ q ∈ L.take (i + 1), now < q.x by
          rw [HTK.out]; intro q hq
          rcases List.mem_append.1 hq with hq | hq
          · exact HC.out q hq
          · simp at hq; subst hq; omega)
        clear hkl hsh hlv
        go_wp2_with fail
        refine HX.out.mono ?_; rintro e w1 ⟨rfl, hb1⟩
        go_wp2_with fail
        go_roundw
        case rel => exact ⟨i + 1, by go_num, by omega, HNX, hB.trans (hb1.mono hB.size)⟩
        case measure => simp [intOf]; omega
    · obtain rfl : i = n := by omega
      have hki : k = i := HAT.out i HC.out (by rw [HLN.out]; exact Nat.le_refl _) (fun q hq => by rw [List.getElem?_eq_none (by rw [HLN.out]; exact Nat.le_refl _)] at hq; cases hq)
      have hrr : r = -1 := by rw [← HR.out, if_pos hki]
      subst hrr
      clear hki
      go_wp2_with fail
      go_ret
      exact ⟨rfl, hB⟩

end Go.Proofs.YtcmeajaakdaeeaaDoor

/-
  slices.DeleteFunc at pins (Expire).
-/
namespace Go.Proofs.YtcmeajaakdaeeaaDoor
open Go.RowKit

/-- clear(s), elements of any size. -/
theorem run_clear_k {P : Program} (w : World) (t e ty : TypeId) (z : Value) (ht : P.underlying t = some (.slice e)) (hv : ∀ w, (zeroValue e).run P w = .ok z w) (b o n c : Nat) (hn : 0 < n) (zs : List Value) (hzs : (Builtin.zeroCells z.cells n).toList = zs)
    (hc : ∀ j, j < zs.length → (w.cell? ⟨b, o + j, none⟩).isSome = true) (hf : ∀ j, j < zs.length → w.frozen? ⟨b, o + j, none⟩ = false) (h1 : ∀ v ∈ zs, v.oneCell' = true) :
    (Builtin.clear_ #[t] ty #[.slice (some ⟨b, o, none⟩) n c]).run P w = .ok (.tuple #[]) (w.setCells b o zs) := by
  have hst := run_storeCells_cells (P := P) b o zs 0 w (by simpa using hc) (by simpa using hf) h1
  simp only [Nat.add_zero] at hst
  obtain ⟨m, rfl⟩ : ∃ m, n = m + 1 := ⟨n - 1, by omega⟩
  simp [Builtin.clear_, run_underlying ht, hv, hzs, hst]

def lvp (now : Int) (q : Pin) : Bool := decide (now < q.x)
theorem flt0 : ∀ (L : List Pin) (now : Int), lvn L now < L.length → (L.take (lvn L now + 1)).filter (lvp now) = L.take (lvn L now)
  | [], now, h => by simp at h
  | p :: L, now, h => by
    by_cases hp : now < p.x
    · have e : lvn (p :: L) now = lvn L now + 1 := by unfold lvn; rw [List.takeWhile_cons_of_pos (by simpa using hp)]; rfl
      rw [e] at h ⊢
      have ih := flt0 L now (by simpa using h)
      rw [List.take_succ_cons, List.filter_cons_of_pos (by simpa [lvp] using hp), ih, List.take_succ_cons]
    · have e : lvn (p :: L) now = 0 := by unfold lvn; rw [List.takeWhile_cons_of_neg (by simpa using hp)]; rfl
      rw [e]
      simp [lvp, hp]
theorem flt_all : ∀ (L : List Pin) (now : Int), lvn L now = L.length → L.filter (lvp now) = L
  | [], _, _ => rfl
  | p :: L, now, h => by
    by_cases hp : now < p.x
    · have e : lvn (p :: L) now = lvn L now + 1 := by unfold lvn; rw [List.takeWhile_cons_of_pos (by simpa using hp)]; rfl
      rw [e] at h
      rw [List.filter_cons_of_pos (by simpa [lvp] using hp), flt_all L now (by simpa using h)]
    · have e : lvn (p :: L) now = 0 := by unfold lvn; rw [List.takeWhile_cons_of_neg (by simpa using hp)]; rfl
      rw [e] at h; simp at h

/-- The row between two rounds of DeleteFunc's loop. -/
def DRow (w : World) (g c n i j : Nat) (L : List Pin) (now : Int) : Prop :=
  ∃ cur, w.heap[g]? = some (.cells cur 23 (0, 0)) ∧ cur.size = c * 3 ∧ cur.toList.take (i * 3) = ((L.take j).filter (lvp now)).flatMap pl ∧ (∀ k, j * 3 ≤ k → k < n * 3 → cur[k]? = (L.flatMap pl)[k]?) ∧ i = ((L.take j).filter (lvp now)).length
theorem DRow.ext {w w' : World} {g c n i j : Nat} {L : List Pin} {now : Int} (h : DRow w g c n i j L now) (e : Below w.heap.size w w') : DRow w' g c n i j L now := by
  obtain ⟨cur, h1, h2⟩ := h
  exact ⟨cur, (e.block _ (heap_lt h1)).trans h1, h2⟩
theorem DRow.lt {w : World} {g c n i j : Nat} {L : List Pin} {now : Int} (h : DRow w g c n i j L now) : g < w.heap.size := by
  obtain ⟨cur, h1, -⟩ := h; exact heap_lt h1
theorem DRow.free {w : World} {g c n i j : Nat} {L : List Pin} {now : Int} (h : DRow w g c n i j L now) (k : Nat) : w.frozen? ⟨g, k, none⟩ = false := by
  obtain ⟨cur, h1, -⟩ := h; exact frozen_of_row _ _ _ _ _ h1
theorem DRow.cell1 {w : World} {g c n i j : Nat} {L : List Pin} {now : Int} (h : DRow w g c n i j L now) (k : Nat) (hk : k < c * 3) : ∃ u, w.cell? ⟨g, k, none⟩ = some u := by
  obtain ⟨cur, h1, h2, -⟩ := h
  rw [cell_of_row _ _ _ _ _ _ h1, Array.getElem?_eq_getElem (by omega)]; exact ⟨_, rfl⟩
theorem DRow.cells {w : World} {g c n i j : Nat} {L : List Pin} {now : Int} (h : DRow w g c n i j L now) (hL : L.length = n) {p : Pin} (hj : L[j]? = some p) : w.cell? ⟨g, j * 3, none⟩ = some (.string (str p.h)) ∧ w.cell? ⟨g, j * 3 + 1, none⟩ = some (.bool p.s) ∧ w.cell? ⟨g, j * 3 + 2, none⟩ = some (.int .i64 p.x) := by
  obtain ⟨cur, h1, h2, h3, h4, -⟩ := h
  obtain ⟨hlt, rfl⟩ := List.getElem?_eq_some_iff.1 hj
  obtain ⟨g1, g2, g3⟩ := flat_pl_get L j hlt
  refine ⟨?_, ?_, ?_⟩
  · rw [cell_of_row _ _ _ _ _ _ h1, h4 _ (by omega) (by omega), g1]
  · rw [cell_of_row _ _ _ _ _ _ h1, h4 _ (by omega) (by omega), g2]
  · rw [cell_of_row _ _ _ _ _ _ h1, h4 _ (by omega) (by omega), g3]
theorem DRow.dead {w : World} {g c n i j : Nat} {L : List Pin} {now : Int} (h : DRow w g c n i j L now) {p : Pin} (hj : L[j]? = some p) (hp : ¬ now < p.x) : DRow w g c n i (j + 1) L now := by
  obtain ⟨cur, h1, h2, h3, h4, h5⟩ := h
  obtain ⟨hlt, rfl⟩ := List.getElem?_eq_some_iff.1 hj
  have e : (L.take (j + 1)).filter (lvp now) = (L.take j).filter (lvp now) := by
    rw [List.take_succ_eq_append_getElem hlt, List.filter_append]; simp [lvp, hp]
  exact ⟨cur, h1, h2, by rw [e]; exact h3, fun k hk => h4 k (by omega), by rw [e]; exact h5⟩
theorem DRow.live {w : World} {g c n i j : Nat} {L : List Pin} {now : Int} (h : DRow w g c n i j L now) (hij : i < j) (hjc : j < c) {p : Pin} (hj : L[j]? = some p) (hp : now < p.x) :
    DRow (((w.setCell ⟨g, i * 3, none⟩ (.string (str p.h))).setCell ⟨g, i * 3 + 1, none⟩ (.bool p.s)).setCell ⟨g, i * 3 + 2, none⟩ (.int .i64 p.x)) g c n (i + 1) (j + 1) L now := by
  obtain ⟨cur, h1, h2, h3, h4, h5⟩ := h
  obtain ⟨hlt, rfl⟩ := List.getElem?_eq_some_iff.1 hj
  have hpl : (pl L[j]).length = 3 := rfl
  have e : (L.take (j + 1)).filter (lvp now) = (L.take j).filter (lvp now) ++ [L[j]] := by
    rw [List.take_succ_eq_append_getElem hlt, List.filter_append]; simp [lvp, hp]
  have hr := heap_setCells_row g 23 (pl L[j]) cur (i * 3) w h1
  have hsl := splice_toList (pl L[j]) cur (i * 3) (by rw [hpl]; omega)
  refine ⟨_, hr, by rw [splice_size]; exact h2, ?_, fun k hk1 hk2 => ?_, by rw [e, List.length_append, ← h5]; rfl⟩
  · rw [hsl, e, List.flatMap_append, h3, List.take_left' (by rw [List.length_append, flat_pl_length, ← h5, hpl]; omega)]
    simp
  · rw [← h4 k (by omega) hk2]
    have hl : (cur.toList.take (i * 3) ++ pl L[j]).length = i * 3 + 3 := by rw [List.length_append, List.length_take, hpl, Array.length_toList]; omega
    rw [← Array.getElem?_toList, hsl, List.getElem?_append_right (by omega), hl, hpl, List.getElem?_drop, ← Array.getElem?_toList, show i * 3 + 3 + (k - (i * 3 + 3)) = k by omega]

end Go.Proofs.YtcmeajaakdaeeaaDoor

/-
  The walk through slices.DeleteFunc at pins (Expire).
-/
namespace Go.Proofs.YtcmeajaakdaeeaaDoor
open Go.RowKit

theorem grown_of {w w' : World} (h : Below w.heap.size w w') (row : Option Nat) : w.grownBy w' row := ⟨h.os, h.tape, h.output, h.size, fun k hk _ => h.block k hk⟩
theorem grown_trans {w w1 w2 : World} {row : Option Nat} (h : w.grownBy w1 row) (k : w1.grownBy w2 row) : w.grownBy w2 row :=
  ⟨k.os.trans h.os, k.tape.trans h.tape, k.output.trans h.output, Nat.le_trans h.size k.size, fun i hi hne => (k.block i (Nat.lt_of_lt_of_le hi h.size) hne).trans (h.block i hi hne)⟩
theorem zero_one (m : Nat) : ∀ v ∈ (Builtin.zeroCells (Value.agg #[.string ⟨#[]⟩, .bool false, .int .i64 0]).cells m).toList, v.oneCell' = true := by
  intro v hv
  rw [Array.mem_toList_iff, Array.mem_iff_getElem] at hv
  obtain ⟨i, hi, rfl⟩ := hv
  simp [Builtin.zeroCells, Value.cells]
  have h3 : i % 3 = 0 ∨ i % 3 = 1 ∨ i % 3 = 2 := by omega
  rcases h3 with h | h | h <;> simp [h] <;> rfl
theorem zero_len (m : Nat) : (Builtin.zeroCells (Value.agg #[.string ⟨#[]⟩, .bool false, .int .i64 0]).cells m).toList.length = m * 3 := by
  simp [Builtin.zeroCells, Value.cells]

/-- What DeleteFunc does. -/
def DelP (base g c : Nat) (L : List Pin) (now : Int) (w : World) (e : Ending) (w' : World) : Prop :=
  ∃ i : Nat, e = .returned (.slice (some ⟨g, 0, none⟩) i c) ∧ OwnN base w' (.slice (some ⟨g, 0, none⟩) i c) (L.filter (lvp now)) ∧ w.grownBy w' (some g)

set_option maxHeartbeats 4000000 in
set_option maxRecDepth 100000 in
theorem sl_delfunc (base g c n : Nat) (L : List Pin) (now : Int) (nb : Nat) (w : World) (h : OwnN base w (.slice (some ⟨g, 0, none⟩) n c) L) (hL : L.length = n) (hn : n ≤ 1000000) (hb : Boxed w nb 3 (.int .i64 now)) (hne : nb ≠ g) :
    Calls Tryd.prog 68 #[.slice (some ⟨g, 0, none⟩) n c, .func (.func 69) #[] #[.pointer (some ⟨nb, 0, none⟩)]] w (DelP base g c L now w) := by
  have hsl : SlN w (some ⟨g, 0, none⟩) n c L := by
    obtain ⟨a, c2, hv, hs, -⟩ := h.sl
    rw [hL] at hs hv
    cases hv; exact hs
  have HIX := Lib.hid (sl_indexN _ n c L now nb w hsl hn hb)
  have HO := Lib.hid h
  have hkn := lvn_le L now
  rw [hL] at hkn
  by_cases hall : lvn L now = n
  · rw [if_pos hall] at HIX
    have HF := Lib.hid (flt_all L now (by rw [hL]; exact hall))
    clear h hsl hall hkn hL
    go_enter Tryd.func68, Tryd.ntmps68
    go_wp2_with fail
    refine HIX.out.mono ?_; rintro e w1 ⟨rfl, hB1⟩
    go_wp2_with fail
    go_ret
    exact ⟨n, rfl, by rw [HF.out]; exact HO.out.ext hB1, grown_of hB1 _⟩
  · rw [if_neg hall] at HIX
    have hrow : ∃ cur, w.heap[g]? = some (.cells cur 23 (0, 0)) ∧ cur.size = c * 3 ∧ n ≤ c ∧ cur.toList.take (n * 3) = L.flatMap pl ∧ c ≤ maxLen ∧ base ≤ g := by
      rcases h.2 with ⟨hv, -⟩ | ⟨g2, cap', cur, hv, hbg, hc, hnc, hcm, hcs, htk⟩
      · cases hv
      · cases hv; rw [hL] at hnc htk; exact ⟨cur, hc, hcs, hnc, htk, hcm, hbg⟩
    obtain ⟨cur, hcur, hcs, hnc, htk, hcm, hbg⟩ := hrow
    have hf0 := flt0 L now (by omega)
    have HD0 := Lib.hid (show DRow w g c n (lvn L now) (lvn L now + 1) L now from
      ⟨cur, hcur, hcs, by rw [hf0, flat_take L (by omega), ← htk, List.take_take, show min (lvn L now * 3) (n * 3) = lvn L now * 3 by omega], fun k _ hk2 => by
        rw [← htk, List.getElem?_take_of_lt hk2, Array.getElem?_toList], by rw [hf0, List.length_take]; omega⟩)
    have hgw := heap_lt hcur
    obtain ⟨k, hk⟩ : ∃ k, lvn L now = k := ⟨_, rfl⟩
    rw [hk] at HIX HD0 hkn hall
    have k0 : (0 : Int) ≤ (k : Int) := by omega
    have HB := Lib.hid hb
    have hnbw := heap_lt hb
    have k1 : ¬ ((k : Int) = -1) := by omega
    have HL := Lib.hid hL
    clear hcur hcs htk hf0 hk h hsl hb hL
    go_enter Tryd.func68, Tryd.ntmps68
    go_wp2_with fail
    refine HIX.out.mono ?_; rintro e w1 ⟨rfl, hB1⟩
    have tk : ((k : Int) == -1) = false := beq_eq_false_iff_ne.2 k1
    go_wp2_with fail
    go_loopw [5, 6] (fun i j wr => ∃ (i' j' : Nat), i = .int .i64 (i' : Nat) ∧ j = .int .i64 (j' : Nat) ∧ i' < j' ∧ j' ≤ n ∧ DRow wr g c n i' j' L now ∧ w.grownBy wr (some g)) (fun _ j _ => n - (intOf j).toNat)
    case atStart => exact ⟨k, k + 1, rfl, by go_num, Nat.lt_succ_self _, by omega, HD0.out.ext hB1, grown_of hB1 _⟩
    case round =>
      obtain ⟨i, j, rfl, rfl, h1, h2, hD, hG⟩ := hrel
      have i0 : (0 : Int) ≤ (i : Int) := by omega
      have j0 : (0 : Int) ≤ (j : Int) := by omega
      have in1 : (i : Int) < (n : Int) := by omega
      have hbr : Boxed wr nb 3 (.int .i64 now) := (hG.block nb hnbw (fun e => hne (by cases e; rfl))).trans HB.out
      have hlg := hD.lt
      by_cases hjn : j < n
      · have j1 : (j : Int) < (n : Int) := by omega
        have hlj : j < L.length := by rw [HL.out]; exact hjn
        have hgt := List.getElem?_eq_getElem hlj
        generalize L[j] = p at *
        obtain ⟨c1, c2, c3⟩ := hD.cells HL.out hgt
        have HGT := Lib.hid hgt
        have hex := (Below.refl wr.heap.size wr).alloc (Nat.le_refl _) (.cells #[.string (str p.h), .bool p.s, .int .i64 p.x] 23)
        have HX := Lib.hid (tb_exp1 (str p.h) p.s p.x now nb _ (boxedN_ext hbr hex))
        have HPN := Lib.hid (PBox.new wr (str p.h) p.s p.x)
        have HEX := Lib.hid hex
        have HD := Lib.hid hD
        have HG := Lib.hid hG
        clear hex hgt hD hG
        obtain ⟨sh, hsh⟩ : ∃ s, str p.h = s := ⟨_, rfl⟩
        have HSH := Lib.hid hsh
        rw [hsh] at c1 HX HPN HEX
        clear hsh
        by_cases hlv : p.x ≤ now
        · rw [decide_eq_true hlv] at HX
          have HDD := Lib.hid (HD.out.dead HGT.out (by omega))
          clear hlv
          go_wp2_with fail
          refine HX.out.mono ?_; rintro e w2 ⟨rfl, hB2⟩
          have hB := HEX.out.trans (hB2.mono HEX.out.size)
          go_wp2_with fail
          go_roundw
          case rel => exact ⟨i, j + 1, rfl, by go_num, by omega, by omega, HDD.out.ext hB, grown_trans HG.out (grown_of hB _)⟩
          case measure => simp [intOf]; omega
        · rw [decide_eq_false hlv] at HX
          have HLV := Lib.hid (show now < p.x by omega)
          clear hlv
          go_wp2_with fail
          refine HX.out.mono ?_; rintro e w2 ⟨rfl, hB2⟩
          have hB := HEX.out.trans (hB2.mono HEX.out.size)
          have hPB := HPN.out.ext hB2
          obtain ⟨q0, q1, q2⟩ := hPB.cells
          have hlt2 := heap_lt hPB
          have hD2 := HD.out.ext hB
          obtain ⟨x0, e0⟩ := hD2.cell1 (i * 3) (by omega)
          obtain ⟨x1, e1⟩ := hD2.cell1 (i * 3 + 1) (by omega)
          obtain ⟨x2, e2⟩ := hD2.cell1 (i * 3 + 2) (by omega)
          have fz := hD2.free
          have hlg2 := hD2.lt
          have HD3 := Lib.hid (hD2.live h1 (by omega) HGT.out HLV.out)
          rw [HSH.out] at HD3
          have HG3 := Lib.hid (grown_trans (grown_trans HG.out (grown_of hB _)) (setCells_grown g [.string sh, .bool p.s, .int .i64 p.x] (i * 3) w2))
          clear hPB hD2
          go_wp2_with fail
          go_roundw
          case rel => exact ⟨i + 1, j + 1, by go_num, by go_num, by omega, by omega, HD3.out, HG3.out⟩
          case measure => simp [intOf]; omega
      · obtain rfl : j = n := by omega
        obtain ⟨i9, hi9, hz9, -, -⟩ := info_parts infoPin
        obtain ⟨zs, hzs⟩ : ∃ zs, (Builtin.zeroCells (Value.agg #[.string ⟨#[]⟩, .bool false, .int .i64 0]).cells (j - i)).toList = zs := ⟨_, rfl⟩
        have hzl : zs.length = (j - i) * 3 := by rw [← hzs]; exact zero_len _
        have hz1 : ∀ v ∈ zs, v.oneCell' = true := by rw [← hzs]; exact zero_one _
        have hcl : ∀ ty, (Builtin.clear_ #[40] ty #[.slice (some ⟨g, i * 3, none⟩) (j - i) (c - i)]).run Tryd.prog wr = .ok (.tuple #[]) (wr.setCells g (i * 3) zs) := fun ty =>
          run_clear_k wr _ 23 ty (Value.agg #[.string ⟨#[]⟩, .bool false, .int .i64 0]) Tryd.underlying40 (fun w => by simp [zeroValue, typeInfo, hi9, hz9]) g (i * 3) (j - i) (c - i) (by omega) zs hzs
            (fun q hq => by obtain ⟨u, hu⟩ := hD.cell1 (i * 3 + q) (by omega); rw [hu]; rfl) (fun q hq => hD.free _) hz1
        have hci : ¬ c = i := by omega
        have hicI : (i : Int) ≤ (c : Int) := by omega
        have HFIN := Lib.hid (show DelP base g c L now w (.returned (.slice (some ⟨g, 0, none⟩) i c)) (wr.setCells g (i * 3) zs) from by
          obtain ⟨cur2, d1, d2, d3, -, d5⟩ := hD
          have htl : L.take j = L := List.take_of_length_le (by rw [HL.out]; exact Nat.le_refl _)
          rw [htl] at d3 d5
          have hr := heap_setCells_row g 23 zs cur2 (i * 3) wr d1
          refine ⟨i, rfl, ⟨by rw [flat_pl_length], .inr ⟨g, c, _, by rw [← d5], hbg, hr, by rw [← d5]; omega, hcm, by rw [splice_size]; exact d2, ?_⟩⟩, grown_trans hG (setCells_grown g zs (i * 3) wr)⟩
          rw [← d5, splice_toList _ _ _ (by omega), List.append_assoc, List.take_left' (by rw [List.length_take, Array.length_toList]; omega), d3])
        clear hzs hz1 hzl hD hG hbr hi9 hz9
        go_wp2_with fail
        go_ret
        exact HFIN.out

end Go.Proofs.YtcmeajaakdaeeaaDoor

/-
  The table's Expire.
-/
namespace Go.Proofs.YtcmeajaakdaeeaaDoor
open Go.RowKit

theorem live_eq (L : List Pin) (now : Int) : L.filter (lvp now) = Tab.live L now := rfl

/-- What Expire does. -/
def ExpP (B g : Nat) (v : Value) (L : List Pin) (cap now : Int) (w : World) (e : Ending) (w' : World) : Prop :=
  ∃ v', e = .returned (.int .i64 ((L.length : Int) - ((Tab.live L now).length : Int))) ∧ TabW B w' g v' (Tab.live L now) cap ∧ Upd (Foot g v) w (Foot g v') w'

set_option maxHeartbeats 4000000 in
set_option maxRecDepth 100000 in
theorem tb_expire {B : Nat} {w : World} {g : Nat} {v : Value} {L : List Pin} {cap : Int} (h : TabW B w g v L cap) (now : Int) (hn : L.length ≤ 1000000) :
    Calls Tryd.prog 51 #[.pointer (some ⟨g, 0, none⟩), .int .i64 now] w (ExpP B g v L cap now w) := by
  have hb0 := (Below.refl w.heap.size w).alloc (Nat.le_refl _) (.cells #[.int .i64 now] 3)
  have hbx : Boxed (w.alloc (.cells #[.int .i64 now] 3)) w.heap.size 3 (.int .i64 now) := heap_alloc_eq _ _ _ rfl
  have hT0 := h.ext hb0
  have hlt := h.lt
  have HL0 := Lib.hid (tb_len hT0)
  have HU0 := Lib.hid (Upd.of_ext (F := Foot g v) hb0)
  by_cases h0 : L.length = 0
  · have hnil : L = [] := List.eq_nil_of_length_eq_zero h0
    subst hnil
    have HT := Lib.hid hT0
    clear hT0 hbx hb0 h
    go_enter Tryd.func51, Tryd.ntmps51
    go_wp2_with fail
    refine HL0.out.mono ?_; rintro e w1 ⟨rfl, rfl⟩
    go_wp2_with fail
    refine HL0.out.mono ?_; rintro e w2 ⟨rfl, rfl⟩
    go_wp2_with fail
    go_ret
    exact ⟨v, rfl, HT.out, HU0.out⟩
  · obtain ⟨g', c', rfl⟩ : ∃ g' c', v = .slice (some ⟨g', 0, none⟩) L.length c' := by
      rcases h.2.1.2 with ⟨hv, hn0⟩ | ⟨g', cap', cur, hv, -⟩
      · exact absurd hn0 h0
      · exact ⟨g', cap', hv⟩
    have hgg : g' ≠ g := fun e => h.2.2.2 (by rw [← e]; rfl)
    have hg'lt := (h.2.1.lt g' rfl).2
    obtain ⟨n, hn2⟩ : ∃ n, L.length = n := ⟨_, rfl⟩
    have HP0 := Lib.hid (show ∀ e w', e = .returned (.int .i64 ((n : Int) - ((Tab.live L now).length : Int))) → ∀ v', TabW B w' g v' (Tab.live L now) cap → Upd (Foot g (.slice (some ⟨g', 0, none⟩) L.length c')) w (Foot g v') w' → ExpP B g (.slice (some ⟨g', 0, none⟩) L.length c') L cap now w e w' from fun e w' he v' ht hu => ⟨v', by rw [he, hn2], ht, hu⟩)
    rw [hn2] at h0 hn hT0 HL0 HU0 HP0 ⊢
    have HDL := Lib.hid (sl_delfunc B g' c' n L now w.heap.size _ hT0.2.1 hn2 hn hbx (by omega))
    have hln : (Tab.live L now).length ≤ n := by rw [← hn2]; exact List.length_filter_le _ _
    have HT := Lib.hid hT0
    obtain ⟨c0, -⟩ := hT0.cells
    have hltg := hT0.lt
    have t1 : (0 : Int) < (n : Int) := by omega
    clear hT0 hbx hb0 h hn2
    go_enter Tryd.func51, Tryd.ntmps51
    go_wp2_with fail
    refine HL0.out.mono ?_; rintro e w1 ⟨rfl, rfl⟩
    go_wp2_with fail
    refine HDL.out.mono ?_; rintro e w2 ⟨i, rfl, ho2, hg2⟩
    have hk2 := (hg2.block g HT.out.lt (fun e => hgg (by cases e; rfl))).trans HT.out.1
    have c2 : w2.cell? ⟨g, 0, none⟩ = some (.slice (some ⟨g', 0, none⟩) n c') := (cell_of_row _ _ _ _ _ _ hk2).trans rfl
    have f2 : w2.frozen? ⟨g, 0, none⟩ = false := frozen_of_row _ _ _ _ _ hk2
    have hlt2 := heap_lt hk2
    have hT3 : TabW B (w2.setCell ⟨g, 0, none⟩ (.slice (some ⟨g', 0, none⟩) i c')) g (.slice (some ⟨g', 0, none⟩) i c') (Tab.live L now) cap :=
      ⟨heap_setCell_same w2 g 0 _ _ _ hk2, OwnN.stay ho2 (fun k hk => heap_setCell_other _ _ _ _ (fun e => by cases hk; exact hgg e)), HT.out.2.2.1, fun e => hgg (by cases e; rfl)⟩
    have HU3 := Lib.hid (((HU0.out.grown (row := some g') (fun k hk => .inl (.inr (by cases hk; rfl))) hg2).setCell (g := g) (.inl (.inl rfl)) 0 (.slice (some ⟨g', 0, none⟩) i c')).grow (F2 := Foot g (.slice (some ⟨g', 0, none⟩) i c')) (fun k hk => .inl (by rcases hk with h9 | h9; exact .inl h9; exact .inr h9)))
    have HL3 := Lib.hid (tb_len hT3)
    have HT3 := Lib.hid hT3
    clear hk2 ho2 hg2 hT3
    obtain ⟨m, hm⟩ : ∃ m, (Tab.live L now).length = m := ⟨_, rfl⟩
    rw [hm] at HL3 HP0 hln
    clear hm
    go_wp2_with fail
    refine HL3.out.mono ?_; rintro e w3 ⟨rfl, rfl⟩
    have ws : IntKind.i64.wrap ((n : Int) - (m : Int)) = (n : Int) - (m : Int) := by rw [IntKind.wrap_i64]; omega
    go_wp2_with fail
    go_ret
    exact HP0.out _ _ rfl _ HT3.out HU3.out

end Go.Proofs.YtcmeajaakdaeeaaDoor

/-
  awake of law 23.
-/
namespace Go.Proofs.YtcmeajaakdaeeaaDoor
open Go.RowKit

def tA : Pin := ⟨[97, 46, 99, 111, 109], false, 5⟩
def tB : Pin := ⟨[97, 46, 99, 111, 109], true, 7⟩
def tC : Pin := ⟨[98, 46, 99, 111, 109], false, 9⟩
theorem aw23_a : Tab.put [] 1 tA = ([tA], 0) := by decide +kernel
theorem aw23_b : Tab.put [tA] 1 tB = ([tB], 0) := by decide +kernel
theorem aw23_c : Tab.put [tB] 1 tC = ([tB], 11) := by decide +kernel
theorem aw23_d : Tab.live [tB] 7 = [] := by decide +kernel
theorem aw23_e : Tab.put [] 1 tC = ([tC], 0) := by decide +kernel
theorem asc_nil : Tab.Asc [] := List.Pairwise.nil
theorem asc_one (p : Pin) : Tab.Asc [p] := by unfold Tab.Asc; simp

/-- A state of the table between two calls. -/
def TSt (w : World) (L : List Pin) (W : World) : Prop := ∃ v, TabW w.heap.size W w.heap.size v L 1 ∧ Below w.heap.size w W
theorem TSt.put {w : World} {L : List Pin} {W : World} (h : TSt w L W) {p : Pin} {L' : List Pin} {z : Int} (he : Tab.put L 1 p = (L', z)) (hA : Tab.Asc L) (hL : ∀ q ∈ L, q.h.length ≤ 1000000) (hn : L.length ≤ 100000) (hp : p.h.length ≤ 1000000) :
    Calls Tryd.prog 29 #[.pointer (some ⟨w.heap.size, 0, none⟩), pv p] W fun e W' => e = .returned (.int .i64 z) ∧ TSt w L' W' := by
  obtain ⟨v, hT, hB⟩ := h
  refine (tb_put hT p hn hA hL hp).mono ?_
  rintro e W' ⟨v', h1, h2, h3⟩
  rw [he] at h1 h2
  exact ⟨h1, v', h2, h3.below hB (fun k hk => (Foot.own hT k hk).1) hB.size⟩
theorem TSt.expire {w : World} {L : List Pin} {W : World} (h : TSt w L W) (now : Int) {L' : List Pin} {z : Int} (he : Tab.live L now = L') (hz : (L.length : Int) - (L'.length : Int) = z) (hn : L.length ≤ 100000) :
    Calls Tryd.prog 51 #[.pointer (some ⟨w.heap.size, 0, none⟩), .int .i64 now] W fun e W' => e = .returned (.int .i64 z) ∧ TSt w L' W' := by
  obtain ⟨v, hT, hB⟩ := h
  refine (tb_expire hT now (by omega)).mono ?_
  rintro e W' ⟨v', h1, h2, h3⟩
  rw [he] at h1 h2
  rw [hz] at h1
  exact ⟨h1, v', h2, h3.below hB (fun k hk => (Foot.own hT k hk).1) hB.size⟩

set_option maxHeartbeats 4000000 in
set_option maxRecDepth 100000 in
theorem tab_awake (w : World) : Calls Tryd.prog 25 #[] w fun e w' => e = .returned (.bool true) ∧ Below w.heap.size w w' := by
  have hN := (tb_new 1 w).mono (R' := fun e w' => e = .returned (.tuple #[.pointer (some ⟨w.heap.size, 0, none⟩), .int .i64 0]) ∧ w' = w.alloc (.cells #[.slice none 0 0, .int .i64 1] 71)) (fun e w' h => by unfold NewP at h; rwa [if_neg (by omega)] at h)
  have HN := Lib.hid hN
  have H1 := Lib.hid (fun W (h : TSt w [] W) => h.put aw23_a asc_nil (by simp) (by simp) (by decide))
  have H2 := Lib.hid (fun W (h : TSt w [tA] W) => h.put aw23_b (asc_one _) (by simp [tA]) (by simp) (by decide))
  have H3 := Lib.hid (fun W (h : TSt w [tB] W) => h.put aw23_c (asc_one _) (by simp [tB]) (by simp) (by decide))
  have H4 := Lib.hid (fun W (h : TSt w [tB] W) => h.expire 7 aw23_d (z := 1) (by decide) (by simp))
  have H5 := Lib.hid (fun W (h : TSt w [] W) => h.put aw23_e asc_nil (by simp) (by simp) (by decide))
  clear hN
  go_enter Tryd.func25, Tryd.ntmps25
  go_wp2_with fail
  refine HN.out.mono ?_; rintro e w1 ⟨rfl, rfl⟩
  have hS := Lib.hid (show TSt w [] (w.alloc (.cells #[.slice none 0 0, .int .i64 1] 71)) from ⟨_, TabW.new w 1 (Nat.le_refl _), (Below.refl _ _).alloc (Nat.le_refl _) _⟩)
  go_wp2_with fail
  refine (H1.out _ hS.out).mono ?_; rintro e w2 ⟨rfl, h2⟩
  have h2 := Lib.hid h2
  go_wp2_with fail
  refine (H2.out _ h2.out).mono ?_; rintro e w3 ⟨rfl, h3⟩
  have h3 := Lib.hid h3
  go_wp2_with fail
  refine (H3.out _ h3.out).mono ?_; rintro e w4 ⟨rfl, h4⟩
  have h4 := Lib.hid h4
  go_wp2_with fail
  refine (H4.out _ h4.out).mono ?_; rintro e w5 ⟨rfl, h5⟩
  have h5 := Lib.hid h5
  go_wp2_with fail
  refine (H5.out _ h5.out).mono ?_; rintro e w6 ⟨rfl, h6⟩
  have h6 := Lib.hid h6
  go_wp2_with fail
  refine (tb_len h6.out.choose_spec.1).mono ?_; rintro e w7 ⟨rfl, rfl⟩
  go_wp2_with fail
  go_ret
  exact ⟨rfl, h6.out.choose_spec.2⟩

end Go.Proofs.YtcmeajaakdaeeaaDoor

/-
  The table's Load.
-/
namespace Go.Proofs.YtcmeajaakdaeeaaDoor
open Go.RowKit

/-- What Load does. -/
def LoadP (L : List Pin) (cap : Int) (w : World) (e : Ending) (w' : World) : Prop :=
  Below w.heap.size w w' ∧ ((Tab.load L cap ≠ 0 ∧ e = .returned (.tuple #[.pointer none, .int .i64 (Tab.load L cap)])) ∨
    (Tab.load L cap = 0 ∧ e = .returned (.tuple #[.pointer (some ⟨w.heap.size, 0, none⟩), .int .i64 0]) ∧ ∃ v, TabW w.heap.size w' w.heap.size v L cap))

set_option maxHeartbeats 8000000 in
set_option maxRecDepth 100000 in
/-- Load refuses a capacity out of range, and a list that is longer than the capacity. -/
theorem tb_load_early (cap : Int) (a : Option Addr) (n c : Nat) (L : List Pin) (w : World) (h : SlN w a n c L) (hcap : (cap < 1 ∨ 1000 < cap) ∨ cap < (n : Int)) :
    Calls Tryd.prog 34 #[.slice a n c, .int .i64 cap] w (LoadP L cap w) := by
  have HN := Lib.hid (tb_new cap w)
  by_cases h1 : cap < 1 ∨ 1000 < cap
  · have hr : Tab.load L cap = 2 := by unfold Tab.load; rw [if_pos h1]
    have HN2 := Lib.hid (show Calls Tryd.prog 26 #[.int .i64 cap] w fun e w' => e = .returned (.tuple #[.pointer none, .int .i64 2]) ∧ w' = w from HN.out.mono (fun e w' hh => by unfold NewP at hh; rwa [if_pos h1] at hh))
    have HF := Lib.hid (show LoadP L cap w (.returned (.tuple #[.pointer none, .int .i64 2])) w from ⟨Below.refl _ _, .inl ⟨by rw [hr]; decide, by rw [hr]⟩⟩)
    clear hr h1 hcap
    go_enter Tryd.func34, Tryd.ntmps34
    go_wp2_with fail
    refine HN2.out.mono ?_; rintro e w1 ⟨rfl, rfl⟩
    go_wp2_with fail
    go_ret2
    exact HF.out
  · have h2 : cap < (n : Int) := by rcases hcap with e | e; exact absurd e h1; exact e
    have hr : Tab.load L cap = 11 := by unfold Tab.load; rw [if_neg h1, h.len, if_pos h2]
    have HN2 := Lib.hid (show Calls Tryd.prog 26 #[.int .i64 cap] w fun e w' => e = .returned (.tuple #[.pointer (some ⟨w.heap.size, 0, none⟩), .int .i64 0]) ∧ w' = w.alloc (.cells #[.slice none 0 0, .int .i64 cap] 71) from HN.out.mono (fun e w' hh => by unfold NewP at hh; rwa [if_neg h1] at hh))
    have HF := Lib.hid (show LoadP L cap w (.returned (.tuple #[.pointer none, .int .i64 11])) (w.alloc (.cells #[.slice none 0 0, .int .i64 cap] 71)) from ⟨(Below.refl _ _).alloc (Nat.le_refl _) _, .inl ⟨by rw [hr]; decide, by rw [hr]⟩⟩)
    clear hr h1 hcap
    go_enter Tryd.func34, Tryd.ntmps34
    go_wp2_with fail
    refine HN2.out.mono ?_; rintro e w1 ⟨rfl, rfl⟩
    go_wp2_with fail
    go_ret2
    exact HF.out

set_option maxHeartbeats 8000000 in
set_option maxRecDepth 100000 in
theorem tb_load (cap : Int) (a : Option Addr) (n c : Nat) (L : List Pin) (w : World) (h : SlN w a n c L) (hn : n ≤ 1000000) (hL : ∀ p ∈ L, p.h.length ≤ 1000000) :
    Calls Tryd.prog 34 #[.slice a n c, .int .i64 cap] w (LoadP L cap w) := by
  by_cases hearly : (cap < 1 ∨ 1000 < cap) ∨ cap < (n : Int)
  · exact tb_load_early cap a n c L w h hearly
  have h1 : ¬ (cap < 1 ∨ 1000 < cap) := fun e => hearly (.inl e)
  have g3 : ¬ cap < (n : Int) := fun e => hearly (.inr e)
  clear hearly
  have hN := (tb_new cap w).mono (R' := fun e w' => e = .returned (.tuple #[.pointer (some ⟨w.heap.size, 0, none⟩), .int .i64 0]) ∧ w' = w.alloc (.cells #[.slice none 0 0, .int .i64 cap] 71)) (fun e w' hh => by unfold NewP at hh; rwa [if_neg h1] at hh)
  have hT := TabW.new w cap (Nat.le_refl w.heap.size)
  have hB1 := (Below.refl w.heap.size w).alloc (Nat.le_refl _) (.cells #[.slice none 0 0, .int .i64 cap] 71)
  obtain ⟨W1, hW1⟩ : ∃ W1, w.alloc (.cells #[.slice none 0 0, .int .i64 cap] 71) = W1 := ⟨_, rfl⟩
  rw [hW1] at hN hT hB1
  have hs1 := h.ext hB1
  have hz1 : w.heap.size < W1.heap.size := by rw [← hW1]; simp
  have HLN := Lib.hid h.len
  have HL := Lib.hid hL
  have hld : Tab.load L cap = Tab.chk L (n - 0) 0 := by unfold Tab.load; rw [if_neg h1, h.len, if_neg g3, Nat.sub_zero]
  obtain ⟨r, hr⟩ : ∃ r, Tab.chk L (n - 0) 0 = r := ⟨_, rfl⟩
  rw [hr] at hld
  have HERR := Lib.hid (show ∀ W, Below W1.heap.size W1 W → ∀ z, r = z → z ≠ 0 → LoadP L cap w (.returned (.tuple #[.pointer none, .int .i64 z])) W from fun W hb z hz h0 => ⟨hB1.trans (hb.mono (Nat.le_of_lt hz1)), .inl ⟨by rw [hld, hz]; exact h0, by rw [hld, hz]⟩⟩)
  have HFIN := Lib.hid (show ∀ W W2 v, Below W1.heap.size W1 W → Below W.heap.size W W2 → OwnN W.heap.size W2 v L → r = 0 → LoadP L cap w (.returned (.tuple #[.pointer (some ⟨w.heap.size, 0, none⟩), .int .i64 0])) (W2.setCell ⟨w.heap.size, 0, none⟩ v) from fun W W2 v hb hb2 ho h0 => by
    have hbb := hb.trans (hb2.mono hb.size)
    have hT2 := hT.ext hbb
    have hle := hb.size
    refine ⟨(hB1.trans (hbb.mono (Nat.le_of_lt hz1))).setCell (Nat.le_refl _) _, .inr ⟨by rw [hld, h0], rfl, v, hT2.set (ho.mono (by omega)) (fun e => by have := (ho.lt _ e).1; omega)⟩⟩)
  have HTX := Lib.hid hT
  have HS1 := Lib.hid hs1
  have HN := Lib.hid hN
  have HC0 := Lib.hid hr
  clear hr hld hL hB1 hT hs1 hN h h1 hW1 hz1
  go_enter Tryd.func34, Tryd.ntmps34
  go_wp2_with fail
  refine HN.out.mono ?_; rintro e w1 ⟨rfl, rfl⟩
  go_wp2_with fail
  go_loopw [26] (fun i wr => ∃ k : Nat, k ≤ n ∧ i = .int .i64 (k : Nat) ∧ Hid (Tab.chk L (n - k) k = r) ∧ Below w1.heap.size w1 wr) (fun i _ => n - (intOf i).toNat)
  case atStart => exact ⟨0, Nat.zero_le _, rfl, HC0, Below.refl _ _⟩
  case round =>
    obtain ⟨k, hk, rfl, HC, hB⟩ := hrel
    have i0 : (0 : Int) ≤ (k : Int) := by omega
    by_cases hlt : k < n
    · have i2 : (k : Int) < (n : Int) := by omega
      have hs := HS1.out.ext hB
      obtain ⟨bb, o, rfl, hbb, hkl, c1, c2, c3⟩ := hs.at hlt
      have hgt := List.getElem?_eq_getElem hkl
      rw [hgt, Option.getD_some] at c1 c2 c3
      have HMEM := Lib.hid (List.getElem_mem hkl)
      have hst := chk_step L (n - (k + 1)) k hgt
      rw [show n - (k + 1) + 1 = n - k by omega, HC.out] at hst
      have hprev : ∀ k', k = k' + 1 → ∃ q, L.getD (k - 1) Pin.none = q ∧ q ∈ L ∧ PinAt wr bb (o + k' * 3) q := by
        intro k' hk'
        obtain ⟨b2, o2, hbo, -, hkl2, hp2⟩ := hs.at (show k' < n by omega)
        cases hbo
        refine ⟨_, rfl, ?_, ?_⟩
        · rw [show k - 1 = k' by omega, List.getD_eq_getElem?_getD, List.getElem?_eq_getElem hkl2]; exact List.getElem_mem hkl2
        · rw [show k - 1 = k' by omega, List.getD_eq_getElem?_getD]; exact hp2
      generalize L[k] = p at *
      have HV := Lib.hid (fun W => pi_valid p (HL.out p HMEM.out) W)
      unfold pv at HV
      have hb0 := (Below.refl wr.heap.size wr).alloc (Nat.le_refl _) (.cells #[.string (str p.h), .bool p.s, .int .i64 p.x] 23)
      have hbx := PBox.new wr (str p.h) p.s p.x
      obtain ⟨sh, hsh⟩ : ∃ s, str p.h = s := ⟨_, rfl⟩
      rw [hsh] at c1 HV hb0 hbx
      cases hv : Pin.valid p with
      | false =>
        rw [hv] at HV hst
        rw [if_pos rfl] at hst
        subst hst
        have HV := Lib.hid HV.out
        have HB0 := Lib.hid hb0
        clear hprev hgt hkl hv hsh hs hb0 hbx
        go_wp2_with fail
        refine (HV.out _).mono ?_; rintro e w2 ⟨rfl, hb2⟩
        go_wp2_with fail
        go_ret2
        exact HERR.out _ ((hB.trans (HB0.out.mono hB.size)).trans (hb2.mono (Nat.le_trans hB.size HB0.out.size))) _ rfl (by decide)
      | true =>
        rw [hv] at HV hst
        rw [if_neg (by decide)] at hst
        have HV := Lib.hid HV.out
        by_cases hk0 : k = 0
        · rw [if_neg (by omega)] at hst
          have HST := Lib.hid hst
          have t0 : decide (0 < k) = false := by apply decide_eq_false; omega
          have HB0 := Lib.hid hb0
          clear hprev hgt hkl hv hsh hs hst hk0 hb0 hbx
          go_wp2_with fail
          refine (HV.out _).mono ?_; rintro e w2 ⟨rfl, hb2⟩
          go_wp2_with fail
          go_quiet (fail)
          go_wp2_with fail
          go_roundw
          case rel => exact ⟨k + 1, by omega, by go_num, Lib.hid HST.out.symm, ((hB.trans (HB0.out.mono hB.size)).trans (hb2.mono (Nat.le_trans hB.size HB0.out.size))).trans (below_drewN' _ _ _)⟩
          case measure => simp [intOf]; omega
        · obtain ⟨k', hk'⟩ : ∃ k', k = k' + 1 := ⟨k - 1, by omega⟩
          obtain ⟨q, hq, hqm, hqa⟩ := hprev k' hk'
          subst hk'
          rw [hq] at hst
          have HCMP := Lib.hid (fun W => pn_compare q.h p.h (HL.out q hqm) (HL.out p HMEM.out) W)
          obtain ⟨z, hz⟩ : ∃ z, Host.cmp q.h p.h = z := ⟨_, rfl⟩
          rw [hz] at HCMP hst
          have wk : IntKind.i64.wrap (k' : Int) = (k' : Int) := by rw [IntKind.wrap_i64]; omega
          have k0 : (0 : Int) ≤ (k' : Int) := by omega
          have k1 : (k' : Int) < (n : Int) := by omega
          have i3 : (0 : Int) ≤ (k' : Int) + 1 := by omega
          have i4 : (k' : Int) + 1 < (n : Int) := by omega
          have t0 : decide (0 < k' + 1) = true := by apply decide_eq_true; omega
          obtain ⟨d1, -, -⟩ := hqa
          obtain ⟨sq, hsq⟩ : ∃ s, str q.h = s := ⟨_, rfl⟩
          rw [hsh] at HCMP
          rw [hsq] at d1 HCMP
          have hz0 : (wr.alloc (.cells #[.string sh, .bool p.s, .int .i64 p.x] 23)).heap.size = wr.heap.size + 1 := by simp
          have HZ0 := Lib.hid hz0
          have HCL := Lib.hid (show ∀ w', Below (wr.heap.size + 1) (wr.alloc (.cells #[.string sh, .bool p.s, .int .i64 p.x] 23)) w' → w'.cell? ⟨wr.heap.size, 0, none⟩ = some (.string sh) ∧ w'.cell? ⟨bb, o + k' * 3, none⟩ = some (.string sq) ∧ wr.heap.size < w'.heap.size from fun w' hb => by
            have hP : PBox w' wr.heap.size sh p.s p.x := (hb.block _ (Nat.lt_succ_self _)).trans hbx
            exact ⟨hP.cells.1, ((hb0.trans (hb.mono (Nat.le_succ _))).cell (p := ⟨bb, o + k' * 3, none⟩) hbb).trans d1, heap_lt hP⟩)
          have HST := Lib.hid hst
          have HB0 := Lib.hid hb0
          clear hprev hgt hkl hv hsh hsq hs hst hz hq hqm hk0 hb0 hbx hz0
          go_wp2_with fail
          refine (HV.out _).mono ?_; rintro e w2 ⟨rfl, hb2⟩
          rw [HZ0.out] at hb2
          obtain ⟨e1, f1, l1⟩ := HCL.out _ hb2
          have hbb2 : bb < w2.heap.size := by omega
          have HCL2 := Lib.hid (show ∀ w', Ext w2 w' → Ext w2 w' ∧ w'.cell? ⟨wr.heap.size, 0, none⟩ = some (.string sh) ∧ w'.cell? ⟨bb, o + k' * 3, none⟩ = some (.string sq) ∧ wr.heap.size < w'.heap.size from fun w' he => ⟨he, HCL.out _ (hb2.trans (Below.mono he l1))⟩)
          go_wp2_with fail
          go_region_held3 (fun w' => Ext w2 w' ∧ w'.cell? ⟨wr.heap.size, 0, none⟩ = some (.string sh) ∧ w'.cell? ⟨bb, o + k' * 3, none⟩ = some (.string sq) ∧ wr.heap.size < w'.heap.size) (first | assumption | exact HCL2.out _ (Ext.drew (Ext.refl _)) | exact HCL2.out _ (Ext.step (by assumption) (And.left (by assumption)))) (first | (go_at_call 20; go_must (refine (HCMP.out _).mono ?_); rintro e w9 ⟨rfl, hb9⟩))
          all_goals
            have hfin : Ext w2 _ := And.left (by assumption)
            have hBf := (((hB.trans (HB0.out.mono hB.size)).trans (hb2.mono (by have := hB.size; omega)))).trans (Below.mono hfin (by have := hB.size; omega))
            by_cases hz0 : 0 ≤ z
            · have hr8 : r = 8 := by rw [HST.out, if_pos ⟨by omega, hz0⟩]
              go_wp2_with fail
              go_ret2
              exact HERR.out _ hBf _ hr8 (by decide)
            · have HRS := Lib.hid (show Tab.chk L (n - (k' + 1 + 1)) (k' + 1 + 1) = r by rw [HST.out, if_neg (fun e => hz0 e.2)])
              go_wp2_with fail
              go_roundw
              case rel => exact ⟨k' + 1 + 1, by omega, by go_num, HRS, hBf⟩
              case measure => simp [intOf]; omega
    · obtain rfl : k = n := by omega
      have hr0 : r = 0 := by rw [← HC.out, Nat.sub_self]; rfl
      have HR0 := Lib.hid hr0
      have HCLN := Lib.hid (sl_clone_pins a k c L wr (HS1.out.ext hB) hn)
      have hT2 := HTX.out.ext hB
      have HLEN := Lib.hid hT2
      clear hr0 hT2
      go_wp2_with fail
      refine HCLN.out.mono ?_; rintro e w2 ⟨v, rfl, ho, hb2⟩
      have hT3 := HLEN.out.ext hb2
      obtain ⟨c0, -⟩ := hT3.cells
      have f0 := hT3.free 0
      have hlt3 := hT3.lt
      have HO := Lib.hid ho
      obtain ⟨a5, k5, hv5, -, -⟩ := ho.sl
      have HFF := Lib.hid (HFIN.out _ _ _ hB hb2 ho HR0.out)
      clear hT3 ho
      subst hv5
      go_wp2_with fail
      go_ret2
      exact HFF.out

end Go.Proofs.YtcmeajaakdaeeaaDoor

/-
  The walk of PintableLoadMatchesSpec.
-/
namespace Go.Proofs.YtcmeajaakdaeeaaDoor
open Go.RowKit

theorem OwnN.addr {base : Nat} {w : World} {a : Option Addr} {n c : Nat} {L : List Pin} (h : OwnN base w (.slice a n c) L) : n = L.length ∧ (a = none ∨ ∃ g, a = some ⟨g, 0, none⟩) := by
  rcases h.2 with ⟨hv, hn⟩ | ⟨g, cap, cur, hv, -⟩
  · cases hv; exact ⟨hn.symm, .inl rfl⟩
  · cases hv; exact ⟨rfl, .inr ⟨g, rfl⟩⟩
/-- The three cells of an element, ready for a store. -/
theorem OwnN.cells3 {base : Nat} {w : World} {g n c : Nat} {L : List Pin} (h : OwnN base w (.slice (some ⟨g, 0, none⟩) n c) L) {k : Nat} (hk : k < n) :
    (∃ u, w.cell? ⟨g, k * 3, none⟩ = some u) ∧ (∃ u, w.cell? ⟨g, k * 3 + 1, none⟩ = some u) ∧ (∃ u, w.cell? ⟨g, k * 3 + 2, none⟩ = some u) ∧ (∀ j, w.frozen? ⟨g, j, none⟩ = false) ∧ g < w.heap.size ∧ base ≤ g ∧ n ≤ c ∧ c ≤ maxLen := by
  rcases h.2 with ⟨hv, -⟩ | ⟨g2, cap, cur, hv, hb, hc, hnc, hcm, hcs, -⟩
  · cases hv
  · cases hv
    have hcl : ∀ j, j < 3 → ∃ u, w.cell? ⟨g, k * 3 + j, none⟩ = some u := fun j hj => by
      rw [cell_of_row _ _ _ _ _ _ hc, Array.getElem?_eq_getElem (by omega)]; exact ⟨_, rfl⟩
    exact ⟨hcl 0 (by omega), hcl 1 (by omega), hcl 2 (by omega), fun j => frozen_of_row _ _ _ _ _ hc, heap_lt hc, hb, hnc, hcm⟩

set_option maxHeartbeats 8000000 in
set_option maxRecDepth 100000 in
theorem tab_load_spec (a : Option Addr) (n c : Nat) (L : List Pin) (cap : Int) (w : World) (h : SlN w a n c L) (_hcap : (Lit.int .i64 cap).wf = true) :
    Calls Tryd.prog 9 #[.slice a n c, .int .i64 cap] w fun e w' => e = .returned (.bool true) ∧ Below w.heap.size w w' := by
  have HSP := Lib.hid (keep_smallPins 60 a n c L w h)
  have HAW := Lib.hid tab_awake
  by_cases hsm : n ≤ 60 ∧ ∀ p ∈ L, p.h.length ≤ 300
  · have hb : (decide (n ≤ 60) && L.all fun x => decide (x.h.length ≤ 300)) = true := by
      rw [decide_eq_true hsm.1, Bool.true_and, List.all_eq_true]; exact fun p hp => decide_eq_true (hsm.2 p hp)
    rw [hb] at HSP
    have HSP := Lib.hid HSP.out
    have hL : ∀ p ∈ L, p.h.length ≤ 1000000 := fun p hp => Nat.le_trans (hsm.2 p hp) (by omega)
    have hn : n ≤ 1000000 := by omega
    have HSL := Lib.hid h
    have HOP := Lib.hid (fun W (hB : Below w.heap.size w W) => keep_ownPins a n c L W (h.ext hB) hn)
    have HRL := Lib.hid (fun W (hB : Below w.heap.size w W) => rt_load cap a n c L W (h.ext hB) hn hL)
    have HTL := Lib.hid (fun W a1 c1 (h1 : SlN W a1 n c1 L) => tb_load cap a1 n c1 L W h1 hn hL)
    obtain ⟨z, hz⟩ : ∃ z, Tab.load L cap = z := ⟨_, rfl⟩
    unfold LoadP at HTL
    rw [hz] at HRL HTL
    have HLN := Lib.hid h.len
    have hn60 : (n : Int) ≤ 60 := by omega
    have HN := Lib.hid hn
    clear hb h hL hn hsm hz
    go_enter Tryd.func9, Tryd.ntmps9
    go_wp2_with fail
    refine HSP.out.mono ?_; rintro e w1 ⟨rfl, hb1⟩
    go_wp2_with fail
    refine (HOP.out _ hb1).mono ?_; rintro e w2 ⟨v, rfl, ho, hb2⟩
    have hB2 := hb1.trans (hb2.mono hb1.size)
    obtain ⟨ao, co, hv, hs, -⟩ := ho.sl
    rw [HLN.out] at hs hv
    subst hv
    have had := ho.addr.2
    have HO := Lib.hid ho
    have HAD := Lib.hid had
    have HS := Lib.hid hs
    clear had hs ho
    go_wp2_with fail
    refine (HTL.out _ _ _ HS.out).mono ?_
    rintro e w3 ⟨hb3, ⟨hz0, rfl⟩ | ⟨hz0, rfl, vt, hT⟩⟩
    · have hB3 := hB2.trans (hb3.mono hB2.size)
      have HKP := Lib.hid (fun W (hB : Below w2.heap.size w2 W) (hB' : Below w.heap.size w W) => keep_pins ao a n n co c L L W (HS.out.ext hB) (HSL.out.ext hB'))
      rw [decide_eq_true rfl] at HKP
      have t1 : (z != z) = false := by simp
      have t2 : (z != 0) = true := by simpa using hz0
      clear hz0
      go_wp2_with fail
      refine (HRL.out _ hB3).mono ?_; rintro e w4 ⟨rfl, hb4⟩
      have hB4 := hB3.trans (hb4.mono hB3.size)
      go_wp2_with fail
      refine (HKP.out _ (hb3.trans (hb4.mono hb3.size)) hB4).mono ?_; rintro e w5 ⟨rfl, hb5⟩
      have hB5 := hB4.trans (hb5.mono hB4.size)
      go_wp2_with fail
      refine (HAW.out _).mono ?_; rintro e w6 ⟨rfl, hb6⟩
      go_wp2_with fail
      go_ret
      exact ⟨rfl, hB5.trans (hb6.mono hB5.size)⟩
    · subst hz0
      have hB3 := hB2.trans (hb3.mono hB2.size)
      have HKP := Lib.hid (fun W (hB : Below w2.heap.size w2 W) (hB' : Below w.heap.size w W) => keep_pins ao a n n co c L L W (HS.out.ext hB) (HSL.out.ext hB'))
      rw [decide_eq_true rfl] at HKP
      have HT := Lib.hid hT
      clear hT
      go_wp2_with fail
      refine (HRL.out _ hB3).mono ?_; rintro e w4 ⟨rfl, hb4⟩
      have hB4 := hB3.trans (hb4.mono hB3.size)
      go_wp2_with fail
      refine (HKP.out _ (hb3.trans (hb4.mono hb3.size)) hB4).mono ?_; rintro e w5 ⟨rfl, hb5⟩
      have hB5 := hB4.trans (hb5.mono hB4.size)
      have hT5 := (HT.out.ext hb4).ext hb5
      have hO5 := ((HO.out.ext hb3).ext hb4).ext hb5
      have HT5 := Lib.hid hT5
      have HO5 := Lib.hid hO5
      have hz2 : w2.heap.size ≤ w5.heap.size := Nat.le_trans hb3.size (Nat.le_trans hb4.size hb5.size)
      clear hT5 hO5
      go_wp2_with fail
      go_loopw [8] (fun i wr => ∃ k : Nat, k ≤ n ∧ i = .int .i64 (k : Nat) ∧ Hid (∃ L', L'.length = n ∧ OwnN w1.heap.size wr (.slice ao n co) L') ∧ Upd (fun j => (Value.slice ao n co).ownBlock = some j) w5 (fun j => (Value.slice ao n co).ownBlock = some j) wr) (fun i _ => n - (intOf i).toNat)
      case atStart => exact ⟨0, Nat.zero_le _, rfl, Lib.hid ⟨L, HLN.out, HO5.out⟩, Upd.refl _ _⟩
      case round =>
        obtain ⟨k, hk, rfl, HR, hU⟩ := hrel
        have i0 : (0 : Int) ≤ (k : Int) := by omega
        by_cases hlt : k < n
        · have i2 : (k : Int) < (n : Int) := by omega
          obtain ⟨L', hl', ho'⟩ := HR.out
          obtain ⟨gg, rfl⟩ : ∃ g, ao = some ⟨g, 0, none⟩ := by
            rcases HAD.out with e | e
            · subst e
              rcases ho'.2 with ⟨-, h0⟩ | ⟨g, cap, cur, hv, -⟩
              · omega
              · cases hv
            · exact e
          obtain ⟨⟨x0, e0⟩, ⟨x1, e1⟩, ⟨x2, e2⟩, fz, hltg, hbg, hnc, -⟩ := ho'.cells3 hlt
          have HSET := Lib.hid (ho'.set3 (i := k) (by omega) Pin.none)
          have HLL := Lib.hid hl'
          have HU := Lib.hid hU
          clear ho' hl' hU
          go_wp2_with fail
          go_roundw
          case rel => exact ⟨k + 1, by omega, by go_num, Lib.hid ⟨L'.set k Pin.none, by rw [List.length_set]; exact HLL.out, HSET.out⟩, ((HU.out.setCell (g := gg) (.inl rfl) (k * 3) _).setCell (g := gg) (.inl rfl) (k * 3 + 1) _).setCell (g := gg) (.inl rfl) (k * 3 + 2) _⟩
          case measure => simp [intOf]; omega
        · obtain rfl : k = n := by omega
          have hB6 : Below w.heap.size w wr := hU.below hB5 (fun j hj => Nat.le_trans hb1.size (HO5.out.lt j hj).1) hB5.size
          have hT6 : TabW w2.heap.size wr w2.heap.size vt L cap := HT5.out.upd hU (fun j hj he => by
            have h1 := (HO.out.lt j he).2
            rcases hj with rfl | hj
            · omega
            · have h2 := (HT5.out.2.1.lt j hj).1
              omega)
          have HKP2 := Lib.hid (fun W a1 c1 (h1 : SlN W a1 k c1 L) (hB' : Below w.heap.size w W) => keep_pins a1 a k k c1 c L L W h1 (HSL.out.ext hB'))
          rw [decide_eq_true rfl] at HKP2
          have HT6 := Lib.hid (tb_pins hT6 (by rw [HLN.out]; exact HN.out))
          clear hT6
          go_wp2_with fail
          refine HT6.out.mono ?_; rintro e w7 ⟨v7, rfl, ho7, hb7⟩
          have hB7 := hB6.trans (hb7.mono hB6.size)
          obtain ⟨a7, c7, hv7, hs7, -⟩ := ho7.sl
          rw [HLN.out] at hs7 hv7
          subst hv7
          have HS7 := Lib.hid hs7
          clear hs7 ho7
          go_wp2_with fail
          refine (HKP2.out _ _ _ HS7.out hB7).mono ?_; rintro e w8 ⟨rfl, hb8⟩
          have hB8 := hB7.trans (hb8.mono hB7.size)
          go_wp2_with fail
          refine (HAW.out _).mono ?_; rintro e w9 ⟨rfl, hb9⟩
          go_wp2_with fail
          go_ret
          exact ⟨rfl, hB8.trans (hb9.mono hB8.size)⟩
  · have hb : (decide (n ≤ 60) && L.all fun x => decide (x.h.length ≤ 300)) = false := by
      rw [Bool.eq_false_iff]; intro e
      rw [Bool.and_eq_true, List.all_eq_true] at e
      exact hsm ⟨of_decide_eq_true e.1, fun p hp => of_decide_eq_true (e.2 p hp)⟩
    rw [hb] at HSP
    have HSP := Lib.hid HSP.out
    clear hb h hsm
    go_enter Tryd.func9, Tryd.ntmps9
    go_wp2_with fail
    refine HSP.out.mono ?_; rintro e w1 ⟨rfl, hb1⟩
    go_wp2_with fail
    refine (HAW.out _).mono ?_; rintro e w2 ⟨rfl, hb2⟩
    go_wp2_with fail
    go_ret
    exact ⟨rfl, hb1.trans (hb2.mono hb1.size)⟩

end Go.Proofs.YtcmeajaakdaeeaaDoor
