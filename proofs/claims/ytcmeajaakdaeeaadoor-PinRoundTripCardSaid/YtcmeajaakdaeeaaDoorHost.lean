/-
  The walk through host.ValidName.
-/
import Derived.Test.YtcmeajaakdaeeaaDoorIpv4
namespace Go.Proofs.YtcmeajaakdaeeaaDoor
open Go.RowKit Go.Shelf

attribute [local go_sem] Oper.semAt_some

theorem ss_of (s sep : ByteArray) (w : World) :
    Calls Tryd.prog 59 #[.string s, .string sep] w fun e w' => e = .returned (.func (.func 89) #[] #[.pointer (some ⟨w.heap.size + 1, 0, none⟩), .pointer (some ⟨w.heap.size, 0, none⟩), .pointer (some ⟨w.heap.size + 2, 0, none⟩)]) ∧
      w' = ((w.alloc (.cells #[.string s] 9)).alloc (.cells #[.string sep] 9)).alloc (.cells #[.int .i64 0] 3) := by
  have HC := Lib.hid (fun W => callsIn_wide.1 (ss_splitSeq_in Fence.wide 3 trivial rfl s sep 0 W))
  go_enter Tryd.func59, Tryd.ntmps59
  go_wp2_with fail
  refine (HC.out _).mono ?_; rintro e w1 ⟨rfl, rfl⟩
  go_wp2_with fail
  go_ret
  exact ⟨rfl, rfl⟩

/-- Between two rounds of ValidName's loop. -/
def VnI (w : World) (l : List UInt8) (M k : Nat) (W : World) : Prop := Below w.heap.size w W ∧ Boxed W w.heap.size 4 (.bool false) ∧ M ≤ W.heap.size ∧ Hid (∀ j, j < k → Lab.valid ((Host.split l)[j]?.getD []) = true)
/-- The loop was left. -/
def VnX (w : World) (l : List UInt8) (c : Code) (_k : Nat) (W : World) : Prop := c = .ret ∧ Below w.heap.size w W ∧ Boxed W w.heap.size 4 (.bool false) ∧ Hid (Host.name l = false)

theorem boxed_put {W : World} {b l : Nat} {t : TypeId} {v : Value} {o o' : Obj} (h : Boxed W b t v) (hl : W.heap[l]? = some o) (hc : o.isCells = false) : Boxed (W.putObj l o') b t v := by
  refine (World.putObj_heap_other ?_).trans h
  intro e
  subst e
  have h' : W.heap[b]? = some (.cells #[v] t (0, 0)) := h
  rw [h'] at hl; cases hl; cases hc
theorem below_put {B : Nat} {w W : World} (h : Below B w W) {l : Nat} (hl : B ≤ l) {o : Obj} (_hlo : W.heap[l]? = some o) (_hc : o.isCells = false) (hBl : B ≤ W.heap.size) (o' : Obj) : Below B w (W.putObj l o') := by
  refine h.trans ((Below.refl B W).grown (grownBy_putObj' W l o') hBl (fun k e => by cases e; exact hl))
theorem below_keeps {B : Nat} {W W' : World} (h : Below W.heap.size W W') : KeepsFrom B W W' := ⟨h.size, fun _ _ _ hk _ => (h.block _ (heap_lt hk)).trans hk⟩
theorem VnI.put {w : World} {l : List UInt8} {M k : Nat} {W : World} (h : VnI w l M k W) (hM : w.heap.size ≤ M) {b : Nat} (hb : w.heap.size + 1 ≤ b) {o : Obj} (ho : W.heap[b]? = some o) (hc : o.isCells = false) (o' : Obj) : VnI w l M k (W.putObj b o') := by
  obtain ⟨h1, h2, h3, h4⟩ := h
  exact ⟨below_put h1 (by omega) ho hc (by omega) o', boxed_put h2 ho hc, by simpa using h3, h4⟩
theorem VnI.set {w : World} {l : List UInt8} {M k : Nat} {W : World} (h : VnI w l M k W) {b : Nat} (hb : w.heap.size + 1 ≤ b) (v : Value) : VnI w l M k (W.setCell ⟨b, 0, none⟩ v) := by
  obtain ⟨h1, h2, h3, h4⟩ := h
  exact ⟨h1.setCell (p := ⟨b, 0, none⟩) (by show w.heap.size ≤ b; omega) v, (heap_setCell_other _ _ _ _ (by show w.heap.size ≠ b; omega)).trans h2, by simpa using h3, h4⟩
theorem VnX.put {w : World} {l : List UInt8} {c : Code} {k : Nat} {W : World} (h : VnX w l c k W) (hw : w.heap.size ≤ W.heap.size) {b : Nat} (hb : w.heap.size + 1 ≤ b) {o : Obj} (ho : W.heap[b]? = some o) (hc : o.isCells = false) (o' : Obj) : VnX w l c k (W.putObj b o') := by
  obtain ⟨h0, h1, h2, h4⟩ := h
  exact ⟨h0, below_put h1 (by omega) ho hc hw o', boxed_put h2 ho hc, h4⟩

set_option maxRecDepth 100000 in
set_option maxHeartbeats 4000000 in
theorem ho_validName (l : List UInt8) (hl : l.length ≤ 1000000) (w : World) :
    Calls Tryd.prog 42 #[.string (str l)] w fun e w' => e = .returned (.bool (Host.name l)) ∧ Below w.heap.size w w' := by
  have hsz := strSize l
  have HNU := Lib.hid (fun W => ip_numeric l hl W)
  have HSP := Lib.hid (fun W => ss_of (str l) ⟨#[46]⟩ W)
  have hbx := Boxed.new w 4 (.bool false)
  have hb0 := (Below.refl w.heap.size w).alloc (Nat.le_refl _) (.cells #[.bool false] 4)
  have HB0 := Lib.hid (And.intro hbx hb0)
  clear hbx hb0
  obtain ⟨sv, hsv⟩ : ∃ sv, str l = sv := ⟨_, rfl⟩
  have HSV := Lib.hid hsv
  rw [hsv] at hsz HNU HSP ⊢
  clear hsv
  by_cases h1 : 253 < l.length
  · have HF := Lib.hid (Host.name_long h1)
    have i1 : (253 : Int) < (l.length : Int) := by omega
    clear HNU HSP
    go_enter Tryd.func42, Tryd.ntmps42
    go_wp2_with fail
    refine bodyPost_ret (v := .bool false) (by simp [results, Tryd.results42, go_sem]) rfl ⟨by rw [HF.out], ?_⟩
    exact (HB0.out.2)
  have i1 : ¬ (253 : Int) < (l.length : Int) := by omega
  have HNN := Lib.hid (fun h => Host.name_num (l := l) h)
  have HNP := Lib.hid (fun h => Host.name_parts (l := l) (by omega) h)
  obtain ⟨nu, hnu⟩ : ∃ nu, Host.numeric l = nu := ⟨_, rfl⟩
  rw [hnu] at HNU HNN HNP
  clear hnu
  have hz0 : (w.alloc (.cells #[.bool false] 4)).heap.size = w.heap.size + 1 := by simp
  have HZ0 := Lib.hid hz0
  clear hz0
  cases nu with
  | true =>
    have HF := Lib.hid (HNN.out rfl)
    clear HSP
    go_enter Tryd.func42, Tryd.ntmps42
    go_wp2_with fail
    refine (HNU.out _).mono ?_; rintro e w1 ⟨rfl, hB1⟩
    rw [HZ0.out] at hB1
    have hbx1 : Boxed w1 w.heap.size 4 (.bool false) := (hB1.block _ (Nat.lt_succ_self _)).trans HB0.out.1
    have c1 := hbx1.cell
    have f1 := hbx1.frozen
    have c2 := (hbx1.set (.bool false)).cell
    go_wp2_with fail
    refine bodyPost_ret (v := .bool false) (by simp [results, Tryd.results42, go_sem, c2]) rfl ⟨by rw [HF.out], ?_⟩
    exact (HB0.out.2.trans (hB1.mono (Nat.le_succ _))).setCell (Nat.le_refl _) _
  | false =>
    have HF := Lib.hid (HNP.out rfl)
    refine (callsIn_wide (n := 6)).1 ?_
    refine callsIn_of_wp_marks Tryd.func42 rfl trivial ?_ rfl
    simp only [Tryd.ntmps42, List.size_toArray, List.length_cons, List.length_nil, Nat.reduceAdd, Nat.reduceSub, Array.replicate_succ, Array.replicate_zero, List.push_toArray, List.append_toArray, List.nil_append, List.cons_append]
    refine wpIn_wide.2 ?_
    go_wp2_with fail
    refine (HNU.out _).mono ?_; rintro e w1 ⟨rfl, hB1⟩
    rw [HZ0.out] at hB1
    have hbx1 : Boxed w1 w.heap.size 4 (.bool false) := (hB1.block _ (Nat.lt_succ_self _)).trans HB0.out.1
    go_wp2_with fail
    refine (HSP.out _).mono ?_; rintro e w2 ⟨rfl, rfl⟩
    go_wp2_with fail
    obtain ⟨X, hX⟩ : ∃ X, w1.heap.size = X := ⟨_, rfl⟩
    have hwX : w.heap.size + 1 ≤ X := by rw [← hX]; have := hB1.size; rw [HZ0.out] at this; exact this
    have hb3 := (((Below.refl w1.heap.size w1).alloc (Nat.le_refl _) (.cells #[.string sv] 9)).alloc (by simp) (.cells #[.string ⟨#[46]⟩] 9)).alloc (by simp; omega) (.cells #[.int .i64 0] 3)
    have hx2 : Boxed (((w1.alloc (.cells #[.string sv] 9)).alloc (.cells #[.string ⟨#[46]⟩] 9)).alloc (.cells #[.int .i64 0] 3)) w1.heap.size 9 (.string sv) := ((Boxed.new w1 _ _).alloc _).alloc _
    have hx1 : Boxed (((w1.alloc (.cells #[.string sv] 9)).alloc (.cells #[.string ⟨#[46]⟩] 9)).alloc (.cells #[.int .i64 0] 3)) (w1.heap.size + 1) 9 (.string ⟨#[46]⟩) := by
      unfold Boxed; rw [heap_alloc_lt _ _ _ (by simp), heap_alloc_eq _ _ _ (by simp)]
    have hx3 : Boxed (((w1.alloc (.cells #[.string sv] 9)).alloc (.cells #[.string ⟨#[46]⟩] 9)).alloc (.cells #[.int .i64 0] 3)) (w1.heap.size + 2) 3 (.int .i64 0) := by
      unfold Boxed; rw [heap_alloc_eq _ _ _ (by simp)]
    have hz3 : (((w1.alloc (.cells #[.string sv] 9)).alloc (.cells #[.string ⟨#[46]⟩] 9)).alloc (.cells #[.int .i64 0] 3)).heap.size = w1.heap.size + 3 := by simp
    generalize (((w1.alloc (.cells #[.string sv] 9)).alloc (.cells #[.string ⟨#[46]⟩] 9)).alloc (.cells #[.int .i64 0] 3)) = w3 at *
    rw [hX] at hb3 hx1 hx2 hx3 hz3 ⊢
    have hbx3 : Boxed w3 w.heap.size 4 (.bool false) := (hb3.block _ (by omega)).trans hbx1
    have hB3 : Below w.heap.size w w3 := (HB0.out.2.trans (hB1.mono (Nat.le_succ _))).trans (hb3.mono (by omega))
    have hseq := ss_seq 3 (by omega) (X + 1) X (X + 2) l hl w3 (by omega) (by omega) (by omega) (by omega) (by omega) hx1.cell (by rw [HSV.out]; exact hx2) hx3.cell
    obtain ⟨N, hN⟩ : ∃ N, (Host.split l).length = N := ⟨_, rfl⟩
    rw [hN] at hseq
    have HN := Lib.hid hN
    have HSEQ := Lib.hid hseq
    have HPL := Lib.hid (fun k (hk : k < N) => show ((Host.split l)[k]?.getD []).length ≤ 1000000 from by
      have hkl : k < (Host.split l).length := by rw [HN.out]; exact hk
      rw [List.getElem?_eq_getElem hkl, Option.getD_some]
      exact Nat.le_trans (Host.split_part_len l _ (List.getElem_mem hkl)) hl)
    clear hseq hN hx1 hx2 hx3 hB1 hbx1 hX
    refine (wpIn_wide (n := 4)).1 ?_
    refine wpIn_rangeIxS (Kp := KpS (X + 1) X (X + 2)) rfl (by omega) (gf := 89) (lb := #[.pointer (some ⟨X + 1, 0, none⟩), .pointer (some ⟨X, 0, none⟩), .pointer (some ⟨X + 2, 0, none⟩)]) rfl trivial (enters_of Tryd.func89 (by kernel_rfl) rfl) (by omega) HSEQ.out kpS_t
      (fun W l o o' hl h1 h2 => ⟨World.putObj_heap_other (by omega), World.putObj_heap_other (by omega), World.putObj_heap_other (by omega)⟩) (Below.refl _ _) (fun _ => rfl)
      (VnI w l (X + 3)) (VnX w l) (fun k W l o o' hI hl h1 h2 => hI.put (by omega) (by omega) h1 h2 o') (fun cd k W l o o' hI hl h1 h2 => hI.put hI.2.1.size (by omega) h1 h2 o') (fun k W v hI => hI.set hwX v)
      ?h0 (fun k a1 W => a1 = { tmps := #[.string sv, undef, .pointer (some ⟨w.heap.size, 0, none⟩), .string (str ((Host.split l)[k]?.getD [])), .string sv, .int .i64 l.length, .bool false, .bool false, .string sv, .bool false, .bool false, .string sv, .func (.func 89) #[] #[.pointer (some ⟨X + 1, 0, none⟩), .pointer (some ⟨X, 0, none⟩), .pointer (some ⟨X + 2, 0, none⟩)], .string (str ((Host.split l)[k]?.getD [])), undef, undef, undef], defers := [] } ∧ VnI w l (X + 3) k W)
      (fun a1 k W l o o' hI hl h1 h2 => ⟨hI.1, hI.2.put (by omega) (by omega) h1 h2 o'⟩)
      ?assign ?body ?done ?stop
    case h0 =>
      intro o o'
      have hbe := ((Below.refl _ w3).alloc (Nat.le_refl _) o).alloc (by simp) o'
      exact ⟨hB3.trans (hbe.mono hB3.size), (hbe.block _ (heap_lt hbx3)).trans hbx3, by have := hbe.size; omega, Lib.hid (fun j hj => by omega)⟩
    case assign =>
      intro lp k W hI hk
      unfold ssEnc
      gi_wp2
      exact ⟨below_keeps (Below.refl _ _), ⟨rfl, rfl, rfl⟩, by trivial, hI⟩
    case body =>
      rintro lp k a1 W ⟨rfl, hI⟩ hk
      obtain ⟨g1, g2, g3, g4⟩ := hI
      obtain ⟨p, hp⟩ : ∃ p, (Host.split l)[k]?.getD [] = p := ⟨_, rfl⟩
      have hpl := HPL.out k hk
      rw [hp] at hpl ⊢
      have HC := Lib.hid ((callsIn_wide (n := 1)).2 (lab_valid p W hpl))
      have HPP := Lib.hid hp
      obtain ⟨vb, hvb⟩ : ∃ vb, Lab.valid p = vb := ⟨_, rfl⟩
      rw [hvb] at HC
      have HVB := Lib.hid hvb
      obtain ⟨sp, hsp⟩ : ∃ sp, str p = sp := ⟨_, rfl⟩
      rw [hsp] at HC ⊢
      clear hp hvb hsp
      have hw1 : Fence.wide.fn 60 := trivial
      cases vb with
      | true =>
        gi_wp2_with (gi_at_call 60; go_must (refine (HC.out.inRound lp).mono ?_); rintro e w4 ⟨rfl, hb4⟩)
        refine ⟨below_keeps hb4, ⟨hb4.block _ (by omega), hb4.block _ (by omega), hb4.block _ (by omega)⟩, g1.trans (hb4.mono g1.size), (hb4.block _ (heap_lt g2)).trans g2, by have := hb4.size; omega, Lib.hid (fun j hj => ?_)⟩
        rcases Nat.lt_or_ge j k with e | e
        · exact g4.out j e
        · obtain rfl : j = k := by omega
          rw [HPP.out]; exact HVB.out
      | false =>
        gi_wp2_with (gi_at_call 60; go_must (refine (HC.out.inRound lp).mono ?_); rintro e w4 ⟨rfl, hb4⟩; have bx4 : Boxed w4 w.heap.size 4 (.bool false) := (hb4.block _ (heap_lt g2)).trans g2; have c4 := bx4.cell; have f4 := bx4.frozen)
        refine ⟨(below_keeps hb4).trans ((KeepsOthers.setCell _ _ _).from _), rfl, (g1.trans (hb4.mono g1.size)).setCell (Nat.le_refl _) _, bx4.set _, Lib.hid ?_⟩
        rw [HF.out, List.all_eq_false]
        have hkl : k < (Host.split l).length := by rw [HN.out]; exact hk
        have hpp := HPP.out
        rw [List.getElem?_eq_getElem hkl, Option.getD_some] at hpp
        exact ⟨_, List.getElem_mem hkl, by rw [hpp, HVB.out]; decide⟩
    case done =>
      intro D W hD hI hK
      obtain ⟨g1, g2, g3, g4⟩ := hI
      have c4 := g2.cell
      have f4 := g2.frozen
      have HFT := Lib.hid (show Host.name l = true by
        rw [HF.out, List.all_eq_true]
        intro x hx
        obtain ⟨j, hj, rfl⟩ := List.mem_iff_getElem.1 hx
        have := g4.out j (by rw [← HN.out]; exact hj)
        rw [List.getElem?_eq_getElem hj, Option.getD_some] at this
        exact this)
      gi_wp2
      go_wp2
      have hD2 : (W.setCell ⟨w.heap.size, 0, none⟩ (.bool true)).heap[D]? = some (.deferred (some [])) := (heap_setCell_other _ _ _ _ (show D ≠ w.heap.size by omega)).trans hK
      have d2 := (boxed_put (g2.set (.bool true)) (o' := .deferred none) hD2 rfl).cell
      refine ⟨by simp, .inl ⟨_, _, rfl, run_takeDeferred hD2, ⟨.bool true, by simp [results, Tryd.results42, go_sem, d2], ?_⟩⟩⟩
      exact ⟨by rw [HFT.out], below_put (g1.setCell (Nat.le_refl _) _) (by omega) hD2 rfl (by simp; omega) _⟩
    case stop =>
      rintro D cd k W hD hk hI hK
      obtain ⟨rfl, g1, g2, g4⟩ := hI
      have d2 := (boxed_put g2 (o' := .deferred none) hK rfl).cell
      gi_wp2
      refine ⟨by simp, .inl ⟨_, _, rfl, run_takeDeferred hK, ⟨.bool false, by simp [results, Tryd.results42, go_sem, d2], ?_⟩⟩⟩
      exact ⟨by rw [g4.out], below_put g1 (by omega) hK rfl g1.size _⟩

end Go.Proofs.YtcmeajaakdaeeaaDoor
