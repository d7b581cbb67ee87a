/-
  Texts in one: TabLv, TabLv2.
-/
import Derived.Test.YtcmeajaakdaeeaaGreatDoorRun23
import Derived.Test.YtcmeajaakdaeeaaGreatDoorRun18
import Derived.Test.YtcmeajaakdaeeaaGreatDoorRun4
import Derived.Test.YtcmeajaakdaeeaaGreatDoorRun25
import Derived.Test.YtcmeajaakdaeeaaGreatDoorRun24
/-
  The statements' helper that collects what All yields.
-/
namespace Go.Proofs.YtcmeajaakdaeeaaGreatDoor
open Go.RowKit Go.Shelf

attribute [local go_sem] Oper.semAt_some

theorem cellsO_ne {W : World} {b l : Nat} {cs : Array Value} {t : TypeId} {fr : Nat × Nat} {o : Obj} (h : W.heap[b]? = some (.cells cs t fr)) (hl : W.heap[l]? = some o) (ho : o.isCells = false) : b ≠ l := by
  rintro rfl; rw [h] at hl; cases hl; simp [Obj.isCells] at ho
theorem OwnN.putO {base : Nat} {W : World} {v : Value} {L : List Pin} (h : OwnN base W v L) {l : Nat} {o o' : Obj} (hl : W.heap[l]? = some o) (hc : o.isCells = false) : OwnN base (W.putObj l o') v L := by
  refine ⟨h.1, ?_⟩
  rcases h.2 with hn | ⟨g, cap, cur, rfl, hb, hgg, rest⟩
  · exact .inl hn
  · exact .inr ⟨g, cap, cur, rfl, hb, (World.putObj_heap_other (cellsO_ne hgg hl hc)).trans hgg, rest⟩
theorem boxed_at {W W' : World} {B : Nat} {t : TypeId} {v : Value} (h : Boxed W B t v) (e : W'.heap[B]? = W.heap[B]?) : Boxed W' B t v := e.trans h

/-- append of one pin, inside a fence. -/
theorem wpListIn_append_one {F : Fence} {n : Nat} {w : World} {ops : Array Oper} {rest : List Oper} {o : Oper} {a : Act} {Q : Exit → Act → World → Prop} (hgd : o.guard = none) (s x : Operand)
    (ho : o.op = .call { callee := .builtin .append, args := #[s, x], argTypes := #[28, 28] })
    (base : Nat) (v : Value) (l : List Pin) (hs : a.eval s = v) (hown : OwnN base w v l) (vb : Nat) (p : Pin) (hx : a.eval x = .slice (some ⟨vb, 0, none⟩) 1 1) (hsl : SlN w (some ⟨vb, 0, none⟩) 1 1 [p])
    (hlen : l.length + 1 ≤ 1000000000) (hbase : base ≤ w.heap.size)
    (h : ∀ v' w', OwnN base w' v' (l ++ [p]) → w.grownBy w' v.ownBlock → wpListIn F n Tryz.prog ops Q rest (a.put o.dst v') w') : wpListIn F n Tryz.prog ops Q (o :: rest) a w := by
  obtain ⟨i0, hi, hz0, hz1, hz2⟩ := info_parts infoPin
  refine wpListIn_append_own w hgd s x 28 ho base 23 i0 _ 3 32 Tryz.underlying28 hi hz0 hz1 hz2 rfl (by decide) v l.length _ hs hown ⟨vb, 0, none⟩ 1 1 (([p] : List Pin).flatMap pl) hx rfl hsl.cellsOf (pl_one _) (by unfold maxLen; omega) (by omega) hbase ?_
  intro v' w' h1 h2 _
  refine h v' w' ?_ h2
  unfold OwnN; rw [List.length_append, List.flatMap_append]; exact h1

/-- What a round must leave alone: the iterator's box, and the blocks of F. -/
def KpF (bt : Nat) (F : Nat → Prop) (A B : World) : Prop := B.heap[bt]? = A.heap[bt]? ∧ ∀ k, F k → B.heap[k]? = A.heap[k]?
theorem kpF_t {bt : Nat} {F : Nat → Prop} {A B C : World} (h : KpF bt F A B) (k : KpF bt F B C) : KpF bt F A C := ⟨k.1.trans h.1, fun j hj => (k.2 j hj).trans (h.2 j hj)⟩
theorem kpF_refl (bt : Nat) (F : Nat → Prop) (A : World) : KpF bt F A A := ⟨rfl, fun _ _ => rfl⟩
theorem KpF.toT {bt g : Nat} {v : Value} {A B : World} (h : KpF bt (fun k => k = g ∨ v.ownBlock = some k) A B) : KpT bt g v A B := ⟨h.1, h.2 g (.inl rfl), fun j hj => h.2 j (.inr hj)⟩
/-- All of this table yields these pins. -/
def AllSeq (p : Option Addr) (F : Nat → Prop) (L : List Pin) (w : World) : Prop :=
  ∀ bt W, Below w.heap.size w W → Boxed W bt 25 (.pointer p) → SeqIx Fence.wide 3 Tryz.prog 42 #[.pointer (some ⟨bt, 0, none⟩)] (tEnc L) (KpF bt F) L.length W
theorem allSeq_tab {B : Nat} {w : World} {g : Nat} {v : Value} {L : List Pin} {cap : Int} (h : TabW B w g v L cap) : AllSeq (some ⟨g, 0, none⟩) (fun k => k = g ∨ v.ownBlock = some k) L w :=
  fun bt _ hW hb => (tb_seq bt (h.ext hW) hb).kp (fun _ _ k => k.toT)

set_option maxRecDepth 100000 in
theorem nt_len_all (w : World) : Calls Tryz.prog 12 #[.pointer none] w fun e w' => e = .returned (.int .i64 0) ∧ w = w' := by
  go_enter Tryz.func12, Tryz.ntmps12
  go_wp2_with fail
  go_ret
  exact ⟨rfl, rfl⟩

set_option maxRecDepth 100000 in
set_option maxHeartbeats 2000000 in
theorem allSeq_nil (F : Nat → Prop) (w : World) : AllSeq none F [] w := by
  intro bt w2 _ hb l J Jx W hW hY hJ
  have hbx := boxedT_ext hb hW
  have HLEN := Lib.hid ((callsIn_wide (n := 2)).2 (nt_len_all W))
  have HJ := Lib.hid hJ
  have x1 := hbx.cell
  have hw1 : Fence.wide.fn 12 := trivial
  clear hbx hY hJ hb
  refine callsIn_of_wp Tryz.func42 rfl trivial ?_ rfl
  simp only [Tryz.ntmps42, List.size_toArray, List.length_cons, List.length_nil, Nat.reduceAdd, Nat.reduceSub, Array.replicate_succ, Array.replicate_zero, List.push_toArray, List.append_toArray, List.nil_append, List.cons_append]
  gi_wp2_with (gi_at_call 12; go_must (refine HLEN.out.mono ?_); rintro e w1 ⟨rfl, rfl⟩)
  gi_loopw [6] (fun i wr => i = .int .i64 0 ∧ J 0 wr) (fun _ _ => 0)
  case atStart => exact ⟨rfl, HJ.out⟩
  case round =>
    obtain ⟨rfl, hJs⟩ := hrel
    gi_wp2
    go_end0
    exact ⟨⟨_, rfl⟩, .inl hJs⟩

/-- Between the rounds of all. -/
structure AlI (w : World) (L : List Pin) (k : Nat) (v : Value) (W : World) : Prop where
  out : Boxed W (w.heap.size + 1 + 1) 28 v
  own : OwnN (w.heap.size + 4) W v (L.take k)
  res : Boxed W w.heap.size 28 (.slice none 0 0)
  good : Boxed W (w.heap.size + 1) 4 (.bool false)
  bel : Below w.heap.size w W
  big : w.heap.size + 4 ≤ W.heap.size
theorem AlI.put {w : World} {L : List Pin} {k : Nat} {v : Value} {W : World} (h : AlI w L k v W) {l : Nat} {o o' : Obj} (hlb : w.heap.size ≤ l) (hl : W.heap[l]? = some o) (hc : o.isCells = false) : AlI w L k v (W.putObj l o') :=
  ⟨boxed_put h.out hl hc, h.own.putO hl hc, boxed_put h.res hl hc, boxed_put h.good hl hc, below_put h.bel hlb hl hc h.bel.size _, by simpa using h.big⟩

set_option maxRecDepth 100000 in
set_option maxHeartbeats 4000000 in
theorem al_all (p : Option Addr) (F : Nat → Prop) (L : List Pin) (w : World) (hF : ∀ k, F k → k < w.heap.size) (hS : AllSeq p F L w) (hL : L.length ≤ 100000) :
    Calls Tryz.prog 7 #[.pointer p] w fun e w' => ∃ v, e = .returned (.tuple #[v, .bool true]) ∧ OwnN w.heap.size w' v L ∧ Below w.heap.size w w' := by
  have HSQ := Lib.hid hS
  have HFF := Lib.hid hF
  clear hS hF
  refine (callsIn_wide (n := 6)).1 ?_
  refine callsIn_of_wp_marks Tryz.func7 rfl trivial ?_ rfl
  simp only [Tryz.ntmps7, List.size_toArray, List.length_cons, List.length_nil, Nat.reduceAdd, Nat.reduceSub, Array.replicate_succ, Array.replicate_zero, List.push_toArray, List.append_toArray, List.nil_append, List.cons_append]
  refine wpIn_wide.2 ?_
  go_wp2_with fail
  refine (tb_all _ _).mono ?_; rintro e w4 ⟨rfl, hw4⟩
  have hz : (((w.alloc (.cells #[.slice none 0 0] 28)).alloc (.cells #[.bool false] 4)).alloc (.cells #[.slice none 0 0] 28)).heap.size = w.heap.size + 3 := by simp
  rw [hz]
  have hfe := fun (W : World) => run_eql_func_nil (P := Tryz.prog) W Tryz.underlying59 (Fn.func 42) #[] #[.pointer (some ⟨w.heap.size + 3, 0, none⟩)]
  go_wp2_with fail
  have hA0 : AlI w L 0 (.slice none 0 0) (((w.alloc (.cells #[.slice none 0 0] 28)).alloc (.cells #[.bool false] 4)).alloc (.cells #[.slice none 0 0] 28) |>.alloc (.cells #[.pointer p] 25)) := by
    refine ⟨?_, OwnN.nil _ _, ?_, ?_, ((((Below.refl _ _).alloc (Nat.le_refl _) _).alloc (by simp) _).alloc (by simp; omega) _).alloc (by simp; omega) _, by simp⟩
    · unfold Boxed; rw [heap_alloc_lt _ _ _ (by simp), heap_alloc_eq _ _ _ (by simp)]
    · unfold Boxed; rw [heap_alloc_lt _ _ _ (by simp; omega), heap_alloc_lt _ _ _ (by simp; omega), heap_alloc_lt _ _ _ (by simp), heap_alloc_eq _ _ _ rfl]
    · unfold Boxed; rw [heap_alloc_lt _ _ _ (by simp), heap_alloc_lt _ _ _ (by simp), heap_alloc_eq _ _ _ (by simp)]
  have hP4 : Boxed (((w.alloc (.cells #[.slice none 0 0] 28)).alloc (.cells #[.bool false] 4)).alloc (.cells #[.slice none 0 0] 28) |>.alloc (.cells #[.pointer p] 25)) (w.heap.size + 3) 25 (.pointer p) := by
    unfold Boxed; rw [heap_alloc_eq _ _ _ (by simp)]
  have hz4 : (((w.alloc (.cells #[.slice none 0 0] 28)).alloc (.cells #[.bool false] 4)).alloc (.cells #[.slice none 0 0] 28) |>.alloc (.cells #[.pointer p] 25)).heap.size = w.heap.size + 4 := by simp
  rw [← hw4] at hA0 hP4 hz4 ⊢
  clear hw4 hfe hz
  obtain ⟨R, hR⟩ : ∃ R, w.heap.size = R := ⟨_, rfl⟩
  have HSEQ := Lib.hid (HSQ.out (R + 3) w4 hA0.bel (by rw [← hR]; exact hP4))
  have HA0 := Lib.hid hA0
  have HRR := Lib.hid hR
  rw [hR] at hz4 ⊢
  obtain ⟨N, hN⟩ : ∃ N, L.length = N := ⟨_, rfl⟩
  rw [hN] at HSEQ hL
  have HN := Lib.hid hN
  clear hA0 hP4 hN hR
  refine (wpIn_wide (n := 4)).1 ?_
  refine wpIn_rangeIx2 (Kp := KpF (R + 3) F) (D := Nat) rfl (by omega) (gf := 42) (lb := #[.pointer (some ⟨R + 3, 0, none⟩)]) rfl trivial (enters_of Tryz.func42 (by kernel_rfl) rfl) HSEQ.out kpF_t
    (fun W l o o' hl h1 h2 => ⟨World.putObj_heap_other (by omega), fun k hk => World.putObj_heap_other (by have := HFF.out k hk; have := HRR.out; omega)⟩) (Below.refl _ _) (fun _ => rfl)
    (fun k W => ∃ v, AlI w L k v W) (fun _ _ _ => False)
    (fun k W l o o' ⟨v, hI⟩ hl h1 h2 => ⟨v, hI.put (by have := HRR.out; omega) h1 h2⟩) (fun cd k W l o o' hI hl h1 h2 => hI.elim)
    ?h0 (fun d k W => ∃ v, AlI w L k v W ∧ PBox W d (str (L[k]?.getD Pin.none).h) (L[k]?.getD Pin.none).s (L[k]?.getD Pin.none).x ∧ v.ownBlock ≠ some d ∧ R + 4 ≤ d)
    (fun d k W l o o' ⟨v, hI, hp, hv, hd⟩ hl h1 h2 => ⟨v, hI.put (by have := HRR.out; omega) h1 h2, (World.putObj_heap_other (cellsO_ne hp h1 h2)).trans hp, hv, hd⟩) ?round ?done ?stop
  case h0 =>
    intro o o'
    have hbe := ((Below.refl _ w4).alloc (Nat.le_refl _) o).alloc (by simp) o'
    have hS := HA0.out
    exact ⟨_, boxedT_ext hS.out hbe, hS.own.ext hbe, boxedT_ext hS.res hbe, boxedT_ext hS.good hbe, hS.bel.trans (hbe.mono hS.bel.size), Nat.le_trans hS.big hbe.size⟩
  case round =>
    rintro l k W ⟨v, hI⟩ hk
    have hbk := (Below.refl W.heap.size W).alloc (Nat.le_refl _) (.cells #[.string (str (L[k]?.getD Pin.none).h), .bool (L[k]?.getD Pin.none).s, .int .i64 (L[k]?.getD Pin.none).x] 23)
    have HBK := Lib.hid hbk
    have HPB := Lib.hid (PBox.new W (str (L[k]?.getD Pin.none).h) (L[k]?.getD Pin.none).s (L[k]?.getD Pin.none).x)
    have HI := Lib.hid hI
    have HTK : Hid (L.take (k + 1) = L.take k ++ [L[k]?.getD Pin.none]) := Lib.hid (by
      have hkl : k < L.length := by rw [HN.out]; exact hk
      rw [List.take_succ_eq_append_getElem hkl, List.getElem?_eq_getElem hkl]; rfl)
    clear hbk hI
    unfold tEnc pv
    generalize L[k]?.getD Pin.none = q at *
    gi_wp2
    have hbk := HBK.out
    have hI := HI.out
    have hRR := HRR.out
    have hbig := hI.big
    refine ⟨below_keeps hbk, ⟨hbk.block _ (by omega), fun j hj => hbk.block _ (by have := HFF.out j hj; omega)⟩, W.heap.size, ⟨v, ⟨boxedT_ext hI.out hbk, hI.own.ext hbk, boxedT_ext hI.res hbk, boxedT_ext hI.good hbk, hI.bel.trans (hbk.mono hI.bel.size), Nat.le_trans hI.big hbk.size⟩, HPB.out, fun e => by have := (hI.own.lt _ e).2; omega, by omega⟩, ?_⟩
    clear hbk hI hbig HI HPB HBK v
    rintro lp W' ⟨v, hI, hp, hv, hd⟩
    have c1 := hI.out.cell
    have f1 := hI.out.frozen
    rw [hRR] at c1 f1
    have hlt1 : R + 1 + 1 < W'.heap.size := by have := hI.big; omega
    obtain ⟨y0, y1, y2⟩ := hp.cells
    have hltd := heap_lt hp
    obtain ⟨a, c, hvv, -, -⟩ := hI.own.sl
    have hlk : (L.take k).length = k := by rw [List.length_take, HN.out]; omega
    rw [hlk] at hvv
    subst hvv
    have HI := Lib.hid hI
    have HP := Lib.hid hp
    have HON := Lib.hid (SlN.one W' q 23)
    have HLK := Lib.hid hlk
    obtain ⟨sq, hsq⟩ : ∃ s, str q.h = s := ⟨_, rfl⟩
    rw [hsq] at y0 HON
    have t1 : ((k : Int) != (k : Int)) = false := by simp
    obtain ⟨D, hD⟩ : ∃ D, W.heap.size = D := ⟨_, rfl⟩
    rw [hD] at y0 y1 y2 hltd hv hd ⊢
    clear hI hp hlk hsq hRR hD
    have HSZ := Lib.hid (show ∀ v1 w1, (W'.alloc (.cells #[.string sq, .bool q.s, .int .i64 q.x] 23)).grownBy w1 (Value.slice a k c).ownBlock → OwnN (w.heap.size + 4) w1 v1 (L.take k ++ [q]) →
        Boxed w1 (R + 1 + 1) 28 (.slice a k c) ∧ w1.heap.size ≥ W'.heap.size + 1 ∧ KeepsFrom w4.heap.size W' (w1.setCell ⟨R + 1 + 1, 0, none⟩ v1) ∧ KpF (R + 3) F W' (w1.setCell ⟨R + 1 + 1, 0, none⟩ v1) ∧ ∃ v, AlI w L (k + 1) v (w1.setCell ⟨R + 1 + 1, 0, none⟩ v1) from by
      intro v1 w1 hg hown
      have hI := HI.out
      have hRR := HRR.out
      have hbe := (Below.refl W'.heap.size W').alloc (Nat.le_refl _) (.cells #[.string sq, .bool q.s, .int .i64 q.x] 23)
      have hsz := hg.size
      have hsz2 : (W'.alloc (.cells #[.string sq, .bool q.s, .int .i64 q.x] 23)).heap.size = W'.heap.size + 1 := by simp
      have hbl : ∀ j, j < W'.heap.size → (Value.slice a k c).ownBlock ≠ some j → w1.heap[j]? = W'.heap[j]? := fun j hj hne => (hg.block j (by omega) (fun e => hne e.symm)).trans (hbe.block j hj)
      have hlo : ∀ j, j < R + 4 → (Value.slice a k c).ownBlock ≠ some j := fun j hj e => by have := (hI.own.lt j e).1; omega
      have hbig := hI.big
      have hne1 : v1.ownBlock ≠ some (R + 1 + 1) := fun e => by have := (hown.lt _ e).1; omega
      have hset : ∀ j, j ≠ R + 1 + 1 → (w1.setCell ⟨R + 1 + 1, 0, none⟩ v1).heap[j]? = w1.heap[j]? := fun j hj => heap_setCell_other _ _ _ _ hj
      refine ⟨(hbl _ (by omega) (hlo _ (by omega))).trans (by rw [← hRR]; exact hI.out), by omega, ?_, ⟨?_, fun j hj => ?_⟩, v1, ?_⟩
      · refine ⟨by simp; omega, fun j o hj ho hc => ?_⟩
        have hjl := heap_lt ho
        rw [hset j (by omega), hbl j hjl (fun e => ?_)]
        · exact ho
        · rcases hI.own.2 with ⟨hv0, -⟩ | ⟨g, cap, cur, hv0, -, hgg, -⟩
          · rw [hv0] at e; cases e
          · rw [hv0] at e; cases e; rw [hgg] at ho; cases ho; simp [Obj.isCells] at hc
      · rw [hset _ (by omega), hbl _ (by omega) (hlo _ (by omega))]
      · have := HFF.out j hj
        rw [hset _ (by omega), hbl _ (by omega) (hlo _ (by omega))]
      · refine ⟨?_, hown.stay (fun j hj => hset j (fun e => hne1 (by rw [hj, e]))) |> fun h => by rw [HTK.out]; exact h, ?_, ?_, ?_, by simp; omega⟩
        · rw [hRR]
          have h9 := hI.out
          rw [hRR] at h9
          exact heap_setCell_same w1 (R + 1 + 1) 0 _ _ v1 ((hbl (R + 1 + 1) (by omega) (hlo _ (by omega))).trans h9)
        · exact ((hset _ (by omega)).trans (hbl _ (by omega) (hlo _ (by omega)))).trans hI.res
        · exact ((hset _ (by omega)).trans (hbl _ (by omega) (hlo _ (by omega)))).trans hI.good
        · exact ((hI.bel.trans (hbe.mono hI.bel.size)).grown hg (by have := hI.bel.size; omega) (fun j hj => by have := (hI.own.lt j hj).1; omega)).setCell (by simp only; omega) v1)
    gi_wp2_with (gi_at_builtin; refine wpListIn_append_one rfl _ _ rfl (w.heap.size + 4) (.slice a k c) _ rfl (HI.out.own.alloc _ |> fun h => by simpa using h) W'.heap.size q rfl HON.out (by rw [HLK.out]; omega) (by have := HI.out.big; simp; omega) ?_; intro v1 w1 hown hg; obtain ⟨hbo, hs1, hkf, hkp, hai⟩ := HSZ.out v1 w1 hg hown; obtain ⟨a1, c5, hv1, -, -⟩ := hown.sl; have c2 := hbo.cell; have f2 := hbo.frozen; have hlt2 := heap_lt hbo; have HK := Lib.hid (And.intro hkf (And.intro hkp hai)); obtain ⟨n5, hn5⟩ : ∃ n5, (L.take k ++ [q]).length = n5 := ⟨_, rfl⟩; rw [hn5] at hv1; subst hv1; clear hbo hkf hkp hai hn5 hown)
    exact ⟨HK.out.1, HK.out.2.1, HK.out.2.2⟩
  case done =>
    rintro D W hD ⟨v, hI⟩ hK
    have hRR := HRR.out
    have HI := Lib.hid hI
    have c1 := hI.out.cell
    have r1 := hI.res
    have r2 := hI.good
    rw [hRR] at c1 r1 r2
    have z1 := r1.cell
    have z2 := r2.cell
    have f1 := r1.frozen
    have f2 := r2.frozen
    have hlt1 : R + 1 + 1 < W.heap.size := by have := hI.big; omega
    have hLt : L.take N = L := List.take_of_length_le (by rw [HN.out]; exact Nat.le_refl _)
    have hown := hI.own
    rw [hLt] at hown
    obtain ⟨a1, c5, hv1, -, -⟩ := hown.sl
    rw [HN.out] at hv1
    subst hv1
    have HO := Lib.hid hown
    have hz1 : (R + 1 : Nat) ≠ R := by omega
    have HF1 := Lib.hid (And.intro ((r1.set (.slice a1 N c5)).other (B' := R + 1) (by omega) (.bool true)) ((r2.other (B' := R) (by omega) (.slice a1 N c5)).set (.bool true)))
    clear hI r1 r2 hown hLt hz1
    gi_wp2
    go_wp2
    obtain ⟨hR2, hE2⟩ := HF1.out
    have hD2 : ((W.setCell ⟨R, 0, none⟩ (.slice a1 N c5)).setCell ⟨R + 1, 0, none⟩ (.bool true)).heap[D]? = some (.deferred (some [])) :=
      (heap_setCell_other _ _ _ _ (show D ≠ R + 1 by omega)).trans ((heap_setCell_other _ _ _ _ (show D ≠ R by omega)).trans hK)
    have d2 := (boxed_put hR2 (o' := .deferred none) hD2 rfl).cell
    have d3 := (boxed_put hE2 (o' := .deferred none) hD2 rfl).cell
    refine ⟨by simp, .inl ⟨_, _, rfl, run_takeDeferred hD2, ⟨.tuple #[.slice a1 N c5, .bool true], by simp [results, Tryz.results7, go_sem, d2, d3], ?_⟩⟩⟩
    have hbel := ((HI.out.bel.setCell (p := ⟨R, 0, none⟩) (by simp only; omega) (.slice a1 N c5)).setCell (p := ⟨R + 1, 0, none⟩) (by simp only; omega) (.bool true))
    refine ⟨_, rfl, ?_, below_put hbel (by omega) hD2 rfl hbel.size _⟩
    have ho2 : OwnN (w.heap.size + 4) ((W.setCell ⟨R, 0, none⟩ (.slice a1 N c5)).setCell ⟨R + 1, 0, none⟩ (.bool true)) (.slice a1 N c5) L := HO.out.stay (fun j hj => by
      have := (HO.out.lt j hj).1
      rw [heap_setCell_other _ _ _ _ (show j ≠ R + 1 by omega), heap_setCell_other _ _ _ _ (show j ≠ R by omega)])
    exact (ho2.putO hD2 rfl).mono (by omega)
  case stop =>
    rintro D cd k W hD hk hI hK
    exact hI.elim

end Go.Proofs.YtcmeajaakdaeeaaGreatDoor

/-
  The table's Live: an iterator that ranges over All.
-/
namespace Go.Proofs.YtcmeajaakdaeeaaGreatDoor
open Go.RowKit Go.Shelf

attribute [local go_sem] Oper.semAt_some

theorem tb_live (p : Option Addr) (now : Int) (w : World) : Calls Tryz.prog 34 #[.pointer p, .int .i64 now] w fun e w' => e = .returned (.func (.func 50) #[] #[.pointer (some ⟨w.heap.size, 0, none⟩), .pointer (some ⟨w.heap.size + 1, 0, none⟩)]) ∧ w' = (w.alloc (.cells #[.pointer p] 25)).alloc (.cells #[.int .i64 now] 3) := by
  go_enter Tryz.func34, Tryz.ntmps34
  go_wp2
  go_ret
  exact ⟨rfl, rfl⟩

/-- The k-th round's argument. -/
def lEnc (M : List Pin) (k : Nat) : Array Value := #[pv (M[k]?.getD Pin.none)]
/-- What a round must leave alone: the iterator's boxes, the blocks of F, and every box of the two types that the iterator keeps its own things in. -/
def KpL (tb nb : Nat) (F : Nat → Prop) (A B : World) : Prop :=
  B.heap[tb]? = A.heap[tb]? ∧ B.heap[nb]? = A.heap[nb]? ∧ (∀ k, F k → B.heap[k]? = A.heap[k]?) ∧
    ∀ (k : Nat) (v : Value) (t : TypeId), t = 32 ∨ t = 25 → A.heap[k]? = some (Obj.cells #[v] t (0, 0)) → B.heap[k]? = A.heap[k]?
theorem kpL_t {tb nb : Nat} {F : Nat → Prop} {A B C : World} (h : KpL tb nb F A B) (k : KpL tb nb F B C) : KpL tb nb F A C :=
  ⟨k.1.trans h.1, k.2.1.trans h.2.1, fun j hj => (k.2.2.1 j hj).trans (h.2.2.1 j hj), fun j v t ht hj => (k.2.2.2 j v t ht ((h.2.2.2 j v t ht hj).trans hj)).trans (h.2.2.2 j v t ht hj)⟩

theorem live_snoc (L : List Pin) (now : Int) (k : Nat) (hk : k < L.length) : Tab.live (L.take (k + 1)) now = Tab.live (L.take k) now ++ (if now < (L[k]?.getD Pin.none).x then [L[k]?.getD Pin.none] else []) := by
  rw [List.take_succ_eq_append_getElem hk, List.getElem?_eq_getElem hk, Option.getD_some]
  unfold Tab.live
  rw [List.filter_append]
  congr 1
  by_cases h : now < L[k].x
  · rw [if_pos h, List.filter_cons_of_pos (by simpa using h), List.filter_nil]
  · rw [if_neg h, List.filter_cons_of_neg (by simpa using h), List.filter_nil]
theorem live_at (L : List Pin) (now : Int) (k : Nat) (hk : k < L.length) (hl : now < (L[k]?.getD Pin.none).x) : (Tab.live (L.take k) now).length < (Tab.live L now).length ∧ (Tab.live L now)[(Tab.live (L.take k) now).length]?.getD Pin.none = L[k]?.getD Pin.none := by
  have h1 := live_snoc L now k hk
  rw [if_pos hl] at h1
  have h2 : Tab.live L now = Tab.live (L.take (k + 1)) now ++ Tab.live (L.drop (k + 1)) now := by
    unfold Tab.live; rw [← List.filter_append, List.take_append_drop]
  rw [h2, h1]
  refine ⟨by simp only [List.length_append, List.length_cons, List.length_nil]; omega, ?_⟩
  rw [List.append_assoc, List.getElem?_append_right (Nat.le_refl _), Nat.sub_self]
  rfl

/-- Between the inner rounds. -/
structure LvI (l yb tb nb : Nat) (p : Option Addr) (now : Int) (L : List Pin) (J : Nat → World → Prop) (k : Nat) (W : World) : Prop where
  j : J (Tab.live (L.take k) now).length W
  y : Boxed W yb 32 (.func (.yield l) #[] #[])
  t : Boxed W tb 25 (.pointer p)
  n : Boxed W nb 3 (.int .i64 now)
theorem LvI.yng {l yb tb nb : Nat} {p : Option Addr} {now : Int} {L : List Pin} {J : Nat → World → Prop} {k : Nat} {W W' : World} (h : LvI l yb tb nb p now L J k W) (hJ : ∀ k A B, J k A → Yng l A B → J k B) (hy : Yng l W W') : LvI l yb tb nb p now L J k W' :=
  ⟨hJ _ _ _ h.j hy, hy.boxed h.y, hy.boxed h.t, hy.boxed h.n⟩

set_option maxRecDepth 100000 in
set_option maxHeartbeats 4000000 in
theorem lv_seq (p : Option Addr) (F : Nat → Prop) (L : List Pin) (now : Int) (tb nb : Nat) (w : World) (hS : AllSeq p F L w) (hF : ∀ k, F k → k < w.heap.size) (hbt : Boxed w tb 25 (.pointer p)) (hbn : Boxed w nb 3 (.int .i64 now)) :
    SeqIy Fence.wide 3 Tryz.prog 50 #[.pointer (some ⟨tb, 0, none⟩), .pointer (some ⟨nb, 0, none⟩)] (lEnc (Tab.live L now)) (KpL tb nb F) (Tab.live L now).length w := by
  intro l J Jx W hW hl hYJ hYX hY hJ
  have hw := hW.size
  have y0 := yng_alloc2 l W (.cells #[.func (.yield l) #[] #[]] 32) (.cells #[.pointer p] 25)
  have HYJ := Lib.hid hYJ
  have HYX := Lib.hid hYX
  have HY := Lib.hid hY
  have HFF := Lib.hid hF
  have hbt1 := boxedT_ext hbt hW
  have hbn1 := boxedT_ext hbn hW
  have hI0 : LvI l W.heap.size tb nb p now L J 0 ((W.alloc (.cells #[.func (.yield l) #[] #[]] 32)).alloc (.cells #[.pointer p] 25)) :=
    ⟨hYJ _ _ _ hJ y0, by unfold Boxed; rw [heap_alloc_lt _ _ _ (by simp), heap_alloc_eq _ _ _ rfl], y0.boxed hbt1, y0.boxed hbn1⟩
  have hB2 : Below w.heap.size w ((W.alloc (.cells #[.func (.yield l) #[] #[]] 32)).alloc (.cells #[.pointer p] 25)) := (hW.alloc hw _).alloc (by simp; omega) _
  have hbx : Boxed ((W.alloc (.cells #[.func (.yield l) #[] #[]] 32)).alloc (.cells #[.pointer p] 25)) (W.heap.size + 1) 25 (.pointer p) := by unfold Boxed; rw [heap_alloc_eq _ _ _ (by simp)]
  have hz2 : ((W.alloc (.cells #[.func (.yield l) #[] #[]] 32)).alloc (.cells #[.pointer p] 25)).heap.size = W.heap.size + 2 := by simp
  obtain ⟨W2, hW2⟩ : ∃ W2, ((W.alloc (.cells #[.func (.yield l) #[] #[]] 32)).alloc (.cells #[.pointer p] 25)) = W2 := ⟨_, rfl⟩
  rw [hW2] at hI0 hB2 hbx hz2
  have HSEQ := Lib.hid ((hS (W.heap.size + 1) _ hB2 hbx).wide (m := 3))
  have c1 : (W.alloc (.cells #[.func (.yield l) #[] #[]] 32)).cell? ⟨tb, 0, none⟩ = some (.pointer p) := (boxedT_ext hbt1 ((Below.refl _ _).alloc (Nat.le_refl _) _)).cell
  have hlt1 : tb < (W.alloc (.cells #[.func (.yield l) #[] #[]] 32)).heap.size := by have := heap_lt hbt1; simp; omega
  have HI0 := Lib.hid hI0
  have HB2 := Lib.hid hB2
  have HBX := Lib.hid hbx
  have HW2 := Lib.hid hW2
  clear hYJ hYX hY hS hF hbt hbn hbt1 hbn1 hI0 hB2 hbx y0 hJ hW2
  refine callsIn_of_wp_marks Tryz.func50 rfl trivial ?_ rfl
  simp only [Tryz.ntmps50, List.size_toArray, List.length_cons, List.length_nil, Nat.reduceAdd, Nat.reduceSub, Array.replicate_succ, Array.replicate_zero, List.push_toArray, List.append_toArray, List.nil_append, List.cons_append]
  refine wpIn_wide.2 ?_
  go_wp2_with fail
  refine (tb_all _ _).mono ?_; rintro e w4 ⟨rfl, hw4⟩
  rw [show (W.alloc (.cells #[.func (.yield l) #[] #[]] 32)).heap.size = W.heap.size + 1 by simp]
  go_wp2_with fail
  rw [← hw4, show w4 = W2 from hw4.trans HW2.out]
  clear hw4 c1 hlt1
  obtain ⟨X, hX⟩ : ∃ X, W.heap.size = X := ⟨_, rfl⟩
  have HXX := Lib.hid hX
  have HI0 := Lib.hid (show LvI l X tb nb p now L J 0 W2 by rw [← hX]; exact HI0.out)
  rw [hX] at HSEQ HBX hz2 hl hw ⊢
  clear hX
  obtain ⟨N, hN⟩ : ∃ N, L.length = N := ⟨_, rfl⟩
  rw [hN] at HSEQ
  have HN := Lib.hid hN
  clear hN
  refine (wpIn_wide (n := 4)).1 ?_
  refine wpIn_rangeIx2 (Kp := KpF (X + 1) F) (D := Nat) rfl (by omega) (gf := 42) (lb := #[.pointer (some ⟨X + 1, 0, none⟩)]) rfl trivial (enters_of Tryz.func42 (by kernel_rfl) rfl) HSEQ.out kpF_t
    (fun W l o o' hl h1 h2 => ⟨World.putObj_heap_other (by omega), fun k hk => World.putObj_heap_other (by have := HFF.out k hk; omega)⟩) (Below.refl _ _) (fun _ => rfl)
    (fun k W => LvI l X tb nb p now L J k W ∧ X + 2 ≤ W.heap.size ∧ Boxed W (X + 1) 25 (.pointer p)) (fun c _ W => c = .ret ∧ ∃ j, j ≤ (Tab.live L now).length ∧ Jx j W)
    (fun k W j o o' hI hj h1 h2 => ⟨hI.1.yng HYJ.out (Yng.put (by omega) h1 h2), by simpa using hI.2.1, boxed_put hI.2.2 h1 h2⟩)
    (fun c k W j o o' ⟨hc, i, hi, hI⟩ hj h1 h2 => ⟨hc, i, hi, HYX.out _ _ _ hI (Yng.put (by omega) h1 h2)⟩)
    ?h0 (fun d k W => (LvI l X tb nb p now L J k W ∧ X + 2 ≤ W.heap.size ∧ Boxed W (X + 1) 25 (.pointer p)) ∧ PBox W d (str (L[k]?.getD Pin.none).h) (L[k]?.getD Pin.none).s (L[k]?.getD Pin.none).x)
    (fun d k W j o o' ⟨hI, hp⟩ hj h1 h2 => ⟨⟨hI.1.yng HYJ.out (Yng.put (by omega) h1 h2), by simpa using hI.2.1, boxed_put hI.2.2 h1 h2⟩, (World.putObj_heap_other (cellsO_ne hp h1 h2)).trans hp⟩) ?round ?done ?stop
  case h0 =>
    intro o o'
    have hbe := ((Below.refl _ W2).alloc (Nat.le_refl _) o).alloc (by simp) o'
    exact ⟨HI0.out.yng HYJ.out (.of_below hbe), by have := hbe.size; omega, boxedT_ext HBX.out hbe⟩
  case round =>
    rintro lp k W3 ⟨hI, hs, hbx⟩ hk
    have hbk := (Below.refl W3.heap.size W3).alloc (Nat.le_refl _) (.cells #[.string (str (L[k]?.getD Pin.none).h), .bool (L[k]?.getD Pin.none).s, .int .i64 (L[k]?.getD Pin.none).x] 23)
    have HBK := Lib.hid hbk
    have HPB := Lib.hid (PBox.new W3 (str (L[k]?.getD Pin.none).h) (L[k]?.getD Pin.none).s (L[k]?.getD Pin.none).x)
    have HI := Lib.hid (And.intro hI hbx)
    have hkl : k < L.length := by rw [HN.out]; exact hk
    have HSN := Lib.hid (live_snoc L now k hkl)
    have HAT := Lib.hid (fun h => live_at L now k hkl h)
    clear hbk hI hbx hkl
    unfold tEnc pv
    generalize L[k]?.getD Pin.none = q at *
    gi_wp2
    have hbk := HBK.out
    refine ⟨below_keeps hbk, ⟨hbk.block _ (by omega), fun j hj => hbk.block _ (by have := HFF.out j hj; omega)⟩, W3.heap.size, ⟨⟨HI.out.1.yng HYJ.out (.of_below hbk), Nat.le_trans hs hbk.size, boxedT_ext HI.out.2 hbk⟩, HPB.out⟩, ?_⟩
    clear hbk HI HPB HBK
    rintro lq W5 ⟨⟨hI, hs5, hbx⟩, hp⟩
    obtain ⟨x0, x1, x2⟩ := hp.cells
    have hlp := heap_lt hp
    have y1 := hI.y.cell
    have hly := heap_lt hI.y
    have n1 := hI.n.cell
    have hln := heap_lt hI.n
    have hw1 : Fence.wide.fn 32 := trivial
    have HEX := Lib.hid ((callsIn_wide (n := 1)).2 (se_expired q.x now W5))
    have HI := Lib.hid (And.intro hI hbx)
    obtain ⟨D, hD⟩ : ∃ D, W3.heap.size = D := ⟨_, rfl⟩
    rw [hD] at x0 x1 x2 hlp ⊢
    clear hI hp hbx hD
    by_cases hlv : now < q.x
    · rw [decide_eq_false (show ¬ q.x ≤ now by omega)] at HEX
      have hsn := HSN.out
      rw [if_pos hlv] at hsn
      obtain ⟨ha1, ha2⟩ := HAT.out hlv
      have hyk := yieldAt_wideIn (m := 1) lq (HY.out _ W5 HI.out.1.j ha1)
      unfold lEnc pv at hyk
      rw [ha2] at hyk
      obtain ⟨sq, hsq⟩ : ∃ s, str q.h = s := ⟨_, rfl⟩
      rw [hsq] at hyk x0
      have HSN2 := Lib.hid hsn
      have HA1 := Lib.hid ha1
      obtain ⟨fn, tmps, assign, body, hy, hR⟩ := hyk
      clear hsn ha1 ha2 hsq hlv
      gi_wp2_with (gi_at_call 32; go_must (refine (HEX.out.inRound lq).mono ?_); rintro e w6 ⟨rfl, rfl⟩)
      refine hR.mono ?_
      rintro e W7 (⟨rfl, hJ7, hk7, hkf⟩ | ⟨rfl, hx7, hkf⟩)
      · have HF := Lib.hid (show KeepsFrom W2.heap.size w6 W7 ∧ KpF (X + 1) F w6 W7 ∧ LvI l X tb nb p now L J (k + 1) W7 ∧ X + 2 ≤ W7.heap.size ∧ Boxed W7 (X + 1) 25 (.pointer p) from
          ⟨keepsFrom_mono hkf (by omega), ⟨hk7.2.2.2 (X + 1) _ _ (.inr rfl) HI.out.2, hk7.2.2.1⟩, ⟨by rw [HSN2.out, List.length_append]; exact hJ7, (hk7.2.2.2 X _ _ (.inl rfl) HI.out.1.y).trans HI.out.1.y, hk7.1.trans HI.out.1.t, hk7.2.1.trans HI.out.1.n⟩, Nat.le_trans hs5 hkf.size, (hk7.2.2.2 (X + 1) _ _ (.inr rfl) HI.out.2).trans HI.out.2⟩)
        clear hJ7 hk7 hkf
        gi_wp2
        exact ⟨HF.out.1, HF.out.2.1, HF.out.2.2⟩
      · have HF := Lib.hid (And.intro (keepsFrom_mono hkf (show l + 1 ≤ W2.heap.size by omega)) hx7)
        clear hx7 hkf
        gi_wp2
        exact ⟨HF.out.1, rfl, _, HA1.out, HF.out.2⟩
    · rw [decide_eq_true (show q.x ≤ now by omega)] at HEX
      have hsn := HSN.out
      rw [if_neg hlv, List.append_nil] at hsn
      have HSN2 := Lib.hid hsn
      clear hsn hlv
      gi_wp2_with (gi_at_call 32; go_must (refine (HEX.out.inRound lq).mono ?_); rintro e w6 ⟨rfl, rfl⟩)
      refine ⟨(fun f hf => by cases hf), ?_⟩
      gi_wp2
      refine ⟨below_keeps (Below.refl _ _), kpF_refl _ _ _, ⟨⟨by rw [HSN2.out]; exact HI.out.1.j, HI.out.1.y, HI.out.1.t, HI.out.1.n⟩, hs5, HI.out.2⟩⟩
  case done =>
    rintro D W3 hD ⟨hI, hs, hbx⟩ hK
    have hJN := hI.j
    rw [List.take_of_length_le (by rw [HN.out]; exact Nat.le_refl _)] at hJN
    have HJN := Lib.hid hJN
    clear hI hbx hJN
    gi_wp2
    refine ⟨by simp, .inl ⟨_, _, rfl, run_takeDeferred hK, ⟨.tuple #[], by simp [results, Tryz.results50, go_sem], ?_⟩⟩⟩
    exact ⟨⟨_, rfl⟩, .inl (HYJ.out _ _ _ HJN.out (Yng.put (by omega) hK rfl))⟩
  case stop =>
    rintro D cd k W3 hD hk ⟨rfl, j, hj, hI⟩ hK
    have HJX := Lib.hid hI
    clear hI
    gi_wp2
    refine ⟨by simp, .inl ⟨_, _, rfl, run_takeDeferred hK, ⟨.tuple #[], by simp [results, Tryz.results50, go_sem], ?_⟩⟩⟩
    exact ⟨⟨_, rfl⟩, .inr ⟨j, hj, HYX.out _ _ _ HJX.out (Yng.put (by omega) hK rfl)⟩⟩

/-- Between the rounds of live. -/
structure LiI (w : World) (M : List Pin) (k : Nat) (v : Value) (W : World) : Prop where
  out : Boxed W w.heap.size 28 v
  own : OwnN (w.heap.size + 3) W v (M.take k)
  bel : Below w.heap.size w W
  big : w.heap.size + 3 ≤ W.heap.size
theorem LiI.put {w : World} {M : List Pin} {k : Nat} {v : Value} {W : World} (h : LiI w M k v W) {l : Nat} {o o' : Obj} (hlb : w.heap.size ≤ l) (hl : W.heap[l]? = some o) (hc : o.isCells = false) : LiI w M k v (W.putObj l o') :=
  ⟨boxed_put h.out hl hc, h.own.putO hl hc, below_put h.bel hlb hl hc h.bel.size _, by simpa using h.big⟩
theorem LiI.yng {w : World} {M : List Pin} {k : Nat} {v : Value} {W W' : World} (h : LiI w M k v W) {l : Nat} (hl : w.heap.size ≤ l + 1) (hy : Yng l W W') : LiI w M k v W' := by
  refine ⟨hy.boxed h.out, ⟨h.own.1, ?_⟩, hy.below h.bel hl h.bel.size, Nat.le_trans h.big hy.size⟩
  rcases h.own.2 with hn | ⟨g, cap, cur, rfl, hb, hgg, rest⟩
  · exact .inl hn
  · exact .inr ⟨g, cap, cur, rfl, hb, hy.boxed hgg, rest⟩

set_option maxRecDepth 100000 in
set_option maxHeartbeats 4000000 in
theorem al_live (p : Option Addr) (F : Nat → Prop) (L : List Pin) (now : Int) (w : World) (hF : ∀ k, F k → k < w.heap.size) (hS : AllSeq p F L w) (hL : L.length ≤ 100000) :
    Calls Tryz.prog 15 #[.pointer p, .int .i64 now] w fun e w' => ∃ v, e = .returned v ∧ OwnN w.heap.size w' v (Tab.live L now) ∧ Below w.heap.size w w' := by
  have hB1 := (Below.refl w.heap.size w).alloc (Nat.le_refl _) (.cells #[.slice none 0 0] 28)
  obtain ⟨W1, hW1⟩ : ∃ W1, w.alloc (.cells #[.slice none 0 0] 28) = W1 := ⟨_, rfl⟩
  have ho1 : Boxed W1 w.heap.size 28 (.slice none 0 0) := by rw [← hW1]; exact heap_alloc_eq _ _ _ rfl
  have hz1 : W1.heap.size = w.heap.size + 1 := by rw [← hW1]; simp
  rw [hW1] at hB1
  have hb2 := ((Below.refl W1.heap.size W1).alloc (Nat.le_refl _) (.cells #[.pointer p] 25)).alloc (by simp) (.cells #[.int .i64 now] 3)
  have ht2 : Boxed ((W1.alloc (.cells #[.pointer p] 25)).alloc (.cells #[.int .i64 now] 3)) W1.heap.size 25 (.pointer p) := by unfold Boxed; rw [heap_alloc_lt _ _ _ (by simp), heap_alloc_eq _ _ _ rfl]
  have hn2 : Boxed ((W1.alloc (.cells #[.pointer p] 25)).alloc (.cells #[.int .i64 now] 3)) (W1.heap.size + 1) 3 (.int .i64 now) := by unfold Boxed; rw [heap_alloc_eq _ _ _ (by simp)]
  have hz2 : ((W1.alloc (.cells #[.pointer p] 25)).alloc (.cells #[.int .i64 now] 3)).heap.size = W1.heap.size + 2 := by simp
  obtain ⟨W2, hW2⟩ : ∃ W2, (W1.alloc (.cells #[.pointer p] 25)).alloc (.cells #[.int .i64 now] 3) = W2 := ⟨_, rfl⟩
  rw [hW2] at hb2 ht2 hn2 hz2
  have hB2 := hB1.trans (hb2.mono hB1.size)
  have hsq := lv_seq p F L now W1.heap.size (W1.heap.size + 1) W2 (fun bt W hW hb => hS bt W (hB2.trans (hW.mono hB2.size)) hb) (fun k hk => by have := hF k hk; omega) ht2 hn2
  have hM : (Tab.live L now).length ≤ 100000 := Nat.le_trans (Tab.live_len _ _) hL
  rw [hz1] at hsq ht2 hn2 hz2
  have hI0 : LiI w (Tab.live L now) 0 (.slice none 0 0) W2 := ⟨boxedT_ext ho1 hb2, OwnN.nil _ _, hB2, by omega⟩
  obtain ⟨M, hMM⟩ : ∃ M, Tab.live L now = M := ⟨_, rfl⟩
  rw [hMM] at hsq hI0 hM ⊢
  have HSEQ := Lib.hid hsq
  have HI0 := Lib.hid hI0
  have HFF := Lib.hid hF
  have HW1 := Lib.hid hW1
  have HW2 := Lib.hid hW2
  have HZ1 := Lib.hid hz1
  clear hsq hI0 hF hB1 ho1 hz1 hb2 ht2 hn2 hB2 hS hL hW1 hW2 hMM
  refine (callsIn_wide (n := 6)).1 ?_
  refine callsIn_of_wp_marks Tryz.func15 rfl trivial ?_ rfl
  simp only [Tryz.ntmps15, List.size_toArray, List.length_cons, List.length_nil, Nat.reduceAdd, Nat.reduceSub, Array.replicate_succ, Array.replicate_zero, List.push_toArray, List.append_toArray, List.nil_append, List.cons_append]
  refine wpIn_wide.2 ?_
  go_wp2_with fail
  rw [HW1.out]
  refine (tb_live _ _ _).mono ?_; rintro e w4 ⟨rfl, rfl⟩
  rw [HW2.out, HZ1.out]
  have hfe := fun (W : World) => run_eql_func_nil (P := Tryz.prog) W Tryz.underlying67 (Fn.func 50) #[] #[.pointer (some ⟨w.heap.size + 1, 0, none⟩), .pointer (some ⟨w.heap.size + 1 + 1, 0, none⟩)]
  go_wp2_with fail
  clear hfe
  obtain ⟨R, hR⟩ : ∃ R, w.heap.size = R := ⟨_, rfl⟩
  have HRR := Lib.hid hR
  rw [hR] at HSEQ hz2 ⊢
  clear hR
  obtain ⟨N, hN⟩ : ∃ N, M.length = N := ⟨_, rfl⟩
  rw [hN] at HSEQ hM
  have HN := Lib.hid hN
  clear hN
  refine (wpIn_wide (n := 4)).1 ?_
  refine wpIn_rangeIy2 (Kp := KpL (R + 1) (R + 1 + 1) F) (D := Nat) rfl (by omega) (gf := 50) (lb := #[.pointer (some ⟨R + 1, 0, none⟩), .pointer (some ⟨R + 1 + 1, 0, none⟩)]) rfl trivial (enters_of Tryz.func50 (by kernel_rfl) rfl) HSEQ.out kpL_t
    (fun W l o o' hl h1 h2 => ⟨World.putObj_heap_other (by omega), World.putObj_heap_other (by omega), fun k hk => World.putObj_heap_other (by have := HFF.out k hk; have := HRR.out; omega), fun k v t _ hk => World.putObj_heap_other (cellsO_ne hk h1 h2)⟩) (Below.refl _ _) (fun _ => rfl)
    (fun k W => ∃ v, LiI w M k v W) (fun _ _ _ => False)
    (fun k W l o o' ⟨v, hI⟩ hl h1 h2 => ⟨v, hI.put (by have := HRR.out; omega) h1 h2⟩) (fun cd k W l o o' hI hl h1 h2 => hI.elim)
    (fun k A B ⟨v, hI⟩ hy => ⟨v, hI.yng (by have := HRR.out; omega) hy⟩) (fun cd k A B hI hy => hI.elim)
    ?h0 (fun d k W => ∃ v, LiI w M k v W ∧ PBox W d (str (M[k]?.getD Pin.none).h) (M[k]?.getD Pin.none).s (M[k]?.getD Pin.none).x ∧ v.ownBlock ≠ some d ∧ R + 3 ≤ d)
    (fun d k W l o o' ⟨v, hI, hp, hv, hd⟩ hl h1 h2 => ⟨v, hI.put (by have := HRR.out; omega) h1 h2, (World.putObj_heap_other (cellsO_ne hp h1 h2)).trans hp, hv, hd⟩) ?round ?done ?stop
  case h0 =>
    intro o o'
    have hbe := ((Below.refl _ W2).alloc (Nat.le_refl _) o).alloc (by simp) o'
    have hS := HI0.out
    exact ⟨_, boxedT_ext hS.out hbe, hS.own.ext hbe, hS.bel.trans (hbe.mono hS.bel.size), Nat.le_trans hS.big hbe.size⟩
  case round =>
    rintro l k W ⟨v, hI⟩ hk
    have hbk := (Below.refl W.heap.size W).alloc (Nat.le_refl _) (.cells #[.string (str (M[k]?.getD Pin.none).h), .bool (M[k]?.getD Pin.none).s, .int .i64 (M[k]?.getD Pin.none).x] 23)
    have HBK := Lib.hid hbk
    have HPB := Lib.hid (PBox.new W (str (M[k]?.getD Pin.none).h) (M[k]?.getD Pin.none).s (M[k]?.getD Pin.none).x)
    have HI := Lib.hid hI
    have HTK : Hid (M.take (k + 1) = M.take k ++ [M[k]?.getD Pin.none]) := Lib.hid (by
      have hkl : k < M.length := by rw [HN.out]; exact hk
      rw [List.take_succ_eq_append_getElem hkl, List.getElem?_eq_getElem hkl]; rfl)
    clear hbk hI
    unfold lEnc pv
    generalize M[k]?.getD Pin.none = q at *
    gi_wp2
    have hbk := HBK.out
    have hI := HI.out
    have hRR := HRR.out
    have hbig := hI.big
    refine ⟨below_keeps hbk, ⟨hbk.block _ (by omega), hbk.block _ (by omega), fun j hj => hbk.block _ (by have := HFF.out j hj; omega), fun j u t _ hj => hbk.block _ (heap_lt hj)⟩, W.heap.size, ⟨v, ⟨boxedT_ext hI.out hbk, hI.own.ext hbk, hI.bel.trans (hbk.mono hI.bel.size), Nat.le_trans hI.big hbk.size⟩, HPB.out, fun e => by have := (hI.own.lt _ e).2; omega, by omega⟩, ?_⟩
    clear hbk hI hbig HI HPB HBK v
    rintro lp W' ⟨v, hI, hp, hv, hd⟩
    have c1 := hI.out.cell
    have f1 := hI.out.frozen
    rw [hRR] at c1 f1
    have hlt1 : R < W'.heap.size := by have := hI.big; omega
    obtain ⟨y0, y1, y2⟩ := hp.cells
    have hltd := heap_lt hp
    obtain ⟨a, c, hvv, -, -⟩ := hI.own.sl
    have hlk : (M.take k).length = k := by rw [List.length_take, HN.out]; omega
    rw [hlk] at hvv
    subst hvv
    have HI := Lib.hid hI
    have HP := Lib.hid hp
    have HON := Lib.hid (SlN.one W' q 23)
    have HLK := Lib.hid hlk
    obtain ⟨sq, hsq⟩ : ∃ s, str q.h = s := ⟨_, rfl⟩
    rw [hsq] at y0 HON
    obtain ⟨D, hD⟩ : ∃ D, W.heap.size = D := ⟨_, rfl⟩
    rw [hD] at y0 y1 y2 hltd hv hd ⊢
    clear hI hp hlk hsq hRR hD
    have HSZ := Lib.hid (show ∀ v1 w1, (W'.alloc (.cells #[.string sq, .bool q.s, .int .i64 q.x] 23)).grownBy w1 (Value.slice a k c).ownBlock → OwnN (w.heap.size + 3) w1 v1 (M.take k ++ [q]) →
        Boxed w1 R 28 (.slice a k c) ∧ w1.heap.size ≥ W'.heap.size + 1 ∧ KeepsFrom W2.heap.size W' (w1.setCell ⟨R, 0, none⟩ v1) ∧ KpL (R + 1) (R + 1 + 1) F W' (w1.setCell ⟨R, 0, none⟩ v1) ∧ ∃ v, LiI w M (k + 1) v (w1.setCell ⟨R, 0, none⟩ v1) from by
      intro v1 w1 hg hown
      have hI := HI.out
      have hRR := HRR.out
      have hbe := (Below.refl W'.heap.size W').alloc (Nat.le_refl _) (.cells #[.string sq, .bool q.s, .int .i64 q.x] 23)
      have hsz := hg.size
      have hsz2 : (W'.alloc (.cells #[.string sq, .bool q.s, .int .i64 q.x] 23)).heap.size = W'.heap.size + 1 := by simp
      have hbl : ∀ j, j < W'.heap.size → (Value.slice a k c).ownBlock ≠ some j → w1.heap[j]? = W'.heap[j]? := fun j hj hne => (hg.block j (by omega) (fun e => hne e.symm)).trans (hbe.block j hj)
      have hlo : ∀ j, j < R + 3 → (Value.slice a k c).ownBlock ≠ some j := fun j hj e => by have := (hI.own.lt j e).1; omega
      have hbig := hI.big
      have hne1 : v1.ownBlock ≠ some R := fun e => by have := (hown.lt _ e).1; omega
      have hset : ∀ j, j ≠ R → (w1.setCell ⟨R, 0, none⟩ v1).heap[j]? = w1.heap[j]? := fun j hj => heap_setCell_other _ _ _ _ hj
      have hout : W'.heap[R]? = some (.cells #[.slice a k c] 28 (0, 0)) := by have := hI.out; rw [hRR] at this; exact this
      refine ⟨(hbl _ (by omega) (hlo _ (by omega))).trans hout, by omega, ?_, ⟨?_, ?_, fun j hj => ?_, fun j u t ht hj => ?_⟩, v1, ?_⟩
      · refine ⟨by simp; omega, fun j o hj ho hc => ?_⟩
        have hjl := heap_lt ho
        rw [hset j (by omega), hbl j hjl (fun e => ?_)]
        · exact ho
        · rcases hI.own.2 with ⟨hv0, -⟩ | ⟨g, cap, cur, hv0, -, hgg, -⟩
          · rw [hv0] at e; cases e
          · rw [hv0] at e; cases e; rw [hgg] at ho; cases ho; simp [Obj.isCells] at hc
      · rw [hset _ (by omega), hbl _ (by omega) (hlo _ (by omega))]
      · rw [hset _ (by omega), hbl _ (by omega) (hlo _ (by omega))]
      · have := HFF.out j hj
        rw [hset _ (by omega), hbl _ (by omega) (hlo _ (by omega))]
      · have hjR : j ≠ R := by
          rintro rfl
          rw [hout] at hj
          cases hj
          rcases ht with e | e <;> exact absurd e (by decide)
        rw [hset _ hjR, hbl _ (heap_lt hj) (fun e => ?_)]
        rcases hI.own.2 with ⟨hv0, -⟩ | ⟨g, cap, cur, hv0, -, hgg, -⟩
        · rw [hv0] at e; cases e
        · rw [hv0] at e; cases e; rw [hgg] at hj; cases hj
          rcases ht with e | e <;> exact absurd e (by decide)
      · refine ⟨?_, hown.stay (fun j hj => hset j (fun e => hne1 (by rw [hj, e]))) |> fun h => by rw [HTK.out]; exact h, ?_, by simp; omega⟩
        · rw [hRR]
          exact heap_setCell_same w1 R 0 _ _ v1 ((hbl R (by omega) (hlo _ (by omega))).trans hout)
        · exact ((hI.bel.trans (hbe.mono hI.bel.size)).grown hg (by have := hI.bel.size; omega) (fun j hj => by have := (hI.own.lt j hj).1; omega)).setCell (by simp only; omega) v1)
    gi_wp2_with (gi_at_builtin; refine wpListIn_append_one rfl _ _ rfl (w.heap.size + 3) (.slice a k c) _ rfl (HI.out.own.alloc _ |> fun h => by simpa using h) W'.heap.size q rfl HON.out (by rw [HLK.out]; omega) (by have := HI.out.big; simp; omega) ?_; intro v1 w1 hown hg; obtain ⟨hbo, hs1, hkf, hkp, hai⟩ := HSZ.out v1 w1 hg hown; obtain ⟨a1, c5, hv1, -, -⟩ := hown.sl; have c2 := hbo.cell; have f2 := hbo.frozen; have hlt2 := heap_lt hbo; have HK := Lib.hid (And.intro hkf (And.intro hkp hai)); obtain ⟨n5, hn5⟩ : ∃ n5, (M.take k ++ [q]).length = n5 := ⟨_, rfl⟩; rw [hn5] at hv1; subst hv1; clear hbo hkf hkp hai hn5 hown)
    exact ⟨HK.out.1, HK.out.2.1, HK.out.2.2⟩
  case done =>
    rintro D W hD ⟨v, hI⟩ hK
    have hRR := HRR.out
    have c1 := hI.out.cell
    rw [hRR] at c1
    have hlt1 : R < W.heap.size := by have := hI.big; omega
    have hLt : M.take N = M := List.take_of_length_le (by rw [HN.out]; exact Nat.le_refl _)
    have hown := hI.own
    rw [hLt] at hown
    obtain ⟨a1, c5, hv1, -, -⟩ := hown.sl
    rw [HN.out] at hv1
    subst hv1
    have HO := Lib.hid hown
    have HBB := Lib.hid hI.bel
    clear hI hown hLt
    gi_wp2
    go_wp2
    refine ⟨by simp, .inl ⟨_, _, rfl, run_takeDeferred hK, ⟨.slice a1 N c5, by simp [results, Tryz.results15, go_sem], ?_⟩⟩⟩
    exact ⟨_, rfl, (HO.out.putO hK rfl).mono (by omega), below_put HBB.out (by omega) hK rfl HBB.out.size _⟩
  case stop =>
    rintro D cd k W hD hk hI hK
    exact hI.elim

end Go.Proofs.YtcmeajaakdaeeaaGreatDoor
