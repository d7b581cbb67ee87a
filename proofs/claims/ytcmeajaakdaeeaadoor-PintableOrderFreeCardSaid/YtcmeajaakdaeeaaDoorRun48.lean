/-
  The table's All: an iterator that yields the pins with their indexes.
-/
import Derived.Test.YtcmeajaakdaeeaaDoorRun35
import Derived.Test.YtcmeajaakdaeeaaDoorRun47
import Derived.Shelf.Abstract
import Derived.Shelf.RegionOpen
import Derived.WalkKit
import Derived.OwnWalkIn
import Derived.TacticsInMore
import Derived.LoopNIn
import Derived.LoopIn
namespace Go.Proofs.YtcmeajaakdaeeaaDoor
open Go.RowKit Go.Shelf

attribute [local go_sem] Oper.semAt_some

theorem OwnN.slN {base : Nat} {w : World} {a : Option Addr} {n c : Nat} {L : List Pin} (h : OwnN base w (.slice a n c) L) : SlN w a n c L := by
  obtain ⟨a', c', hv, hs, -⟩ := h.sl
  cases hv; exact hs
theorem boxedT_ext {W W' : World} {B : Nat} {t : TypeId} {v : Value} (h : Boxed W B t v) (e : Below W.heap.size W W') : Boxed W' B t v := (e.block _ (heap_lt h)).trans h

theorem tb_all (p : Option Addr) (w : World) : Calls Tryd.prog 32 #[.pointer p] w fun e w' => e = .returned (.func (.func 56) #[] #[.pointer (some ⟨w.heap.size, 0, none⟩)]) ∧ w' = w.alloc (.cells #[.pointer p] 42) := by
  go_enter Tryd.func32, Tryd.ntmps32
  go_wp2
  go_ret
  exact ⟨rfl, rfl⟩

/-- The k-th round's arguments. -/
def tEnc (L : List Pin) (k : Nat) : Array Value := #[.int .i64 (k : Nat), pv (L[k]?.getD Pin.none)]
/-- What a round must leave alone. -/
def KpT (bt g : Nat) (v : Value) (A B : World) : Prop := B.heap[bt]? = A.heap[bt]? ∧ B.heap[g]? = A.heap[g]? ∧ ∀ j, v.ownBlock = some j → B.heap[j]? = A.heap[j]?
theorem kpT_t {bt g : Nat} {v : Value} {A B C : World} (h : KpT bt g v A B) (k : KpT bt g v B C) : KpT bt g v A C := ⟨k.1.trans h.1, k.2.1.trans h.2.1, fun j hj => (k.2.2 j hj).trans (h.2.2 j hj)⟩
theorem kpT_refl (bt g : Nat) (v : Value) (A : World) : KpT bt g v A A := ⟨rfl, rfl, fun _ _ => rfl⟩
theorem KpT.tab {bt g : Nat} {v : Value} {A W : World} (k : KpT bt g v A W) {B : Nat} {L : List Pin} {cap : Int} (h : TabW B A g v L cap) : TabW B W g v L cap := ⟨k.2.1.trans h.1, h.2.1.stay k.2.2, h.2.2⟩
theorem KpT.of_below {bt g : Nat} {v : Value} {A W : World} {B : Nat} {L : List Pin} {cap : Int} (h : TabW B A g v L cap) (hb : bt < A.heap.size) (e : Below A.heap.size A W) : KpT bt g v A W :=
  ⟨e.block _ hb, e.block _ h.lt, fun j hj => e.block _ (h.2.1.lt j hj).2⟩

set_option maxRecDepth 100000 in
set_option maxHeartbeats 2000000 in
theorem tb_seq (bt : Nat) {B : Nat} {w : World} {g : Nat} {v : Value} {L : List Pin} {cap : Int} (h : TabW B w g v L cap) (hb : Boxed w bt 42 (.pointer (some ⟨g, 0, none⟩))) :
    SeqIx Fence.wide 3 Tryd.prog 56 #[.pointer (some ⟨bt, 0, none⟩)] (tEnc L) (KpT bt g v) L.length w := by
  intro l J Jx W hW hY hJ
  have hT := h.ext hW
  have hbx := boxedT_ext hb hW
  obtain ⟨a, c, rfl, -, -⟩ := h.2.1.sl
  have HC := Lib.hid (show ∀ W', KpT bt g (.slice a L.length c) W W' → TabW B W' g (.slice a L.length c) L cap ∧ Boxed W' bt 42 (.pointer (some ⟨g, 0, none⟩)) from fun W' hk => ⟨hk.tab hT, hk.1.trans hbx⟩)
  have HLEN := Lib.hid ((callsIn_wide (n := 2)).2 (tb_len hT))
  have HY := Lib.hid hY
  have HJ := Lib.hid hJ
  have x1 := hbx.cell
  have hw1 : Fence.wide.fn 33 := trivial
  have hLm : L.length ≤ 9223372036854775807 := h.2.1.slN.le
  obtain ⟨n, hn⟩ : ∃ n, L.length = n := ⟨_, rfl⟩
  have HLN := Lib.hid hn
  rw [hn] at HC HLEN HY hLm ⊢
  clear h hb hT hbx hY hJ hn
  refine callsIn_of_wp Tryd.func56 rfl trivial ?_ rfl
  simp only [Tryd.ntmps56, List.size_toArray, List.length_cons, List.length_nil, Nat.reduceAdd, Nat.reduceSub, Array.replicate_succ, Array.replicate_zero, List.push_toArray, List.append_toArray, List.nil_append, List.cons_append]
  gi_wp2_with (gi_at_call 33; go_must (refine HLEN.out.mono ?_); rintro e w1 ⟨rfl, rfl⟩)
  gi_loopw [6] (fun i wr => ∃ k : Nat, k ≤ n ∧ i = .int .i64 (k : Nat) ∧ J k wr ∧ KpT bt g (.slice a n c) w1 wr) (fun i _ => n - (intOf i).toNat)
  case atStart => exact ⟨0, Nat.zero_le _, rfl, HJ.out, kpT_refl _ _ _ _⟩
  case round =>
    obtain ⟨k, hk, rfl, hJs, hnx⟩ := hrel
    have i0 : (0 : Int) ≤ (k : Int) := by omega
    obtain ⟨hT, hbx⟩ := HC.out _ hnx
    by_cases hpk : k < n
    · have i1 : (k : Int) < (n : Int) := by omega
      have HYk := Lib.hid (HY.out k wr hJs)
      unfold tEnc at HYk
      have d1 := hbx.cell
      obtain ⟨d2, -⟩ := hT.cells
      have hltg := hT.lt
      obtain ⟨bb, o, rfl, hbb, hkl, c1, c2, c3⟩ := hT.2.1.slN.at hpk
      obtain ⟨p, hp⟩ : ∃ p, L[k]?.getD Pin.none = p := ⟨_, rfl⟩
      rw [hp] at HYk c1 c2 c3
      obtain ⟨ph, ps, px⟩ := p
      unfold pv at HYk
      simp only at HYk c1 c2 c3
      generalize str ph = sh at *
      obtain ⟨fn, tmps, assign, body, hy, hR⟩ := HYk.out hpk
      clear hT hbx hp hkl
      gi_wp2
      refine hR.mono ?_
      rintro e W3 (⟨rfl, hJ3, hk3⟩ | ⟨rfl, hJx3⟩)
      · gi_wp2
        go_roundw
        case rel => exact ⟨k + 1, by omega, by go_num, hJ3, kpT_t hnx hk3⟩
        case measure => simp [intOf]; omega
      · gi_wp2
        refine bodyPost_ret (results_none rfl _ _ _) rfl ?_
        exact ⟨⟨_, rfl⟩, .inr ⟨k + 1, by omega, hJx3⟩⟩
    · obtain rfl : k = n := by omega
      clear hT hbx
      gi_wp2
      go_end0
      exact ⟨⟨_, rfl⟩, .inl hJs⟩

end Go.Proofs.YtcmeajaakdaeeaaDoor
