/-
  The walks through the package extent: Valid, Size, check, parts.
-/
import Derived.Test.YtabeelcidlhniaaGreatRangeIx
import Derived.Test.YtabeelcidlhniaaGreatExtPlain
import Derived.Test.YtabeelcidlhniaaGreatRun8
import Derived.Shelf.Abstract
import Derived.Shelf.RegionOpen
import Derived.WalkKit
import Derived.OwnWalkIn
import Derived.TacticsInMore
import Derived.LoopNIn
import Derived.LoopIn
namespace Go.Proofs.YtabeelcidlhniaaGreat
open Go.RowKit Go.Shelf

attribute [local go_sem] Oper.semAt_some

theorem ex_size (f c : Int) (hc : -9223372036854775808 ≤ c ∧ c ≤ 9223372036854775807) (w : World) : Calls Tryz.prog 49 #[.agg #[.int .i64 f, .int .i64 c]] w fun e w' => e = .returned (.int .i64 (Extent.size c)) ∧ Below w.heap.size w w' := by
  have hb := (Below.refl _ w).alloc (Nat.le_refl _) (.cells #[.int .i64 f, .int .i64 c] 23)
  obtain ⟨h1, h2⟩ := hc
  unfold Extent.size
  by_cases h : c < 0
  · rw [if_pos (.inl h)]
    go_enter Tryz.func49, Tryz.ntmps49
    go_wp2
    go_ret
    exact ⟨rfl, hb⟩
  by_cases h' : 4096 < c
  · rw [if_pos (.inr h')]
    go_enter Tryz.func49, Tryz.ntmps49
    go_wp2
    go_ret
    exact ⟨rfl, hb⟩
  · rw [if_neg (by omega)]
    go_enter Tryz.func49, Tryz.ntmps49
    go_wp2
    go_ret
    exact ⟨rfl, hb⟩

def ib (z : Int) : Prop := -9223372036854775808 ≤ z ∧ z ≤ 9223372036854775807

theorem ex_valid_gen (p : Value) (n : Nat) (hn : n ≤ 4096) (f c : Int) (w : World) (HS : ∀ w1 : World, Below w.heap.size w w1 → Calls Tryz.prog 86 #[p] w1 fun e w' => e = .returned (.int .i64 (n : Nat)) ∧ w1 = w') :
    Calls Tryz.prog 84 #[p, .agg #[.int .i64 f, .int .i64 c]] w fun e w' => e = .returned (.bool (Extent.valid n f c)) ∧ Below w.heap.size w w' := by
  have hb := (Below.refl _ w).alloc (Nat.le_refl _) (.cells #[.int .i64 f, .int .i64 c] 23)
  have HC := Lib.hid (HS _ hb)
  obtain ⟨r, hr⟩ : ∃ r, r = Extent.valid n f c := ⟨_, rfl⟩
  rw [← hr]
  unfold Extent.valid at hr
  clear HS
  by_cases h1 : 0 ≤ f
  · by_cases h2 : 1 ≤ c
    · by_cases h3 : c ≤ (n : Int)
      · have hr2 : r = decide (f ≤ (n : Int) - c) := by rw [hr, decide_eq_true h1, decide_eq_true h2, decide_eq_true h3]; rfl
        have HR := Lib.hid hr2
        clear hr hr2
        by_cases h4 : f ≤ (n : Int) - c
        all_goals
          go_enter Tryz.func84, Tryz.ntmps84
          go_wp2_with (go_at_call 86; refine HC.out.mono ?_; rintro e w1 ⟨rfl, rfl⟩)
          go_ret
          exact ⟨by rw [HR.out]; simp [h4], hb⟩
      · have hr2 : r = false := by rw [hr, decide_eq_true h1, decide_eq_true h2, decide_eq_false h3]; rfl
        have ht : decide (c ≤ (n : Int)) = false := decide_eq_false h3
        subst hr2; clear hr
        go_enter Tryz.func84, Tryz.ntmps84
        go_wp2_with (go_at_call 86; refine HC.out.mono ?_; rintro e w1 ⟨rfl, rfl⟩)
        go_ret
        exact ⟨rfl, hb⟩
    · have hr2 : r = false := by rw [hr, decide_eq_true h1, decide_eq_false h2]; rfl
      have ht : decide (1 ≤ c) = false := decide_eq_false h2
      subst hr2; clear hr
      go_enter Tryz.func84, Tryz.ntmps84
      go_wp2_with (go_at_call 86; refine HC.out.mono ?_; rintro e w1 ⟨rfl, rfl⟩)
      go_ret
      exact ⟨rfl, hb⟩
  · have hr2 : r = false := by rw [hr, decide_eq_false h1]; rfl
    have ht : decide (0 ≤ f) = false := decide_eq_false h1
    subst hr2; clear hr
    go_enter Tryz.func84, Tryz.ntmps84
    go_wp2_with (go_at_call 86; refine HC.out.mono ?_; rintro e w1 ⟨rfl, rfl⟩)
    go_ret
    exact ⟨rfl, hb⟩

theorem ex_valid {F : Nat → Prop} {w : World} {g s m : Nat} {fa : Option Addr} {fn fc : Nat} {d : Disk.Dk} (h : PD F w g s m fa fn fc d) (f c : Int) :
    Calls Tryz.prog 84 #[.pointer (some ⟨g, 0, none⟩), .agg #[.int .i64 f, .int .i64 c]] w fun e w' => e = .returned (.bool (Extent.valid d.st.length f c)) ∧ Below w.heap.size w w' :=
  ex_valid_gen _ _ h.ok.max f c w (fun _ hW => sd_sectors (h.ext hW))

set_option maxHeartbeats 1000000 in
theorem ex_check {F : Nat → Prop} {w : World} {g s m : Nat} {fa : Option Addr} {fn fc : Nat} {d : Disk.Dk} (h : PD F w g s m fa fn fc d) (f c off len : Int) (hc : ib c) (ho : ib off) (hl : ib len) :
    Calls Tryz.prog 66 #[.pointer (some ⟨g, 0, none⟩), .agg #[.int .i64 f, .int .i64 c], .int .i64 off, .int .i64 len] w fun e w' => e = .returned (.int .i64 (Extent.check d.st.length f c off len)) ∧ Below w.heap.size w w' := by
  have hb := (Below.refl _ w).alloc (Nat.le_refl _) (.cells #[.int .i64 f, .int .i64 c] 23)
  have hV := Lib.hid (ex_valid (h.alloc (.cells #[.int .i64 f, .int .i64 c] 23)) f c)
  have hS := Lib.hid (ex_size f c hc)
  obtain ⟨r, hr⟩ : ∃ r, r = Extent.check d.st.length f c off len := ⟨_, rfl⟩
  rw [← hr]
  unfold Extent.check at hr
  obtain ⟨ho1, ho2⟩ := ho
  obtain ⟨hl1, hl2⟩ := hl
  have hsz : 0 ≤ Extent.size c ∧ Extent.size c ≤ 262144 := by unfold Extent.size; split <;> omega
  generalize Extent.valid d.st.length f c = v at *
  generalize Extent.size c = sz at *
  obtain ⟨hs0, hs1⟩ := hsz
  cases v with
  | false =>
    rw [if_neg (by decide)] at hr
    have HR := Lib.hid hr; clear hr
    go_enter Tryz.func66, Tryz.ntmps66
    go_wp2_with (go_at_call 84; refine hV.out.mono ?_; rintro e w1 ⟨rfl, hb1⟩)
    go_ret
    exact ⟨by rw [HR.out]; rfl, hb.trans (Below.mono hb1 (by simp))⟩
  | true =>
    rw [if_pos rfl] at hr
    have hkeep : ∀ W : World, Below (w.heap.size + 1) (w.alloc (.cells #[.int .i64 f, .int .i64 c] 23)) W → W.cell? ⟨w.heap.size, 0, none⟩ = some (.int .i64 f) ∧ W.cell? ⟨w.heap.size, 1, none⟩ = some (.int .i64 c) ∧ Below w.heap.size w W ∧ w.heap.size + 1 ≤ W.heap.size := by
      intro W hW
      refine ⟨(hW.cell (p := ⟨w.heap.size, 0, none⟩) (by simp)).trans ?_, (hW.cell (p := ⟨w.heap.size, 1, none⟩) (by simp)).trans ?_, hb.trans (hW.mono (by omega)), by have := hW.size; simpa using this⟩
      · rw [World.cell?_alloc_at _ _ _ _ rfl]; rfl
      · rw [World.cell?_alloc_at _ _ _ _ rfl]; rfl
    have HK := Lib.hid hkeep
    clear hkeep
    have hz : (w.alloc (.cells #[.int .i64 f, .int .i64 c] 23)).heap.size = w.heap.size + 1 := by simp
    have HZ := Lib.hid hz
    clear hz
    by_cases h1 : off < 0
    · rw [if_pos (.inl h1)] at hr
      have HR := Lib.hid hr; clear hr
      go_enter Tryz.func66, Tryz.ntmps66
      go_wp2_with (go_at_call 84; refine hV.out.mono ?_; rintro e w1 ⟨rfl, hb1⟩; rw [HZ.out] at hb1; obtain ⟨x0, x1, hb2, hz2⟩ := HK.out _ hb1)
      go_ret
      exact ⟨by rw [HR.out]; rfl, hb2⟩
    by_cases h2 : len < 0
    · rw [if_pos (.inr (.inl h2))] at hr
      have HR := Lib.hid hr; clear hr
      have t1 : decide (off < 0) = false := decide_eq_false h1
      go_enter Tryz.func66, Tryz.ntmps66
      go_wp2_with (go_at_call 84; refine hV.out.mono ?_; rintro e w1 ⟨rfl, hb1⟩; rw [HZ.out] at hb1; obtain ⟨x0, x1, hb2, hz2⟩ := HK.out _ hb1)
      go_ret
      exact ⟨by rw [HR.out]; rfl, hb2⟩
    have t1 : decide (off < 0) = false := decide_eq_false h1
    have t2 : decide (len < 0) = false := decide_eq_false h2
    have b1 : 0 ≤ off := by omega
    have b2 : 0 ≤ len := by omega
    by_cases h3 : sz < off
    · rw [if_pos (.inr (.inr (.inl h3)))] at hr
      have HR := Lib.hid hr; clear hr
      go_enter Tryz.func66, Tryz.ntmps66
      go_wp2_with (first | (go_at_call 84; refine hV.out.mono ?_; rintro e w1 ⟨rfl, hb1⟩; rw [HZ.out] at hb1; obtain ⟨x0, x1, hb2, hz2⟩ := HK.out _ hb1) | (go_at_call 49; refine (hS.out _).mono ?_; rintro e w3 ⟨rfl, hb3⟩; have hb4 := hb1.trans (Below.mono hb3 hz2); obtain ⟨y0, y1, hb5, hz5⟩ := HK.out _ hb4))
      go_ret
      exact ⟨by rw [HR.out]; rfl, hb5⟩
    have t3 : decide (sz < off) = false := decide_eq_false h3
    have b3 : 0 ≤ sz - off := by omega
    by_cases h4 : sz - off < len
    · rw [if_pos (.inr (.inr (.inr h4)))] at hr
      have HR := Lib.hid hr; clear hr
      go_enter Tryz.func66, Tryz.ntmps66
      go_wp2_with fail
      refine hV.out.mono ?_; rintro e w1 ⟨rfl, hb1⟩; rw [HZ.out] at hb1; obtain ⟨x0, x1, hb2, hz2⟩ := HK.out _ hb1
      go_wp2_with fail
      refine (hS.out _).mono ?_; rintro e w3 ⟨rfl, hb3⟩; have hb4 := hb1.trans (Below.mono hb3 hz2); obtain ⟨y0, y1, hb5, hz5⟩ := HK.out _ hb4
      go_wp2_with fail
      refine (hS.out _).mono ?_; rintro e w6 ⟨rfl, hb6⟩; have hb7 := hb4.trans (Below.mono hb6 hz5); obtain ⟨z0, z1, hb8, hz8⟩ := HK.out _ hb7
      go_wp2_with fail
      go_ret
      exact ⟨by rw [HR.out]; rfl, hb8⟩
    · rw [if_neg (by omega)] at hr
      have HR := Lib.hid hr; clear hr
      go_enter Tryz.func66, Tryz.ntmps66
      go_wp2_with fail
      refine hV.out.mono ?_; rintro e w1 ⟨rfl, hb1⟩; rw [HZ.out] at hb1; obtain ⟨x0, x1, hb2, hz2⟩ := HK.out _ hb1
      go_wp2_with fail
      refine (hS.out _).mono ?_; rintro e w3 ⟨rfl, hb3⟩; have hb4 := hb1.trans (Below.mono hb3 hz2); obtain ⟨y0, y1, hb5, hz5⟩ := HK.out _ hb4
      go_wp2_with fail
      refine (hS.out _).mono ?_; rintro e w6 ⟨rfl, hb6⟩; have hb7 := hb4.trans (Below.mono hb6 hz5); obtain ⟨z0, z1, hb8, hz8⟩ := HK.out _ hb7
      go_wp2_with fail
      go_ret
      exact ⟨by rw [HR.out]; rfl, hb8⟩

/-! ### parts -/
/-- The k-th part, as the loop's body gets it. -/
def exEnc (first off e : Nat) (k : Nat) : Array Value :=
  #[.agg #[.int .i64 ((first : Int) + (Extent.pos off e k : Int) / 64), .int .i64 ((Extent.pos off e k : Int) % 64), .int .i64 ((Extent.pos off e k : Int) % 64 + (Extent.step e (Extent.pos off e k) : Int))]]

/-- What the body must leave alone: the three boxes of the iterator. -/
def KpE (bo bn be : Nat) (A B : World) : Prop := B.heap[bo]? = A.heap[bo]? ∧ B.heap[bn]? = A.heap[bn]? ∧ B.heap[be]? = A.heap[be]?
theorem kpE_t {bo bn be : Nat} {A B C : World} (h : KpE bo bn be A B) (k : KpE bo bn be B C) : KpE bo bn be A C := ⟨k.1.trans h.1, k.2.1.trans h.2.1, k.2.2.trans h.2.2⟩

theorem ex_parts_in (F : Fence) (n : Nat) (h6 : F.fn 67) (hro : F.round = none) (f c off len : Int) (w : World) :
    CallsIn F n Tryz.prog 67 #[.agg #[.int .i64 f, .int .i64 c], .int .i64 off, .int .i64 len] w fun e w' => e = .returned (.func (.func 85) #[] #[.pointer (some ⟨w.heap.size + 1, 0, none⟩), .pointer (some ⟨w.heap.size + 2, 0, none⟩), .pointer (some ⟨w.heap.size, 0, none⟩)]) ∧
      w' = ((w.alloc (.cells #[.int .i64 f, .int .i64 c] 23)).alloc (.cells #[.int .i64 off] 3)).alloc (.cells #[.int .i64 len] 3) := by
  refine callsIn_of_wp Tryz.func67 rfl h6 ?_ hro
  simp only [Tryz.ntmps67, List.size_toArray, List.length_cons, List.length_nil, Nat.reduceAdd, Nat.reduceSub, Array.replicate_succ, Array.replicate_zero, List.push_toArray, List.append_toArray, List.nil_append, List.cons_append]
  gi_wp2
  go_ret
  exact ⟨rfl, rfl⟩

set_option maxRecDepth 100000 in
set_option maxHeartbeats 2000000 in
theorem ex_seq (F : Fence) (n : Nat) (h8 : F.fn 85) (hro : F.round = none) (hn : 1 ≤ n) (bo bn be : Nat) (first off len : Nat) (c : Int) (hf : first ≤ 5000) (ho : off + len ≤ 1000000) (w : World)
    (b1 : bo < w.heap.size) (b2 : bn < w.heap.size) (b3 : be < w.heap.size)
    (x1 : w.cell? ⟨bo, 0, none⟩ = some (.int .i64 (off : Int))) (x2 : w.cell? ⟨bn, 0, none⟩ = some (.int .i64 (len : Int))) (x3 : w.cell? ⟨be, 0, none⟩ = some (.int .i64 (first : Int))) (_x4 : w.cell? ⟨be, 1, none⟩ = some (.int .i64 c)) :
    SeqIx F n Tryz.prog 85 #[.pointer (some ⟨bo, 0, none⟩), .pointer (some ⟨bn, 0, none⟩), .pointer (some ⟨be, 0, none⟩)] (exEnc first off (off + len)) (KpE bo bn be) (Extent.cnt off (off + len)) w := by
  intro l J Jx W hW hY hJ
  have y1 : W.cell? ⟨bo, 0, none⟩ = _ := (hW.cell (p := ⟨bo, 0, none⟩) b1).trans x1
  have y2 : W.cell? ⟨bn, 0, none⟩ = _ := (hW.cell (p := ⟨bn, 0, none⟩) b2).trans x2
  have y3 : W.cell? ⟨be, 0, none⟩ = _ := (hW.cell (p := ⟨be, 0, none⟩) b3).trans x3
  have HC := Lib.hid (show ∀ W', KpE bo bn be W W' → W'.cell? ⟨bo, 0, none⟩ = some (.int .i64 (off : Int)) ∧ W'.cell? ⟨bn, 0, none⟩ = some (.int .i64 (len : Int)) ∧ W'.cell? ⟨be, 0, none⟩ = some (.int .i64 (first : Int)) from
    fun W' hk => ⟨(World.cell?_of_block (a := ⟨bo, 0, none⟩) hk.1).trans y1, (World.cell?_of_block (a := ⟨bn, 0, none⟩) hk.2.1).trans y2, (World.cell?_of_block (a := ⟨be, 0, none⟩) hk.2.2).trans y3⟩)
  obtain ⟨N, hN⟩ : ∃ N, N = Extent.cnt off (off + len) := ⟨_, rfl⟩
  have HN := Lib.hid hN
  rw [← hN] at hY ⊢
  have HY := Lib.hid hY
  have h00 := Extent.pos_zero off (off + len)
  have H00 := Lib.hid h00
  have HJ := Lib.hid hJ
  clear x1 x2 x3 _x4 y2 y3 hN hY h00 hJ
  refine callsIn_of_wp Tryz.func85 rfl h8 ?_ hro
  simp only [Tryz.ntmps85, List.size_toArray, List.length_cons, List.length_nil, Nat.reduceAdd, Nat.reduceSub, Array.replicate_succ, Array.replicate_zero, List.push_toArray, List.append_toArray, List.nil_append, List.cons_append]
  gi_wp2
  gi_loopw [5] (fun i wr => ∃ k : Nat, k ≤ N ∧ i = .int .i64 ((Extent.pos off (off + len) k : Nat) : Int) ∧ J k wr ∧ KpE bo bn be W wr) (fun i _ => off + len - (intOf i).toNat)
  case atStart => exact ⟨0, Nat.zero_le _, by rw [H00.out], HJ.out, rfl, rfl, rfl⟩
  case round =>
    obtain ⟨k, hk, rfl, hJs, hnx⟩ := hrel
    obtain ⟨z1, z2, z3⟩ := HC.out _ hnx
    have hlt := Extent.pos_lt off (off + len) k (by omega)
    have hle := Extent.pos_le off (off + len) k (by omega)
    have hsucc := Extent.pos_succ off (off + len) k
    have hstep := @Extent.step_pos (off + len) (Extent.pos off (off + len) k)
    rw [← HN.out] at hlt hsucc
    have hstepd : Extent.step (off + len) (Extent.pos off (off + len) k) = min (64 - Extent.pos off (off + len) k % 64) (off + len - Extent.pos off (off + len) k) := rfl
    have HYk := Lib.hid (HY.out k wr hJs)
    unfold exEnc at HYk
    generalize Extent.pos off (off + len) k = p at *
    generalize Extent.step (off + len) p = st at *
    have HSU := Lib.hid hsucc
    clear hsucc
    by_cases hpk : k < N
    · have hp := hlt.2 hpk
      obtain ⟨s1, s2, s3, s4⟩ := hstep hp
      obtain ⟨fn, tmps, assign, body, hy, hR⟩ := HYk.out hpk
      have hmin : (if (p : Int) % 64 + (off : Int) + (len : Int) - (p : Int) < 64 then (p : Int) % 64 + (off : Int) + (len : Int) - (p : Int) else 64) = (p : Int) % 64 + (st : Int) := by omega
      clear hlt hstep hstepd
      have hpi : (p : Int) < (off : Int) + (len : Int) := by omega
      gi_wp2
      refine hR.mono ?_
      rintro e W3 (⟨rfl, hJ3, hk3⟩ | ⟨rfl, hJx3⟩)
      · gi_wp2
        go_roundw
        case rel => exact ⟨k + 1, by omega, by rw [HSU.out hpk]; go_num, hJ3, kpE_t hnx hk3⟩
        case measure => simp [intOf]; omega
      · gi_wp2
        refine bodyPost_ret (results_none rfl _ _ _) rfl ?_
        exact ⟨⟨_, rfl⟩, .inr ⟨k + 1, by omega, hJx3⟩⟩
    · have hp : ¬ p < off + len := fun e => hpk (hlt.1 e)
      obtain rfl : k = N := by omega
      clear hlt hstep hstepd
      have hpi : ¬ (p : Int) < (off : Int) + (len : Int) := by omega
      gi_wp2
      go_end0
      exact ⟨⟨_, rfl⟩, .inl hJs⟩

end Go.Proofs.YtabeelcidlhniaaGreat
