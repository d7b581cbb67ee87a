/-
  The law ExtentReadBack walked.
-/
import Derived.Test.YtedmnbmfbgenjaaExtRBPlain
import Derived.Test.YtedmnbmfbgenjaaKeep
import Derived.Deep.RegionLaw
namespace Go.Proofs.Ytedmnbmfbgenjaa
open Go.RowKit

/-- A beginning of a slice of bytes. -/
theorem SlB.cut {w : World} {a : Option Addr} {n c : Nat} {l : List UInt8} (h : SlB w a n c l) {k : Nat} (hk : k ≤ n) : SlB w (if c = 0 then a else a.map (·.add 0)) k c (l.take k) := by
  obtain ⟨hl, hn, hc, h0, h1⟩ := h
  refine ⟨by simp; omega, by omega, hc, fun e => ?_, fun x hx i hi => ?_⟩
  · have : a = none := by
      split at e
      · exact e
      · cases a with
        | none => rfl
        | some y => cases e
    simp [h0 this]
  · have hi' : i < l.length := by simp at hi; omega
    cases a with
    | none => split at hx <;> cases hx
    | some y =>
      obtain ⟨hs, hb, hcl⟩ := h1 y rfl i hi'
      have : x = y := by
        split at hx
        · cases hx; rfl
        · obtain ⟨yb, yo, ys⟩ := y
          simp only at hs; subst hs
          cases hx; rfl
      subst this
      exact ⟨hs, hb, by rw [hcl]; simp⟩

set_option maxRecDepth 100000 in
theorem wpList_cut {w : World} {ops : Array Oper} {rest : List Oper} {o : Oper} {ac : Act} {Q : Exit → Act → World → Prop} (hg : o.guard = none) (x y : Operand) (hop : o.op = Op.slice 26 x none (some y) none)
    {a : Option Addr} {n c : Nat} {l : List UInt8} (hx : ac.eval x = .slice a n c) (m : Nat) (M : Int) (hM : M = (m : Int)) (hy : ac.eval y = .int .i64 M) (h : SlB w a n c l) (hm : m ≤ n)
    (hK : ∀ a2, SlB w a2 m c (l.take m) → (∀ y, a2 = some y → l.take m ≠ [] → a = some y) → wpList Try.prog ops Q rest (ac.put o.dst (.slice a2 m c)) w) : wpList Try.prog ops Q (o :: rest) ac w := by
  subst hM
  have hmc : (m : Int) ≤ (c : Int) := by have := h.2.1; omega
  have hrun : (Instr.sliceAt 26 (.slice a n c) none (some (.int .i64 (m : Int))) none).run Try.prog w = .ok (.slice (if c = 0 then a else a.map (·.add 0)) m c) w := by
    have e1 := run_sliceAt_slice (P := Try.prog) (w := w) 26 (.slice a n c) none (some (.int .i64 (m : Int))) none Try.underlying26
    have e2 := run_slice_h (P := Try.prog) (w := w) 26 a n c Try.underlying26 .i64 (m : Int) (by omega) hmc
    rw [e1, e2]
    simp [go_sem, sliced]
  refine wpList_plain hg fun K hK' => ?_
  unfold Oper.wp
  simp [execOp, hop, hx, hy, hrun, Result.andThen]
  refine hK' _ _ (hK _ (h.cut hm) (fun y hy hne => ?_))
  cases a with
  | none => split at hy <;> cases hy
  | some z =>
    have hne' : l ≠ [] := by rintro rfl; simp at hne
    have hsp := (h.2.2.2.2 z rfl 0 (List.length_pos_iff.2 hne')).1
    obtain ⟨zb, zo, zs⟩ := z
    simp only at hsp; subst hsp
    split at hy
    · exact hy
    · cases hy; rfl

theorem OwnB.rowN {base : Nat} {w : World} {v : Value} {l : List UInt8} (h : OwnB base w v l) (N : Nat) (hl : l.length = N) (hN : 0 < N) : ∃ g c, v = .slice (some ⟨g, 0, none⟩) N c ∧ N ≤ c ∧ SlB w (some ⟨g, 0, none⟩) N c l := by
  obtain ⟨a, c, rfl, hs, hf⟩ := h.sl
  rw [hl] at hs ⊢
  cases a with
  | none => have := (hs.2.2.2.1 rfl).1; subst this; simp at hl; omega
  | some x =>
    obtain ⟨e, -, -⟩ := hf x rfl
    exact ⟨x.block, c, by rw [← e], hs.2.1, by rw [← e]; exact hs⟩
theorem OwnI.upd {F F' : Nat → Prop} {base : Nat} {w w' : World} {v : Value} {l : List Int} (h : OwnI base w v l) (k : Upd F w F' w') (hF : ∀ g, v.ownBlock = some g → ¬ F g) : OwnI base w' v l := by
  refine ⟨h.1, ?_⟩
  rcases h.2 with hn | ⟨g, cap, cur, rfl, hb, hgg, rest⟩
  · exact .inl hn
  · exact .inr ⟨g, cap, cur, rfl, hb, (k.block g (heap_lt hgg) (hF g rfl)).trans hgg, rest⟩

theorem step_append_bytes {w : World} {ops : Array Oper} {o : Oper} {a : Act} {K : Act → World → Prop} {Q : Exit → Act → World → Prop} {E : Prop} (hgd : o.guard = none) (s x : Operand)
    (ho : o.op = .call { callee := .builtin .append, args := #[s, x], argTypes := #[26, 26] })
    (base : Nat) (v : Value) (l : List UInt8) (hs : a.eval s = v) (hown : OwnB base w v l) (b : Option Addr) (m c : Nat) (l2 : List UInt8) (hx : a.eval x = .slice b m c) (hsl : SlB w b m c l2)
    (hlen : l.length + m ≤ 140737488355328) (hbase : base ≤ w.heap.size)
    (h : ∀ v' w', OwnB base w' v' (l ++ l2) → w.grownBy w' v.ownBlock → K (a.put o.dst v') w') :
    if Region.wanted o (yielded ops a.tmps) = true then Oper.wp Try.prog o a w K Q else E := by
  have hw : Region.wanted o (yielded ops a.tmps) = true := by simp [Region.wanted, hgd]
  rw [if_pos hw]
  obtain ⟨v', w', hrun, h1, h2⟩ := run_append_bytes o.type base v l hown b m c l2 hsl hlen hbase
  unfold Oper.wp
  simp [execOp, ho, resolve, invoke, builtin, hs, hx, hrun, Result.andThen]
  exact h v' w' h1 h2

set_option maxRecDepth 100000 in
set_option maxHeartbeats 4000000 in
theorem back_law (n a0 a1 a2 : Int) (a : Option Addr) (nd cd : Nat) (data : List UInt8) (w : World) (hn : (Lit.int .i64 n).wf = true) (_h0 : (Lit.int .i64 a0).wf = true) (_h1 : (Lit.int .i64 a1).wf = true) (_h2 : (Lit.int .i64 a2).wf = true) (hS : SlB w a nd cd data) :
    Calls Try.prog 10 #[.int .i64 n, .agg #[.int .i64 a0, .int .i64 a1, .int .i64 a2], .slice a nd cd] w fun e w' => e = .returned (.bool true) ∧ Below w.heap.size w w' := by
  simp [Lit.wf, IntKind.min, IntKind.max, IntKind.signed, IntKind.bits] at hn
  have hnd := hS.le
  have hB0 := (Below.refl _ w).alloc (Nat.le_refl _) (.cells #[.int .i64 a0, .int .i64 a1, .int .i64 a2] 72)
  by_cases c1 : n < 1
  · go_enter Try.func10, Try.ntmps10
    go_wp2_with (go_at_call 49; refine (law6_awake _).mono ?_; rintro e w' ⟨rfl, hB⟩)
    go_ret
    exact ⟨rfl, hB0.trans (hB.mono hB0.size)⟩
  by_cases c2 : 60 < n
  · go_enter Try.func10, Try.ntmps10
    go_wp2_with (go_at_call 49; refine (law6_awake _).mono ?_; rintro e w' ⟨rfl, hB⟩)
    go_ret
    exact ⟨rfl, hB0.trans (hB.mono hB0.size)⟩
  by_cases c3 : 1000 < nd
  · go_enter Try.func10, Try.ntmps10
    go_wp2_with (go_at_call 49; refine (law6_awake _).mono ?_; rintro e w' ⟨rfl, hB⟩)
    go_ret
    exact ⟨rfl, hB0.trans (hB.mono hB0.size)⟩
  obtain ⟨n, rfl⟩ := Int.eq_ofNat_of_zero_le (show 0 ≤ n by omega)
  have hn1 : 1 ≤ n := by omega
  have hn2 : n ≤ 60 := by omega
  have hd3 : nd ≤ 1000 := by omega
  clear c1 c2 hn hnd
  obtain ⟨W0, hW0⟩ : ∃ W0, W0 = w.alloc (.cells #[.int .i64 a0, .int .i64 a1, .int .i64 a2] 72) := ⟨_, rfl⟩
  have hz0 : W0.heap.size = w.heap.size + 1 := by rw [hW0]; simp
  have hE0 : W0.heap[w.heap.size]? = some (.cells #[.int .i64 a0, .int .i64 a1, .int .i64 a2] 72 (0, 0)) := by rw [hW0]; exact heap_alloc_eq _ _ _ rfl
  rw [← hW0] at hB0
  have HW0 := Lib.hid hW0
  have HE0 := Lib.hid hE0
  clear hW0 hE0
  obtain ⟨i0, hi, hz0', hz1, hz2⟩ := info_parts info5'
  have HI := Lib.hid (And.intro hi (And.intro hz0' (And.intro hz1 hz2)))
  have HM := Lib.hid (madeB (64 * n))
  clear hi hz0' hz1 hz2
  have e64 : ((n : Int) * 64) = ((64 * n : Nat) : Int) := by omega
  go_enter Try.func10, Try.ntmps10
  go_wp2_with ((show wpList _ _ _ (Oper.mk (some 34) _ _ _ _ _ :: _) _ _); rw [← HW0.out]; go_must (refine wpList_make_full _ rfl _ _ 26 rfl W0.heap.size 5 i0 (.int .u8 0) 1 Try.underlying26 HI.out.1 HI.out.2.1 HI.out.2.2.1 .i64 .i64 _ _ (64 * n) rfl rfl (by omega) (by omega) (by rw [HI.out.2.2.2]; omega) (by unfold maxLen; omega) (Nat.le_refl _) ?_); intro w1 hown hg1; rw [HM.out] at hown; have hO : OwnB W0.heap.size w1 (.slice (some ⟨W0.heap.size, 0, none⟩) (64 * n) (64 * n)) (List.replicate (64 * n) 0) := (by unfold OwnB; rw [List.length_replicate]; exact hown); have hb1 := (Below.refl W0.heap.size W0).grown hg1 (Nat.le_refl _) (fun k hk => by cases hk); clear hown hg1)
  have hO1 : ∃ l, l.length = 64 * n ∧ OwnB W0.heap.size w1 (.slice (some ⟨w.heap.size + 1, 0, none⟩) (64 * n) (64 * n)) l := ⟨List.replicate (64 * n) 0, by simp, by rw [hz0] at hO ⊢; exact hO⟩
  have hb01 := hB0.trans (hb1.mono hB0.size)
  clear hO HI HM
  go_loopw [8] (fun i wr => ∃ (k : Nat) (l : List UInt8), k ≤ 64 * n ∧ i = .int .i64 k ∧ l.length = 64 * n ∧ OwnB W0.heap.size wr (.slice (some ⟨w.heap.size + 1, 0, none⟩) (64 * n) (64 * n)) l ∧ Below W0.heap.size W0 wr) (fun i _ => 64 * n - (intOf i).toNat)
  case atStart =>
    obtain ⟨l, q1, q2⟩ := hO1
    exact ⟨0, l, by omega, rfl, q1, q2, hb1⟩
  case round =>
    obtain ⟨k, l, hk, rfl, hl, hO, hB⟩ := hrel
    by_cases hlt : k < 64 * n
    · have k0 : decide ((k : Int) < ((64 * n : Nat) : Int)) = true := by simp; omega
      have hfr := hO.free k
      have hcl := hO.row k (by omega)
      go_wp2
      go_roundw
      case rel =>
        have hbv : bv (UInt8.ofNat (k * 7 % 256)) = .int .u8 ((k : Int) * 7 % 256) := by
          unfold bv
          have : (UInt8.ofNat (k * 7 % 256)).toNat = k * 7 % 256 := by simp
          rw [this]; congr 1
        refine ⟨k + 1, l.set k (UInt8.ofNat (k * 7 % 256)), by omega, rfl, by simp [hl], ?_, hB.setCell (p := ⟨w.heap.size + 1, k, none⟩) (by simp [hz0]) _⟩
        rw [← hbv]; exact hO.set k _
      case measure => simp [intOf]; omega
    · obtain rfl : k = 64 * n := by omega
      clear hO1 hb1 hb01 c3
      have k0 : decide (((64 * n : Nat) : Int) < ((64 * n : Nat) : Int)) = false := by simp
      obtain ⟨ax, cx, ex, hI, -⟩ := id hO.sl
      rw [hl] at ex hI
      injection ex with ex1 ex2 ex3
      subst ex1 ex3
      clear ex2
      -- the numbers
      obtain ⟨f, hf⟩ : ∃ f : Nat, (f : Int) = a0 % (n : Int) := ⟨(a0 % (n : Int)).toNat, by have := Int.emod_nonneg a0 (show (n : Int) ≠ 0 by omega); omega⟩
      have hfn : f < n := by have := Int.emod_lt_of_pos a0 (show (0 : Int) < n by omega); omega
      obtain ⟨cc, hcc⟩ : ∃ cc : Nat, (cc : Int) = a1 % ((n : Int) - (f : Int)) := ⟨(a1 % ((n : Int) - (f : Int))).toNat, by have := Int.emod_nonneg a1 (show ((n : Int) - (f : Int)) ≠ 0 by omega); omega⟩
      have hcn : cc < n - f := by have := Int.emod_lt_of_pos a1 (show (0 : Int) < (n : Int) - (f : Int) by omega); omega
      obtain ⟨c, hc⟩ : ∃ c, c = 1 + cc := ⟨_, rfl⟩
      obtain ⟨off, hoff⟩ : ∃ off : Nat, (off : Int) = a2 % (((c * 64 : Nat) : Int) + 1) := ⟨(a2 % (((c * 64 : Nat) : Int) + 1)).toNat, by have := Int.emod_nonneg a2 (show (((c * 64 : Nat) : Int) + 1) ≠ 0 by omega); omega⟩
      have hofc : off ≤ c * 64 := by have := Int.emod_lt_of_pos a2 (show (0 : Int) < ((c * 64 : Nat) : Int) + 1 by omega); omega
      obtain ⟨mm, hmm⟩ : ∃ mm, mm = min nd (c * 64 - off) := ⟨_, rfl⟩
      obtain ⟨d1, d2, d3, b1, b2, b3, b4, b5⟩ := Extent.back_facts n f c off l (data.take mm) hn1 (by omega) hl (by omega) (by omega) (by rw [List.length_take, hS.len]; omega)
      have B1 := Lib.hid b1; have B2 := Lib.hid b2; have B3 := Lib.hid b3; have B4 := Lib.hid b4; have B5 := Lib.hid b5
      have HF := Lib.hid hf; have HC := Lib.hid hcc; have HO := Lib.hid hoff; have HMM := Lib.hid hmm; have HCC := Lib.hid hc
      clear b1 b2 b3 b4 b5 hf hcc hoff hmm hc
      go_wp2_with fail
      refine (sd_load _ n _ l _ hn1 (by omega) (64 * n) rfl hI).mono ?_; rintro e w2 ⟨F, g, s, m, fa, fn, fc, rfl, hP2, hF2, hB2⟩
      have hBw2 := (hB0.trans (hB.mono hB0.size)).trans (hB2.mono (Nat.le_trans hB0.size hB.size))
      have hEE := (hB2.block _ (by have := hB.size; omega)).trans ((hB.block w.heap.size (by omega)).trans HE0.out)
      have x0 := cell_of_row _ _ 0 _ _ _ hEE
      simp only [List.getElem?_toArray, List.getElem?_cons_zero] at x0
      go_wp2_with fail
      refine (keep_mod a0 n _ (by omega) (by omega)).mono ?_; rintro e w2' ⟨rfl, rfl⟩
      rw [← HF.out]
      have hz2 := hB2.size
      have hzr := hB.size
      obtain ⟨W3, hW3⟩ : ∃ W3, W3 = w2.alloc (.cells #[.int .i64 (f : Int), .int .i64 0] 41) := ⟨_, rfl⟩
      have hz3 : W3.heap.size = w2.heap.size + 1 := by rw [hW3]; simp
      have hX3 : W3.heap[w2.heap.size]? = some (.cells #[.int .i64 (f : Int), .int .i64 0] 41 (0, 0)) := by rw [hW3]; exact heap_alloc_eq _ _ _ rfl
      have hU3 : Upd F w2 F W3 := by rw [hW3]; exact (Upd.refl F w2).alloc _
      have hP3 : PD F W3 g s m fa fn fc (Disk.load n l) := by rw [hW3]; exact hP2.alloc _
      have hE3 : W3.heap[w.heap.size]? = some (.cells #[.int .i64 a0, .int .i64 a1, .int .i64 a2] 72 (0, 0)) := by rw [hW3]; exact (heap_alloc_lt _ _ _ (heap_lt hEE)).trans hEE
      have HW3 := Lib.hid hW3
      have HX3 := Lib.hid hX3
      have HE3 := Lib.hid hE3
      have y0 := cell_of_row _ _ 1 _ _ _ hE3
      have y1 := cell_of_row _ _ 0 _ _ _ hX3
      have y2 := cell_of_row _ _ 1 _ _ _ hX3
      have y3 := frozen_of_row _ _ 1 _ _ hX3
      simp only [List.getElem?_toArray, List.getElem?_cons_zero, List.getElem?_cons_succ] at y0 y1 y2
      clear hEE hW3 hX3 hE3 x0
      go_wp2_with ((show wpList _ _ _ (Oper.mk (some 63) _ _ _ _ _ :: _) _ _); rw [← HW3.out])
      refine (keep_mod a1 ((n : Int) - (f : Int)) _ (by omega) (by omega)).mono ?_; rintro e w3' ⟨rfl, rfl⟩
      rw [← HC.out]
      have e1c : (1 + (cc : Int)) = (c : Int) := by rw [HCC.out]; omega
      have hcb : 1 ≤ c ∧ c ≤ n - f := by rw [HCC.out]; omega
      have hc60 : c ≤ 60 := by omega
      clear e64
      obtain ⟨W4, hW4⟩ : ∃ W4, W4 = W3.setCell ⟨w2.heap.size, 1, none⟩ (.int .i64 (c : Int)) := ⟨_, rfl⟩
      have hz4 : W4.heap.size = w2.heap.size + 1 := by rw [hW4]; simp [hz3]
      have hne : w2.heap.size ≠ w.heap.size := by omega
      have nF : ∀ k, F k → k ≠ w2.heap.size := fun k e e2 => by have := hP2.lt k e; omega
      have hX4 : W4.heap[w2.heap.size]? = some (.cells #[.int .i64 (f : Int), .int .i64 (c : Int)] 41 (0, 0)) := by rw [hW4, heap_setCell_same _ _ _ _ _ _ HX3.out]; rfl
      have hU4 : Upd F w2 F W4 := by rw [hW4]; exact hU3.setCell (.inr (Nat.le_refl _)) _ _
      have hP4 : PD F W4 g s m fa fn fc (Disk.load n l) := by rw [hW4]; exact hP3.other (fun e => nF _ e rfl) _ _
      have hE4 : W4.heap[w.heap.size]? = some (.cells #[.int .i64 a0, .int .i64 a1, .int .i64 a2] 72 (0, 0)) := by rw [hW4]; exact (heap_setCell_other _ _ _ _ (Ne.symm hne)).trans HE3.out
      have HW4 := Lib.hid hW4
      have HX4 := Lib.hid hX4
      have y02 := cell_of_row _ _ 2 _ _ _ hE4
      have y14 := cell_of_row _ _ 0 _ _ _ hX4
      have y24 := cell_of_row _ _ 1 _ _ _ hX4
      simp only [List.getElem?_toArray, List.getElem?_cons_zero, List.getElem?_cons_succ] at y02 y14 y24
      clear hW4 hX4 hE4
      go_wp2_with ((show wpList _ _ _ (Oper.mk (some 72) _ _ _ _ _ :: _) _ _); rw [← HW4.out])
      refine (keep_mod a2 ((c : Int) * 64 + 1) _ (by omega) (by omega)).mono ?_; rintro e w4' ⟨rfl, rfl⟩
      have hoff' : a2 % ((c : Int) * 64 + 1) = (off : Int) := by rw [HO.out]; congr 1
      rw [hoff']
      have HOF := Lib.hid hoff'
      clear hoff'
      have hmm : mm = min nd (c * 64 - off) := HMM.out
      have m1 : min (nd : Int) ((c : Int) * 64 - (off : Int)) = (mm : Int) := by omega
      have hmn : mm ≤ nd := by omega
      have hmo : off + mm ≤ c * 64 := by omega
      have hSW := ((((hS.ext hB0).ext hB).ext hB2).upd hU4 (fun y hy hne e => by
        subst hy
        have := hS.blt hne; have := hF2 _ e; omega))
      clear hmm
      go_wp2_with ((show wpList _ _ _ (Oper.mk (some 87) _ _ _ _ _ :: _) _ _); go_must (refine wpList_cut rfl _ _ rfl rfl mm _ rfl rfl hSW hmn ?_); clear m1; intro ad hSD had)
      have ibs : ∀ z : Int, 0 ≤ z → z ≤ 1000000 → ib z := fun z h1 h2 => by unfold ib; omega
      have hdw : ∀ y, ad = some y → data.take mm ≠ [] → y.block < w.heap.size := fun y h1 h2 => by
        have h3 := had y h1 h2
        subst h3
        exact hS.blt (by rintro rfl; simp at h2)
      refine (ex_write_at hP4 f c off (ibs _ (by omega) (by omega)) (ibs _ (by omega) (by omega)) (ibs _ (by omega) (by omega)) hSD (fun y h1 h2 e => by have := hdw y h1 h2; have := hF2 _ e; omega) B1.out).mono ?_; rintro e w5 ⟨rfl, F5, hP5, hU5⟩
      have hX5 := (hU5.block _ (heap_lt HX4.out) (fun e => nF _ e rfl)).trans HX4.out
      have y15 := cell_of_row _ _ 0 _ _ _ hX5
      have y25 := cell_of_row _ _ 1 _ _ _ hX5
      simp only [List.getElem?_toArray, List.getElem?_cons_zero, List.getElem?_cons_succ] at y15 y25
      have HX5 := Lib.hid hX5
      have hz4' := hz4
      have hz5 := hU5.size
      clear hX5
      have b2 := B2.out
      rw [show ((c * 64 : Nat) : Int) = (c : Int) * 64 by omega] at b2
      have B2' := Lib.hid b2
      clear b2 B2
      go_wp2_with fail
      refine (ex_read_at hP5 f c 0 ((c : Int) * 64) (ibs _ (by omega) (by omega)) (ibs _ (by omega) (by omega)) (ibs _ (by omega) (by omega)) (ibs _ (by omega) (by omega)) B2'.out).mono ?_; rintro e w6 ⟨v6, rfl, hO6, hP6, hU6⟩
      have hnx : ¬ F5 w2.heap.size := fun e => by
        rcases hU5.new _ e with e | e
        · exact nF _ e rfl
        · omega
      go_wp2_with fail
      refine (sd_dirty hP6).mono ?_; rintro e w7 ⟨v7, rfl, hO7, hB7⟩
      have hlw : (data.take mm).length = mm := by rw [List.length_take, hS.len]; omega
      have hV : (l.take (f * 64 + off) ++ data.take mm ++ l.drop (f * 64 + off + (data.take mm).length)).length = 64 * n := by
        rw [List.length_append, List.length_append, List.length_take, List.length_drop, hlw, hl]; omega
      have hl6 : (((l.take (f * 64 + off) ++ data.take mm ++ l.drop (f * 64 + off + (data.take mm).length)).drop (f * 64)).take (c * 64)).length = c * 64 := by
        rw [List.length_take, List.length_drop, hV]; omega
      obtain ⟨a6, c6, rfl, hs6, -⟩ := hO6.sl
      rw [hl6] at hs6 ⊢
      have hz6 := hU6.size
      have hz7 := hB7.size
      have hP7 := hP6.ext hB7
      obtain ⟨a7, c7, rfl, hs7⟩ := hO7.sl
      go_wp2_with fail
      refine (sd_sync_at hP7 B3.out).mono ?_; rintro e w8 ⟨rfl, hP8, hU8⟩
      have hX8 := (hU8.block _ (by omega) hnx).trans ((hB7.block _ (by omega)).trans ((hU6.block _ (by omega) hnx).trans HX5.out))
      have y18 := cell_of_row _ _ 0 _ _ _ hX8
      simp only [List.getElem?_toArray, List.getElem?_cons_zero] at y18
      have HX8 := Lib.hid hX8
      clear hX8
      have t9 : (((c * 64 : Nat) : Int) != (c : Int) * 64) = false := by simp
      obtain ⟨bg, hbg⟩ : ∃ bg, bg = f * 64 + off := ⟨_, rfl⟩
      obtain ⟨be, hbe⟩ : ∃ be, be = bg + mm := ⟨_, rfl⟩
      have hben : be ≤ 64 * n := by omega
      have hbgn : bg ≤ 64 * n := by omega
      have i1 : (bg : Int) ≤ 64 * (n : Int) := by omega
      have i2 : (be : Int) ≤ 64 * (n : Int) := by omega
      have e1 : ((f : Int) * 64 + (off : Int)) = (bg : Int) := by omega
      have e2 : ((bg : Int) + (mm : Int)) = (be : Int) := by omega
      have HBG := Lib.hid hbg
      have HBE := Lib.hid hbe
      have hU58 : Upd F5 w5 F5 w8 := (hU6.ext hB7).trans hU8
      have hUa : Upd F W4 F5 w8 := hU5.trans hU58
      have hSD8 : SlB w8 ad mm cd (data.take mm) := hSD.upd hUa (fun y h1 h2 e => by have := hdw y h1 h2; have := hF2 _ e; omega)
      have hIm8 : SlB w8 (some ⟨w.heap.size + 1, 0, none⟩) (64 * n) (64 * n) l := ((hI.ext hB2).upd (hU4.trans hUa) (fun y h1 h2 e => by cases h1; have := hF2 _ e; have : w.heap.size + 1 < wr.heap.size := hI.blt h2; simp only at *; omega))
      have hIm1 := hIm8.take (k := bg) hbgn
      have HSD8 : Hid (SlB w8.drew ad mm cd (data.take mm)) := Lib.hid hSD8
      have HIM8 : Hid (SlB w8.drew (some ⟨w.heap.size + 1, 0, none⟩) (64 * n) (64 * n) l) := Lib.hid hIm8
      have HIM1 : Hid (SlB w8.drew (some ⟨w.heap.size + 1, 0, none⟩) bg (64 * n) (l.take bg)) := Lib.hid hIm1
      have hbd : SlB w8.drew (some ⟨w.heap.size + 1, if be = 64 * n then 0 else be, none⟩) (64 * n - be) (64 * n - be) (l.drop be) := by
        by_cases hf : be = 64 * n
        · rw [if_pos hf]
          exact ⟨by rw [List.length_drop, hl], Nat.le_refl _, by unfold maxLen; omega, (fun e => by cases e), fun x hx i hi => by rw [List.length_drop, hl] at hi; omega⟩
        · rw [if_neg hf]; have := hIm8.drop (k := be) hben; rwa [Nat.zero_add] at this
      have HBD := Lib.hid hbd
      have HLD := Lib.hid (show (l.drop be).length = 64 * n - be by rw [List.length_drop, hl])
      clear hbd
      clear hbg hbe hIm8 hIm1 hSD8
      by_cases hfull : be = 64 * n
      · have HBD' : Hid (SlB w8.drew (some ⟨w.heap.size + 1, 0, none⟩) 0 0 (l.drop be)) := by
          have := HBD.out
          rw [if_pos hfull, hfull, Nat.sub_self] at this
          rw [hfull]; exact Lib.hid this
        have hwr : IntKind.i64.wrap (64 * (n : Int)) = 64 * (n : Int) := by unfold IntKind.wrap; simp [IntKind.bits, IntKind.signed]; omega
        have htn : (64 * (n : Int)).toNat = 64 * n := by omega
        have h0n : (0 : Int) ≤ 64 * (n : Int) := by omega
        go_wp2_with fail
        go_region_law (first | (go_simp; go_at_call 32; go_must (refine (keep_own _ _ _ _ _ HIM1.out (by omega)).mono ?_); rintro e w9 ⟨v9, rfl, hO9, hB9⟩) | (refine step_append_bytes rfl (.tmp 124) (.tmp 125) rfl w8.drew.heap.size v9 (l.take bg) (by simp [Act.eval]) hO9 ad mm cd (data.take mm) (by simp [Act.eval]) (HSD8.out.ext hB9) (by rw [List.length_take]; omega) hB9.size ?_; intro v10 w10 hO10 hg10; have hB10 := hB9.grown hg10 hB9.size (fun k hk => (hO9.lt k hk).1)) | (refine step_append_bytes rfl (.tmp 126) (.tmp 132) rfl w8.drew.heap.size v10 (l.take bg ++ data.take mm) (by simp [Act.eval]) hO10 (some ⟨w.heap.size + 1, 0, none⟩) 0 0 (l.drop be) (by simp [Act.eval]) (HBD'.out.ext hB10) (by rw [List.length_append, List.length_take, hlw]; omega) hB10.size ?_; intro v11 w11 hO11 hg11; have hB11 := hB10.grown hg11 hB10.size (fun k hk => (hO10.lt k hk).1)))
        clear hwr htn h0n hfull
        have hz8 : w7.heap.size ≤ w8.heap.size := hU8.size
        have hlwant : (l.take bg ++ data.take mm ++ l.drop be).length = 64 * n := by
          rw [List.length_append, List.length_append, List.length_take, List.length_drop, hlw, hl]; have := HBE.out; omega
        obtain ⟨g11, c11, rfl, hc11, hsw⟩ := hO11.rowN (64 * n) hlwant (by omega)
        have HSW := Lib.hid hsw
        clear hsw
        have hz11 : w8.heap.size ≤ w11.heap.size := hB11.size
        have hs11 := ((hO7.upd hU8 (fun k h1 e => by have := (hO7.lt k h1).1; have := hP6.lt k e; omega)).ext (Below.drew (Below.refl _ w8))).ext (w' := w11) hB11
        obtain ⟨a7', c7', e7, hs12⟩ := hs11.sl
        injection e7 with e71 e72 e73
        subst e71 e73
        clear e72 hs11
        have HS12 := Lib.hid hs12
        clear hs12 hs7
        go_wp2_with fail
        have hdl : (Disk.dirty d2).length ≤ 4096 := by
          unfold Disk.dirty
          rw [List.length_map]
          refine Nat.le_trans (List.length_filter_le _ _) ?_
          rw [List.length_range, hP6.ok.len]; exact hP6.ok.max
        go_loopw [19] (fun i wr => ∃ k : Nat, k ≤ (Disk.dirty d2).length ∧ i = .int .i64 k ∧ wr = w11) (fun i _ => (Disk.dirty d2).length - (intOf i).toNat)
        case atStart => exact ⟨0, by omega, rfl, rfl⟩
        case round =>
          obtain ⟨k, hk, rfl, rfl⟩ := hrel
          by_cases hlt : k < (Disk.dirty d2).length
          · have k0 : decide ((k : Int) < ((Disk.dirty d2).length : Int)) = true := by simp; omega
            obtain ⟨bz, oz, rfl, hbz, hcz⟩ := HS12.out.at hlt
            obtain ⟨z, hz⟩ : ∃ z, z = (Disk.dirty d2)[k]?.getD 0 := ⟨_, rfl⟩
            have hzm : z ∈ Disk.dirty d2 := by rw [hz, List.getElem?_eq_getElem hlt]; exact List.getElem_mem hlt
            rw [← hz] at hcz
            obtain ⟨g1, g2, g3⟩ := B5.out z hzm
            rw [hlw] at g1 g3
            have hbg' := HBG.out
            have hbe' := HBE.out
            rw [← hbg', ] at g2 g3
            rw [← hbe'] at g3
            have g4 : (bg : Int) / 64 ≤ z := g2
            have g5 : z ≤ ((be : Int) - 1) / 64 := by omega
            have k1 : ((mm : Int) == 0) = false := by simp; omega
            have k2 : decide (z < (bg : Int) / 64) = false := by simp; omega
            have k3 : decide (((be : Int) - 1) / 64 < z) = false := by simp; omega
            have k2' : decide (z < (bg : Int).tdiv 64) = false := by rw [Int.tdiv_eq_ediv_of_nonneg (by omega)]; exact k2
            have k3' : decide (((be : Int) - 1).tdiv 64 < z) = false := by rw [Int.tdiv_eq_ediv_of_nonneg (by omega)]; exact k3
            clear hz hzm g1 g2 g3 g4 g5 hbg' hbe'
            go_wp2
            go_roundw
            case rel => exact ⟨k + 1, by omega, rfl, trivial⟩
            case measure => simp [intOf]; omega
          · obtain rfl : k = (Disk.dirty d2).length := by omega
            have k0 : decide (((Disk.dirty d2).length : Int) < ((Disk.dirty d2).length : Int)) = false := by simp
            go_wp2_with fail
            obtain ⟨fb, hfb⟩ : ∃ fb, fb = f * 64 := ⟨_, rfl⟩
            obtain ⟨fe, hfe⟩ : ∃ fe, fe = fb + c * 64 := ⟨_, rfl⟩
            have hfen : fe ≤ 64 * n := by omega
            have hfec : fe ≤ c11 := by omega
            have hfbc : ¬ c11 = fb := by omega
            have hfbe : fb ≤ fe := by omega
            clear e1 e2 i1 i2
            have e3 : (f : Int) * 64 = (fb : Int) := by omega
            have e4 : (fb : Int) + (c : Int) * 64 = (fe : Int) := by omega
            have hP11 := hP8.drew.ext hB11
            refine (sd_image hP11).mono ?_; rintro e w12 ⟨v12, rfl, hO12, hB12⟩
            obtain ⟨a12, c12, rfl, hs12, -⟩ := hO12.sl
            have hO6' := ((((hO6.ext hB7).upd hU8 (fun k h1 e => by have := (hO6.lt k h1).1; have := hP5.lt k e; omega)).ext (Below.drew (Below.refl _ w8))).ext hB11).ext hB12
            obtain ⟨a6', c6', e6, hs6', -⟩ := hO6'.sl
            injection e6 with e61 e62 e63
            subst e61 e63
            rw [hl6] at hs6'
            clear e62
            have hX12 := (hB12.block _ (by have := heap_lt HX8.out; omega)).trans ((hB11.block _ (heap_lt HX8.out)).trans HX8.out)
            have z18 := cell_of_row _ _ 0 _ _ _ hX12
            simp only [List.getElem?_toArray, List.getElem?_cons_zero] at z18
            have hsw := HSW.out.ext hB12
            have hwant : d3.st.flatten = l.take bg ++ data.take mm ++ l.drop be := by
              rw [B4.out, HBE.out, HBG.out, hlw]
            rw [hwant, hlwant] at hs12
            have hk1 := keep_bytes _ _ _ _ _ _ _ _ w12 hs12 hsw
            rw [beq_self_eq_true] at hk1
            have hsw2 := (hsw.take (k := fe) hfen).drop (k := fb) hfbe
            rw [Nat.zero_add] at hsw2
            have hk2 := keep_bytes _ _ _ _ _ _ _ _ w12 hs6' hsw2
            have hw2 : (((l.take (f * 64 + off) ++ data.take mm ++ l.drop (f * 64 + off + (data.take mm).length)).drop (f * 64)).take (c * 64)) = ((l.take bg ++ data.take mm ++ l.drop be).take fe).drop fb := by
              rw [List.drop_take, HBE.out, HBG.out, hlw, hfe, hfb, Nat.add_sub_cancel_left]
            rw [hw2, beq_self_eq_true] at hk2
            have HK1 := Lib.hid hk1
            have HK2 := Lib.hid hk2
            rw [hwant, hlwant]
            clear hk1 hk2 hX12 hsw hsw2 hs6' hs12 hO6' hw2 hwant hfb hfe
            go_wp2_with fail
            refine HK1.out.mono ?_; rintro e w13 ⟨rfl, rfl⟩
            go_wp2_with fail
            refine HK2.out.mono ?_; rintro e w14 ⟨rfl, rfl⟩
            go_wp2_with (go_at_call 49; refine (law6_awake _).mono ?_; rintro e w15 ⟨rfl, hB15⟩)
            go_ret
            exact ⟨rfl, ((((((hU4.trans hUa).drew).ext hB11).ext hB12).ext hB15)).below hBw2 (fun k e => by have := hF2 k e; omega) (by omega)⟩
      · have HBD' : Hid (SlB w8.drew (some ⟨w.heap.size + 1, be, none⟩) (64 * n - be) (64 * n - be) (l.drop be)) := by
          have := HBD.out
          rw [if_neg hfull] at this
          exact Lib.hid this
        have hfull' : ¬ 64 * n = be := fun e => hfull e.symm
        have hwr : IntKind.i64.wrap (be : Int) = (be : Int) := by unfold IntKind.wrap; simp [IntKind.bits, IntKind.signed]; omega
        go_wp2_with fail
        go_region_law (first | (go_simp; go_at_call 32; go_must (refine (keep_own _ _ _ _ _ HIM1.out (by omega)).mono ?_); rintro e w9 ⟨v9, rfl, hO9, hB9⟩) | (refine step_append_bytes rfl (.tmp 124) (.tmp 125) rfl w8.drew.heap.size v9 (l.take bg) (by simp [Act.eval]) hO9 ad mm cd (data.take mm) (by simp [Act.eval]) (HSD8.out.ext hB9) (by rw [List.length_take]; omega) hB9.size ?_; intro v10 w10 hO10 hg10; have hB10 := hB9.grown hg10 hB9.size (fun k hk => (hO9.lt k hk).1)) | (refine step_append_bytes rfl (.tmp 126) (.tmp 132) rfl w8.drew.heap.size v10 (l.take bg ++ data.take mm) (by simp [Act.eval]) hO10 (some ⟨w.heap.size + 1, be, none⟩) (64 * n - be) (64 * n - be) (l.drop be) (by simp [Act.eval]) (HBD'.out.ext hB10) (by rw [List.length_append, List.length_take, hlw]; omega) hB10.size ?_; intro v11 w11 hO11 hg11; have hB11 := hB10.grown hg11 hB10.size (fun k hk => (hO10.lt k hk).1)))
        have hz8 : w7.heap.size ≤ w8.heap.size := hU8.size
        have hlwant : (l.take bg ++ data.take mm ++ l.drop be).length = 64 * n := by
          rw [List.length_append, List.length_append, List.length_take, List.length_drop, hlw, hl]; have := HBE.out; omega
        obtain ⟨g11, c11, rfl, hc11, hsw⟩ := hO11.rowN (64 * n) hlwant (by omega)
        have HSW := Lib.hid hsw
        clear hsw
        have hz11 : w8.heap.size ≤ w11.heap.size := hB11.size
        have hs11 := ((hO7.upd hU8 (fun k h1 e => by have := (hO7.lt k h1).1; have := hP6.lt k e; omega)).ext (Below.drew (Below.refl _ w8))).ext (w' := w11) hB11
        obtain ⟨a7', c7', e7, hs12⟩ := hs11.sl
        injection e7 with e71 e72 e73
        subst e71 e73
        clear e72 hs11
        have HS12 := Lib.hid hs12
        clear hs12 hs7
        go_wp2_with fail
        have hdl : (Disk.dirty d2).length ≤ 4096 := by
          unfold Disk.dirty
          rw [List.length_map]
          refine Nat.le_trans (List.length_filter_le _ _) ?_
          rw [List.length_range, hP6.ok.len]; exact hP6.ok.max
        go_loopw [19] (fun i wr => ∃ k : Nat, k ≤ (Disk.dirty d2).length ∧ i = .int .i64 k ∧ wr = w11) (fun i _ => (Disk.dirty d2).length - (intOf i).toNat)
        case atStart => exact ⟨0, by omega, rfl, rfl⟩
        case round =>
          obtain ⟨k, hk, rfl, rfl⟩ := hrel
          by_cases hlt : k < (Disk.dirty d2).length
          · have k0 : decide ((k : Int) < ((Disk.dirty d2).length : Int)) = true := by simp; omega
            obtain ⟨bz, oz, rfl, hbz, hcz⟩ := HS12.out.at hlt
            obtain ⟨z, hz⟩ : ∃ z, z = (Disk.dirty d2)[k]?.getD 0 := ⟨_, rfl⟩
            have hzm : z ∈ Disk.dirty d2 := by rw [hz, List.getElem?_eq_getElem hlt]; exact List.getElem_mem hlt
            rw [← hz] at hcz
            obtain ⟨g1, g2, g3⟩ := B5.out z hzm
            rw [hlw] at g1 g3
            have hbg' := HBG.out
            have hbe' := HBE.out
            rw [← hbg', ] at g2 g3
            rw [← hbe'] at g3
            have g4 : (bg : Int) / 64 ≤ z := g2
            have g5 : z ≤ ((be : Int) - 1) / 64 := by omega
            have k1 : ((mm : Int) == 0) = false := by simp; omega
            have k2 : decide (z < (bg : Int) / 64) = false := by simp; omega
            have k3 : decide (((be : Int) - 1) / 64 < z) = false := by simp; omega
            have k2' : decide (z < (bg : Int).tdiv 64) = false := by rw [Int.tdiv_eq_ediv_of_nonneg (by omega)]; exact k2
            have k3' : decide (((be : Int) - 1).tdiv 64 < z) = false := by rw [Int.tdiv_eq_ediv_of_nonneg (by omega)]; exact k3
            clear hz hzm g1 g2 g3 g4 g5 hbg' hbe'
            go_wp2
            go_roundw
            case rel => exact ⟨k + 1, by omega, rfl, trivial⟩
            case measure => simp [intOf]; omega
          · obtain rfl : k = (Disk.dirty d2).length := by omega
            have k0 : decide (((Disk.dirty d2).length : Int) < ((Disk.dirty d2).length : Int)) = false := by simp
            go_wp2_with fail
            obtain ⟨fb, hfb⟩ : ∃ fb, fb = f * 64 := ⟨_, rfl⟩
            obtain ⟨fe, hfe⟩ : ∃ fe, fe = fb + c * 64 := ⟨_, rfl⟩
            have hfen : fe ≤ 64 * n := by omega
            have hfec : fe ≤ c11 := by omega
            have hfbc : ¬ c11 = fb := by omega
            have hfbe : fb ≤ fe := by omega
            clear e1 e2 i1 i2
            have e3 : (f : Int) * 64 = (fb : Int) := by omega
            have e4 : (fb : Int) + (c : Int) * 64 = (fe : Int) := by omega
            have hP11 := hP8.drew.ext hB11
            refine (sd_image hP11).mono ?_; rintro e w12 ⟨v12, rfl, hO12, hB12⟩
            obtain ⟨a12, c12, rfl, hs12, -⟩ := hO12.sl
            have hO6' := ((((hO6.ext hB7).upd hU8 (fun k h1 e => by have := (hO6.lt k h1).1; have := hP5.lt k e; omega)).ext (Below.drew (Below.refl _ w8))).ext hB11).ext hB12
            obtain ⟨a6', c6', e6, hs6', -⟩ := hO6'.sl
            injection e6 with e61 e62 e63
            subst e61 e63
            rw [hl6] at hs6'
            clear e62
            have hX12 := (hB12.block _ (by have := heap_lt HX8.out; omega)).trans ((hB11.block _ (heap_lt HX8.out)).trans HX8.out)
            have z18 := cell_of_row _ _ 0 _ _ _ hX12
            simp only [List.getElem?_toArray, List.getElem?_cons_zero] at z18
            have hsw := HSW.out.ext hB12
            have hwant : d3.st.flatten = l.take bg ++ data.take mm ++ l.drop be := by
              rw [B4.out, HBE.out, HBG.out, hlw]
            rw [hwant, hlwant] at hs12
            have hk1 := keep_bytes _ _ _ _ _ _ _ _ w12 hs12 hsw
            rw [beq_self_eq_true] at hk1
            have hsw2 := (hsw.take (k := fe) hfen).drop (k := fb) hfbe
            rw [Nat.zero_add] at hsw2
            have hk2 := keep_bytes _ _ _ _ _ _ _ _ w12 hs6' hsw2
            have hw2 : (((l.take (f * 64 + off) ++ data.take mm ++ l.drop (f * 64 + off + (data.take mm).length)).drop (f * 64)).take (c * 64)) = ((l.take bg ++ data.take mm ++ l.drop be).take fe).drop fb := by
              rw [List.drop_take, HBE.out, HBG.out, hlw, hfe, hfb, Nat.add_sub_cancel_left]
            rw [hw2, beq_self_eq_true] at hk2
            have HK1 := Lib.hid hk1
            have HK2 := Lib.hid hk2
            rw [hwant, hlwant]
            clear hk1 hk2 hX12 hsw hsw2 hs6' hs12 hO6' hw2 hwant hfb hfe
            go_wp2_with fail
            refine HK1.out.mono ?_; rintro e w13 ⟨rfl, rfl⟩
            go_wp2_with fail
            refine HK2.out.mono ?_; rintro e w14 ⟨rfl, rfl⟩
            go_wp2_with (go_at_call 49; refine (law6_awake _).mono ?_; rintro e w15 ⟨rfl, hB15⟩)
            go_ret
            exact ⟨rfl, ((((((hU4.trans hUa).drew).ext hB11).ext hB12).ext hB15)).below hBw2 (fun k e => by have := hF2 k e; omega) (by omega)⟩

end Go.Proofs.Ytedmnbmfbgenjaa
