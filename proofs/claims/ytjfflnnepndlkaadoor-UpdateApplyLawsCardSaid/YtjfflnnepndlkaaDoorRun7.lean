/-
  A range over a function whose yields are known one by one, where the iterator stores into one box of its own between the rounds.
-/
import Derived.RangeFuncNested
import Derived.RangeFuncBound
import Derived.RangeFuncCalls
import Derived.RangeFuncLeaves
import Derived.RangeFuncBox
import Derived.Test.YtjfflnnepndlkaaDoorRun1
namespace Go.Proofs.YtjfflnnepndlkaaDoor
open Go.RowKit

/-- What an iterator promises that yields enc 0, .., enc (N - 1) and turns the cell of the box Bs alone. -/
def SeqIxS (F : Fence) (n : Nat) (P : Program) (g : Nat) (lb : Array Value) (enc : Nat → Array Value) (Kp : World → World → Prop) (N : Nat) (Bs : Nat) (w : World) : Prop :=
  ∀ (l : Nat) (J Jx : Nat → World → Prop) (W : World), Below w.heap.size w W → (∀ k W1 v, J k W1 → J k (W1.setCell ⟨Bs, 0, none⟩ v)) →
    (∀ k W1, J k W1 → k < N → YieldAt F (n - 1) P l (enc k) W1 fun e W' => (e = .returned (.bool true) ∧ J (k + 1) W' ∧ Kp W1 W') ∨ (e = .returned (.bool false) ∧ Jx (k + 1) W')) →
    J 0 W → CallsIn F n P g (#[.func (.yield l) #[] #[]] ++ lb) W fun e W' => (∃ v, e = .returned v) ∧ (J N W' ∨ ∃ k, k ≤ N ∧ Jx k W')

/-- How a round's body may be left. -/
def RoundEndsS (B : Nat) (Kp : World → World → Prop) (I : Nat → World → Prop) (Ix : Code → Nat → World → Prop) (k : Nat) (W : World) : Exit → Act → World → Prop
  | .normal, _, W' => KeepsFrom B W W' ∧ Kp W W' ∧ I k W'
  | .ret, _, W' => KeepsFrom B W W' ∧ Ix .ret k W'
  | .exit id, _, W' => KeepsFrom B W W' ∧ Ix (.exit id) k W'
  | _, _, _ => False

/-- A world whose block l became o'. -/
def StableS (B : Nat) (I : Nat → World → Prop) : Prop := ∀ k W l o o', I k W → B ≤ l → W.heap[l]? = some o → o.isCells = false → I k (W.putObj l o')

theorem wpIn_rangeIxS {F : Fence} {n : Nat} {P : Program} {g : Operand} {ps : Array Tmp} {assign body : Code} {Q : Exit → Act → World → Prop} {a : Act} {w : World}
    (hro : F.round = none) (h1 : 1 ≤ n) {gf : Nat} {lb : Array Value} (hg : a.eval g = .func (.func gf) #[] lb) (hFg : F.fn gf) (eg : ∀ args w, (callFunc gf args).run P w = .ok (.enter gf args) w)
    {enc : Nat → Array Value} {Kp : World → World → Prop} {N : Nat} {w0 : World} {Bs : Nat} (hBs : Bs < w.heap.size) (hseq : SeqIxS F (n - 1) P gf lb enc Kp N Bs w0)
    (hKt : ∀ {A B C : World}, Kp A B → Kp B C → Kp A C) (hKb : ∀ (W : World) (l : Nat) (o o' : Obj), w.heap.size ≤ l → W.heap[l]? = some o → o.isCells = false → Kp W (W.putObj l o')) (hb0 : Below w0.heap.size w0 w) (hps : ∀ k, (enc k).size = ps.size)
    (I : Nat → World → Prop) (Ix : Code → Nat → World → Prop) (hI : StableS w.heap.size I) (hIx : ∀ c, StableS w.heap.size (Ix c)) (hIs : ∀ k W v, I k W → I k (W.setCell ⟨Bs, 0, none⟩ v)) (h0 : ∀ o o', I 0 ((w.alloc o).alloc o')) (I' : Nat → Act → World → Prop) (hI' : ∀ a1, StableS w.heap.size (fun k W => I' k a1 W))
    (hassign : ∀ (l : Nat) (k : Nat) (W : World), I k W → k < N →
      assign.wpIn (F.inRound l) (n - 1 - 1) P (Exit.then (fun a1 W1 => KeepsFrom w.heap.size W W1 ∧ Kp W W1 ∧ I' k a1 W1) (fun _ _ _ => False)) { tmps := (ps.zip (enc k)).foldl (fun t (p, v) => t.setIfInBounds p v) a.tmps, defers := [] } W)
    (hbody : ∀ (l : Nat) (k : Nat) (a1 : Act) (W : World), I' k a1 W → k < N → body.wpIn (F.inRound l) (n - 1 - 1) P (RoundEndsS w.heap.size Kp I Ix (k + 1) W) a1 W)
    (hdone : ∀ (D : Nat) (W : World), w.heap.size ≤ D → I N W → W.heap[D]? = some (.deferred (some [])) → Q .normal { a with defers := { target := .collected D, args := #[] } :: a.defers } W)
    (hstop : ∀ (D : Nat) (c : Code) (k : Nat) (W : World), w.heap.size ≤ D → k ≤ N → Ix c k W → W.heap[D]? = some (.deferred (some [])) → c.wpIn F n P Q { a with defers := { target := .collected D, args := #[] } :: a.defers } W) :
    (Code.rangeFunc g ps assign body).wpIn F n P Q a w := by
  refine wpIn_rangeFunc (fun fn hfn => ?_)
  rw [hro]
  -- the loop's record, by its state and its pending jump
  obtain ⟨R, hR⟩ : ∃ R : LoopState → Option Code → Loop, R = fun st pe => { state := st, pending := pe, fn, tmps := a.tmps, params := ps, assign, body, defers := w.heap.size } := ⟨_, rfl⟩
  have e0 : ∀ st pe, (R st pe).state = st ∧ (R st pe).params = ps ∧ (R st pe).pending = pe := by intro st pe; rw [hR]; exact ⟨rfl, rfl, rfl⟩
  have hW1a : ∀ W1, W1 = (w.alloc (.deferred (some []))).alloc (.loop (R .ready none)) → W1.heap[w.heap.size + 1]? = some (.loop (R .ready none)) ∧ W1.heap[w.heap.size]? = some (.deferred (some [])) ∧ Below w0.heap.size w0 W1 ∧ I 0 W1 := by
    rintro W1 rfl
    refine ⟨heap_alloc_eq _ _ _ (by simp), (heap_alloc_lt _ _ _ (by simp)).trans (heap_alloc_eq _ _ _ rfl), ?_, h0 _ _⟩
    exact (hb0.alloc hb0.size _).alloc (by have := hb0.size; simp; omega) _
  obtain ⟨hl1, hd1, hb1, hi1⟩ := hW1a _ rfl
  refine ⟨w.heap.size + 1, [{ target := .collected w.heap.size, args := #[] }], (w.alloc (.deferred (some []))).alloc (.loop (R .ready none)), { target := .fn (.func gf) lb, args := #[.func (.yield (w.heap.size + 1)) #[] #[]] }, (w.alloc (.deferred (some []))).alloc (.loop (R .ready none)), gf,
    #[.func (.yield (w.heap.size + 1)) #[] #[]] ++ lb, (w.alloc (.deferred (some []))).alloc (.loop (R .ready none)), ?_, ?_, ?_, ?_, fun _ => h1, ?_⟩
  · rw [hR]; exact run_enterLoop_outer _ _ _ _ _
  · simp only [resolve, hg]; simp [go_sem]
  · intro f' hf'; simp [Target.leads] at hf'; subst hf'; exact hFg
  · simp [invoke, go_sem, eg]
  · refine (hseq (w.heap.size + 1)
      (fun k W => I k W ∧ W.heap[w.heap.size + 1]? = some (.loop (R .ready none)) ∧ W.heap[w.heap.size]? = some (.deferred (some [])))
      (fun k W => ∃ c, Ix c k W ∧ W.heap[w.heap.size + 1]? = some (.loop (R .done (some c))) ∧ W.heap[w.heap.size]? = some (.deferred (some [])))
      _ hb1 (fun k W v h => ⟨hIs k W v h.1, (heap_setCell_other _ _ _ _ (by simp only; omega)).trans h.2.1, (heap_setCell_other _ _ _ _ (by simp only; omega)).trans h.2.2⟩) ?_ ⟨hi1, hl1, hd1⟩).mono ?_
    · -- one round
      rintro k W ⟨hi, hl, hd⟩ hk
      have hy := run_yield (P := P) (args := enc k) hl (by rw [(e0 _ _).2.1]; exact hps k)
      have hyR : (Instr.yield (w.heap.size + 1) (enc k)).run P W = .ok (.round (w.heap.size + 1) fn ((ps.zip (enc k)).foldl (fun t (p, v) => t.setIfInBounds p v) a.tmps) assign body) W := by rw [hR] at hy; exact hy
      refine ⟨fn, _, assign, body, hyR, roundIn_of_wpIn hfn (wpIn_mono (hassign _ k W hi hk) ?_)⟩
      rintro e1 a1 W0 hp0
      cases e1 with
      | ret => exact hp0.elim
      | exit id => exact hp0.elim
      | goto t => exact hp0.elim
      | panic ch => exact hp0.elim
      | outgrown => exact hp0.elim
      | normal =>
      obtain ⟨g1, g2, g3⟩ := (show KeepsFrom w.heap.size W W0 ∧ Kp W W0 ∧ I' k a1 W0 from hp0)
      have hl0 := g1.same _ _ (by omega) hl rfl
      have hd0 := g1.same _ _ (Nat.le_refl _) hd rfl
      refine ⟨_, run_beginRound hl0 (e0 _ _).1, ?_⟩
      obtain ⟨b, hb⟩ : ∃ b : Loop, b = { R .ready none with state := .busy } := ⟨_, rfl⟩
      rw [← hb]
      have hl2 : (W0.putObj (w.heap.size + 1) (.loop b)).heap[w.heap.size + 1]? = some (.loop b) := World.putObj_heap_same (heap_lt hl0)
      have hd2 : (W0.putObj (w.heap.size + 1) (.loop b)).heap[w.heap.size]? = some (.deferred (some [])) := (World.putObj_heap_other (by omega)).trans hd0
      have hk2 : Kp W (W0.putObj (w.heap.size + 1) (.loop b)) := hKt g2 (hKb _ _ _ _ (by omega) hl0 rfl)
      have ends : ∀ (j : Option Code) (W3 : World), KeepsFrom w.heap.size (W0.putObj (w.heap.size + 1) (.loop b)) W3 →
          ∃ W4, W4 = W3.putObj (w.heap.size + 1) (.loop (R (if j.isNone then .ready else .done) j)) ∧ (Instr.endRound (w.heap.size + 1) j).run P W3 = .ok (.bool j.isNone) W4 ∧ W3.heap[w.heap.size + 1]? = some (.loop b) ∧
            W4.heap[w.heap.size + 1]? = some (.loop (R (if j.isNone then .ready else .done) j)) ∧ W4.heap[w.heap.size]? = some (.deferred (some [])) := by
        intro j W3 hk3
        have hl3 := hk3.same _ _ (by omega) hl2 rfl
        refine ⟨_, rfl, ?_, hl3, World.putObj_heap_same (heap_lt hl3), (World.putObj_heap_other (by omega)).trans (hk3.same _ _ (Nat.le_refl _) hd2 rfl)⟩
        have := run_endRound (P := P) j hl3
        rw [hb, hR] at this; rw [hR]; exact this
      refine wpIn_mono (hbody _ k a1 _ (hI' a1 _ _ _ _ _ g3 (by omega) hl0 rfl) hk) ?_
      rintro e a3 W3 hp
      cases e with
      | normal =>
        obtain ⟨h3, h4, h5⟩ := hp
        obtain ⟨W4, rfl, hr, hl3, hl4, hd4⟩ := ends none W3 h3
        exact ⟨_, _, hr, .inl ⟨rfl, ⟨hI _ _ _ _ _ h5 (by omega) hl3 rfl, hl4, hd4⟩, hKt (hKt hk2 h4) (hKb _ _ _ _ (by omega) hl3 rfl)⟩⟩
      | ret =>
        obtain ⟨h3, h5⟩ := hp
        obtain ⟨W4, rfl, hr, hl3, hl4, hd4⟩ := ends (some .ret) W3 h3
        exact ⟨_, _, hr, .inr ⟨rfl, .ret, hIx _ _ _ _ _ _ h5 (by omega) hl3 rfl, hl4, hd4⟩⟩
      | exit id =>
        obtain ⟨h3, h5⟩ := hp
        obtain ⟨W4, rfl, hr, hl3, hl4, hd4⟩ := ends (some (.exit id)) W3 h3
        exact ⟨_, _, hr, .inr ⟨rfl, .exit id, hIx _ _ _ _ _ _ h5 (by omega) hl3 rfl, hl4, hd4⟩⟩
      | goto t => exact hp.elim
      | panic ch => exact hp.elim
      | outgrown => exact hp.elim
    · -- behind the iterator
      rintro e W2 ⟨⟨v, rfl⟩, (⟨hi, hl, hd⟩ | ⟨k, hk, c, hi, hl, hd⟩)⟩
      · have hr := run_endLoop (P := P) hl (by rw [(e0 _ _).1]; simp)
        rw [(e0 _ _).2.2] at hr
        exact ⟨none, _, hr, hdone _ _ (Nat.le_refl _) (hI _ _ _ _ _ hi (by omega) hl rfl) ((World.putObj_heap_other (by omega)).trans hd)⟩
      · have hr := run_endLoop (P := P) hl (by rw [(e0 _ _).1]; simp)
        rw [(e0 _ _).2.2] at hr
        exact ⟨some c, _, hr, hstop _ c k _ (Nat.le_refl _) hk (hIx _ _ _ _ _ _ hi (by omega) hl rfl) ((World.putObj_heap_other (by omega)).trans hd)⟩

end Go.Proofs.YtjfflnnepndlkaaDoor
