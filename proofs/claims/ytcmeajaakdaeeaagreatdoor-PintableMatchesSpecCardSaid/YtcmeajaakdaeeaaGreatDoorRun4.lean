/-
  Texts in one: RangeIx, RangeIx2, RangeIy.
-/
import Derived.RangeFuncNested
import Derived.RangeFuncBound
import Derived.RangeFuncCalls
import Derived.RangeFuncLeaves
import Derived.RangeFuncBox
import Derived.Test.YtcmeajaakdaeeaaGreatDoorRun2
/-
  A range over a function whose yields are known one by one: the k-th round gets the k-th arguments. (The kit's law for such loops hands the body whatever argument there may be; a body that would panic at a wrong one cannot be walked by it.)
-/
namespace Go.Proofs.YtcmeajaakdaeeaaGreatDoor
open Go.RowKit

/-- What an iterator promises that yields enc 0, .., enc (N - 1) and turns nothing itself. -/
def SeqIx (F : Fence) (n : Nat) (P : Program) (g : Nat) (lb : Array Value) (enc : Nat → Array Value) (Kp : World → World → Prop) (N : Nat) (w : World) : Prop :=
  ∀ (l : Nat) (J Jx : Nat → World → Prop) (W : World), Below w.heap.size w W →
    (∀ k W1, J k W1 → k < N → YieldAt F (n - 1) P l (enc k) W1 fun e W' => (e = .returned (.bool true) ∧ J (k + 1) W' ∧ Kp W1 W') ∨ (e = .returned (.bool false) ∧ Jx (k + 1) W')) →
    J 0 W → CallsIn F n P g (#[.func (.yield l) #[] #[]] ++ lb) W fun e W' => (∃ v, e = .returned v) ∧ (J N W' ∨ ∃ k, k ≤ N ∧ Jx k W')

/-- How a round's body may be left. -/
def RoundEnds (B : Nat) (Kp : World → World → Prop) (I : Nat → World → Prop) (Ix : Code → Nat → World → Prop) (k : Nat) (W : World) : Exit → Act → World → Prop
  | .normal, _, W' => KeepsFrom B W W' ∧ Kp W W' ∧ I k W'
  | .ret, _, W' => KeepsFrom B W W' ∧ Ix .ret k W'
  | .exit id, _, W' => KeepsFrom B W W' ∧ Ix (.exit id) k W'
  | _, _, _ => False

/-- A world whose block l became o'. -/
def Stable (B : Nat) (I : Nat → World → Prop) : Prop := ∀ k W l o o', I k W → B ≤ l → W.heap[l]? = some o → o.isCells = false → I k (W.putObj l o')

theorem wpIn_rangeIx {F : Fence} {n : Nat} {P : Program} {g : Operand} {ps : Array Tmp} {assign body : Code} {Q : Exit → Act → World → Prop} {a : Act} {w : World}
    (hro : F.round = none) (h1 : 1 ≤ n) {gf : Nat} {lb : Array Value} (hg : a.eval g = .func (.func gf) #[] lb) (hFg : F.fn gf) (eg : ∀ args w, (callFunc gf args).run P w = .ok (.enter gf args) w)
    {enc : Nat → Array Value} {Kp : World → World → Prop} {N : Nat} {w0 : World} (hseq : SeqIx F (n - 1) P gf lb enc Kp N w0)
    (hKt : ∀ {A B C : World}, Kp A B → Kp B C → Kp A C) (hKb : ∀ (W : World) (l : Nat) (o o' : Obj), w.heap.size ≤ l → W.heap[l]? = some o → o.isCells = false → Kp W (W.putObj l o')) (hb0 : Below w0.heap.size w0 w) (hps : ∀ k, (enc k).size = ps.size)
    (I : Nat → World → Prop) (Ix : Code → Nat → World → Prop) (hI : Stable w.heap.size I) (hIx : ∀ c, Stable w.heap.size (Ix c)) (h0 : ∀ o o', I 0 ((w.alloc o).alloc o')) (I' : Nat → Act → World → Prop) (hI' : ∀ a1, Stable w.heap.size (fun k W => I' k a1 W))
    (hassign : ∀ (l : Nat) (k : Nat) (W : World), I k W → k < N →
      assign.wpIn (F.inRound l) (n - 1 - 1) P (Exit.then (fun a1 W1 => KeepsFrom w.heap.size W W1 ∧ Kp W W1 ∧ I' k a1 W1) (fun _ _ _ => False)) { tmps := (ps.zip (enc k)).foldl (fun t (p, v) => t.setIfInBounds p v) a.tmps, defers := [] } W)
    (hbody : ∀ (l : Nat) (k : Nat) (a1 : Act) (W : World), I' k a1 W → k < N → body.wpIn (F.inRound l) (n - 1 - 1) P (RoundEnds w.heap.size Kp I Ix (k + 1) W) a1 W)
    (hdone : ∀ (D : Nat) (W : World), w.heap.size ≤ D → I N W → W.heap[D]? = some (.deferred (some [])) → Q .normal { a with defers := { target := .collected D, args := #[] } :: a.defers } W)
    (hstop : ∀ (D : Nat) (c : Code) (k : Nat) (W : World), w.heap.size ≤ D → k ≤ N → Ix c k W → W.heap[D]? = some (.deferred (some [])) → c.wpIn F n P Q { a with defers := { target := .collected D, args := #[] } :: a.defers } W) :
    (Code.rangeFunc g ps assign body).wpIn F n P Q a w := by
  refine wpIn_rangeFunc (fun fn hfn => ?_)
  rw [hro]
  -- the loop's record, by its state and its pending jump
  obtain ⟨R, hR⟩ : ∃ R : LoopState → Option Code → Loop, R = fun st pe => { state := st, pending := pe, fn, tmps := a.tmps, params := ps, assign, body, defers := w.heap.size } := ⟨_, rfl⟩
  have e0 : ∀ st pe, (R st pe).state = st ∧ (R st pe).params = ps ∧ (R st pe).pending = pe := by intro st pe; rw [hR]; exact ⟨rfl, rfl, rfl⟩
  have hW1a : ∀ W1, W1 = (w.alloc (.deferred (some []))).alloc (.loop (R .ready none)) → W1.heap[w.heap.size + 1]? = some (.loop (R .ready none)) ∧ W1.heap[w.heap.size]? = some (.deferred (some [])) ∧ Below w0.heap.size w0 W1 ∧ I 0 W1 := by
    rintro W1 rfl
    refine ⟨heap_alloc_eq _ _ _ (by simp), (heap_alloc_lt _ _ _ (by simp)).trans (heap_alloc_eq _ _ _ rfl), ?_, h0 _ _⟩
    exact (hb0.alloc hb0.size _).alloc (by have := hb0.size; simp; omega) _
  obtain ⟨hl1, hd1, hb1, hi1⟩ := hW1a _ rfl
  refine ⟨w.heap.size + 1, [{ target := .collected w.heap.size, args := #[] }], (w.alloc (.deferred (some []))).alloc (.loop (R .ready none)), { target := .fn (.func gf) lb, args := #[.func (.yield (w.heap.size + 1)) #[] #[]] }, (w.alloc (.deferred (some []))).alloc (.loop (R .ready none)), gf,
    #[.func (.yield (w.heap.size + 1)) #[] #[]] ++ lb, (w.alloc (.deferred (some []))).alloc (.loop (R .ready none)), ?_, ?_, ?_, ?_, fun _ => h1, ?_⟩
  · rw [hR]; exact run_enterLoop_outer _ _ _ _ _
  · simp only [resolve, hg]; simp [go_sem]
  · intro f' hf'; simp [Target.leads] at hf'; subst hf'; exact hFg
  · simp [invoke, go_sem, eg]
  · refine (hseq (w.heap.size + 1)
      (fun k W => I k W ∧ W.heap[w.heap.size + 1]? = some (.loop (R .ready none)) ∧ W.heap[w.heap.size]? = some (.deferred (some [])))
      (fun k W => ∃ c, Ix c k W ∧ W.heap[w.heap.size + 1]? = some (.loop (R .done (some c))) ∧ W.heap[w.heap.size]? = some (.deferred (some [])))
      _ hb1 ?_ ⟨hi1, hl1, hd1⟩).mono ?_
    · -- one round
      rintro k W ⟨hi, hl, hd⟩ hk
      have hy := run_yield (P := P) (args := enc k) hl (by rw [(e0 _ _).2.1]; exact hps k)
      have hyR : (Instr.yield (w.heap.size + 1) (enc k)).run P W = .ok (.round (w.heap.size + 1) fn ((ps.zip (enc k)).foldl (fun t (p, v) => t.setIfInBounds p v) a.tmps) assign body) W := by rw [hR] at hy; exact hy
      refine ⟨fn, _, assign, body, hyR, roundIn_of_wpIn hfn (wpIn_mono (hassign _ k W hi hk) ?_)⟩
      rintro e1 a1 W0 hp0
      cases e1 with
      | ret => exact hp0.elim
      | exit id => exact hp0.elim
      | goto t => exact hp0.elim
      | panic ch => exact hp0.elim
      | outgrown => exact hp0.elim
      | normal =>
      obtain ⟨g1, g2, g3⟩ := (show KeepsFrom w.heap.size W W0 ∧ Kp W W0 ∧ I' k a1 W0 from hp0)
      have hl0 := g1.same _ _ (by omega) hl rfl
      have hd0 := g1.same _ _ (Nat.le_refl _) hd rfl
      refine ⟨_, run_beginRound hl0 (e0 _ _).1, ?_⟩
      obtain ⟨b, hb⟩ : ∃ b : Loop, b = { R .ready none with state := .busy } := ⟨_, rfl⟩
      rw [← hb]
      have hl2 : (W0.putObj (w.heap.size + 1) (.loop b)).heap[w.heap.size + 1]? = some (.loop b) := World.putObj_heap_same (heap_lt hl0)
      have hd2 : (W0.putObj (w.heap.size + 1) (.loop b)).heap[w.heap.size]? = some (.deferred (some [])) := (World.putObj_heap_other (by omega)).trans hd0
      have hk2 : Kp W (W0.putObj (w.heap.size + 1) (.loop b)) := hKt g2 (hKb _ _ _ _ (by omega) hl0 rfl)
      have ends : ∀ (j : Option Code) (W3 : World), KeepsFrom w.heap.size (W0.putObj (w.heap.size + 1) (.loop b)) W3 →
          ∃ W4, W4 = W3.putObj (w.heap.size + 1) (.loop (R (if j.isNone then .ready else .done) j)) ∧ (Instr.endRound (w.heap.size + 1) j).run P W3 = .ok (.bool j.isNone) W4 ∧ W3.heap[w.heap.size + 1]? = some (.loop b) ∧
            W4.heap[w.heap.size + 1]? = some (.loop (R (if j.isNone then .ready else .done) j)) ∧ W4.heap[w.heap.size]? = some (.deferred (some [])) := by
        intro j W3 hk3
        have hl3 := hk3.same _ _ (by omega) hl2 rfl
        refine ⟨_, rfl, ?_, hl3, World.putObj_heap_same (heap_lt hl3), (World.putObj_heap_other (by omega)).trans (hk3.same _ _ (Nat.le_refl _) hd2 rfl)⟩
        have := run_endRound (P := P) j hl3
        rw [hb, hR] at this; rw [hR]; exact this
      refine wpIn_mono (hbody _ k a1 _ (hI' a1 _ _ _ _ _ g3 (by omega) hl0 rfl) hk) ?_
      rintro e a3 W3 hp
      cases e with
      | normal =>
        obtain ⟨h3, h4, h5⟩ := hp
        obtain ⟨W4, rfl, hr, hl3, hl4, hd4⟩ := ends none W3 h3
        exact ⟨_, _, hr, .inl ⟨rfl, ⟨hI _ _ _ _ _ h5 (by omega) hl3 rfl, hl4, hd4⟩, hKt (hKt hk2 h4) (hKb _ _ _ _ (by omega) hl3 rfl)⟩⟩
      | ret =>
        obtain ⟨h3, h5⟩ := hp
        obtain ⟨W4, rfl, hr, hl3, hl4, hd4⟩ := ends (some .ret) W3 h3
        exact ⟨_, _, hr, .inr ⟨rfl, .ret, hIx _ _ _ _ _ _ h5 (by omega) hl3 rfl, hl4, hd4⟩⟩
      | exit id =>
        obtain ⟨h3, h5⟩ := hp
        obtain ⟨W4, rfl, hr, hl3, hl4, hd4⟩ := ends (some (.exit id)) W3 h3
        exact ⟨_, _, hr, .inr ⟨rfl, .exit id, hIx _ _ _ _ _ _ h5 (by omega) hl3 rfl, hl4, hd4⟩⟩
      | goto t => exact hp.elim
      | panic ch => exact hp.elim
      | outgrown => exact hp.elim
    · -- behind the iterator
      rintro e W2 ⟨⟨v, rfl⟩, (⟨hi, hl, hd⟩ | ⟨k, hk, c, hi, hl, hd⟩)⟩
      · have hr := run_endLoop (P := P) hl (by rw [(e0 _ _).1]; simp)
        rw [(e0 _ _).2.2] at hr
        exact ⟨none, _, hr, hdone _ _ (Nat.le_refl _) (hI _ _ _ _ _ hi (by omega) hl rfl) ((World.putObj_heap_other (by omega)).trans hd)⟩
      · have hr := run_endLoop (P := P) hl (by rw [(e0 _ _).1]; simp)
        rw [(e0 _ _).2.2] at hr
        exact ⟨some c, _, hr, hstop _ c k _ (Nat.le_refl _) hk (hIx _ _ _ _ _ _ hi (by omega) hl rfl) ((World.putObj_heap_other (by omega)).trans hd)⟩

end Go.Proofs.YtcmeajaakdaeeaaGreatDoor

/-
  A range over a function by the round's index, the body walked behind the assignment at the frame that the assignment left (no frame is typed).
-/
namespace Go.Proofs.YtcmeajaakdaeeaaGreatDoor
open Go.RowKit

theorem wpIn_rangeIx2 {F : Fence} {n : Nat} {P : Program} {g : Operand} {ps : Array Tmp} {assign body : Code} {Q : Exit → Act → World → Prop} {a : Act} {w : World}
    (hro : F.round = none) (h1 : 1 ≤ n) {gf : Nat} {lb : Array Value} (hg : a.eval g = .func (.func gf) #[] lb) (hFg : F.fn gf) (eg : ∀ args w, (callFunc gf args).run P w = .ok (.enter gf args) w)
    {enc : Nat → Array Value} {Kp : World → World → Prop} {N : Nat} {w0 : World} (hseq : SeqIx F (n - 1) P gf lb enc Kp N w0)
    (hKt : ∀ {A B C : World}, Kp A B → Kp B C → Kp A C) (hKb : ∀ (W : World) (l : Nat) (o o' : Obj), w.heap.size ≤ l → W.heap[l]? = some o → o.isCells = false → Kp W (W.putObj l o')) (hb0 : Below w0.heap.size w0 w) (hps : ∀ k, (enc k).size = ps.size)
    (I : Nat → World → Prop) (Ix : Code → Nat → World → Prop) (hI : Stable w.heap.size I) (hIx : ∀ c, Stable w.heap.size (Ix c)) (h0 : ∀ o o', I 0 ((w.alloc o).alloc o')) {D : Type} (J : D → Nat → World → Prop) (hJ : ∀ d, Stable w.heap.size (J d))
    (hround : ∀ (l : Nat) (k : Nat) (W : World), I k W → k < N →
      assign.wpIn (F.inRound l) (n - 1 - 1) P (Exit.then (fun a1 W1 => KeepsFrom w.heap.size W W1 ∧ Kp W W1 ∧ ∃ d, J d k W1 ∧ ∀ (lp : Nat) (W' : World), J d k W' → body.wpIn (F.inRound lp) (n - 1 - 1) P (RoundEnds w.heap.size Kp I Ix (k + 1) W') a1 W') (fun _ _ _ => False)) { tmps := (ps.zip (enc k)).foldl (fun t (p, v) => t.setIfInBounds p v) a.tmps, defers := [] } W)
    (hdone : ∀ (D : Nat) (W : World), w.heap.size ≤ D → I N W → W.heap[D]? = some (.deferred (some [])) → Q .normal { a with defers := { target := .collected D, args := #[] } :: a.defers } W)
    (hstop : ∀ (D : Nat) (c : Code) (k : Nat) (W : World), w.heap.size ≤ D → k ≤ N → Ix c k W → W.heap[D]? = some (.deferred (some [])) → c.wpIn F n P Q { a with defers := { target := .collected D, args := #[] } :: a.defers } W) :
    (Code.rangeFunc g ps assign body).wpIn F n P Q a w :=
  wpIn_rangeIx hro h1 hg hFg eg hseq hKt hKb hb0 hps I Ix hI hIx h0
    (fun k a1 W => ∃ d, J d k W ∧ ∀ (lp : Nat) (W' : World), J d k W' → body.wpIn (F.inRound lp) (n - 1 - 1) P (RoundEnds w.heap.size Kp I Ix (k + 1) W') a1 W')
    (fun _ k W l o o' ⟨d, hj, hb⟩ hl h1 h2 => ⟨d, hJ d k W l o o' hj hl h1 h2, hb⟩)
    hround (fun l _ _ W ⟨_, hj, hb⟩ _ => hb l W hj) hdone hstop

end Go.Proofs.YtcmeajaakdaeeaaGreatDoor

/-
  A range over a function whose iterator has objects of its own beneath its yields (an iterator that itself ranges over a function): the rounds also promise to leave younger objects alone. And the fence that is no fence: levels do not count in it.
-/
namespace Go.Proofs.YtcmeajaakdaeeaaGreatDoor
open Go.RowKit

theorem keepsFrom_mono {B B' : Nat} {W W' : World} (h : KeepsFrom B W W') (hb : B ≤ B') : KeepsFrom B' W W' := ⟨h.size, fun k o hk => h.same k o (Nat.le_trans hb hk)⟩
theorem keepsFrom_put (l : Nat) (W : World) (o : Obj) : KeepsFrom (l + 1) W (W.putObj l o) := ⟨by simp, fun k o' hk hh _ => (World.putObj_heap_other (by omega)).trans hh⟩

/-- Only objects beneath the iterator's yields have changed: younger loops' records; and there are new blocks. -/
structure Yng (l : Nat) (A B : World) : Prop where
  os : B.os = A.os
  tape : B.tape = A.tape
  output : B.output = A.output
  size : A.heap.size ≤ B.heap.size
  keep : ∀ k o, A.heap[k]? = some o → (o.isCells = true ∨ k ≤ l) → B.heap[k]? = some o
theorem Yng.refl (l : Nat) (A : World) : Yng l A A := ⟨rfl, rfl, rfl, Nat.le_refl _, fun _ _ h _ => h⟩
theorem Yng.trans {l : Nat} {A B C : World} (h : Yng l A B) (k : Yng l B C) : Yng l A C := ⟨k.os.trans h.os, k.tape.trans h.tape, k.output.trans h.output, Nat.le_trans h.size k.size, fun i o ho hc => k.keep i o (h.keep i o ho hc) hc⟩
theorem Yng.of_below {l : Nat} {A B : World} (h : Below A.heap.size A B) : Yng l A B := ⟨h.os, h.tape, h.output, h.size, fun k _ ho _ => (h.block k (heap_lt ho)).trans ho⟩
theorem yng_alloc2 (l : Nat) (A : World) (o o' : Obj) : Yng l A ((A.alloc o).alloc o') := .of_below (((Below.refl _ _).alloc (Nat.le_refl _) o).alloc (by simp) o')
theorem Yng.put {l j : Nat} {A : World} {o o' : Obj} (hj : l < j) (hl : A.heap[j]? = some o) (hc : o.isCells = false) : Yng l A (A.putObj j o') :=
  ⟨rfl, rfl, rfl, by simp, fun k u hu hk => by
    by_cases e : k = j
    · subst e
      rw [hl] at hu; cases hu
      rcases hk with hk | hk
      · rw [hc] at hk; cases hk
      · omega
    · exact (World.putObj_heap_other e).trans hu⟩
theorem Yng.boxed {l : Nat} {A B : World} (h : Yng l A B) {b : Nat} {cs : Array Value} {t : TypeId} {fr : Nat × Nat} (hb : A.heap[b]? = some (.cells cs t fr)) : B.heap[b]? = some (.cells cs t fr) := h.keep b _ hb (.inl rfl)
theorem Yng.below {l B0 : Nat} {w A B : World} (h : Yng l A B) (hb : Below B0 w A) (hB : B0 ≤ l + 1) (hA : B0 ≤ A.heap.size) : Below B0 w B :=
  hb.trans ⟨h.os, h.tape, h.output, h.size, fun k hk => by
    have hkl : k < A.heap.size := by omega
    rw [h.keep k _ (Array.getElem?_eq_getElem hkl) (.inr (by omega)), Array.getElem?_eq_getElem hkl]⟩

/-- What an iterator promises that yields enc 0, .., enc (N - 1) and turns nothing itself. -/
def SeqIy (F : Fence) (n : Nat) (P : Program) (g : Nat) (lb : Array Value) (enc : Nat → Array Value) (Kp : World → World → Prop) (N : Nat) (w : World) : Prop :=
  ∀ (l : Nat) (J Jx : Nat → World → Prop) (W : World), Below w.heap.size w W → l < W.heap.size → (∀ k A B, J k A → Yng l A B → J k B) → (∀ k A B, Jx k A → Yng l A B → Jx k B) →
    (∀ k W1, J k W1 → k < N → YieldAt F (n - 1) P l (enc k) W1 fun e W' => (e = .returned (.bool true) ∧ J (k + 1) W' ∧ Kp W1 W' ∧ KeepsFrom (l + 1) W1 W') ∨ (e = .returned (.bool false) ∧ Jx (k + 1) W' ∧ KeepsFrom (l + 1) W1 W')) →
    J 0 W → CallsIn F n P g (#[.func (.yield l) #[] #[]] ++ lb) W fun e W' => (∃ v, e = .returned v) ∧ (J N W' ∨ ∃ k, k ≤ N ∧ Jx k W')

theorem SeqIx.y {F : Fence} {n : Nat} {P : Program} {g : Nat} {lb : Array Value} {enc : Nat → Array Value} {Kp : World → World → Prop} {N : Nat} {w : World} (h : SeqIx F n P g lb enc Kp N w) : SeqIy F n P g lb enc Kp N w :=
  fun l J Jx W hW _ _ _ hY hJ => h l J Jx W hW (fun k W1 hj hk => (hY k W1 hj hk).mono (fun e W' hp => by
    rcases hp with ⟨h1, h2, h3, -⟩ | ⟨h1, h2, -⟩
    · exact .inl ⟨h1, h2, h3⟩
    · exact .inr ⟨h1, h2⟩)) hJ
theorem SeqIx.kp {F : Fence} {n : Nat} {P : Program} {g : Nat} {lb : Array Value} {enc : Nat → Array Value} {Kp Kp' : World → World → Prop} {N : Nat} {w : World} (h : SeqIx F n P g lb enc Kp N w) (hk : ∀ A B, Kp' A B → Kp A B) : SeqIx F n P g lb enc Kp' N w :=
  fun l J Jx W hW hY hJ => h l J Jx W hW (fun k W1 hj hkn => (hY k W1 hj hkn).mono (fun e W' hp => by
    rcases hp with ⟨h1, h2, h3⟩ | ⟨h1, h2⟩
    · exact .inl ⟨h1, h2, hk _ _ h3⟩
    · exact .inr ⟨h1, h2⟩)) hJ
theorem yieldAt_wide {n m : Nat} {P : Program} {l : Nat} {args : Array Value} {W : World} {R : Ending → World → Prop} (h : YieldAt Fence.wide n P l args W R) : YieldAt Fence.wide m P l args W R := by
  obtain ⟨fn, tmps, assign, body, hy, hR⟩ := h
  exact ⟨fn, tmps, assign, body, hy, hR.1, fun c cs _ => hR.2 c cs (room_wide _)⟩
theorem yieldAt_wideIn {n m : Nat} {P : Program} {l : Nat} {args : Array Value} {W : World} {R : Ending → World → Prop} (lp : Nat) (h : YieldAt Fence.wide n P l args W R) : YieldAt (Fence.wide.inRound lp) m P l args W R := by
  obtain ⟨fn, tmps, assign, body, hy, hR⟩ := h
  exact ⟨fn, tmps, assign, body, hy, hR.1, fun c cs _ => hR.2 c cs (room_wide _)⟩
theorem SeqIx.wide {n m : Nat} {P : Program} {g : Nat} {lb : Array Value} {enc : Nat → Array Value} {Kp : World → World → Prop} {N : Nat} {w : World} (h : SeqIx Fence.wide n P g lb enc Kp N w) : SeqIx Fence.wide m P g lb enc Kp N w :=
  fun l J Jx W hW hY hJ => callsIn_wide.2 (callsIn_wide.1 (h l J Jx W hW (fun k W1 hj hk => yieldAt_wide (hY k W1 hj hk)) hJ))
theorem SeqIy.wide {n m : Nat} {P : Program} {g : Nat} {lb : Array Value} {enc : Nat → Array Value} {Kp : World → World → Prop} {N : Nat} {w : World} (h : SeqIy Fence.wide n P g lb enc Kp N w) : SeqIy Fence.wide m P g lb enc Kp N w :=
  fun l J Jx W hW hl h1 h2 hY hJ => callsIn_wide.2 (callsIn_wide.1 (h l J Jx W hW hl h1 h2 (fun k W1 hj hk => yieldAt_wide (hY k W1 hj hk)) hJ))

theorem wpIn_rangeIy {F : Fence} {n : Nat} {P : Program} {g : Operand} {ps : Array Tmp} {assign body : Code} {Q : Exit → Act → World → Prop} {a : Act} {w : World}
    (hro : F.round = none) (h1 : 1 ≤ n) {gf : Nat} {lb : Array Value} (hg : a.eval g = .func (.func gf) #[] lb) (hFg : F.fn gf) (eg : ∀ args w, (callFunc gf args).run P w = .ok (.enter gf args) w)
    {enc : Nat → Array Value} {Kp : World → World → Prop} {N : Nat} {w0 : World} (hseq : SeqIy F (n - 1) P gf lb enc Kp N w0)
    (hKt : ∀ {A B C : World}, Kp A B → Kp B C → Kp A C) (hKb : ∀ (W : World) (l : Nat) (o o' : Obj), w.heap.size ≤ l → W.heap[l]? = some o → o.isCells = false → Kp W (W.putObj l o')) (hb0 : Below w0.heap.size w0 w) (hps : ∀ k, (enc k).size = ps.size)
    (I : Nat → World → Prop) (Ix : Code → Nat → World → Prop) (hI : Stable w.heap.size I) (hIx : ∀ c, Stable w.heap.size (Ix c)) (hIy : ∀ k A B, I k A → Yng (w.heap.size + 1) A B → I k B) (hIxy : ∀ c k A B, Ix c k A → Yng (w.heap.size + 1) A B → Ix c k B) (h0 : ∀ o o', I 0 ((w.alloc o).alloc o')) (I' : Nat → Act → World → Prop) (hI' : ∀ a1, Stable w.heap.size (fun k W => I' k a1 W))
    (hassign : ∀ (l : Nat) (k : Nat) (W : World), I k W → k < N →
      assign.wpIn (F.inRound l) (n - 1 - 1) P (Exit.then (fun a1 W1 => KeepsFrom w.heap.size W W1 ∧ Kp W W1 ∧ I' k a1 W1) (fun _ _ _ => False)) { tmps := (ps.zip (enc k)).foldl (fun t (p, v) => t.setIfInBounds p v) a.tmps, defers := [] } W)
    (hbody : ∀ (l : Nat) (k : Nat) (a1 : Act) (W : World), I' k a1 W → k < N → body.wpIn (F.inRound l) (n - 1 - 1) P (RoundEnds w.heap.size Kp I Ix (k + 1) W) a1 W)
    (hdone : ∀ (D : Nat) (W : World), w.heap.size ≤ D → I N W → W.heap[D]? = some (.deferred (some [])) → Q .normal { a with defers := { target := .collected D, args := #[] } :: a.defers } W)
    (hstop : ∀ (D : Nat) (c : Code) (k : Nat) (W : World), w.heap.size ≤ D → k ≤ N → Ix c k W → W.heap[D]? = some (.deferred (some [])) → c.wpIn F n P Q { a with defers := { target := .collected D, args := #[] } :: a.defers } W) :
    (Code.rangeFunc g ps assign body).wpIn F n P Q a w := by
  refine wpIn_rangeFunc (fun fn hfn => ?_)
  rw [hro]
  -- the loop's record, by its state and its pending jump
  obtain ⟨R, hR⟩ : ∃ R : LoopState → Option Code → Loop, R = fun st pe => { state := st, pending := pe, fn, tmps := a.tmps, params := ps, assign, body, defers := w.heap.size } := ⟨_, rfl⟩
  have e0 : ∀ st pe, (R st pe).state = st ∧ (R st pe).params = ps ∧ (R st pe).pending = pe := by intro st pe; rw [hR]; exact ⟨rfl, rfl, rfl⟩
  have hW1a : ∀ W1, W1 = (w.alloc (.deferred (some []))).alloc (.loop (R .ready none)) → W1.heap[w.heap.size + 1]? = some (.loop (R .ready none)) ∧ W1.heap[w.heap.size]? = some (.deferred (some [])) ∧ Below w0.heap.size w0 W1 ∧ I 0 W1 := by
    rintro W1 rfl
    refine ⟨heap_alloc_eq _ _ _ (by simp), (heap_alloc_lt _ _ _ (by simp)).trans (heap_alloc_eq _ _ _ rfl), ?_, h0 _ _⟩
    exact (hb0.alloc hb0.size _).alloc (by have := hb0.size; simp; omega) _
  obtain ⟨hl1, hd1, hb1, hi1⟩ := hW1a _ rfl
  refine ⟨w.heap.size + 1, [{ target := .collected w.heap.size, args := #[] }], (w.alloc (.deferred (some []))).alloc (.loop (R .ready none)), { target := .fn (.func gf) lb, args := #[.func (.yield (w.heap.size + 1)) #[] #[]] }, (w.alloc (.deferred (some []))).alloc (.loop (R .ready none)), gf,
    #[.func (.yield (w.heap.size + 1)) #[] #[]] ++ lb, (w.alloc (.deferred (some []))).alloc (.loop (R .ready none)), ?_, ?_, ?_, ?_, fun _ => h1, ?_⟩
  · rw [hR]; exact run_enterLoop_outer _ _ _ _ _
  · simp only [resolve, hg]; simp [go_sem]
  · intro f' hf'; simp [Target.leads] at hf'; subst hf'; exact hFg
  · simp [invoke, go_sem, eg]
  · refine (hseq (w.heap.size + 1)
      (fun k W => I k W ∧ W.heap[w.heap.size + 1]? = some (.loop (R .ready none)) ∧ W.heap[w.heap.size]? = some (.deferred (some [])))
      (fun k W => ∃ c, Ix c k W ∧ W.heap[w.heap.size + 1]? = some (.loop (R .done (some c))) ∧ W.heap[w.heap.size]? = some (.deferred (some [])))
      _ hb1 (heap_lt hl1) (fun k A B h hy => ⟨hIy _ _ _ h.1 hy, hy.keep _ _ h.2.1 (.inr (Nat.le_refl _)), hy.keep _ _ h.2.2 (.inr (by omega))⟩) (fun k A B ⟨c, h1, h2, h3⟩ hy => ⟨c, hIxy _ _ _ _ h1 hy, hy.keep _ _ h2 (.inr (Nat.le_refl _)), hy.keep _ _ h3 (.inr (by omega))⟩) ?_ ⟨hi1, hl1, hd1⟩).mono ?_
    · -- one round
      rintro k W ⟨hi, hl, hd⟩ hk
      have hy := run_yield (P := P) (args := enc k) hl (by rw [(e0 _ _).2.1]; exact hps k)
      have hyR : (Instr.yield (w.heap.size + 1) (enc k)).run P W = .ok (.round (w.heap.size + 1) fn ((ps.zip (enc k)).foldl (fun t (p, v) => t.setIfInBounds p v) a.tmps) assign body) W := by rw [hR] at hy; exact hy
      refine ⟨fn, _, assign, body, hyR, roundIn_of_wpIn hfn (wpIn_mono (hassign _ k W hi hk) ?_)⟩
      rintro e1 a1 W0 hp0
      cases e1 with
      | ret => exact hp0.elim
      | exit id => exact hp0.elim
      | goto t => exact hp0.elim
      | panic ch => exact hp0.elim
      | outgrown => exact hp0.elim
      | normal =>
      obtain ⟨g1, g2, g3⟩ := (show KeepsFrom w.heap.size W W0 ∧ Kp W W0 ∧ I' k a1 W0 from hp0)
      have hl0 := g1.same _ _ (by omega) hl rfl
      have hd0 := g1.same _ _ (Nat.le_refl _) hd rfl
      refine ⟨_, run_beginRound hl0 (e0 _ _).1, ?_⟩
      obtain ⟨b, hb⟩ : ∃ b : Loop, b = { R .ready none with state := .busy } := ⟨_, rfl⟩
      rw [← hb]
      have hl2 : (W0.putObj (w.heap.size + 1) (.loop b)).heap[w.heap.size + 1]? = some (.loop b) := World.putObj_heap_same (heap_lt hl0)
      have hd2 : (W0.putObj (w.heap.size + 1) (.loop b)).heap[w.heap.size]? = some (.deferred (some [])) := (World.putObj_heap_other (by omega)).trans hd0
      have hk2 : Kp W (W0.putObj (w.heap.size + 1) (.loop b)) := hKt g2 (hKb _ _ _ _ (by omega) hl0 rfl)
      have hkp : KeepsFrom (w.heap.size + 1 + 1) W (W0.putObj (w.heap.size + 1) (.loop b)) := (keepsFrom_mono g1 (by omega)).trans (keepsFrom_put _ _ _)
      have ends : ∀ (j : Option Code) (W3 : World), KeepsFrom w.heap.size (W0.putObj (w.heap.size + 1) (.loop b)) W3 →
          ∃ W4, W4 = W3.putObj (w.heap.size + 1) (.loop (R (if j.isNone then .ready else .done) j)) ∧ (Instr.endRound (w.heap.size + 1) j).run P W3 = .ok (.bool j.isNone) W4 ∧ W3.heap[w.heap.size + 1]? = some (.loop b) ∧
            W4.heap[w.heap.size + 1]? = some (.loop (R (if j.isNone then .ready else .done) j)) ∧ W4.heap[w.heap.size]? = some (.deferred (some [])) := by
        intro j W3 hk3
        have hl3 := hk3.same _ _ (by omega) hl2 rfl
        refine ⟨_, rfl, ?_, hl3, World.putObj_heap_same (heap_lt hl3), (World.putObj_heap_other (by omega)).trans (hk3.same _ _ (Nat.le_refl _) hd2 rfl)⟩
        have := run_endRound (P := P) j hl3
        rw [hb, hR] at this; rw [hR]; exact this
      refine wpIn_mono (hbody _ k a1 _ (hI' a1 _ _ _ _ _ g3 (by omega) hl0 rfl) hk) ?_
      rintro e a3 W3 hp
      cases e with
      | normal =>
        obtain ⟨h3, h4, h5⟩ := hp
        obtain ⟨W4, rfl, hr, hl3, hl4, hd4⟩ := ends none W3 h3
        exact ⟨_, _, hr, .inl ⟨rfl, ⟨hI _ _ _ _ _ h5 (by omega) hl3 rfl, hl4, hd4⟩, hKt (hKt hk2 h4) (hKb _ _ _ _ (by omega) hl3 rfl), (hkp.trans (keepsFrom_mono h3 (by omega))).trans (keepsFrom_put _ _ _)⟩⟩
      | ret =>
        obtain ⟨h3, h5⟩ := hp
        obtain ⟨W4, rfl, hr, hl3, hl4, hd4⟩ := ends (some .ret) W3 h3
        exact ⟨_, _, hr, .inr ⟨rfl, ⟨.ret, hIx _ _ _ _ _ _ h5 (by omega) hl3 rfl, hl4, hd4⟩, (hkp.trans (keepsFrom_mono h3 (by omega))).trans (keepsFrom_put _ _ _)⟩⟩
      | exit id =>
        obtain ⟨h3, h5⟩ := hp
        obtain ⟨W4, rfl, hr, hl3, hl4, hd4⟩ := ends (some (.exit id)) W3 h3
        exact ⟨_, _, hr, .inr ⟨rfl, ⟨.exit id, hIx _ _ _ _ _ _ h5 (by omega) hl3 rfl, hl4, hd4⟩, (hkp.trans (keepsFrom_mono h3 (by omega))).trans (keepsFrom_put _ _ _)⟩⟩
      | goto t => exact hp.elim
      | panic ch => exact hp.elim
      | outgrown => exact hp.elim
    · -- behind the iterator
      rintro e W2 ⟨⟨v, rfl⟩, (⟨hi, hl, hd⟩ | ⟨k, hk, c, hi, hl, hd⟩)⟩
      · have hr := run_endLoop (P := P) hl (by rw [(e0 _ _).1]; simp)
        rw [(e0 _ _).2.2] at hr
        exact ⟨none, _, hr, hdone _ _ (Nat.le_refl _) (hI _ _ _ _ _ hi (by omega) hl rfl) ((World.putObj_heap_other (by omega)).trans hd)⟩
      · have hr := run_endLoop (P := P) hl (by rw [(e0 _ _).1]; simp)
        rw [(e0 _ _).2.2] at hr
        exact ⟨some c, _, hr, hstop _ c k _ (Nat.le_refl _) hk (hIx _ _ _ _ _ _ hi (by omega) hl rfl) ((World.putObj_heap_other (by omega)).trans hd)⟩

theorem wpIn_rangeIy2 {F : Fence} {n : Nat} {P : Program} {g : Operand} {ps : Array Tmp} {assign body : Code} {Q : Exit → Act → World → Prop} {a : Act} {w : World}
    (hro : F.round = none) (h1 : 1 ≤ n) {gf : Nat} {lb : Array Value} (hg : a.eval g = .func (.func gf) #[] lb) (hFg : F.fn gf) (eg : ∀ args w, (callFunc gf args).run P w = .ok (.enter gf args) w)
    {enc : Nat → Array Value} {Kp : World → World → Prop} {N : Nat} {w0 : World} (hseq : SeqIy F (n - 1) P gf lb enc Kp N w0)
    (hKt : ∀ {A B C : World}, Kp A B → Kp B C → Kp A C) (hKb : ∀ (W : World) (l : Nat) (o o' : Obj), w.heap.size ≤ l → W.heap[l]? = some o → o.isCells = false → Kp W (W.putObj l o')) (hb0 : Below w0.heap.size w0 w) (hps : ∀ k, (enc k).size = ps.size)
    (I : Nat → World → Prop) (Ix : Code → Nat → World → Prop) (hI : Stable w.heap.size I) (hIx : ∀ c, Stable w.heap.size (Ix c)) (hIy : ∀ k A B, I k A → Yng (w.heap.size + 1) A B → I k B) (hIxy : ∀ c k A B, Ix c k A → Yng (w.heap.size + 1) A B → Ix c k B) (h0 : ∀ o o', I 0 ((w.alloc o).alloc o')) {D : Type} (J : D → Nat → World → Prop) (hJ : ∀ d, Stable w.heap.size (J d))
    (hround : ∀ (l : Nat) (k : Nat) (W : World), I k W → k < N →
      assign.wpIn (F.inRound l) (n - 1 - 1) P (Exit.then (fun a1 W1 => KeepsFrom w.heap.size W W1 ∧ Kp W W1 ∧ ∃ d, J d k W1 ∧ ∀ (lp : Nat) (W' : World), J d k W' → body.wpIn (F.inRound lp) (n - 1 - 1) P (RoundEnds w.heap.size Kp I Ix (k + 1) W') a1 W') (fun _ _ _ => False)) { tmps := (ps.zip (enc k)).foldl (fun t (p, v) => t.setIfInBounds p v) a.tmps, defers := [] } W)
    (hdone : ∀ (D : Nat) (W : World), w.heap.size ≤ D → I N W → W.heap[D]? = some (.deferred (some [])) → Q .normal { a with defers := { target := .collected D, args := #[] } :: a.defers } W)
    (hstop : ∀ (D : Nat) (c : Code) (k : Nat) (W : World), w.heap.size ≤ D → k ≤ N → Ix c k W → W.heap[D]? = some (.deferred (some [])) → c.wpIn F n P Q { a with defers := { target := .collected D, args := #[] } :: a.defers } W) :
    (Code.rangeFunc g ps assign body).wpIn F n P Q a w :=
  wpIn_rangeIy hro h1 hg hFg eg hseq hKt hKb hb0 hps I Ix hI hIx hIy hIxy h0
    (fun k a1 W => ∃ d, J d k W ∧ ∀ (lp : Nat) (W' : World), J d k W' → body.wpIn (F.inRound lp) (n - 1 - 1) P (RoundEnds w.heap.size Kp I Ix (k + 1) W') a1 W')
    (fun _ k W l o o' ⟨d, hj, hb⟩ hl h1 h2 => ⟨d, hJ d k W l o o' hj hl h1 h2, hb⟩)
    hround (fun l _ _ W ⟨_, hj, hb⟩ _ => hb l W hj) hdone hstop

end Go.Proofs.YtcmeajaakdaeeaaGreatDoor
