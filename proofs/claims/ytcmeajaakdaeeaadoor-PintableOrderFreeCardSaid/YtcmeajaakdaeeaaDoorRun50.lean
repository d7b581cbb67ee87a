/-
  A range over a function by the round's index, the body walked behind the assignment at the frame that the assignment left (no frame is typed).
-/
import Derived.Test.YtcmeajaakdaeeaaDoorRun47
namespace Go.Proofs.YtcmeajaakdaeeaaDoor
open Go.RowKit

theorem wpIn_rangeIx2 {F : Fence} {n : Nat} {P : Program} {g : Operand} {ps : Array Tmp} {assign body : Code} {Q : Exit → Act → World → Prop} {a : Act} {w : World}
    (hro : F.round = none) (h1 : 1 ≤ n) {gf : Nat} {lb : Array Value} (hg : a.eval g = .func (.func gf) #[] lb) (hFg : F.fn gf) (eg : ∀ args w, (callFunc gf args).run P w = .ok (.enter gf args) w)
    {enc : Nat → Array Value} {Kp : World → World → Prop} {N : Nat} {w0 : World} (hseq : SeqIx F (n - 1) P gf lb enc Kp N w0)
    (hKt : ∀ {A B C : World}, Kp A B → Kp B C → Kp A C) (hKb : ∀ (W : World) (l : Nat) (o o' : Obj), w.heap.size ≤ l → W.heap[l]? = some o → o.isCells = false → Kp W (W.putObj l o')) (hb0 : Below w0.heap.size w0 w) (hps : ∀ k, (enc k).size = ps.size)
    (I : Nat → World → Prop) (Ix : Code → Nat → World → Prop) (hI : Stable w.heap.size I) (hIx : ∀ c, Stable w.heap.size (Ix c)) (h0 : ∀ o o', I 0 ((w.alloc o).alloc o')) {D : Type} (J : D → Nat → World → Prop) (hJ : ∀ d, Stable w.heap.size (J d))
    (hround : ∀ (l : Nat) (k : Nat) (W : World), I k W → k < N →
      assign.wpIn (F.inRound l) (n - 1 - 1) P (Exit.then (fun a1 W1 => KeepsFrom w.heap.size W W1 ∧ Kp W W1 ∧ ∃ d, J d k W1 ∧ ∀ (lp : Nat) (W' : World), J d k W' → body.wpIn (F.inRound lp) (n - 1 - 1) P (RoundEnds w.heap.size Kp I Ix (k + 1) W') a1 W') (fun _ _ _ => False)) { tmps := (ps.zip (enc k)).foldl (fun t (p, v) => t.setIfInBounds p v) a.tmps, defers := [] } W)
    (hdone : ∀ (D : Nat) (W : World), w.heap.size ≤ D → I N W → W.heap[D]? = some (.deferred (some [])) → Q .normal { a with defers := { target := .collected D, args := #[] } :: a.defers } W)
    (hstop : ∀ (D : Nat) (c : Code) (k : Nat) (W : World), w.heap.size ≤ D → k ≤ N → Ix c k W → W.heap[D]? = some (.deferred (some [])) → c.wpIn F n P Q { a with defers := { target := .collected D, args := #[] } :: a.defers } W) :
    (Code.rangeFunc g ps assign body).wpIn F n P Q a w :=
  wpIn_rangeIx hro h1 hg hFg eg hseq hKt hKb hb0 hps I Ix hI hIx h0
    (fun k a1 W => ∃ d, J d k W ∧ ∀ (lp : Nat) (W' : World), J d k W' → body.wpIn (F.inRound lp) (n - 1 - 1) P (RoundEnds w.heap.size Kp I Ix (k + 1) W') a1 W')
    (fun _ k W l o o' ⟨d, hj, hb⟩ hl h1 h2 => ⟨d, hJ d k W l o o' hj hl h1 h2, hb⟩)
    hround (fun l _ _ W ⟨_, hj, hb⟩ _ => hb l W hj) hdone hstop

end Go.Proofs.YtcmeajaakdaeeaaDoor
