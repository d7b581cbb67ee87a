/-
  Worlds that differ in the blocks of a set and in new blocks; slices of pairs of ints; rows that stay.
-/
import Derived.Test.YtcmeajaakdaeeaaDoorRun11
namespace Go.Proofs.YtcmeajaakdaeeaaDoor
open Go.RowKit

/-- w' is w but for the blocks of F (and new blocks); F' holds blocks of F and new ones. -/
structure Upd (F : Nat → Prop) (w : World) (F' : Nat → Prop) (w' : World) : Prop where
  os : w'.os = w.os
  tape : w'.tape = w.tape
  output : w'.output = w.output
  size : w.heap.size ≤ w'.heap.size
  block : ∀ k, k < w.heap.size → ¬ F k → w'.heap[k]? = w.heap[k]?
  new : ∀ k, F' k → F k ∨ w.heap.size ≤ k

theorem Upd.refl (F : Nat → Prop) (w : World) : Upd F w F w := ⟨rfl, rfl, rfl, Nat.le_refl _, fun _ _ _ => rfl, fun _ h => .inl h⟩
theorem Upd.trans {F F1 F2 : Nat → Prop} {w w1 w2 : World} (h : Upd F w F1 w1) (k : Upd F1 w1 F2 w2) : Upd F w F2 w2 where
  os := k.os.trans h.os
  tape := k.tape.trans h.tape
  output := k.output.trans h.output
  size := Nat.le_trans h.size k.size
  block i hi hF := (k.block i (Nat.lt_of_lt_of_le hi h.size) (fun e => by rcases h.new i e with e1 | e1; exact hF e1; omega)).trans (h.block i hi hF)
  new i hi := by
    rcases k.new i hi with e | e
    · exact h.new i e
    · exact .inr (Nat.le_trans h.size e)
theorem Upd.of_ext {F : Nat → Prop} {w w' : World} (h : Below w.heap.size w w') : Upd F w F w' := ⟨h.os, h.tape, h.output, h.size, fun k hk _ => h.block k hk, fun _ h => .inl h⟩
theorem Upd.ext {F F' : Nat → Prop} {w w1 w2 : World} (h : Upd F w F' w1) (k : Below w1.heap.size w1 w2) : Upd F w F' w2 := h.trans (Upd.of_ext k)
theorem Upd.drew {F F' : Nat → Prop} {w w1 : World} (h : Upd F w F' w1) : Upd F w F' w1.drew := ⟨h.os, h.tape, h.output, h.size, h.block, h.new⟩
theorem Upd.drewN {F F' : Nat → Prop} {w w1 : World} (h : Upd F w F' w1) (n : Nat) : Upd F w F' (w1.drewN n) := ⟨h.os, h.tape, h.output, h.size, h.block, h.new⟩
theorem Upd.alloc {F F' : Nat → Prop} {w w1 : World} (h : Upd F w F' w1) (o : Obj) : Upd F w F' (w1.alloc o) := h.ext ((Below.refl _ _).alloc (Nat.le_refl _) o)
theorem Upd.setCell {F F' : Nat → Prop} {w w1 : World} (h : Upd F w F' w1) {g : Nat} (hg : F g ∨ w.heap.size ≤ g) (o : Nat) (v : Value) : Upd F w F' (w1.setCell ⟨g, o, none⟩ v) where
  os := h.os
  tape := h.tape
  output := h.output
  size := by simpa using h.size
  block k hk hF := (heap_setCell_other _ _ _ _ (fun e => by subst e; rcases hg with e1 | e1; exact hF e1; omega)).trans (h.block k hk hF)
  new := h.new
theorem Upd.but {F F' : Nat → Prop} {w w1 w2 : World} (h : Upd F w F' w1) {g : Nat} (hg : F g ∨ w.heap.size ≤ g) (k : But g w1 w2) : Upd F w F' w2 where
  os := k.os.trans h.os
  tape := k.tape.trans h.tape
  output := k.output.trans h.output
  size := Nat.le_trans h.size k.size
  block i hi hF := (k.block i (Nat.lt_of_lt_of_le hi h.size) (fun e => by subst e; rcases hg with e1 | e1; exact hF e1; omega)).trans (h.block i hi hF)
  new := h.new
theorem Upd.grown {F F' : Nat → Prop} {w w1 w2 : World} {row : Option Nat} (h : Upd F w F' w1) (hg : ∀ g, row = some g → F g ∨ w.heap.size ≤ g) (k : w1.grownBy w2 row) : Upd F w F' w2 where
  os := k.os.trans h.os
  tape := k.tape.trans h.tape
  output := k.output.trans h.output
  size := Nat.le_trans h.size k.size
  block i hi hF := (k.block i (Nat.lt_of_lt_of_le hi h.size) (fun e => by rcases hg i e.symm with e1 | e1; exact hF e1; omega)).trans (h.block i hi hF)
  new := h.new
theorem Upd.grow {F F' F2 : Nat → Prop} {w w1 : World} (h : Upd F w F' w1) (h2 : ∀ k, F2 k → F k ∨ w.heap.size ≤ k) : Upd F w F2 w1 := ⟨h.os, h.tape, h.output, h.size, h.block, h2⟩
theorem Upd.below {F F' : Nat → Prop} {B : Nat} {w0 w w' : World} (h : Upd F w F' w') (hb : Below B w0 w) (hF : ∀ k, F k → B ≤ k) (hB : B ≤ w.heap.size) : Below B w0 w' :=
  hb.trans ⟨h.os, h.tape, h.output, h.size, fun k hk => h.block k (by omega) (fun e => by have := hF k e; omega)⟩
theorem Upd.lo {F F' : Nat → Prop} {B : Nat} {w w' : World} (h : Upd F w F' w') (hF : ∀ k, F k → B ≤ k) (hB : B ≤ w.heap.size) : ∀ k, F' k → B ≤ k := fun k hk => by
  rcases h.new k hk with e | e
  · exact hF k e
  · omega
theorem Upd.apart {F F' G : Nat → Prop} {w w' : World} (h : Upd F w F' w') (hF : ∀ k, F k → ¬ G k) (hG : ∀ k, G k → k < w.heap.size) : ∀ k, F' k → ¬ G k := fun k hk hg => by
  rcases h.new k hk with e | e
  · exact hF k e hg
  · have := hG k hg; omega
/-- A set of blocks that F does not meet stays. -/
theorem Upd.stays {F F' G : Nat → Prop} {w w' : World} (h : Upd F w F' w') (hF : ∀ k, F k → ¬ G k) (hG : ∀ k, G k → k < w.heap.size) : ∀ k, G k → w'.heap[k]? = w.heap[k]? := fun k hk => h.block k (hG k hk) (fun e => hF k e hk)

/-- What is read of a slice of bytes stays while its block stays. -/
theorem SlB.stay {w w' : World} {a : Option Addr} {n c : Nat} {l : List UInt8} (h : SlB w a n c l) (e : ∀ x, a = some x → l ≠ [] → w'.heap[x.block]? = w.heap[x.block]?) (hz : w.heap.size ≤ w'.heap.size) : SlB w' a n c l := by
  obtain ⟨hl, hn, hc, h0, h1⟩ := h
  refine ⟨hl, hn, hc, h0, fun x hx i hi => ?_⟩
  obtain ⟨hs, hb, hi'⟩ := h1 x hx i hi
  exact ⟨hs, Nat.lt_of_lt_of_le hb hz, (World.cell?_of_block (a := ⟨x.block, x.off + i, none⟩) (e x hx (by rintro rfl; simp at hi))).trans hi'⟩
theorem SlB.upd {F F' : Nat → Prop} {w w' : World} {a : Option Addr} {n c : Nat} {l : List UInt8} (h : SlB w a n c l) (k : Upd F w F' w') (hF : ∀ x, a = some x → l ≠ [] → ¬ F x.block) : SlB w' a n c l :=
  h.stay (fun x hx hl => k.block _ ((h.2.2.2.2 x hx 0 (List.length_pos_iff.2 hl)).2.1) (hF x hx hl)) k.size
theorem SlB.blt {w : World} {x : Addr} {n c : Nat} {l : List UInt8} (h : SlB w (some x) n c l) (hl : l ≠ []) : x.block < w.heap.size := (h.2.2.2.2 x rfl 0 (List.length_pos_iff.2 hl)).2.1
theorem OwnB.upd {F F' : Nat → Prop} {base : Nat} {w w' : World} {v : Value} {l : List UInt8} (h : OwnB base w v l) (k : Upd F w F' w') (hF : ∀ g, v.ownBlock = some g → ¬ F g) : OwnB base w' v l := by
  refine ⟨h.1, ?_⟩
  rcases h.2 with hn | ⟨g, cap, cur, rfl, hb, hgg, rest⟩
  · exact .inl hn
  · exact .inr ⟨g, cap, cur, rfl, hb, (k.block g (Array.getElem?_eq_some_iff.1 hgg).1 (hF g rfl)).trans hgg, rest⟩

/-! ### Slices of pairs of ints -/
def SlP (w : World) (a : Option Addr) (n c : Nat) (l : List (Int × Int)) : Prop :=
  l.length = n ∧ n ≤ c ∧ c ≤ maxLen ∧ (a = none → l = [] ∧ c = 0) ∧
    ∀ x, a = some x → ∀ i (h : i < l.length), x.spot = none ∧ x.block < w.heap.size ∧ w.cell? ⟨x.block, x.off + i * 2, none⟩ = some (.int .i64 l[i].1) ∧ w.cell? ⟨x.block, x.off + i * 2 + 1, none⟩ = some (.int .i64 l[i].2)
theorem SlP.len {w : World} {a : Option Addr} {n c : Nat} {l : List (Int × Int)} (h : SlP w a n c l) : l.length = n := h.1
theorem SlP.le {w : World} {a : Option Addr} {n c : Nat} {l : List (Int × Int)} (h : SlP w a n c l) : n ≤ 9223372036854775807 := by
  have := h.2.1; have := h.2.2.1; unfold maxLen at *; omega
theorem SlP.nil (w : World) : SlP w none 0 0 [] := ⟨rfl, Nat.le_refl _, by unfold maxLen; omega, fun _ => ⟨rfl, rfl⟩, fun x hx => by cases hx⟩
theorem SlP.at {w : World} {a : Option Addr} {n c : Nat} {l : List (Int × Int)} (h : SlP w a n c l) {k : Nat} (hk : k < n) :
    ∃ b o, a = some ⟨b, o, none⟩ ∧ b < w.heap.size ∧ w.cell? ⟨b, o + k * 2, none⟩ = some (.int .i64 (l[k]?.getD (0, 0)).1) ∧ w.cell? ⟨b, o + k * 2 + 1, none⟩ = some (.int .i64 (l[k]?.getD (0, 0)).2) := by
  obtain ⟨hl, hn, hc, h0, h1⟩ := h
  cases a with
  | none => have := (h0 rfl).1; subst this; simp at hl; omega
  | some x =>
    obtain ⟨b, o, sp⟩ := x
    have hk' : k < l.length := by omega
    obtain ⟨hs, hb, hi⟩ := h1 _ rfl k hk'
    simp only at hs; subst hs
    refine ⟨b, o, rfl, hb, ?_⟩
    rw [List.getElem?_eq_getElem hk']
    exact hi
theorem SlP.stay {w w' : World} {a : Option Addr} {n c : Nat} {l : List (Int × Int)} (h : SlP w a n c l) (e : ∀ x, a = some x → l ≠ [] → w'.heap[x.block]? = w.heap[x.block]?) (hz : w.heap.size ≤ w'.heap.size) : SlP w' a n c l := by
  obtain ⟨hl, hn, hc, h0, h1⟩ := h
  refine ⟨hl, hn, hc, h0, fun x hx i hi => ?_⟩
  obtain ⟨hs, hb, hi1, hi2⟩ := h1 x hx i hi
  have e' := e x hx (by rintro rfl; simp at hi)
  exact ⟨hs, Nat.lt_of_lt_of_le hb hz, (World.cell?_of_block (a := ⟨x.block, x.off + i * 2, none⟩) e').trans hi1, (World.cell?_of_block (a := ⟨x.block, x.off + i * 2 + 1, none⟩) e').trans hi2⟩
theorem SlP.ext {w w' : World} {a : Option Addr} {n c : Nat} {l : List (Int × Int)} (h : SlP w a n c l) (e : Below w.heap.size w w') : SlP w' a n c l :=
  h.stay (fun x hx hl => e.block _ ((h.2.2.2.2 x hx 0 (List.length_pos_iff.2 hl)).2.1)) e.size
theorem SlP.upd {F F' : Nat → Prop} {w w' : World} {a : Option Addr} {n c : Nat} {l : List (Int × Int)} (h : SlP w a n c l) (k : Upd F w F' w') (hF : ∀ x, a = some x → l ≠ [] → ¬ F x.block) : SlP w' a n c l :=
  h.stay (fun x hx hl => k.block _ ((h.2.2.2.2 x hx 0 (List.length_pos_iff.2 hl)).2.1) (hF x hx hl)) k.size
theorem SlP.blt {w : World} {x : Addr} {n c : Nat} {l : List (Int × Int)} (h : SlP w (some x) n c l) (hl : l ≠ []) : x.block < w.heap.size := (h.2.2.2.2 x rfl 0 (List.length_pos_iff.2 hl)).2.1

end Go.Proofs.YtcmeajaakdaeeaaDoor
