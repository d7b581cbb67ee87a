/-
  Texts in one: Pin, Pins, PinDec, PinL1, PinK, Tab, TabAll.
-/
import Derived.Test.YtcmeajaakdaeeaaGreatDoorRun22
import Derived.Test.YtcmeajaakdaeeaaGreatDoorRun7
import Derived.Deep.RegionHeld3
import Derived.Laws.AppendOwnNone
import Derived.OwnWalk
import Derived.Lib.SlBytesConst
import Derived.Test.YtcmeajaakdaeeaaGreatDoorRun6
import Derived.Test.YtcmeajaakdaeeaaGreatDoorRun4
import Derived.Shelf.Abstract
import Derived.Shelf.RegionOpen
import Derived.WalkKit
import Derived.OwnWalkIn
import Derived.TacticsInMore
import Derived.LoopNIn
import Derived.LoopIn
/-
  The walks through the package pin: Valid, Encode, Decode.
-/
namespace Go.Proofs.YtcmeajaakdaeeaaGreatDoor
open Go.RowKit

/-- A pin as a value. -/
def pv (p : Pin) : Value := .agg #[.string (str p.h), .bool p.s, .int .i64 p.x]
/-- The cells of a pin. -/
def pc (p : Pin) : Array Value := #[.string (str p.h), .bool p.s, .int .i64 p.x]
def ibx (z : Int) : Prop := -9223372036854775808 ≤ z ∧ z ≤ 9223372036854775807

theorem SlB.from {w : World} {a : Option Addr} {n c : Nat} {l : List UInt8} (h : SlB w a n c l) {k : Nat} (hk : k ≤ n) : SlB w (if c = k then a else a.map (·.add k)) (n - k) (c - k) (l.drop k) := by
  obtain ⟨hl, hn, hc, h0, h1⟩ := h
  refine ⟨by simp; omega, by omega, by omega, fun e => ?_, fun x hx i hi => ?_⟩
  · have : a = none := by
      split at e
      · exact e
      · cases a with
        | none => rfl
        | some y => cases e
    obtain ⟨e1, e2⟩ := h0 this
    simp [e1, e2]
  · have hi' : k + i < l.length := by simp at hi; omega
    cases a with
    | none => split at hx <;> cases hx
    | some y =>
      obtain ⟨hs, hb, hcl⟩ := h1 y rfl (k + i) hi'
      have : x = ⟨y.block, y.off + k, none⟩ := by
        split at hx
        · exfalso; omega
        · obtain ⟨yb, yo, ys⟩ := y
          simp only at hs; subst hs
          cases hx; unfold Addr.add; split <;> simp_all
      subst this
      refine ⟨rfl, hb, ?_⟩
      simp only [Nat.add_assoc]
      rw [hcl]; simp

set_option maxRecDepth 100000 in
theorem wpList_from {w : World} {ops : Array Oper} {rest : List Oper} {o : Oper} {ac : Act} {Q : Exit → Act → World → Prop} (hg : o.guard = none) (x y : Operand) (hop : o.op = Op.slice 100 x (some y) none none)
    {a : Option Addr} {n c : Nat} {l : List UInt8} (hx : ac.eval x = .slice a n c) (m : Nat) (M : Int) (hM : M = (m : Int)) (hy : ac.eval y = .int .i64 M) (h : SlB w a n c l) (hm : m ≤ n)
    (hK : ∀ a2, SlB w a2 (n - m) (c - m) (l.drop m) → wpList Tryz.prog ops Q rest (ac.put o.dst (.slice a2 (n - m) (c - m))) w) : wpList Tryz.prog ops Q (o :: rest) ac w := by
  subst hM
  have hrun : (Instr.sliceAt 100 (.slice a n c) (some (.int .i64 (m : Int))) none none).run Tryz.prog w = .ok (.slice (if c = m then a else a.map (·.add m)) (n - m) (c - m)) w := by
    have e1 := run_sliceAt_slice (P := Tryz.prog) (w := w) 100 (.slice a n c) (some (.int .i64 (m : Int))) none none Tryz.underlying100
    have e2 := run_slice_l (P := Tryz.prog) (w := w) 100 a n c Tryz.underlying100 .i64 (m : Int) (by omega) (by omega)
    rw [e1, e2]
    simp [go_sem, sliced]
  refine wpList_plain hg fun K hK' => ?_
  unfold Oper.wp
  simp [execOp, hop, hx, hy, hrun, Result.andThen]
  exact hK' _ _ (hK _ (h.from hm))

namespace Pin
theorem valid_of {p : Pin} {b : Bool} (h : Host.name p.h = b) : valid p = (b && (decide (0 ≤ p.x) && decide (p.x ≤ 1099511627776))) := by unfold valid; rw [h]
end Pin

set_option maxRecDepth 100000 in
set_option maxHeartbeats 2000000 in
theorem pi_valid (p : Pin) (hp : p.h.length ≤ 1000000) (w : World) :
    Calls Tryz.prog 27 #[pv p] w fun e w' => e = .returned (.bool (Pin.valid p)) ∧ Below w.heap.size w w' := by
  have HV := Lib.hid (fun W => ho_validName p.h hp W)
  have hb0 := (Below.refl w.heap.size w).alloc (Nat.le_refl _) (.cells (pc p) 23)
  have hrow : (w.alloc (.cells (pc p) 23)).heap[w.heap.size]? = some (.cells (pc p) 23 (0, 0)) := heap_alloc_eq _ _ _ rfl
  have hz0 : (w.alloc (.cells (pc p) 23)).heap.size = w.heap.size + 1 := by simp
  have HPV := Lib.hid (fun b (h : Host.name p.h = b) => Pin.valid_of h)
  obtain ⟨ph, ps, px⟩ := p
  unfold pv
  unfold pc at hb0 hrow hz0
  simp only at HV hb0 hrow hz0 HPV ⊢
  obtain ⟨nb, hnb⟩ : ∃ b, Host.name ph = b := ⟨_, rfl⟩
  rw [hnb] at HV
  have HPV2 := Lib.hid (HPV.out _ hnb)
  clear HPV hnb
  obtain ⟨sh, hsh⟩ : ∃ s, str ph = s := ⟨_, rfl⟩
  rw [hsh] at HV hb0 hrow hz0 ⊢
  have HB0 := Lib.hid (And.intro hb0 (And.intro hrow hz0))
  clear hsh hb0 hrow hz0
  cases nb with
  | false =>
    go_enter Tryz.func27, Tryz.ntmps27
    go_wp2_with fail
    refine (HV.out _).mono ?_; rintro e w1 ⟨rfl, hB1⟩
    rw [HB0.out.2.2] at hB1
    go_wp2_with fail
    go_ret
    exact ⟨by rw [HPV2.out]; rfl, HB0.out.1.trans (hB1.mono (Nat.le_succ _))⟩
  | true =>
    by_cases h0 : px < 0
    · have HF := Lib.hid (show Pin.valid ⟨ph, ps, px⟩ = false by rw [HPV2.out, decide_eq_false (show ¬ 0 ≤ px by omega)]; rfl)
      have t1 : ¬ 0 ≤ px := by omega
      go_enter Tryz.func27, Tryz.ntmps27
      go_wp2_with fail
      refine (HV.out _).mono ?_; rintro e w1 ⟨rfl, hB1⟩
      rw [HB0.out.2.2] at hB1
      have c2 : w1.cell? ⟨w.heap.size, 2, none⟩ = some (.int .i64 px) := (hB1.cell (p := ⟨w.heap.size, 2, none⟩) (Nat.lt_succ_self _)).trans ((cell_of_row _ _ _ _ _ _ HB0.out.2.1).trans rfl)
      go_wp2_with fail
      go_ret
      exact ⟨by rw [HF.out]; rfl, HB0.out.1.trans (hB1.mono (Nat.le_succ _))⟩
    · have t1 : 0 ≤ px := by omega
      have HF := Lib.hid (show Pin.valid ⟨ph, ps, px⟩ = decide (px ≤ 1099511627776) by rw [HPV2.out, decide_eq_true t1]; rfl)
      go_enter Tryz.func27, Tryz.ntmps27
      go_wp2_with fail
      refine (HV.out _).mono ?_; rintro e w1 ⟨rfl, hB1⟩
      rw [HB0.out.2.2] at hB1
      have c2 : w1.cell? ⟨w.heap.size, 2, none⟩ = some (.int .i64 px) := (hB1.cell (p := ⟨w.heap.size, 2, none⟩) (Nat.lt_succ_self _)).trans ((cell_of_row _ _ _ _ _ _ HB0.out.2.1).trans rfl)
      go_wp2_with fail
      go_ret
      exact ⟨by rw [HF.out]; rfl, HB0.out.1.trans (hB1.mono (Nat.le_succ _))⟩




/-- What Decode returns. -/
def PDecP (b : List UInt8) (w : World) (e : Ending) (w' : World) : Prop := e = .returned (.tuple #[pv (Pin.dec b).1, .int .i64 ((Pin.dec b).2.1 : Nat), .int .i64 (Pin.dec b).2.2]) ∧ Below w.heap.size w w'
theorem PDecP.of {b : List UInt8} {q : Pin} {n : Nat} {z : Int} (h : Pin.dec b = (q, n, z)) {w : World} {e : Ending} {w' : World} (he : e = .returned (.tuple #[.agg (pc q), .int .i64 (n : Nat), .int .i64 z])) (hb : Below w.heap.size w w') : PDecP b w e w' := by
  unfold PDecP; rw [h]; exact ⟨he, hb⟩

namespace Pin
theorem dec_a {b t : List UInt8} {n1 : Nat} {z1 : Int} (h1 : Wire.decT b = (t, n1, z1)) (hz : z1 ≠ 0) : dec b = (none, 0, z1) := by unfold dec; rw [h1]; rw [if_pos hz]
theorem dec_b {b t : List UInt8} {n1 n2 v2 : Nat} {z2 : Int} (h1 : Wire.decT b = (t, n1, 0)) (h2 : Wire.dec (b.drop n1) = (v2, n2, z2)) (hz : z2 ≠ 0) : dec b = (none, 0, z2) := by
  unfold dec; rw [h1]; rw [if_neg (by simp)]; unfold decR; rw [h2]; rw [if_pos hz]
theorem dec_c {b t : List UInt8} {n1 n2 v2 : Nat} (h1 : Wire.decT b = (t, n1, 0)) (h2 : Wire.dec (b.drop n1) = (v2, n2, 0)) (hz : 1 < v2) : dec b = (none, 0, 6) := by
  unfold dec; rw [h1]; rw [if_neg (by simp)]; unfold decR; rw [h2]; rw [if_neg (by simp), if_pos hz]
theorem dec_d {b t : List UInt8} {n1 n2 v2 n3 v3 : Nat} {z3 : Int} (h1 : Wire.decT b = (t, n1, 0)) (h2 : Wire.dec (b.drop n1) = (v2, n2, 0)) (hv : ¬ 1 < v2) (h3 : Wire.dec (b.drop (n1 + n2)) = (v3, n3, z3)) (hz : z3 ≠ 0) : dec b = (none, 0, z3) := by
  unfold dec; rw [h1]; rw [if_neg (by simp)]; unfold decR; rw [h2]; rw [if_neg (by simp), if_neg hv]; dsimp only; rw [h3]; rw [if_pos hz]
theorem dec_e {b t : List UInt8} {n1 n2 v2 n3 v3 : Nat} (h1 : Wire.decT b = (t, n1, 0)) (h2 : Wire.dec (b.drop n1) = (v2, n2, 0)) (hv : ¬ 1 < v2) (h3 : Wire.dec (b.drop (n1 + n2)) = (v3, n3, 0)) (hz : 1099511627776 < v3) : dec b = (none, 0, 2) := by
  unfold dec; rw [h1]; rw [if_neg (by simp)]; unfold decR; rw [h2]; rw [if_neg (by simp), if_neg hv]; dsimp only; rw [h3]; rw [if_neg (by simp), if_pos hz]
theorem dec_f {b t : List UInt8} {n1 n2 v2 n3 v3 : Nat} (h1 : Wire.decT b = (t, n1, 0)) (h2 : Wire.dec (b.drop n1) = (v2, n2, 0)) (hv : ¬ 1 < v2) (h3 : Wire.dec (b.drop (n1 + n2)) = (v3, n3, 0)) (hz : ¬ 1099511627776 < v3) (hn : Host.name t = false) : dec b = (none, 0, 14) := by
  unfold dec; rw [h1]; rw [if_neg (by simp)]; unfold decR; rw [h2]; rw [if_neg (by simp), if_neg hv]; dsimp only; rw [h3]; rw [if_neg (by simp), if_neg hz, if_pos hn]
theorem dec_g {b t : List UInt8} {n1 n2 v2 n3 v3 : Nat} (h1 : Wire.decT b = (t, n1, 0)) (h2 : Wire.dec (b.drop n1) = (v2, n2, 0)) (hv : ¬ 1 < v2) (h3 : Wire.dec (b.drop (n1 + n2)) = (v3, n3, 0)) (hz : ¬ 1099511627776 < v3) (hn : Host.name t = true) : dec b = (⟨t, decide (v2 = 1), (v3 : Int)⟩, n1 + n2 + n3, 0) := by
  unfold dec; rw [h1]; rw [if_neg (by simp)]; unfold decR; rw [h2]; rw [if_neg (by simp), if_neg hv]; dsimp only; rw [h3]; rw [if_neg (by simp), if_neg hz, if_neg (by simp [hn])]
end Pin

end Go.Proofs.YtcmeajaakdaeeaaGreatDoor

/-
  Slices of pins: what they read as; slices that the call itself made; append; slices.Clone.
-/
namespace Go.Proofs.YtcmeajaakdaeeaaGreatDoor
open Go.RowKit

/-- The three cells of a pin. -/
def pl (p : Pin) : List Value := [.string (str p.h), .bool p.s, .int .i64 p.x]
/-- At this place of this block lies the pin. -/
def PinAt (w : World) (b o : Nat) (p : Pin) : Prop := w.cell? ⟨b, o, none⟩ = some (.string (str p.h)) ∧ w.cell? ⟨b, o + 1, none⟩ = some (.bool p.s) ∧ w.cell? ⟨b, o + 2, none⟩ = some (.int .i64 p.x)
/-- The slice reads as the pins l. -/
def SlN (w : World) (a : Option Addr) (n c : Nat) (l : List Pin) : Prop :=
  l.length = n ∧ n ≤ c ∧ c ≤ maxLen ∧ (a = none → l = [] ∧ c = 0) ∧
    ∀ x, a = some x → ∀ i (h : i < l.length), x.spot = none ∧ x.block < w.heap.size ∧ PinAt w x.block (x.off + i * 3) l[i]
theorem SlN.len {w : World} {a : Option Addr} {n c : Nat} {l : List Pin} (h : SlN w a n c l) : l.length = n := h.1
theorem SlN.le {w : World} {a : Option Addr} {n c : Nat} {l : List Pin} (h : SlN w a n c l) : n ≤ 9223372036854775807 := by
  have := h.2.1; have := h.2.2.1; unfold maxLen at *; omega
theorem SlN.nil (w : World) : SlN w none 0 0 [] := ⟨rfl, Nat.le_refl _, by unfold maxLen; omega, fun _ => ⟨rfl, rfl⟩, fun x hx => by cases hx⟩
theorem SlN.at {w : World} {a : Option Addr} {n c : Nat} {l : List Pin} (h : SlN w a n c l) {k : Nat} (hk : k < n) :
    ∃ b o, a = some ⟨b, o, none⟩ ∧ b < w.heap.size ∧ k < l.length ∧ PinAt w b (o + k * 3) (l[k]?.getD Pin.none) := by
  obtain ⟨hl, hn, hc, h0, h1⟩ := h
  cases a with
  | none => have := (h0 rfl).1; subst this; simp at hl; omega
  | some x =>
    obtain ⟨b, o, sp⟩ := x
    have hk' : k < l.length := by omega
    obtain ⟨hs, hb, hi⟩ := h1 _ rfl k hk'
    simp only at hs; subst hs
    refine ⟨b, o, rfl, hb, hk', ?_⟩
    rw [List.getElem?_eq_getElem hk']
    exact hi
theorem PinAt.stay {w w' : World} {b o : Nat} {p : Pin} (h : PinAt w b o p) (e : w'.heap[b]? = w.heap[b]?) : PinAt w' b o p :=
  ⟨(World.cell?_of_block (a := ⟨b, o, none⟩) e).trans h.1, (World.cell?_of_block (a := ⟨b, o + 1, none⟩) e).trans h.2.1, (World.cell?_of_block (a := ⟨b, o + 2, none⟩) e).trans h.2.2⟩
theorem SlN.stay {w w' : World} {a : Option Addr} {n c : Nat} {l : List Pin} (h : SlN w a n c l) (e : ∀ x, a = some x → l ≠ [] → w'.heap[x.block]? = w.heap[x.block]?) (hz : w.heap.size ≤ w'.heap.size) : SlN w' a n c l := by
  obtain ⟨hl, hn, hc, h0, h1⟩ := h
  refine ⟨hl, hn, hc, h0, fun x hx i hi => ?_⟩
  obtain ⟨hs, hb, hi1⟩ := h1 x hx i hi
  exact ⟨hs, Nat.lt_of_lt_of_le hb hz, hi1.stay (e x hx (by rintro rfl; simp at hi))⟩
theorem SlN.ext {w w' : World} {a : Option Addr} {n c : Nat} {l : List Pin} (h : SlN w a n c l) (e : Below w.heap.size w w') : SlN w' a n c l :=
  h.stay (fun x hx hl => e.block _ ((h.2.2.2.2 x hx 0 (List.length_pos_iff.2 hl)).2.1)) e.size
theorem SlN.take {w : World} {a : Option Addr} {n c : Nat} {l : List Pin} (h : SlN w a n c l) {k : Nat} (hk : k ≤ n) : SlN w a k c (l.take k) := by
  obtain ⟨hl, hn, hc, h0, h1⟩ := h
  refine ⟨by simp; omega, by omega, hc, fun e => by simp [h0 e], fun x hx i hi => ?_⟩
  have hi' : i < l.length := by simp at hi; omega
  obtain ⟨hs, hb, hcl⟩ := h1 x hx i hi'
  exact ⟨hs, hb, by rw [List.getElem_take]; exact hcl⟩

theorem flat_pl_length (l : List Pin) : (l.flatMap pl).length = l.length * 3 := by
  induction l with
  | nil => rfl
  | cons a l ih => simp [pl, ih]; omega
theorem flat_pl_get (l : List Pin) (i : Nat) (hi : i < l.length) : (l.flatMap pl)[i * 3]? = some (.string (str l[i].h)) ∧ (l.flatMap pl)[i * 3 + 1]? = some (.bool l[i].s) ∧ (l.flatMap pl)[i * 3 + 2]? = some (.int .i64 l[i].x) := by
  induction l generalizing i with
  | nil => simp at hi
  | cons a l ih =>
    cases i with
    | zero => exact ⟨rfl, rfl, rfl⟩
    | succ i =>
      have := ih i (by simpa using hi)
      rw [List.flatMap_cons, show (i + 1) * 3 = (i * 3) + 3 by omega]
      simpa [pl] using this

/-- The slice value v is the call's own, in a block from base on, and holds the pins l. -/
def OwnN (base : Nat) (w : World) (v : Value) (l : List Pin) : Prop := w.ownsRow base 23 3 v l.length (l.flatMap pl)
theorem OwnN.sl {base : Nat} {w : World} {v : Value} {l : List Pin} (h : OwnN base w v l) : ∃ a c, v = .slice a l.length c ∧ SlN w a l.length c l ∧ ∀ x, a = some x → base ≤ x.block ∧ x.block < w.heap.size := by
  rcases id h.2 with ⟨hv, hn⟩ | ⟨g, cap, cur, hv, hg, hc, hnc, hcm, hcs, htake⟩
  · have hl : l = [] := List.eq_nil_of_length_eq_zero hn
    subst hl
    exact ⟨none, 0, hv, SlN.nil w, fun x hx => by cases hx⟩
  · refine ⟨some ⟨g, 0, none⟩, cap, hv, ⟨rfl, hnc, hcm, (fun h => by cases h), fun x hx i hi => ?_⟩, fun x hx => by cases hx; exact ⟨hg, heap_lt hc⟩⟩
    cases hx
    have hcell : ∀ j, j < l.length * 3 → w.cell? ⟨g, j, none⟩ = (l.flatMap pl)[j]? := by
      intro j hj
      rw [cell_of_row _ _ _ _ _ _ hc, ← htake, List.getElem?_take_of_lt hj]; simp
    obtain ⟨h1, h2, h3⟩ := flat_pl_get l i hi
    refine ⟨rfl, heap_lt hc, ?_, ?_, ?_⟩
    · simp only [Nat.zero_add]; rw [hcell _ (by omega), h1]
    · simp only [Nat.zero_add]; rw [hcell _ (by omega), h2]
    · simp only [Nat.zero_add]; rw [hcell _ (by omega), h3]
theorem OwnN.lt {base : Nat} {w : World} {v : Value} {l : List Pin} (h : OwnN base w v l) : ∀ k, v.ownBlock = some k → base ≤ k ∧ k < w.heap.size := World.ownsRow.lt h
theorem OwnN.ext {base : Nat} {w w' : World} {v : Value} {l : List Pin} (h : OwnN base w v l) (e : Below w.heap.size w w') : OwnN base w' v l := by
  refine ⟨h.1, ?_⟩
  rcases h.2 with hn | ⟨g, cap, cur, rfl, hb, hgg, rest⟩
  · exact .inl hn
  · exact .inr ⟨g, cap, cur, rfl, hb, (e.block g (Array.getElem?_eq_some_iff.1 hgg).1).trans hgg, rest⟩
theorem OwnN.stay {base : Nat} {w w' : World} {v : Value} {l : List Pin} (h : OwnN base w v l) (e : ∀ k, v.ownBlock = some k → w'.heap[k]? = w.heap[k]?) : OwnN base w' v l := by
  refine ⟨h.1, ?_⟩
  rcases h.2 with hn | ⟨g, cap, cur, rfl, hb, hgg, rest⟩
  · exact .inl hn
  · exact .inr ⟨g, cap, cur, rfl, hb, (e g rfl).trans hgg, rest⟩
theorem OwnN.mono {b b' : Nat} {w : World} {v : Value} {l : List Pin} (h : OwnN b w v l) (hb : b' ≤ b) : OwnN b' w v l := by
  refine ⟨h.1, ?_⟩
  rcases h.2 with hn | ⟨g, cap, cur, rfl, hbg, rest⟩
  · exact .inl hn
  · exact .inr ⟨g, cap, cur, rfl, Nat.le_trans hb hbg, rest⟩
theorem OwnN.alloc {base : Nat} {w : World} {v : Value} {l : List Pin} (h : OwnN base w v l) (o : Obj) : OwnN base (w.alloc o) v l := World.ownsRow.alloc h o
theorem OwnN.nil (base : Nat) (w : World) : OwnN base w (.slice none 0 0) [] := ⟨rfl, .inl ⟨rfl, rfl⟩⟩
theorem OwnN.empty {base : Nat} (w : World) (hb : base ≤ w.heap.size) : OwnN base (w.alloc (.cells #[] 23)) (.slice (some ⟨w.heap.size, 0, none⟩) 0 0) [] :=
  ⟨rfl, .inr ⟨w.heap.size, 0, #[], rfl, hb, heap_alloc_eq _ _ _ rfl, Nat.le_refl _, by unfold maxLen; omega, rfl, rfl⟩⟩
theorem OwnN.kept {base : Nat} {w w' : World} {v : Value} {l : List Pin} {row : Option Nat} (h : OwnN base w v l) (hg : w.grownBy w' row) (hne : ∀ k, v.ownBlock = some k → row ≠ some k) : OwnN base w' v l :=
  World.ownsRow.kept h hg (by
    cases hv : v.ownBlock with
    | none => exact .inl rfl
    | some k => exact .inr (fun e => hne k hv e.symm))
/-- One pin in a block of its own. -/
theorem SlN.one (w : World) (p : Pin) (t : TypeId) : SlN (w.alloc (.cells #[.string (str p.h), .bool p.s, .int .i64 p.x] t)) (some ⟨w.heap.size, 0, none⟩) 1 1 [p] := by
  refine ⟨rfl, Nat.le_refl _, by unfold maxLen; omega, (fun h => by cases h), fun x hx i hi => ?_⟩
  cases hx
  obtain rfl : i = 0 := by simpa using hi
  refine ⟨rfl, by simp, ?_, ?_, ?_⟩ <;> (rw [World.cell?_alloc_at _ _ _ _ rfl]; rfl)

theorem infoPin : (Tryz.prog.info? 23).map (fun i => (i.zero, i.size, i.bytes)) = some (some (.agg #[.string ⟨#[]⟩, .bool false, .int .i64 0]), 3, 32) := by kernel_rfl

theorem wpList_append_pins {w : World} {ops : Array Oper} {rest : List Oper} {o : Oper} {a : Act} {Q : Exit → Act → World → Prop} (hgd : o.guard = none) (s x : Operand)
    (ho : o.op = .call { callee := .builtin .append, args := #[s, x], argTypes := #[28, 28] })
    (base : Nat) (v : Value) (l : List Pin) (hs : a.eval s = v) (hown : OwnN base w v l) (b : Option Addr) (m c : Nat) (l2 : List Pin) (hx : a.eval x = .slice b m c) (hsl : SlN w b m c l2)
    (hlen : l.length + m ≤ 1000000000) (hbase : base ≤ w.heap.size)
    (h : ∀ v' w', OwnN base w' v' (l ++ l2) → w.grownBy w' v.ownBlock → wpList Tryz.prog ops Q rest (a.put o.dst v') w') : wpList Tryz.prog ops Q (o :: rest) a w := by
  obtain ⟨i0, hi, hz0, hz1, hz2⟩ := info_parts infoPin
  cases b with
  | none =>
    obtain ⟨rfl, rfl⟩ := hsl.2.2.2.1 rfl
    obtain rfl : m = 0 := hsl.1.symm
    refine wpList_append_own_none hgd s x 28 ho base 23 i0 3 Tryz.underlying28 hi v l.length _ hs hown hx ?_
    exact h v w (by simpa using hown) ⟨rfl, rfl, rfl, Nat.le_refl _, fun _ _ _ => rfl⟩
  | some ad =>
    have hl2 := hsl.len
    refine wpList_append_own w hgd s x 28 ho base 23 i0 _ 3 32 Tryz.underlying28 hi hz0 hz1 hz2 rfl (by decide) v l.length _ hs hown ad m c (l2.flatMap pl) hx (by rw [flat_pl_length, hl2]) ?_ ?_ (by unfold maxLen; omega) (by omega) hbase ?_
    · intro j u hj
      have hjl : j < l2.length * 3 := by
        have := (List.getElem?_eq_some_iff.1 hj).1; rwa [flat_pl_length] at this
      have hi2 : j / 3 < l2.length := by omega
      obtain ⟨hsp, hb, c1, c2, c3⟩ := hsl.2.2.2.2 ad rfl (j / 3) hi2
      obtain ⟨g1, g2, g3⟩ := flat_pl_get l2 (j / 3) hi2
      have hadd : ad.add j = ⟨ad.block, ad.off + j, none⟩ := by
        obtain ⟨b, o, sp⟩ := ad; simp only at hsp; subst hsp; unfold Addr.add; split <;> simp_all
      rw [hadd]
      have h3 : j % 3 = 0 ∨ j % 3 = 1 ∨ j % 3 = 2 := by omega
      rcases h3 with h0 | h0 | h0
      · have e : j / 3 * 3 = j := by omega
        rw [e] at c1 g1
        rw [c1, ← hj, g1]
      · have e : j / 3 * 3 + 1 = j := by omega
        rw [Nat.add_assoc, e] at c2
        rw [e] at g2
        rw [c2, ← hj, g2]
      · have e : j / 3 * 3 + 2 = j := by omega
        rw [Nat.add_assoc, e] at c3
        rw [e] at g3
        rw [c3, ← hj, g3]
    · intro u hu
      obtain ⟨p, _, hp⟩ := List.mem_flatMap.1 hu
      simp [pl] at hp
      rcases hp with rfl | rfl | rfl <;> rfl
    · intro v' w' h1 h2 _
      refine h v' w' ?_ h2
      unfold OwnN; rw [List.length_append, List.flatMap_append, hl2]; exact h1

theorem sl_clone_pins (a : Option Addr) (n c : Nat) (l : List Pin) (w : World) (h : SlN w a n c l) (hn : n ≤ 1000000) :
    Calls Tryz.prog 33 #[.slice a n c] w fun e w' => ∃ v, e = .returned v ∧ OwnN w.heap.size w' v l ∧ Below w.heap.size w w' := by
  cases a with
  | none =>
    obtain ⟨rfl, rfl⟩ := h.2.2.2.1 rfl
    obtain rfl : n = 0 := h.1.symm
    have hnil := fun (w : World) => Lib.run_eql_slice_nil (P := Tryz.prog) w 28 23 none 0 0 0 0 Tryz.underlying28
    go_enter Tryz.func33, Tryz.ntmps33
    go_wp2
    go_ret
    exact ⟨_, rfl, OwnN.nil _ _, Below.refl _ _⟩
  | some ad =>
    have h2 : SlN (w.alloc (.cells #[] 23)) (some ad) n c l := h.ext ((Below.refl _ _).alloc (Nat.le_refl _) _)
    have hnil := fun (w : World) => Lib.run_eql_slice_nil (P := Tryz.prog) w 28 23 (some ad) n c 0 0 Tryz.underlying28
    go_enter Tryz.func33, Tryz.ntmps33
    go_wp2_with (at_builtin; refine wpList_append_pins rfl _ _ rfl w.heap.size _ [] rfl (OwnN.empty w (Nat.le_refl _)) (some ad) n c l rfl h2 (by simp; omega) (by simp) ?_; intro v w1 hown hg)
    go_ret
    exact ⟨v, rfl, hown, ((Below.refl _ _).alloc (Nat.le_refl _) _).grown hg (by simp) (fun k hk => by cases hk; exact Nat.le_refl _)⟩

end Go.Proofs.YtcmeajaakdaeeaaGreatDoor

/-
  The walk through pin.Decode.
-/
namespace Go.Proofs.YtcmeajaakdaeeaaGreatDoor
open Go.RowKit

theorem set3 {w : World} {B : Nat} {x y z : Value} {t : TypeId} (hb : w.heap[B]? = some (.cells #[x, y, z] t (0, 0))) (a b c : Value) :
    (((w.setCell ⟨B, 0, none⟩ a).setCell ⟨B, 1, none⟩ b).setCell ⟨B, 2, none⟩ c).heap[B]? = some (.cells #[a, b, c] t (0, 0)) :=
  heap_setCell_same _ B 2 _ t c (heap_setCell_same _ B 1 _ t b (heap_setCell_same w B 0 _ t a hb))


end Go.Proofs.YtcmeajaakdaeeaaGreatDoor

/-
  The walks of PinCompareMatchesSpec and PinSubdomainsTogether; keep.Short; awake of law 22.
-/
namespace Go.Proofs.YtcmeajaakdaeeaaGreatDoor
open Go.RowKit

set_option maxHeartbeats 2000000 in
set_option maxRecDepth 100000 in
theorem keep_short (m : Nat) (a : Option Addr) (n c : Nat) (l : List (List UInt8)) (w : World) (h : SlT w a n c l) :
    Calls Tryz.prog 35 #[.int .i64 (m : Nat), .slice a n c] w fun e w' => e = .returned (.bool (l.all fun x => decide (x.length ≤ m))) ∧ Below w.heap.size w w' := by
  have hle := h.le
  have HL := Lib.hid h.len
  obtain ⟨r, hr⟩ : ∃ r, r = l.all fun x => decide (x.length ≤ m) := ⟨_, rfl⟩
  rw [← hr]
  have HR := Lib.hid hr
  clear hr
  go_enter Tryz.func35, Tryz.ntmps35
  go_wp2_with fail
  go_loopw [5] (fun i wr => ∃ k : Nat, k ≤ n ∧ i = .int .i64 k ∧ Hid (∀ x ∈ l.take k, x.length ≤ m) ∧ Below w.heap.size w wr) (fun i _ => n - (intOf i).toNat)
  case atStart => exact ⟨0, Nat.zero_le _, rfl, Lib.hid (by simp), Below.refl _ _⟩
  case round =>
    obtain ⟨k, hk, rfl, HC, hB⟩ := hrel
    have i0 : (0 : Int) ≤ (k : Int) := by omega
    by_cases hlt : k < n
    · have i2 : (k : Int) < (n : Int) := by omega
      obtain ⟨bb, o, rfl, hbb, hkl, hcell⟩ := (h.ext hB).at hlt
      rw [List.getElem?_eq_getElem hkl, Option.getD_some, tv] at hcell
      have HTK := Lib.hid (List.take_succ_eq_append_getElem hkl)
      have HMEM := Lib.hid (List.getElem_mem hkl)
      generalize l[k] = p at *
      have hps := strSize p
      obtain ⟨sp, hsp⟩ : ∃ sp, str p = sp := ⟨_, rfl⟩
      rw [hsp] at hcell hps
      clear hsp hkl
      by_cases hpm : p.length ≤ m
      · have i3 : ¬ (m : Int) < (p.length : Int) := by omega
        have HNX := Lib.hid (show ∀ x ∈ l.take (k + 1), x.length ≤ m by
          rw [HTK.out]; intro x hx
          rcases List.mem_append.1 hx with hx | hx
          · exact HC.out x hx
          · simp at hx; subst hx; exact hpm)
        go_wp2_with fail
        go_roundw
        case rel => exact ⟨k + 1, by omega, by go_num, HNX, hB⟩
        case measure => simp [intOf]; omega
      · have i3 : (m : Int) < (p.length : Int) := by omega
        have hrf : r = false := by
          rw [HR.out, List.all_eq_false]; exact ⟨p, HMEM.out, by simpa using hpm⟩
        subst hrf
        go_wp2_with fail
        go_ret
        exact ⟨rfl, hB⟩
    · obtain rfl : k = n := by omega
      have hrt : r = true := by
        rw [HR.out, List.all_eq_true]; have := HC.out; rw [List.take_of_length_le (by rw [HL.out]; exact Nat.le_refl _)] at this; exact fun x hx => by simpa using this x hx
      subst hrt
      go_wp2_with fail
      go_ret
      exact ⟨rfl, hB⟩

theorem Pin.aw_a : Pin.valid ⟨[97, 46, 98], true, 5⟩ = true := by decide +kernel
theorem Pin.aw_e : Pin.enc ⟨[97, 46, 98], true, 5⟩ = [3, 97, 46, 98, 1, 5] := by decide +kernel
theorem Pin.aw_c : Host.cmp [99, 111, 109] [97, 46, 99, 111, 109] = -1 := by decide +kernel
theorem Pin.aw_d : Host.cmp [120, 46, 97, 46, 99, 111, 109] [98, 46, 99, 111, 109] = -1 := by decide +kernel
theorem Pin.aw_p : Pin.dec [3, 97, 46, 98, 1, 5] = (⟨[97, 46, 98], true, 5⟩, 6, 0) := by
  have := Pin.dec_enc Pin.aw_a []
  rw [Pin.aw_e] at this
  simpa using this


end Go.Proofs.YtcmeajaakdaeeaaGreatDoor

/-
  The statements' helpers on slices of pins: SmallPins, OwnPins, Pins.
-/
namespace Go.Proofs.YtcmeajaakdaeeaaGreatDoor
open Go.RowKit



theorem take_eq_succN (l k : List Pin) (i : Nat) (h1 : i < l.length) (h2 : i < k.length) (h : l.take i = k.take i) : (l.take (i + 1) = k.take (i + 1)) ↔ l[i] = k[i] := by
  rw [List.take_succ_eq_append_getElem h1, List.take_succ_eq_append_getElem h2, h]
  exact ⟨fun hh => by simpa using List.append_cancel_left hh, fun hh => by rw [hh]⟩

set_option maxHeartbeats 2000000 in
set_option maxRecDepth 100000 in
theorem keep_pins (a b : Option Addr) (n m c d : Nat) (ls ks : List Pin) (w : World) (h : SlN w a n c ls) (h' : SlN w b m d ks) :
    Calls Tryz.prog 39 #[.slice a n c, .slice b m d] w fun e w' => e = .returned (.bool (decide (ls = ks))) ∧ Below w.heap.size w w' := by
  have hle := h.le
  have hle' := h'.le
  have hl := h.len
  have hl' := h'.len
  by_cases hnm : n = m
  · subst hnm
    obtain ⟨r, hr⟩ : ∃ r, r = decide (ls = ks) := ⟨_, rfl⟩
    rw [← hr]
    have HR := Lib.hid hr; have HL := Lib.hid hl; have HL' := Lib.hid hl'
    clear hr hl hl'
    go_enter Tryz.func39, Tryz.ntmps39
    go_wp2
    go_loopw [5] (fun i wr => ∃ k : Nat, k ≤ n ∧ i = .int .i64 k ∧ Hid (ls.take k = ks.take k) ∧ Below w.heap.size w wr) (fun i _ => n - (intOf i).toNat)
    case atStart => exact ⟨0, Nat.zero_le _, rfl, Lib.hid rfl, Below.refl _ _⟩
    case round =>
      obtain ⟨k, hk, rfl, HT, hB⟩ := hrel
      by_cases hlt : k < n
      · obtain ⟨g, o, rfl, hg, hkl, hc1, hc2, hc3⟩ := (h.ext hB).at hlt
        obtain ⟨g', o', rfl, hg', hkl', hd1, hd2, hd3⟩ := (h'.ext hB).at hlt
        have b0 : (0 : Int) ≤ (k : Int) := by omega
        have b1 : (k : Int) < (n : Int) := by omega
        have HN := Lib.hid (take_eq_succN ls ks k hkl hkl' HT.out)
        rw [List.getElem?_eq_getElem hkl, Option.getD_some] at hc1 hc2 hc3
        rw [List.getElem?_eq_getElem hkl', Option.getD_some] at hd1 hd2 hd3
        generalize ls[k] = u1 at *
        generalize ks[k] = u2 at *
        clear hkl hkl'
        by_cases hu : u1 = u2
        · subst hu
          generalize str u1.h = s1 at *
          generalize u1.s = p1 at *
          generalize u1.x = x1 at *
          go_wp2
          go_quiet (fail)
          go_wp2
          go_roundw
          case rel => exact ⟨k + 1, by omega, by go_num, Lib.hid (HN.out.2 trivial), hB.trans (below_drewN' _ _ _)⟩
          case measure => simp [intOf]; omega
        · have HU := Lib.hid hu
          have hrf : r = false := by
            rw [HR.out]; apply decide_eq_false; intro e; exact hu (HN.out.1 (by rw [e]))
          subst hrf
          by_cases q1 : u1.h = u2.h
          · rw [q1] at hc1
            generalize str u2.h = s1 at *
            by_cases q2 : u1.s = u2.s
            · rw [q2] at hc2
              have q3 : (u1.x == u2.x) = false := by
                apply beq_eq_false_iff_ne.2; intro e; apply hu; obtain ⟨a1, a2, a3⟩ := u1; obtain ⟨b1, b2, b3⟩ := u2; simp_all
              generalize u2.s = p1 at *
              generalize u1.x = x1 at *
              generalize u2.x = x2 at *
              clear q1 q2 hu
              go_wp2
              go_quiet (fail)
              go_wp2
              go_ret
              exact ⟨rfl, hB.trans (below_drewN' _ _ _)⟩
            · have q3 : (u1.s == u2.s) = false := beq_eq_false_iff_ne.2 q2
              generalize u1.s = p1 at *
              generalize u2.s = p2 at *
              generalize u1.x = x1 at *
              generalize u2.x = x2 at *
              clear q1 q2 hu
              go_wp2
              go_quiet (fail)
              go_wp2
              go_ret
              exact ⟨rfl, hB.trans (below_drewN' _ _ _)⟩
          · have q3 : ((str u1.h).toList == (str u2.h).toList) = false := by
              rw [str_toList, str_toList]; exact beq_eq_false_iff_ne.2 q1
            generalize str u1.h = s1 at *
            generalize str u2.h = s2 at *
            generalize u1.s = p1 at *
            generalize u2.s = p2 at *
            generalize u1.x = x1 at *
            generalize u2.x = x2 at *
            clear q1 hu
            go_wp2
            go_quiet (fail)
            go_wp2
            go_ret
            exact ⟨rfl, hB.trans (below_drewN' _ _ _)⟩
      · obtain rfl : k = n := by omega
        have hrt : r = true := by
          rw [HR.out]; apply decide_eq_true; have := HT.out
          rwa [List.take_of_length_le (by rw [HL.out]; exact Nat.le_refl _), List.take_of_length_le (by rw [HL'.out]; exact Nat.le_refl _)] at this
        subst hrt
        go_wp2
        go_ret
        exact ⟨rfl, hB⟩
  · have hrf : decide (ls = ks) = false := by apply decide_eq_false; intro e; apply hnm; rw [← hl, ← hl', e]
    rw [hrf]
    have t1 : ((n : Int) != (m : Int)) = true := bne_iff_ne.2 (by omega)
    clear hnm hrf hl hl'
    go_enter Tryz.func39, Tryz.ntmps39
    go_wp2
    go_ret
    exact ⟨rfl, Below.refl _ _⟩

end Go.Proofs.YtcmeajaakdaeeaaGreatDoor

/-
  The table of pins in memory: New, Len, Capacity, Pins.
-/
namespace Go.Proofs.YtcmeajaakdaeeaaGreatDoor
open Go.RowKit

/-- The block g holds a table with the pins L; its pins lie in a block of their own from B on. -/
def TabW (B : Nat) (w : World) (g : Nat) (v : Value) (L : List Pin) (cap : Int) : Prop :=
  w.heap[g]? = some (.cells #[v, .int .i64 cap] 57 (0, 0)) ∧ OwnN B w v L ∧ B ≤ g ∧ v.ownBlock ≠ some g
theorem TabW.lt {B : Nat} {w : World} {g : Nat} {v : Value} {L : List Pin} {cap : Int} (h : TabW B w g v L cap) : g < w.heap.size := heap_lt h.1
theorem TabW.cells {B : Nat} {w : World} {g : Nat} {v : Value} {L : List Pin} {cap : Int} (h : TabW B w g v L cap) : w.cell? ⟨g, 0, none⟩ = some v ∧ w.cell? ⟨g, 1, none⟩ = some (.int .i64 cap) :=
  ⟨(cell_of_row _ _ _ _ _ _ h.1).trans rfl, (cell_of_row _ _ _ _ _ _ h.1).trans rfl⟩
theorem TabW.free {B : Nat} {w : World} {g : Nat} {v : Value} {L : List Pin} {cap : Int} (h : TabW B w g v L cap) (k : Nat) : w.frozen? ⟨g, k, none⟩ = false := frozen_of_row _ _ _ _ _ h.1
theorem TabW.ext {B : Nat} {w w' : World} {g : Nat} {v : Value} {L : List Pin} {cap : Int} (h : TabW B w g v L cap) (e : Below w.heap.size w w') : TabW B w' g v L cap :=
  ⟨(e.block _ h.lt).trans h.1, h.2.1.ext e, h.2.2.1, h.2.2.2⟩
theorem TabW.set {B : Nat} {w : World} {g : Nat} {v v' : Value} {L L' : List Pin} {cap : Int} (h : TabW B w g v L cap) (ho : OwnN B w v' L') (hne : v'.ownBlock ≠ some g) : TabW B (w.setCell ⟨g, 0, none⟩ v') g v' L' cap :=
  ⟨heap_setCell_same w g 0 _ _ v' h.1, ho.stay (fun k hk => heap_setCell_other _ _ _ _ (fun e => hne (by rw [hk]; exact congrArg some e))), h.2.2.1, hne⟩

/-- What New returns. -/
def NewP (cap : Int) (w : World) (e : Ending) (w' : World) : Prop :=
  if cap < 1 ∨ 1000 < cap then e = .returned (.tuple #[.pointer none, .int .i64 2]) ∧ w' = w
  else e = .returned (.tuple #[.pointer (some ⟨w.heap.size, 0, none⟩), .int .i64 0]) ∧ w' = w.alloc (.cells #[.slice none 0 0, .int .i64 cap] 57)

set_option maxRecDepth 100000 in
theorem tb_new (cap : Int) (w : World) : Calls Tryz.prog 17 #[.int .i64 cap] w (NewP cap w) := by
  by_cases h1 : cap < 1
  · go_enter Tryz.func17, Tryz.ntmps17
    go_wp2_with fail
    go_ret2
    unfold NewP; rw [if_pos (.inl h1)]; exact ⟨rfl, rfl⟩
  · by_cases h2 : 1000 < cap
    · go_enter Tryz.func17, Tryz.ntmps17
      go_wp2_with fail
      go_ret2
      unfold NewP; rw [if_pos (.inr h2)]; exact ⟨rfl, rfl⟩
    · go_enter Tryz.func17, Tryz.ntmps17
      go_wp2_with fail
      go_ret2
      unfold NewP; rw [if_neg (by omega)]; exact ⟨rfl, rfl⟩

theorem TabW.new (w : World) (cap : Int) {B : Nat} (hB : B ≤ w.heap.size) : TabW B (w.alloc (.cells #[.slice none 0 0, .int .i64 cap] 57)) w.heap.size (.slice none 0 0) [] cap :=
  ⟨heap_alloc_eq _ _ _ rfl, OwnN.nil _ _, hB, by simp [Value.ownBlock]⟩

set_option maxRecDepth 100000 in
theorem tb_len {B : Nat} {w : World} {g : Nat} {v : Value} {L : List Pin} {cap : Int} (h : TabW B w g v L cap) :
    Calls Tryz.prog 12 #[.pointer (some ⟨g, 0, none⟩)] w fun e w' => e = .returned (.int .i64 (L.length : Nat)) ∧ w' = w := by
  obtain ⟨c0, -⟩ := h.cells
  have hlt := h.lt
  obtain ⟨a, c, rfl, hs, -⟩ := h.2.1.sl
  go_enter Tryz.func12, Tryz.ntmps12
  go_wp2_with fail
  go_ret
  exact ⟨rfl, rfl⟩

set_option maxRecDepth 100000 in
theorem tb_cap {B : Nat} {w : World} {g : Nat} {v : Value} {L : List Pin} {cap : Int} (h : TabW B w g v L cap) :
    Calls Tryz.prog 13 #[.pointer (some ⟨g, 0, none⟩)] w fun e w' => e = .returned (.int .i64 cap) ∧ w' = w := by
  obtain ⟨-, c1⟩ := h.cells
  have hlt := h.lt
  go_enter Tryz.func13, Tryz.ntmps13
  go_wp2_with fail
  go_ret
  exact ⟨rfl, rfl⟩

set_option maxRecDepth 100000 in
theorem tb_pins {B : Nat} {w : World} {g : Nat} {v : Value} {L : List Pin} {cap : Int} (h : TabW B w g v L cap) (hn : L.length ≤ 1000000) :
    Calls Tryz.prog 14 #[.pointer (some ⟨g, 0, none⟩)] w fun e w' => ∃ v', e = .returned v' ∧ OwnN w.heap.size w' v' L ∧ Below w.heap.size w w' := by
  obtain ⟨c0, -⟩ := h.cells
  have hlt := h.lt
  obtain ⟨a, c, rfl, hs, -⟩ := h.2.1.sl
  have HC := Lib.hid (sl_clone_pins a L.length c L w hs hn)
  go_enter Tryz.func14, Tryz.ntmps14
  go_wp2_with fail
  refine HC.out.mono ?_; rintro e w1 ⟨v', rfl, ho, hb⟩
  go_wp2_with fail
  go_ret
  exact ⟨v', rfl, ho, hb⟩

end Go.Proofs.YtcmeajaakdaeeaaGreatDoor

/-
  The table's All: an iterator that yields the pins with their indexes.
-/
namespace Go.Proofs.YtcmeajaakdaeeaaGreatDoor
open Go.RowKit Go.Shelf

attribute [local go_sem] Oper.semAt_some

theorem OwnN.slN {base : Nat} {w : World} {a : Option Addr} {n c : Nat} {L : List Pin} (h : OwnN base w (.slice a n c) L) : SlN w a n c L := by
  obtain ⟨a', c', hv, hs, -⟩ := h.sl
  cases hv; exact hs
theorem boxedT_ext {W W' : World} {B : Nat} {t : TypeId} {v : Value} (h : Boxed W B t v) (e : Below W.heap.size W W') : Boxed W' B t v := (e.block _ (heap_lt h)).trans h

theorem tb_all (p : Option Addr) (w : World) : Calls Tryz.prog 25 #[.pointer p] w fun e w' => e = .returned (.func (.func 42) #[] #[.pointer (some ⟨w.heap.size, 0, none⟩)]) ∧ w' = w.alloc (.cells #[.pointer p] 25) := by
  go_enter Tryz.func25, Tryz.ntmps25
  go_wp2
  go_ret
  exact ⟨rfl, rfl⟩

/-- The k-th round's arguments. -/
def tEnc (L : List Pin) (k : Nat) : Array Value := #[.int .i64 (k : Nat), pv (L[k]?.getD Pin.none)]
/-- What a round must leave alone. -/
def KpT (bt g : Nat) (v : Value) (A B : World) : Prop := B.heap[bt]? = A.heap[bt]? ∧ B.heap[g]? = A.heap[g]? ∧ ∀ j, v.ownBlock = some j → B.heap[j]? = A.heap[j]?
theorem kpT_t {bt g : Nat} {v : Value} {A B C : World} (h : KpT bt g v A B) (k : KpT bt g v B C) : KpT bt g v A C := ⟨k.1.trans h.1, k.2.1.trans h.2.1, fun j hj => (k.2.2 j hj).trans (h.2.2 j hj)⟩
theorem kpT_refl (bt g : Nat) (v : Value) (A : World) : KpT bt g v A A := ⟨rfl, rfl, fun _ _ => rfl⟩
theorem KpT.tab {bt g : Nat} {v : Value} {A W : World} (k : KpT bt g v A W) {B : Nat} {L : List Pin} {cap : Int} (h : TabW B A g v L cap) : TabW B W g v L cap := ⟨k.2.1.trans h.1, h.2.1.stay k.2.2, h.2.2⟩
theorem KpT.of_below {bt g : Nat} {v : Value} {A W : World} {B : Nat} {L : List Pin} {cap : Int} (h : TabW B A g v L cap) (hb : bt < A.heap.size) (e : Below A.heap.size A W) : KpT bt g v A W :=
  ⟨e.block _ hb, e.block _ h.lt, fun j hj => e.block _ (h.2.1.lt j hj).2⟩

set_option maxRecDepth 100000 in
set_option maxHeartbeats 2000000 in
theorem tb_seq (bt : Nat) {B : Nat} {w : World} {g : Nat} {v : Value} {L : List Pin} {cap : Int} (h : TabW B w g v L cap) (hb : Boxed w bt 25 (.pointer (some ⟨g, 0, none⟩))) :
    SeqIx Fence.wide 3 Tryz.prog 42 #[.pointer (some ⟨bt, 0, none⟩)] (tEnc L) (KpT bt g v) L.length w := by
  intro l J Jx W hW hY hJ
  have hT := h.ext hW
  have hbx := boxedT_ext hb hW
  obtain ⟨a, c, rfl, -, -⟩ := h.2.1.sl
  have HC := Lib.hid (show ∀ W', KpT bt g (.slice a L.length c) W W' → TabW B W' g (.slice a L.length c) L cap ∧ Boxed W' bt 25 (.pointer (some ⟨g, 0, none⟩)) from fun W' hk => ⟨hk.tab hT, hk.1.trans hbx⟩)
  have HLEN := Lib.hid ((callsIn_wide (n := 2)).2 (tb_len hT))
  have HY := Lib.hid hY
  have HJ := Lib.hid hJ
  have x1 := hbx.cell
  have hw1 : Fence.wide.fn 12 := trivial
  have hLm : L.length ≤ 9223372036854775807 := h.2.1.slN.le
  obtain ⟨n, hn⟩ : ∃ n, L.length = n := ⟨_, rfl⟩
  have HLN := Lib.hid hn
  rw [hn] at HC HLEN HY hLm ⊢
  clear h hb hT hbx hY hJ hn
  refine callsIn_of_wp Tryz.func42 rfl trivial ?_ rfl
  simp only [Tryz.ntmps42, List.size_toArray, List.length_cons, List.length_nil, Nat.reduceAdd, Nat.reduceSub, Array.replicate_succ, Array.replicate_zero, List.push_toArray, List.append_toArray, List.nil_append, List.cons_append]
  gi_wp2_with (gi_at_call 12; go_must (refine HLEN.out.mono ?_); rintro e w1 ⟨rfl, rfl⟩)
  gi_loopw [6] (fun i wr => ∃ k : Nat, k ≤ n ∧ i = .int .i64 (k : Nat) ∧ J k wr ∧ KpT bt g (.slice a n c) w1 wr) (fun i _ => n - (intOf i).toNat)
  case atStart => exact ⟨0, Nat.zero_le _, rfl, HJ.out, kpT_refl _ _ _ _⟩
  case round =>
    obtain ⟨k, hk, rfl, hJs, hnx⟩ := hrel
    have i0 : (0 : Int) ≤ (k : Int) := by omega
    obtain ⟨hT, hbx⟩ := HC.out _ hnx
    by_cases hpk : k < n
    · have i1 : (k : Int) < (n : Int) := by omega
      have HYk := Lib.hid (HY.out k wr hJs)
      unfold tEnc at HYk
      have d1 := hbx.cell
      obtain ⟨d2, -⟩ := hT.cells
      have hltg := hT.lt
      obtain ⟨bb, o, rfl, hbb, hkl, c1, c2, c3⟩ := hT.2.1.slN.at hpk
      obtain ⟨p, hp⟩ : ∃ p, L[k]?.getD Pin.none = p := ⟨_, rfl⟩
      rw [hp] at HYk c1 c2 c3
      obtain ⟨ph, ps, px⟩ := p
      unfold pv at HYk
      simp only at HYk c1 c2 c3
      generalize str ph = sh at *
      obtain ⟨fn, tmps, assign, body, hy, hR⟩ := HYk.out hpk
      clear hT hbx hp hkl
      gi_wp2
      refine hR.mono ?_
      rintro e W3 (⟨rfl, hJ3, hk3⟩ | ⟨rfl, hJx3⟩)
      · gi_wp2
        go_roundw
        case rel => exact ⟨k + 1, by omega, by go_num, hJ3, kpT_t hnx hk3⟩
        case measure => simp [intOf]; omega
      · gi_wp2
        refine bodyPost_ret (results_none rfl _ _ _) rfl ?_
        exact ⟨⟨_, rfl⟩, .inr ⟨k + 1, by omega, hJx3⟩⟩
    · obtain rfl : k = n := by omega
      clear hT hbx
      gi_wp2
      go_end0
      exact ⟨⟨_, rfl⟩, .inl hJs⟩

end Go.Proofs.YtcmeajaakdaeeaaGreatDoor
