/-
  Texts in one: Pin, Pins, Two, PinDec, PinL3, Upt, PinK, RTab, UptFind, UptEnc.
-/
import Derived.Test.YtmanejniepghlaaGreatDoorRun30
import Derived.Test.YtmanejniepghlaaGreatDoorRun25
import Derived.Deep.RegionHeld3
import Derived.Laws.AppendOwnNone
import Derived.OwnWalk
import Derived.Lib.SlBytesConst
import Derived.Test.YtmanejniepghlaaGreatDoorRun0
import Derived.Test.YtmanejniepghlaaGreatDoorRun3
/-
  The walks through the package pin: Valid, Encode, Decode.
-/
namespace Go.Proofs.YtmanejniepghlaaGreatDoor
open Go.RowKit

/-- A pin as a value. -/
def pv (p : Pin) : Value := .agg #[.string (str p.h), .bool p.s, .int .i64 p.x]
/-- The cells of a pin. -/
def pc (p : Pin) : Array Value := #[.string (str p.h), .bool p.s, .int .i64 p.x]
theorem SlB.from {w : World} {a : Option Addr} {n c : Nat} {l : List UInt8} (h : SlB w a n c l) {k : Nat} (hk : k ≤ n) : SlB w (if c = k then a else a.map (·.add k)) (n - k) (c - k) (l.drop k) := by
  obtain ⟨hl, hn, hc, h0, h1⟩ := h
  refine ⟨by simp; omega, by omega, by omega, fun e => ?_, fun x hx i hi => ?_⟩
  · have : a = none := by
      split at e
      · exact e
      · cases a with
        | none => rfl
        | some y => cases e
    obtain ⟨e1, e2⟩ := h0 this
    simp [e1, e2]
  · have hi' : k + i < l.length := by simp at hi; omega
    cases a with
    | none => split at hx <;> cases hx
    | some y =>
      obtain ⟨hs, hb, hcl⟩ := h1 y rfl (k + i) hi'
      have : x = ⟨y.block, y.off + k, none⟩ := by
        split at hx
        · exfalso; omega
        · obtain ⟨yb, yo, ys⟩ := y
          simp only at hs; subst hs
          cases hx; unfold Addr.add; split <;> simp_all
      subst this
      refine ⟨rfl, hb, ?_⟩
      simp only [Nat.add_assoc]
      rw [hcl]; simp

set_option maxRecDepth 100000 in
theorem wpList_from {w : World} {ops : Array Oper} {rest : List Oper} {o : Oper} {ac : Act} {Q : Exit → Act → World → Prop} (hg : o.guard = none) (x y : Operand) (hop : o.op = Op.slice 70 x (some y) none none)
    {a : Option Addr} {n c : Nat} {l : List UInt8} (hx : ac.eval x = .slice a n c) (m : Nat) (M : Int) (hM : M = (m : Int)) (hy : ac.eval y = .int .i64 M) (h : SlB w a n c l) (hm : m ≤ n)
    (hK : ∀ a2, SlB w a2 (n - m) (c - m) (l.drop m) → wpList Tryz.prog ops Q rest (ac.put o.dst (.slice a2 (n - m) (c - m))) w) : wpList Tryz.prog ops Q (o :: rest) ac w := by
  subst hM
  have hrun : (Instr.sliceAt 70 (.slice a n c) (some (.int .i64 (m : Int))) none none).run Tryz.prog w = .ok (.slice (if c = m then a else a.map (·.add m)) (n - m) (c - m)) w := by
    have e1 := run_sliceAt_slice (P := Tryz.prog) (w := w) 70 (.slice a n c) (some (.int .i64 (m : Int))) none none Tryz.underlying70
    have e2 := run_slice_l (P := Tryz.prog) (w := w) 70 a n c Tryz.underlying70 .i64 (m : Int) (by omega) (by omega)
    rw [e1, e2]
    simp [go_sem, sliced]
  refine wpList_plain hg fun K hK' => ?_
  unfold Oper.wp
  simp [execOp, hop, hx, hy, hrun, Result.andThen]
  exact hK' _ _ (hK _ (h.from hm))

namespace Pin
theorem valid_of {p : Pin} {b : Bool} (h : Host.name p.h = b) : valid p = (b && (decide (0 ≤ p.x) && decide (p.x ≤ 1099511627776))) := by unfold valid; rw [h]
end Pin

set_option maxRecDepth 100000 in
set_option maxHeartbeats 2000000 in
theorem pi_valid (p : Pin) (hp : p.h.length ≤ 1000000) (w : World) :
    Calls Tryz.prog 151 #[pv p] w fun e w' => e = .returned (.bool (Pin.valid p)) ∧ Below w.heap.size w w' := by
  have HV := Lib.hid (fun W => ho_validName p.h hp W)
  have hb0 := (Below.refl w.heap.size w).alloc (Nat.le_refl _) (.cells (pc p) 34)
  have hrow : (w.alloc (.cells (pc p) 34)).heap[w.heap.size]? = some (.cells (pc p) 34 (0, 0)) := heap_alloc_eq _ _ _ rfl
  have hz0 : (w.alloc (.cells (pc p) 34)).heap.size = w.heap.size + 1 := by simp
  have HPV := Lib.hid (fun b (h : Host.name p.h = b) => Pin.valid_of h)
  obtain ⟨ph, ps, px⟩ := p
  unfold pv
  unfold pc at hb0 hrow hz0
  simp only at HV hb0 hrow hz0 HPV ⊢
  obtain ⟨nb, hnb⟩ : ∃ b, Host.name ph = b := ⟨_, rfl⟩
  rw [hnb] at HV
  have HPV2 := Lib.hid (HPV.out _ hnb)
  clear HPV hnb
  obtain ⟨sh, hsh⟩ : ∃ s, str ph = s := ⟨_, rfl⟩
  rw [hsh] at HV hb0 hrow hz0 ⊢
  have HB0 := Lib.hid (And.intro hb0 (And.intro hrow hz0))
  clear hsh hb0 hrow hz0
  cases nb with
  | false =>
    go_enter Tryz.func151, Tryz.ntmps151
    go_wp2_with fail
    refine (HV.out _).mono ?_; rintro e w1 ⟨rfl, hB1⟩
    rw [HB0.out.2.2] at hB1
    go_wp2_with fail
    go_ret
    exact ⟨by rw [HPV2.out]; rfl, HB0.out.1.trans (hB1.mono (Nat.le_succ _))⟩
  | true =>
    by_cases h0 : px < 0
    · have HF := Lib.hid (show Pin.valid ⟨ph, ps, px⟩ = false by rw [HPV2.out, decide_eq_false (show ¬ 0 ≤ px by omega)]; rfl)
      have t1 : ¬ 0 ≤ px := by omega
      go_enter Tryz.func151, Tryz.ntmps151
      go_wp2_with fail
      refine (HV.out _).mono ?_; rintro e w1 ⟨rfl, hB1⟩
      rw [HB0.out.2.2] at hB1
      have c2 : w1.cell? ⟨w.heap.size, 2, none⟩ = some (.int .i64 px) := (hB1.cell (p := ⟨w.heap.size, 2, none⟩) (Nat.lt_succ_self _)).trans ((cell_of_row _ _ _ _ _ _ HB0.out.2.1).trans rfl)
      go_wp2_with fail
      go_ret
      exact ⟨by rw [HF.out]; rfl, HB0.out.1.trans (hB1.mono (Nat.le_succ _))⟩
    · have t1 : 0 ≤ px := by omega
      have HF := Lib.hid (show Pin.valid ⟨ph, ps, px⟩ = decide (px ≤ 1099511627776) by rw [HPV2.out, decide_eq_true t1]; rfl)
      go_enter Tryz.func151, Tryz.ntmps151
      go_wp2_with fail
      refine (HV.out _).mono ?_; rintro e w1 ⟨rfl, hB1⟩
      rw [HB0.out.2.2] at hB1
      have c2 : w1.cell? ⟨w.heap.size, 2, none⟩ = some (.int .i64 px) := (hB1.cell (p := ⟨w.heap.size, 2, none⟩) (Nat.lt_succ_self _)).trans ((cell_of_row _ _ _ _ _ _ HB0.out.2.1).trans rfl)
      go_wp2_with fail
      go_ret
      exact ⟨by rw [HF.out]; rfl, HB0.out.1.trans (hB1.mono (Nat.le_succ _))⟩

theorem wi_appendUintZ (a : Option Addr) (n c : Nat) (l : List UInt8) (x : Nat) (z : Int) (hz : z = (x : Int)) (hx : x < 18446744073709551616) (w : World) (h : SlB w a n c l) (hn : n ≤ 1000000) :
    Calls Tryz.prog 102 #[.slice a n c, .int .u64 z] w fun e w' => ∃ v, e = .returned v ∧ OwnB w.heap.size w' v (l ++ Wire.enc x) ∧ Below w.heap.size w w' := by
  subst hz; exact wi_appendUint a n c l x hx w h (by omega)

/-- What Encode returns. -/
def PEncP (p : Pin) (w : World) (e : Ending) (w' : World) : Prop := ∃ v, e = .returned (.tuple #[v, .int .i64 (if Pin.valid p then 0 else 1)]) ∧ OwnB w.heap.size w' v (if Pin.valid p then Pin.enc p else []) ∧ Below w.heap.size w w'

set_option maxRecDepth 100000 in
set_option maxHeartbeats 4000000 in
theorem pi_encode (p : Pin) (hp : p.h.length ≤ 900) (w : World) :
    Calls Tryz.prog 103 #[pv p] w (PEncP p w) := by
  have HV := Lib.hid (fun W => pi_valid p (by omega) W)
  have hb0 := (Below.refl w.heap.size w).alloc (Nat.le_refl _) (.cells (pc p) 34)
  have hrow : (w.alloc (.cells (pc p) 34)).heap[w.heap.size]? = some (.cells (pc p) 34 (0, 0)) := heap_alloc_eq _ _ _ rfl
  have hz0 : (w.alloc (.cells (pc p) 34)).heap.size = w.heap.size + 1 := by simp
  have HVI := Lib.hid ((Pin.valid_iff p).1)
  have HTX := Lib.hid (fun W => wi_appendText none 0 0 [] p.h (by omega) W (by exact ⟨rfl, Nat.le_refl _, by unfold maxLen; omega, fun _ => ⟨rfl, rfl⟩, fun x hx => by cases hx⟩) (by omega))
  have HEN := Lib.hid (show Pin.enc p = Wire.txt p.h ++ (Wire.enc (if p.s then 1 else 0) ++ Wire.enc p.x.toNat) from rfl)
  have HTL := Lib.hid (show (Wire.txt p.h).length ≤ 1000 by
    have := Wire.enc_len (v := p.h.length) (by omega); unfold Wire.txt; rw [List.length_append]; omega)
  unfold PEncP
  obtain ⟨ok, hok⟩ : ∃ b, Pin.valid p = b := ⟨_, rfl⟩
  rw [hok] at HV HVI ⊢
  clear hok
  obtain ⟨ph, ps, px⟩ := p
  unfold pv at HV ⊢
  unfold pc at hb0 hrow hz0
  simp only at HV hb0 hrow hz0 HVI HTX HEN HTL ⊢
  obtain ⟨sh, hsh⟩ : ∃ s, str ph = s := ⟨_, rfl⟩
  rw [hsh] at HV hb0 hrow hz0 HTX ⊢
  have HB0 := Lib.hid (And.intro hb0 (And.intro hrow hz0))
  clear hsh hb0 hrow hz0
  cases ok with
  | false =>
    go_enter Tryz.func103, Tryz.ntmps103
    go_wp2_with fail
    refine (HV.out _).mono ?_; rintro e w1 ⟨rfl, hB1⟩
    rw [HB0.out.2.2] at hB1
    go_wp2_with fail
    go_ret2
    exact ⟨_, rfl, OwnB.nil _ _, HB0.out.1.trans (hB1.mono (Nat.le_succ _))⟩
  | true =>
    obtain ⟨-, x0, x1⟩ := HVI.out rfl
    have wx : IntKind.u64.wrap px = ((px.toNat : Nat) : Int) := by unfold IntKind.wrap; simp only [IntKind.bits, IntKind.signed]; simp; omega
    go_enter Tryz.func103, Tryz.ntmps103
    go_wp2_with fail
    refine (HV.out _).mono ?_; rintro e w1 ⟨rfl, hB1⟩
    rw [HB0.out.2.2] at hB1
    have hB01 := HB0.out.1.trans (hB1.mono (Nat.le_succ _))
    have hlt1 : w.heap.size < w1.heap.size := by have := hB1.size; rw [HB0.out.2.2] at this; omega
    have hcs : ∀ w', Below w1.heap.size w1 w' → w'.cell? ⟨w.heap.size, 0, none⟩ = some (.string sh) ∧ w'.cell? ⟨w.heap.size, 1, none⟩ = some (.bool ps) ∧ w'.cell? ⟨w.heap.size, 2, none⟩ = some (.int .i64 px) := by
      intro w' hb
      have hbk : w'.heap[w.heap.size]? = some (.cells #[.string sh, .bool ps, .int .i64 px] 34 (0, 0)) := (hb.block _ hlt1).trans ((hB1.block _ (Nat.lt_succ_self _)).trans HB0.out.2.1)
      exact ⟨(cell_of_row _ _ _ _ _ _ hbk).trans rfl, (cell_of_row _ _ _ _ _ _ hbk).trans rfl, (cell_of_row _ _ _ _ _ _ hbk).trans rfl⟩
    obtain ⟨c0, c1, c2⟩ := hcs w1 (Below.refl _ _)
    have HCS := Lib.hid (fun w' hb => (hcs w' hb).1)
    have HCS2 := Lib.hid (fun w' hb => (hcs w' hb).2.2)
    clear hcs
    have HSU := Lib.hid (show (Wire.enc (if ps then 1 else 0)).length ≤ 10 from (Wire.enc_len (v := if ps then 1 else 0) (by split <;> omega)).2)
    obtain ⟨sub, hsub⟩ : ∃ sub : Nat, (if ps then 1 else 0) = sub := ⟨_, rfl⟩
    rw [hsub] at HEN HSU
    have hsb : sub < 18446744073709551616 := by rw [← hsub]; split <;> decide
    have HSB := Lib.hid (And.intro hsub hsb)
    clear hsub hsb
    cases ps
    all_goals
      go_wp2_with fail
      go_region_held3 (fun w' => w'.cell? ⟨w.heap.size, 0, none⟩ = some (.string sh) ∧ w'.cell? ⟨w.heap.size, 2, none⟩ = some (.int .i64 px)) (first | exact ⟨c0, c2⟩ | exact ⟨HCS.out _ hD3, HCS2.out _ hD3⟩ | exact ⟨HCS.out _ hD2, HCS2.out _ hD2⟩ | exact ⟨HCS.out _ hD1, HCS2.out _ hD1⟩) (first
        | (go_at_call 123; go_must (refine (HTX.out _).mono ?_); rintro e y1 ⟨v1, rfl, hO1, hb1⟩; have hD1 : Below w1.heap.size w1 y1 := (Below.drew (Below.refl _ _)).trans hb1; rw [List.nil_append] at hO1; obtain ⟨a1, k1, rfl, hs1, -⟩ := hO1.sl)
        | (go_at_call_of 102 (Value.slice a1 (Wire.txt ph).length k1); go_must (refine (wi_appendUintZ _ _ _ _ sub _ (by rw [← HSB.out.1]; rfl) HSB.out.2 _ hs1 (by have := HTL.out; omega)).mono ?_); rintro e y2 ⟨v2, rfl, hO2, hb2⟩; have hD2 : Below w1.heap.size w1 y2 := hD1.trans (hb2.mono hD1.size); obtain ⟨a2, k2, rfl, hs2, -⟩ := hO2.sl; obtain ⟨L2, hL2⟩ : ∃ n, (Wire.txt ph ++ Wire.enc sub).length = n := ⟨_, rfl⟩; rw [hL2] at hs2 ⊢; have hL2b : L2 ≤ 1000000 := (by have := HTL.out; have := HSU.out; rw [List.length_append] at hL2; omega); clear hL2)
        | (go_at_call_of 102 (Value.slice a2 L2 k2); go_must (refine (wi_appendUintZ _ _ _ _ px.toNat _ (by first | exact wx | rfl | omega) (by omega) _ hs2 hL2b).mono ?_); rintro e y3 ⟨v3, rfl, hO3, hb3⟩; have hD3 : Below w1.heap.size w1 y3 := hD2.trans (hb3.mono hD2.size)))
      go_wp2_with fail
      go_ret2
      have h9 := hO3.mono (Nat.le_trans hB01.size hD2.size)
      rw [List.append_assoc, ← HEN.out] at h9
      exact ⟨_, rfl, h9, hB01.trans (hD3.mono hB01.size)⟩

/-- What Decode returns. -/
def PDecP (b : List UInt8) (w : World) (e : Ending) (w' : World) : Prop := e = .returned (.tuple #[pv (Pin.dec b).1, .int .i64 ((Pin.dec b).2.1 : Nat), .int .i64 (Pin.dec b).2.2]) ∧ Below w.heap.size w w'
theorem PDecP.of {b : List UInt8} {q : Pin} {n : Nat} {z : Int} (h : Pin.dec b = (q, n, z)) {w : World} {e : Ending} {w' : World} (he : e = .returned (.tuple #[.agg (pc q), .int .i64 (n : Nat), .int .i64 z])) (hb : Below w.heap.size w w') : PDecP b w e w' := by
  unfold PDecP; rw [h]; exact ⟨he, hb⟩

namespace Pin
theorem dec_a {b t : List UInt8} {n1 : Nat} {z1 : Int} (h1 : Wire.decT b = (t, n1, z1)) (hz : z1 ≠ 0) : dec b = (none, 0, z1) := by unfold dec; rw [h1]; rw [if_pos hz]
theorem dec_b {b t : List UInt8} {n1 n2 v2 : Nat} {z2 : Int} (h1 : Wire.decT b = (t, n1, 0)) (h2 : Wire.dec (b.drop n1) = (v2, n2, z2)) (hz : z2 ≠ 0) : dec b = (none, 0, z2) := by
  unfold dec; rw [h1]; rw [if_neg (by simp)]; unfold decR; rw [h2]; rw [if_pos hz]
theorem dec_c {b t : List UInt8} {n1 n2 v2 : Nat} (h1 : Wire.decT b = (t, n1, 0)) (h2 : Wire.dec (b.drop n1) = (v2, n2, 0)) (hz : 1 < v2) : dec b = (none, 0, 6) := by
  unfold dec; rw [h1]; rw [if_neg (by simp)]; unfold decR; rw [h2]; rw [if_neg (by simp), if_pos hz]
theorem dec_d {b t : List UInt8} {n1 n2 v2 n3 v3 : Nat} {z3 : Int} (h1 : Wire.decT b = (t, n1, 0)) (h2 : Wire.dec (b.drop n1) = (v2, n2, 0)) (hv : ¬ 1 < v2) (h3 : Wire.dec (b.drop (n1 + n2)) = (v3, n3, z3)) (hz : z3 ≠ 0) : dec b = (none, 0, z3) := by
  unfold dec; rw [h1]; rw [if_neg (by simp)]; unfold decR; rw [h2]; rw [if_neg (by simp), if_neg hv]; dsimp only; rw [h3]; rw [if_pos hz]
theorem dec_e {b t : List UInt8} {n1 n2 v2 n3 v3 : Nat} (h1 : Wire.decT b = (t, n1, 0)) (h2 : Wire.dec (b.drop n1) = (v2, n2, 0)) (hv : ¬ 1 < v2) (h3 : Wire.dec (b.drop (n1 + n2)) = (v3, n3, 0)) (hz : 1099511627776 < v3) : dec b = (none, 0, 2) := by
  unfold dec; rw [h1]; rw [if_neg (by simp)]; unfold decR; rw [h2]; rw [if_neg (by simp), if_neg hv]; dsimp only; rw [h3]; rw [if_neg (by simp), if_pos hz]
theorem dec_f {b t : List UInt8} {n1 n2 v2 n3 v3 : Nat} (h1 : Wire.decT b = (t, n1, 0)) (h2 : Wire.dec (b.drop n1) = (v2, n2, 0)) (hv : ¬ 1 < v2) (h3 : Wire.dec (b.drop (n1 + n2)) = (v3, n3, 0)) (hz : ¬ 1099511627776 < v3) (hn : Host.name t = false) : dec b = (none, 0, 14) := by
  unfold dec; rw [h1]; rw [if_neg (by simp)]; unfold decR; rw [h2]; rw [if_neg (by simp), if_neg hv]; dsimp only; rw [h3]; rw [if_neg (by simp), if_neg hz, if_pos hn]
theorem dec_g {b t : List UInt8} {n1 n2 v2 n3 v3 : Nat} (h1 : Wire.decT b = (t, n1, 0)) (h2 : Wire.dec (b.drop n1) = (v2, n2, 0)) (hv : ¬ 1 < v2) (h3 : Wire.dec (b.drop (n1 + n2)) = (v3, n3, 0)) (hz : ¬ 1099511627776 < v3) (hn : Host.name t = true) : dec b = (⟨t, decide (v2 = 1), (v3 : Int)⟩, n1 + n2 + n3, 0) := by
  unfold dec; rw [h1]; rw [if_neg (by simp)]; unfold decR; rw [h2]; rw [if_neg (by simp), if_neg hv]; dsimp only; rw [h3]; rw [if_neg (by simp), if_neg hz, if_neg (by simp [hn])]
end Pin

end Go.Proofs.YtmanejniepghlaaGreatDoor

/-
  Slices of pins: what they read as; slices that the call itself made; append; slices.Clone.
-/
namespace Go.Proofs.YtmanejniepghlaaGreatDoor
open Go.RowKit

/-- The three cells of a pin. -/
def pl (p : Pin) : List Value := [.string (str p.h), .bool p.s, .int .i64 p.x]
/-- At this place of this block lies the pin. -/
def PinAt (w : World) (b o : Nat) (p : Pin) : Prop := w.cell? ⟨b, o, none⟩ = some (.string (str p.h)) ∧ w.cell? ⟨b, o + 1, none⟩ = some (.bool p.s) ∧ w.cell? ⟨b, o + 2, none⟩ = some (.int .i64 p.x)
/-- The slice reads as the pins l. -/
def SlN (w : World) (a : Option Addr) (n c : Nat) (l : List Pin) : Prop :=
  l.length = n ∧ n ≤ c ∧ c ≤ maxLen ∧ (a = none → l = [] ∧ c = 0) ∧
    ∀ x, a = some x → ∀ i (h : i < l.length), x.spot = none ∧ x.block < w.heap.size ∧ PinAt w x.block (x.off + i * 3) l[i]
theorem SlN.len {w : World} {a : Option Addr} {n c : Nat} {l : List Pin} (h : SlN w a n c l) : l.length = n := h.1
theorem SlN.le {w : World} {a : Option Addr} {n c : Nat} {l : List Pin} (h : SlN w a n c l) : n ≤ 9223372036854775807 := by
  have := h.2.1; have := h.2.2.1; unfold maxLen at *; omega
theorem SlN.nil (w : World) : SlN w none 0 0 [] := ⟨rfl, Nat.le_refl _, by unfold maxLen; omega, fun _ => ⟨rfl, rfl⟩, fun x hx => by cases hx⟩
theorem SlN.at {w : World} {a : Option Addr} {n c : Nat} {l : List Pin} (h : SlN w a n c l) {k : Nat} (hk : k < n) :
    ∃ b o, a = some ⟨b, o, none⟩ ∧ b < w.heap.size ∧ k < l.length ∧ PinAt w b (o + k * 3) (l[k]?.getD Pin.none) := by
  obtain ⟨hl, hn, hc, h0, h1⟩ := h
  cases a with
  | none => have := (h0 rfl).1; subst this; simp at hl; omega
  | some x =>
    obtain ⟨b, o, sp⟩ := x
    have hk' : k < l.length := by omega
    obtain ⟨hs, hb, hi⟩ := h1 _ rfl k hk'
    simp only at hs; subst hs
    refine ⟨b, o, rfl, hb, hk', ?_⟩
    rw [List.getElem?_eq_getElem hk']
    exact hi
theorem PinAt.stay {w w' : World} {b o : Nat} {p : Pin} (h : PinAt w b o p) (e : w'.heap[b]? = w.heap[b]?) : PinAt w' b o p :=
  ⟨(World.cell?_of_block (a := ⟨b, o, none⟩) e).trans h.1, (World.cell?_of_block (a := ⟨b, o + 1, none⟩) e).trans h.2.1, (World.cell?_of_block (a := ⟨b, o + 2, none⟩) e).trans h.2.2⟩
theorem SlN.stay {w w' : World} {a : Option Addr} {n c : Nat} {l : List Pin} (h : SlN w a n c l) (e : ∀ x, a = some x → l ≠ [] → w'.heap[x.block]? = w.heap[x.block]?) (hz : w.heap.size ≤ w'.heap.size) : SlN w' a n c l := by
  obtain ⟨hl, hn, hc, h0, h1⟩ := h
  refine ⟨hl, hn, hc, h0, fun x hx i hi => ?_⟩
  obtain ⟨hs, hb, hi1⟩ := h1 x hx i hi
  exact ⟨hs, Nat.lt_of_lt_of_le hb hz, hi1.stay (e x hx (by rintro rfl; simp at hi))⟩
theorem SlN.ext {w w' : World} {a : Option Addr} {n c : Nat} {l : List Pin} (h : SlN w a n c l) (e : Below w.heap.size w w') : SlN w' a n c l :=
  h.stay (fun x hx hl => e.block _ ((h.2.2.2.2 x hx 0 (List.length_pos_iff.2 hl)).2.1)) e.size
theorem SlN.take {w : World} {a : Option Addr} {n c : Nat} {l : List Pin} (h : SlN w a n c l) {k : Nat} (hk : k ≤ n) : SlN w a k c (l.take k) := by
  obtain ⟨hl, hn, hc, h0, h1⟩ := h
  refine ⟨by simp; omega, by omega, hc, fun e => by simp [h0 e], fun x hx i hi => ?_⟩
  have hi' : i < l.length := by simp at hi; omega
  obtain ⟨hs, hb, hcl⟩ := h1 x hx i hi'
  exact ⟨hs, hb, by rw [List.getElem_take]; exact hcl⟩

theorem flat_pl_length (l : List Pin) : (l.flatMap pl).length = l.length * 3 := by
  induction l with
  | nil => rfl
  | cons a l ih => simp [pl, ih]; omega
theorem flat_pl_get (l : List Pin) (i : Nat) (hi : i < l.length) : (l.flatMap pl)[i * 3]? = some (.string (str l[i].h)) ∧ (l.flatMap pl)[i * 3 + 1]? = some (.bool l[i].s) ∧ (l.flatMap pl)[i * 3 + 2]? = some (.int .i64 l[i].x) := by
  induction l generalizing i with
  | nil => simp at hi
  | cons a l ih =>
    cases i with
    | zero => exact ⟨rfl, rfl, rfl⟩
    | succ i =>
      have := ih i (by simpa using hi)
      rw [List.flatMap_cons, show (i + 1) * 3 = (i * 3) + 3 by omega]
      simpa [pl] using this

/-- The slice value v is the call's own, in a block from base on, and holds the pins l. -/
def OwnN (base : Nat) (w : World) (v : Value) (l : List Pin) : Prop := w.ownsRow base 34 3 v l.length (l.flatMap pl)
theorem OwnN.sl {base : Nat} {w : World} {v : Value} {l : List Pin} (h : OwnN base w v l) : ∃ a c, v = .slice a l.length c ∧ SlN w a l.length c l ∧ ∀ x, a = some x → base ≤ x.block ∧ x.block < w.heap.size := by
  rcases id h.2 with ⟨hv, hn⟩ | ⟨g, cap, cur, hv, hg, hc, hnc, hcm, hcs, htake⟩
  · have hl : l = [] := List.eq_nil_of_length_eq_zero hn
    subst hl
    exact ⟨none, 0, hv, SlN.nil w, fun x hx => by cases hx⟩
  · refine ⟨some ⟨g, 0, none⟩, cap, hv, ⟨rfl, hnc, hcm, (fun h => by cases h), fun x hx i hi => ?_⟩, fun x hx => by cases hx; exact ⟨hg, heap_lt hc⟩⟩
    cases hx
    have hcell : ∀ j, j < l.length * 3 → w.cell? ⟨g, j, none⟩ = (l.flatMap pl)[j]? := by
      intro j hj
      rw [cell_of_row _ _ _ _ _ _ hc, ← htake, List.getElem?_take_of_lt hj]; simp
    obtain ⟨h1, h2, h3⟩ := flat_pl_get l i hi
    refine ⟨rfl, heap_lt hc, ?_, ?_, ?_⟩
    · simp only [Nat.zero_add]; rw [hcell _ (by omega), h1]
    · simp only [Nat.zero_add]; rw [hcell _ (by omega), h2]
    · simp only [Nat.zero_add]; rw [hcell _ (by omega), h3]
theorem OwnN.lt {base : Nat} {w : World} {v : Value} {l : List Pin} (h : OwnN base w v l) : ∀ k, v.ownBlock = some k → base ≤ k ∧ k < w.heap.size := World.ownsRow.lt h
theorem OwnN.ext {base : Nat} {w w' : World} {v : Value} {l : List Pin} (h : OwnN base w v l) (e : Below w.heap.size w w') : OwnN base w' v l := by
  refine ⟨h.1, ?_⟩
  rcases h.2 with hn | ⟨g, cap, cur, rfl, hb, hgg, rest⟩
  · exact .inl hn
  · exact .inr ⟨g, cap, cur, rfl, hb, (e.block g (Array.getElem?_eq_some_iff.1 hgg).1).trans hgg, rest⟩
theorem OwnN.stay {base : Nat} {w w' : World} {v : Value} {l : List Pin} (h : OwnN base w v l) (e : ∀ k, v.ownBlock = some k → w'.heap[k]? = w.heap[k]?) : OwnN base w' v l := by
  refine ⟨h.1, ?_⟩
  rcases h.2 with hn | ⟨g, cap, cur, rfl, hb, hgg, rest⟩
  · exact .inl hn
  · exact .inr ⟨g, cap, cur, rfl, hb, (e g rfl).trans hgg, rest⟩
theorem OwnN.mono {b b' : Nat} {w : World} {v : Value} {l : List Pin} (h : OwnN b w v l) (hb : b' ≤ b) : OwnN b' w v l := by
  refine ⟨h.1, ?_⟩
  rcases h.2 with hn | ⟨g, cap, cur, rfl, hbg, rest⟩
  · exact .inl hn
  · exact .inr ⟨g, cap, cur, rfl, Nat.le_trans hb hbg, rest⟩
theorem OwnN.alloc {base : Nat} {w : World} {v : Value} {l : List Pin} (h : OwnN base w v l) (o : Obj) : OwnN base (w.alloc o) v l := World.ownsRow.alloc h o
theorem OwnN.nil (base : Nat) (w : World) : OwnN base w (.slice none 0 0) [] := ⟨rfl, .inl ⟨rfl, rfl⟩⟩
theorem OwnN.empty {base : Nat} (w : World) (hb : base ≤ w.heap.size) : OwnN base (w.alloc (.cells #[] 34)) (.slice (some ⟨w.heap.size, 0, none⟩) 0 0) [] :=
  ⟨rfl, .inr ⟨w.heap.size, 0, #[], rfl, hb, heap_alloc_eq _ _ _ rfl, Nat.le_refl _, by unfold maxLen; omega, rfl, rfl⟩⟩
theorem OwnN.kept {base : Nat} {w w' : World} {v : Value} {l : List Pin} {row : Option Nat} (h : OwnN base w v l) (hg : w.grownBy w' row) (hne : ∀ k, v.ownBlock = some k → row ≠ some k) : OwnN base w' v l :=
  World.ownsRow.kept h hg (by
    cases hv : v.ownBlock with
    | none => exact .inl rfl
    | some k => exact .inr (fun e => hne k hv e.symm))
/-- One pin in a block of its own. -/
theorem SlN.one (w : World) (p : Pin) (t : TypeId) : SlN (w.alloc (.cells #[.string (str p.h), .bool p.s, .int .i64 p.x] t)) (some ⟨w.heap.size, 0, none⟩) 1 1 [p] := by
  refine ⟨rfl, Nat.le_refl _, by unfold maxLen; omega, (fun h => by cases h), fun x hx i hi => ?_⟩
  cases hx
  obtain rfl : i = 0 := by simpa using hi
  refine ⟨rfl, by simp, ?_, ?_, ?_⟩ <;> (rw [World.cell?_alloc_at _ _ _ _ rfl]; rfl)

theorem infoPin : (Tryz.prog.info? 34).map (fun i => (i.zero, i.size, i.bytes)) = some (some (.agg #[.string ⟨#[]⟩, .bool false, .int .i64 0]), 3, 32) := by kernel_rfl

theorem wpList_append_pins {w : World} {ops : Array Oper} {rest : List Oper} {o : Oper} {a : Act} {Q : Exit → Act → World → Prop} (hgd : o.guard = none) (s x : Operand)
    (ho : o.op = .call { callee := .builtin .append, args := #[s, x], argTypes := #[42, 42] })
    (base : Nat) (v : Value) (l : List Pin) (hs : a.eval s = v) (hown : OwnN base w v l) (b : Option Addr) (m c : Nat) (l2 : List Pin) (hx : a.eval x = .slice b m c) (hsl : SlN w b m c l2)
    (hlen : l.length + m ≤ 1000000000) (hbase : base ≤ w.heap.size)
    (h : ∀ v' w', OwnN base w' v' (l ++ l2) → w.grownBy w' v.ownBlock → wpList Tryz.prog ops Q rest (a.put o.dst v') w') : wpList Tryz.prog ops Q (o :: rest) a w := by
  obtain ⟨i0, hi, hz0, hz1, hz2⟩ := info_parts infoPin
  cases b with
  | none =>
    obtain ⟨rfl, rfl⟩ := hsl.2.2.2.1 rfl
    obtain rfl : m = 0 := hsl.1.symm
    refine wpList_append_own_none hgd s x 42 ho base 34 i0 3 Tryz.underlying42 hi v l.length _ hs hown hx ?_
    exact h v w (by simpa using hown) ⟨rfl, rfl, rfl, Nat.le_refl _, fun _ _ _ => rfl⟩
  | some ad =>
    have hl2 := hsl.len
    refine wpList_append_own w hgd s x 42 ho base 34 i0 _ 3 32 Tryz.underlying42 hi hz0 hz1 hz2 rfl (by decide) v l.length _ hs hown ad m c (l2.flatMap pl) hx (by rw [flat_pl_length, hl2]) ?_ ?_ (by unfold maxLen; omega) (by omega) hbase ?_
    · intro j u hj
      have hjl : j < l2.length * 3 := by
        have := (List.getElem?_eq_some_iff.1 hj).1; rwa [flat_pl_length] at this
      have hi2 : j / 3 < l2.length := by omega
      obtain ⟨hsp, hb, c1, c2, c3⟩ := hsl.2.2.2.2 ad rfl (j / 3) hi2
      obtain ⟨g1, g2, g3⟩ := flat_pl_get l2 (j / 3) hi2
      have hadd : ad.add j = ⟨ad.block, ad.off + j, none⟩ := by
        obtain ⟨b, o, sp⟩ := ad; simp only at hsp; subst hsp; unfold Addr.add; split <;> simp_all
      rw [hadd]
      have h3 : j % 3 = 0 ∨ j % 3 = 1 ∨ j % 3 = 2 := by omega
      rcases h3 with h0 | h0 | h0
      · have e : j / 3 * 3 = j := by omega
        rw [e] at c1 g1
        rw [c1, ← hj, g1]
      · have e : j / 3 * 3 + 1 = j := by omega
        rw [Nat.add_assoc, e] at c2
        rw [e] at g2
        rw [c2, ← hj, g2]
      · have e : j / 3 * 3 + 2 = j := by omega
        rw [Nat.add_assoc, e] at c3
        rw [e] at g3
        rw [c3, ← hj, g3]
    · intro u hu
      obtain ⟨p, _, hp⟩ := List.mem_flatMap.1 hu
      simp [pl] at hp
      rcases hp with rfl | rfl | rfl <;> rfl
    · intro v' w' h1 h2 _
      refine h v' w' ?_ h2
      unfold OwnN; rw [List.length_append, List.flatMap_append, hl2]; exact h1

theorem sl_clone_pins (a : Option Addr) (n c : Nat) (l : List Pin) (w : World) (h : SlN w a n c l) (hn : n ≤ 1000000) :
    Calls Tryz.prog 161 #[.slice a n c] w fun e w' => ∃ v, e = .returned v ∧ OwnN w.heap.size w' v l ∧ Below w.heap.size w w' := by
  cases a with
  | none =>
    obtain ⟨rfl, rfl⟩ := h.2.2.2.1 rfl
    obtain rfl : n = 0 := h.1.symm
    have hnil := fun (w : World) => Lib.run_eql_slice_nil (P := Tryz.prog) w 42 34 none 0 0 0 0 Tryz.underlying42
    go_enter Tryz.func161, Tryz.ntmps161
    go_wp2
    go_ret
    exact ⟨_, rfl, OwnN.nil _ _, Below.refl _ _⟩
  | some ad =>
    have h2 : SlN (w.alloc (.cells #[] 34)) (some ad) n c l := h.ext ((Below.refl _ _).alloc (Nat.le_refl _) _)
    have hnil := fun (w : World) => Lib.run_eql_slice_nil (P := Tryz.prog) w 42 34 (some ad) n c 0 0 Tryz.underlying42
    go_enter Tryz.func161, Tryz.ntmps161
    go_wp2_with (at_builtin; refine wpList_append_pins rfl _ _ rfl w.heap.size _ [] rfl (OwnN.empty w (Nat.le_refl _)) (some ad) n c l rfl h2 (by simp; omega) (by simp) ?_; intro v w1 hown hg)
    go_ret
    exact ⟨v, rfl, hown, ((Below.refl _ _).alloc (Nat.le_refl _) _).grown hg (by simp) (fun k hk => by cases hk; exact Nat.le_refl _)⟩

end Go.Proofs.YtmanejniepghlaaGreatDoor

/-
  Two things in memory that are apart, each with the set of its own blocks; states whose pins are no part of such a thing.
-/
namespace Go.Proofs.YtmanejniepghlaaGreatDoor
open Go.RowKit

/-- A predicate on a set of blocks and a world that only those blocks matter to. -/
structure Fp (A : (Nat → Prop) → World → Prop) : Prop where
  stay : ∀ {F : Nat → Prop} {w w' : World}, A F w → (∀ b, F b → w'.heap[b]? = w.heap[b]?) → w.heap.size ≤ w'.heap.size → A F w'
  lt : ∀ {F : Nat → Prop} {w : World}, A F w → ∀ k, F k → k < w.heap.size
theorem Fp.ext {A : (Nat → Prop) → World → Prop} (h : Fp A) {F : Nat → Prop} {w w' : World} (a : A F w) (e : Below w.heap.size w w') : A F w' := h.stay a (fun b hb => e.block b (h.lt a b hb)) e.size

section
variable {W : World} {A B A' B' : (Nat → Prop) → World → Prop} {F G F' G' : Nat → Prop} {w w' : World}
end

section
variable {F F' : Nat → Prop} {w w' : World} {v : Value} {c : Int} {L : List Pin}
theorem SlN.blt' {a : Option Addr} {n k : Nat} (h : SlN w a n k L) {x : Addr} (hx : a = some x) (hl : L ≠ []) : x.block < w.heap.size := (h.2.2.2.2 x hx 0 (List.length_pos_iff.2 hl)).2.1
theorem SlN.upd {a : Option Addr} {n k : Nat} (h : SlN w a n k L) (u : Upd F w F' w') (hF : ∀ x, a = some x → L ≠ [] → ¬ F x.block) : SlN w' a n k L :=
  h.stay (fun x hx hl => u.block x.block (h.blt' hx hl) (hF x hx hl)) u.size
end

end Go.Proofs.YtmanejniepghlaaGreatDoor

/-
  The walk through pin.Decode.
-/
namespace Go.Proofs.YtmanejniepghlaaGreatDoor
open Go.RowKit

theorem set3 {w : World} {B : Nat} {x y z : Value} {t : TypeId} (hb : w.heap[B]? = some (.cells #[x, y, z] t (0, 0))) (a b c : Value) :
    (((w.setCell ⟨B, 0, none⟩ a).setCell ⟨B, 1, none⟩ b).setCell ⟨B, 2, none⟩ c).heap[B]? = some (.cells #[a, b, c] t (0, 0)) :=
  heap_setCell_same _ B 2 _ t c (heap_setCell_same _ B 1 _ t b (heap_setCell_same w B 0 _ t a hb))

set_option maxRecDepth 100000 in
set_option maxHeartbeats 8000000 in
theorem pi_decode (a : Option Addr) (n c : Nat) (b : List UInt8) (w : World) (h : SlB w a n c b) (hn : n ≤ 1000000) :
    Calls Tryz.prog 159 #[.slice a n c] w (PDecP b w) := by
  have hb0 := (Below.refl w.heap.size w).alloc (Nat.le_refl _) (.cells #[.string ⟨#[]⟩, .bool false, .int .i64 0] 34)
  have hz0 : (w.alloc (.cells #[.string ⟨#[]⟩, .bool false, .int .i64 0] 34)).heap.size = w.heap.size + 1 := by simp
  have HROW := Lib.hid (show (w.alloc (.cells #[.string ⟨#[]⟩, .bool false, .int .i64 0] 34)).heap[w.heap.size]? = some (.cells #[.string ⟨#[]⟩, .bool false, .int .i64 0] 34 (0, 0)) from heap_alloc_eq _ _ _ rfl)
  have hsb := h.ext ((Below.refl w.heap.size w).alloc (Nat.le_refl _) (.cells #[.string ⟨#[]⟩, .bool false, .int .i64 0] 34))
  have HB0 := Lib.hid hb0
  have HZ0 := Lib.hid hz0
  have hT := wi_text a n c b _ hsb hn
  have hln := h.len
  obtain ⟨t, n1, z1, h1⟩ : ∃ t n1 z1, Wire.decT b = (t, n1, z1) := ⟨_, _, _, rfl⟩
  rw [h1] at hT
  dsimp only at hT
  have HTX := Lib.hid (show ∃ s, str t = s from ⟨_, rfl⟩)
  obtain ⟨st, hst⟩ := HTX.out
  have HSX := Lib.hid hst
  rw [hst] at hT
  have HT := Lib.hid hT
  clear hT hb0 hz0 h
  by_cases e1 : z1 ≠ 0
  · have HR := Lib.hid (Pin.dec_a h1 e1)
    have t1 : (z1 != 0) = true := by simpa using e1
    clear h1 e1 hln hst hsb
    go_enter Tryz.func159, Tryz.ntmps159
    go_wp2_with fail
    refine HT.out.mono ?_; rintro e w1 ⟨rfl, rfl⟩
    go_wp2_with fail
    refine bodyPost_ret (v := .tuple #[.agg #[.string ⟨#[]⟩, .bool false, .int .i64 0], .int .i64 (0 : Nat), .int .i64 z1]) (by simp [results, Tryz.results159, go_sem]) rfl (PDecP.of HR.out rfl ?_)
    exact HB0.out
  obtain rfl : z1 = 0 := by simpa using e1
  obtain ⟨-, q1, q2, q3, q4⟩ := Wire.txt_decT h1
  rw [hln] at q1
  have hn1 : n1 ≤ n := q1
  have hl1 : (b.drop n1).length = n - n1 := by rw [List.length_drop, hln]
  obtain ⟨v2, n2, z2, h2⟩ : ∃ v2 n2 z2, Wire.dec (b.drop n1) = (v2, n2, z2) := ⟨_, _, _, rfl⟩
  have hU1 : ∀ a2 c2 W, SlB W a2 (n - n1) c2 (b.drop n1) → Calls Tryz.prog 185 #[.slice a2 (n - n1) c2] W fun e w' => e = .returned (.tuple #[.int .u64 (v2 : Nat), .int .i64 (n2 : Nat), .int .i64 z2]) ∧ W = w' := by
    intro a2 c2 W hs
    have := wi_uint a2 (n - n1) c2 (b.drop n1) W hs (by omega)
    rw [h2] at this; exact this
  have HU1 := Lib.hid hU1
  have m1 : (0 : Int) ≤ (n1 : Int) := by omega
  have m2 : (n1 : Int) ≤ (n : Int) := by omega
  clear hU1
  by_cases e2 : z2 ≠ 0
  · have HR := Lib.hid (Pin.dec_b h1 h2 e2)
    have t2 : (z2 != 0) = true := by simpa using e2
    have k0 : (n2 : Int) ≤ 1000000 := by
      have := h2
      unfold Wire.dec at this
      split at this
      · cases this; decide
      · split at this
        · cases this; decide
        · split at this
          · cases this; decide
          · split at this
            · cases this; decide
            · cases this; exact absurd rfl e2
    have k1 : (0 : Int) ≤ (n2 : Int) := by omega
    clear h1 h2 e1 e2 hln hst hl1
    go_enter Tryz.func159, Tryz.ntmps159
    go_wp2_with fail
    refine HT.out.mono ?_; rintro e w1 ⟨rfl, rfl⟩
    go_wp2_with (refine wpList_from rfl _ _ rfl rfl n1 _ rfl rfl hsb hn1 ?_; intro a2 hsa2)
    refine (HU1.out _ _ _ hsa2).mono ?_; rintro e w2 ⟨rfl, rfl⟩
    go_wp2_with fail
    refine bodyPost_ret (v := .tuple #[.agg #[.string ⟨#[]⟩, .bool false, .int .i64 0], .int .i64 (0 : Nat), .int .i64 z2]) (by simp [results, Tryz.results159, go_sem]) rfl (PDecP.of HR.out rfl ?_)
    exact HB0.out
  obtain rfl : z2 = 0 := by simpa using e2
  obtain ⟨-, r1, r2, r3, r4⟩ := Wire.enc_dec h2
  rw [hl1] at r1
  have hn12 : n1 + n2 ≤ n := by omega
  have m3 : (0 : Int) ≤ (n2 : Int) := by omega
  have m4 : (n1 : Int) + (n2 : Int) ≤ (n : Int) := by omega
  by_cases e3 : 1 < v2
  · have HR := Lib.hid (Pin.dec_c h1 h2 e3)
    have t3 : (1 : Int) < (v2 : Int) := by omega
    clear h1 h2 e1 e2 hln hst hl1
    go_enter Tryz.func159, Tryz.ntmps159
    go_wp2_with fail
    refine HT.out.mono ?_; rintro e w1 ⟨rfl, rfl⟩
    go_wp2_with (refine wpList_from rfl _ _ rfl rfl n1 _ rfl rfl hsb hn1 ?_; intro a2 hsa2)
    refine (HU1.out _ _ _ hsa2).mono ?_; rintro e w2 ⟨rfl, rfl⟩
    go_wp2_with fail
    refine bodyPost_ret (v := .tuple #[.agg #[.string ⟨#[]⟩, .bool false, .int .i64 0], .int .i64 (0 : Nat), .int .i64 6]) (by simp [results, Tryz.results159, go_sem]) rfl (PDecP.of HR.out rfl ?_)
    exact HB0.out
  have t3 : ¬ (1 : Int) < (v2 : Int) := by omega
  have hl2 : (b.drop (n1 + n2)).length = n - (n1 + n2) := by rw [List.length_drop, hln]
  obtain ⟨v3, n3, z3, h3⟩ : ∃ v3 n3 z3, Wire.dec (b.drop (n1 + n2)) = (v3, n3, z3) := ⟨_, _, _, rfl⟩
  have hU2 : ∀ a2 c2 W, SlB W a2 (n - (n1 + n2)) c2 (b.drop (n1 + n2)) → Calls Tryz.prog 185 #[.slice a2 (n - (n1 + n2)) c2] W fun e w' => e = .returned (.tuple #[.int .u64 (v3 : Nat), .int .i64 (n3 : Nat), .int .i64 z3]) ∧ W = w' := by
    intro a2 c2 W hs
    have := wi_uint a2 (n - (n1 + n2)) c2 (b.drop (n1 + n2)) W hs (by omega)
    rw [h3] at this; exact this
  have HU2 := Lib.hid hU2
  clear hU2
  by_cases e4 : z3 ≠ 0
  · have HR := Lib.hid (Pin.dec_d h1 h2 e3 h3 e4)
    have t4 : (z3 != 0) = true := by simpa using e4
    clear h1 h2 h3 e1 e2 e4 hln hst hl1 hl2
    go_enter Tryz.func159, Tryz.ntmps159
    go_wp2_with fail
    refine HT.out.mono ?_; rintro e w1 ⟨rfl, rfl⟩
    go_wp2_with (refine wpList_from rfl _ _ rfl rfl n1 _ rfl rfl hsb hn1 ?_; intro a2 hsa2)
    refine (HU1.out _ _ _ hsa2).mono ?_; rintro e w2 ⟨rfl, rfl⟩
    go_wp2_with (refine wpList_from rfl _ _ rfl rfl (n1 + n2) _ (by omega) rfl hsb hn12 ?_; intro a3 hsa3)
    refine (HU2.out _ _ _ hsa3).mono ?_; rintro e w3 ⟨rfl, rfl⟩
    go_wp2_with fail
    refine bodyPost_ret (v := .tuple #[.agg #[.string ⟨#[]⟩, .bool false, .int .i64 0], .int .i64 (0 : Nat), .int .i64 z3]) (by simp [results, Tryz.results159, go_sem]) rfl (PDecP.of HR.out rfl ?_)
    exact HB0.out
  obtain rfl : z3 = 0 := by simpa using e4
  obtain ⟨-, s1, s2, s3, s4⟩ := Wire.enc_dec h3
  rw [hl2] at s1
  have m5 : (0 : Int) ≤ (n3 : Int) := by omega
  have m6 : (n1 : Int) + (n2 : Int) + (n3 : Int) ≤ (n : Int) := by omega
  by_cases e5 : 1099511627776 < v3
  · have HR := Lib.hid (Pin.dec_e h1 h2 e3 h3 e5)
    have t5 : (1099511627776 : Int) < (v3 : Int) := by omega
    clear h1 h2 h3 e1 e2 e4 hln hst hl1 hl2
    go_enter Tryz.func159, Tryz.ntmps159
    go_wp2_with fail
    refine HT.out.mono ?_; rintro e w1 ⟨rfl, rfl⟩
    go_wp2_with (refine wpList_from rfl _ _ rfl rfl n1 _ rfl rfl hsb hn1 ?_; intro a2 hsa2)
    refine (HU1.out _ _ _ hsa2).mono ?_; rintro e w2 ⟨rfl, rfl⟩
    go_wp2_with (refine wpList_from rfl _ _ rfl rfl (n1 + n2) _ (by omega) rfl hsb hn12 ?_; intro a3 hsa3)
    refine (HU2.out _ _ _ hsa3).mono ?_; rintro e w3 ⟨rfl, rfl⟩
    go_wp2_with fail
    refine bodyPost_ret (v := .tuple #[.agg #[.string ⟨#[]⟩, .bool false, .int .i64 0], .int .i64 (0 : Nat), .int .i64 2]) (by simp [results, Tryz.results159, go_sem]) rfl (PDecP.of HR.out rfl ?_)
    exact HB0.out
  have t5 : ¬ (1099511627776 : Int) < (v3 : Int) := by omega
  have hV := fun W => ho_validName t (by omega) W
  rw [hst] at hV
  obtain ⟨nb, hnb⟩ : ∃ b, Host.name t = b := ⟨_, rfl⟩
  rw [hnb] at hV
  have HV := Lib.hid hV
  clear hV
  cases nb with
  | false =>
    have HR := Lib.hid (Pin.dec_f h1 h2 e3 h3 e5 hnb)
    clear h1 h2 h3 e1 e2 e4 hln hst hl1 hl2 hnb
    go_enter Tryz.func159, Tryz.ntmps159
    go_wp2_with fail
    refine HT.out.mono ?_; rintro e w1 ⟨rfl, rfl⟩
    go_wp2_with (refine wpList_from rfl _ _ rfl rfl n1 _ rfl rfl hsb hn1 ?_; intro a2 hsa2)
    refine (HU1.out _ _ _ hsa2).mono ?_; rintro e w2 ⟨rfl, rfl⟩
    go_wp2_with (refine wpList_from rfl _ _ rfl rfl (n1 + n2) _ (by omega) rfl hsb hn12 ?_; intro a3 hsa3)
    refine (HU2.out _ _ _ hsa3).mono ?_; rintro e w3 ⟨rfl, rfl⟩
    go_wp2_with fail
    refine (HV.out _).mono ?_; rintro e w4 ⟨rfl, hB4⟩
    rw [HZ0.out] at hB4
    have hbk : w4.heap[w.heap.size]? = some (.cells #[.string ⟨#[]⟩, .bool false, .int .i64 0] 34 (0, 0)) := (hB4.block _ (Nat.lt_succ_self _)).trans HROW.out
    have c0 : w4.cell? ⟨w.heap.size, 0, none⟩ = some (.string ⟨#[]⟩) := (cell_of_row _ _ _ _ _ _ hbk).trans rfl
    have c1 : w4.cell? ⟨w.heap.size, 1, none⟩ = some (.bool false) := (cell_of_row _ _ _ _ _ _ hbk).trans rfl
    have c2 : w4.cell? ⟨w.heap.size, 2, none⟩ = some (.int .i64 0) := (cell_of_row _ _ _ _ _ _ hbk).trans rfl
    have f0 : ∀ k, w4.frozen? ⟨w.heap.size, k, none⟩ = false := fun k => frozen_of_row _ _ _ _ _ hbk
    have hlt4 : w.heap.size < w4.heap.size := heap_lt hbk
    go_wp2_with fail
    have hfin := set3 hbk (.string ⟨#[]⟩) (.bool false) (.int .i64 0)
    have d0 := (cell_of_row _ _ 0 _ _ _ hfin).trans rfl
    have d1 := (cell_of_row _ _ 1 _ _ _ hfin).trans rfl
    have d2 := (cell_of_row _ _ 2 _ _ _ hfin).trans rfl
    have hbel := (((HB0.out.trans (hB4.mono (Nat.le_succ _))).setCell (p := ⟨w.heap.size, 0, none⟩) (Nat.le_refl _) (.string ⟨#[]⟩)).setCell (p := ⟨w.heap.size, 1, none⟩) (Nat.le_refl _) (.bool false)).setCell (p := ⟨w.heap.size, 2, none⟩) (Nat.le_refl _) (.int .i64 0)
    refine bodyPost_ret (v := .tuple #[.agg #[.string ⟨#[]⟩, .bool false, .int .i64 0], .int .i64 (0 : Nat), .int .i64 14]) (by simp [results, Tryz.results159, go_sem, d0, d1, d2]) rfl (PDecP.of HR.out rfl ?_)
    exact hbel
  | true =>
    have HR := Lib.hid (Pin.dec_g h1 h2 e3 h3 e5 hnb)
    have wv : IntKind.i64.wrap (v3 : Int) = (v3 : Int) := by rw [IntKind.wrap_i64]; omega
    clear h1 h2 h3 e1 e2 e4 hln hl1 hl2 hnb hst
    go_enter Tryz.func159, Tryz.ntmps159
    go_wp2_with fail
    refine HT.out.mono ?_; rintro e w1 ⟨rfl, rfl⟩
    go_wp2_with (refine wpList_from rfl _ _ rfl rfl n1 _ rfl rfl hsb hn1 ?_; intro a2 hsa2)
    refine (HU1.out _ _ _ hsa2).mono ?_; rintro e w2 ⟨rfl, rfl⟩
    go_wp2_with (refine wpList_from rfl _ _ rfl rfl (n1 + n2) _ (by omega) rfl hsb hn12 ?_; intro a3 hsa3)
    refine (HU2.out _ _ _ hsa3).mono ?_; rintro e w3 ⟨rfl, rfl⟩
    go_wp2_with fail
    refine (HV.out _).mono ?_; rintro e w4 ⟨rfl, hB4⟩
    rw [HZ0.out] at hB4
    have hbk : w4.heap[w.heap.size]? = some (.cells #[.string ⟨#[]⟩, .bool false, .int .i64 0] 34 (0, 0)) := (hB4.block _ (Nat.lt_succ_self _)).trans HROW.out
    have c0 : w4.cell? ⟨w.heap.size, 0, none⟩ = some (.string ⟨#[]⟩) := (cell_of_row _ _ _ _ _ _ hbk).trans rfl
    have c1 : w4.cell? ⟨w.heap.size, 1, none⟩ = some (.bool false) := (cell_of_row _ _ _ _ _ _ hbk).trans rfl
    have c2 : w4.cell? ⟨w.heap.size, 2, none⟩ = some (.int .i64 0) := (cell_of_row _ _ _ _ _ _ hbk).trans rfl
    have f0 : ∀ k, w4.frozen? ⟨w.heap.size, k, none⟩ = false := fun k => frozen_of_row _ _ _ _ _ hbk
    have hlt4 : w.heap.size < w4.heap.size := heap_lt hbk
    go_wp2_with fail
    have hfin := set3 hbk (.string st) (.bool ((v2 : Int) == 1)) (.int .i64 (v3 : Int))
    have d0 := (cell_of_row _ _ 0 _ _ _ hfin).trans rfl
    have d1 := (cell_of_row _ _ 1 _ _ _ hfin).trans rfl
    have d2 := (cell_of_row _ _ 2 _ _ _ hfin).trans rfl
    have hbel := (((HB0.out.trans (hB4.mono (Nat.le_succ _))).setCell (p := ⟨w.heap.size, 0, none⟩) (Nat.le_refl _) (.string st)).setCell (p := ⟨w.heap.size, 1, none⟩) (Nat.le_refl _) (.bool ((v2 : Int) == 1))).setCell (p := ⟨w.heap.size, 2, none⟩) (Nat.le_refl _) (.int .i64 (v3 : Int))
    have eb : decide (v2 = 1) = ((v2 : Int) == 1) := by rw [show ((v2 : Int) == 1) = decide ((v2 : Int) = 1) from rfl]; apply decide_eq_decide.2; omega
    refine bodyPost_ret (v := .tuple #[.agg (pc ⟨t, decide (v2 = 1), (v3 : Int)⟩), .int .i64 ((n1 + n2 + n3) : Nat), .int .i64 0]) (by unfold pc; simp [results, Tryz.results159, go_sem, d0, d1, d2, HSX.out, eb]) rfl (PDecP.of HR.out rfl ?_)
    exact hbel

end Go.Proofs.YtmanejniepghlaaGreatDoor

/-
  The walk of the statement PinCodecMatchesSpec.
-/
namespace Go.Proofs.YtmanejniepghlaaGreatDoor
open Go.RowKit

/-- A block that holds a pin. -/
def PBox (w : World) (B : Nat) (h : ByteArray) (s : Bool) (x : Int) : Prop := w.heap[B]? = some (.cells #[.string h, .bool s, .int .i64 x] 34 (0, 0))
theorem PBox.cells {w : World} {B : Nat} {h : ByteArray} {s : Bool} {x : Int} (hb : PBox w B h s x) : w.cell? ⟨B, 0, none⟩ = some (.string h) ∧ w.cell? ⟨B, 1, none⟩ = some (.bool s) ∧ w.cell? ⟨B, 2, none⟩ = some (.int .i64 x) :=
  ⟨(cell_of_row _ _ _ _ _ _ hb).trans rfl, (cell_of_row _ _ _ _ _ _ hb).trans rfl, (cell_of_row _ _ _ _ _ _ hb).trans rfl⟩
theorem PBox.ext {w w' : World} {B : Nat} {h : ByteArray} {s : Bool} {x : Int} (hb : PBox w B h s x) (e : Ext w w') : PBox w' B h s x := (Below.block e _ (heap_lt hb)).trans hb
theorem PBox.new (w : World) (h : ByteArray) (s : Bool) (x : Int) : PBox (w.alloc (.cells #[.string h, .bool s, .int .i64 x] 34)) w.heap.size h s x := heap_alloc_eq _ _ _ rfl

end Go.Proofs.YtmanejniepghlaaGreatDoor

/-
  The walk through update.Valid and the reference's Valid; updates in memory.
-/
namespace Go.Proofs.YtmanejniepghlaaGreatDoor
open Go.RowKit

/-- The cells of an update, its value. -/
def uc (u : UpdV) : Array Value := #[.int .i64 u.k, .string (str u.p.h), .bool u.p.s, .int .i64 u.p.x]
def uv (u : UpdV) : Value := .agg (uc u)
/-- A block that holds an update. -/
def UBox (w : World) (B : Nat) (k : Int) (h : ByteArray) (s : Bool) (x : Int) : Prop := w.heap[B]? = some (.cells #[.int .i64 k, .string h, .bool s, .int .i64 x] 36 (0, 0))
theorem UBox.cells {w : World} {B : Nat} {k : Int} {h : ByteArray} {s : Bool} {x : Int} (hb : UBox w B k h s x) : w.cell? ⟨B, 0, none⟩ = some (.int .i64 k) ∧ w.cell? ⟨B, 1, none⟩ = some (.string h) ∧ w.cell? ⟨B, 2, none⟩ = some (.bool s) ∧ w.cell? ⟨B, 3, none⟩ = some (.int .i64 x) :=
  ⟨(cell_of_row _ _ _ _ _ _ hb).trans rfl, (cell_of_row _ _ _ _ _ _ hb).trans rfl, (cell_of_row _ _ _ _ _ _ hb).trans rfl, (cell_of_row _ _ _ _ _ _ hb).trans rfl⟩
theorem UBox.ext {w w' : World} {B : Nat} {k : Int} {h : ByteArray} {s : Bool} {x : Int} (hb : UBox w B k h s x) (e : Ext w w') : UBox w' B k h s x := (Below.block e _ (heap_lt hb)).trans hb
theorem UBox.new (w : World) (k : Int) (h : ByteArray) (s : Bool) (x : Int) : UBox (w.alloc (.cells #[.int .i64 k, .string h, .bool s, .int .i64 x] 36)) w.heap.size k h s x := heap_alloc_eq _ _ _ rfl

set_option maxRecDepth 100000 in
set_option maxHeartbeats 2000000 in
theorem up_valid (u : UpdV) (hu : u.p.h.length ≤ 1000000) (w : World) :
    Calls Tryz.prog 122 #[uv u] w fun e w' => e = .returned (.bool (Upt.valid u)) ∧ Ext w w' := by
  have HV := Lib.hid (fun W => pi_valid u.p hu W)
  have HN := Lib.hid (fun W => ho_validName u.p.h hu W)
  have hb0 := (Below.refl w.heap.size w).alloc (Nat.le_refl _) (.cells (uc u) 36)
  have hbx := UBox.new w u.k (str u.p.h) u.p.s u.p.x
  have hr : Upt.valid u = if u.k = 1 then Pin.valid u.p else if u.k = 2 then Host.name u.p.h && decide (u.p.s = false ∧ u.p.x = 0) else false := rfl
  obtain ⟨r, hrr⟩ : ∃ r, Upt.valid u = r := ⟨_, rfl⟩
  rw [hrr] at hr ⊢
  unfold uv
  unfold uc at hb0 ⊢
  unfold pv at HV
  obtain ⟨vb, hvb⟩ : ∃ b, Pin.valid u.p = b := ⟨_, rfl⟩
  obtain ⟨nb, hnb⟩ : ∃ b, Host.name u.p.h = b := ⟨_, rfl⟩
  rw [hvb] at HV hr
  rw [hnb] at HN hr
  obtain ⟨sh, hsh⟩ : ∃ s, str u.p.h = s := ⟨_, rfl⟩
  rw [hsh] at HV HN hb0 hbx ⊢
  obtain ⟨ps, hps⟩ : ∃ s, u.p.s = s := ⟨_, rfl⟩
  obtain ⟨px, hpx⟩ : ∃ s, u.p.x = s := ⟨_, rfl⟩
  obtain ⟨k, hk⟩ : ∃ k, u.k = k := ⟨_, rfl⟩
  rw [hps] at HV hr hb0 hbx ⊢
  rw [hpx] at HV hr hb0 hbx ⊢
  rw [hk] at hr hb0 hbx ⊢
  have hz : (w.alloc (.cells #[.int .i64 k, .string sh, .bool ps, .int .i64 px] 36)).heap.size = w.heap.size + 1 := by simp
  have HB0 := Lib.hid hb0
  have HBX := Lib.hid hbx
  have HZ := Lib.hid hz
  clear hrr hvb hnb hsh hps hpx hk hb0 hbx hz hu
  by_cases k1 : k = 1
  · rw [if_pos k1] at hr
    subst k1
    subst hr
    go_enter Tryz.func122, Tryz.ntmps122
    go_wp2_with fail
    refine (HV.out _).mono ?_; rintro e w1 ⟨rfl, hb1⟩
    rw [HZ.out] at hb1
    go_wp2_with fail
    go_ret
    exact ⟨rfl, HB0.out.trans (hb1.mono (Nat.le_succ _))⟩
  · rw [if_neg k1] at hr
    have t1 : (k == 1) = false := beq_eq_false_iff_ne.2 k1
    by_cases k2 : k = 2
    · rw [if_pos k2] at hr
      subst k2
      have HR := Lib.hid hr
      clear hr k1 t1
      cases nb with
      | false =>
        have hrf : r = false := by rw [HR.out]; rfl
        subst hrf
        go_enter Tryz.func122, Tryz.ntmps122
        go_wp2_with fail
        refine (HN.out _).mono ?_; rintro e w1 ⟨rfl, hb1⟩
        rw [HZ.out] at hb1
        have hP1 : UBox w1 w.heap.size 2 sh ps px := (hb1.block _ (Nat.lt_succ_self _)).trans HBX.out
        obtain ⟨q0, q1, q2, q3⟩ := hP1.cells
        have hlt := heap_lt hP1
        clear hP1
        go_wp2_with fail
        go_ret
        exact ⟨rfl, HB0.out.trans (hb1.mono (Nat.le_succ _))⟩
      | true =>
        have hrt : r = (!ps && px == 0) := by
          rw [HR.out, Bool.true_and]
          cases ps <;> by_cases h0 : px = 0 <;> simp [h0]
        have HRT := Lib.hid hrt
        clear hrt HR
        cases ps
        all_goals
          by_cases h0 : px = 0
          all_goals
            first
              | (have hrr : r = true := by rw [HRT.out, h0]; rfl)
              | (have hrr : r = false := by rw [HRT.out]; simp [h0])
            subst hrr
            first | subst h0 | skip
            go_enter Tryz.func122, Tryz.ntmps122
            go_wp2_with fail
            refine (HN.out _).mono ?_; rintro e w1 ⟨rfl, hb1⟩
            rw [HZ.out] at hb1
            have hP1 : UBox w1 w.heap.size 2 sh _ _ := (hb1.block _ (Nat.lt_succ_self _)).trans HBX.out
            obtain ⟨q0, q1, q2, q3⟩ := hP1.cells
            have hlt := heap_lt hP1
            clear hP1
            go_wp2_with fail
            go_ret
            exact ⟨rfl, HB0.out.trans (hb1.mono (Nat.le_succ _))⟩
    · rw [if_neg k2] at hr
      have t2 : (k == 2) = false := beq_eq_false_iff_ne.2 k2
      subst hr
      go_enter Tryz.func122, Tryz.ntmps122
      go_wp2_with fail
      go_ret
      exact ⟨rfl, HB0.out⟩

end Go.Proofs.YtmanejniepghlaaGreatDoor

/-
  The statements' helpers on slices of pins: SmallPins, OwnPins, Pins.
-/
namespace Go.Proofs.YtmanejniepghlaaGreatDoor
open Go.RowKit

set_option maxHeartbeats 2000000 in
set_option maxRecDepth 100000 in
theorem keep_smallPins (m : Nat) (a : Option Addr) (n c : Nat) (l : List Pin) (w : World) (h : SlN w a n c l) :
    Calls Tryz.prog 23 #[.slice a n c, .int .i64 (m : Nat)] w fun e w' => e = .returned (.bool (decide (n ≤ m) && l.all fun x => decide (x.h.length ≤ 300))) ∧ Below w.heap.size w w' := by
  have hle := h.le
  have HL := Lib.hid h.len
  obtain ⟨r, hr⟩ : ∃ r, r = (decide (n ≤ m) && l.all fun x => decide (x.h.length ≤ 300)) := ⟨_, rfl⟩
  rw [← hr]
  have HR := Lib.hid hr
  clear hr
  by_cases hnm : m < n
  · have i3 : (m : Int) < (n : Int) := by omega
    have hrf : r = false := by rw [HR.out, decide_eq_false (by omega)]; rfl
    subst hrf
    go_enter Tryz.func23, Tryz.ntmps23
    go_wp2_with fail
    go_ret
    exact ⟨rfl, Below.refl _ _⟩
  have i4 : ¬ (m : Int) < (n : Int) := by omega
  have HR2 := Lib.hid (show r = l.all fun x => decide (x.h.length ≤ 300) by rw [HR.out, decide_eq_true (by omega)]; rfl)
  go_enter Tryz.func23, Tryz.ntmps23
  go_wp2_with fail
  go_loopw [5] (fun i wr => ∃ k : Nat, k ≤ n ∧ i = .int .i64 k ∧ Hid (∀ x ∈ l.take k, x.h.length ≤ 300) ∧ Below w.heap.size w wr) (fun i _ => n - (intOf i).toNat)
  case atStart => exact ⟨0, Nat.zero_le _, rfl, Lib.hid (by simp), Below.refl _ _⟩
  case round =>
    obtain ⟨k, hk, rfl, HC, hB⟩ := hrel
    have i0 : (0 : Int) ≤ (k : Int) := by omega
    by_cases hlt : k < n
    · have i2 : (k : Int) < (n : Int) := by omega
      obtain ⟨bb, o, rfl, hbb, hkl, hcell, -, -⟩ := (h.ext hB).at hlt
      rw [List.getElem?_eq_getElem hkl, Option.getD_some] at hcell
      have HTK := Lib.hid (List.take_succ_eq_append_getElem hkl)
      have HMEM := Lib.hid (List.getElem_mem hkl)
      generalize l[k] = p at *
      have hps := strSize p.h
      obtain ⟨sp, hsp⟩ : ∃ sp, str p.h = sp := ⟨_, rfl⟩
      rw [hsp] at hcell hps
      clear hsp hkl
      by_cases hpm : p.h.length ≤ 300
      · have i3 : ¬ (300 : Int) < (p.h.length : Int) := by omega
        have HNX := Lib.hid (show ∀ x ∈ l.take (k + 1), x.h.length ≤ 300 by
          rw [HTK.out]; intro x hx
          rcases List.mem_append.1 hx with hx | hx
          · exact HC.out x hx
          · simp at hx; subst hx; exact hpm)
        go_wp2_with fail
        go_roundw
        case rel => exact ⟨k + 1, by omega, by go_num, HNX, hB⟩
        case measure => simp [intOf]; omega
      · have i3 : (300 : Int) < (p.h.length : Int) := by omega
        have hrf : r = false := by
          rw [HR2.out, List.all_eq_false]; exact ⟨p, HMEM.out, by simpa using hpm⟩
        subst hrf
        go_wp2_with fail
        go_ret
        exact ⟨rfl, hB⟩
    · obtain rfl : k = n := by omega
      have hrt : r = true := by
        rw [HR2.out, List.all_eq_true]; have := HC.out; rw [List.take_of_length_le (by rw [HL.out]; exact Nat.le_refl _)] at this; exact fun x hx => by simpa using this x hx
      subst hrt
      go_wp2_with fail
      go_ret
      exact ⟨rfl, hB⟩

end Go.Proofs.YtmanejniepghlaaGreatDoor

/-
  The reference's check of a list of pins (hstsstoreref23.Load).
-/
namespace Go.Proofs.YtmanejniepghlaaGreatDoor
open Go.RowKit

theorem chk_step (L : List Pin) (m k : Nat) {p : Pin} (h : L[k]? = some p) : Tab.chk L (m + 1) k = if Pin.valid p = false then 1 else if 0 < k ∧ 0 ≤ Host.cmp (L.getD (k - 1) Pin.none).h p.h then 8 else Tab.chk L m (k + 1) := by
  rw [Tab.chk, h]

end Go.Proofs.YtmanejniepghlaaGreatDoor

/-
  The search in a state: Apply$1, slices.BinarySearchFunc.
-/
namespace Go.Proofs.YtmanejniepghlaaGreatDoor
open Go.RowKit

set_option maxRecDepth 100000 in
theorem up_find1 (p : Pin) (t : List UInt8) (hp : p.h.length ≤ 1000000) (ht : t.length ≤ 1000000) (w : World) :
    Calls Tryz.prog 163 #[pv p, .string (str t)] w fun e w' => e = .returned (.int .i64 (Host.cmp p.h t)) ∧ Below w.heap.size w w' := by
  have HC := Lib.hid (fun W => pn_compare p.h t hp ht W)
  have hb0 := (Below.refl w.heap.size w).alloc (Nat.le_refl _) (.cells (pc p) 34)
  obtain ⟨ph, ps, px⟩ := p
  unfold pv
  unfold pc at hb0
  simp only at hb0 HC ⊢
  generalize str ph = sh at *
  generalize str t = st at *
  have HB0 := Lib.hid hb0
  clear hb0
  go_enter Tryz.func163, Tryz.ntmps163
  go_wp2_with fail
  refine (HC.out _).mono ?_; rintro e w1 ⟨rfl, hb1⟩
  go_wp2_with fail
  go_ret
  exact ⟨rfl, HB0.out.trans (hb1.mono HB0.out.size)⟩

set_option maxHeartbeats 4000000 in
set_option maxRecDepth 100000 in
theorem up_bsearch (a : Option Addr) (n c : Nat) (L : List Pin) (t : List UInt8) (w : World) (h : SlN w a n c L) (hn : n ≤ 1000000) (hA : Tab.Asc L) (hL : ∀ p ∈ L, p.h.length ≤ 1000000) (ht : t.length ≤ 1000000) :
    Calls Tryz.prog 162 #[.slice a n c, .string (str t), .func (.func 163) #[] #[]] w
      fun e w' => e = .returned (.tuple #[.int .i64 (Tab.lo L t : Nat), .bool (Tab.hit L t)]) ∧ Below w.heap.size w w' := by
  have HL := Lib.hid hL
  have HLN := Lib.hid h.len
  have HF := Lib.hid (fun p hp W => up_find1 p t hp ht W)
  have HLO := Lib.hid (fun (k : Nat) (p : Pin) (hk : L[k]? = some p) => Tab.lo_iff hA t hk)
  have HLE := Lib.hid (Tab.lo_le L t)
  obtain ⟨lo, hlo⟩ : ∃ lo, Tab.lo L t = lo := ⟨_, rfl⟩
  have HHI := Lib.hid (show Tab.hit L t = match L[lo]? with | some p => decide (p.h = t) | none => false by rw [← hlo]; rfl)
  rw [hlo] at HLO HLE ⊢
  generalize Tab.hit L t = hit at *
  obtain ⟨st, hst⟩ : ∃ st, str t = st := ⟨_, rfl⟩
  rw [hst] at HF ⊢
  clear hlo hst hA hL
  go_enter Tryz.func162, Tryz.ntmps162
  go_wp2_with fail
  go_loopw [9, 10] (fun i j wr => ∃ (i' j' : Nat), i = .int .i64 (i' : Nat) ∧ j = .int .i64 (j' : Nat) ∧ i' ≤ lo ∧ lo ≤ j' ∧ j' ≤ n ∧ Below w.heap.size w wr) (fun i j _ => (intOf j).toNat - (intOf i).toNat)
  case atStart => exact ⟨0, n, rfl, rfl, Nat.zero_le _, by have := HLE.out; rw [HLN.out] at this; exact this, Nat.le_refl _, Below.refl _ _⟩
  case round =>
    obtain ⟨i, j, rfl, rfl, h1, h2, h3, hB⟩ := hrel
    have i0 : (0 : Int) ≤ (i : Int) := by omega
    by_cases hij : i < j
    · have i1 : (i : Int) < (j : Int) := by omega
      obtain ⟨m, hm⟩ : ∃ m : Nat, (i + j) / 2 = m := ⟨_, rfl⟩
      have m1 : i ≤ m := by omega
      have m2 : m < j := by omega
      have m3 : m < n := by omega
      have m4 : (m : Int) < (n : Int) := by omega
      have m5 : (0 : Int) ≤ (m : Int) := by omega
      have e1 : ((i : Int) + (j : Int)) / 2 = (m : Int) := by omega
      have e2 : IntKind.u64.wrap ((i : Int) + (j : Int)) = (i : Int) + (j : Int) := by unfold IntKind.wrap; simp only [IntKind.bits, IntKind.signed]; simp; omega
      obtain ⟨bb, o, rfl, hbb, hkl, c1, c2, c3⟩ := (h.ext hB).at m3
      rw [List.getElem?_eq_getElem hkl, Option.getD_some] at c1 c2 c3
      have HMEM := Lib.hid (List.getElem_mem hkl)
      have HIF := Lib.hid (HLO.out m _ (List.getElem?_eq_getElem hkl))
      generalize L[m] = p at *
      have HFP := Lib.hid (fun W => HF.out p (HL.out p HMEM.out) W)
      obtain ⟨ph, ps, px⟩ := p
      unfold pv at HFP
      simp only at c1 c2 c3 HFP HIF
      generalize str ph = sh at *
      generalize Host.cmp ph t = cc at *
      clear hkl hm
      by_cases hcc : cc < 0
      · have hlm := HIF.out.1 hcc
        go_wp2_with fail
        refine (HFP.out _).mono ?_; rintro e w1 ⟨rfl, hb1⟩
        go_wp2_with fail
        go_roundw
        case rel => exact ⟨m + 1, j, by go_num, rfl, by omega, h2, h3, hB.trans (hb1.mono hB.size)⟩
        case measure => simp [intOf]; omega
      · have hlm : ¬ m < lo := fun e => hcc (HIF.out.2 e)
        go_wp2_with fail
        refine (HFP.out _).mono ?_; rintro e w1 ⟨rfl, hb1⟩
        go_wp2_with fail
        go_roundw
        case rel => exact ⟨i, m, rfl, rfl, h1, by omega, by omega, hB.trans (hb1.mono hB.size)⟩
        case measure => simp [intOf]; omega
    · obtain rfl : i = lo := by omega
      obtain rfl : j = i := by omega
      by_cases hjn : j < n
      · have m4 : (j : Int) < (n : Int) := by omega
        obtain ⟨bb, o, rfl, hbb, hkl, c1, c2, c3⟩ := (h.ext hB).at hjn
        rw [List.getElem?_eq_getElem hkl] at HHI
        rw [List.getElem?_eq_getElem hkl, Option.getD_some] at c1 c2 c3
        have HMEM := Lib.hid (List.getElem_mem hkl)
        generalize L[j] = p at *
        have HFP := Lib.hid (fun W => HF.out p (HL.out p HMEM.out) W)
        have hh2 : hit = (Host.cmp p.h t == 0) := by
          rw [HHI.out, Bool.eq_iff_iff]; simp only [decide_eq_true_eq, beq_iff_eq]
          exact ⟨fun e => by rw [e]; exact Host.cmp_self _, fun e => Host.cmp_eq e⟩
        obtain ⟨ph, ps, px⟩ := p
        unfold pv at HFP
        simp only at c1 c2 c3 HFP ⊢
        simp only at hh2
        generalize str ph = sh at *
        generalize Host.cmp ph t = cc at *
        have HH2 := Lib.hid hh2
        clear hkl hh2
        go_wp2_with fail
        refine (HFP.out _).mono ?_; rintro e w1 ⟨rfl, hb1⟩
        go_wp2_with fail
        go_ret2
        exact ⟨by rw [HH2.out]; rfl, hB.trans (hb1.mono hB.size)⟩
      · obtain rfl : j = n := by omega
        have hf : hit = false := by rw [HHI.out, List.getElem?_eq_none (by rw [HLN.out]; exact Nat.le_refl _)]
        subst hf
        go_wp2_with fail
        go_ret2
        exact ⟨rfl, hB⟩

end Go.Proofs.YtmanejniepghlaaGreatDoor

/-
  The walk through update.Encode.
-/
namespace Go.Proofs.YtmanejniepghlaaGreatDoor
open Go.RowKit

/-- What Encode returns. -/
def UEncP (u : UpdV) (w : World) (e : Ending) (w' : World) : Prop := ∃ v, e = .returned (.tuple #[v, .int .i64 (if Upt.valid u then 0 else 1)]) ∧ OwnB w.heap.size w' v (if Upt.valid u then Upt.enc u else []) ∧ Below w.heap.size w w'

set_option maxRecDepth 100000 in
set_option maxHeartbeats 4000000 in
theorem up_encode (u : UpdV) (hu : u.p.h.length ≤ 900) (w : World) :
    Calls Tryz.prog 61 #[uv u] w (UEncP u w) := by
  have HV := Lib.hid (fun W => up_valid u (by omega) W)
  have HE := Lib.hid (fun W => pi_encode u.p hu W)
  have HT := Lib.hid (fun a n c l W h hn => wi_appendText a n c l u.p.h (by omega) W h hn)
  have hb0 := (Below.refl w.heap.size w).alloc (Nat.le_refl _) (.cells (uc u) 36)
  have hbx := UBox.new w u.k (str u.p.h) u.p.s u.p.x
  have hvc : Upt.valid u = true → (u.k = 1 ∧ Pin.valid u.p = true) ∨ u.k = 2 := fun h => by
    rcases Upt.valid_cases h with ⟨h1, h2⟩ | ⟨h1, -, -⟩
    · exact .inl ⟨h1, h2⟩
    · exact .inr h1
  have he : Upt.enc u = if u.k = 2 then 2 :: Wire.txt u.p.h else 1 :: Pin.enc u.p := rfl
  have hel : Pin.valid u.p = true → (Pin.enc u.p).length ≤ 1000000 := fun h => by have := Pin.enc_len h; omega
  unfold UEncP
  unfold PEncP at HE
  obtain ⟨r, hrr⟩ : ∃ r, Upt.valid u = r := ⟨_, rfl⟩
  obtain ⟨E, hE⟩ : ∃ E, Upt.enc u = E := ⟨_, rfl⟩
  obtain ⟨pe, hpe⟩ : ∃ E, Pin.enc u.p = E := ⟨_, rfl⟩
  obtain ⟨te, hte⟩ : ∃ E, Wire.txt u.p.h = E := ⟨_, rfl⟩
  rw [hrr] at hvc HV ⊢
  rw [hE] at he ⊢
  rw [hpe] at he hel HE
  rw [hte] at he HT
  unfold uv at HV ⊢
  unfold uc at hb0 HV ⊢
  unfold pv at HE
  obtain ⟨vb, hvb⟩ : ∃ b, Pin.valid u.p = b := ⟨_, rfl⟩
  rw [hvb] at HE hvc hel
  obtain ⟨sh, hsh⟩ : ∃ s, str u.p.h = s := ⟨_, rfl⟩
  rw [hsh] at HV HE HT hb0 hbx ⊢
  obtain ⟨ps, hps⟩ : ∃ s, u.p.s = s := ⟨_, rfl⟩
  obtain ⟨px, hpx⟩ : ∃ s, u.p.x = s := ⟨_, rfl⟩
  obtain ⟨k, hk⟩ : ∃ k, u.k = k := ⟨_, rfl⟩
  rw [hps] at HV HE hb0 hbx ⊢
  rw [hpx] at HV HE hb0 hbx ⊢
  rw [hk] at hvc he HV hb0 hbx ⊢
  have hz : (w.alloc (.cells #[.int .i64 k, .string sh, .bool ps, .int .i64 px] 36)).heap.size = w.heap.size + 1 := by simp
  have HB0 := Lib.hid hb0
  have HBX := Lib.hid hbx
  have HZ := Lib.hid hz
  have HEL := Lib.hid hel
  have HEE := Lib.hid he
  clear hrr hE hpe hte hvb hsh hps hpx hk hb0 hbx hz hu he hel
  cases r with
  | false =>
    clear hvc
    go_enter Tryz.func61, Tryz.ntmps61
    go_wp2_with fail
    refine (HV.out _).mono ?_; rintro e w1 ⟨rfl, hB1⟩
    unfold Ext at hB1; rw [HZ.out] at hB1
    go_wp2_with fail
    go_ret2
    exact ⟨_, rfl, OwnB.nil _ _, HB0.out.trans (hB1.mono (Nat.le_succ _))⟩
  | true =>
    rcases hvc rfl with ⟨rfl, rfl⟩ | rfl
    · clear hvc
      have wk : IntKind.u8.wrap 1 = 1 := rfl
      go_enter Tryz.func61, Tryz.ntmps61
      go_wp2_with fail
      refine (HV.out _).mono ?_; rintro e w1 ⟨rfl, hB1⟩
      unfold Ext at hB1; rw [HZ.out] at hB1
      have hP1 : UBox w1 w.heap.size 1 sh ps px := (hB1.block _ (Nat.lt_succ_self _)).trans HBX.out
      obtain ⟨q0, q1, q2, q3⟩ := hP1.cells
      have hlt := heap_lt hP1
      have hz2 : w.heap.size < w1.heap.size := hlt
      have hbW := (Below.refl w1.heap.size w1).alloc (Nat.le_refl _) (.cells #[.int .u8 1] 5)
      have hoW : OwnB w.heap.size (w1.alloc (.cells #[.int .u8 1] 5)) (.slice (some ⟨w1.heap.size, 0, none⟩) 1 1) [1] := OwnB.built w1 [1] (Nat.le_of_lt hz2) (by unfold maxLen; simp)
      obtain ⟨W2, hW2⟩ : ∃ W2, w1.alloc (.cells #[.int .u8 1] 5) = W2 := ⟨_, rfl⟩
      rw [hW2] at hbW hoW
      obtain ⟨q0, q1, q2, q3⟩ := (hP1.ext hbW).cells
      have hlt2 := heap_lt (hP1.ext hbW)
      have HW2 := Lib.hid hW2
      have HOW := Lib.hid hoW
      have HBW := Lib.hid (HB0.out.trans ((hB1.mono (Nat.le_succ _)).trans (hbW.mono (Nat.le_of_lt hz2))))
      obtain ⟨p0, p1, p2, p3⟩ := hP1.cells
      clear hW2 hoW hbW hP1
      go_wp2_with fail
      rw [HW2.out]
      go_wp2_with fail
      refine (HE.out _).mono ?_; rintro e w2 ⟨v2, rfl, ho2, hB2⟩
      rw [if_pos trivial] at ho2
      obtain ⟨a2, c2, hv2, hs2, -⟩ := ho2.sl
      subst hv2
      have HS2 := Lib.hid hs2
      have HO2 := Lib.hid (HOW.out.ext hB2)
      clear ho2 hs2
      go_wp2_with (at_builtin; refine wpList_append_bytes rfl _ _ rfl w.heap.size _ [1] rfl HO2.out a2 _ c2 pe rfl HS2.out (by have := HEL.out (by first | rfl | trivial); simp; omega) (by have := hB2.size; omega) ?_; intro v3 w3 ho3 hg3 _)
      go_ret2
      exact ⟨_, rfl, by rw [HEE.out, if_neg (by decide)]; exact ho3, (HBW.out.trans (hB2.mono HBW.out.size)).grown hg3 (by have := HBW.out.size; have := hB2.size; omega) (fun k hk => (HO2.out.lt k hk).1)⟩
    · clear hvc
      have wk : IntKind.u8.wrap 2 = 2 := rfl
      go_enter Tryz.func61, Tryz.ntmps61
      go_wp2_with fail
      refine (HV.out _).mono ?_; rintro e w1 ⟨rfl, hB1⟩
      unfold Ext at hB1; rw [HZ.out] at hB1
      have hP1 : UBox w1 w.heap.size 2 sh ps px := (hB1.block _ (Nat.lt_succ_self _)).trans HBX.out
      have hz2 : w.heap.size < w1.heap.size := heap_lt hP1
      have hbW := (Below.refl w1.heap.size w1).alloc (Nat.le_refl _) (.cells #[.int .u8 2] 5)
      have hoW : SlB (w1.alloc (.cells #[.int .u8 2] 5)) (some ⟨w1.heap.size, 0, none⟩) 1 1 [2] := SlB.one w1 2 _
      obtain ⟨W2, hW2⟩ : ∃ W2, w1.alloc (.cells #[.int .u8 2] 5) = W2 := ⟨_, rfl⟩
      rw [hW2] at hbW hoW
      obtain ⟨q0, q1, q2, q3⟩ := (hP1.ext hbW).cells
      have hlt2 := heap_lt (hP1.ext hbW)
      have HW2 := Lib.hid hW2
      have HOW := Lib.hid hoW
      have HBW := Lib.hid (HB0.out.trans ((hB1.mono (Nat.le_succ _)).trans (hbW.mono (Nat.le_of_lt hz2))))
      obtain ⟨p0, p1, p2, p3⟩ := hP1.cells
      clear hW2 hoW hbW hP1
      go_wp2_with fail
      rw [HW2.out]
      go_wp2_with fail
      refine (HT.out _ _ _ _ _ HOW.out (by omega)).mono ?_; rintro e w2 ⟨v2, rfl, ho2, hB2⟩
      have HO2 := Lib.hid ho2
      clear ho2
      go_wp2_with fail
      go_ret2
      exact ⟨_, rfl, by rw [HEE.out]; simp only [↓reduceIte]; exact HO2.out.mono HBW.out.size, HBW.out.trans (hB2.mono HBW.out.size)⟩

end Go.Proofs.YtmanejniepghlaaGreatDoor
