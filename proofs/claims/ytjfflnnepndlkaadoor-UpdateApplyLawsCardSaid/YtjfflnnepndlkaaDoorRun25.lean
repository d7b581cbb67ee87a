/-
  Texts in one: Pin, Pins, PinK, PinDec, PinL1.
-/
import Derived.Test.YtjfflnnepndlkaaDoorRun24
import Derived.Test.YtjfflnnepndlkaaDoorRun6
import Derived.Deep.RegionHeld3
import Derived.Laws.AppendOwnNone
import Derived.OwnWalk
import Derived.Lib.SlBytesConst
/-
  The walks through the package pin: Valid, Encode, Decode.
-/
namespace Go.Proofs.YtjfflnnepndlkaaDoor
open Go.RowKit

/-- A pin as a value. -/
def pv (p : Pin) : Value := .agg #[.string (str p.h), .bool p.s, .int .i64 p.x]
/-- The cells of a pin. -/
def pc (p : Pin) : Array Value := #[.string (str p.h), .bool p.s, .int .i64 p.x]
def ibx (z : Int) : Prop := -9223372036854775808 ≤ z ∧ z ≤ 9223372036854775807

theorem SlB.from {w : World} {a : Option Addr} {n c : Nat} {l : List UInt8} (h : SlB w a n c l) {k : Nat} (hk : k ≤ n) : SlB w (if c = k then a else a.map (·.add k)) (n - k) (c - k) (l.drop k) := by
  obtain ⟨hl, hn, hc, h0, h1⟩ := h
  refine ⟨by simp; omega, by omega, by omega, fun e => ?_, fun x hx i hi => ?_⟩
  · have : a = none := by
      split at e
      · exact e
      · cases a with
        | none => rfl
        | some y => cases e
    obtain ⟨e1, e2⟩ := h0 this
    simp [e1, e2]
  · have hi' : k + i < l.length := by simp at hi; omega
    cases a with
    | none => split at hx <;> cases hx
    | some y =>
      obtain ⟨hs, hb, hcl⟩ := h1 y rfl (k + i) hi'
      have : x = ⟨y.block, y.off + k, none⟩ := by
        split at hx
        · exfalso; omega
        · obtain ⟨yb, yo, ys⟩ := y
          simp only at hs; subst hs
          cases hx; unfold Addr.add; split <;> simp_all
      subst this
      refine ⟨rfl, hb, ?_⟩
      simp only [Nat.add_assoc]
      rw [hcl]; simp

set_option maxRecDepth 100000 in
theorem wpList_from {w : World} {ops : Array Oper} {rest : List Oper} {o : Oper} {ac : Act} {Q : Exit → Act → World → Prop} (hg : o.guard = none) (x y : Operand) (hop : o.op = Op.slice 39 x (some y) none none)
    {a : Option Addr} {n c : Nat} {l : List UInt8} (hx : ac.eval x = .slice a n c) (m : Nat) (M : Int) (hM : M = (m : Int)) (hy : ac.eval y = .int .i64 M) (h : SlB w a n c l) (hm : m ≤ n)
    (hK : ∀ a2, SlB w a2 (n - m) (c - m) (l.drop m) → wpList Tryd.prog ops Q rest (ac.put o.dst (.slice a2 (n - m) (c - m))) w) : wpList Tryd.prog ops Q (o :: rest) ac w := by
  subst hM
  have hrun : (Instr.sliceAt 39 (.slice a n c) (some (.int .i64 (m : Int))) none none).run Tryd.prog w = .ok (.slice (if c = m then a else a.map (·.add m)) (n - m) (c - m)) w := by
    have e1 := run_sliceAt_slice (P := Tryd.prog) (w := w) 39 (.slice a n c) (some (.int .i64 (m : Int))) none none Tryd.underlying39
    have e2 := run_slice_l (P := Tryd.prog) (w := w) 39 a n c Tryd.underlying39 .i64 (m : Int) (by omega) (by omega)
    rw [e1, e2]
    simp [go_sem, sliced]
  refine wpList_plain hg fun K hK' => ?_
  unfold Oper.wp
  simp [execOp, hop, hx, hy, hrun, Result.andThen]
  exact hK' _ _ (hK _ (h.from hm))

namespace Pin
theorem valid_of {p : Pin} {b : Bool} (h : Host.name p.h = b) : valid p = (b && (decide (0 ≤ p.x) && decide (p.x ≤ 1099511627776))) := by unfold valid; rw [h]
end Pin

set_option maxRecDepth 100000 in
set_option maxHeartbeats 2000000 in
theorem pi_valid (p : Pin) (hp : p.h.length ≤ 1000000) (w : World) :
    Calls Tryd.prog 35 #[pv p] w fun e w' => e = .returned (.bool (Pin.valid p)) ∧ Below w.heap.size w w' := by
  have HV := Lib.hid (fun W => ho_validName p.h hp W)
  have hb0 := (Below.refl w.heap.size w).alloc (Nat.le_refl _) (.cells (pc p) 26)
  have hrow : (w.alloc (.cells (pc p) 26)).heap[w.heap.size]? = some (.cells (pc p) 26 (0, 0)) := heap_alloc_eq _ _ _ rfl
  have hz0 : (w.alloc (.cells (pc p) 26)).heap.size = w.heap.size + 1 := by simp
  have HPV := Lib.hid (fun b (h : Host.name p.h = b) => Pin.valid_of h)
  obtain ⟨ph, ps, px⟩ := p
  unfold pv
  unfold pc at hb0 hrow hz0
  simp only at HV hb0 hrow hz0 HPV ⊢
  obtain ⟨nb, hnb⟩ : ∃ b, Host.name ph = b := ⟨_, rfl⟩
  rw [hnb] at HV
  have HPV2 := Lib.hid (HPV.out _ hnb)
  clear HPV hnb
  obtain ⟨sh, hsh⟩ : ∃ s, str ph = s := ⟨_, rfl⟩
  rw [hsh] at HV hb0 hrow hz0 ⊢
  have HB0 := Lib.hid (And.intro hb0 (And.intro hrow hz0))
  clear hsh hb0 hrow hz0
  cases nb with
  | false =>
    go_enter Tryd.func35, Tryd.ntmps35
    go_wp2_with fail
    refine (HV.out _).mono ?_; rintro e w1 ⟨rfl, hB1⟩
    rw [HB0.out.2.2] at hB1
    go_wp2_with fail
    go_ret
    exact ⟨by rw [HPV2.out]; rfl, HB0.out.1.trans (hB1.mono (Nat.le_succ _))⟩
  | true =>
    by_cases h0 : px < 0
    · have HF := Lib.hid (show Pin.valid ⟨ph, ps, px⟩ = false by rw [HPV2.out, decide_eq_false (show ¬ 0 ≤ px by omega)]; rfl)
      have t1 : ¬ 0 ≤ px := by omega
      go_enter Tryd.func35, Tryd.ntmps35
      go_wp2_with fail
      refine (HV.out _).mono ?_; rintro e w1 ⟨rfl, hB1⟩
      rw [HB0.out.2.2] at hB1
      have c2 : w1.cell? ⟨w.heap.size, 2, none⟩ = some (.int .i64 px) := (hB1.cell (p := ⟨w.heap.size, 2, none⟩) (Nat.lt_succ_self _)).trans ((cell_of_row _ _ _ _ _ _ HB0.out.2.1).trans rfl)
      go_wp2_with fail
      go_ret
      exact ⟨by rw [HF.out]; rfl, HB0.out.1.trans (hB1.mono (Nat.le_succ _))⟩
    · have t1 : 0 ≤ px := by omega
      have HF := Lib.hid (show Pin.valid ⟨ph, ps, px⟩ = decide (px ≤ 1099511627776) by rw [HPV2.out, decide_eq_true t1]; rfl)
      go_enter Tryd.func35, Tryd.ntmps35
      go_wp2_with fail
      refine (HV.out _).mono ?_; rintro e w1 ⟨rfl, hB1⟩
      rw [HB0.out.2.2] at hB1
      have c2 : w1.cell? ⟨w.heap.size, 2, none⟩ = some (.int .i64 px) := (hB1.cell (p := ⟨w.heap.size, 2, none⟩) (Nat.lt_succ_self _)).trans ((cell_of_row _ _ _ _ _ _ HB0.out.2.1).trans rfl)
      go_wp2_with fail
      go_ret
      exact ⟨by rw [HF.out]; rfl, HB0.out.1.trans (hB1.mono (Nat.le_succ _))⟩

theorem wi_appendUintZ (a : Option Addr) (n c : Nat) (l : List UInt8) (x : Nat) (z : Int) (hz : z = (x : Int)) (hx : x < 18446744073709551616) (w : World) (h : SlB w a n c l) (hn : n ≤ 1000000) :
    Calls Tryd.prog 38 #[.slice a n c, .int .u64 z] w fun e w' => ∃ v, e = .returned v ∧ OwnB w.heap.size w' v (l ++ Wire.enc x) ∧ Below w.heap.size w w' := by
  subst hz; exact wi_appendUint a n c l x hx w h (by omega)

/-- What Encode returns. -/
def PEncP (p : Pin) (w : World) (e : Ending) (w' : World) : Prop := ∃ v, e = .returned (.tuple #[v, .int .i64 (if Pin.valid p then 0 else 1)]) ∧ OwnB w.heap.size w' v (if Pin.valid p then Pin.enc p else []) ∧ Below w.heap.size w w'

set_option maxRecDepth 100000 in
set_option maxHeartbeats 4000000 in
theorem pi_encode (p : Pin) (hp : p.h.length ≤ 900) (w : World) :
    Calls Tryd.prog 39 #[pv p] w (PEncP p w) := by
  have HV := Lib.hid (fun W => pi_valid p (by omega) W)
  have hb0 := (Below.refl w.heap.size w).alloc (Nat.le_refl _) (.cells (pc p) 26)
  have hrow : (w.alloc (.cells (pc p) 26)).heap[w.heap.size]? = some (.cells (pc p) 26 (0, 0)) := heap_alloc_eq _ _ _ rfl
  have hz0 : (w.alloc (.cells (pc p) 26)).heap.size = w.heap.size + 1 := by simp
  have HVI := Lib.hid ((Pin.valid_iff p).1)
  have HTX := Lib.hid (fun W => wi_appendText none 0 0 [] p.h (by omega) W (by exact ⟨rfl, Nat.le_refl _, by unfold maxLen; omega, fun _ => ⟨rfl, rfl⟩, fun x hx => by cases hx⟩) (by omega))
  have HEN := Lib.hid (show Pin.enc p = Wire.txt p.h ++ (Wire.enc (if p.s then 1 else 0) ++ Wire.enc p.x.toNat) from rfl)
  have HTL := Lib.hid (show (Wire.txt p.h).length ≤ 1000 by
    have := Wire.enc_len (v := p.h.length) (by omega); unfold Wire.txt; rw [List.length_append]; omega)
  unfold PEncP
  obtain ⟨ok, hok⟩ : ∃ b, Pin.valid p = b := ⟨_, rfl⟩
  rw [hok] at HV HVI ⊢
  clear hok
  obtain ⟨ph, ps, px⟩ := p
  unfold pv at HV ⊢
  unfold pc at hb0 hrow hz0
  simp only at HV hb0 hrow hz0 HVI HTX HEN HTL ⊢
  obtain ⟨sh, hsh⟩ : ∃ s, str ph = s := ⟨_, rfl⟩
  rw [hsh] at HV hb0 hrow hz0 HTX ⊢
  have HB0 := Lib.hid (And.intro hb0 (And.intro hrow hz0))
  clear hsh hb0 hrow hz0
  cases ok with
  | false =>
    go_enter Tryd.func39, Tryd.ntmps39
    go_wp2_with fail
    refine (HV.out _).mono ?_; rintro e w1 ⟨rfl, hB1⟩
    rw [HB0.out.2.2] at hB1
    go_wp2_with fail
    go_ret2
    exact ⟨_, rfl, OwnB.nil _ _, HB0.out.1.trans (hB1.mono (Nat.le_succ _))⟩
  | true =>
    obtain ⟨-, x0, x1⟩ := HVI.out rfl
    have wx : IntKind.u64.wrap px = ((px.toNat : Nat) : Int) := by unfold IntKind.wrap; simp only [IntKind.bits, IntKind.signed]; simp; omega
    go_enter Tryd.func39, Tryd.ntmps39
    go_wp2_with fail
    refine (HV.out _).mono ?_; rintro e w1 ⟨rfl, hB1⟩
    rw [HB0.out.2.2] at hB1
    have hB01 := HB0.out.1.trans (hB1.mono (Nat.le_succ _))
    have hlt1 : w.heap.size < w1.heap.size := by have := hB1.size; rw [HB0.out.2.2] at this; omega
    have hcs : ∀ w', Below w1.heap.size w1 w' → w'.cell? ⟨w.heap.size, 0, none⟩ = some (.string sh) ∧ w'.cell? ⟨w.heap.size, 1, none⟩ = some (.bool ps) ∧ w'.cell? ⟨w.heap.size, 2, none⟩ = some (.int .i64 px) := by
      intro w' hb
      have hbk : w'.heap[w.heap.size]? = some (.cells #[.string sh, .bool ps, .int .i64 px] 26 (0, 0)) := (hb.block _ hlt1).trans ((hB1.block _ (Nat.lt_succ_self _)).trans HB0.out.2.1)
      exact ⟨(cell_of_row _ _ _ _ _ _ hbk).trans rfl, (cell_of_row _ _ _ _ _ _ hbk).trans rfl, (cell_of_row _ _ _ _ _ _ hbk).trans rfl⟩
    obtain ⟨c0, c1, c2⟩ := hcs w1 (Below.refl _ _)
    have HCS := Lib.hid (fun w' hb => (hcs w' hb).1)
    have HCS2 := Lib.hid (fun w' hb => (hcs w' hb).2.2)
    clear hcs
    have HSU := Lib.hid (show (Wire.enc (if ps then 1 else 0)).length ≤ 10 from (Wire.enc_len (v := if ps then 1 else 0) (by split <;> omega)).2)
    obtain ⟨sub, hsub⟩ : ∃ sub : Nat, (if ps then 1 else 0) = sub := ⟨_, rfl⟩
    rw [hsub] at HEN HSU
    have hsb : sub < 18446744073709551616 := by rw [← hsub]; split <;> decide
    have HSB := Lib.hid (And.intro hsub hsb)
    clear hsub hsb
    cases ps
    all_goals
      go_wp2_with fail
      go_region_held3 (fun w' => w'.cell? ⟨w.heap.size, 0, none⟩ = some (.string sh) ∧ w'.cell? ⟨w.heap.size, 2, none⟩ = some (.int .i64 px)) (first | exact ⟨c0, c2⟩ | exact ⟨HCS.out _ hD3, HCS2.out _ hD3⟩ | exact ⟨HCS.out _ hD2, HCS2.out _ hD2⟩ | exact ⟨HCS.out _ hD1, HCS2.out _ hD1⟩) (first
        | (go_at_call 49; go_must (refine (HTX.out _).mono ?_); rintro e y1 ⟨v1, rfl, hO1, hb1⟩; have hD1 : Below w1.heap.size w1 y1 := (Below.drew (Below.refl _ _)).trans hb1; rw [List.nil_append] at hO1; obtain ⟨a1, k1, rfl, hs1, -⟩ := hO1.sl)
        | (go_at_call_of 38 (Value.slice a1 (Wire.txt ph).length k1); go_must (refine (wi_appendUintZ _ _ _ _ sub _ (by rw [← HSB.out.1]; rfl) HSB.out.2 _ hs1 (by have := HTL.out; omega)).mono ?_); rintro e y2 ⟨v2, rfl, hO2, hb2⟩; have hD2 : Below w1.heap.size w1 y2 := hD1.trans (hb2.mono hD1.size); obtain ⟨a2, k2, rfl, hs2, -⟩ := hO2.sl; obtain ⟨L2, hL2⟩ : ∃ n, (Wire.txt ph ++ Wire.enc sub).length = n := ⟨_, rfl⟩; rw [hL2] at hs2 ⊢; have hL2b : L2 ≤ 1000000 := (by have := HTL.out; have := HSU.out; rw [List.length_append] at hL2; omega); clear hL2)
        | (go_at_call_of 38 (Value.slice a2 L2 k2); go_must (refine (wi_appendUintZ _ _ _ _ px.toNat _ (by first | exact wx | rfl | omega) (by omega) _ hs2 hL2b).mono ?_); rintro e y3 ⟨v3, rfl, hO3, hb3⟩; have hD3 : Below w1.heap.size w1 y3 := hD2.trans (hb3.mono hD2.size)))
      go_wp2_with fail
      go_ret2
      have h9 := hO3.mono (Nat.le_trans hB01.size hD2.size)
      rw [List.append_assoc, ← HEN.out] at h9
      exact ⟨_, rfl, h9, hB01.trans (hD3.mono hB01.size)⟩

/-- What Decode returns. -/
def PDecP (b : List UInt8) (w : World) (e : Ending) (w' : World) : Prop := e = .returned (.tuple #[pv (Pin.dec b).1, .int .i64 ((Pin.dec b).2.1 : Nat), .int .i64 (Pin.dec b).2.2]) ∧ Below w.heap.size w w'
theorem PDecP.of {b : List UInt8} {q : Pin} {n : Nat} {z : Int} (h : Pin.dec b = (q, n, z)) {w : World} {e : Ending} {w' : World} (he : e = .returned (.tuple #[.agg (pc q), .int .i64 (n : Nat), .int .i64 z])) (hb : Below w.heap.size w w') : PDecP b w e w' := by
  unfold PDecP; rw [h]; exact ⟨he, hb⟩

namespace Pin
theorem dec_a {b t : List UInt8} {n1 : Nat} {z1 : Int} (h1 : Wire.decT b = (t, n1, z1)) (hz : z1 ≠ 0) : dec b = (none, 0, z1) := by unfold dec; rw [h1]; rw [if_pos hz]
theorem dec_b {b t : List UInt8} {n1 n2 v2 : Nat} {z2 : Int} (h1 : Wire.decT b = (t, n1, 0)) (h2 : Wire.dec (b.drop n1) = (v2, n2, z2)) (hz : z2 ≠ 0) : dec b = (none, 0, z2) := by
  unfold dec; rw [h1]; rw [if_neg (by simp)]; unfold decR; rw [h2]; rw [if_pos hz]
theorem dec_c {b t : List UInt8} {n1 n2 v2 : Nat} (h1 : Wire.decT b = (t, n1, 0)) (h2 : Wire.dec (b.drop n1) = (v2, n2, 0)) (hz : 1 < v2) : dec b = (none, 0, 6) := by
  unfold dec; rw [h1]; rw [if_neg (by simp)]; unfold decR; rw [h2]; rw [if_neg (by simp), if_pos hz]
theorem dec_d {b t : List UInt8} {n1 n2 v2 n3 v3 : Nat} {z3 : Int} (h1 : Wire.decT b = (t, n1, 0)) (h2 : Wire.dec (b.drop n1) = (v2, n2, 0)) (hv : ¬ 1 < v2) (h3 : Wire.dec (b.drop (n1 + n2)) = (v3, n3, z3)) (hz : z3 ≠ 0) : dec b = (none, 0, z3) := by
  unfold dec; rw [h1]; rw [if_neg (by simp)]; unfold decR; rw [h2]; rw [if_neg (by simp), if_neg hv]; dsimp only; rw [h3]; rw [if_pos hz]
theorem dec_e {b t : List UInt8} {n1 n2 v2 n3 v3 : Nat} (h1 : Wire.decT b = (t, n1, 0)) (h2 : Wire.dec (b.drop n1) = (v2, n2, 0)) (hv : ¬ 1 < v2) (h3 : Wire.dec (b.drop (n1 + n2)) = (v3, n3, 0)) (hz : 1099511627776 < v3) : dec b = (none, 0, 2) := by
  unfold dec; rw [h1]; rw [if_neg (by simp)]; unfold decR; rw [h2]; rw [if_neg (by simp), if_neg hv]; dsimp only; rw [h3]; rw [if_neg (by simp), if_pos hz]
theorem dec_f {b t : List UInt8} {n1 n2 v2 n3 v3 : Nat} (h1 : Wire.decT b = (t, n1, 0)) (h2 : Wire.dec (b.drop n1) = (v2, n2, 0)) (hv : ¬ 1 < v2) (h3 : Wire.dec (b.drop (n1 + n2)) = (v3, n3, 0)) (hz : ¬ 1099511627776 < v3) (hn : Host.name t = false) : dec b = (none, 0, 14) := by
  unfold dec; rw [h1]; rw [if_neg (by simp)]; unfold decR; rw [h2]; rw [if_neg (by simp), if_neg hv]; dsimp only; rw [h3]; rw [if_neg (by simp), if_neg hz, if_pos hn]
theorem dec_g {b t : List UInt8} {n1 n2 v2 n3 v3 : Nat} (h1 : Wire.decT b = (t, n1, 0)) (h2 : Wire.dec (b.drop n1) = (v2, n2, 0)) (hv : ¬ 1 < v2) (h3 : Wire.dec (b.drop (n1 + n2)) = (v3, n3, 0)) (hz : ¬ 1099511627776 < v3) (hn : Host.name t = true) : dec b = (⟨t, decide (v2 = 1), (v3 : Int)⟩, n1 + n2 + n3, 0) := by
  unfold dec; rw [h1]; rw [if_neg (by simp)]; unfold decR; rw [h2]; rw [if_neg (by simp), if_neg hv]; dsimp only; rw [h3]; rw [if_neg (by simp), if_neg hz, if_neg (by simp [hn])]
end Pin

end Go.Proofs.YtjfflnnepndlkaaDoor

/-
  Slices of pins: what they read as; slices that the call itself made; append; slices.Clone.
-/
namespace Go.Proofs.YtjfflnnepndlkaaDoor
open Go.RowKit

/-- The three cells of a pin. -/
def pl (p : Pin) : List Value := [.string (str p.h), .bool p.s, .int .i64 p.x]
/-- At this place of this block lies the pin. -/
def PinAt (w : World) (b o : Nat) (p : Pin) : Prop := w.cell? ⟨b, o, none⟩ = some (.string (str p.h)) ∧ w.cell? ⟨b, o + 1, none⟩ = some (.bool p.s) ∧ w.cell? ⟨b, o + 2, none⟩ = some (.int .i64 p.x)
/-- The slice reads as the pins l. -/
def SlN (w : World) (a : Option Addr) (n c : Nat) (l : List Pin) : Prop :=
  l.length = n ∧ n ≤ c ∧ c ≤ maxLen ∧ (a = none → l = [] ∧ c = 0) ∧
    ∀ x, a = some x → ∀ i (h : i < l.length), x.spot = none ∧ x.block < w.heap.size ∧ PinAt w x.block (x.off + i * 3) l[i]
theorem SlN.len {w : World} {a : Option Addr} {n c : Nat} {l : List Pin} (h : SlN w a n c l) : l.length = n := h.1
theorem SlN.le {w : World} {a : Option Addr} {n c : Nat} {l : List Pin} (h : SlN w a n c l) : n ≤ 9223372036854775807 := by
  have := h.2.1; have := h.2.2.1; unfold maxLen at *; omega
theorem SlN.nil (w : World) : SlN w none 0 0 [] := ⟨rfl, Nat.le_refl _, by unfold maxLen; omega, fun _ => ⟨rfl, rfl⟩, fun x hx => by cases hx⟩
theorem SlN.at {w : World} {a : Option Addr} {n c : Nat} {l : List Pin} (h : SlN w a n c l) {k : Nat} (hk : k < n) :
    ∃ b o, a = some ⟨b, o, none⟩ ∧ b < w.heap.size ∧ k < l.length ∧ PinAt w b (o + k * 3) (l[k]?.getD Pin.none) := by
  obtain ⟨hl, hn, hc, h0, h1⟩ := h
  cases a with
  | none => have := (h0 rfl).1; subst this; simp at hl; omega
  | some x =>
    obtain ⟨b, o, sp⟩ := x
    have hk' : k < l.length := by omega
    obtain ⟨hs, hb, hi⟩ := h1 _ rfl k hk'
    simp only at hs; subst hs
    refine ⟨b, o, rfl, hb, hk', ?_⟩
    rw [List.getElem?_eq_getElem hk']
    exact hi
theorem PinAt.stay {w w' : World} {b o : Nat} {p : Pin} (h : PinAt w b o p) (e : w'.heap[b]? = w.heap[b]?) : PinAt w' b o p :=
  ⟨(World.cell?_of_block (a := ⟨b, o, none⟩) e).trans h.1, (World.cell?_of_block (a := ⟨b, o + 1, none⟩) e).trans h.2.1, (World.cell?_of_block (a := ⟨b, o + 2, none⟩) e).trans h.2.2⟩
theorem SlN.stay {w w' : World} {a : Option Addr} {n c : Nat} {l : List Pin} (h : SlN w a n c l) (e : ∀ x, a = some x → l ≠ [] → w'.heap[x.block]? = w.heap[x.block]?) (hz : w.heap.size ≤ w'.heap.size) : SlN w' a n c l := by
  obtain ⟨hl, hn, hc, h0, h1⟩ := h
  refine ⟨hl, hn, hc, h0, fun x hx i hi => ?_⟩
  obtain ⟨hs, hb, hi1⟩ := h1 x hx i hi
  exact ⟨hs, Nat.lt_of_lt_of_le hb hz, hi1.stay (e x hx (by rintro rfl; simp at hi))⟩
theorem SlN.ext {w w' : World} {a : Option Addr} {n c : Nat} {l : List Pin} (h : SlN w a n c l) (e : Below w.heap.size w w') : SlN w' a n c l :=
  h.stay (fun x hx hl => e.block _ ((h.2.2.2.2 x hx 0 (List.length_pos_iff.2 hl)).2.1)) e.size
theorem SlN.take {w : World} {a : Option Addr} {n c : Nat} {l : List Pin} (h : SlN w a n c l) {k : Nat} (hk : k ≤ n) : SlN w a k c (l.take k) := by
  obtain ⟨hl, hn, hc, h0, h1⟩ := h
  refine ⟨by simp; omega, by omega, hc, fun e => by simp [h0 e], fun x hx i hi => ?_⟩
  have hi' : i < l.length := by simp at hi; omega
  obtain ⟨hs, hb, hcl⟩ := h1 x hx i hi'
  exact ⟨hs, hb, by rw [List.getElem_take]; exact hcl⟩

theorem flat_pl_length (l : List Pin) : (l.flatMap pl).length = l.length * 3 := by
  induction l with
  | nil => rfl
  | cons a l ih => simp [pl, ih]; omega
theorem flat_pl_get (l : List Pin) (i : Nat) (hi : i < l.length) : (l.flatMap pl)[i * 3]? = some (.string (str l[i].h)) ∧ (l.flatMap pl)[i * 3 + 1]? = some (.bool l[i].s) ∧ (l.flatMap pl)[i * 3 + 2]? = some (.int .i64 l[i].x) := by
  induction l generalizing i with
  | nil => simp at hi
  | cons a l ih =>
    cases i with
    | zero => exact ⟨rfl, rfl, rfl⟩
    | succ i =>
      have := ih i (by simpa using hi)
      rw [List.flatMap_cons, show (i + 1) * 3 = (i * 3) + 3 by omega]
      simpa [pl] using this

/-- The slice value v is the call's own, in a block from base on, and holds the pins l. -/
def OwnN (base : Nat) (w : World) (v : Value) (l : List Pin) : Prop := w.ownsRow base 26 3 v l.length (l.flatMap pl)
theorem OwnN.sl {base : Nat} {w : World} {v : Value} {l : List Pin} (h : OwnN base w v l) : ∃ a c, v = .slice a l.length c ∧ SlN w a l.length c l ∧ ∀ x, a = some x → base ≤ x.block ∧ x.block < w.heap.size := by
  rcases id h.2 with ⟨hv, hn⟩ | ⟨g, cap, cur, hv, hg, hc, hnc, hcm, hcs, htake⟩
  · have hl : l = [] := List.eq_nil_of_length_eq_zero hn
    subst hl
    exact ⟨none, 0, hv, SlN.nil w, fun x hx => by cases hx⟩
  · refine ⟨some ⟨g, 0, none⟩, cap, hv, ⟨rfl, hnc, hcm, (fun h => by cases h), fun x hx i hi => ?_⟩, fun x hx => by cases hx; exact ⟨hg, heap_lt hc⟩⟩
    cases hx
    have hcell : ∀ j, j < l.length * 3 → w.cell? ⟨g, j, none⟩ = (l.flatMap pl)[j]? := by
      intro j hj
      rw [cell_of_row _ _ _ _ _ _ hc, ← htake, List.getElem?_take_of_lt hj]; simp
    obtain ⟨h1, h2, h3⟩ := flat_pl_get l i hi
    refine ⟨rfl, heap_lt hc, ?_, ?_, ?_⟩
    · simp only [Nat.zero_add]; rw [hcell _ (by omega), h1]
    · simp only [Nat.zero_add]; rw [hcell _ (by omega), h2]
    · simp only [Nat.zero_add]; rw [hcell _ (by omega), h3]
theorem OwnN.lt {base : Nat} {w : World} {v : Value} {l : List Pin} (h : OwnN base w v l) : ∀ k, v.ownBlock = some k → base ≤ k ∧ k < w.heap.size := World.ownsRow.lt h
theorem OwnN.ext {base : Nat} {w w' : World} {v : Value} {l : List Pin} (h : OwnN base w v l) (e : Below w.heap.size w w') : OwnN base w' v l := by
  refine ⟨h.1, ?_⟩
  rcases h.2 with hn | ⟨g, cap, cur, rfl, hb, hgg, rest⟩
  · exact .inl hn
  · exact .inr ⟨g, cap, cur, rfl, hb, (e.block g (Array.getElem?_eq_some_iff.1 hgg).1).trans hgg, rest⟩
theorem OwnN.stay {base : Nat} {w w' : World} {v : Value} {l : List Pin} (h : OwnN base w v l) (e : ∀ k, v.ownBlock = some k → w'.heap[k]? = w.heap[k]?) : OwnN base w' v l := by
  refine ⟨h.1, ?_⟩
  rcases h.2 with hn | ⟨g, cap, cur, rfl, hb, hgg, rest⟩
  · exact .inl hn
  · exact .inr ⟨g, cap, cur, rfl, hb, (e g rfl).trans hgg, rest⟩
theorem OwnN.mono {b b' : Nat} {w : World} {v : Value} {l : List Pin} (h : OwnN b w v l) (hb : b' ≤ b) : OwnN b' w v l := by
  refine ⟨h.1, ?_⟩
  rcases h.2 with hn | ⟨g, cap, cur, rfl, hbg, rest⟩
  · exact .inl hn
  · exact .inr ⟨g, cap, cur, rfl, Nat.le_trans hb hbg, rest⟩
theorem OwnN.alloc {base : Nat} {w : World} {v : Value} {l : List Pin} (h : OwnN base w v l) (o : Obj) : OwnN base (w.alloc o) v l := World.ownsRow.alloc h o
theorem OwnN.nil (base : Nat) (w : World) : OwnN base w (.slice none 0 0) [] := ⟨rfl, .inl ⟨rfl, rfl⟩⟩
theorem OwnN.empty {base : Nat} (w : World) (hb : base ≤ w.heap.size) : OwnN base (w.alloc (.cells #[] 26)) (.slice (some ⟨w.heap.size, 0, none⟩) 0 0) [] :=
  ⟨rfl, .inr ⟨w.heap.size, 0, #[], rfl, hb, heap_alloc_eq _ _ _ rfl, Nat.le_refl _, by unfold maxLen; omega, rfl, rfl⟩⟩
theorem OwnN.kept {base : Nat} {w w' : World} {v : Value} {l : List Pin} {row : Option Nat} (h : OwnN base w v l) (hg : w.grownBy w' row) (hne : ∀ k, v.ownBlock = some k → row ≠ some k) : OwnN base w' v l :=
  World.ownsRow.kept h hg (by
    cases hv : v.ownBlock with
    | none => exact .inl rfl
    | some k => exact .inr (fun e => hne k hv e.symm))
/-- One pin in a block of its own. -/
theorem SlN.one (w : World) (p : Pin) (t : TypeId) : SlN (w.alloc (.cells #[.string (str p.h), .bool p.s, .int .i64 p.x] t)) (some ⟨w.heap.size, 0, none⟩) 1 1 [p] := by
  refine ⟨rfl, Nat.le_refl _, by unfold maxLen; omega, (fun h => by cases h), fun x hx i hi => ?_⟩
  cases hx
  obtain rfl : i = 0 := by simpa using hi
  refine ⟨rfl, by simp, ?_, ?_, ?_⟩ <;> (rw [World.cell?_alloc_at _ _ _ _ rfl]; rfl)

theorem infoPin : (Tryd.prog.info? 26).map (fun i => (i.zero, i.size, i.bytes)) = some (some (.agg #[.string ⟨#[]⟩, .bool false, .int .i64 0]), 3, 32) := by kernel_rfl

theorem wpList_append_pins {w : World} {ops : Array Oper} {rest : List Oper} {o : Oper} {a : Act} {Q : Exit → Act → World → Prop} (hgd : o.guard = none) (s x : Operand)
    (ho : o.op = .call { callee := .builtin .append, args := #[s, x], argTypes := #[22, 22] })
    (base : Nat) (v : Value) (l : List Pin) (hs : a.eval s = v) (hown : OwnN base w v l) (b : Option Addr) (m c : Nat) (l2 : List Pin) (hx : a.eval x = .slice b m c) (hsl : SlN w b m c l2)
    (hlen : l.length + m ≤ 1000000000) (hbase : base ≤ w.heap.size)
    (h : ∀ v' w', OwnN base w' v' (l ++ l2) → w.grownBy w' v.ownBlock → wpList Tryd.prog ops Q rest (a.put o.dst v') w') : wpList Tryd.prog ops Q (o :: rest) a w := by
  obtain ⟨i0, hi, hz0, hz1, hz2⟩ := info_parts infoPin
  cases b with
  | none =>
    obtain ⟨rfl, rfl⟩ := hsl.2.2.2.1 rfl
    obtain rfl : m = 0 := hsl.1.symm
    refine wpList_append_own_none hgd s x 22 ho base 26 i0 3 Tryd.underlying22 hi v l.length _ hs hown hx ?_
    exact h v w (by simpa using hown) ⟨rfl, rfl, rfl, Nat.le_refl _, fun _ _ _ => rfl⟩
  | some ad =>
    have hl2 := hsl.len
    refine wpList_append_own w hgd s x 22 ho base 26 i0 _ 3 32 Tryd.underlying22 hi hz0 hz1 hz2 rfl (by decide) v l.length _ hs hown ad m c (l2.flatMap pl) hx (by rw [flat_pl_length, hl2]) ?_ ?_ (by unfold maxLen; omega) (by omega) hbase ?_
    · intro j u hj
      have hjl : j < l2.length * 3 := by
        have := (List.getElem?_eq_some_iff.1 hj).1; rwa [flat_pl_length] at this
      have hi2 : j / 3 < l2.length := by omega
      obtain ⟨hsp, hb, c1, c2, c3⟩ := hsl.2.2.2.2 ad rfl (j / 3) hi2
      obtain ⟨g1, g2, g3⟩ := flat_pl_get l2 (j / 3) hi2
      have hadd : ad.add j = ⟨ad.block, ad.off + j, none⟩ := by
        obtain ⟨b, o, sp⟩ := ad; simp only at hsp; subst hsp; unfold Addr.add; split <;> simp_all
      rw [hadd]
      have h3 : j % 3 = 0 ∨ j % 3 = 1 ∨ j % 3 = 2 := by omega
      rcases h3 with h0 | h0 | h0
      · have e : j / 3 * 3 = j := by omega
        rw [e] at c1 g1
        rw [c1, ← hj, g1]
      · have e : j / 3 * 3 + 1 = j := by omega
        rw [Nat.add_assoc, e] at c2
        rw [e] at g2
        rw [c2, ← hj, g2]
      · have e : j / 3 * 3 + 2 = j := by omega
        rw [Nat.add_assoc, e] at c3
        rw [e] at g3
        rw [c3, ← hj, g3]
    · intro u hu
      obtain ⟨p, _, hp⟩ := List.mem_flatMap.1 hu
      simp [pl] at hp
      rcases hp with rfl | rfl | rfl <;> rfl
    · intro v' w' h1 h2 _
      refine h v' w' ?_ h2
      unfold OwnN; rw [List.length_append, List.flatMap_append, hl2]; exact h1

theorem sl_clone_pins (a : Option Addr) (n c : Nat) (l : List Pin) (w : World) (h : SlN w a n c l) (hn : n ≤ 1000000) :
    Calls Tryd.prog 29 #[.slice a n c] w fun e w' => ∃ v, e = .returned v ∧ OwnN w.heap.size w' v l ∧ Below w.heap.size w w' := by
  cases a with
  | none =>
    obtain ⟨rfl, rfl⟩ := h.2.2.2.1 rfl
    obtain rfl : n = 0 := h.1.symm
    have hnil := fun (w : World) => Lib.run_eql_slice_nil (P := Tryd.prog) w 22 26 none 0 0 0 0 Tryd.underlying22
    go_enter Tryd.func29, Tryd.ntmps29
    go_wp2
    go_ret
    exact ⟨_, rfl, OwnN.nil _ _, Below.refl _ _⟩
  | some ad =>
    have h2 : SlN (w.alloc (.cells #[] 26)) (some ad) n c l := h.ext ((Below.refl _ _).alloc (Nat.le_refl _) _)
    have hnil := fun (w : World) => Lib.run_eql_slice_nil (P := Tryd.prog) w 22 26 (some ad) n c 0 0 Tryd.underlying22
    go_enter Tryd.func29, Tryd.ntmps29
    go_wp2_with (at_builtin; refine wpList_append_pins rfl _ _ rfl w.heap.size _ [] rfl (OwnN.empty w (Nat.le_refl _)) (some ad) n c l rfl h2 (by simp; omega) (by simp) ?_; intro v w1 hown hg)
    go_ret
    exact ⟨v, rfl, hown, ((Below.refl _ _).alloc (Nat.le_refl _) _).grown hg (by simp) (fun k hk => by cases hk; exact Nat.le_refl _)⟩

end Go.Proofs.YtjfflnnepndlkaaDoor

/-
  The statements' helpers on slices of pins: SmallPins, OwnPins, Pins.
-/
namespace Go.Proofs.YtjfflnnepndlkaaDoor
open Go.RowKit

theorem keep_ownPins (a : Option Addr) (n c : Nat) (l : List Pin) (w : World) (h : SlN w a n c l) (hn : n ≤ 1000000) :
    Calls Tryd.prog 26 #[.slice a n c] w fun e w' => ∃ v, e = .returned v ∧ OwnN w.heap.size w' v l ∧ Below w.heap.size w w' := by
  have h2 : SlN (w.alloc (.cells #[] 26)) a n c l := h.ext ((Below.refl _ _).alloc (Nat.le_refl _) _)
  go_enter Tryd.func26, Tryd.ntmps26
  go_wp2_with (at_builtin; refine wpList_append_pins rfl _ _ rfl w.heap.size _ [] rfl (OwnN.empty w (Nat.le_refl _)) a n c l rfl h2 (by simp; omega) (by simp) ?_; intro v w1 hown hg)
  go_ret
  exact ⟨v, rfl, hown, ((Below.refl _ _).alloc (Nat.le_refl _) _).grown hg (by simp) (fun k hk => by cases hk; exact Nat.le_refl _)⟩

set_option maxHeartbeats 2000000 in
set_option maxRecDepth 100000 in
theorem keep_smallPins (m : Nat) (a : Option Addr) (n c : Nat) (l : List Pin) (w : World) (h : SlN w a n c l) :
    Calls Tryd.prog 9 #[.slice a n c, .int .i64 (m : Nat)] w fun e w' => e = .returned (.bool (decide (n ≤ m) && l.all fun x => decide (x.h.length ≤ 300))) ∧ Below w.heap.size w w' := by
  have hle := h.le
  have HL := Lib.hid h.len
  obtain ⟨r, hr⟩ : ∃ r, r = (decide (n ≤ m) && l.all fun x => decide (x.h.length ≤ 300)) := ⟨_, rfl⟩
  rw [← hr]
  have HR := Lib.hid hr
  clear hr
  by_cases hnm : m < n
  · have i3 : (m : Int) < (n : Int) := by omega
    have hrf : r = false := by rw [HR.out, decide_eq_false (by omega)]; rfl
    subst hrf
    go_enter Tryd.func9, Tryd.ntmps9
    go_wp2_with fail
    go_ret
    exact ⟨rfl, Below.refl _ _⟩
  have i4 : ¬ (m : Int) < (n : Int) := by omega
  have HR2 := Lib.hid (show r = l.all fun x => decide (x.h.length ≤ 300) by rw [HR.out, decide_eq_true (by omega)]; rfl)
  go_enter Tryd.func9, Tryd.ntmps9
  go_wp2_with fail
  go_loopw [5] (fun i wr => ∃ k : Nat, k ≤ n ∧ i = .int .i64 k ∧ Hid (∀ x ∈ l.take k, x.h.length ≤ 300) ∧ Below w.heap.size w wr) (fun i _ => n - (intOf i).toNat)
  case atStart => exact ⟨0, Nat.zero_le _, rfl, Lib.hid (by simp), Below.refl _ _⟩
  case round =>
    obtain ⟨k, hk, rfl, HC, hB⟩ := hrel
    have i0 : (0 : Int) ≤ (k : Int) := by omega
    by_cases hlt : k < n
    · have i2 : (k : Int) < (n : Int) := by omega
      obtain ⟨bb, o, rfl, hbb, hkl, hcell, -, -⟩ := (h.ext hB).at hlt
      rw [List.getElem?_eq_getElem hkl, Option.getD_some] at hcell
      have HTK := Lib.hid (List.take_succ_eq_append_getElem hkl)
      have HMEM := Lib.hid (List.getElem_mem hkl)
      generalize l[k] = p at *
      have hps := strSize p.h
      obtain ⟨sp, hsp⟩ : ∃ sp, str p.h = sp := ⟨_, rfl⟩
      rw [hsp] at hcell hps
      clear hsp hkl
      by_cases hpm : p.h.length ≤ 300
      · have i3 : ¬ (300 : Int) < (p.h.length : Int) := by omega
        have HNX := Lib.hid (show ∀ x ∈ l.take (k + 1), x.h.length ≤ 300 by
          rw [HTK.out]; intro x hx
          rcases List.mem_append.1 hx with hx | hx
          · exact HC.out x hx
          · simp at hx; subst hx; exact hpm)
        go_wp2_with fail
        go_roundw
        case rel => exact ⟨k + 1, by omega, by go_num, HNX, hB⟩
        case measure => simp [intOf]; omega
      · have i3 : (300 : Int) < (p.h.length : Int) := by omega
        have hrf : r = false := by
          rw [HR2.out, List.all_eq_false]; exact ⟨p, HMEM.out, by simpa using hpm⟩
        subst hrf
        go_wp2_with fail
        go_ret
        exact ⟨rfl, hB⟩
    · obtain rfl : k = n := by omega
      have hrt : r = true := by
        rw [HR2.out, List.all_eq_true]; have := HC.out; rw [List.take_of_length_le (by rw [HL.out]; exact Nat.le_refl _)] at this; exact fun x hx => by simpa using this x hx
      subst hrt
      go_wp2_with fail
      go_ret
      exact ⟨rfl, hB⟩

theorem take_eq_succN (l k : List Pin) (i : Nat) (h1 : i < l.length) (h2 : i < k.length) (h : l.take i = k.take i) : (l.take (i + 1) = k.take (i + 1)) ↔ l[i] = k[i] := by
  rw [List.take_succ_eq_append_getElem h1, List.take_succ_eq_append_getElem h2, h]
  exact ⟨fun hh => by simpa using List.append_cancel_left hh, fun hh => by rw [hh]⟩

set_option maxHeartbeats 2000000 in
set_option maxRecDepth 100000 in
theorem keep_pins (a b : Option Addr) (n m c d : Nat) (ls ks : List Pin) (w : World) (h : SlN w a n c ls) (h' : SlN w b m d ks) :
    Calls Tryd.prog 37 #[.slice a n c, .slice b m d] w fun e w' => e = .returned (.bool (decide (ls = ks))) ∧ Below w.heap.size w w' := by
  have hle := h.le
  have hle' := h'.le
  have hl := h.len
  have hl' := h'.len
  by_cases hnm : n = m
  · subst hnm
    obtain ⟨r, hr⟩ : ∃ r, r = decide (ls = ks) := ⟨_, rfl⟩
    rw [← hr]
    have HR := Lib.hid hr; have HL := Lib.hid hl; have HL' := Lib.hid hl'
    clear hr hl hl'
    go_enter Tryd.func37, Tryd.ntmps37
    go_wp2
    go_loopw [5] (fun i wr => ∃ k : Nat, k ≤ n ∧ i = .int .i64 k ∧ Hid (ls.take k = ks.take k) ∧ Below w.heap.size w wr) (fun i _ => n - (intOf i).toNat)
    case atStart => exact ⟨0, Nat.zero_le _, rfl, Lib.hid rfl, Below.refl _ _⟩
    case round =>
      obtain ⟨k, hk, rfl, HT, hB⟩ := hrel
      by_cases hlt : k < n
      · obtain ⟨g, o, rfl, hg, hkl, hc1, hc2, hc3⟩ := (h.ext hB).at hlt
        obtain ⟨g', o', rfl, hg', hkl', hd1, hd2, hd3⟩ := (h'.ext hB).at hlt
        have b0 : (0 : Int) ≤ (k : Int) := by omega
        have b1 : (k : Int) < (n : Int) := by omega
        have HN := Lib.hid (take_eq_succN ls ks k hkl hkl' HT.out)
        rw [List.getElem?_eq_getElem hkl, Option.getD_some] at hc1 hc2 hc3
        rw [List.getElem?_eq_getElem hkl', Option.getD_some] at hd1 hd2 hd3
        generalize ls[k] = u1 at *
        generalize ks[k] = u2 at *
        clear hkl hkl'
        by_cases hu : u1 = u2
        · subst hu
          generalize str u1.h = s1 at *
          generalize u1.s = p1 at *
          generalize u1.x = x1 at *
          go_wp2
          go_quiet (fail)
          go_wp2
          go_roundw
          case rel => exact ⟨k + 1, by omega, by go_num, Lib.hid (HN.out.2 trivial), hB.trans (below_drewN' _ _ _)⟩
          case measure => simp [intOf]; omega
        · have HU := Lib.hid hu
          have hrf : r = false := by
            rw [HR.out]; apply decide_eq_false; intro e; exact hu (HN.out.1 (by rw [e]))
          subst hrf
          by_cases q1 : u1.h = u2.h
          · rw [q1] at hc1
            generalize str u2.h = s1 at *
            by_cases q2 : u1.s = u2.s
            · rw [q2] at hc2
              have q3 : (u1.x == u2.x) = false := by
                apply beq_eq_false_iff_ne.2; intro e; apply hu; obtain ⟨a1, a2, a3⟩ := u1; obtain ⟨b1, b2, b3⟩ := u2; simp_all
              generalize u2.s = p1 at *
              generalize u1.x = x1 at *
              generalize u2.x = x2 at *
              clear q1 q2 hu
              go_wp2
              go_quiet (fail)
              go_wp2
              go_ret
              exact ⟨rfl, hB.trans (below_drewN' _ _ _)⟩
            · have q3 : (u1.s == u2.s) = false := beq_eq_false_iff_ne.2 q2
              generalize u1.s = p1 at *
              generalize u2.s = p2 at *
              generalize u1.x = x1 at *
              generalize u2.x = x2 at *
              clear q1 q2 hu
              go_wp2
              go_quiet (fail)
              go_wp2
              go_ret
              exact ⟨rfl, hB.trans (below_drewN' _ _ _)⟩
          · have q3 : ((str u1.h).toList == (str u2.h).toList) = false := by
              rw [str_toList, str_toList]; exact beq_eq_false_iff_ne.2 q1
            generalize str u1.h = s1 at *
            generalize str u2.h = s2 at *
            generalize u1.s = p1 at *
            generalize u2.s = p2 at *
            generalize u1.x = x1 at *
            generalize u2.x = x2 at *
            clear q1 hu
            go_wp2
            go_quiet (fail)
            go_wp2
            go_ret
            exact ⟨rfl, hB.trans (below_drewN' _ _ _)⟩
      · obtain rfl : k = n := by omega
        have hrt : r = true := by
          rw [HR.out]; apply decide_eq_true; have := HT.out
          rwa [List.take_of_length_le (by rw [HL.out]; exact Nat.le_refl _), List.take_of_length_le (by rw [HL'.out]; exact Nat.le_refl _)] at this
        subst hrt
        go_wp2
        go_ret
        exact ⟨rfl, hB⟩
  · have hrf : decide (ls = ks) = false := by apply decide_eq_false; intro e; apply hnm; rw [← hl, ← hl', e]
    rw [hrf]
    have t1 : ((n : Int) != (m : Int)) = true := bne_iff_ne.2 (by omega)
    clear hnm hrf hl hl'
    go_enter Tryd.func37, Tryd.ntmps37
    go_wp2
    go_ret
    exact ⟨rfl, Below.refl _ _⟩

end Go.Proofs.YtjfflnnepndlkaaDoor

/-
  The walk through pin.Decode.
-/
namespace Go.Proofs.YtjfflnnepndlkaaDoor
open Go.RowKit

theorem set3 {w : World} {B : Nat} {x y z : Value} {t : TypeId} (hb : w.heap[B]? = some (.cells #[x, y, z] t (0, 0))) (a b c : Value) :
    (((w.setCell ⟨B, 0, none⟩ a).setCell ⟨B, 1, none⟩ b).setCell ⟨B, 2, none⟩ c).heap[B]? = some (.cells #[a, b, c] t (0, 0)) :=
  heap_setCell_same _ B 2 _ t c (heap_setCell_same _ B 1 _ t b (heap_setCell_same w B 0 _ t a hb))

set_option maxRecDepth 100000 in
set_option maxHeartbeats 8000000 in
theorem pi_decode (a : Option Addr) (n c : Nat) (b : List UInt8) (w : World) (h : SlB w a n c b) (hn : n ≤ 1000000) :
    Calls Tryd.prog 44 #[.slice a n c] w (PDecP b w) := by
  have hb0 := (Below.refl w.heap.size w).alloc (Nat.le_refl _) (.cells #[.string ⟨#[]⟩, .bool false, .int .i64 0] 26)
  have hz0 : (w.alloc (.cells #[.string ⟨#[]⟩, .bool false, .int .i64 0] 26)).heap.size = w.heap.size + 1 := by simp
  have HROW := Lib.hid (show (w.alloc (.cells #[.string ⟨#[]⟩, .bool false, .int .i64 0] 26)).heap[w.heap.size]? = some (.cells #[.string ⟨#[]⟩, .bool false, .int .i64 0] 26 (0, 0)) from heap_alloc_eq _ _ _ rfl)
  have hsb := h.ext ((Below.refl w.heap.size w).alloc (Nat.le_refl _) (.cells #[.string ⟨#[]⟩, .bool false, .int .i64 0] 26))
  have HB0 := Lib.hid hb0
  have HZ0 := Lib.hid hz0
  have hT := wi_text a n c b _ hsb hn
  have hln := h.len
  obtain ⟨t, n1, z1, h1⟩ : ∃ t n1 z1, Wire.decT b = (t, n1, z1) := ⟨_, _, _, rfl⟩
  rw [h1] at hT
  dsimp only at hT
  have HTX := Lib.hid (show ∃ s, str t = s from ⟨_, rfl⟩)
  obtain ⟨st, hst⟩ := HTX.out
  have HSX := Lib.hid hst
  rw [hst] at hT
  have HT := Lib.hid hT
  clear hT hb0 hz0 h
  by_cases e1 : z1 ≠ 0
  · have HR := Lib.hid (Pin.dec_a h1 e1)
    have t1 : (z1 != 0) = true := by simpa using e1
    clear h1 e1 hln hst hsb
    go_enter Tryd.func44, Tryd.ntmps44
    go_wp2_with fail
    refine HT.out.mono ?_; rintro e w1 ⟨rfl, rfl⟩
    go_wp2_with fail
    refine bodyPost_ret (v := .tuple #[.agg #[.string ⟨#[]⟩, .bool false, .int .i64 0], .int .i64 (0 : Nat), .int .i64 z1]) (by simp [results, Tryd.results44, go_sem]) rfl (PDecP.of HR.out rfl ?_)
    exact HB0.out
  obtain rfl : z1 = 0 := by simpa using e1
  obtain ⟨-, q1, q2, q3, q4⟩ := Wire.txt_decT h1
  rw [hln] at q1
  have hn1 : n1 ≤ n := q1
  have hl1 : (b.drop n1).length = n - n1 := by rw [List.length_drop, hln]
  obtain ⟨v2, n2, z2, h2⟩ : ∃ v2 n2 z2, Wire.dec (b.drop n1) = (v2, n2, z2) := ⟨_, _, _, rfl⟩
  have hU1 : ∀ a2 c2 W, SlB W a2 (n - n1) c2 (b.drop n1) → Calls Tryd.prog 43 #[.slice a2 (n - n1) c2] W fun e w' => e = .returned (.tuple #[.int .u64 (v2 : Nat), .int .i64 (n2 : Nat), .int .i64 z2]) ∧ W = w' := by
    intro a2 c2 W hs
    have := wi_uint a2 (n - n1) c2 (b.drop n1) W hs (by omega)
    rw [h2] at this; exact this
  have HU1 := Lib.hid hU1
  have m1 : (0 : Int) ≤ (n1 : Int) := by omega
  have m2 : (n1 : Int) ≤ (n : Int) := by omega
  clear hU1
  by_cases e2 : z2 ≠ 0
  · have HR := Lib.hid (Pin.dec_b h1 h2 e2)
    have t2 : (z2 != 0) = true := by simpa using e2
    have k0 : (n2 : Int) ≤ 1000000 := by
      have := h2
      unfold Wire.dec at this
      split at this
      · cases this; decide
      · split at this
        · cases this; decide
        · split at this
          · cases this; decide
          · split at this
            · cases this; decide
            · cases this; exact absurd rfl e2
    have k1 : (0 : Int) ≤ (n2 : Int) := by omega
    clear h1 h2 e1 e2 hln hst hl1
    go_enter Tryd.func44, Tryd.ntmps44
    go_wp2_with fail
    refine HT.out.mono ?_; rintro e w1 ⟨rfl, rfl⟩
    go_wp2_with (refine wpList_from rfl _ _ rfl rfl n1 _ rfl rfl hsb hn1 ?_; intro a2 hsa2)
    refine (HU1.out _ _ _ hsa2).mono ?_; rintro e w2 ⟨rfl, rfl⟩
    go_wp2_with fail
    refine bodyPost_ret (v := .tuple #[.agg #[.string ⟨#[]⟩, .bool false, .int .i64 0], .int .i64 (0 : Nat), .int .i64 z2]) (by simp [results, Tryd.results44, go_sem]) rfl (PDecP.of HR.out rfl ?_)
    exact HB0.out
  obtain rfl : z2 = 0 := by simpa using e2
  obtain ⟨-, r1, r2, r3, r4⟩ := Wire.enc_dec h2
  rw [hl1] at r1
  have hn12 : n1 + n2 ≤ n := by omega
  have m3 : (0 : Int) ≤ (n2 : Int) := by omega
  have m4 : (n1 : Int) + (n2 : Int) ≤ (n : Int) := by omega
  by_cases e3 : 1 < v2
  · have HR := Lib.hid (Pin.dec_c h1 h2 e3)
    have t3 : (1 : Int) < (v2 : Int) := by omega
    clear h1 h2 e1 e2 hln hst hl1
    go_enter Tryd.func44, Tryd.ntmps44
    go_wp2_with fail
    refine HT.out.mono ?_; rintro e w1 ⟨rfl, rfl⟩
    go_wp2_with (refine wpList_from rfl _ _ rfl rfl n1 _ rfl rfl hsb hn1 ?_; intro a2 hsa2)
    refine (HU1.out _ _ _ hsa2).mono ?_; rintro e w2 ⟨rfl, rfl⟩
    go_wp2_with fail
    refine bodyPost_ret (v := .tuple #[.agg #[.string ⟨#[]⟩, .bool false, .int .i64 0], .int .i64 (0 : Nat), .int .i64 6]) (by simp [results, Tryd.results44, go_sem]) rfl (PDecP.of HR.out rfl ?_)
    exact HB0.out
  have t3 : ¬ (1 : Int) < (v2 : Int) := by omega
  have hl2 : (b.drop (n1 + n2)).length = n - (n1 + n2) := by rw [List.length_drop, hln]
  obtain ⟨v3, n3, z3, h3⟩ : ∃ v3 n3 z3, Wire.dec (b.drop (n1 + n2)) = (v3, n3, z3) := ⟨_, _, _, rfl⟩
  have hU2 : ∀ a2 c2 W, SlB W a2 (n - (n1 + n2)) c2 (b.drop (n1 + n2)) → Calls Tryd.prog 43 #[.slice a2 (n - (n1 + n2)) c2] W fun e w' => e = .returned (.tuple #[.int .u64 (v3 : Nat), .int .i64 (n3 : Nat), .int .i64 z3]) ∧ W = w' := by
    intro a2 c2 W hs
    have := wi_uint a2 (n - (n1 + n2)) c2 (b.drop (n1 + n2)) W hs (by omega)
    rw [h3] at this; exact this
  have HU2 := Lib.hid hU2
  clear hU2
  by_cases e4 : z3 ≠ 0
  · have HR := Lib.hid (Pin.dec_d h1 h2 e3 h3 e4)
    have t4 : (z3 != 0) = true := by simpa using e4
    clear h1 h2 h3 e1 e2 e4 hln hst hl1 hl2
    go_enter Tryd.func44, Tryd.ntmps44
    go_wp2_with fail
    refine HT.out.mono ?_; rintro e w1 ⟨rfl, rfl⟩
    go_wp2_with (refine wpList_from rfl _ _ rfl rfl n1 _ rfl rfl hsb hn1 ?_; intro a2 hsa2)
    refine (HU1.out _ _ _ hsa2).mono ?_; rintro e w2 ⟨rfl, rfl⟩
    go_wp2_with (refine wpList_from rfl _ _ rfl rfl (n1 + n2) _ (by omega) rfl hsb hn12 ?_; intro a3 hsa3)
    refine (HU2.out _ _ _ hsa3).mono ?_; rintro e w3 ⟨rfl, rfl⟩
    go_wp2_with fail
    refine bodyPost_ret (v := .tuple #[.agg #[.string ⟨#[]⟩, .bool false, .int .i64 0], .int .i64 (0 : Nat), .int .i64 z3]) (by simp [results, Tryd.results44, go_sem]) rfl (PDecP.of HR.out rfl ?_)
    exact HB0.out
  obtain rfl : z3 = 0 := by simpa using e4
  obtain ⟨-, s1, s2, s3, s4⟩ := Wire.enc_dec h3
  rw [hl2] at s1
  have m5 : (0 : Int) ≤ (n3 : Int) := by omega
  have m6 : (n1 : Int) + (n2 : Int) + (n3 : Int) ≤ (n : Int) := by omega
  by_cases e5 : 1099511627776 < v3
  · have HR := Lib.hid (Pin.dec_e h1 h2 e3 h3 e5)
    have t5 : (1099511627776 : Int) < (v3 : Int) := by omega
    clear h1 h2 h3 e1 e2 e4 hln hst hl1 hl2
    go_enter Tryd.func44, Tryd.ntmps44
    go_wp2_with fail
    refine HT.out.mono ?_; rintro e w1 ⟨rfl, rfl⟩
    go_wp2_with (refine wpList_from rfl _ _ rfl rfl n1 _ rfl rfl hsb hn1 ?_; intro a2 hsa2)
    refine (HU1.out _ _ _ hsa2).mono ?_; rintro e w2 ⟨rfl, rfl⟩
    go_wp2_with (refine wpList_from rfl _ _ rfl rfl (n1 + n2) _ (by omega) rfl hsb hn12 ?_; intro a3 hsa3)
    refine (HU2.out _ _ _ hsa3).mono ?_; rintro e w3 ⟨rfl, rfl⟩
    go_wp2_with fail
    refine bodyPost_ret (v := .tuple #[.agg #[.string ⟨#[]⟩, .bool false, .int .i64 0], .int .i64 (0 : Nat), .int .i64 2]) (by simp [results, Tryd.results44, go_sem]) rfl (PDecP.of HR.out rfl ?_)
    exact HB0.out
  have t5 : ¬ (1099511627776 : Int) < (v3 : Int) := by omega
  have hV := fun W => ho_validName t (by omega) W
  rw [hst] at hV
  obtain ⟨nb, hnb⟩ : ∃ b, Host.name t = b := ⟨_, rfl⟩
  rw [hnb] at hV
  have HV := Lib.hid hV
  clear hV
  cases nb with
  | false =>
    have HR := Lib.hid (Pin.dec_f h1 h2 e3 h3 e5 hnb)
    clear h1 h2 h3 e1 e2 e4 hln hst hl1 hl2 hnb
    go_enter Tryd.func44, Tryd.ntmps44
    go_wp2_with fail
    refine HT.out.mono ?_; rintro e w1 ⟨rfl, rfl⟩
    go_wp2_with (refine wpList_from rfl _ _ rfl rfl n1 _ rfl rfl hsb hn1 ?_; intro a2 hsa2)
    refine (HU1.out _ _ _ hsa2).mono ?_; rintro e w2 ⟨rfl, rfl⟩
    go_wp2_with (refine wpList_from rfl _ _ rfl rfl (n1 + n2) _ (by omega) rfl hsb hn12 ?_; intro a3 hsa3)
    refine (HU2.out _ _ _ hsa3).mono ?_; rintro e w3 ⟨rfl, rfl⟩
    go_wp2_with fail
    refine (HV.out _).mono ?_; rintro e w4 ⟨rfl, hB4⟩
    rw [HZ0.out] at hB4
    have hbk : w4.heap[w.heap.size]? = some (.cells #[.string ⟨#[]⟩, .bool false, .int .i64 0] 26 (0, 0)) := (hB4.block _ (Nat.lt_succ_self _)).trans HROW.out
    have c0 : w4.cell? ⟨w.heap.size, 0, none⟩ = some (.string ⟨#[]⟩) := (cell_of_row _ _ _ _ _ _ hbk).trans rfl
    have c1 : w4.cell? ⟨w.heap.size, 1, none⟩ = some (.bool false) := (cell_of_row _ _ _ _ _ _ hbk).trans rfl
    have c2 : w4.cell? ⟨w.heap.size, 2, none⟩ = some (.int .i64 0) := (cell_of_row _ _ _ _ _ _ hbk).trans rfl
    have f0 : ∀ k, w4.frozen? ⟨w.heap.size, k, none⟩ = false := fun k => frozen_of_row _ _ _ _ _ hbk
    have hlt4 : w.heap.size < w4.heap.size := heap_lt hbk
    go_wp2_with fail
    have hfin := set3 hbk (.string ⟨#[]⟩) (.bool false) (.int .i64 0)
    have d0 := (cell_of_row _ _ 0 _ _ _ hfin).trans rfl
    have d1 := (cell_of_row _ _ 1 _ _ _ hfin).trans rfl
    have d2 := (cell_of_row _ _ 2 _ _ _ hfin).trans rfl
    have hbel := (((HB0.out.trans (hB4.mono (Nat.le_succ _))).setCell (p := ⟨w.heap.size, 0, none⟩) (Nat.le_refl _) (.string ⟨#[]⟩)).setCell (p := ⟨w.heap.size, 1, none⟩) (Nat.le_refl _) (.bool false)).setCell (p := ⟨w.heap.size, 2, none⟩) (Nat.le_refl _) (.int .i64 0)
    refine bodyPost_ret (v := .tuple #[.agg #[.string ⟨#[]⟩, .bool false, .int .i64 0], .int .i64 (0 : Nat), .int .i64 14]) (by simp [results, Tryd.results44, go_sem, d0, d1, d2]) rfl (PDecP.of HR.out rfl ?_)
    exact hbel
  | true =>
    have HR := Lib.hid (Pin.dec_g h1 h2 e3 h3 e5 hnb)
    have wv : IntKind.i64.wrap (v3 : Int) = (v3 : Int) := by rw [IntKind.wrap_i64]; omega
    clear h1 h2 h3 e1 e2 e4 hln hl1 hl2 hnb hst
    go_enter Tryd.func44, Tryd.ntmps44
    go_wp2_with fail
    refine HT.out.mono ?_; rintro e w1 ⟨rfl, rfl⟩
    go_wp2_with (refine wpList_from rfl _ _ rfl rfl n1 _ rfl rfl hsb hn1 ?_; intro a2 hsa2)
    refine (HU1.out _ _ _ hsa2).mono ?_; rintro e w2 ⟨rfl, rfl⟩
    go_wp2_with (refine wpList_from rfl _ _ rfl rfl (n1 + n2) _ (by omega) rfl hsb hn12 ?_; intro a3 hsa3)
    refine (HU2.out _ _ _ hsa3).mono ?_; rintro e w3 ⟨rfl, rfl⟩
    go_wp2_with fail
    refine (HV.out _).mono ?_; rintro e w4 ⟨rfl, hB4⟩
    rw [HZ0.out] at hB4
    have hbk : w4.heap[w.heap.size]? = some (.cells #[.string ⟨#[]⟩, .bool false, .int .i64 0] 26 (0, 0)) := (hB4.block _ (Nat.lt_succ_self _)).trans HROW.out
    have c0 : w4.cell? ⟨w.heap.size, 0, none⟩ = some (.string ⟨#[]⟩) := (cell_of_row _ _ _ _ _ _ hbk).trans rfl
    have c1 : w4.cell? ⟨w.heap.size, 1, none⟩ = some (.bool false) := (cell_of_row _ _ _ _ _ _ hbk).trans rfl
    have c2 : w4.cell? ⟨w.heap.size, 2, none⟩ = some (.int .i64 0) := (cell_of_row _ _ _ _ _ _ hbk).trans rfl
    have f0 : ∀ k, w4.frozen? ⟨w.heap.size, k, none⟩ = false := fun k => frozen_of_row _ _ _ _ _ hbk
    have hlt4 : w.heap.size < w4.heap.size := heap_lt hbk
    go_wp2_with fail
    have hfin := set3 hbk (.string st) (.bool ((v2 : Int) == 1)) (.int .i64 (v3 : Int))
    have d0 := (cell_of_row _ _ 0 _ _ _ hfin).trans rfl
    have d1 := (cell_of_row _ _ 1 _ _ _ hfin).trans rfl
    have d2 := (cell_of_row _ _ 2 _ _ _ hfin).trans rfl
    have hbel := (((HB0.out.trans (hB4.mono (Nat.le_succ _))).setCell (p := ⟨w.heap.size, 0, none⟩) (Nat.le_refl _) (.string st)).setCell (p := ⟨w.heap.size, 1, none⟩) (Nat.le_refl _) (.bool ((v2 : Int) == 1))).setCell (p := ⟨w.heap.size, 2, none⟩) (Nat.le_refl _) (.int .i64 (v3 : Int))
    have eb : decide (v2 = 1) = ((v2 : Int) == 1) := by rw [show ((v2 : Int) == 1) = decide ((v2 : Int) = 1) from rfl]; apply decide_eq_decide.2; omega
    refine bodyPost_ret (v := .tuple #[.agg (pc ⟨t, decide (v2 = 1), (v3 : Int)⟩), .int .i64 ((n1 + n2 + n3) : Nat), .int .i64 0]) (by unfold pc; simp [results, Tryd.results44, go_sem, d0, d1, d2, HSX.out, eb]) rfl (PDecP.of HR.out rfl ?_)
    exact hbel

end Go.Proofs.YtjfflnnepndlkaaDoor

/-
  The walks of PinCompareMatchesSpec and PinSubdomainsTogether; keep.Short; awake of law 22.
-/
namespace Go.Proofs.YtjfflnnepndlkaaDoor
open Go.RowKit

set_option maxHeartbeats 2000000 in
set_option maxRecDepth 100000 in
theorem keep_short (m : Nat) (a : Option Addr) (n c : Nat) (l : List (List UInt8)) (w : World) (h : SlT w a n c l) :
    Calls Tryd.prog 10 #[.int .i64 (m : Nat), .slice a n c] w fun e w' => e = .returned (.bool (l.all fun x => decide (x.length ≤ m))) ∧ Below w.heap.size w w' := by
  have hle := h.le
  have HL := Lib.hid h.len
  obtain ⟨r, hr⟩ : ∃ r, r = l.all fun x => decide (x.length ≤ m) := ⟨_, rfl⟩
  rw [← hr]
  have HR := Lib.hid hr
  clear hr
  go_enter Tryd.func10, Tryd.ntmps10
  go_wp2_with fail
  go_loopw [5] (fun i wr => ∃ k : Nat, k ≤ n ∧ i = .int .i64 k ∧ Hid (∀ x ∈ l.take k, x.length ≤ m) ∧ Below w.heap.size w wr) (fun i _ => n - (intOf i).toNat)
  case atStart => exact ⟨0, Nat.zero_le _, rfl, Lib.hid (by simp), Below.refl _ _⟩
  case round =>
    obtain ⟨k, hk, rfl, HC, hB⟩ := hrel
    have i0 : (0 : Int) ≤ (k : Int) := by omega
    by_cases hlt : k < n
    · have i2 : (k : Int) < (n : Int) := by omega
      obtain ⟨bb, o, rfl, hbb, hkl, hcell⟩ := (h.ext hB).at hlt
      rw [List.getElem?_eq_getElem hkl, Option.getD_some, tv] at hcell
      have HTK := Lib.hid (List.take_succ_eq_append_getElem hkl)
      have HMEM := Lib.hid (List.getElem_mem hkl)
      generalize l[k] = p at *
      have hps := strSize p
      obtain ⟨sp, hsp⟩ : ∃ sp, str p = sp := ⟨_, rfl⟩
      rw [hsp] at hcell hps
      clear hsp hkl
      by_cases hpm : p.length ≤ m
      · have i3 : ¬ (m : Int) < (p.length : Int) := by omega
        have HNX := Lib.hid (show ∀ x ∈ l.take (k + 1), x.length ≤ m by
          rw [HTK.out]; intro x hx
          rcases List.mem_append.1 hx with hx | hx
          · exact HC.out x hx
          · simp at hx; subst hx; exact hpm)
        go_wp2_with fail
        go_roundw
        case rel => exact ⟨k + 1, by omega, by go_num, HNX, hB⟩
        case measure => simp [intOf]; omega
      · have i3 : (m : Int) < (p.length : Int) := by omega
        have hrf : r = false := by
          rw [HR.out, List.all_eq_false]; exact ⟨p, HMEM.out, by simpa using hpm⟩
        subst hrf
        go_wp2_with fail
        go_ret
        exact ⟨rfl, hB⟩
    · obtain rfl : k = n := by omega
      have hrt : r = true := by
        rw [HR.out, List.all_eq_true]; have := HC.out; rw [List.take_of_length_le (by rw [HL.out]; exact Nat.le_refl _)] at this; exact fun x hx => by simpa using this x hx
      subst hrt
      go_wp2_with fail
      go_ret
      exact ⟨rfl, hB⟩

theorem Pin.aw_a : Pin.valid ⟨[97, 46, 98], true, 5⟩ = true := by decide +kernel
theorem Pin.aw_e : Pin.enc ⟨[97, 46, 98], true, 5⟩ = [3, 97, 46, 98, 1, 5] := by decide +kernel
theorem Pin.aw_c : Host.cmp [99, 111, 109] [97, 46, 99, 111, 109] = -1 := by decide +kernel
theorem Pin.aw_d : Host.cmp [120, 46, 97, 46, 99, 111, 109] [98, 46, 99, 111, 109] = -1 := by decide +kernel
theorem Pin.aw_p : Pin.dec [3, 97, 46, 98, 1, 5] = (⟨[97, 46, 98], true, 5⟩, 6, 0) := by
  have := Pin.dec_enc Pin.aw_a []
  rw [Pin.aw_e] at this
  simpa using this


end Go.Proofs.YtjfflnnepndlkaaDoor
