/-
  The walks through the package pin: Valid, Encode, Decode.
-/
import Derived.Test.YtcmeajaakdaeeaaDoorPinCmp
import Derived.Test.YtcmeajaakdaeeaaDoorWire
import Derived.Deep.RegionHeld3
namespace Go.Proofs.YtcmeajaakdaeeaaDoor
open Go.RowKit

/-- A pin as a value. -/
def pv (p : Pin) : Value := .agg #[.string (str p.h), .bool p.s, .int .i64 p.x]
/-- The cells of a pin. -/
def pc (p : Pin) : Array Value := #[.string (str p.h), .bool p.s, .int .i64 p.x]
def ibx (z : Int) : Prop := -9223372036854775808 ≤ z ∧ z ≤ 9223372036854775807

theorem SlB.from {w : World} {a : Option Addr} {n c : Nat} {l : List UInt8} (h : SlB w a n c l) {k : Nat} (hk : k ≤ n) : SlB w (if c = k then a else a.map (·.add k)) (n - k) (c - k) (l.drop k) := by
  obtain ⟨hl, hn, hc, h0, h1⟩ := h
  refine ⟨by simp; omega, by omega, by omega, fun e => ?_, fun x hx i hi => ?_⟩
  · have : a = none := by
      split at e
      · exact e
      · cases a with
        | none => rfl
        | some y => cases e
    obtain ⟨e1, e2⟩ := h0 this
    simp [e1, e2]
  · have hi' : k + i < l.length := by simp at hi; omega
    cases a with
    | none => split at hx <;> cases hx
    | some y =>
      obtain ⟨hs, hb, hcl⟩ := h1 y rfl (k + i) hi'
      have : x = ⟨y.block, y.off + k, none⟩ := by
        split at hx
        · exfalso; omega
        · obtain ⟨yb, yo, ys⟩ := y
          simp only at hs; subst hs
          cases hx; unfold Addr.add; split <;> simp_all
      subst this
      refine ⟨rfl, hb, ?_⟩
      simp only [Nat.add_assoc]
      rw [hcl]; simp

set_option maxRecDepth 100000 in
theorem wpList_from {w : World} {ops : Array Oper} {rest : List Oper} {o : Oper} {ac : Act} {Q : Exit → Act → World → Prop} (hg : o.guard = none) (x y : Operand) (hop : o.op = Op.slice 24 x (some y) none none)
    {a : Option Addr} {n c : Nat} {l : List UInt8} (hx : ac.eval x = .slice a n c) (m : Nat) (M : Int) (hM : M = (m : Int)) (hy : ac.eval y = .int .i64 M) (h : SlB w a n c l) (hm : m ≤ n)
    (hK : ∀ a2, SlB w a2 (n - m) (c - m) (l.drop m) → wpList Tryd.prog ops Q rest (ac.put o.dst (.slice a2 (n - m) (c - m))) w) : wpList Tryd.prog ops Q (o :: rest) ac w := by
  subst hM
  have hrun : (Instr.sliceAt 24 (.slice a n c) (some (.int .i64 (m : Int))) none none).run Tryd.prog w = .ok (.slice (if c = m then a else a.map (·.add m)) (n - m) (c - m)) w := by
    have e1 := run_sliceAt_slice (P := Tryd.prog) (w := w) 24 (.slice a n c) (some (.int .i64 (m : Int))) none none Tryd.underlying24
    have e2 := run_slice_l (P := Tryd.prog) (w := w) 24 a n c Tryd.underlying24 .i64 (m : Int) (by omega) (by omega)
    rw [e1, e2]
    simp [go_sem, sliced]
  refine wpList_plain hg fun K hK' => ?_
  unfold Oper.wp
  simp [execOp, hop, hx, hy, hrun, Result.andThen]
  exact hK' _ _ (hK _ (h.from hm))

namespace Pin
theorem valid_of {p : Pin} {b : Bool} (h : Host.name p.h = b) : valid p = (b && (decide (0 ≤ p.x) && decide (p.x ≤ 1099511627776))) := by unfold valid; rw [h]
end Pin

set_option maxRecDepth 100000 in
set_option maxHeartbeats 2000000 in
theorem pi_valid (p : Pin) (hp : p.h.length ≤ 1000000) (w : World) :
    Calls Tryd.prog 15 #[pv p] w fun e w' => e = .returned (.bool (Pin.valid p)) ∧ Below w.heap.size w w' := by
  have HV := Lib.hid (fun W => ho_validName p.h hp W)
  have hb0 := (Below.refl w.heap.size w).alloc (Nat.le_refl _) (.cells (pc p) 23)
  have hrow : (w.alloc (.cells (pc p) 23)).heap[w.heap.size]? = some (.cells (pc p) 23 (0, 0)) := heap_alloc_eq _ _ _ rfl
  have hz0 : (w.alloc (.cells (pc p) 23)).heap.size = w.heap.size + 1 := by simp
  have HPV := Lib.hid (fun b (h : Host.name p.h = b) => Pin.valid_of h)
  obtain ⟨ph, ps, px⟩ := p
  unfold pv
  unfold pc at hb0 hrow hz0
  simp only at HV hb0 hrow hz0 HPV ⊢
  obtain ⟨nb, hnb⟩ : ∃ b, Host.name ph = b := ⟨_, rfl⟩
  rw [hnb] at HV
  have HPV2 := Lib.hid (HPV.out _ hnb)
  clear HPV hnb
  obtain ⟨sh, hsh⟩ : ∃ s, str ph = s := ⟨_, rfl⟩
  rw [hsh] at HV hb0 hrow hz0 ⊢
  have HB0 := Lib.hid (And.intro hb0 (And.intro hrow hz0))
  clear hsh hb0 hrow hz0
  cases nb with
  | false =>
    go_enter Tryd.func15, Tryd.ntmps15
    go_wp2_with fail
    refine (HV.out _).mono ?_; rintro e w1 ⟨rfl, hB1⟩
    rw [HB0.out.2.2] at hB1
    go_wp2_with fail
    go_ret
    exact ⟨by rw [HPV2.out]; rfl, HB0.out.1.trans (hB1.mono (Nat.le_succ _))⟩
  | true =>
    by_cases h0 : px < 0
    · have HF := Lib.hid (show Pin.valid ⟨ph, ps, px⟩ = false by rw [HPV2.out, decide_eq_false (show ¬ 0 ≤ px by omega)]; rfl)
      have t1 : ¬ 0 ≤ px := by omega
      go_enter Tryd.func15, Tryd.ntmps15
      go_wp2_with fail
      refine (HV.out _).mono ?_; rintro e w1 ⟨rfl, hB1⟩
      rw [HB0.out.2.2] at hB1
      have c2 : w1.cell? ⟨w.heap.size, 2, none⟩ = some (.int .i64 px) := (hB1.cell (p := ⟨w.heap.size, 2, none⟩) (Nat.lt_succ_self _)).trans ((cell_of_row _ _ _ _ _ _ HB0.out.2.1).trans rfl)
      go_wp2_with fail
      go_ret
      exact ⟨by rw [HF.out]; rfl, HB0.out.1.trans (hB1.mono (Nat.le_succ _))⟩
    · have t1 : 0 ≤ px := by omega
      have HF := Lib.hid (show Pin.valid ⟨ph, ps, px⟩ = decide (px ≤ 1099511627776) by rw [HPV2.out, decide_eq_true t1]; rfl)
      go_enter Tryd.func15, Tryd.ntmps15
      go_wp2_with fail
      refine (HV.out _).mono ?_; rintro e w1 ⟨rfl, hB1⟩
      rw [HB0.out.2.2] at hB1
      have c2 : w1.cell? ⟨w.heap.size, 2, none⟩ = some (.int .i64 px) := (hB1.cell (p := ⟨w.heap.size, 2, none⟩) (Nat.lt_succ_self _)).trans ((cell_of_row _ _ _ _ _ _ HB0.out.2.1).trans rfl)
      go_wp2_with fail
      go_ret
      exact ⟨by rw [HF.out]; rfl, HB0.out.1.trans (hB1.mono (Nat.le_succ _))⟩

theorem wi_appendUintZ (a : Option Addr) (n c : Nat) (l : List UInt8) (x : Nat) (z : Int) (hz : z = (x : Int)) (hx : x < 18446744073709551616) (w : World) (h : SlB w a n c l) (hn : n ≤ 1000000) :
    Calls Tryd.prog 36 #[.slice a n c, .int .u64 z] w fun e w' => ∃ v, e = .returned v ∧ OwnB w.heap.size w' v (l ++ Wire.enc x) ∧ Below w.heap.size w w' := by
  subst hz; exact wi_appendUint a n c l x hx w h (by omega)

/-- What Encode returns. -/
def PEncP (p : Pin) (w : World) (e : Ending) (w' : World) : Prop := ∃ v, e = .returned (.tuple #[v, .int .i64 (if Pin.valid p then 0 else 1)]) ∧ OwnB w.heap.size w' v (if Pin.valid p then Pin.enc p else []) ∧ Below w.heap.size w w'

set_option maxRecDepth 100000 in
set_option maxHeartbeats 4000000 in
theorem pi_encode (p : Pin) (hp : p.h.length ≤ 900) (w : World) :
    Calls Tryd.prog 11 #[pv p] w (PEncP p w) := by
  have HV := Lib.hid (fun W => pi_valid p (by omega) W)
  have hb0 := (Below.refl w.heap.size w).alloc (Nat.le_refl _) (.cells (pc p) 23)
  have hrow : (w.alloc (.cells (pc p) 23)).heap[w.heap.size]? = some (.cells (pc p) 23 (0, 0)) := heap_alloc_eq _ _ _ rfl
  have hz0 : (w.alloc (.cells (pc p) 23)).heap.size = w.heap.size + 1 := by simp
  have HVI := Lib.hid ((Pin.valid_iff p).1)
  have HTX := Lib.hid (fun W => wi_appendText none 0 0 [] p.h (by omega) W (by exact ⟨rfl, Nat.le_refl _, by unfold maxLen; omega, fun _ => ⟨rfl, rfl⟩, fun x hx => by cases hx⟩) (by omega))
  have HEN := Lib.hid (show Pin.enc p = Wire.txt p.h ++ (Wire.enc (if p.s then 1 else 0) ++ Wire.enc p.x.toNat) from rfl)
  have HTL := Lib.hid (show (Wire.txt p.h).length ≤ 1000 by
    have := Wire.enc_len (v := p.h.length) (by omega); unfold Wire.txt; rw [List.length_append]; omega)
  unfold PEncP
  obtain ⟨ok, hok⟩ : ∃ b, Pin.valid p = b := ⟨_, rfl⟩
  rw [hok] at HV HVI ⊢
  clear hok
  obtain ⟨ph, ps, px⟩ := p
  unfold pv at HV ⊢
  unfold pc at hb0 hrow hz0
  simp only at HV hb0 hrow hz0 HVI HTX HEN HTL ⊢
  obtain ⟨sh, hsh⟩ : ∃ s, str ph = s := ⟨_, rfl⟩
  rw [hsh] at HV hb0 hrow hz0 HTX ⊢
  have HB0 := Lib.hid (And.intro hb0 (And.intro hrow hz0))
  clear hsh hb0 hrow hz0
  cases ok with
  | false =>
    go_enter Tryd.func11, Tryd.ntmps11
    go_wp2_with fail
    refine (HV.out _).mono ?_; rintro e w1 ⟨rfl, hB1⟩
    rw [HB0.out.2.2] at hB1
    go_wp2_with fail
    go_ret2
    exact ⟨_, rfl, OwnB.nil _ _, HB0.out.1.trans (hB1.mono (Nat.le_succ _))⟩
  | true =>
    obtain ⟨-, x0, x1⟩ := HVI.out rfl
    have wx : IntKind.u64.wrap px = ((px.toNat : Nat) : Int) := by unfold IntKind.wrap; simp only [IntKind.bits, IntKind.signed]; simp; omega
    go_enter Tryd.func11, Tryd.ntmps11
    go_wp2_with fail
    refine (HV.out _).mono ?_; rintro e w1 ⟨rfl, hB1⟩
    rw [HB0.out.2.2] at hB1
    have hB01 := HB0.out.1.trans (hB1.mono (Nat.le_succ _))
    have hlt1 : w.heap.size < w1.heap.size := by have := hB1.size; rw [HB0.out.2.2] at this; omega
    have hcs : ∀ w', Below w1.heap.size w1 w' → w'.cell? ⟨w.heap.size, 0, none⟩ = some (.string sh) ∧ w'.cell? ⟨w.heap.size, 1, none⟩ = some (.bool ps) ∧ w'.cell? ⟨w.heap.size, 2, none⟩ = some (.int .i64 px) := by
      intro w' hb
      have hbk : w'.heap[w.heap.size]? = some (.cells #[.string sh, .bool ps, .int .i64 px] 23 (0, 0)) := (hb.block _ hlt1).trans ((hB1.block _ (Nat.lt_succ_self _)).trans HB0.out.2.1)
      exact ⟨(cell_of_row _ _ _ _ _ _ hbk).trans rfl, (cell_of_row _ _ _ _ _ _ hbk).trans rfl, (cell_of_row _ _ _ _ _ _ hbk).trans rfl⟩
    obtain ⟨c0, c1, c2⟩ := hcs w1 (Below.refl _ _)
    have HCS := Lib.hid (fun w' hb => (hcs w' hb).1)
    have HCS2 := Lib.hid (fun w' hb => (hcs w' hb).2.2)
    clear hcs
    have HSU := Lib.hid (show (Wire.enc (if ps then 1 else 0)).length ≤ 10 from (Wire.enc_len (v := if ps then 1 else 0) (by split <;> omega)).2)
    obtain ⟨sub, hsub⟩ : ∃ sub : Nat, (if ps then 1 else 0) = sub := ⟨_, rfl⟩
    rw [hsub] at HEN HSU
    have hsb : sub < 18446744073709551616 := by rw [← hsub]; split <;> decide
    have HSB := Lib.hid (And.intro hsub hsb)
    clear hsub hsb
    cases ps
    all_goals
      go_wp2_with fail
      go_region_held3 (fun w' => w'.cell? ⟨w.heap.size, 0, none⟩ = some (.string sh) ∧ w'.cell? ⟨w.heap.size, 2, none⟩ = some (.int .i64 px)) (first | exact ⟨c0, c2⟩ | exact ⟨HCS.out _ hD3, HCS2.out _ hD3⟩ | exact ⟨HCS.out _ hD2, HCS2.out _ hD2⟩ | exact ⟨HCS.out _ hD1, HCS2.out _ hD1⟩) (first
        | (go_at_call 37; go_must (refine (HTX.out _).mono ?_); rintro e y1 ⟨v1, rfl, hO1, hb1⟩; have hD1 : Below w1.heap.size w1 y1 := (Below.drew (Below.refl _ _)).trans hb1; rw [List.nil_append] at hO1; obtain ⟨a1, k1, rfl, hs1, -⟩ := hO1.sl)
        | (go_at_call_of 36 (Value.slice a1 (Wire.txt ph).length k1); go_must (refine (wi_appendUintZ _ _ _ _ sub _ (by rw [← HSB.out.1]; rfl) HSB.out.2 _ hs1 (by have := HTL.out; omega)).mono ?_); rintro e y2 ⟨v2, rfl, hO2, hb2⟩; have hD2 : Below w1.heap.size w1 y2 := hD1.trans (hb2.mono hD1.size); obtain ⟨a2, k2, rfl, hs2, -⟩ := hO2.sl; obtain ⟨L2, hL2⟩ : ∃ n, (Wire.txt ph ++ Wire.enc sub).length = n := ⟨_, rfl⟩; rw [hL2] at hs2 ⊢; have hL2b : L2 ≤ 1000000 := (by have := HTL.out; have := HSU.out; rw [List.length_append] at hL2; omega); clear hL2)
        | (go_at_call_of 36 (Value.slice a2 L2 k2); go_must (refine (wi_appendUintZ _ _ _ _ px.toNat _ (by first | exact wx | rfl | omega) (by omega) _ hs2 hL2b).mono ?_); rintro e y3 ⟨v3, rfl, hO3, hb3⟩; have hD3 : Below w1.heap.size w1 y3 := hD2.trans (hb3.mono hD2.size)))
      go_wp2_with fail
      go_ret2
      have h9 := hO3.mono (Nat.le_trans hB01.size hD2.size)
      rw [List.append_assoc, ← HEN.out] at h9
      exact ⟨_, rfl, h9, hB01.trans (hD3.mono hB01.size)⟩

/-- What Decode returns. -/
def PDecP (b : List UInt8) (w : World) (e : Ending) (w' : World) : Prop := e = .returned (.tuple #[pv (Pin.dec b).1, .int .i64 ((Pin.dec b).2.1 : Nat), .int .i64 (Pin.dec b).2.2]) ∧ Below w.heap.size w w'
theorem PDecP.of {b : List UInt8} {q : Pin} {n : Nat} {z : Int} (h : Pin.dec b = (q, n, z)) {w : World} {e : Ending} {w' : World} (he : e = .returned (.tuple #[.agg (pc q), .int .i64 (n : Nat), .int .i64 z])) (hb : Below w.heap.size w w') : PDecP b w e w' := by
  unfold PDecP; rw [h]; exact ⟨he, hb⟩

namespace Pin
theorem dec_a {b t : List UInt8} {n1 : Nat} {z1 : Int} (h1 : Wire.decT b = (t, n1, z1)) (hz : z1 ≠ 0) : dec b = (none, 0, z1) := by unfold dec; rw [h1]; rw [if_pos hz]
theorem dec_b {b t : List UInt8} {n1 n2 v2 : Nat} {z2 : Int} (h1 : Wire.decT b = (t, n1, 0)) (h2 : Wire.dec (b.drop n1) = (v2, n2, z2)) (hz : z2 ≠ 0) : dec b = (none, 0, z2) := by
  unfold dec; rw [h1]; rw [if_neg (by simp)]; unfold decR; rw [h2]; rw [if_pos hz]
theorem dec_c {b t : List UInt8} {n1 n2 v2 : Nat} (h1 : Wire.decT b = (t, n1, 0)) (h2 : Wire.dec (b.drop n1) = (v2, n2, 0)) (hz : 1 < v2) : dec b = (none, 0, 6) := by
  unfold dec; rw [h1]; rw [if_neg (by simp)]; unfold decR; rw [h2]; rw [if_neg (by simp), if_pos hz]
theorem dec_d {b t : List UInt8} {n1 n2 v2 n3 v3 : Nat} {z3 : Int} (h1 : Wire.decT b = (t, n1, 0)) (h2 : Wire.dec (b.drop n1) = (v2, n2, 0)) (hv : ¬ 1 < v2) (h3 : Wire.dec (b.drop (n1 + n2)) = (v3, n3, z3)) (hz : z3 ≠ 0) : dec b = (none, 0, z3) := by
  unfold dec; rw [h1]; rw [if_neg (by simp)]; unfold decR; rw [h2]; rw [if_neg (by simp), if_neg hv]; dsimp only; rw [h3]; rw [if_pos hz]
theorem dec_e {b t : List UInt8} {n1 n2 v2 n3 v3 : Nat} (h1 : Wire.decT b = (t, n1, 0)) (h2 : Wire.dec (b.drop n1) = (v2, n2, 0)) (hv : ¬ 1 < v2) (h3 : Wire.dec (b.drop (n1 + n2)) = (v3, n3, 0)) (hz : 1099511627776 < v3) : dec b = (none, 0, 2) := by
  unfold dec; rw [h1]; rw [if_neg (by simp)]; unfold decR; rw [h2]; rw [if_neg (by simp), if_neg hv]; dsimp only; rw [h3]; rw [if_neg (by simp), if_pos hz]
theorem dec_f {b t : List UInt8} {n1 n2 v2 n3 v3 : Nat} (h1 : Wire.decT b = (t, n1, 0)) (h2 : Wire.dec (b.drop n1) = (v2, n2, 0)) (hv : ¬ 1 < v2) (h3 : Wire.dec (b.drop (n1 + n2)) = (v3, n3, 0)) (hz : ¬ 1099511627776 < v3) (hn : Host.name t = false) : dec b = (none, 0, 14) := by
  unfold dec; rw [h1]; rw [if_neg (by simp)]; unfold decR; rw [h2]; rw [if_neg (by simp), if_neg hv]; dsimp only; rw [h3]; rw [if_neg (by simp), if_neg hz, if_pos hn]
theorem dec_g {b t : List UInt8} {n1 n2 v2 n3 v3 : Nat} (h1 : Wire.decT b = (t, n1, 0)) (h2 : Wire.dec (b.drop n1) = (v2, n2, 0)) (hv : ¬ 1 < v2) (h3 : Wire.dec (b.drop (n1 + n2)) = (v3, n3, 0)) (hz : ¬ 1099511627776 < v3) (hn : Host.name t = true) : dec b = (⟨t, decide (v2 = 1), (v3 : Int)⟩, n1 + n2 + n3, 0) := by
  unfold dec; rw [h1]; rw [if_neg (by simp)]; unfold decR; rw [h2]; rw [if_neg (by simp), if_neg hv]; dsimp only; rw [h3]; rw [if_neg (by simp), if_neg hz, if_neg (by simp [hn])]
end Pin

end Go.Proofs.YtcmeajaakdaeeaaDoor
