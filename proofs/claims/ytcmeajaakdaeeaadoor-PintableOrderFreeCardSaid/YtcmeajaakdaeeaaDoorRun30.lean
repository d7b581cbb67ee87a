/-
  Pins as plain functions: which are valid, their encoding. No program stands in this text.
-/
import Derived.Test.YtcmeajaakdaeeaaDoorRun6
namespace Go.Proofs.YtcmeajaakdaeeaaDoor

/-- A pin. -/
structure Pin where
  h : List UInt8
  s : Bool
  x : Int
  deriving DecidableEq

namespace Pin
def none : Pin := ⟨[], false, 0⟩
def valid (p : Pin) : Bool := Host.name p.h && (decide (0 ≤ p.x) && decide (p.x ≤ 1099511627776))
def enc (p : Pin) : List UInt8 := Wire.txt p.h ++ (Wire.enc (if p.s then 1 else 0) ++ Wire.enc p.x.toNat)
/-- The pin behind its host. -/
def decR (t : List UInt8) (n : Nat) (b : List UInt8) : Pin × Nat × Int :=
  if (Wire.dec (b.drop n)).2.2 ≠ 0 then (none, 0, (Wire.dec (b.drop n)).2.2) else if 1 < (Wire.dec (b.drop n)).1 then (none, 0, 6) else
    if (Wire.dec (b.drop (n + (Wire.dec (b.drop n)).2.1))).2.2 ≠ 0 then (none, 0, (Wire.dec (b.drop (n + (Wire.dec (b.drop n)).2.1))).2.2) else
      if 1099511627776 < (Wire.dec (b.drop (n + (Wire.dec (b.drop n)).2.1))).1 then (none, 0, 2) else if Host.name t = false then (none, 0, 14) else
        (⟨t, decide ((Wire.dec (b.drop n)).1 = 1), ((Wire.dec (b.drop (n + (Wire.dec (b.drop n)).2.1))).1 : Int)⟩, n + (Wire.dec (b.drop n)).2.1 + (Wire.dec (b.drop (n + (Wire.dec (b.drop n)).2.1))).2.1, 0)
/-- The pin at the beginning of bytes, how many bytes it has, an error. -/
def dec (b : List UInt8) : Pin × Nat × Int :=
  if (Wire.decT b).2.2 ≠ 0 then (none, 0, (Wire.decT b).2.2) else decR (Wire.decT b).1 (Wire.decT b).2.1 b

theorem valid_iff (p : Pin) : valid p = true ↔ Host.name p.h = true ∧ 0 ≤ p.x ∧ p.x ≤ 1099511627776 := by
  unfold valid; simp
theorem name_len {l : List UInt8} (h : Host.name l = true) : l.length ≤ 253 := by
  unfold Host.name at h; rw [Bool.and_eq_true] at h; simpa using h.1
theorem enc_len {p : Pin} (h : valid p = true) : (enc p).length ≤ 283 ∧ 4 ≤ (enc p).length := by
  obtain ⟨h1, h2, h3⟩ := (valid_iff p).1 h
  have h4 := name_len h1
  have a1 := Wire.enc_len (v := p.h.length) (by omega)
  have a2 := Wire.enc_len (v := if p.s then 1 else 0) (by split <;> omega)
  have a3 := Wire.enc_len (v := p.x.toNat) (by omega)
  have a4 : 1 ≤ p.h.length := by
    rcases Nat.eq_zero_or_pos p.h.length with e | e
    · exfalso
      have e0 := List.eq_nil_of_length_eq_zero e
      rw [e0] at h1
      have : Host.name [] = false := by decide +kernel
      rw [this] at h1; cases h1
    · exact e
  unfold enc Wire.txt
  simp only [List.length_append]
  have a5 : (Wire.enc p.h.length).length ≤ 10 := a1.2
  omega
theorem dec_enc {p : Pin} (h : valid p = true) (t : List UInt8) : dec (enc p ++ t) = (p, (enc p).length, 0) := by
  obtain ⟨h1, h2, h3⟩ := (valid_iff p).1 h
  have h4 := name_len h1
  have e1 : Wire.decT (enc p ++ t) = (p.h, (Wire.txt p.h).length, 0) := by
    unfold enc; rw [List.append_assoc]; exact Wire.decT_txt (by omega) _
  have d1 : (enc p ++ t).drop (Wire.txt p.h).length = Wire.enc (if p.s then 1 else 0) ++ (Wire.enc p.x.toNat ++ t) := by
    unfold enc; rw [List.append_assoc, List.drop_left, List.append_assoc]
  have e2 : Wire.dec (Wire.enc (if p.s then 1 else 0) ++ (Wire.enc p.x.toNat ++ t)) = ((if p.s then 1 else 0), (Wire.enc (if p.s then 1 else 0)).length, 0) := Wire.dec_enc (by split <;> omega) _
  have d2 : (enc p ++ t).drop ((Wire.txt p.h).length + (Wire.enc (if p.s then 1 else 0)).length) = Wire.enc p.x.toNat ++ t := by
    rw [← List.drop_drop, d1, List.drop_left]
  have e3 : Wire.dec (Wire.enc p.x.toNat ++ t) = (p.x.toNat, (Wire.enc p.x.toNat).length, 0) := Wire.dec_enc (by omega) _
  unfold dec
  rw [e1]
  simp only [ne_eq, not_true_eq_false, if_false]
  unfold decR
  rw [d1, e2]
  simp only [ne_eq, not_true_eq_false, if_false]
  rw [d2, e3]
  simp only [not_true_eq_false, if_false]
  rw [if_neg (by split <;> omega), if_neg (by omega), if_neg (by simp [h1])]
  refine Prod.ext ?_ (Prod.ext ?_ rfl)
  · obtain ⟨ph, ps, px⟩ := p
    have e4 : ((px.toNat : Nat) : Int) = px := by simp only at h2; omega
    cases ps <;> simp [e4]
  · simp only [enc, List.length_append]; omega
theorem enc_dec {b : List UInt8} {p : Pin} {n : Nat} (h : dec b = (p, n, 0)) : valid p = true ∧ b.take n = enc p ∧ n ≤ b.length := by
  unfold dec at h
  by_cases c1 : (Wire.decT b).2.2 ≠ 0
  · rw [if_pos c1] at h; injection h with _ h; injection h with _ h; exact absurd h c1
  rw [if_neg c1] at h
  obtain ⟨t, n1, z1, e1⟩ : ∃ t n1 z1, Wire.decT b = (t, n1, z1) := ⟨_, _, _, rfl⟩
  rw [e1] at h c1
  have c1 : z1 = 0 := by simpa using c1
  subst c1
  obtain ⟨f1, f2, f3, f4, f5⟩ := Wire.txt_decT e1
  change decR t n1 b = _ at h
  unfold decR at h
  obtain ⟨v2, n2, z2, e2⟩ : ∃ v2 n2 z2, Wire.dec (b.drop n1) = (v2, n2, z2) := ⟨_, _, _, rfl⟩
  rw [e2] at h
  dsimp only at h
  by_cases c2 : z2 ≠ 0
  · rw [if_pos c2] at h; injection h with _ h; injection h with _ h; exact absurd h c2
  rw [if_neg c2] at h
  obtain rfl : z2 = 0 := by simpa using c2
  obtain ⟨g1, g2, g3, g4, g5⟩ := Wire.enc_dec e2
  by_cases c3 : 1 < v2
  · rw [if_pos c3] at h; cases h
  rw [if_neg c3] at h
  obtain ⟨v3, n3, z3, e3⟩ : ∃ v3 n3 z3, Wire.dec (b.drop (n1 + n2)) = (v3, n3, z3) := ⟨_, _, _, rfl⟩
  rw [e3] at h
  dsimp only at h
  by_cases c4 : z3 ≠ 0
  · rw [if_pos c4] at h; injection h with _ h; injection h with _ h; exact absurd h c4
  rw [if_neg c4] at h
  obtain rfl : z3 = 0 := by simpa using c4
  obtain ⟨k1, k2, k3, k4, k5⟩ := Wire.enc_dec e3
  by_cases c5 : 1099511627776 < v3
  · rw [if_pos c5] at h; cases h
  rw [if_neg c5] at h
  by_cases c6 : Host.name t = false
  · rw [if_pos c6] at h; cases h
  rw [if_neg c6] at h
  injection h with hp h
  injection h with hn _
  subst hp
  subst hn
  have hv2 : (if decide (v2 = 1) = true then 1 else 0) = v2 := by
    rcases Nat.eq_zero_or_pos v2 with e | e
    · subst e; rfl
    · obtain rfl : v2 = 1 := by omega
      rfl
  rw [List.length_drop] at g2 k2
  refine ⟨(valid_iff _).2 ⟨by simpa using c6, by simp, by simp only; omega⟩, ?_, by omega⟩
  rw [Nat.add_assoc, List.take_add, f1, List.take_add, g1, List.drop_drop, k1]
  unfold enc
  simp only [hv2, Int.toNat_natCast]

end Pin
end Go.Proofs.YtcmeajaakdaeeaaDoor
