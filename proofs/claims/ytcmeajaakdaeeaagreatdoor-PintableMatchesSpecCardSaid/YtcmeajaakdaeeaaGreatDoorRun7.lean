/-
  Texts in one: Wire, WireRef.
-/
import Derived.Test.YtcmeajaakdaeeaaGreatDoorRun1
import Derived.OwnWalk
import Derived.IntWalk
import Derived.Deep.DeepMust
import Derived.Deep.QuietTactic
import Derived.BigQuiet
import Derived.Lib.AppendStr
/-
  The walks through the package wire: AppendUint, AppendText, Uint, Text.
-/
namespace Go.Proofs.YtcmeajaakdaeeaaGreatDoor
open Go.RowKit


theorem SlB.oneZ (w : World) (z : Int) (b : UInt8) (h : z = (b.toNat : Int)) (t : TypeId) : SlB (w.alloc (.cells #[.int .u8 z] t)) (some ⟨w.heap.size, 0, none⟩) 1 1 [b] := by subst h; exact SlB.one w b t


theorem wpList_append_strB {w : World} {ops : Array Oper} {rest : List Oper} {o : Oper} {a : Act} {Q : Exit → Act → World → Prop} (hgd : o.guard = none) (s x : Operand)
    (ho : o.op = .call { callee := .builtin .append, args := #[s, x], argTypes := #[100, 9] })
    (base : Nat) (v : Value) (l : List UInt8) (hs : a.eval s = v) (hown : OwnB base w v l) (t : List UInt8) (hx : a.eval x = .string (str t))
    (hlen : l.length + t.length ≤ 140737488355328) (hbase : base ≤ w.heap.size)
    (h : ∀ v' w', OwnB base w' v' (l ++ t) → w.grownBy w' v.ownBlock → wpList Tryz.prog ops Q rest (a.put o.dst v') w') : wpList Tryz.prog ops Q (o :: rest) a w := by
  obtain ⟨i0, hi, hz0, hz1, hz2⟩ := info_parts info5
  have hsz : (str t).size = t.length := by simp [str, ByteArray.size]
  refine Lib.wpList_append_own_string w hgd s x 100 9 ho base 5 i0 Tryz.underlying100 Tryz.underlying9 hi hz0 hz1 hz2 v l.length (l.map bv) hs hown (str t) hx (by rw [hsz]; unfold maxLen; omega) (by rw [hsz]; omega) hbase ?_
  intro v' w' h1 h2 _
  refine h v' w' ?_ h2
  unfold OwnB
  rw [List.length_append, List.map_append]
  rw [hsz] at h1
  exact h1


namespace Wire
theorem run_at {b : List UInt8} {k : Nat} (hB : ∀ j (hj : j < b.length), j < k → 128 ≤ (b[j]).toNat) (hk : k < b.length) (hx : (b[k]?.getD 0).toNat < 128) : run b = k :=
  run_eq hB (Nat.le_of_lt hk) (fun h => by rw [List.getElem?_eq_getElem h] at hx; exact hx)
theorem dec_trunc {b : List UInt8} {k : Nat} (hB : ∀ j (hj : j < b.length), j < k → 128 ≤ (b[j]).toNat) (hk : k = b.length) (h10 : k < 10) : dec b = (0, 0, 5) := by
  have hr : run b = k := run_eq hB (by omega) (fun h => by omega)
  unfold dec; rw [hr, if_neg (by omega), if_pos hk]
theorem dec_over {b : List UInt8} (hB : ∀ j (hj : j < b.length), j < 10 → 128 ≤ (b[j]).toNat) (hk : 10 ≤ b.length) : dec b = (0, 0, 19) := by
  have hr : 10 ≤ run b := run_ge hB hk
  unfold dec; rw [if_pos hr]
theorem big_snoc {b : List UInt8} {k : Nat} (hB : ∀ j (hj : j < b.length), j < k → 128 ≤ (b[j]).toNat) (hx : 128 ≤ (b[k]?.getD 0).toNat) : ∀ j (hj : j < b.length), j < k + 1 → 128 ≤ (b[j]).toNat := by
  intro j hj hk
  rcases Nat.lt_or_ge j k with h | h
  · exact hB j hj h
  · obtain rfl : j = k := by omega
    rw [List.getElem?_eq_getElem hj] at hx; exact hx
theorem dec_top {b : List UInt8} (hB : ∀ j (hj : j < b.length), j < 9 → 128 ≤ (b[j]).toNat) (hk : 9 < b.length) (hx : (b[9]?.getD 0).toNat < 128) (h1 : 1 < (b[9]?.getD 0).toNat) : dec b = (0, 0, 19) := by
  have hr := run_at hB hk hx
  unfold dec; rw [hr, if_neg (by omega), if_neg (by omega), if_pos ⟨rfl, by rw [List.getD_eq_getElem?_getD]; exact h1⟩]
theorem dec_form {b : List UInt8} {k : Nat} (hB : ∀ j (hj : j < b.length), j < k → 128 ≤ (b[j]).toNat) (hk : k < b.length) (h10 : k < 10) (hx : (b[k]?.getD 0).toNat = 0) (h0 : 0 < k) : dec b = (0, 0, 6) := by
  have hr := run_at hB hk (by omega)
  have hz : b.getD k 0 = 0 := UInt8.toNat_inj.1 (by rw [List.getD_eq_getElem?_getD]; exact hx)
  unfold dec
  rw [hr, if_neg (by omega), if_neg (by omega), if_neg (by rintro ⟨rfl, h⟩; rw [hz] at h; exact absurd h (by decide)), if_pos ⟨h0, hz⟩]
theorem dec_done {b : List UInt8} {k : Nat} (hB : ∀ j (hj : j < b.length), j < k → 128 ≤ (b[j]).toNat) (hk : k < b.length) (h10 : k < 10) (hx : (b[k]?.getD 0).toNat < 128) (h0 : 0 < k → (b[k]?.getD 0).toNat ≠ 0) (h9 : k = 9 → (b[k]?.getD 0).toNat ≤ 1) :
    dec b = (val (b.take k) + 128 ^ k * ((b[k]?.getD 0).toNat % 128), k + 1, 0) := by
  have hr := run_at hB hk hx
  have hd : b.getD k 0 = b[k]?.getD 0 := List.getD_eq_getElem?_getD
  unfold dec
  rw [hr, if_neg (by omega), if_neg (by omega), if_neg (by rintro ⟨rfl, h⟩; rw [hd] at h; have := h9 rfl; omega), if_neg (by rintro ⟨h, e⟩; rw [hd] at e; exact h0 h (by rw [e]; rfl))]
  have hsn : b.take (k + 1) = b.take k ++ [b[k]] := (List.take_append_getElem hk).symm
  rw [hsn, val_snoc, List.length_take, Nat.min_eq_left (Nat.le_of_lt hk), List.getElem?_eq_getElem hk]; rfl
theorem val_take_lt {b : List UInt8} {k : Nat} (hk : k ≤ b.length) : val (b.take k) < 128 ^ k := by
  have := val_lt (b.take k); rwa [List.length_take, Nat.min_eq_left hk] at this
theorem val_take_succ {b : List UInt8} {k : Nat} (hk : k < b.length) : val (b.take (k + 1)) = val (b.take k) + 128 ^ k * ((b[k]?.getD 0).toNat % 128) := by
  have hsn : b.take (k + 1) = b.take k ++ [b[k]] := (List.take_append_getElem hk).symm
  rw [hsn, val_snoc, List.length_take, Nat.min_eq_left (Nat.le_of_lt hk), List.getElem?_eq_getElem hk]; rfl
end Wire
theorem or_part9 (V m Y : Nat) (h : bits BinOp.or IntKind.u64 (V : Int) (IntKind.u64.wrap ((m : Int) * 2 ^ (7 * 9))) = (Y : Int)) (hm : m ≤ 1) : bits BinOp.or IntKind.u64 (V : Int) ((m : Int) * 9223372036854775808) = (Y : Int) := by
  have e : IntKind.u64.wrap ((m : Int) * 2 ^ (7 * 9)) = (m : Int) * 9223372036854775808 := by
    unfold IntKind.wrap; simp only [IntKind.bits, IntKind.signed]; simp; omega
  rwa [e] at h
theorem or_part (V m k : Nat) (hk : k < 10) (hV : V < 128 ^ k) (hm : m < 128) (h9 : k = 9 → m ≤ 1) : bits BinOp.or IntKind.u64 (V : Int) (IntKind.u64.wrap ((m : Int) * 2 ^ (7 * k))) = ((V + 128 ^ k * m : Nat) : Int) := by
  have e7 : (2 : Nat) ^ (7 * k) = 128 ^ k := by rw [Nat.pow_mul]
  have hp : 128 ^ k * m < 18446744073709551616 := by
    rcases Nat.lt_or_ge k 9 with h | h
    · have h1 : 128 ^ k ≤ 128 ^ 8 := Nat.pow_le_pow_right (by decide) (by omega)
      have h2 : 128 ^ k * m ≤ 128 ^ 8 * 127 := Nat.mul_le_mul h1 (by omega)
      omega
    · obtain rfl : k = 9 := by omega
      have := h9 rfl; omega
  have hv2 : V < 18446744073709551616 := by
    have h1 : 128 ^ k ≤ 128 ^ 9 := Nat.pow_le_pow_right (by decide) (by omega)
    omega
  have hw : IntKind.u64.wrap ((m : Int) * 2 ^ (7 * k)) = ((128 ^ k * m : Nat) : Int) := by
    have e8 : ((m : Int) * 2 ^ (7 * k)) = ((128 ^ k * m : Nat) : Int) := by
      rw [← e7]; push_cast; exact Int.mul_comm _ _
    rw [e8]; generalize 128 ^ k * m = q at *
    unfold IntKind.wrap; simp only [IntKind.bits, IntKind.signed]; simp; omega
  rw [hw, u64_or_nat _ _ hv2 hp, Nat.add_comm, ← e7, Nat.two_pow_add_eq_or_of_lt (by rw [e7]; exact hV), Nat.or_comm]


theorem Wire.dec_le {b : List UInt8} {v n : Nat} (h : Wire.dec b = (v, n, 0)) : n ≤ b.length ∧ n ≤ 10 := by
  obtain ⟨_, h1, _, h2, _⟩ := Wire.enc_dec h; exact ⟨h1, h2⟩
theorem str_mk (l : List UInt8) : (⟨l.toArray⟩ : ByteArray) = str l := rfl


end Go.Proofs.YtcmeajaakdaeeaaGreatDoor

/-
  The walks through the reference of the wire encodings: Uint, Text, DecodeUint, DecodeText.
-/
namespace Go.Proofs.YtcmeajaakdaeeaaGreatDoor
open Go.RowKit



namespace Wire
theorem val_drop_le : ∀ (l : List UInt8) (j : Nat), val (l.drop j) ≤ val l
  | [], j => by simp
  | x :: l, 0 => Nat.le_refl _
  | x :: l, j + 1 => by
    have := val_drop_le l j
    simp only [List.drop_succ_cons, val]; omega
theorem val_drop_step {l : List UInt8} {j : Nat} (h : j < l.length) : val (l.drop j) = (l[j]).toNat % 128 + 128 * val (l.drop (j + 1)) := by
  rw [List.drop_eq_getElem_cons h]; rfl
end Wire



end Go.Proofs.YtcmeajaakdaeeaaGreatDoor
