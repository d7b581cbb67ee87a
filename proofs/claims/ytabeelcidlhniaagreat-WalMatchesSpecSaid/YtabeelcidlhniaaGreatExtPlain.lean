/-
  Extents as plain data: the parts of a range, and what reading and writing them does to a disk.
-/
import Derived.Test.YtabeelcidlhniaaGreatDiskPlain
namespace Go.Proofs.YtabeelcidlhniaaGreat
namespace Extent
open Disk (Dk)

/-- Where the k-th part of the bytes off .. e begins. -/
def pos (off e k : Nat) : Nat := max off (min e (64 * (off / 64 + k)))
/-- How many parts there are. -/
def cnt (off e : Nat) : Nat := if off < e then (e + 63) / 64 - off / 64 else 0
/-- How many bytes the part has that begins at p. -/
def step (e p : Nat) : Nat := min (64 - p % 64) (e - p)

theorem pos_zero (off e : Nat) : pos off e 0 = off := by unfold pos; omega
theorem pos_lt (off e k : Nat) (h : off ≤ e) : pos off e k < e ↔ k < cnt off e := by unfold pos cnt; split <;> omega
theorem pos_le (off e k : Nat) (h : off ≤ e) : pos off e k ≤ e := by unfold pos; omega
theorem pos_ge (off e k : Nat) : off ≤ pos off e k := by unfold pos; omega
theorem pos_succ (off e k : Nat) (h : k < cnt off e) : pos off e (k + 1) = pos off e k + step e (pos off e k) := by
  unfold cnt at h; split at h
  · unfold step pos; omega
  · omega
theorem pos_cnt (off e : Nat) (h : off ≤ e) : pos off e (cnt off e) = e := by
  have h1 := pos_lt off e (cnt off e) h
  have h2 := pos_le off e (cnt off e) h
  omega
theorem step_pos {e p : Nat} (h : p < e) : 1 ≤ step e p ∧ step e p ≤ 64 ∧ p % 64 + step e p ≤ 64 ∧ p + step e p ≤ e := by unfold step; omega

/-- Reading: m parts from the k-th on. -/
def rd (first off e : Nat) : Nat → Nat → List UInt8 → Dk → List UInt8 × Int × Dk
  | 0, _, acc, d => (acc, 0, d)
  | m + 1, k, acc, d =>
    match Disk.read d ((first + pos off e k / 64 : Nat) : Int) with
    | (b, z, d') => if z = 0 then rd first off e m (k + 1) (acc ++ (b.drop (pos off e k % 64)).take (step e (pos off e k))) d' else ([], z, d')

/-- Writing: m parts from the k-th on; data is what is left. -/
def wr (first off e : Nat) : Nat → Nat → List UInt8 → Dk → Int × Dk
  | 0, _, _, d => (0, d)
  | m + 1, k, data, d =>
    if step e (pos off e k) < 64 then
      match Disk.read d ((first + pos off e k / 64 : Nat) : Int) with
      | (b, z, d1) =>
        if z = 0 then
          match Disk.write d1 ((first + pos off e k / 64 : Nat) : Int) (b.take (pos off e k % 64) ++ data.take (step e (pos off e k)) ++ b.drop (pos off e k % 64 + step e (pos off e k))) with
          | (z2, d2) => if z2 = 0 then wr first off e m (k + 1) (data.drop (step e (pos off e k))) d2 else (z2, d2)
        else (z, d1)
    else
      match Disk.write d ((first + pos off e k / 64 : Nat) : Int) (data.take (step e (pos off e k))) with
      | (z2, d2) => if z2 = 0 then wr first off e m (k + 1) (data.drop (step e (pos off e k))) d2 else (z2, d2)

def valid (n : Nat) (first count : Int) : Bool := decide (0 ≤ first) && (decide (1 ≤ count) && (decide (count ≤ (n : Int)) && decide (first ≤ (n : Int) - count)))
def size (count : Int) : Int := if count < 0 ∨ 4096 < count then 0 else count * 64
def check (n : Nat) (first count off len : Int) : Int :=
  if valid n first count then (if off < 0 ∨ len < 0 ∨ size count < off ∨ size count - off < len then 2 else 0) else 1
/-- extent.Read. -/
def read (d : Dk) (first count off len : Int) : List UInt8 × Int × Dk :=
  if check d.st.length first count off len = 0 then rd first.toNat off.toNat (off + len).toNat (cnt off.toNat (off + len).toNat) 0 [] d else ([], check d.st.length first count off len, d)
/-- extent.Write. -/
def write (d : Dk) (first count off : Int) (data : List UInt8) : Int × Dk :=
  if check d.st.length first count off data.length = 0 then wr first.toNat off.toNat (off + data.length).toNat (cnt off.toNat (off + data.length).toNat) 0 data d else (check d.st.length first count off data.length, d)

theorem check_ok {n : Nat} {first count off len : Int} (h : check n first count off len = 0) : 0 ≤ first ∧ 1 ≤ count ∧ count ≤ n ∧ first ≤ n - count ∧ 0 ≤ off ∧ 0 ≤ len ∧ off + len ≤ size count := by
  unfold check at h
  split at h
  · rename_i hv
    unfold valid at hv
    simp at hv
    split at h
    · cases h
    · omega
  · cases h

end Extent
end Go.Proofs.YtabeelcidlhniaaGreat
