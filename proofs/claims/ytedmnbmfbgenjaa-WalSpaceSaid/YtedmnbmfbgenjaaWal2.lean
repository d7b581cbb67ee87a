/-
  The walk through wal's erase.
-/
import Derived.Test.YtedmnbmfbgenjaaWal
import Derived.StillTailTactics
namespace Go.Proofs.Ytedmnbmfbgenjaa
open Go.RowKit

def zeros (r : List UInt8) : Bool := r.all (· == 0)
/-- What erase does to the disk. -/
def Wal.erase (d : Disk.Dk) (f c en : Int) (r : List UInt8) : Int × Disk.Dk := if zeros r then (0, d) else Extent.write d f c en (List.replicate r.length 0)

theorem zeros_snoc (l : List UInt8) (o k : Nat) (h : o + k < l.length) : zeros ((l.drop o).take (k + 1)) = (zeros ((l.drop o).take k) && (l[o + k]?.getD 0 == 0)) := by
  unfold zeros
  have h1 : k < (l.drop o).length := by rw [List.length_drop]; omega
  rw [← List.take_append_getElem h1, List.all_append]
  simp [h]
theorem row_at (l : List UInt8) (o k : Nat) (h : o + k < l.length) : (l.take o ++ List.replicate k 0 ++ l.drop (o + k))[o + k]?.getD 0 = l[o + k]?.getD 0 := by
  have e : (l.take o ++ List.replicate k (0 : UInt8)).length = o + k := by rw [List.length_append, List.length_take, List.length_replicate]; omega
  rw [List.getElem?_append_right (by omega), e, Nat.sub_self, List.getElem?_drop]; simp
theorem row_set (l : List UInt8) (o k : Nat) (h : o + k < l.length) : (l.take o ++ List.replicate k 0 ++ l.drop (o + k)).set (o + k) 0 = l.take o ++ List.replicate (k + 1) 0 ++ l.drop (o + (k + 1)) := by
  have e : (l.take o ++ List.replicate k (0 : UInt8)).length = o + k := by rw [List.length_append, List.length_take, List.length_replicate]; omega
  rw [List.set_append_right _ _ (by omega), e, Nat.sub_self, List.drop_eq_getElem_cons h, List.set_cons_zero, List.replicate_succ', show o + (k + 1) = o + k + 1 by omega]
  simp

set_option maxRecDepth 100000 in
set_option maxHeartbeats 2000000 in
theorem wl_erase {F : Nat → Prop} {w : World} {g s m : Nat} {fa : Option Addr} {fn fc : Nat} {d : Disk.Dk} (hP : PD F w g s m fa fn fc d) {q : Nat} {L : Wal.L} (hL : LB w q g L) (hf : ib L.f) (hc : ib L.c) (hen : L.en ≤ 1000000)
    {base gb n c0 : Nat} {l : List UInt8} (hO : OwnB base w (.slice (some ⟨gb, 0, none⟩) n c0) l) (hg : ¬ F gb) (hgq : gb ≠ q) (o r : Nat) (hor : o + r = l.length) (hr : r ≤ 1000000) (a : Option Addr) (ca : Nat) (ha : r ≠ 0 → a = some ⟨gb, o, none⟩) (hS : SlB w a r ca (l.drop o)) {z : Int} {d' : Disk.Dk} (hres : Wal.erase d L.f L.c L.en (l.drop o) = (z, d')) :
    Calls Try.prog 67 #[.pointer (some ⟨q, 0, none⟩), .slice a r ca] w fun e w' => e = .returned (.int .i64 z) ∧ ∃ F' w1, But gb w w1 ∧ PD F' w' g s m fa fn fc d' ∧ Upd F w1 F' w' := by
  have hle := hS.le
  go_enter Try.func67, Try.ntmps67
  go_wp2_with fail
  go_loopw [5, 9] (fun cl i wr => ∃ k : Nat, k ≤ r ∧ i = .int .i64 k ∧ cl = .bool (zeros ((l.drop o).take k)) ∧ OwnB base wr (.slice (some ⟨gb, 0, none⟩) n c0) (l.take o ++ List.replicate k 0 ++ l.drop (o + k)) ∧ But gb w wr) (fun _ i _ => r - (intOf i).toNat)
  case atStart => exact ⟨0, by omega, rfl, by simp [zeros], by simpa using hO, But.refl _ _⟩
  case round =>
    obtain ⟨k, hk, rfl, rfl, hOk, hB⟩ := hrel
    by_cases hlt : k < r
    · obtain rfl := ha (by omega)
      have k0 : decide ((k : Int) < (r : Int)) = true := by simp; omega
      have hok : o + k < l.length := by omega
      have hcl := hOk.row (o + k) (by simp; omega)
      rw [row_at l o k hok] at hcl
      have hfr := hOk.free (o + k)
      have HZ := Lib.hid (zeros_snoc l o k hok)
      have HRS := Lib.hid (row_set l o k hok)
      have hst := hOk.set (o + k) 0
      rw [HRS.out] at hst
      have HST := Lib.hid hst
      have HB := Lib.hid (hB.setCell (o + k) (bv 0))
      clear hst hOk hS
      obtain ⟨x, hx⟩ : ∃ x, x = l[o + k]?.getD 0 := ⟨_, rfl⟩
      rw [← hx] at hcl HZ
      obtain ⟨b, hb⟩ : ∃ b, b = zeros ((l.drop o).take k) := ⟨_, rfl⟩
      rw [← hb] at HZ ⊢
      clear hx hb
      change wr.cell? _ = some (.int .u8 (x.toNat : Int)) at hcl
      have hx256 := x.toNat_lt
      cases b
      · go_wp2
        refine ⟨⟨k + 1, by omega, rfl, by rw [HZ.out]; rfl, HST.out, HB.out⟩, by simp [intOf]; omega⟩
      · by_cases hx0 : x = 0
        · have t0 : ((x.toNat : Int) == 0) = true := by subst hx0; rfl
          go_wp2
          refine ⟨⟨k + 1, by omega, rfl, by rw [HZ.out]; subst hx0; rfl, HST.out, HB.out⟩, by simp [intOf]; omega⟩
        · have hx1 : x.toNat ≠ 0 := fun e => hx0 (UInt8.toNat_inj.1 e)
          have t0 : ((x.toNat : Int) == 0) = false := by simp; omega
          have t1 : (x == 0) = false := by simpa using hx0
          go_wp2
          refine ⟨⟨k + 1, by omega, rfl, by rw [HZ.out]; rw [t1]; rfl, HST.out, HB.out⟩, by simp [intOf]; omega⟩
    · obtain rfl : k = r := by omega
      have k0 : decide ((k : Int) < (k : Int)) = false := by simp
      have hall : (l.drop o).take k = l.drop o := List.take_of_length_le (by rw [List.length_drop]; omega)
      have hdr : l.drop (o + k) = [] := List.drop_of_length_le (by omega)
      rw [hdr, List.append_nil] at hOk
      rw [hall]
      have hgF : ∀ x, F x → x ≠ gb := fun x e e2 => hg (e2 ▸ e)
      have hP1 : PD F wr g s m fa fn fc d := hP.stay (fun b hb => hB.block b (hP.lt b hb) (hgF b hb)) hB.size
      have hL1 : LB wr q g L := hL.same (hB.block q hL.lt (fun e => hgq e.symm))
      unfold Wal.erase at hres
      by_cases hz : zeros (l.drop o) = true
      · rw [hz]
        rw [if_pos hz] at hres
        injection hres with e1 e2
        subst e1 e2
        go_wp2
        go_ret
        exact ⟨rfl, F, wr, hB, hP1, Upd.refl F wr⟩
      · have hz' : zeros (l.drop o) = false := by simpa using hz
        rw [hz']
        rw [if_neg hz] at hres
        have hlen : (List.replicate (l.drop o).length (0 : UInt8)) = List.replicate k 0 := by rw [List.length_drop]; congr 1; omega
        rw [hlen] at hres
        have hk0 : k ≠ 0 := by
          rintro rfl
          apply hz; rw [← hall]; simp [zeros]
        obtain rfl := ha hk0
        have hS1 : SlB wr (some ⟨gb, o, none⟩) k ca (List.replicate k 0) := by
          obtain ⟨q1, q2, q3, q4, q5⟩ := hS
          refine ⟨by simp, q2, q3, (fun e => by cases e), fun x hx i hi => ?_⟩
          cases hx
          have hi' : i < k := by simpa using hi
          have hrow := hOk.row (o + i) (by simp; omega)
          have e1 : (l.take o ++ List.replicate k (0 : UInt8))[o + i]?.getD 0 = 0 := by
            have e2 : o + i - (l.take o).length = i := by rw [List.length_take]; omega
            rw [List.getElem?_append_right (by rw [List.length_take]; omega), e2]
            simp [hi']
          rw [e1] at hrow
          have hbt : gb < wr.heap.size := by
            obtain ⟨cs, hcs⟩ := hOk.cells (k := gb) rfl
            exact heap_lt hcs
          refine ⟨rfl, hbt, ?_⟩
          rw [hrow]; simp [bv]
        obtain ⟨h0, h1, h2, h3, h4, h5, h6, h7⟩ := hL1.cells
        have HW := Lib.hid (ex_write_at hP1.drew L.f L.c L.en hf hc (by unfold ib; omega) (hS1.stay (w' := wr.drew) (fun _ _ _ => rfl) (Nat.le_refl _)) (fun y hy _ => by cases hy; exact hg) hres)
        have h0' : wr.drew.cell? ⟨q, 0, none⟩ = some (.pointer (some ⟨g, 0, none⟩)) := h0
        go_wp2_with fail
        refine wp_region_still_tail 13 (by kernel_rfl) (by kernel_rfl) ?_
        simp only [List.take_succ_cons, List.take_zero, List.drop_succ_cons, List.drop_zero]
        repeat still_step
        refine wpStill_nil ?_
        change wpList _ _ _ _ _ wr.drew
        go_wp2_with (go_at_call 50; go_must (refine HW.out.mono ?_); rintro e w6 ⟨rfl, F6, hP6, hU6⟩)
        go_ret
        exact ⟨rfl, F6, wr.drew, ⟨hB.os, hB.tape, hB.output, hB.size, hB.block⟩, hP6, hU6⟩

end Go.Proofs.Ytedmnbmfbgenjaa
