/-
  The walks through the reference of the package superblock.
-/
import Derived.Test.YtolagcnndepjbaaSuper
namespace Go.Proofs.Ytolagcnndepjbaa
open Go.RowKit

def lenV : Value → Nat
  | .slice _ n _ => n
  | _ => 0

set_option maxRecDepth 100000 in
theorem sref_valid (s : Super.S) (w : World) :
    Calls Try.prog 19 #[sv s] w fun e w' => e = .returned (.bool (Super.valid s)) ∧ Below w.heap.size w w' := by
  obtain ⟨gen, act, epoch, len, sum⟩ := s
  unfold sv
  have hv : Super.valid ⟨gen, act, epoch, len, sum⟩ = ((act == 0 || act == 1) && decide (0 ≤ len) && decide (len ≤ 262144)) := rfl
  rw [hv]; clear hv
  by_cases h0 : act = 0
  · have t0 : (act == 0) = true := by simp [h0]
    clear h0
    by_cases h1 : 0 ≤ len
    · go_enter Try.func19, Try.ntmps19
      go_wp2
      go_ret
      exact ⟨by simp [t0, h1], (Below.refl _ _).alloc (Nat.le_refl _) _⟩
    · go_enter Try.func19, Try.ntmps19
      go_wp2
      go_ret
      exact ⟨by simp; omega, (Below.refl _ _).alloc (Nat.le_refl _) _⟩
  · have t0 : (act == 0) = false := by simp [h0]
    by_cases h2 : act = 1
    · have t1 : (act == 1) = true := by simp [h2]
      clear h0 h2
      by_cases h1 : 0 ≤ len
      · go_enter Try.func19, Try.ntmps19
        go_wp2
        go_ret
        exact ⟨by simp [t1, h1], (Below.refl _ _).alloc (Nat.le_refl _) _⟩
      · go_enter Try.func19, Try.ntmps19
        go_wp2
        go_ret
        exact ⟨by simp; omega, (Below.refl _ _).alloc (Nat.le_refl _) _⟩
    · have t1 : (act == 1) = false := by simp [h2]
      clear h0 h2
      go_enter Try.func19, Try.ntmps19
      go_wp2
      go_ret
      exact ⟨by simp [t0, t1], (Below.refl _ _).alloc (Nat.le_refl _) _⟩

set_option maxRecDepth 100000 in
theorem sref_encode0 (gen act epoch len sum : Nat) (h1 : gen < 18446744073709551616) (h2 : epoch < 4294967296) (h3 : sum < 4294967296) (h4 : len ≤ 262144) (h5 : act < 2) (hv : Super.valid ⟨gen, act, epoch, len, sum⟩ = true) (w : World) :
    Calls Try.prog 15 #[sv ⟨gen, act, epoch, len, sum⟩] w fun e w' => ∃ v, e = .returned (.tuple #[v, .int .i64 0]) ∧ OwnB w.heap.size w' v (Super.enc ⟨gen, act, epoch, len, sum⟩) ∧ Below w.heap.size w w' := by
  have hV := sref_valid ⟨gen, act, epoch, len, sum⟩
  rw [hv] at hV
  have HV := Lib.hid hV; clear hV hv
  have hbox : SBox (w.alloc (.cells #[.int .u64 gen, .int .i64 act, .int .u32 epoch, .int .i64 len, .int .u32 sum] 25)) w.heap.size ⟨gen, act, epoch, len, sum⟩ := heap_alloc_eq _ _ _ rfl
  have HB := Lib.hid hbox; clear hbox
  have HP := Lib.hid (Super.body_parts gen act epoch len sum h1 h2 h3 (by omega))
  go_enter Try.func15, Try.ntmps15
  unfold sv at *
  go_wp2_with fail
  refine (HV.out _).mono ?_; rintro e w1 ⟨rfl, hb1⟩
  have hB1 : SBox w1 w.heap.size ⟨gen, act, epoch, len, sum⟩ := (hb1.block _ (by simp)).trans HB.out
  have hbw1 : Below w.heap.size w w1 := ((Below.refl _ _).alloc (Nat.le_refl _) _).trans (hb1.mono (by simp))
  have hs1 : w.heap.size < w1.heap.size := by have := hb1.size; simp at this; omega
  obtain ⟨c0, c1, c2, c3, c4⟩ := hB1.cells
  have hA : #[Value.int .u8 72, .int .u8 83, .int .u8 84, .int .u8 83, .int .u8 1, .int .u8 (act : Int)] = (([72, 83, 84, 83, 1, UInt8.ofNat act] : List UInt8).map bv).toArray := by
    simp only [List.map_cons, List.map_nil, bv]
    rw [Crc.toNat_ofNat8 (show act < 256 by omega)]; rfl
  have hO1 : OwnB (w.heap.size + 1) (w1.alloc (.cells #[Value.int .u8 72, .int .u8 83, .int .u8 84, .int .u8 83, .int .u8 1, .int .u8 (act : Int)] 5)) (.slice (some ⟨w1.heap.size, 0, none⟩) 6 6) [72, 83, 84, 83, 1, UInt8.ofNat act] := by
    rw [hA]; exact OwnB.built w1 _ hs1 (by simp [maxLen])
  have hBa : SBox (w1.alloc (.cells #[Value.int .u8 72, .int .u8 83, .int .u8 84, .int .u8 83, .int .u8 1, .int .u8 (act : Int)] 5)) w.heap.size ⟨gen, act, epoch, len, sum⟩ := (heap_alloc_lt _ _ _ hs1).trans hB1
  have hba := hbw1.alloc (Nat.le_of_lt hs1) (.cells #[Value.int .u8 72, .int .u8 83, .int .u8 84, .int .u8 83, .int .u8 1, .int .u8 (act : Int)] 5)
  have HO1 := Lib.hid hO1; have HBa := Lib.hid hBa; have Hba := Lib.hid hba
  clear hA hO1 hBa hba
  go_wp2_with fail
  rw [show ((gen : Int) % 4294967296) = ((gen % 4294967296 : Nat) : Int) by omega]
  have hO := HO1.out; have hB := HBa.out; have hb := Hba.out
  clear HO1 HBa Hba c0 c1 c2 c3 c4
  refine (ref_fixed (gen % 4294967296) (by omega) _).mono ?_; rintro e y0 ⟨x0, rfl, hx0, hy0⟩
  have hO' := hO.ext hy0
  have hB' : SBox y0 w.heap.size ⟨gen, act, epoch, len, sum⟩ := (hy0.block _ (heap_lt hB)).trans hB
  have hb' := hb.trans (hy0.mono hb.size)
  have hlt := heap_lt hB'
  have hob := hO'.lt
  clear hO hB hb
  go_wp2_with (first | (at_builtin; refine wpList_append_bytes rfl _ _ rfl (w.heap.size + 1) (.slice (some ⟨w1.heap.size, 0, none⟩) 6 6) ([72, 83, 84, 83, 1, UInt8.ofNat act]) rfl hO' (some x0) 4 4 _ rfl hx0 (by simp) hlt ?_; intro v0 z0 hO hg0 _; have hB : SBox z0 w.heap.size ⟨gen, act, epoch, len, sum⟩ := (hg0.block _ hlt (fun e => by have := (hob _ e.symm).1; omega)).trans hB'; have hb : Below w.heap.size w z0 := hb'.grown hg0 (Nat.le_of_lt hlt) (fun k hk => Nat.le_of_succ_le (hob k hk).1); clear hO' hB' hb' hlt hob hg0; obtain ⟨c0, c1, c2, c3, c4⟩ := hB.cells))
  rw [show ((gen : Int) / 4294967296) = ((gen / 4294967296 : Nat) : Int) by omega]
  refine (ref_fixed (gen / 4294967296) (by omega) _).mono ?_; rintro e y1 ⟨x1, rfl, hx1, hy1⟩
  have hO' := hO.ext hy1
  have hB' : SBox y1 w.heap.size ⟨gen, act, epoch, len, sum⟩ := (hy1.block _ (heap_lt hB)).trans hB
  have hb' := hb.trans (hy1.mono hb.size)
  have hlt := heap_lt hB'
  have hob := hO'.lt
  clear hO hB hb
  go_wp2_with (first | (at_builtin; refine wpList_append_bytes rfl _ _ rfl (w.heap.size + 1) v0 ([72, 83, 84, 83, 1, UInt8.ofNat act] ++ Crc.fix4 (gen % 4294967296)) rfl hO' (some x1) 4 4 _ rfl hx1 (by simp [Crc.fix4]) hlt ?_; intro v1 z1 hO hg1 _; have hB : SBox z1 w.heap.size ⟨gen, act, epoch, len, sum⟩ := (hg1.block _ hlt (fun e => by have := (hob _ e.symm).1; omega)).trans hB'; have hb : Below w.heap.size w z1 := hb'.grown hg1 (Nat.le_of_lt hlt) (fun k hk => Nat.le_of_succ_le (hob k hk).1); clear hO' hB' hb' hlt hob hg1; obtain ⟨c0, c1, c2, c3, c4⟩ := hB.cells))
  refine (ref_fixed epoch (by omega) _).mono ?_; rintro e y2 ⟨x2, rfl, hx2, hy2⟩
  have hO' := hO.ext hy2
  have hB' : SBox y2 w.heap.size ⟨gen, act, epoch, len, sum⟩ := (hy2.block _ (heap_lt hB)).trans hB
  have hb' := hb.trans (hy2.mono hb.size)
  have hlt := heap_lt hB'
  have hob := hO'.lt
  clear hO hB hb
  go_wp2_with (first | (at_builtin; refine wpList_append_bytes rfl _ _ rfl (w.heap.size + 1) v1 ([72, 83, 84, 83, 1, UInt8.ofNat act] ++ Crc.fix4 (gen % 4294967296) ++ Crc.fix4 (gen / 4294967296)) rfl hO' (some x2) 4 4 _ rfl hx2 (by simp [Crc.fix4]) hlt ?_; intro v2 z2 hO hg2 _; have hB : SBox z2 w.heap.size ⟨gen, act, epoch, len, sum⟩ := (hg2.block _ hlt (fun e => by have := (hob _ e.symm).1; omega)).trans hB'; have hb : Below w.heap.size w z2 := hb'.grown hg2 (Nat.le_of_lt hlt) (fun k hk => Nat.le_of_succ_le (hob k hk).1); clear hO' hB' hb' hlt hob hg2; obtain ⟨c0, c1, c2, c3, c4⟩ := hB.cells))
  refine (ref_fixed len (by omega) _).mono ?_; rintro e y3 ⟨x3, rfl, hx3, hy3⟩
  have hO' := hO.ext hy3
  have hB' : SBox y3 w.heap.size ⟨gen, act, epoch, len, sum⟩ := (hy3.block _ (heap_lt hB)).trans hB
  have hb' := hb.trans (hy3.mono hb.size)
  have hlt := heap_lt hB'
  have hob := hO'.lt
  clear hO hB hb
  go_wp2_with (first | (at_builtin; refine wpList_append_bytes rfl _ _ rfl (w.heap.size + 1) v2 ([72, 83, 84, 83, 1, UInt8.ofNat act] ++ Crc.fix4 (gen % 4294967296) ++ Crc.fix4 (gen / 4294967296) ++ Crc.fix4 epoch) rfl hO' (some x3) 4 4 _ rfl hx3 (by simp [Crc.fix4]) hlt ?_; intro v3 z3 hO hg3 _; have hB : SBox z3 w.heap.size ⟨gen, act, epoch, len, sum⟩ := (hg3.block _ hlt (fun e => by have := (hob _ e.symm).1; omega)).trans hB'; have hb : Below w.heap.size w z3 := hb'.grown hg3 (Nat.le_of_lt hlt) (fun k hk => Nat.le_of_succ_le (hob k hk).1); clear hO' hB' hb' hlt hob hg3; obtain ⟨c0, c1, c2, c3, c4⟩ := hB.cells))
  refine (ref_fixed sum (by omega) _).mono ?_; rintro e y4 ⟨x4, rfl, hx4, hy4⟩
  have hO' := hO.ext hy4
  have hB' : SBox y4 w.heap.size ⟨gen, act, epoch, len, sum⟩ := (hy4.block _ (heap_lt hB)).trans hB
  have hb' := hb.trans (hy4.mono hb.size)
  have hlt := heap_lt hB'
  have hob := hO'.lt
  clear hO hB hb
  go_wp2_with (first | (at_builtin; refine wpList_append_bytes rfl _ _ rfl (w.heap.size + 1) v3 ([72, 83, 84, 83, 1, UInt8.ofNat act] ++ Crc.fix4 (gen % 4294967296) ++ Crc.fix4 (gen / 4294967296) ++ Crc.fix4 epoch ++ Crc.fix4 len) rfl hO' (some x4) 4 4 _ rfl hx4 (by simp [Crc.fix4]) hlt ?_; intro v4 z4 hO hg4 _; have hB : SBox z4 w.heap.size ⟨gen, act, epoch, len, sum⟩ := (hg4.block _ hlt (fun e => by have := (hob _ e.symm).1; omega)).trans hB'; have hb : Below w.heap.size w z4 := hb'.grown hg4 (Nat.le_of_lt hlt) (fun k hk => Nat.le_of_succ_le (hob k hk).1); clear hO' hB' hb' hlt hob hg4; obtain ⟨c0, c1, c2, c3, c4⟩ := hB.cells))
  obtain ⟨L8, hL8⟩ : ∃ L, L = [72, 83, 84, 83, 1, UInt8.ofNat act] ++ Crc.fix4 (gen % 4294967296) ++ Crc.fix4 (gen / 4294967296) ++ Crc.fix4 epoch ++ Crc.fix4 len ++ Crc.fix4 sum := ⟨_, rfl⟩
  have hO8 : OwnB (w.heap.size + 1) z4 v4 (L8 ++ List.replicate 0 0) := by rw [hL8]; simpa using hO
  have hl8 : L8.length = 26 := by rw [hL8]; simp [Crc.fix4]
  have HL8 := Lib.hid hL8
  have HL26 := Lib.hid hl8
  have hs4 := heap_lt hB
  clear hO hL8 hl8 hB c0 c1 c2 c3 c4
  go_loopw [4] (fun v wr => ∃ k : Nat, k ≤ 34 ∧ OwnB (w.heap.size + 1) wr v (L8 ++ List.replicate k 0) ∧ w.heap.size < wr.heap.size ∧ Below w.heap.size w wr) (fun v _ => 60 - lenV v)
  case atStart => exact ⟨0, Nat.zero_le _, hO8, hs4, hb⟩
  case round =>
    obtain ⟨k, hk, hOk, hsk, hbk⟩ := hrel
    obtain ⟨a, c, hv, hsl, -⟩ := id hOk.sl
    have hlen : (L8 ++ List.replicate k 0).length = 26 + k := by simp [HL26.out]
    rw [hlen] at hv hsl
    subst hv
    by_cases hlt : k < 34
    · have ht : ((26 + k : Nat) : Int) < 60 := by omega
      have hOk1 := OwnB.alloc hOk (.cells #[bv 0] 5)
      have hob := hOk1.lt
      clear hlen
      go_wp2_with (first | (at_builtin; refine wpList_append_bytes rfl _ _ rfl (w.heap.size + 1) _ (L8 ++ List.replicate k 0) rfl hOk1 (some ⟨wr.heap.size, 0, none⟩) 1 1 [0] rfl (SlB.one wr 0 _) (by simp [HL26.out]; omega) (by simp; omega) ?_; intro v' w' hO' hg' _))
      have hL : L8 ++ List.replicate k 0 ++ [0] = L8 ++ List.replicate (k + 1) 0 := by rw [List.append_assoc, ← List.replicate_succ']
      rw [hL] at hO'
      obtain ⟨a', c', hv', -, -⟩ := id hO'.sl
      have hlen' : (L8 ++ List.replicate (k + 1) 0).length = 26 + (k + 1) := by simp [HL26.out]
      rw [hlen'] at hv'
      have hsz := hg'.size
      simp at hsz
      refine ⟨⟨k + 1, by omega, hO', by omega, (hbk.alloc (Nat.le_of_lt hsk) _).grown hg' (by simp; omega) (fun j hj => Nat.le_of_succ_le (hob j hj).1)⟩, ?_⟩
      rw [hv']; simp only [lenV]; omega
    · obtain rfl : k = 34 := by omega
      have ht : ¬ ((26 + 34 : Nat) : Int) < 60 := by omega
      have hbody : L8 ++ List.replicate 34 0 = Super.body ⟨gen, act, epoch, len, sum⟩ := by rw [HL8.out, HP.out]
      rw [hbody] at hOk hsl
      clear hbody hlen
      have hsl60 : SlB wr a 60 c (Super.body ⟨gen, act, epoch, len, sum⟩) := hsl
      have hUl := Crc.update_lt 0 (Super.body ⟨gen, act, epoch, len, sum⟩)
      clear hsl
      go_wp2_with fail
      refine (ref_sum _ _ _ _ _ hsl60).mono ?_; rintro e w9 ⟨rfl, rfl⟩
      go_wp2_with fail
      refine (ref_fixed _ hUl _).mono ?_; rintro e y9 ⟨x9, rfl, hx9, hy9⟩
      have hO9 := OwnB.mono (hOk.ext hy9) (Nat.le_succ _)
      have hb9 := hbk.trans (hy9.mono hbk.size)
      have hob9 := hO9.lt
      have hl60 := Super.body_length ⟨gen, act, epoch, len, sum⟩
      go_wp2_with (first | (at_builtin; refine wpList_append_bytes rfl _ _ rfl w.heap.size _ (Super.body ⟨gen, act, epoch, len, sum⟩) rfl hO9 (some x9) 4 4 _ rfl hx9 (by omega) hb9.size ?_; intro v10 w10 hO10 hg10 _))
      go_ret2
      exact ⟨v10, rfl, hO10, hb9.grown hg10 hb9.size (fun j hj => (hob9 j hj).1)⟩

end Go.Proofs.Ytolagcnndepjbaa
