/-
  The law SectorCopies walked.
-/
import Derived.Test.YtedmnbmfbgenjaaSecAt
namespace Go.Proofs.Ytedmnbmfbgenjaa
open Go.RowKit

/-- What a disk of two sectors of which the second was written holds. -/
theorem copies_facts (b : UInt8) : ∃ d1 d2 d3, Disk.write (Disk.new 2) 1 (List.replicate 64 b) = (0, d1) ∧ Disk.read d1 1 = (List.replicate 64 b, 0, d2) ∧ Disk.read d2 1 = (List.replicate 64 b, 0, d3) ∧ d3.st.flatten.length = 128 ∧ d3.st.flatten[0]?.getD 0 = 0 :=
  ⟨_, _, _, rfl, rfl, rfl, rfl, rfl⟩

theorem u8_of (z : Int) (h : (Lit.int .u8 z).wf = true) : ∃ b : UInt8, z = (b.toNat : Int) := by
  simp [Lit.wf, IntKind.min, IntKind.max, IntKind.signed, IntKind.bits] at h
  refine ⟨UInt8.ofNat z.toNat, ?_⟩
  have : (UInt8.ofNat z.toNat).toNat = z.toNat := by simp; omega
  omega

/-- A byte of an own slice is stored. -/
theorem OwnB.store {base : Nat} {w : World} {v : Value} {l : List UInt8} (h : OwnB base w v l) (h0 : 0 < l.length) : ∃ g c, v = .slice (some ⟨g, 0, none⟩) l.length c ∧ base ≤ g ∧ g < w.heap.size ∧ OwnB base w (.slice (some ⟨g, 0, none⟩) l.length c) l := by
  obtain ⟨a, c, rfl, hs, hf⟩ := h.sl
  cases a with
  | none => have := (hs.2.2.2.1 rfl).1; subst this; simp at h0
  | some x =>
    obtain ⟨e, hb, -⟩ := hf x rfl
    have hlt := hs.blt (by rintro rfl; simp at h0)
    exact ⟨x.block, c, by rw [← e], hb, hlt, by rw [← e]; exact h⟩
theorem PD.other {F : Nat → Prop} {w : World} {g s m : Nat} {fa : Option Addr} {fn fc : Nat} {d : Disk.Dk} (h : PD F w g s m fa fn fc d) {b : Nat} (hb : ¬ F b) (o : Nat) (v : Value) : PD F (w.setCell ⟨b, o, none⟩ v) g s m fa fn fc d :=
  h.stay (fun k hk => heap_setCell_other _ _ _ _ (by rintro rfl; exact hb hk)) (by simp)

set_option maxRecDepth 100000 in
set_option maxHeartbeats 4000000 in
theorem copies_law (fill other n : Int) (w : World) (hf : (Lit.int .u8 fill).wf = true) (ho : (Lit.int .u8 other).wf = true) (_hn : (Lit.int .i64 n).wf = true) :
    Calls Try.prog 3 #[.int .u8 fill, .int .u8 other, .int .i64 n] w fun e w' => e = .returned (.bool true) ∧ Below w.heap.size w w' := by
  obtain ⟨b, rfl⟩ := u8_of fill hf
  obtain ⟨c, rfl⟩ := u8_of other ho
  obtain ⟨d1, d2, d3, e1, e2, e3, e4, e5⟩ := copies_facts b
  have H1 := Lib.hid e1; have H2 := Lib.hid e2; have H3 := Lib.hid e3; have H4 := Lib.hid e4; have H5 := Lib.hid e5
  obtain ⟨j, hj⟩ : ∃ j : Nat, (j : Int) = n % 64 := ⟨(n % 64).toNat, by omega⟩
  have hj64 : j < 64 := by omega
  have HJ := Lib.hid hj
  have hcb := c.toNat_lt
  have hbb := b.toNat_lt
  clear e1 e2 e3 e4 e5 hj hf ho
  go_enter Try.func3, Try.ntmps3
  go_wp2_with fail
  refine (sd_new 2 (by omega) (by omega) _ 2 rfl).mono ?_; rintro e w1 ⟨F, g, s, m, fa, fn, fc, rfl, hP1, hF1, hB1⟩
  go_wp2_with fail
  refine (law5_block b _ _ rfl).mono ?_; rintro e w2 ⟨v2, rfl, hO2, hB2⟩
  obtain ⟨g2, c2, rfl, hg2, hg2', hO2'⟩ := hO2.store (by simp)
  obtain ⟨a2, c2', e2, hs2, -⟩ := hO2.sl
  rw [List.length_replicate] at hs2 hO2' e2 ⊢
  cases e2
  have hP2 := hP1.ext hB2
  have hgF : ¬ F g2 := fun e => by have := hP1.lt _ e; omega
  go_wp2_with fail
  refine (sd_write_at hP2 1 hs2 (fun y hy _ hFy => by cases hy; exact hgF hFy) H1.out).mono ?_; rintro e w3 ⟨rfl, F3, hP3, hU3⟩
  have hgF3 : ¬ F3 g2 := fun e => by
    rcases hU3.new _ e with e1 | e1
    · exact hgF e1
    · omega
  have hO3 := hO2'.upd hU3 (fun y hy => by cases hy; exact hgF)
  go_wp2_with fail
  refine (keep_mod n 64 _ (by omega) (by omega)).mono ?_; rintro e w3' ⟨rfl, rfl⟩
  rw [← HJ.out]
  have x3 := hO3.row j (by simpa using hj64)
  have f3 := hO3.free j
  have hb12 : Below w.heap.size w w2 := hB1.trans (Below.mono hB2 hB1.size)
  have hU12 : Upd F w1 F3 w3 := (Upd.of_ext hB2).trans hU3
  have hz1 := hB1.size
  have hP4 := hP3.other hgF3 j (bv c)
  have hb34 : Below w.heap.size w (w3.setCell ⟨g2, j, none⟩ (bv c)) := (hU12.below hB1 hF1 hB1.size).setCell (p := ⟨g2, j, none⟩) (by simp; omega) _
  have hF3 : ∀ k, F3 k → w.heap.size ≤ k := hU12.lo hF1 hB1.size
  have HP4 := Lib.hid (And.intro hP4 hb34)
  clear hP4 hb34
  change _ = some (Value.int .u8 _) at x3
  go_wp2_with fail
  obtain ⟨hP4, hb4⟩ := HP4.out
  change PD F3 (w3.setCell ⟨g2, j, none⟩ (.int .u8 (c.toNat : Int))) g s m fa fn fc d1 at hP4
  change Below w.heap.size w (w3.setCell ⟨g2, j, none⟩ (.int .u8 (c.toNat : Int))) at hb4
  clear HP4 x3 f3 hO3 hO2 hO2' hs2 hP1 hP2 hP3 hU3 hU12 hgF hgF3 hb12 hB2 hF1
  generalize w3.setCell ⟨g2, j, none⟩ (.int .u8 (c.toNat : Int)) = w4 at *
  refine (sd_read_at hP4 1 H2.out).mono ?_; rintro e w5 ⟨v5, rfl, hO5, hP5, hU5⟩
  have hb5 := hU5.below hb4 hF3 hb4.size
  obtain ⟨g5, c5, rfl, hg5, hg5', hO5'⟩ := hO5.store (by simp)
  rw [List.length_replicate] at hO5' hO5 ⊢
  obtain ⟨a5, c5', e5, hs5, -⟩ := id hO5.sl
  rw [List.length_replicate] at hs5 e5
  cases e5
  have hF5 : ¬ F3 g5 := fun e => by have := hP4.lt _ e; omega
  go_wp2_with fail
  refine (law5_block b _ _ rfl).mono ?_; rintro e w6 ⟨v6, rfl, hO6, hB6⟩
  obtain ⟨a6, c6, rfl, hs6, -⟩ := hO6.sl
  have hO5 := hO5.ext hB6
  have hs5 := hs5.ext hB6
  have hP6 := hP5.ext hB6
  have hb6 := hb5.trans (Below.mono hB6 hb5.size)
  go_wp2_with fail
  refine (keep_bytes _ _ _ _ _ _ _ _ _ hs5 hs6).mono ?_; rintro e w6' ⟨rfl, rfl⟩
  rw [beq_self_eq_true]
  have x6 := hO5.row 0 (by simp)
  have f6 := hO5.free 0
  have hP7 := hP6.other hF5 0 (.int .u8 (c.toNat : Int))
  have hb7 : Below w.heap.size w (w6.setCell ⟨g5, 0, none⟩ (.int .u8 (c.toNat : Int))) := hb6.setCell (p := ⟨g5, 0, none⟩) (by have := hb4.size; simp; omega) _
  have HP7 := Lib.hid (And.intro hP7 hb7)
  clear hP7 hb7
  change _ = some (Value.int .u8 _) at x6
  go_wp2_with fail
  obtain ⟨hP7, hb7⟩ := HP7.out
  clear HP7 x6 f6 hO5 hO5' hO6 hs5 hs6 hP6 hb6 hB6 hP5 hb5 hU5 hP4 hF5
  generalize w6.setCell ⟨g5, 0, none⟩ (.int .u8 (c.toNat : Int)) = w7 at *
  refine (sd_read_at hP7 1 H3.out).mono ?_; rintro e w8 ⟨v8, rfl, hO8, hP8, hU8⟩
  have hb8 := hU8.below hb7 hF3 hb7.size
  obtain ⟨a8, c8, rfl, hs8, -⟩ := hO8.sl
  go_wp2_with fail
  refine (sd_image hP8).mono ?_; rintro e w9 ⟨v9, rfl, hO9, hB9⟩
  have hs8 := hs8.ext hB9
  have hP9 := hP8.ext hB9
  have hb9 := hb8.trans (Below.mono hB9 hb8.size)
  obtain ⟨g9, c9, rfl, hg9, hg9', hO9'⟩ := hO9.store (by rw [H4.out]; omega)
  rw [H4.out] at hO9' ⊢
  go_wp2_with fail
  refine (law5_block b _ _ rfl).mono ?_; rintro e w10 ⟨v10, rfl, hO10, hB10⟩
  obtain ⟨a10, c10, rfl, hs10, -⟩ := hO10.sl
  have hO9' := hO9'.ext hB10
  have hs8 := hs8.ext hB10
  have hP10 := hP9.ext hB10
  have hb10 := hb9.trans (Below.mono hB10 hb9.size)
  go_wp2_with fail
  refine (keep_bytes _ _ _ _ _ _ _ _ _ hs8 hs10).mono ?_; rintro e w10' ⟨rfl, rfl⟩
  rw [beq_self_eq_true]
  have hF9 : ¬ F3 g9 := fun e => by have := hP8.lt _ e; omega
  have x9 := hO9'.row 0 (by rw [H4.out]; omega)
  have f9 := hO9'.free 0
  have hP11 := hP10.other hF9 0 (.int .u8 (c.toNat : Int))
  have hb11 : Below w.heap.size w (w10.setCell ⟨g9, 0, none⟩ (.int .u8 (c.toNat : Int))) := hb10.setCell (p := ⟨g9, 0, none⟩) (by have := hb8.size; simp; omega) _
  have HP11 := Lib.hid (And.intro hP11 hb11)
  clear hP11 hb11
  change _ = some (Value.int .u8 _) at x9
  go_wp2_with fail
  obtain ⟨hP11, hb11⟩ := HP11.out
  clear HP11 x9 f9 hO9' hO9 hO8 hs8 hs10 hO10 hP10 hb10 hB10 hP9 hb9 hB9 hP8 hb8 hU8
  generalize w10.setCell ⟨g9, 0, none⟩ (.int .u8 (c.toNat : Int)) = w11 at *
  refine (sd_image hP11).mono ?_; rintro e w12 ⟨v12, rfl, hO12, hB12⟩
  obtain ⟨a12, c12, rfl, hs12, -⟩ := hO12.sl
  have hb12 := hb11.trans (Below.mono hB12 hb11.size)
  rw [H4.out] at hs12 ⊢
  obtain ⟨b12, o12, rfl, -, -, x12⟩ := hs12.at (show 0 < 128 by omega)
  rw [H5.out] at x12
  change _ = some (Value.int .u8 0) at x12
  rw [Nat.add_zero] at x12
  go_wp2_with fail
  refine (law5_awake _).mono ?_; rintro e w13 ⟨rfl, hB13⟩
  go_wp2_with fail
  go_ret
  exact ⟨rfl, hb12.trans (Below.mono hB13 hb12.size)⟩

end Go.Proofs.Ytedmnbmfbgenjaa
