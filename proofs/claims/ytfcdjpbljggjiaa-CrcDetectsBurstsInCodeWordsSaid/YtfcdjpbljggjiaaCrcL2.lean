/-
  The walks of the statements CrcConcatenates, CrcDetectsBursts, CrcDetectsBurstsInCodeWords and CrcAffine.
-/
import Derived.Test.YtfcdjpbljggjiaaCrcL1
namespace Go.Proofs.Ytfcdjpbljggjiaa
open Go.RowKit

set_option maxRecDepth 100000 in
theorem bursts_law (a : Option Addr) (n c : Nat) (l : List UInt8) (at_ p : Int) (w : World) (h : SlB w a n c l) (_hat : (Lit.int .i64 at_).wf = true) (hp : (Lit.int .u32 p).wf = true) :
    Calls Try.prog 6 #[.slice a n c, .int .i64 at_, .int .u32 p] w fun e w' => e = .returned (.bool true) ∧ Below w.heap.size w w' := by
  obtain ⟨h0, h1⟩ := wf_u32 hp
  obtain ⟨p, rfl⟩ := Int.eq_ofNat_of_zero_le h0
  clear hp h0 _hat
  obtain rfl := h.len
  have hle := h.le
  by_cases hz : l.length = 0
  · have ht : ((l.length : Int) == 0) = true := by rw [hz]; rfl
    have Hz := Lib.hid hz; clear hz
    go_enter Try.func6, Try.ntmps6
    go_wp2_with (go_at_call 9; refine (awake_any _).mono ?_; rintro e w' ⟨rfl, hb⟩)
    go_ret
    exact ⟨rfl, hb⟩
  have ht : ((l.length : Int) == 0) = false := by simp; intro e; exact hz (by simp [e])
  by_cases hn : 2000 < l.length
  · have ht2 : (2000 : Int) < (l.length : Int) := by omega
    go_enter Try.func6, Try.ntmps6
    go_wp2_with (go_at_call 9; refine (awake_any _).mono ?_; rintro e w' ⟨rfl, hb⟩)
    go_ret
    exact ⟨rfl, hb⟩
  · have ht2 : ¬ (2000 : Int) < (l.length : Int) := by omega
    have hm1 := Int.emod_nonneg at_ (show 8 * (l.length : Int) ≠ 0 by omega)
    have hm2 := Int.emod_lt_of_pos at_ (show 0 < 8 * (l.length : Int) by omega)
    obtain ⟨s, hs⟩ := Int.eq_ofNat_of_zero_le hm1
    rw [hs] at hm2
    have Hs := Lib.hid hs
    clear hs hm1
    have hburst := Crc.burst l s p (by omega)
    have hlaw : (((Crc.update 0 (Crc.flipN l s p 32) : Nat) : Int) == ((Crc.update 0 l : Nat) : Int)) = (Crc.flipN l s p 32 == l) := by
      rw [Bool.eq_iff_iff]; simp only [beq_iff_eq]; rw [← hburst]; omega
    have HL := Lib.hid hlaw
    clear hburst hlaw
    go_enter Try.func6, Try.ntmps6
    go_wp2_with fail
    refine (keep_mod at_ (8 * (l.length : Int)) _ (by omega) (by omega)).mono ?_; rintro e w1 ⟨rfl, rfl⟩
    rw [Hs.out]
    go_wp2_with fail
    refine (flip_any a l.length c s p l _ h (by omega) (by omega)).mono ?_; rintro e w1 ⟨v, rfl, hown, hb⟩
    obtain ⟨a1, c1, rfl, hs1, -⟩ := hown.sl
    have h2 := h.ext hb
    clear hown
    generalize Crc.flipN l s p 32 = d at *
    go_wp2_with fail
    refine (crc_sum _ _ _ d _ hs1).mono ?_; rintro e w2 ⟨rfl, rfl⟩
    go_wp2_with fail
    refine (crc_sum _ _ _ l _ h2).mono ?_; rintro e w2 ⟨rfl, rfl⟩
    go_wp2_with fail
    refine (keep_bytes _ _ _ _ _ _ d l _ hs1 h2).mono ?_; rintro e w2 ⟨rfl, rfl⟩
    have hl2 : ((((Crc.update 0 d : Nat) : Int) == ((Crc.update 0 l : Nat) : Int)) == (d == l)) = true := by rw [HL.out]; simp
    generalize (((Crc.update 0 d : Nat) : Int) == ((Crc.update 0 l : Nat) : Int)) = x at *
    generalize (d == l) = y at *
    go_wp2_with (go_at_call 9; refine (awake_any _).mono ?_; rintro e w' ⟨rfl, hb3⟩)
    go_ret
    exact ⟨rfl, hb.trans (hb3.mono hb.size)⟩

set_option maxRecDepth 100000 in
theorem words_law (a : Option Addr) (n c : Nat) (l : List UInt8) (at_ p : Int) (w : World) (h : SlB w a n c l) (_hat : (Lit.int .i64 at_).wf = true) (hp : (Lit.int .u32 p).wf = true) :
    Calls Try.prog 7 #[.slice a n c, .int .i64 at_, .int .u32 p] w fun e w' => e = .returned (.bool true) ∧ Below w.heap.size w w' := by
  obtain ⟨h0, h1⟩ := wf_u32 hp
  obtain ⟨p, rfl⟩ := Int.eq_ofNat_of_zero_le h0
  clear hp h0 _hat
  obtain rfl := h.len
  have hle := h.le
  by_cases hn : 2000 < l.length
  · have ht2 : (2000 : Int) < (l.length : Int) := by omega
    go_enter Try.func7, Try.ntmps7
    go_wp2_with (go_at_call 9; refine (awake_any _).mono ?_; rintro e w' ⟨rfl, hb⟩)
    go_ret
    exact ⟨rfl, hb⟩
  · have ht2 : ¬ (2000 : Int) < (l.length : Int) := by omega
    have hu := Crc.update_lt 0 l
    obtain ⟨word, hword⟩ : ∃ word, word = l ++ Crc.fix4 (Crc.update 0 l) := ⟨_, rfl⟩
    have hwl : word.length = l.length + 4 := by rw [hword]; simp [Crc.fix4]
    have hwl1 : word.length ≤ l.length + 4 := by omega
    have hwl2 : l.length + 4 ≤ word.length := by omega
    have hm1 := Int.emod_nonneg at_ (show 8 * (word.length : Int) ≠ 0 by omega)
    have hm2 := Int.emod_lt_of_pos at_ (show 0 < 8 * (word.length : Int) by omega)
    obtain ⟨s, hs⟩ := Int.eq_ofNat_of_zero_le hm1
    rw [hs] at hm2
    have Hs := Lib.hid hs
    clear hs hm1
    have hburst := Crc.burst_word l s p (by omega)
    rw [← hword] at hburst
    have hdl := Crc.flipN_length word s p 32
    have hlaw : (((Crc.update 0 ((Crc.flipN word s p 32).take l.length) : Nat) : Int) == ((Crc.unfix4 ((Crc.flipN word s p 32).drop l.length) : Nat) : Int)) = (Crc.flipN word s p 32 == word) := by
      rw [Bool.eq_iff_iff]; simp only [beq_iff_eq]; rw [← hburst]; omega
    have HL := Lib.hid hlaw
    have HW := Lib.hid hword
    clear hburst hlaw hword hwl
    go_enter Try.func7, Try.ntmps7
    go_wp2_with fail
    refine (keep_own a l.length c l _ h (by omega)).mono ?_; rintro e w1 ⟨v, rfl, hown, hb1⟩
    have h1 := h.ext hb1
    go_wp2_with fail
    refine (crc_sum _ _ _ l _ h1).mono ?_; rintro e w2 ⟨rfl, rfl⟩
    go_wp2_with fail
    refine (ref_fixed _ hu _).mono ?_; rintro e w2 ⟨x, rfl, hx, hb2⟩
    have hown2 := hown.ext hb2
    have hb12 := hb1.trans (hb2.mono hb1.size)
    have hob := hown2.lt
    have h2 := h1.ext hb2
    go_wp2_with (at_builtin; refine wpList_append_bytes rfl _ _ rfl w.heap.size v l rfl hown2 (some x) 4 4 _ rfl hx (by omega) hb12.size ?_; intro v3 w3 hown3 hg3 _; rw [← HW.out] at hown3; obtain ⟨a3, c3, rfl, hs3, -⟩ := hown3.sl)
    have hb13 : Below w.heap.size w w3 := hb12.grown hg3 hb12.size (fun k hk => (hob k hk).1)
    have h3 := h.ext hb13
    clear hown3 hown hown2 hx h2 hob
    refine (keep_mod at_ (8 * (word.length : Int)) _ (by omega) (by omega)).mono ?_; rintro e w4 ⟨rfl, rfl⟩
    rw [Hs.out]
    go_wp2_with fail
    refine (flip_any a3 word.length c3 s p word _ hs3 (by omega) (by omega)).mono ?_; rintro e w4 ⟨v4, rfl, hown4, hb4⟩
    obtain ⟨a4, c4, rfl, hs4, hz4⟩ := hown4.sl
    have hs34 := hs3.ext hb4
    have hb14 := hb13.trans (hb4.mono hb13.size)
    generalize Crc.flipN word s p 32 = d at *
    have hdl1 : l.length + 4 ≤ d.length := by omega
    obtain ⟨b4, o4, rfl, _, _, _⟩ := hs4.at (show 0 < d.length by omega)
    have hc4 : d.length ≤ c4 := hs4.2.1
    have hc5 : c4 ≤ 9223372036854775807 := by have := hs4.2.2.1; unfold maxLen at this; omega
    have i1 : (l.length : Int) ≤ (d.length : Int) := by omega
    have i2 : (d.length : Int) ≤ (c4 : Int) := by omega
    have i3 : (0 : Int) ≤ (l.length : Int) := by omega
    have i4 : (l.length : Int) ≤ (c4 : Int) := by omega
    have hdd := Lib.hid hdl
    clear hown4 hz4 hs3 hdl
    go_wp2_with fail
    refine (ref_decode_fixed _ _ _ _ _ (hs4.drop (show l.length ≤ d.length by omega)) (by omega)).mono ?_; rintro e w5 ⟨rfl, k5, rfl⟩
    have hbd : Below w4.heap.size w4 (w4.drewN k5) := below_drewN (Below.refl _ _) _
    have hs5 := hs4.ext hbd
    have hs35 := hs34.ext hbd
    have hb15 := hb14.trans (hbd.mono hb14.size)
    generalize w4.drewN k5 = w5 at *
    go_wp2_with fail
    refine (crc_sum _ _ _ _ _ (hs5.take (show l.length ≤ d.length by omega))).mono ?_; rintro e w6 ⟨rfl, rfl⟩
    go_wp2_with fail
    refine (keep_bytes _ _ _ _ _ _ d word _ hs5 hs35).mono ?_; rintro e w6 ⟨rfl, rfl⟩
    have hl2 : ((((Crc.update 0 (d.take l.length) : Nat) : Int) == ((Crc.unfix4 (d.drop l.length) : Nat) : Int)) == (d == word)) = true := by rw [HL.out]; simp
    generalize (((Crc.update 0 (d.take l.length) : Nat) : Int) == ((Crc.unfix4 (d.drop l.length) : Nat) : Int)) = x at *
    generalize (d == word) = y at *
    go_wp2_with (go_at_call 9; refine (awake_any _).mono ?_; rintro e w' ⟨rfl, hb6⟩)
    go_ret
    exact ⟨rfl, hb15.trans (hb6.mono hb15.size)⟩

theorem combine_cat (a b : List UInt8) (n : Int) (hn : n = b.length) (hl : n ≤ 9223372036854775807) (w : World) :
    Calls Try.prog 16 #[.int .u32 (Crc.update 0 a : Nat), .int .u32 (Crc.update 0 b : Nat), .int .i64 n] w fun e w' => e = .returned (.int .u32 (Crc.update 0 (a ++ b) : Nat)) ∧ Below w.heap.size w w' := by
  subst hn
  refine (crc_combine _ _ _ (Crc.update_lt 0 a) (Crc.update_lt 0 b) hl w).mono ?_
  rintro e w' ⟨rfl, h⟩
  exact ⟨by rw [Int.toNat_natCast, Crc.combine_update], h⟩

theorem update_cat (a b : List UInt8) (x : Option Addr) (n c : Nat) (w : World) (h : SlB w x n c b) :
    Calls Try.prog 13 #[.int .u32 (Crc.update 0 a : Nat), .slice x n c] w fun e w' => e = .returned (.int .u32 (Crc.update 0 (a ++ b) : Nat)) ∧ w = w' := by
  refine (crc_update _ (Crc.update_lt 0 a) x n c b w h).mono ?_
  rintro e w' ⟨rfl, h⟩
  exact ⟨by rw [Crc.update_update], h⟩

set_option maxRecDepth 100000 in
theorem concat_law (a : Option Addr) (n ca : Nat) (la : List UInt8) (b : Option Addr) (m cb : Nat) (lb : List UInt8) (c : Option Addr) (k cc : Nat) (lc : List UInt8) (w : World) (ha : SlB w a n ca la) (hb : SlB w b m cb lb) (hc : SlB w c k cc lc) :
    Calls Try.prog 5 #[.slice a n ca, .slice b m cb, .slice c k cc] w fun e w' => e = .returned (.bool true) ∧ Below w.heap.size w w' := by
  obtain rfl := ha.len
  obtain rfl := hb.len
  obtain rfl := hc.len
  have hla := ha.le
  have hlb := hb.le
  have hlc := hc.le
  by_cases hna : 2000 < la.length
  · have ht : (2000 : Int) < (la.length : Int) := by omega
    go_enter Try.func5, Try.ntmps5
    go_wp2_with (go_at_call 9; refine (awake_any _).mono ?_; rintro e w' ⟨rfl, hb⟩)
    go_ret
    exact ⟨rfl, hb⟩
  by_cases hnb : 2000 < lb.length
  · have ht : ¬ (2000 : Int) < (la.length : Int) := by omega
    have ht : (2000 : Int) < (lb.length : Int) := by omega
    go_enter Try.func5, Try.ntmps5
    go_wp2_with (go_at_call 9; refine (awake_any _).mono ?_; rintro e w' ⟨rfl, hb⟩)
    go_ret
    exact ⟨rfl, hb⟩
  by_cases hnc : 2000 < lc.length
  · have ht : ¬ (2000 : Int) < (la.length : Int) := by omega
    have ht : ¬ (2000 : Int) < (lb.length : Int) := by omega
    have ht : (2000 : Int) < (lc.length : Int) := by omega
    go_enter Try.func5, Try.ntmps5
    go_wp2_with (go_at_call 9; refine (awake_any _).mono ?_; rintro e w' ⟨rfl, hb⟩)
    go_ret
    exact ⟨rfl, hb⟩
  have ht1 : ¬ (2000 : Int) < (la.length : Int) := by omega
  have ht2 : ¬ (2000 : Int) < (lb.length : Int) := by omega
  have ht3 : ¬ (2000 : Int) < (lc.length : Int) := by omega
  go_enter Try.func5, Try.ntmps5
  go_wp2_with fail
  refine (keep_own a la.length ca la _ ha (by omega)).mono ?_; rintro e w1 ⟨v, rfl, hown, hb1⟩
  have h1 := hb.ext hb1
  have hob := hown.lt
  go_wp2_with (at_builtin; refine wpList_append_bytes rfl _ _ rfl w.heap.size v la rfl hown b lb.length cb _ rfl h1 (by omega) hb1.size ?_; intro v2 w2 hown2 hg2 _; obtain ⟨a2, c2, rfl, hs2, -⟩ := hown2.sl)
  have hb2 : Below w.heap.size w w2 := hb1.grown hg2 hb1.size (fun k hk => (hob k hk).1)
  clear hob
  rw [List.length_append] at hs2
  refine (keep_own a2 (la.length + lb.length) c2 (la ++ lb) _ hs2 (by omega)).mono ?_; rintro e w3 ⟨v3, rfl, hown3, hb3⟩
  have hb23 := hb2.trans (hb3.mono hb2.size)
  have h3 := hc.ext hb23
  have hob := hown3.lt
  go_wp2_with (at_builtin; refine wpList_append_bytes rfl _ _ rfl w2.heap.size v3 (la ++ lb) rfl hown3 c lc.length cc _ rfl h3 (by rw [List.length_append]; omega) hb3.size ?_; intro v4 w4 hown4 hg4 _; obtain ⟨a4, c4, rfl, hs4, -⟩ := hown4.sl)
  rw [List.length_append, List.length_append, Nat.add_assoc, List.append_assoc] at hs4
  have hb4 : Below w.heap.size w w4 := hb23.grown hg4 hb23.size (fun k hk => Nat.le_trans hb2.size (hob k hk).1)
  have hb24 : Below w2.heap.size w2 w4 := hb3.grown hg4 hb3.size (fun k hk => (hob k hk).1)
  have sa := ha.ext hb4
  have sb := hb.ext hb4
  have sc := hc.ext hb4
  have sab := hs2.ext hb24
  clear hob hown hown2 hown3 hown4 h1 h3 hs2
  have i0 : (lb.length : Int) ≤ 9223372036854775807 := by omega
  have i1 : (lc.length : Int) ≤ 9223372036854775807 := by omega
  go_wp2_with fail
  refine (crc_sum _ _ _ la _ sa).mono ?_; rintro e w9 ⟨rfl, rfl⟩
  go_wp2_with fail
  refine (crc_sum _ _ _ lb _ sb).mono ?_; rintro e w9 ⟨rfl, rfl⟩
  go_wp2_with fail
  refine (crc_sum _ _ _ lc _ sc).mono ?_; rintro e w9 ⟨rfl, rfl⟩
  go_wp2_with fail
  refine (combine_cat la lb _ rfl (by omega) _).mono ?_; rintro e w5 ⟨rfl, hd5⟩
  have hb5 := hb4.trans (hd5.mono hb4.size)
  go_wp2_with fail
  refine (combine_cat (la ++ lb) lc _ rfl (by omega) _).mono ?_; rintro e w6 ⟨rfl, hd6⟩
  have hb6 := hb5.trans (hd6.mono hb5.size)
  go_wp2_with fail
  refine (combine_cat lb lc _ rfl (by omega) _).mono ?_; rintro e w7 ⟨rfl, hd7⟩
  have hb7 := hb6.trans (hd7.mono hb6.size)
  go_wp2_with fail
  refine (combine_cat la (lb ++ lc) _ (by simp) (by omega) _).mono ?_; rintro e w8 ⟨rfl, hd8⟩
  have hb8 := hb7.trans (hd8.mono hb7.size)
  have hb48 : Below w4.heap.size w4 w8 := ((hd5.trans (hd6.mono hd5.size)).trans (hd7.mono (hd5.trans (hd6.mono hd5.size)).size)).trans (hd8.mono ((hd5.trans (hd6.mono hd5.size)).trans (hd7.mono (hd5.trans (hd6.mono hd5.size)).size)).size)
  have sb8 := sb.ext hb48
  have sab8 := sab.ext hb48
  have sabc8 := hs4.ext hb48
  have sc8 := sc.ext hb48
  go_wp2_with fail
  refine (update_cat la lb _ _ _ _ sb8).mono ?_; rintro e w9 ⟨rfl, rfl⟩
  go_wp2_with fail
  refine (crc_sum _ _ _ (la ++ lb) _ sab8).mono ?_; rintro e w9 ⟨rfl, rfl⟩
  go_wp2_with fail
  refine (combine_cat la lb _ rfl (by omega) _).mono ?_; rintro e w9 ⟨rfl, hd9⟩
  have hb9 := hb8.trans (hd9.mono hb8.size)
  have sb9 := sb8.ext hd9
  have sab9 := sab8.ext hd9
  have sabc9 := sabc8.ext hd9
  have sc9 := sc8.ext hd9
  go_wp2_with fail
  refine (crc_sum _ _ _ (la ++ lb) _ sab9).mono ?_; rintro e w10 ⟨rfl, rfl⟩
  go_wp2_with fail
  refine (crc_sum _ _ _ (la ++ (lb ++ lc)) _ sabc9).mono ?_; rintro e w10 ⟨rfl, rfl⟩
  go_wp2_with fail
  refine (update_cat la lb _ _ _ _ sb9).mono ?_; rintro e w10 ⟨rfl, rfl⟩
  go_wp2_with fail
  refine (update_cat (la ++ lb) lc _ _ _ _ sc9).mono ?_; rintro e w10 ⟨rfl, rfl⟩
  go_wp2_with (go_at_call 9; refine (awake_any _).mono ?_; rintro e w10 ⟨rfl, hd10⟩)
  go_ret
  exact ⟨rfl, hb9.trans (hd10.mono hb9.size)⟩

end Go.Proofs.Ytfcdjpbljggjiaa
