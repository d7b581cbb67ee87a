/-
  The walks through frame.Encode, frame.Decode and the reference's Encode and Decode.
-/
import Derived.Test.YtabeelcidlhniaaGreatFrame
import Derived.Test.YtabeelcidlhniaaGreatKeep
import Derived.Test.YtabeelcidlhniaaGreatFixed
import Derived.OwnWalk
import Derived.RegionTactic
import Derived.Deep.RegionHeld3
import Derived.Deep.DeepMust
namespace Go.Proofs.YtabeelcidlhniaaGreat
open Go.RowKit

/-- make of an empty slice of bytes with a capacity. -/
theorem wpList_make_bytes {w : World} {ops : Array Oper} {rest : List Oper} {o : Oper} {a : Act} {Q : Exit → Act → World → Prop} (hg : o.guard = none) (l c : Operand) (hop : o.op = Op.makeSlice 37 l c)
    (base : Nat) (n : Nat) (C : Int) (hl : a.eval l = .int .i64 0) (hc : a.eval c = .int .i64 C) (hC : C = (n : Int)) (b2 : n ≤ 281474976710656) (b4 : base ≤ w.heap.size)
    (hK : ∀ v w', OwnB base w' v [] → Below w.heap.size w w' → wpList Tryz.prog ops Q rest (a.put o.dst v) w') : wpList Tryz.prog ops Q (o :: rest) a w := by
  obtain ⟨i0, hi, hz0, hz1, hz2⟩ := info_parts info5
  refine wpList_make_own w hg l c 37 hop base 5 i0 _ 1 Tryz.underlying37 hi hz0 hz1 .i64 .i64 C n hl hc hC (by rw [hz2]; omega) (by unfold maxLen; omega) b4 ?_
  intro w' hown hg'
  exact hK _ w' hown ((Below.refl _ _).grown hg' (Nat.le_refl _) (fun k hk => by cases hk))

set_option maxHeartbeats 2000000 in
set_option maxRecDepth 100000 in
theorem fr_encode_ok (ep sq : Nat) (he : ep < 4294967296) (hs : sq < 4294967296) (a : Option Addr) (n c : Nat) (l : List UInt8) (w : World) (h : SlB w a n c l) (hn : n ≤ 1024) :
    Calls Tryz.prog 35 #[.int .u32 ep, .int .u32 sq, .slice a n c] w fun e w' => ∃ v, e = .returned (.tuple #[v, .int .i64 0]) ∧ OwnB w.heap.size w' v (Frame.enc ep sq l) ∧ Below w.heap.size w w' := by
  have hln := h.len
  have hsz : Frame.size (n : Int) = ((14 + n : Nat) : Int) := by unfold Frame.size; rw [if_neg (by omega)]; omega
  have HSZ := Lib.hid hsz; have HLN := Lib.hid hln
  clear hsz hln
  go_enter Tryz.func35, Tryz.ntmps35
  go_wp2_with fail
  refine (fr_size _ (by omega) (by omega) _).mono ?_; rintro e w0 ⟨rfl, rfl⟩
  rw [HSZ.out]
  go_wp2_with (refine wpList_make_bytes rfl _ _ rfl w.heap.size (14 + n) _ rfl rfl rfl (by omega) (Nat.le_refl _) ?_; intro v1 w1 hO1 hb1)
  have h1 := h.ext hb1
  refine (fr_number w.heap.size v1 [] n 2 w1 hO1 hb1.size (by omega) (by simp) (by omega) _ rfl).mono ?_; rintro e w2 ⟨v2, rfl, hO2, hb2⟩
  have hw2 := hb1.trans hb2
  have h2 := h.ext hw2
  rw [List.nil_append] at hO2
  clear hO1 h1 hb1 hb2
  go_wp2_with fail
  refine (fr_number w.heap.size v2 _ ep 4 w2 hO2 hw2.size he (by rw [Super.le_length]; omega) (by omega) _ rfl).mono ?_; rintro e w3 ⟨v3, rfl, hO3, hb3⟩
  have hw3 := hw2.trans hb3
  clear hO2 h2 hw2 hb3
  go_wp2_with fail
  refine (fr_number w.heap.size v3 _ sq 4 w3 hO3 hw3.size hs (by simp [Super.le_length]) (by omega) _ rfl).mono ?_; rintro e w4 ⟨v4, rfl, hO4, hb4⟩
  have hw4 := hw3.trans hb4
  have h4 := h.ext hw4
  clear hO3 hw3 hb4
  go_wp2_with (at_builtin; refine wpList_append_bytes rfl _ _ rfl w.heap.size v4 _ rfl hO4 a n c l rfl h4 (by simp [Super.le_length]; omega) hw4.size ?_; intro v5 w5 hO5 hg5 _)
  have hw5 := hw4.grown hg5 hw4.size (fun k hk => (hO4.lt k hk).1)
  clear hO4 h4 hw4 hg5
  have hH : Super.le 2 n ++ Super.le 4 ep ++ Super.le 4 sq ++ l = Frame.head ep sq l := by unfold Frame.head; rw [HLN.out]
  rw [hH] at hO5
  clear hH
  obtain ⟨a5, c5, rfl, hs5, -⟩ := id hO5.sl
  go_wp2_with fail
  refine (crc_sum _ _ _ _ _ hs5).mono ?_; rintro e w9 ⟨rfl, rfl⟩
  go_wp2_with fail
  have hhl := Frame.head_length ep sq l
  refine (fr_number w.heap.size _ _ (Crc.update 0 (Frame.head ep sq l)) 4 w5 hO5 hw5.size (Crc.update_lt _ _) (by rw [hhl, HLN.out]; omega) (by omega) _ rfl).mono ?_; rintro e w6 ⟨v6, rfl, hO6, hb6⟩
  go_wp2_with fail
  go_ret2
  exact ⟨v6, rfl, hO6, hw5.trans hb6⟩

set_option maxRecDepth 100000 in
theorem fr_encode_long (ep sq : Nat) (a : Option Addr) (n c : Nat) (w : World) (hn : 1024 < n) (hm : n ≤ 9223372036854775807) :
    Calls Tryz.prog 35 #[.int .u32 ep, .int .u32 sq, .slice a n c] w fun e w' => e = .returned (.tuple #[.slice none 0 0, .int .i64 3]) ∧ w = w' := by
  have ht : (1024 : Int) < (n : Int) := by omega
  go_enter Tryz.func35, Tryz.ntmps35
  go_wp2_with fail
  go_ret2
  exact ⟨rfl, rfl⟩

set_option maxHeartbeats 2000000 in
set_option maxRecDepth 100000 in
theorem fref_encode_ok (ep sq : Nat) (he : ep < 4294967296) (hs : sq < 4294967296) (a : Option Addr) (n c : Nat) (l : List UInt8) (w : World) (h : SlB w a n c l) (hn : n ≤ 1024) :
    Calls Tryz.prog 38 #[.int .u32 ep, .int .u32 sq, .slice a n c] w fun e w' => ∃ v, e = .returned (.tuple #[v, .int .i64 0]) ∧ OwnB w.heap.size w' v (Frame.enc ep sq l) ∧ Below w.heap.size w w' := by
  have HLN := Lib.hid h.len
  have hA : #[Value.int .u8 ((n : Int) % 256), .int .u8 ((n : Int) / 256)] = ((Super.le 2 n).map bv).toArray := by
    simp only [Super.le, bv, List.map_cons, List.map_nil]
    rw [Crc.toNat_ofNat8 (by omega), Crc.toNat_ofNat8 (by omega), show n / 256 % 256 = n / 256 by omega]; simp
  have hO1 : OwnB w.heap.size (w.alloc (.cells #[Value.int .u8 ((n : Int) % 256), .int .u8 ((n : Int) / 256)] 5)) (.slice (some ⟨w.heap.size, 0, none⟩) 2 2) (Super.le 2 n) := by
    rw [hA]
    have := OwnB.built w (Super.le 2 n) (Nat.le_refl _) (by rw [Super.le_length]; unfold maxLen; omega)
    rw [Super.le_length] at this; exact this
  have hb1 := (Below.refl w.heap.size w).alloc (Nat.le_refl _) (.cells #[Value.int .u8 ((n : Int) % 256), .int .u8 ((n : Int) / 256)] 5)
  obtain ⟨w1, hw1⟩ : ∃ W, W = w.alloc (.cells #[Value.int .u8 ((n : Int) % 256), .int .u8 ((n : Int) / 256)] 5) := ⟨_, rfl⟩
  rw [← hw1] at hO1 hb1
  have H1 := Lib.hid hw1
  clear hA hw1
  have hz1 := hb1.size
  go_enter Tryz.func38, Tryz.ntmps38
  go_wp2_with fail
  rw [← H1.out]
  refine (ref_fixed ep he _).mono ?_; rintro e w2 ⟨x2, rfl, hx2, hb2⟩
  have hO2 := hO1.ext hb2
  have hw2 := hb1.trans (Below.mono hb2 hb1.size)
  clear hO1 hb1 hb2
  go_wp2_with (at_builtin; refine wpList_append_bytes rfl _ _ rfl w.heap.size _ _ rfl hO2 (some x2) 4 4 _ rfl hx2 (by rw [Super.le_length]; omega) hw2.size ?_; intro v3 w3 hO3 hg3 _)
  have hw3 := hw2.grown hg3 hw2.size (fun k hk => (hO2.lt k hk).1)
  clear hO2 hx2 hg3 hw2
  refine (ref_fixed sq hs _).mono ?_; rintro e w4 ⟨x4, rfl, hx4, hb4⟩
  have hO4 := hO3.ext hb4
  have hw4 := hw3.trans (Below.mono hb4 hw3.size)
  clear hO3 hw3 hb4
  go_wp2_with (first | ((show wpList _ _ _ (Oper.mk (some 27) _ _ _ _ _ :: _) _ _); refine wpList_append_bytes rfl _ _ rfl w.heap.size _ _ rfl hO4 (some x4) 4 4 _ rfl hx4 (by simp [Super.le_length, Crc.fix4]) hw4.size ?_; intro v5 w5 hO5 hg5 _; have hw5 := hw4.grown hg5 hw4.size (fun k hk => (hO4.lt k hk).1); have h5 := h.ext hw5) | ((show wpList _ _ _ (Oper.mk (some 30) _ _ _ _ _ :: _) _ _); refine wpList_append_bytes rfl _ _ rfl w.heap.size _ _ rfl hO5 a n c l rfl h5 (by simp [Super.le_length, Crc.fix4]; omega) hw5.size ?_; intro v6 w6 hO6 hg6 _))
  have hw6 := hw5.grown hg6 hw5.size (fun k hk => (hO5.lt k hk).1)
  clear hO4 hx4 hg5 hw4 h5 hO5 hg6 hw5
  have hH : Super.le 2 n ++ Crc.fix4 ep ++ Crc.fix4 sq ++ l = Frame.head ep sq l := by unfold Frame.head; rw [HLN.out, Super.le_four _ he, Super.le_four _ hs]
  rw [hH] at hO6
  clear hH
  obtain ⟨a6, c6, rfl, hs6, -⟩ := id hO6.sl
  refine (ref_sum _ _ _ _ _ hs6).mono ?_; rintro e w9 ⟨rfl, rfl⟩
  go_wp2_with fail
  refine (ref_fixed (Crc.update 0 (Frame.head ep sq l)) (Crc.update_lt _ _) _).mono ?_; rintro e w7 ⟨x7, rfl, hx7, hb7⟩
  have hO7 := hO6.ext hb7
  have hw7 := hw6.trans (Below.mono hb7 hw6.size)
  have hhl := Frame.head_length ep sq l
  rw [HLN.out] at hhl
  have HHL := Lib.hid hhl
  clear hO6 hw6 hb7 hhl hs6
  go_wp2_with (at_builtin; refine wpList_append_bytes rfl _ _ rfl w.heap.size _ _ rfl hO7 (some x7) 4 4 _ rfl hx7 (by rw [HHL.out]; omega) hw7.size ?_; intro v8 w8 hO8 hg8 _)
  have hw8 := hw7.grown hg8 hw7.size (fun k hk => (hO7.lt k hk).1)
  rw [← Super.le_four _ (Crc.update_lt _ _)] at hO8
  go_ret2
  exact ⟨v8, rfl, hO8, hw8⟩

set_option maxRecDepth 100000 in
theorem fref_encode_long (ep sq : Nat) (a : Option Addr) (n c : Nat) (w : World) (hn : 1024 < n) (hm : n ≤ 9223372036854775807) :
    Calls Tryz.prog 38 #[.int .u32 ep, .int .u32 sq, .slice a n c] w fun e w' => e = .returned (.tuple #[.slice none 0 0, .int .i64 3]) ∧ w = w' := by
  have ht : (1024 : Int) < (n : Int) := by omega
  go_enter Tryz.func38, Tryz.ntmps38
  go_wp2_with fail
  go_ret2
  exact ⟨rfl, rfl⟩

end Go.Proofs.YtabeelcidlhniaaGreat
