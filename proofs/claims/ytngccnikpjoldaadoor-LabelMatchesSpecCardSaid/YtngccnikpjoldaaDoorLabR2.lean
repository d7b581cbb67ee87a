/-
  The walks through the reference's Text and proper.
-/
import Derived.Test.YtngccnikpjoldaaDoorLabR
import Derived.Test.YtngccnikpjoldaaDoorPunyDecR
namespace Go.Proofs.YtngccnikpjoldaaDoor
open Go.RowKit

theorem rune_cells (x : Int) : ((Lib.encodeRune x).map bv).toArray = (Lib.runeCells x).toArray := by
  congr 1
  unfold Lib.runeCells Lib.encodeRune bv
  rw [List.map_map]
  apply List.map_congr_left
  intro z hz
  have := Lib.encodeRuneZ_byte x z hz
  simp only [Function.comp]
  rw [Lab.byte_nat z this.1 this.2, Int.toNat_of_nonneg this.1]
theorem SlB.rune (W : World) (x : Int) (A : Array Value) (n : Nat) (t : TypeId) (hA : Lib.runeCells x = A.toList) (hn : A.size = n) (hm : n ≤ 4) :
    SlB (W.alloc (.cells A t)) (some ⟨W.heap.size, 0, none⟩) n n (Lib.encodeRune x) := by
  have hc := rune_cells x
  rw [hA] at hc
  have hl : (Lib.encodeRune x).length = n := by
    have := congrArg Array.size hc; simpa [hn] using this
  exact SlB.built W A (Lib.encodeRune x) n _ t _ (by rw [hc]) hl (by unfold maxLen; omega) rfl

set_option maxHeartbeats 8000000 in
set_option maxRecDepth 100000 in
theorem lr_text (a : Option Addr) (n c : Nat) (p : List Int) (w : World) (h : SlI w a n c p) (hp : ∀ x ∈ p, Puny.point x = true) (hl : p.length ≤ 256) :
    Calls Tryd.prog 26 #[.slice a n c] w fun e w' => e = .returned (.string (str (Lab.text p))) ∧ Below w.heap.size w w' := by
  obtain rfl : n = p.length := h.len.symm
  have HP := Lib.hid hp
  clear hp
  go_enter Tryd.func26, Tryd.ntmps26
  go_wp2_with fail
  go_loopw [3, 4] (fun v i wr => TxtRel p p.length w v i wr) (fun _ i _ => p.length - (intOf i).toNat)
  case atStart => exact ⟨0, Nat.zero_le _, rfl, OwnB.nil _ _, Below.refl _ _⟩
  case round =>
    obtain ⟨k, hk, rfl, hO, hB⟩ := hrel
    by_cases hlt : k < p.length
    · obtain ⟨g, o, rfl, hg, hkl, hc1⟩ := (h.ext hB).at hlt
      rw [List.getElem?_eq_getElem hkl, Option.getD_some] at hc1
      have hpx := (Puny.point_iff _).1 (HP.out _ (List.getElem_mem hkl))
      have HTK := Lib.hid (List.take_succ_eq_append_getElem hkl)
      have b0 : (0 : Int) ≤ (k : Int) := by omega
      have b1 : (k : Int) < (p.length : Int) := by omega
      have hbw := hB.size
      have htl := Lab.text_le (p.take k)
      have htl2 : (p.take k).length ≤ 256 := by simp; omega
      generalize p[k] = x at *
      obtain ⟨hx0, hx1, hx2⟩ := hpx
      have HX2 := Lib.hid hx2
      clear hx2
      by_cases c1 : x < 128
      · have HONE := Lib.hid (fun W => SlB.rune W x #[.int .u8 x] 1 5 (by unfold Lib.runeCells; rw [Lib.encodeRuneZ_one hx0 (by omega)]; rfl) rfl (by omega))
        have hw1 : IntKind.u8.wrap x = x := IntWalk.u8_in _ (by omega)
        go_wp2_with (at_builtin; go_must (refine wpList_append_bytes rfl _ _ rfl w.heap.size _ _ rfl (hO.alloc _) _ _ _ (Lib.encodeRune x) rfl (HONE.out _) (by omega) (by simp; omega) ?_); intro v2 w2 hO2 hg2 _)
        have hB2 := (hB.alloc hbw (.cells #[.int .u8 x] 5)).grown hg2 (by simp; omega) (fun k hk => (hO.lt k hk).1)
        clear hg2 hO hB
        go_wp2
        go_roundw
        case rel => exact ⟨k + 1, by omega, by go_num, by rw [HTK.out, Lab.text_snoc]; exact hO2, hB2⟩
        case measure => simp [intOf]; omega
      by_cases c2 : x < 2048
      · have HONE := Lib.hid (fun W => SlB.rune W x #[.int .u8 (192 + x / 64), .int .u8 (128 + x % 64)] 2 5 (by unfold Lib.runeCells; rw [Lib.encodeRuneZ_two (by omega) (by omega)]; rfl) rfl (by omega))
        have hw1 : IntKind.u8.wrap (192 + x / 64) = 192 + x / 64 := IntWalk.u8_in _ (by omega)
        have hw2 : IntKind.u8.wrap (128 + x % 64) = 128 + x % 64 := IntWalk.u8_in _ (by omega)
        go_wp2_with (at_builtin; go_must (refine wpList_append_bytes rfl _ _ rfl w.heap.size _ _ rfl (hO.alloc _) _ _ _ (Lib.encodeRune x) rfl (HONE.out _) (by omega) (by simp; omega) ?_); intro v2 w2 hO2 hg2 _)
        have hB2 := (hB.alloc hbw (.cells #[.int .u8 (192 + x / 64), .int .u8 (128 + x % 64)] 5)).grown hg2 (by simp; omega) (fun k hk => (hO.lt k hk).1)
        clear hg2 hO hB
        go_wp2
        go_roundw
        case rel => exact ⟨k + 1, by omega, by go_num, by rw [HTK.out, Lab.text_snoc]; exact hO2, hB2⟩
        case measure => simp [intOf]; omega
      by_cases c3 : x < 65536
      · have HONE := Lib.hid (fun W => SlB.rune W x #[.int .u8 (224 + x / 4096), .int .u8 (128 + x / 64 % 64), .int .u8 (128 + x % 64)] 3 5 (by unfold Lib.runeCells; rw [Lib.encodeRuneZ_three (by have := HX2.out; omega)]; rfl) rfl (by omega))
        have hw1 : IntKind.u8.wrap (224 + x / 4096) = 224 + x / 4096 := IntWalk.u8_in _ (by omega)
        have hw2 : IntKind.u8.wrap (128 + x / 64 % 64) = 128 + x / 64 % 64 := IntWalk.u8_in _ (by omega)
        have hw3 : IntKind.u8.wrap (128 + x % 64) = 128 + x % 64 := IntWalk.u8_in _ (by omega)
        go_wp2_with (at_builtin; go_must (refine wpList_append_bytes rfl _ _ rfl w.heap.size _ _ rfl (hO.alloc _) _ _ _ (Lib.encodeRune x) rfl (HONE.out _) (by omega) (by simp; omega) ?_); intro v2 w2 hO2 hg2 _)
        have hB2 := (hB.alloc hbw (.cells #[.int .u8 (224 + x / 4096), .int .u8 (128 + x / 64 % 64), .int .u8 (128 + x % 64)] 5)).grown hg2 (by simp; omega) (fun k hk => (hO.lt k hk).1)
        clear hg2 hO hB
        go_wp2
        go_roundw
        case rel => exact ⟨k + 1, by omega, by go_num, by rw [HTK.out, Lab.text_snoc]; exact hO2, hB2⟩
        case measure => simp [intOf]; omega
      · have HONE := Lib.hid (fun W => SlB.rune W x #[.int .u8 (240 + x / 262144), .int .u8 (128 + x / 4096 % 64), .int .u8 (128 + x / 64 % 64), .int .u8 (128 + x % 64)] 4 5 (by unfold Lib.runeCells; rw [Lib.encodeRuneZ_four (by omega) (by omega)]; rfl) rfl (by omega))
        have hw1 : IntKind.u8.wrap (240 + x / 262144) = 240 + x / 262144 := IntWalk.u8_in _ (by omega)
        have hw4 : IntKind.u8.wrap (128 + x / 4096 % 64) = 128 + x / 4096 % 64 := IntWalk.u8_in _ (by omega)
        have hw2 : IntKind.u8.wrap (128 + x / 64 % 64) = 128 + x / 64 % 64 := IntWalk.u8_in _ (by omega)
        have hw3 : IntKind.u8.wrap (128 + x % 64) = 128 + x % 64 := IntWalk.u8_in _ (by omega)
        go_wp2_with (at_builtin; go_must (refine wpList_append_bytes rfl _ _ rfl w.heap.size _ _ rfl (hO.alloc _) _ _ _ (Lib.encodeRune x) rfl (HONE.out _) (by omega) (by simp; omega) ?_); intro v2 w2 hO2 hg2 _)
        have hB2 := (hB.alloc hbw (.cells #[.int .u8 (240 + x / 262144), .int .u8 (128 + x / 4096 % 64), .int .u8 (128 + x / 64 % 64), .int .u8 (128 + x % 64)] 5)).grown hg2 (by simp; omega) (fun k hk => (hO.lt k hk).1)
        clear hg2 hO hB
        go_wp2
        go_roundw
        case rel => exact ⟨k + 1, by omega, by go_num, by rw [HTK.out, Lab.text_snoc]; exact hO2, hB2⟩
        case measure => simp [intOf]; omega
    · obtain rfl : k = p.length := by omega
      rw [List.take_of_length_le (Nat.le_refl _)] at hO
      obtain ⟨a2, c2, rfl, hs2, -⟩ := hO.sl
      have hcv := run_conv_bytes hs2
      clear hs2
      generalize (Lab.text p).length = n2 at *
      go_wp2
      go_ret
      exact ⟨rfl, hB⟩

/-- The loop of the reference's proper. -/
def ProRelR (p : List Int) (n : Nat) (W0 : World) (v5 i : Value) (wr : World) : Prop := ∃ (k : Nat) (bs : Bool), k ≤ n ∧ i = .int .i64 k ∧ v5 = .bool bs ∧ Hid (bs = (p.take k).any fun x => decide (128 ≤ x)) ∧ Hid (∀ x ∈ p.take k, ¬ (65 ≤ x ∧ x ≤ 90)) ∧ Below W0.heap.size W0 wr
theorem Lab.proper_okR {r : List UInt8} {p : List Int} (h : Puny.decode r = .ok p) (hu : ∀ x ∈ p, ¬ (65 ≤ x ∧ x ≤ 90)) : Lab.proper r = (decide (Puny.encode p = r) && (p.any fun x => decide (128 ≤ x))) := by
  unfold Lab.proper; rw [h]; unfold Lab.properP
  have h1 : (p.all fun x => !(decide (65 ≤ x) && decide (x ≤ 90))) = true := by
    rw [List.all_eq_true]; intro x hx; have := hu x hx; simp; omega
  simp only [h1, Bool.true_and, Bool.and_comm]

set_option maxHeartbeats 8000000 in
set_option maxRecDepth 100000 in
theorem lr_proper (r : List UInt8) (w : World) (hl : r.length ≤ 1000000) :
    Calls Tryd.prog 28 #[.string (str r)] w fun e w' => e = .returned (.bool (Lab.proper r)) ∧ Below w.heap.size w w' := by
  have hdec := fun W => pr_decode r W hl
  unfold PDecPost Puny.dec at hdec
  cases hd : Puny.decode r with
  | error er =>
    rw [hd] at hdec
    have her := Puny.decode_err _ _ hd
    have HPR := Lib.hid (Lab.proper_err hd)
    have HDEC := Lib.hid hdec
    generalize str r = sv at *
    have hne2 : (er != 0) = true := by simpa using her
    clear hd hdec her
    go_enter Tryd.func28, Tryd.ntmps28
    go_wp2_with fail
    refine (HDEC.out _).mono ?_; rintro e w1 ⟨v1, rfl, hO1, hb1⟩
    simp only at hO1 ⊢
    go_wp2_with fail
    go_ret
    exact ⟨by rw [HPR.out]; rfl, hb1⟩
  | ok p =>
    rw [hd] at hdec
    obtain ⟨q1, q2, q3, q4⟩ := Puny.decode_ok _ _ hd
    have henc := fun a n c W h => pr_encode a n c p W h (fun x hx => by have := (Puny.point_iff _).1 (q1 x hx); omega)
    unfold PEncPost at henc
    rw [Puny.enc_ok' q2 q1] at henc
    have HDEC := Lib.hid hdec; have HENC := Lib.hid henc
    have HUP := Lib.hid (Lab.proper_up hd)
    have HOK := Lib.hid (Lab.proper_okR hd)
    obtain ⟨sv, hsv⟩ : ∃ sv, sv = str r := ⟨_, rfl⟩
    rw [← hsv] at HDEC ⊢
    have HSV := Lib.hid hsv
    have hpb : ∀ x ∈ p, 0 ≤ x ∧ x ≤ 1114111 := fun x hx => by have := (Puny.point_iff _).1 (q1 x hx); omega
    have HPB := Lib.hid hpb
    clear hsv hd hdec henc q1 q3 q4 hpb
    go_enter Tryd.func28, Tryd.ntmps28
    go_wp2_with fail
    refine (HDEC.out _).mono ?_; rintro e w1 ⟨v1, rfl, hO1, hb1⟩
    simp only at hO1 ⊢
    obtain ⟨a1, c1, rfl, hs1⟩ := hO1.sl
    have hsz1 := hb1.size
    clear hO1
    have hle : ((p.length : Nat) : Int) ≤ 256 := by omega
    go_wp2_with fail
    go_loopw [5, 6] (fun v5 i wr => ProRelR p p.length w1 v5 i wr) (fun _ i _ => p.length - (intOf i).toNat)
    case atStart => exact ⟨0, false, Nat.zero_le _, rfl, rfl, Lib.hid (by simp), Lib.hid (by simp), Below.refl _ _⟩
    case round =>
      obtain ⟨k, bs, hk, rfl, rfl, HB, HU, hB⟩ := hrel
      by_cases hlt : k < p.length
      · obtain ⟨g, o, rfl, hg, hkl, hc1⟩ := (hs1.ext hB).at hlt
        rw [List.getElem?_eq_getElem hkl, Option.getD_some] at hc1
        have HMEM := Lib.hid (List.getElem_mem hkl)
        have HTK := Lib.hid (List.take_succ_eq_append_getElem hkl)
        have hpx := HPB.out _ HMEM.out
        have b0 : (0 : Int) ≤ (k : Int) := by omega
        have b1 : (k : Int) < (p.length : Int) := by omega
        generalize p[k] = x at *
        have hx0 := hpx.1
        have hx1 := hpx.2
        clear hpx
        by_cases h1 : 65 ≤ x
        · by_cases h2 : x ≤ 90
          · have HF := Lib.hid (HUP.out x HMEM.out ⟨h1, h2⟩)
            have h3 : ¬ 128 ≤ x := by omega
            clear HUP HOK
            cases bs
            all_goals
              go_wp2_with fail
              go_ret
              exact ⟨by rw [HF.out]; rfl, hb1.trans (hB.mono hsz1)⟩
          · have HUN := Lib.hid (show ∀ y ∈ p.take (k + 1), ¬ (65 ≤ y ∧ y ≤ 90) by
              rw [HTK.out]; intro y hy
              rcases List.mem_append.1 hy with hy | hy
              · exact HU.out y hy
              · simp at hy; subst hy; omega)
            by_cases h3 : 128 ≤ x
            all_goals
              cases bs
              all_goals
                go_wp2_with fail
                go_roundw
                case rel => exact ⟨k + 1, _, by omega, by go_num, rfl, Lib.hid (by rw [HTK.out, List.any_append, ← HB.out]; simp [h3]), HUN, hB⟩
                case measure => simp [intOf]; omega
        · have HUN := Lib.hid (show ∀ y ∈ p.take (k + 1), ¬ (65 ≤ y ∧ y ≤ 90) by
              rw [HTK.out]; intro y hy
              rcases List.mem_append.1 hy with hy | hy
              · exact HU.out y hy
              · simp at hy; subst hy; omega)
          have h3 : ¬ 128 ≤ x := by omega
          cases bs
          all_goals
            go_wp2_with fail
            go_roundw
            case rel => exact ⟨k + 1, _, by omega, by go_num, rfl, Lib.hid (by rw [HTK.out, List.any_append, ← HB.out]; simp [h3]), HUN, hB⟩
            case measure => simp [intOf]; omega
      · obtain rfl : k = p.length := by omega
        rw [List.take_of_length_le (Nat.le_refl _)] at HB HU
        have hok := HOK.out HU.out
        rw [← HB.out] at hok
        have HOK2 := Lib.hid hok
        clear hok HOK HUP
        have hs2 := hs1.ext hB
        have hB2 := hb1.trans (hB.mono hsz1)
        have hsz2 := hB2.size
        by_cases he : Puny.encode p = r
        · have hq : ((str (Puny.encode p)).toList == sv.toList) = true := by rw [he, HSV.out]; simp
          have HE := Lib.hid he
          clear he
          go_wp2_with fail
          refine (HENC.out _ _ _ _ hs2).mono ?_; rintro e w2 ⟨rfl, hb2⟩
          have hB3 := hB2.trans (hb2.mono hsz2)
          simp only
          generalize str (Puny.encode p) = sv2 at *
          go_wp2_with fail
          go_ret
          exact ⟨by rw [HOK2.out, decide_eq_true HE.out]; rfl, hB3⟩
        · have hq : ((str (Puny.encode p)).toList == sv.toList) = false := by rw [HSV.out]; simpa using he
          have HE := Lib.hid he
          clear he
          go_wp2_with fail
          refine (HENC.out _ _ _ _ hs2).mono ?_; rintro e w2 ⟨rfl, hb2⟩
          have hB3 := hB2.trans (hb2.mono hsz2)
          simp only
          generalize str (Puny.encode p) = sv2 at *
          go_wp2_with fail
          go_ret
          exact ⟨by rw [HOK2.out, decide_eq_false HE.out]; rfl, hB3⟩

end Go.Proofs.YtngccnikpjoldaaDoor
