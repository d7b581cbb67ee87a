/-
  The walk through label.ToUnicode.
-/
import Derived.Test.YtngccnikpjoldaaDoorLab2
namespace Go.Proofs.YtngccnikpjoldaaDoor
open Go.RowKit

/-- What a function that returns a string and an error does. -/
def StrPost (r : List UInt8 × Int) (w : World) (e : Ending) (w' : World) : Prop := e = .returned (.tuple #[.string (str r.1), .int .i64 r.2]) ∧ Below w.heap.size w w'
theorem strPost_of {r : List UInt8 × Int} {t : List UInt8} {er : Int} (h : r = (t, er)) {w : World} {e : Ending} {w' : World} (he : e = .returned (.tuple #[.string (str t), .int .i64 er])) (hb : Below w.heap.size w w') : StrPost r w e w' := by
  subst h; exact ⟨he, hb⟩
theorem str_nil : str [] = ⟨#[]⟩ := rfl

theorem Lab.toU_bad {l : List UInt8} (h : Lab.valid l = false) : Lab.toU l = ([], 14) := by unfold Lab.toU; rw [if_pos h]
theorem Lab.toU_plain {l : List UInt8} (h : Lab.valid l = true) (hp : Lab.pre.isPrefixOf l = false) : Lab.toU l = (l, 0) := by unfold Lab.toU; rw [if_neg (by simp [h]), if_neg (by simp [hp])]
theorem Lab.toU_pre {l : List UInt8} (h : Lab.valid l = true) (hp : Lab.pre.isPrefixOf l = true) : ∃ p, Puny.decode (l.drop 4) = .ok p ∧ Lab.toU l = (Lab.text p, 0) := by
  have hv := h
  unfold Lab.valid at h
  rw [hp] at h
  simp only [Bool.not_true, Bool.false_or, Bool.and_eq_true] at h
  have h2 := h.2
  unfold Lab.proper at h2
  cases hd : Puny.decode (l.drop 4) with
  | error e => rw [hd] at h2; cases h2
  | ok p =>
    refine ⟨p, rfl, ?_⟩
    unfold Lab.toU Puny.dec
    rw [if_neg (by simp [hv]), if_pos hp, hd]

theorem Lab.text_snoc (p : List Int) (x : Int) : Lab.text (p ++ [x]) = Lab.text p ++ Lib.encodeRune x := by simp [Lab.text]
theorem Lab.enc_le (x : Int) : (Lib.encodeRune x).length ≤ 4 := by
  have := (Lib.encodeRuneZ_length x).2; unfold Lib.encodeRune; simpa using this
theorem Lab.text_le (p : List Int) : (Lab.text p).length ≤ 4 * p.length := by
  induction p with
  | nil => simp [Lab.text_nil]
  | cons x p ih => rw [Lab.text_cons, List.length_append, List.length_cons]; have := Lab.enc_le x; omega

/-- The loop over the code points. -/
def TxtRel (p : List Int) (n : Nat) (W0 : World) (v i : Value) (wr : World) : Prop := ∃ k : Nat, k ≤ n ∧ i = .int .i64 k ∧ OwnB W0.heap.size wr v (Lab.text (p.take k)) ∧ Below W0.heap.size W0 wr

set_option maxHeartbeats 8000000 in
set_option maxRecDepth 100000 in
theorem lab_toUnicode (l : List UInt8) (w : World) (hl : l.length ≤ 1000000) :
    Calls Tryd.prog 10 #[.string (str l)] w (StrPost (Lab.toU l) w) := by
  have HVAL := Lib.hid (fun W => lab_valid l W hl)
  cases hv : Lab.valid l with
  | false =>
    have HF := Lib.hid (Lab.toU_bad hv)
    rw [hv] at HVAL
    clear hv
    generalize str l = sv at *
    go_enter Tryd.func10, Tryd.ntmps10
    go_wp2_with fail
    refine (HVAL.out _).mono ?_; rintro e w1 ⟨rfl, hb1⟩
    go_wp2_with fail
    go_ret2
    exact strPost_of HF.out rfl hb1
  | true =>
    have hcut := fun W => lab_cut l W
    cases hp : Lab.pre.isPrefixOf l with
    | false =>
      have HF := Lib.hid (Lab.toU_plain hv hp)
      rw [hv] at HVAL
      rw [hp] at hcut
      have HCUT := Lib.hid hcut
      clear hv hp hcut
      obtain ⟨sv, hsv⟩ : ∃ sv, sv = str l := ⟨_, rfl⟩
      rw [← hsv] at HVAL HCUT ⊢
      have HSV := Lib.hid hsv
      clear hsv
      go_enter Tryd.func10, Tryd.ntmps10
      go_wp2_with fail
      refine (HVAL.out _).mono ?_; rintro e w1 ⟨rfl, hb1⟩
      go_wp2_with fail
      refine (HCUT.out _).mono ?_; rintro e w2 ⟨rfl, rfl⟩
      go_wp2_with fail
      go_ret2
      exact strPost_of HF.out (by rw [← HSV.out]; rfl) hb1
    | true =>
      obtain ⟨p, hd, ht⟩ := Lab.toU_pre hv hp
      obtain ⟨q1, q2, -, -⟩ := Puny.decode_ok _ _ hd
      have hdec := fun W => pn_decode (l.drop 4) W (by simp; omega)
      unfold PDecPost Puny.dec at hdec
      rw [hd] at hdec
      rw [hv] at HVAL
      rw [hp] at hcut
      simp only [if_true] at hcut
      have HCUT := Lib.hid hcut; have HDEC := Lib.hid hdec; have HF := Lib.hid ht
      have hpb : ∀ x ∈ p, 0 ≤ x ∧ x ≤ 1114111 := fun x hx => by have := (Puny.point_iff _).1 (q1 x hx); omega
      have HPB := Lib.hid hpb
      clear hv hp hcut hd ht hdec q1 hpb
      generalize str l = sv at *
      generalize str (l.drop 4) = sv2 at *
      go_enter Tryd.func10, Tryd.ntmps10
      go_wp2_with fail
      refine (HVAL.out _).mono ?_; rintro e w1 ⟨rfl, hb1⟩
      go_wp2_with fail
      refine (HCUT.out _).mono ?_; rintro e w2 ⟨rfl, rfl⟩
      go_wp2_with fail
      refine (HDEC.out _).mono ?_; rintro e w3 ⟨v3, rfl, hO3, hb3⟩
      simp only at hO3 ⊢
      obtain ⟨a3, c3, rfl, hs3⟩ := hO3.sl
      have hsz1 := hb1.size
      have hB3 := hb1.trans (hb3.mono hsz1)
      have hsz3 := hB3.size
      clear hO3 hb1 hb3 HCUT HDEC HVAL
      have hle : ((p.length : Nat) : Int) ≤ 256 := by omega
      go_wp2_with fail
      go_loopw [8, 29] (fun v i wr => TxtRel p p.length w3 v i wr) (fun _ i _ => p.length - (intOf i).toNat)
      case atStart => exact ⟨0, Nat.zero_le _, rfl, OwnB.nil _ _, Below.refl _ _⟩
      case round =>
        obtain ⟨k, hk, rfl, hO, hB⟩ := hrel
        by_cases hlt : k < p.length
        · obtain ⟨g, o, rfl, hg, hkl, hc1⟩ := (hs3.ext hB).at hlt
          rw [List.getElem?_eq_getElem hkl, Option.getD_some] at hc1
          have hpx := HPB.out _ (List.getElem_mem hkl)
          have HTK := Lib.hid (List.take_succ_eq_append_getElem hkl)
          have b0 : (0 : Int) ≤ (k : Int) := by omega
          have b1 : (k : Int) < (p.length : Int) := by omega
          have hbw := hB.size
          have htl := Lab.text_le (p.take k)
          have htl2 : (p.take k).length ≤ 256 := by simp; omega
          generalize p[k] = x at *
          have hx0 := hpx.1
          have hx1 := hpx.2
          have hxw : IntKind.i32.wrap x = x := by rw [IntKind.wrap_i32]; omega
          clear hpx
          go_wp2_with fail
          refine (sh_appendRune w3.heap.size _ _ x (by omega) (by omega) _ hO (by omega) hbw).mono ?_; rintro e w4 ⟨v4, rfl, hO4, o4, hg4⟩
          have hB4 := (hB.alloc hbw o4).grown hg4 (by simp; omega) (fun k hk => (hO.lt k hk).1)
          clear hg4 hO hB
          go_wp2_with fail
          go_roundw
          case rel => exact ⟨k + 1, by omega, by go_num, by rw [HTK.out, Lab.text_snoc]; exact hO4, hB4⟩
          case measure => simp [intOf]; omega
        · obtain rfl : k = p.length := by omega
          rw [List.take_of_length_le (Nat.le_refl _)] at hO
          obtain ⟨a4, c4, rfl, hs4, -⟩ := hO.sl
          have hcv := run_conv_bytes hs4
          have hB4 := hB3.trans (hB.mono hsz3)
          clear hs4 hs3
          generalize (Lab.text p).length = n2 at *
          go_wp2
          go_ret2
          exact strPost_of HF.out rfl hB4

end Go.Proofs.YtngccnikpjoldaaDoor
