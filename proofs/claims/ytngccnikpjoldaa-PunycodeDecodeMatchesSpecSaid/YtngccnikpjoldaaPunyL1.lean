/-
  The walks of the statements on Punycode: awake, PunycodeRoundTrip, PunycodeInjective.
-/
import Derived.Test.YtngccnikpjoldaaPunyDecode
import Derived.Test.YtngccnikpjoldaaPunyEnc
import Derived.Test.YtngccnikpjoldaaKeepI
namespace Go.Proofs.Ytngccnikpjoldaa
open Go.RowKit

theorem keep_ints_t (a b : Option Addr) (n m c d : Nat) (l : List Int) (w : World) (h : SlI w a n c l) (h' : SlI w b m d l) :
    Calls Try.prog 11 #[.slice a n c, .slice b m d] w fun e w' => e = .returned (.bool true) ∧ Below w.heap.size w w' := by
  have := keep_ints a b n m c d l l w h h'
  rw [beq_self_eq_true] at this; exact this

theorem aw_enc : Puny.enc [98, 252, 99, 104, 101, 114] = ([98, 99, 104, 101, 114, 45, 107, 118, 97], 0) := by decide +kernel
theorem aw_dec : Puny.dec [98, 99, 104, 101, 114, 45, 107, 118, 97] = ([98, 252, 99, 104, 101, 114], 0) := by decide +kernel
theorem aw_dec2 : Puny.dec [45] = ([], 4) := by decide +kernel

set_option maxHeartbeats 4000000 in
set_option maxRecDepth 100000 in
theorem pn_awake (w : World) : Calls Try.prog 8 #[] w fun e w' => e = .returned (.bool true) ∧ Below w.heap.size w w' := by
  have h1 := fun a n c W h hi => pn_encode a n c [98, 252, 99, 104, 101, 114] W h hi
  have h2 := fun W => pn_decode [98, 99, 104, 101, 114, 45, 107, 118, 97] W (by decide)
  have h3 := fun W => pn_decode [45] W (by decide)
  unfold PEncPost at h1
  unfold PDecPost at h2 h3
  rw [aw_enc] at h1
  rw [aw_dec] at h2
  rw [aw_dec2] at h3
  have H1 := Lib.hid h1; have H2 := Lib.hid h2; have H3 := Lib.hid h3
  clear h1 h2 h3
  go_enter Try.func8, Try.ntmps8
  go_wp2_with fail
  refine (H1.out _ _ _ _ (SlI.built _ _ [98, 252, 99, 104, 101, 114] _ _ _ _ rfl rfl (by decide) rfl) (by decide)).mono ?_; rintro e w1 ⟨rfl, hb1⟩
  have hw1 : Below w.heap.size w w1 := ((Below.refl _ _).alloc (Nat.le_refl _) _).trans (hb1.mono (by simp))
  clear hb1
  go_wp2_with fail
  refine (H2.out _).mono ?_; rintro e w2 ⟨v2, rfl, hO2, hb2⟩
  have hw2 := hw1.trans (hb2.mono hw1.size)
  obtain ⟨a2, c2, rfl, hs2⟩ := hO2.sl
  clear hO2 hb2 hw1
  go_wp2_with fail
  refine (H3.out _).mono ?_; rintro e w3 ⟨v3, rfl, hO3, hb3⟩
  have hw3 := hw2.trans (hb3.mono hw2.size)
  have hs3 := hs2.ext hb3
  obtain ⟨g, o, rfl, hg, -, hc⟩ := hs3.at (k := 1) (by decide)
  simp only at hc ⊢
  have hs : (str [98, 99, 104, 101, 114, 45, 107, 118, 97]).toList = [98, 99, 104, 101, 114, 45, 107, 118, 97] := by simp
  replace hc : w3.cell? ⟨g, o + 1, none⟩ = some (.int .i64 252) := hc
  clear hO3 hb3 hs3 hs2 hw2
  generalize str [98, 99, 104, 101, 114, 45, 107, 118, 97] = sv at *
  go_wp2_with fail
  go_ret
  exact ⟨rfl, hw3⟩

theorem Puny.enc_bad {ps : List Int} (hn : ps.length ≤ 256) (h : ¬ ∀ p ∈ ps, Puny.point p = true) : Puny.enc ps = ([], 2) := by
  unfold Puny.enc; rw [if_neg (by omega), if_neg (by rw [List.all_eq_true]; exact h)]
theorem Puny.enc_ok {ps : List Int} (hn : ps.length ≤ 256) (h : ∀ p ∈ ps, Puny.point p = true) : Puny.enc ps = (Puny.encode ps, 0) := by
  unfold Puny.enc; rw [if_neg (by omega), if_pos (by rw [List.all_eq_true]; exact h)]

set_option maxHeartbeats 4000000 in
set_option maxRecDepth 100000 in
theorem pn_roundTrip (a : Option Addr) (n c : Nat) (ps : List Int) (w : World) (h : SlI w a n c ps) (hi : ∀ p ∈ ps, -9223372036854775808 ≤ p ∧ p ≤ 9223372036854775807) :
    Calls Try.prog 5 #[.slice a n c] w fun e w' => e = .returned (.bool true) ∧ Below w.heap.size w w' := by
  have hle := h.le
  have HLN := Lib.hid h.len
  have HI := Lib.hid hi
  by_cases hn : 60 < n
  · have ht : (60 : Int) < (n : Int) := by omega
    clear hi
    go_enter Try.func5, Try.ntmps5
    go_wp2_with fail
    refine (pn_awake _).mono ?_; rintro e w1 ⟨rfl, hb1⟩
    go_wp2_with fail
    go_ret
    exact ⟨rfl, hb1⟩
  have ht : ¬ (60 : Int) < (n : Int) := by omega
  have henc := fun W h => pn_encode a n c ps W h hi
  clear hi
  unfold PEncPost at henc
  by_cases hall : ∀ p ∈ ps, Puny.point p = true
  · rw [Puny.enc_ok (by rw [HLN.out]; omega) hall] at henc
    have hsh := Puny.encode_short ps hall (by rw [HLN.out]; omega)
    have hde := Puny.decode_encode ps hall (by rw [HLN.out]; omega) hsh
    have hdec := fun W => pn_decode (Puny.encode ps) W (by omega)
    unfold PDecPost Puny.dec at hdec
    rw [hde] at hdec
    have HENC := Lib.hid henc; have HDEC := Lib.hid hdec; have HALL := Lib.hid hall
    clear henc hdec hall hde hsh
    go_enter Try.func5, Try.ntmps5
    go_wp2_with fail
    refine (HENC.out _ h).mono ?_; rintro e w1 ⟨rfl, hb1⟩
    generalize str (Puny.encode ps) = sv at *
    go_wp2_with fail
    go_loopw [5] (fun i wr => ∃ k : Nat, k ≤ n ∧ i = .int .i64 k ∧ Below w.heap.size w wr) (fun i _ => n - (intOf i).toNat)
    case atStart => exact ⟨0, Nat.zero_le _, rfl, hb1⟩
    case round =>
      obtain ⟨k, hk, rfl, hB⟩ := hrel
      by_cases hlt : k < n
      · obtain ⟨g, o, rfl, hg, hkl, hc1⟩ := (h.ext hB).at hlt
        rw [List.getElem?_eq_getElem hkl, Option.getD_some] at hc1
        have hp := HALL.out _ (List.getElem_mem hkl)
        have hpi := HI.out _ (List.getElem_mem hkl)
        have b0 : (0 : Int) ≤ (k : Int) := by omega
        have b1 : (k : Int) < (n : Int) := by omega
        generalize ps[k] = p at *
        have HP := Lib.hid hp
        have HPI := Lib.hid hpi
        clear hp hpi
        go_wp2_with fail
        refine (pr_point p _ HPI.out.1 HPI.out.2).mono ?_; rintro e w2 ⟨rfl, rfl⟩
        rw [HP.out]
        go_wp2_with fail
        go_roundw
        case rel => exact ⟨k + 1, by omega, by go_num, hB⟩
        case measure => simp [intOf]; omega
      · obtain rfl : k = n := by omega
        have hsz := hB.size
        go_wp2_with fail
        refine (HDEC.out _).mono ?_; rintro e w2 ⟨v2, rfl, hO2, hb2⟩
        simp only
        obtain ⟨a2, c2, rfl, hs2⟩ := hO2.sl
        have hB2 := hB.trans (hb2.mono hsz)
        rw [HLN.out] at hs2 ⊢
        clear hO2 hb2
        go_wp2_with fail
        refine (keep_ints_t _ _ _ _ _ _ ps _ hs2 (h.ext hB2)).mono ?_; rintro e w3 ⟨rfl, hb3⟩
        have hB3 := hB2.trans (hb3.mono hB2.size)
        have hsz3 := hB3.size
        go_wp2_with fail
        refine (pn_awake _).mono ?_; rintro e w4 ⟨rfl, hb4⟩
        have hB4 := hB3.trans (hb4.mono hsz3)
        go_wp2_with fail
        go_ret
        exact ⟨rfl, hB4⟩
  · rw [Puny.enc_bad (by rw [HLN.out]; omega) hall] at henc
    have HENC := Lib.hid henc; have HALL := Lib.hid hall
    clear henc hall
    have hs : (str []).toList.isEmpty = true := by simp
    go_enter Try.func5, Try.ntmps5
    go_wp2_with fail
    refine (HENC.out _ h).mono ?_; rintro e w1 ⟨rfl, hb1⟩
    simp only
    generalize str [] = sv at *
    go_wp2_with fail
    go_loopw [5] (fun i wr => ∃ k : Nat, k ≤ n ∧ i = .int .i64 k ∧ Hid (∀ p ∈ ps.take k, Puny.point p = true) ∧ Below w.heap.size w wr) (fun i _ => n - (intOf i).toNat)
    case atStart => exact ⟨0, Nat.zero_le _, rfl, Lib.hid (by simp), hb1⟩
    case round =>
      obtain ⟨k, hk, rfl, HT, hB⟩ := hrel
      by_cases hlt : k < n
      · obtain ⟨g, o, rfl, hg, hkl, hc1⟩ := (h.ext hB).at hlt
        rw [List.getElem?_eq_getElem hkl, Option.getD_some] at hc1
        have hpi := HI.out _ (List.getElem_mem hkl)
        have htk := List.take_succ_eq_append_getElem hkl
        have b0 : (0 : Int) ≤ (k : Int) := by omega
        have b1 : (k : Int) < (n : Int) := by omega
        have hsz := hB.size
        generalize ps[k] = p at *
        have HPI := Lib.hid hpi
        have HTK := Lib.hid htk
        clear hpi htk
        go_wp2_with fail
        refine (pr_point p _ HPI.out.1 HPI.out.2).mono ?_; rintro e w2 ⟨rfl, rfl⟩
        cases hp : Puny.point p with
        | true =>
          have HN := Lib.hid (show ∀ x ∈ ps.take (k + 1), Puny.point x = true by
            rw [HTK.out]; intro x hx
            rcases List.mem_append.1 hx with hx | hx
            · exact HT.out x hx
            · simp at hx; subst hx; exact hp)
          clear hp
          go_wp2_with fail
          go_roundw
          case rel => exact ⟨k + 1, by omega, by go_num, HN, hB⟩
          case measure => simp [intOf]; omega
        | false =>
          clear hp
          go_wp2_with fail
          refine (pn_awake _).mono ?_; rintro e w4 ⟨rfl, hb4⟩
          have hB4 := hB.trans (hb4.mono hsz)
          go_wp2_with fail
          go_ret
          exact ⟨rfl, hB4⟩
      · obtain rfl : k = n := by omega
        exact absurd (fun p hp => HT.out p (by rw [List.take_of_length_le (by rw [HLN.out]; omega)]; exact hp)) HALL.out

end Go.Proofs.Ytngccnikpjoldaa
