/-
  The walks of the statements on labels that do without the reference: awake, LabelRoundTrip, LabelToASCIIStable, LabelUnicodeInjective.
-/
import Derived.Test.YtngccnikpjoldaaDoorLab4
namespace Go.Proofs.YtngccnikpjoldaaDoor
open Go.RowKit

set_option maxHeartbeats 4000000 in
set_option maxRecDepth 100000 in
theorem lab_awake (w : World) (hT : Tabs w) : Calls Tryd.prog 7 #[] w fun e w' => e = .returned (.bool true) ∧ Below w.heap.size w w' := by
  have h1 := fun W h => lab_toASCII [66, 195, 188, 99, 104, 101, 114] W (by decide) h
  have h2 := fun W => lab_toUnicode [120, 110, 45, 45, 98, 99, 104, 101, 114, 45, 107, 118, 97] W (by decide)
  have h3 := fun W h => lab_toASCII [45, 97] W (by decide) h
  have h4 := fun W => lab_valid [97, 95, 49] W (by decide)
  unfold StrPost at h1 h2 h3
  rw [Lab.aw_a] at h1
  rw [Lab.aw_u] at h2
  rw [Lab.aw_h] at h3
  rw [Lab.aw_v] at h4
  have H1 := Lib.hid h1; have H2 := Lib.hid h2; have H3 := Lib.hid h3; have H4 := Lib.hid h4
  clear h1 h2 h3 h4
  go_enter Tryd.func7, Tryd.ntmps7
  go_wp2_with fail
  refine (H1.out _ hT).mono ?_; rintro e w1 ⟨rfl, hb1⟩
  have hT1 := hT.below hb1
  have hsz1 := hb1.size
  simp only
  go_wp2_with fail
  refine (H2.out _).mono ?_; rintro e w2 ⟨rfl, hb2⟩
  have hT2 := hT1.below hb2
  have hB2 := hb1.trans (hb2.mono hsz1)
  have hsz2 := hB2.size
  simp only
  go_wp2_with fail
  refine (H3.out _ hT2).mono ?_; rintro e w3 ⟨rfl, hb3⟩
  have hB3 := hB2.trans (hb3.mono hsz2)
  have hsz3 := hB3.size
  simp only
  have hs1 : (str [120, 110, 45, 45, 98, 99, 104, 101, 114, 45, 107, 118, 97]).toList = [120, 110, 45, 45, 98, 99, 104, 101, 114, 45, 107, 118, 97] := by simp
  have hs2 : (str [98, 195, 188, 99, 104, 101, 114]).toList = [98, 195, 188, 99, 104, 101, 114] := by simp
  generalize str [120, 110, 45, 45, 98, 99, 104, 101, 114, 45, 107, 118, 97] = s1 at *
  generalize str [98, 195, 188, 99, 104, 101, 114] = s2 at *
  go_wp2_with fail
  refine (H4.out _).mono ?_; rintro e w4 ⟨rfl, hb4⟩
  have hB4 := hB3.trans (hb4.mono hsz3)
  go_wp2_with fail
  go_ret
  exact ⟨rfl, hB4⟩

theorem Lab.toU_len (l : List UInt8) : (Lab.toU l).1.length ≤ l.length + 1024 := by
  cases hv : Lab.valid l with
  | false => rw [Lab.toU_bad hv]; simp
  | true =>
    cases hp : Lab.pre.isPrefixOf l with
    | false => rw [Lab.toU_plain hv hp]; simp
    | true =>
      obtain ⟨p, hd, ht⟩ := Lab.toU_pre hv hp
      obtain ⟨-, q2, -, -⟩ := Puny.decode_ok _ _ hd
      have := Lab.text_le p
      rw [ht]; simp only; omega

set_option maxHeartbeats 4000000 in
set_option maxRecDepth 100000 in
theorem lab_roundTrip (s : ByteArray) (w : World) (_h : s.size ≤ maxLen) (hT : Tabs w) :
    Calls Tryd.prog 4 #[.string s] w fun e w' => e = .returned (.bool true) ∧ Below w.heap.size w w' := by
  obtain ⟨l, rfl⟩ : ∃ l, s = str l := ⟨s.data.toList, by simp [str]⟩
  have hsz := str_size l
  by_cases hn : 1200 < l.length
  · have ht : (1200 : Int) < (l.length : Int) := by omega
    generalize str l = sv at *
    go_enter Tryd.func4, Tryd.ntmps4
    go_wp2_with fail
    refine (lab_awake _ hT).mono ?_; rintro e w1 ⟨rfl, hb1⟩
    go_wp2_with fail
    go_ret
    exact ⟨rfl, hb1⟩
  have ht : ¬ (1200 : Int) < (l.length : Int) := by omega
  have htu := fun W => lab_toUnicode l W (by omega)
  have hval := fun W => lab_valid l W (by omega)
  have hul := Lab.toU_len l
  unfold StrPost at htu
  cases hv : Lab.valid l with
  | false =>
    rw [hv] at hval
    rw [Lab.toU_bad hv] at htu
    have HTU := Lib.hid htu; have HVAL := Lib.hid hval
    clear hv hul htu hval
    have hs : (str []).toList.isEmpty = true := by simp
    generalize str l = sv at *
    go_enter Tryd.func4, Tryd.ntmps4
    go_wp2_with fail
    refine (HTU.out _).mono ?_; rintro e w1 ⟨rfl, hb1⟩
    have hT1 := hT.below hb1
    have hsz1 := hb1.size
    simp only
    generalize str [] = s0 at *
    go_wp2_with fail
    refine (HVAL.out _).mono ?_; rintro e w2 ⟨rfl, hb2⟩
    have hT2 := hT1.below hb2
    have hB2 := hb1.trans (hb2.mono hsz1)
    have hsz2 := hB2.size
    go_wp2_with fail
    refine (lab_awake _ hT2).mono ?_; rintro e w3 ⟨rfl, hb3⟩
    have hB3 := hB2.trans (hb3.mono hsz2)
    go_wp2_with fail
    go_ret
    exact ⟨rfl, hB3⟩
  | true =>
    obtain ⟨u1, u2⟩ := Lab.toA_toU l hv
    rw [hv] at hval
    rw [u1] at htu
    have hta := fun W h => lab_toASCII (Lab.toU l).1 W (by omega) h
    unfold StrPost at hta
    rw [u2] at hta
    have HTU := Lib.hid htu; have HVAL := Lib.hid hval; have HTA := Lib.hid hta
    clear hv hul htu hval hta u1 u2
    generalize str (Lab.toU l).1 = tx at *
    have hq : ((str l).toList == (str l).toList) = true := by simp
    generalize str l = sv at *
    go_enter Tryd.func4, Tryd.ntmps4
    go_wp2_with fail
    refine (HTU.out _).mono ?_; rintro e w1 ⟨rfl, hb1⟩
    have hT1 := hT.below hb1
    have hsz1 := hb1.size
    go_wp2_with fail
    refine (HVAL.out _).mono ?_; rintro e w2 ⟨rfl, hb2⟩
    have hT2 := hT1.below hb2
    have hB2 := hb1.trans (hb2.mono hsz1)
    have hsz2 := hB2.size
    go_wp2_with fail
    refine (HTA.out _ hT2).mono ?_; rintro e w3 ⟨rfl, hb3⟩
    have hT3 := hT2.below hb3
    have hB3 := hB2.trans (hb3.mono hsz2)
    have hsz3 := hB3.size
    simp only
    go_wp2_with fail
    refine (lab_awake _ hT3).mono ?_; rintro e w4 ⟨rfl, hb4⟩
    have hB4 := hB3.trans (hb4.mono hsz3)
    go_wp2_with fail
    go_ret
    exact ⟨rfl, hB4⟩

theorem Lab.outA_len (l : List UInt8) : (Lab.toA l).1.length ≤ 63 := by
  rcases Lab.toA_cases l with ⟨-, h⟩ | ⟨-, h⟩
  · exact (Lab.valid_ascii _ h).2.1
  · rw [h]; simp

set_option maxHeartbeats 4000000 in
set_option maxRecDepth 100000 in
theorem lab_stable (s : ByteArray) (w : World) (_h : s.size ≤ maxLen) (hT : Tabs w) :
    Calls Tryd.prog 5 #[.string s] w fun e w' => e = .returned (.bool true) ∧ Below w.heap.size w w' := by
  obtain ⟨l, rfl⟩ : ∃ l, s = str l := ⟨s.data.toList, by simp [str]⟩
  have hsz := str_size l
  by_cases hn : 1200 < l.length
  · have ht : (1200 : Int) < (l.length : Int) := by omega
    generalize str l = sv at *
    go_enter Tryd.func5, Tryd.ntmps5
    go_wp2_with fail
    refine (lab_awake _ hT).mono ?_; rintro e w1 ⟨rfl, hb1⟩
    go_wp2_with fail
    go_ret
    exact ⟨rfl, hb1⟩
  have ht : ¬ (1200 : Int) < (l.length : Int) := by omega
  have hta := fun W h => lab_toASCII l W (by omega) h
  have htb := fun W h => lab_toASCII (Lab.lower l) W (by rw [Lab.lower_len]; omega) h
  have hlw := fun W => lab_lowerR l W (by omega)
  have hlen := Lab.outA_len l
  have hcs := Lab.toA_cases l
  unfold StrPost at hta htb
  rw [Lab.toA_low] at htb
  generalize hr : Lab.toA l = r at *
  obtain ⟨o, er⟩ := r
  simp only at hta htb hlen hcs
  have hq : ((str o).toList == (str o).toList) = true := by simp
  have hq' : ((str o).toList != (str o).toList) = false := by simp
  rcases hcs with ⟨rfl, hvo⟩ | ⟨hne, rfl⟩
  · have htc := fun W h => lab_toASCII o W (by omega) h
    have hval := fun W => lab_valid o W (by omega)
    unfold StrPost at htc
    rw [Lab.toA_canon o hvo] at htc
    rw [hvo] at hval
    have hos := str_size o
    have hol : ((o.length : Nat) : Int) ≤ 63 := by omega
    have HTA := Lib.hid hta; have HTB := Lib.hid htb; have HTC := Lib.hid htc; have HVAL := Lib.hid hval; have HLW := Lib.hid hlw
    clear hta htb htc hval hlw hvo hr hlen
    generalize str o = so at *
    generalize str (Lab.lower l) = sl at *
    generalize str l = sv at *
    go_enter Tryd.func5, Tryd.ntmps5
    go_wp2_with fail
    refine (HTA.out _ hT).mono ?_; rintro e w1 ⟨rfl, hb1⟩
    have hT1 := hT.below hb1
    have hsz1 := hb1.size
    go_wp2_with fail
    refine (HLW.out _).mono ?_; rintro e w2 ⟨rfl, hb2⟩
    have hT2 := hT1.below hb2
    have hB2 := hb1.trans (hb2.mono hsz1)
    have hsz2 := hB2.size
    go_wp2_with fail
    refine (HTB.out _ hT2).mono ?_; rintro e w3 ⟨rfl, hb3⟩
    have hT3 := hT2.below hb3
    have hB3 := hB2.trans (hb3.mono hsz2)
    have hsz3 := hB3.size
    go_wp2_with fail
    refine (HTC.out _ hT3).mono ?_; rintro e w4 ⟨rfl, hb4⟩
    have hT4 := hT3.below hb4
    have hB4 := hB3.trans (hb4.mono hsz3)
    have hsz4 := hB4.size
    simp only
    go_wp2_with fail
    refine (HVAL.out _).mono ?_; rintro e w5 ⟨rfl, hb5⟩
    have hT5 := hT4.below hb5
    have hB5 := hB4.trans (hb5.mono hsz4)
    have hsz5 := hB5.size
    go_wp2_with fail
    refine (lab_awake _ hT5).mono ?_; rintro e w6 ⟨rfl, hb6⟩
    have hB6 := hB5.trans (hb6.mono hsz5)
    go_wp2_with fail
    go_ret
    exact ⟨rfl, hB6⟩
  · have hs : (str []).toList.isEmpty = true := by simp
    have hz1 : (er != 0) = true := by simpa using hne
    have hz2 : (er != er) = false := by simp
    have HTA := Lib.hid hta; have HTB := Lib.hid htb; have HLW := Lib.hid hlw
    clear hta htb hlw hr hlen hne
    generalize str [] = so at *
    generalize str (Lab.lower l) = sl at *
    generalize str l = sv at *
    go_enter Tryd.func5, Tryd.ntmps5
    go_wp2_with fail
    refine (HTA.out _ hT).mono ?_; rintro e w1 ⟨rfl, hb1⟩
    have hT1 := hT.below hb1
    have hsz1 := hb1.size
    go_wp2_with fail
    refine (HLW.out _).mono ?_; rintro e w2 ⟨rfl, hb2⟩
    have hT2 := hT1.below hb2
    have hB2 := hb1.trans (hb2.mono hsz1)
    have hsz2 := hB2.size
    go_wp2_with fail
    refine (HTB.out _ hT2).mono ?_; rintro e w3 ⟨rfl, hb3⟩
    have hT3 := hT2.below hb3
    have hB3 := hB2.trans (hb3.mono hsz2)
    have hsz3 := hB3.size
    go_wp2_with fail
    refine (lab_awake _ hT3).mono ?_; rintro e w4 ⟨rfl, hb4⟩
    have hB4 := hB3.trans (hb4.mono hsz3)
    go_wp2_with fail
    go_ret
    exact ⟨rfl, hB4⟩

end Go.Proofs.YtngccnikpjoldaaDoor
