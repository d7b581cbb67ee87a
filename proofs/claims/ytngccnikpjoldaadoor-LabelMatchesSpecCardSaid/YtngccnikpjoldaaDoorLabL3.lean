/-
  The walk of LabelMatchesSpec.
-/
import Derived.Test.YtngccnikpjoldaaDoorLabL1
import Derived.Test.YtngccnikpjoldaaDoorLabR3
namespace Go.Proofs.YtngccnikpjoldaaDoor
open Go.RowKit

set_option maxHeartbeats 4000000 in
set_option maxRecDepth 100000 in
theorem lab_matches (s : ByteArray) (w : World) (_h : s.size ≤ maxLen) (hT : Tabs w) :
    Calls Tryd.prog 3 #[.string s] w fun e w' => e = .returned (.bool true) ∧ Below w.heap.size w w' := by
  obtain ⟨l, rfl⟩ : ∃ l, s = str l := ⟨s.data.toList, by simp [str]⟩
  have hsz := str_size l
  by_cases hn : 1200 < l.length
  · have ht : (1200 : Int) < (l.length : Int) := by omega
    generalize str l = sv at *
    go_enter Tryd.func3, Tryd.ntmps3
    go_wp2_with fail
    refine (lab_awake _ hT).mono ?_; rintro e w1 ⟨rfl, hb1⟩
    go_wp2_with fail
    go_ret
    exact ⟨rfl, hb1⟩
  have ht : ¬ (1200 : Int) < (l.length : Int) := by omega
  have h1 := fun W h => lab_toASCII l W (by omega) h
  have h2 := fun W => lr_toASCII l W (by omega)
  have h3 := fun W => lab_toUnicode l W (by omega)
  have h4 := fun W => lr_toUnicode l W (by omega)
  have h5 := fun W => lab_valid l W (by omega)
  have h6 := fun W => lr_valid l W (by omega)
  unfold StrPost at h1 h2 h3 h4
  have q1 : ((str (Lab.toA l).1).toList == (str (Lab.toA l).1).toList) = true := by simp
  have q2 : ((str (Lab.toU l).1).toList == (str (Lab.toU l).1).toList) = true := by simp
  have q3 : ((Lab.toA l).2 == (Lab.toA l).2) = true := by simp
  have q4 : ((Lab.toU l).2 == (Lab.toU l).2) = true := by simp
  have q5 : (Lab.valid l == Lab.valid l) = true := by simp
  have H1 := Lib.hid h1; have H2 := Lib.hid h2; have H3 := Lib.hid h3; have H4 := Lib.hid h4; have H5 := Lib.hid h5; have H6 := Lib.hid h6
  clear h1 h2 h3 h4 h5 h6
  generalize str (Lab.toA l).1 = s1 at *
  generalize str (Lab.toU l).1 = s2 at *
  generalize (Lab.toA l).2 = e1 at *
  generalize (Lab.toU l).2 = e2 at *
  generalize Lab.valid l = vl at *
  generalize str l = sv at *
  go_enter Tryd.func3, Tryd.ntmps3
  go_wp2_with fail
  refine (H1.out _ hT).mono ?_; rintro e w1 ⟨rfl, hb1⟩
  have hT1 := hT.below hb1
  have hsz1 := hb1.size
  go_wp2_with fail
  refine (H2.out _).mono ?_; rintro e w2 ⟨rfl, hb2⟩
  have hT2 := hT1.below hb2
  have hB2 := hb1.trans (hb2.mono hsz1)
  have hsz2 := hB2.size
  go_wp2_with fail
  refine (H3.out _).mono ?_; rintro e w3 ⟨rfl, hb3⟩
  have hT3 := hT2.below hb3
  have hB3 := hB2.trans (hb3.mono hsz2)
  have hsz3 := hB3.size
  go_wp2_with fail
  refine (H4.out _).mono ?_; rintro e w4 ⟨rfl, hb4⟩
  have hT4 := hT3.below hb4
  have hB4 := hB3.trans (hb4.mono hsz3)
  have hsz4 := hB4.size
  go_wp2_with fail
  refine (H5.out _).mono ?_; rintro e w5 ⟨rfl, hb5⟩
  have hT5 := hT4.below hb5
  have hB5 := hB4.trans (hb5.mono hsz4)
  have hsz5 := hB5.size
  go_wp2_with fail
  refine (H6.out _).mono ?_; rintro e w6 ⟨rfl, hb6⟩
  have hT6 := hT5.below hb6
  have hB6 := hB5.trans (hb6.mono hsz5)
  have hsz6 := hB6.size
  go_wp2_with fail
  refine (lab_awake _ hT6).mono ?_; rintro e w7 ⟨rfl, hb7⟩
  have hB7 := hB6.trans (hb7.mono hsz6)
  go_wp2_with fail
  go_ret
  exact ⟨rfl, hB7⟩

end Go.Proofs.YtngccnikpjoldaaDoor
