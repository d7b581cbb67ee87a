/-
  The walk of LabelUnicodeInjective.
-/
import Derived.Test.YtngccnikpjoldaaDoorLabL1
namespace Go.Proofs.YtngccnikpjoldaaDoor
open Go.RowKit

set_option maxHeartbeats 4000000 in
set_option maxRecDepth 100000 in
theorem keep_short2 (s t : ByteArray) (w : World) (g : Nat) (h0 : w.cell? ⟨g, 0, none⟩ = some (.string s)) (h1 : w.cell? ⟨g, 1, none⟩ = some (.string t)) (hs : s.size ≤ maxLen) (ht : t.size ≤ maxLen) :
    Calls Tryd.prog 15 #[.int .i64 300, .slice (some ⟨g, 0, none⟩) 2 2] w fun e w' => e = .returned (.bool (decide (s.size ≤ 300) && decide (t.size ≤ 300))) ∧ w' = w := by
  unfold maxLen at hs ht
  have H1 := Lib.hid h1
  go_enter Tryd.func15, Tryd.ntmps15
  go_wp2_with fail
  go_loop [5] (fun i => ∃ k : Nat, k ≤ 2 ∧ i = .int .i64 k ∧ Hid (0 < k → s.size ≤ 300) ∧ Hid (1 < k → t.size ≤ 300)) (fun i => 2 - (intOf i).toNat)
  case atStart => exact ⟨0, by omega, rfl, Lib.hid (fun h => by omega), Lib.hid (fun h => by omega)⟩
  case round =>
    obtain ⟨k, hk, rfl, HA, HB⟩ := hrel
    by_cases hlt : k < 2
    · obtain ⟨x, hx, hxs, HX⟩ : ∃ x : ByteArray, w.cell? ⟨g, k, none⟩ = some (.string x) ∧ x.size ≤ 9223372036854775807 ∧ Hid ((k = 0 ∧ x = s) ∨ (k = 1 ∧ x = t)) := by
        by_cases h : k = 0
        · subst h; exact ⟨s, h0, hs, Lib.hid (.inl ⟨rfl, rfl⟩)⟩
        · obtain rfl : k = 1 := by omega
          exact ⟨t, h1, ht, Lib.hid (.inr ⟨rfl, rfl⟩)⟩
      have b0 : (0 : Int) ≤ (k : Int) := by omega
      have b1 : (k : Int) < 2 := by omega
      clear h0 h1
      by_cases hb : 300 < x.size
      · have hbz : (300 : Int) < (x.size : Int) := by omega
        have HF := Lib.hid (show (decide (s.size ≤ 300) && decide (t.size ≤ 300)) = false by
          rcases HX.out with ⟨_, rfl⟩ | ⟨_, rfl⟩ <;> simp <;> omega)
        go_wp2_with fail
        go_ret
        exact ⟨by rw [HF.out]; rfl, rfl⟩
      · have hbz : ¬ (300 : Int) < (x.size : Int) := by omega
        have HA2 : Hid (0 < k + 1 → s.size ≤ 300) := Lib.hid (fun _ => by rcases HX.out with ⟨_, rfl⟩ | ⟨rfl, _⟩ <;> first | omega | exact HA.out (by omega))
        have HB2 : Hid (1 < k + 1 → t.size ≤ 300) := Lib.hid (fun h => by rcases HX.out with ⟨rfl, _⟩ | ⟨_, rfl⟩ <;> omega)
        go_wp2_with fail
        go_round
        case rel => exact ⟨k + 1, by omega, by go_num, HA2, HB2⟩
        case measure => simp [intOf]; omega
    · obtain rfl : k = 2 := by omega
      have HF := Lib.hid (show (decide (s.size ≤ 300) && decide (t.size ≤ 300)) = true by
          have a := HA.out (by omega); have b := HB.out (by omega); simp [a, b])
      clear h0 h1
      go_wp2_with fail
      go_ret
      exact ⟨by rw [HF.out]; rfl, rfl⟩

theorem cells_two (w : World) (x y : Value) (t : TypeId) : (w.alloc (.cells #[x, y] t)).cell? ⟨w.heap.size, 0, none⟩ = some x ∧ (w.alloc (.cells #[x, y] t)).cell? ⟨w.heap.size, 1, none⟩ = some y := by
  constructor <;> (rw [World.cell?_alloc_at _ _ _ _ rfl]; rfl)

set_option maxHeartbeats 4000000 in
set_option maxRecDepth 100000 in
theorem lab_injective (s t : ByteArray) (w : World) (hs : s.size ≤ maxLen) (ht : t.size ≤ maxLen) (hT : Tabs w) :
    Calls Tryd.prog 6 #[.string s, .string t] w fun e w' => e = .returned (.bool true) ∧ Below w.heap.size w w' := by
  have hb0 : Below w.heap.size w (w.alloc (.cells #[.string s, .string t] 9)) := (Below.refl _ _).alloc (Nat.le_refl _) _
  have hsh := keep_short2 s t _ _ (cells_two w (.string s) (.string t) 9).1 (cells_two w (.string s) (.string t) 9).2 hs ht
  have hT0 := hT.below hb0
  have hsz0 := hb0.size
  by_cases hn : s.size ≤ 300 ∧ t.size ≤ 300
  · rw [show (decide (s.size ≤ 300) && decide (t.size ≤ 300)) = true by simp [hn]] at hsh
    obtain ⟨l, rfl⟩ : ∃ l, s = str l := ⟨s.data.toList, by simp [str]⟩
    obtain ⟨k, rfl⟩ : ∃ l, t = str l := ⟨t.data.toList, by simp [str]⟩
    rw [str_size, str_size] at hn
    have hsz := str_size l
    have hsz' := str_size k
    have hu := fun W => lab_toUnicode l W (by omega)
    have hv := fun W => lab_toUnicode k W (by omega)
    unfold StrPost at hu hv
    have hinj := fun h1 h2 => Lab.toU_inj l k h1 h2
    have hst : ((str l).toList == (str k).toList) = decide (l = k) := by
      rw [str_toList, str_toList, Bool.eq_iff_iff]; simp
    have hab : ((str (Lab.toU l).1).toList == (str (Lab.toU k).1).toList) = decide ((Lab.toU l).1 = (Lab.toU k).1) := by
      rw [str_toList, str_toList, Bool.eq_iff_iff]; simp
    generalize (Lab.toU l).1 = u1 at *
    generalize (Lab.toU l).2 = e1 at *
    generalize (Lab.toU k).1 = u2 at *
    generalize (Lab.toU k).2 = e2 at *
    have HSH := Lib.hid hsh; have HU := Lib.hid hu; have HV := Lib.hid hv
    by_cases h1 : e1 = 0
    · by_cases h2 : e2 = 0
      · have heq := hinj h1 h2
        have q1 : (e1 != 0) = false := by simp [h1]
        have q2 : (e2 != 0) = false := by simp [h2]
        obtain ⟨B, hB1, hB2⟩ : ∃ B, ((str l).toList == (str k).toList) = B ∧ ((str u1).toList == (str u2).toList) = B := ⟨_, rfl, by rw [hst, hab]; simp only [heq]⟩
        have hBB : (B == B) = true := by simp
        clear heq h1 h2
        clear hsh hu hv hinj hst hab hT hb0 hs ht
        generalize str l = sl at *
        generalize str k = sk at *
        generalize str u1 = s1 at *
        generalize str u2 = s2 at *
        go_enter Tryd.func6, Tryd.ntmps6
        go_wp2_with fail
        refine HSH.out.mono ?_; rintro e w1 ⟨rfl, rfl⟩
        have hB0 : Below w.heap.size w (w.alloc (.cells #[.string sl, .string sk] 9)) := (Below.refl _ _).alloc (Nat.le_refl _) _
        go_wp2_with fail
        refine (HU.out _).mono ?_; rintro e w2 ⟨rfl, hb2⟩
        have hT2 := hT0.below hb2
        have hB2' := hB0.trans (hb2.mono hsz0)
        have hsz2 := hB2'.size
        go_wp2_with fail
        refine (HV.out _).mono ?_; rintro e w3 ⟨rfl, hb3⟩
        have hT3 := hT2.below hb3
        have hB3 := hB2'.trans (hb3.mono hsz2)
        have hsz3 := hB3.size
        go_wp2_with fail
        refine (lab_awake _ hT3).mono ?_; rintro e w4 ⟨rfl, hb4⟩
        have hB4 := hB3.trans (hb4.mono hsz3)
        go_wp2_with fail
        go_ret
        exact ⟨rfl, hB4⟩
      · have q1 : (e1 != 0) = false := by simp [h1]
        have q2 : (e2 != 0) = true := by simp [h2]
        clear h1 h2
        clear hsh hu hv hinj hst hab hT hb0 hs ht
        generalize str l = sl at *
        generalize str k = sk at *
        generalize str u1 = s1 at *
        generalize str u2 = s2 at *
        go_enter Tryd.func6, Tryd.ntmps6
        go_wp2_with fail
        refine HSH.out.mono ?_; rintro e w1 ⟨rfl, rfl⟩
        have hB0 : Below w.heap.size w (w.alloc (.cells #[.string sl, .string sk] 9)) := (Below.refl _ _).alloc (Nat.le_refl _) _
        go_wp2_with fail
        refine (HU.out _).mono ?_; rintro e w2 ⟨rfl, hb2⟩
        have hT2 := hT0.below hb2
        have hB2' := hB0.trans (hb2.mono hsz0)
        have hsz2 := hB2'.size
        go_wp2_with fail
        refine (HV.out _).mono ?_; rintro e w3 ⟨rfl, hb3⟩
        have hT3 := hT2.below hb3
        have hB3 := hB2'.trans (hb3.mono hsz2)
        have hsz3 := hB3.size
        go_wp2_with fail
        refine (lab_awake _ hT3).mono ?_; rintro e w4 ⟨rfl, hb4⟩
        have hB4 := hB3.trans (hb4.mono hsz3)
        go_wp2_with fail
        go_ret
        exact ⟨rfl, hB4⟩
    · have q1 : (e1 != 0) = true := by simp [h1]
      clear h1
      clear hsh hu hv hinj hst hab hT hb0 hs ht
      generalize str l = sl at *
      generalize str k = sk at *
      generalize str u1 = s1 at *
      generalize str u2 = s2 at *
      go_enter Tryd.func6, Tryd.ntmps6
      go_wp2_with fail
      refine HSH.out.mono ?_; rintro e w1 ⟨rfl, rfl⟩
      have hB0 : Below w.heap.size w (w.alloc (.cells #[.string sl, .string sk] 9)) := (Below.refl _ _).alloc (Nat.le_refl _) _
      go_wp2_with fail
      refine (HU.out _).mono ?_; rintro e w2 ⟨rfl, hb2⟩
      have hT2 := hT0.below hb2
      have hB2' := hB0.trans (hb2.mono hsz0)
      have hsz2 := hB2'.size
      go_wp2_with fail
      refine (HV.out _).mono ?_; rintro e w3 ⟨rfl, hb3⟩
      have hT3 := hT2.below hb3
      have hB3 := hB2'.trans (hb3.mono hsz2)
      have hsz3 := hB3.size
      go_wp2_with fail
      refine (lab_awake _ hT3).mono ?_; rintro e w4 ⟨rfl, hb4⟩
      have hB4 := hB3.trans (hb4.mono hsz3)
      go_wp2_with fail
      go_ret
      exact ⟨rfl, hB4⟩
  · rw [show (decide (s.size ≤ 300) && decide (t.size ≤ 300)) = false by simpa using hn] at hsh
    have HSH := Lib.hid hsh
    clear hsh hn hs ht hT hb0
    go_enter Tryd.func6, Tryd.ntmps6
    go_wp2_with fail
    refine HSH.out.mono ?_; rintro e w1 ⟨rfl, rfl⟩
    have hB0 : Below w.heap.size w (w.alloc (.cells #[.string s, .string t] 9)) := (Below.refl _ _).alloc (Nat.le_refl _) _
    go_wp2_with fail
    refine (lab_awake _ hT0).mono ?_; rintro e w4 ⟨rfl, hb4⟩
    have hB4 := hB0.trans (hb4.mono hsz0)
    go_wp2_with fail
    go_ret
    exact ⟨rfl, hB4⟩

end Go.Proofs.YtngccnikpjoldaaDoor
