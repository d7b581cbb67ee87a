/-
  The reference's extents: Valid, Size, check.
-/
import Derived.Test.YtedmnbmfbgenjaaRDisk2
import Derived.Test.YtedmnbmfbgenjaaExtent
namespace Go.Proofs.Ytedmnbmfbgenjaa
open Go.RowKit

theorem re_size (f c : Int) (hc : -9223372036854775808 ≤ c ∧ c ≤ 9223372036854775807) (w : World) : Calls Try.prog 58 #[.agg #[.int .i64 f, .int .i64 c]] w fun e w' => e = .returned (.int .i64 (Extent.size c)) ∧ Below w.heap.size w w' := by
  have hb := (Below.refl _ w).alloc (Nat.le_refl _) (.cells #[.int .i64 f, .int .i64 c] 41)
  obtain ⟨h1, h2⟩ := hc
  unfold Extent.size
  by_cases h : c < 0
  · rw [if_pos (.inl h)]
    go_enter Try.func58, Try.ntmps58
    go_wp2
    go_ret
    exact ⟨rfl, hb⟩
  by_cases h' : 4096 < c
  · rw [if_pos (.inr h')]
    go_enter Try.func58, Try.ntmps58
    go_wp2
    go_ret
    exact ⟨rfl, hb⟩
  · rw [if_neg (by omega)]
    go_enter Try.func58, Try.ntmps58
    go_wp2
    go_ret
    exact ⟨rfl, hb⟩

section
variable {F : Nat → Prop} {w w' : World} {g sb cb sc : Nat} {fa : Option Addr} {fn fc : Nat} {d d' : Disk.Dk}

set_option maxRecDepth 100000 in
set_option maxHeartbeats 2000000 in
theorem re_valid (h : RD F w g sb cb sc fa fn fc d) (f c : Int) :
    Calls Try.prog 56 #[.pointer (some ⟨g, 0, none⟩), .agg #[.int .i64 f, .int .i64 c]] w fun e w' => e = .returned (.bool (Extent.valid d.st.length f c)) ∧ Below w.heap.size w w' := by
  have hb := (Below.refl _ w).alloc (Nat.le_refl _) (.cells #[.int .i64 f, .int .i64 c] 41)
  have hn := h.ok.max
  have hP := h.ext hb
  have HQ : ∀ q, Calls Try.prog 77 #[.pointer (some ⟨g, 0, none⟩)] ((w.alloc (.cells #[.int .i64 f, .int .i64 c] 41)).drewN q) fun e w' => e = .returned (.int .i64 (d.st.length : Nat)) ∧ w' = (w.alloc (.cells #[.int .i64 f, .int .i64 c] 41)).drewN q := fun q => (rd_sectors (hP.drewN q)).mono (by rintro e w' ⟨rfl, rfl⟩; exact ⟨rfl, rfl⟩)
  have hbq : ∀ q, Below w.heap.size w ((w.alloc (.cells #[.int .i64 f, .int .i64 c] 41)).drewN q) := fun q => hb.trans (below_drewQ _ _ _)
  generalize d.st.length = n at *
  clear hP h
  have HC := Lib.hid HQ
  clear HQ
  have z0 : (w.alloc (.cells #[.int .i64 f, .int .i64 c] 41)).cell? ⟨w.heap.size, 0, none⟩ = some (.int .i64 f) := by rw [World.cell?_alloc_at _ _ _ _ rfl]; rfl
  have z1 : (w.alloc (.cells #[.int .i64 f, .int .i64 c] 41)).cell? ⟨w.heap.size, 1, none⟩ = some (.int .i64 c) := by rw [World.cell?_alloc_at _ _ _ _ rfl]; rfl
  obtain ⟨r, hr⟩ : ∃ r, r = Extent.valid n f c := ⟨_, rfl⟩
  rw [← hr]
  unfold Extent.valid at hr
  by_cases h1 : 0 ≤ f
  · have t1 : decide (0 ≤ f) = true := decide_eq_true h1
    by_cases h2 : 1 ≤ c
    · have t2 : decide (1 ≤ c) = true := decide_eq_true h2
      by_cases h3 : c ≤ (n : Int)
      · have t3 : decide (c ≤ (n : Int)) = true := decide_eq_true h3
        have hr2 : r = decide (f ≤ (n : Int) - c) := by rw [hr, t1, t2, t3]; rfl
        have HR := Lib.hid hr2
        clear hr hr2
        by_cases h4 : f ≤ (n : Int) - c
        · have t4 : decide (f ≤ (n : Int) - c) = true := decide_eq_true h4
          go_enter Try.func56, Try.ntmps56
          go_wp2
          go_quiet (first | (go_at_call 77; with_reducible exact Calls.quiet_of_same (HC.out _)))
          go_wp2
          go_ret
          exact ⟨by rw [HR.out, t4]; rfl, hbq _⟩
        · have t4 : decide (f ≤ (n : Int) - c) = false := decide_eq_false h4
          go_enter Try.func56, Try.ntmps56
          go_wp2
          go_quiet (first | (go_at_call 77; with_reducible exact Calls.quiet_of_same (HC.out _)))
          go_wp2
          go_ret
          exact ⟨by rw [HR.out, t4]; rfl, hbq _⟩
      · have t3 : decide (c ≤ (n : Int)) = false := decide_eq_false h3
        have hr2 : r = false := by rw [hr, t1, t2, t3]; rfl
        subst hr2; clear hr
        go_enter Try.func56, Try.ntmps56
        go_wp2
        go_quiet (first | (go_at_call 77; with_reducible exact Calls.quiet_of_same (HC.out _)))
        go_wp2
        go_ret
        exact ⟨rfl, hbq _⟩
    · have t2 : decide (1 ≤ c) = false := decide_eq_false h2
      have hr2 : r = false := by rw [hr, t1, t2]; rfl
      subst hr2; clear hr
      go_enter Try.func56, Try.ntmps56
      go_wp2
      go_quiet (fail)
      go_wp2
      go_ret
      exact ⟨rfl, hbq _⟩
  · have t1 : decide (0 ≤ f) = false := decide_eq_false h1
    have hr2 : r = false := by rw [hr, t1]; rfl
    subst hr2; clear hr
    go_enter Try.func56, Try.ntmps56
    go_wp2
    go_quiet (fail)
    go_wp2
    go_ret
    exact ⟨rfl, hbq _⟩

set_option maxHeartbeats 1000000 in
theorem re_check (h : RD F w g sb cb sc fa fn fc d) (f c off len : Int) (hc : ib c) (ho : ib off) (hl : ib len) :
    Calls Try.prog 82 #[.pointer (some ⟨g, 0, none⟩), .agg #[.int .i64 f, .int .i64 c], .int .i64 off, .int .i64 len] w fun e w' => e = .returned (.int .i64 (Extent.check d.st.length f c off len)) ∧ Below w.heap.size w w' := by
  have hb := (Below.refl _ w).alloc (Nat.le_refl _) (.cells #[.int .i64 f, .int .i64 c] 41)
  have hV := Lib.hid (re_valid (h.ext ((Below.refl _ w).alloc (Nat.le_refl _) (.cells #[.int .i64 f, .int .i64 c] 41))) f c)
  have hS := Lib.hid (re_size f c hc)
  obtain ⟨r, hr⟩ : ∃ r, r = Extent.check d.st.length f c off len := ⟨_, rfl⟩
  rw [← hr]
  unfold Extent.check at hr
  have hsw : ∀ sz : Int, (if off < 0 ∨ len < 0 ∨ sz < off ∨ sz - off < len then (2 : Int) else 0) = if off < 0 ∨ len < 0 ∨ sz < len ∨ sz - len < off then 2 else 0 := fun sz => by
    by_cases hq : off < 0 ∨ len < 0 ∨ sz < off ∨ sz - off < len
    · rw [if_pos hq, if_pos (by omega)]
    · rw [if_neg hq, if_neg (by omega)]
  rw [hsw] at hr
  clear hsw
  obtain ⟨ho1, ho2⟩ := ho
  obtain ⟨hl1, hl2⟩ := hl
  have hsz : 0 ≤ Extent.size c ∧ Extent.size c ≤ 262144 := by unfold Extent.size; split <;> omega
  generalize Extent.valid d.st.length f c = v at *
  generalize Extent.size c = sz at *
  obtain ⟨hs0, hs1⟩ := hsz
  cases v with
  | false =>
    rw [if_neg (by decide)] at hr
    have HR := Lib.hid hr; clear hr
    go_enter Try.func82, Try.ntmps82
    go_wp2_with (go_at_call 56; refine hV.out.mono ?_; rintro e w1 ⟨rfl, hb1⟩)
    go_ret
    exact ⟨by rw [HR.out]; rfl, hb.trans (Below.mono hb1 (by simp))⟩
  | true =>
    rw [if_pos rfl] at hr
    have hkeep : ∀ W : World, Below (w.heap.size + 1) (w.alloc (.cells #[.int .i64 f, .int .i64 c] 41)) W → W.cell? ⟨w.heap.size, 0, none⟩ = some (.int .i64 f) ∧ W.cell? ⟨w.heap.size, 1, none⟩ = some (.int .i64 c) ∧ Below w.heap.size w W ∧ w.heap.size + 1 ≤ W.heap.size := by
      intro W hW
      refine ⟨(hW.cell (p := ⟨w.heap.size, 0, none⟩) (by simp)).trans ?_, (hW.cell (p := ⟨w.heap.size, 1, none⟩) (by simp)).trans ?_, hb.trans (hW.mono (by omega)), by have := hW.size; simpa using this⟩
      · rw [World.cell?_alloc_at _ _ _ _ rfl]; rfl
      · rw [World.cell?_alloc_at _ _ _ _ rfl]; rfl
    have HK := Lib.hid hkeep
    clear hkeep
    have hz : (w.alloc (.cells #[.int .i64 f, .int .i64 c] 41)).heap.size = w.heap.size + 1 := by simp
    have HZ := Lib.hid hz
    clear hz
    by_cases h1 : off < 0
    · rw [if_pos (.inl h1)] at hr
      have HR := Lib.hid hr; clear hr
      go_enter Try.func82, Try.ntmps82
      go_wp2_with (go_at_call 56; refine hV.out.mono ?_; rintro e w1 ⟨rfl, hb1⟩; rw [HZ.out] at hb1; obtain ⟨x0, x1, hb2, hz2⟩ := HK.out _ hb1)
      go_ret
      exact ⟨by rw [HR.out]; rfl, hb2⟩
    by_cases h2 : len < 0
    · rw [if_pos (.inr (.inl h2))] at hr
      have HR := Lib.hid hr; clear hr
      have t1 : decide (off < 0) = false := decide_eq_false h1
      go_enter Try.func82, Try.ntmps82
      go_wp2_with (go_at_call 56; refine hV.out.mono ?_; rintro e w1 ⟨rfl, hb1⟩; rw [HZ.out] at hb1; obtain ⟨x0, x1, hb2, hz2⟩ := HK.out _ hb1)
      go_ret
      exact ⟨by rw [HR.out]; rfl, hb2⟩
    have t1 : decide (off < 0) = false := decide_eq_false h1
    have t2 : decide (len < 0) = false := decide_eq_false h2
    have b1 : 0 ≤ off := by omega
    have b2 : 0 ≤ len := by omega
    by_cases h3 : sz < len
    · rw [if_pos (.inr (.inr (.inl h3)))] at hr
      have HR := Lib.hid hr; clear hr
      go_enter Try.func82, Try.ntmps82
      go_wp2_with (first | (go_at_call 56; refine hV.out.mono ?_; rintro e w1 ⟨rfl, hb1⟩; rw [HZ.out] at hb1; obtain ⟨x0, x1, hb2, hz2⟩ := HK.out _ hb1) | (go_at_call 58; refine (hS.out _).mono ?_; rintro e w3 ⟨rfl, hb3⟩; have hb4 := hb1.trans (Below.mono hb3 hz2); obtain ⟨y0, y1, hb5, hz5⟩ := HK.out _ hb4))
      go_ret
      exact ⟨by rw [HR.out]; rfl, hb5⟩
    have t3 : decide (sz < len) = false := decide_eq_false h3
    have b3 : 0 ≤ sz - len := by omega
    by_cases h4 : sz - len < off
    · rw [if_pos (.inr (.inr (.inr h4)))] at hr
      have HR := Lib.hid hr; clear hr
      go_enter Try.func82, Try.ntmps82
      go_wp2_with fail
      refine hV.out.mono ?_; rintro e w1 ⟨rfl, hb1⟩; rw [HZ.out] at hb1; obtain ⟨x0, x1, hb2, hz2⟩ := HK.out _ hb1
      go_wp2_with fail
      refine (hS.out _).mono ?_; rintro e w3 ⟨rfl, hb3⟩; have hb4 := hb1.trans (Below.mono hb3 hz2); obtain ⟨y0, y1, hb5, hz5⟩ := HK.out _ hb4
      go_wp2_with fail
      refine (hS.out _).mono ?_; rintro e w6 ⟨rfl, hb6⟩; have hb7 := hb4.trans (Below.mono hb6 hz5); obtain ⟨z0, z1, hb8, hz8⟩ := HK.out _ hb7
      go_wp2_with fail
      go_ret
      exact ⟨by rw [HR.out]; rfl, hb8⟩
    · rw [if_neg (by omega)] at hr
      have HR := Lib.hid hr; clear hr
      go_enter Try.func82, Try.ntmps82
      go_wp2_with fail
      refine hV.out.mono ?_; rintro e w1 ⟨rfl, hb1⟩; rw [HZ.out] at hb1; obtain ⟨x0, x1, hb2, hz2⟩ := HK.out _ hb1
      go_wp2_with fail
      refine (hS.out _).mono ?_; rintro e w3 ⟨rfl, hb3⟩; have hb4 := hb1.trans (Below.mono hb3 hz2); obtain ⟨y0, y1, hb5, hz5⟩ := HK.out _ hb4
      go_wp2_with fail
      refine (hS.out _).mono ?_; rintro e w6 ⟨rfl, hb6⟩; have hb7 := hb4.trans (Below.mono hb6 hz5); obtain ⟨z0, z1, hb8, hz8⟩ := HK.out _ hb7
      go_wp2_with fail
      go_ret
      exact ⟨by rw [HR.out]; rfl, hb8⟩
end

end Go.Proofs.Ytedmnbmfbgenjaa
