/-
  Law 05: small, torn.
-/
import Derived.Test.YtedmnbmfbgenjaaOps5
import Derived.Test.YtedmnbmfbgenjaaSecAt
import Derived.Test.YtedmnbmfbgenjaaDirty
import Derived.Test.YtedmnbmfbgenjaaExtRBPlain
import Derived.Deep.QuietTactic
import Derived.BigQuiet
namespace Go.Proofs.Ytedmnbmfbgenjaa
open Go.RowKit

def O5.Small (x : O5) : Prop := x.data.length ≤ 100 ∧ x.fs.length ≤ 66 ∧ x.ks.length ≤ 80

theorem keep_smallf (a : Option Addr) (n c : Nat) (w : World) (hn : n ≤ 9223372036854775807) : Calls Try.prog 70 #[.slice a n c] w fun e w' => e = .returned (.bool (decide (n ≤ 66))) ∧ w = w' := by
  have hd : decide ((n : Int) ≤ 66) = decide (n ≤ 66) := by by_cases h : n ≤ 66 <;> simp [h] <;> omega
  go_enter Try.func70, Try.ntmps70
  go_wp2
  go_ret
  exact ⟨by rw [← hd]; rfl, rfl⟩

/-- What small says of a script. -/
def SmallPost (n : Nat) (l : List O5) (w : World) (e : Ending) (w' : World) : Prop := ∃ r, e = .returned (.bool r) ∧ (r = true → n ≤ 80 ∧ ∀ x ∈ l, x.Small) ∧ w' = w

set_option maxRecDepth 100000 in
set_option maxHeartbeats 2000000 in
theorem law5_small (a : Option Addr) (n c : Nat) (l : List O5) (w : World) (h : SlO w a n c l) :
    Calls Try.prog 29 #[.slice a n c] w (SmallPost n l w) := by
  have hle := h.le
  by_cases hn : 80 < n
  · go_enter Try.func29, Try.ntmps29
    go_wp2
    go_ret
    exact ⟨false, rfl, (fun e => by cases e), rfl⟩
  have HL := Lib.hid h.len
  go_enter Try.func29, Try.ntmps29
  go_wp2
  go_loopw [3] (fun i wr => ∃ k : Nat, k ≤ n ∧ i = .int .i64 k ∧ Hid (∀ j, j < k → ∀ x, l[j]? = some x → x.Small) ∧ wr = w) (fun i _ => n - (intOf i).toNat)
  case atStart => exact ⟨0, by omega, rfl, Lib.hid (fun j hj => by omega), rfl⟩
  case round =>
    obtain ⟨k, hk, rfl, HS, rfl⟩ := hrel
    by_cases hlt : k < n
    · obtain ⟨b, o, x, rfl, hb, hx, hi⟩ := h.at hlt
      obtain ⟨-, -, -, -, ⟨p, m, d, c2, s2⟩, ⟨p1, m1, d1, c3, s3⟩, ⟨p2, m2, d2, c4, s4⟩⟩ := hi
      have l2 := s2.len; have l3 := s3.len; have l4 := s4.len
      have e2 := s2.le; have e3 := s3.le; have e4 := s4.le
      have i0 : (0 : Int) ≤ (k : Int) := by omega
      have i1 : (k : Int) < (n : Int) := by omega
      have HX := Lib.hid (And.intro hx (And.intro l2 (And.intro l3 l4)))
      clear hx l2 l3 l4 s2 s3 s4
      by_cases b1 : 100 < m
      · go_wp2
        go_ret
        exact ⟨false, rfl, (fun e => by cases e), rfl⟩
      by_cases b2 : 66 < m1
      · have t2 : decide (m1 ≤ 66) = false := by simp; omega
        go_wp2_with (go_at_call 70; go_must (refine (keep_smallf _ _ _ _ e3).mono ?_); rintro e w1 ⟨rfl, rfl⟩)
        go_ret
        exact ⟨false, rfl, (fun e => by cases e), rfl⟩
      have t2 : decide (m1 ≤ 66) = true := by simp; omega
      by_cases b3 : 80 < m2
      · go_wp2_with (go_at_call 70; go_must (refine (keep_smallf _ _ _ _ e3).mono ?_); rintro e w1 ⟨rfl, rfl⟩)
        go_ret
        exact ⟨false, rfl, (fun e => by cases e), rfl⟩
      go_wp2_with (go_at_call 70; go_must (refine (keep_smallf _ _ _ _ e3).mono ?_); rintro e w1 ⟨rfl, rfl⟩)
      refine ⟨⟨k + 1, by omega, by go_num, ⟨Lib.hid (fun j hj y hy => ?_), trivial⟩⟩, by simp [intOf]; omega⟩
      obtain ⟨hx, l2, l3, l4⟩ := HX.out
      rcases Nat.lt_or_ge j k with hjk | hjk
      · exact HS.out j hjk y hy
      · obtain rfl : j = k := by omega
        rw [hx] at hy; cases hy
        exact ⟨by omega, by omega, by omega⟩
    · obtain rfl : k = n := by omega
      go_wp2
      go_ret
      refine ⟨true, rfl, fun _ => ⟨by omega, fun x hx => ?_⟩, rfl⟩
      obtain ⟨j, hj, rfl⟩ := List.mem_iff_getElem.1 hx
      exact HS.out j (by rw [← HL.out]; exact hj) _ (List.getElem?_eq_getElem hj)

theorem SlB.at0 (w : World) (b o : Nat) : SlB w (some ⟨b, o, none⟩) 0 0 [] := ⟨rfl, Nat.le_refl _, by unfold maxLen; omega, fun _ => ⟨rfl, rfl⟩, fun x hx i hi => by simp at hi⟩
theorem torn_take {f o a : List UInt8} {t : Nat} (ht : t ≤ 64) (hf : f.length = 64) (ha : a = f.take t ++ o.drop t) : a.take t = f.take t := by
  rw [ha, List.take_append_of_le_length (by rw [List.length_take]; omega), List.take_take, Nat.min_self]
theorem torn_drop {f o a : List UInt8} {t : Nat} (ht : t ≤ 64) (hf : f.length = 64) (ha : a = f.take t ++ o.drop t) : a.drop t = o.drop t := by
  rw [ha, List.drop_append, List.drop_of_length_le (by rw [List.length_take]; omega), List.nil_append, List.length_take, show t - min t f.length = 0 by omega, List.drop_zero]

set_option maxRecDepth 100000 in
set_option maxHeartbeats 4000000 in
theorem law5_torn (p1 p2 p3 : Option Addr) (c1 c2 c3 : Nat) (f o a : List UInt8) (w : World) (h1 : SlB w p1 64 c1 f) (h2 : SlB w p2 64 c2 o) (h3 : SlB w p3 64 c3 a) (t : Nat) (ht : t < 64) (ha : a = f.take t ++ o.drop t) :
    Calls Try.prog 45 #[.slice p1 64 c1, .slice p2 64 c2, .slice p3 64 c3] w fun e w' => e = .returned (.bool true) ∧ ∃ m, w' = w.drewN m := by
  obtain ⟨b1, o1, rfl, -⟩ := h1.at (show 0 < 64 by omega)
  obtain ⟨b2, o2, rfl, -⟩ := h2.at (show 0 < 64 by omega)
  obtain ⟨b3, o3, rfl, -⟩ := h3.at (show 0 < 64 by omega)
  have HT := Lib.hid (torn_take (by omega) h1.len ha)
  have HD := Lib.hid (torn_drop (by omega) h1.len ha)
  have q1 := h1.2.1; have q2 := h2.2.1; have q3 := h3.2.1
  have m1 := h1.2.2.1; have m2 := h2.2.2.1; have m3 := h3.2.2.1
  unfold maxLen at m1 m2 m3
  clear ha
  go_enter Try.func45, Try.ntmps45
  go_wp2
  go_loopw [7] (fun i wr => ∃ k : Nat, k ≤ t ∧ i = .int .i64 k ∧ Hid (∃ m, wr = w.drewN m)) (fun i _ => 64 - (intOf i).toNat)
  case atStart => exact ⟨0, by omega, rfl, Lib.hid ⟨0, rfl⟩⟩
  case round =>
    obtain ⟨k, hk, rfl, HM⟩ := hrel
    have i0 : (0 : Int) ≤ (k : Int) := by omega
    have i1 : (k : Int) ≤ 64 := by omega
    have hB : ∀ q, Below w.heap.size w (wr.drewN q) := fun q => by
      obtain ⟨m, rfl⟩ := HM.out
      exact (Below.refl _ w).trans ⟨rfl, rfl, rfl, Nat.le_refl _, fun _ _ => rfl⟩
    have S1 : ∀ q, SlB (wr.drewN q) (some ⟨b1, o1, none⟩) k c1 (f.take k) := fun q => (h1.ext (hB q)).take (by omega)
    have S3 : ∀ q, SlB (wr.drewN q) (some ⟨b3, o3, none⟩) k c3 (a.take k) := fun q => (h3.ext (hB q)).take (by omega)
    have D2 : ∀ q, SlB (wr.drewN q) (some ⟨b2, o2 + k, none⟩) (64 - k) (c2 - k) (o.drop k) := fun q => (h2.ext (hB q)).drop (by omega)
    have D3 : ∀ q, SlB (wr.drewN q) (some ⟨b3, o3 + k, none⟩) (64 - k) (c3 - k) (a.drop k) := fun q => (h3.ext (hB q)).drop (by omega)
    have n2 : ¬ c2 = k := by omega
    have n3 : ¬ c3 = k := by omega
    have KB : ∀ q (P1 P2 : Option Addr) (n C1 C2 : Nat) (l1 l2 : List UInt8) (b : Bool), (l1 == l2) = b → SlB (wr.drewN q) P1 n C1 l1 → SlB (wr.drewN q) P2 n C2 l2 →
        Calls Try.prog 18 #[.slice P1 n C1, .slice P2 n C2] (wr.drewN q) fun e w' => e = .returned (.bool b) ∧ w' = wr.drewN q := fun q P1 P2 n C1 C2 l1 l2 b hb s1 s2 => by
      refine (keep_bytes P1 P2 n n C1 C2 l1 l2 _ s1 s2).mono ?_
      rintro e w' ⟨rfl, rfl⟩
      exact ⟨by rw [hb], rfl⟩
    obtain ⟨r1, hr1⟩ : ∃ r1, (a.take k == f.take k) = r1 := ⟨_, rfl⟩
    obtain ⟨r2, hr2⟩ : ∃ r2, (a.drop k == o.drop k) = r2 := ⟨_, rfl⟩
    have K1 : ∀ q, Calls Try.prog 18 #[.slice (some ⟨b3, o3, none⟩) k c3, .slice (some ⟨b1, o1, none⟩) k c1] (wr.drewN q) fun e w' => e = .returned (.bool r1) ∧ w' = wr.drewN q := fun q => KB q _ _ _ _ _ _ _ _ hr1 (S3 q) (S1 q)
    have hnk : r1 = false ∨ r2 = false → k + 1 ≤ t := fun e => by
      rcases Nat.lt_or_ge k t with h | h
      · omega
      · obtain rfl : k = t := by omega
        have u1 : (a.take k == f.take k) = true := by rw [HT.out]; simp
        have u2 : (a.drop k == o.drop k) = true := by rw [HD.out]; simp
        rw [u1] at hr1; rw [u2] at hr2
        rcases e with e | e
        · rw [e] at hr1; cases hr1
        · rw [e] at hr2; cases hr2
    have hM : ∀ q, ∃ m, wr.drewN q = w.drewN m := fun q => by
      obtain ⟨m, rfl⟩ := HM.out
      exact ⟨m + q, World.drewN_drewN ..⟩
    have t0 : decide ((k : Int) ≤ 64) = true := by simp; omega
    have HK := Lib.hid hnk
    have HMM := Lib.hid hM
    clear hnk hM S1 S3 hr1
    cases r1
    · clear D2 D3 KB hr2
      go_wp2
      go_quiet (first | (go_at_call 18; with_reducible exact Calls.quiet_of_same (K1 _)))
      go_wp2
      exact ⟨⟨k + 1, HK.out (.inl trivial), by go_num, Lib.hid (HMM.out _)⟩, by simp [intOf]; omega⟩
    · have K2 : ∀ q, Calls Try.prog 18 #[.slice (some ⟨b3, o3 + k, none⟩) (64 - k) (c3 - k), .slice (some ⟨b2, o2 + k, none⟩) (64 - k) (c2 - k)] (wr.drewN q) fun e w' => e = .returned (.bool r2) ∧ w' = wr.drewN q := fun q => KB q _ _ _ _ _ _ _ _ hr2 (D3 q) (D2 q)
      clear D2 D3 KB hr2
      cases r2
      · go_wp2
        go_quiet (first | (go_at_call 18; with_reducible exact Calls.quiet_of_same (K1 _)) | (go_at_call 18; with_reducible exact Calls.quiet_of_same (K2 _)))
        go_wp2
        exact ⟨⟨k + 1, HK.out (.inr trivial), by go_num, Lib.hid (HMM.out _)⟩, by simp [intOf]; omega⟩
      · go_wp2
        go_quiet (first | (go_at_call 18; with_reducible exact Calls.quiet_of_same (K1 _)) | (go_at_call 18; with_reducible exact Calls.quiet_of_same (K2 _)))
        go_wp2
        go_ret
        exact ⟨rfl, HMM.out _⟩

end Go.Proofs.Ytedmnbmfbgenjaa
