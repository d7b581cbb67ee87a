/-
  The statements' comparison of slices of ints.
-/
import Derived.Test.YtabeelcidlhniaaGreatInts
namespace Go.Proofs.YtabeelcidlhniaaGreat
open Go.RowKit

theorem take_eq_succI (l k : List Int) (i : Nat) (h1 : i < l.length) (h2 : i < k.length) (h : l.take i = k.take i) : (l.take (i + 1) = k.take (i + 1)) ↔ l[i] = k[i] := by
  rw [List.take_succ_eq_append_getElem h1, List.take_succ_eq_append_getElem h2, h]
  exact ⟨fun hh => by simpa using List.append_cancel_left hh, fun hh => by rw [hh]⟩

set_option maxHeartbeats 2000000 in
set_option maxRecDepth 100000 in
theorem keep_ints (a b : Option Addr) (n m c d : Nat) (ls ks : List Int) (w : World) (h : SlI w a n c ls) (h' : SlI w b m d ks) :
    Calls Tryz.prog 24 #[.slice a n c, .slice b m d] w fun e w' => e = .returned (.bool (ls == ks)) ∧ Below w.heap.size w w' := by
  have hle := h.le
  have hle' := h'.le
  have hl := h.len
  have hl' := h'.len
  by_cases hnm : n = m
  · subst hnm
    obtain ⟨r, hr⟩ : ∃ r, r = (ls == ks) := ⟨_, rfl⟩
    rw [← hr]
    have HR := Lib.hid hr; have HL := Lib.hid hl; have HL' := Lib.hid hl'
    clear hr hl hl'
    go_enter Tryz.func24, Tryz.ntmps24
    go_wp2
    go_loopw [5] (fun i wr => ∃ k : Nat, k ≤ n ∧ i = .int .i64 k ∧ Hid (ls.take k = ks.take k) ∧ Below w.heap.size w wr) (fun i _ => n - (intOf i).toNat)
    case atStart => exact ⟨0, Nat.zero_le _, rfl, Lib.hid rfl, Below.refl _ _⟩
    case round =>
      obtain ⟨k, hk, rfl, HT, hB⟩ := hrel
      by_cases hlt : k < n
      · obtain ⟨g, o, rfl, hg, hkl, hc1⟩ := (h.ext hB).at hlt
        obtain ⟨g', o', rfl, hg', hkl', hc1'⟩ := (h'.ext hB).at hlt
        have b0 : (0 : Int) ≤ (k : Int) := by omega
        have b1 : (k : Int) < (n : Int) := by omega
        have HN := Lib.hid (take_eq_succI ls ks k hkl hkl' HT.out)
        rw [List.getElem?_eq_getElem hkl, Option.getD_some] at hc1
        rw [List.getElem?_eq_getElem hkl', Option.getD_some] at hc1'
        generalize ls[k] = u1 at *
        generalize ks[k] = u2 at *
        clear hkl hkl'
        by_cases hu : u1 = u2
        · have t1 : (u1 == u2) = true := by simp [hu]
          have t2 : (u1 != u2) = false := by simp [hu]
          have HU := Lib.hid hu
          clear hu
          go_wp2
          go_quiet (fail)
          go_wp2
          go_roundw
          case rel => exact ⟨k + 1, by omega, by go_num, Lib.hid (HN.out.2 HU.out), hB.trans (below_drewN' _ _ _)⟩
          case measure => simp [intOf]; omega
        · have t1 : (u1 == u2) = false := by simp [hu]
          have t2 : (u1 != u2) = true := by simp [hu]
          have hrf : r = false := by
            rw [HR.out]; apply beq_eq_false_iff_ne.2; intro e; exact hu (HN.out.1 (by rw [e]))
          subst hrf
          clear hu
          go_wp2
          go_quiet (fail)
          go_wp2
          go_ret
          exact ⟨rfl, hB.trans (below_drewN' _ _ _)⟩
      · obtain rfl : k = n := by omega
        have hrt : r = true := by
          rw [HR.out]; apply beq_iff_eq.2
          have := HT.out
          rwa [List.take_of_length_le (by rw [HL.out]; omega), List.take_of_length_le (by rw [HL'.out]; omega)] at this
        subst hrt
        go_wp2
        go_ret
        exact ⟨rfl, hB⟩
  · have hr : (ls == ks) = false := by
      apply beq_eq_false_iff_ne.2; rintro rfl; omega
    have ht : ((n : Int) == m) = false := by simp; omega
    have ht' : ((n : Int) != m) = true := by simp; omega
    rw [hr]
    clear hl hl' hr hnm
    go_enter Tryz.func24, Tryz.ntmps24
    go_wp2
    go_ret
    exact ⟨rfl, Below.refl _ _⟩

end Go.Proofs.YtabeelcidlhniaaGreat
