/-
  The reference's disk: content, Read.
-/
import Derived.Test.YtedmnbmfbgenjaaRDisk
namespace Go.Proofs.Ytedmnbmfbgenjaa
open Go.RowKit

section
variable {F : Nat → Prop} {w w' : World} {g sb cb sc : Nat} {fa : Option Addr} {fn fc : Nat} {d d' : Disk.Dk}

theorem rd_content (h : RD F w g sb cb sc fa fn fc d) (i : Nat) (hi : i < d.st.length) (z : Int) (hz : z = (i : Int)) :
    Calls Try.prog 72 #[.pointer (some ⟨g, 0, none⟩), .int .i64 z] w fun e w' => ∃ b c, e = .returned (.slice (some ⟨b, 0, none⟩) 64 c) ∧ Rw F g sb cb b ∧ SlB w (some ⟨b, 0, none⟩) 64 c (Disk.content d i) ∧ w = w' := by
  subst hz
  obtain ⟨q0, q1, -⟩ := h.cells
  have hmx := h.ok.max
  have hst : (d.st.map some)[i]? = some (some d.st[i]) := by simp [hi]
  have hci : i < d.ca.length := by rw [h.ok.len]; exact hi
  obtain ⟨v0, c0, s0⟩ := h.sto.cell hst
  obtain ⟨b0, k0, rfl, r0, l0⟩ := s0
  obtain ⟨v1, c1, s1⟩ := h.cac.cell (List.getElem?_eq_getElem hci)
  have hcon : Disk.content d i = (d.ca[i]).getD d.st[i] := by unfold Disk.content; simp [hi, hci]
  rw [hcon]
  obtain ⟨n, hn⟩ : ∃ n, n = d.st.length := ⟨_, rfl⟩
  rw [← hn] at q0 q1 hi hmx
  have b0' : (0 : Int) ≤ (i : Int) := by omega
  have b1' : (i : Int) < (n : Int) := by omega
  clear hst hcon
  generalize d.ca[i] = x at *
  generalize d.st[i] = y at *
  clear hci hn
  cases x with
  | none =>
    have s1 : v1 = .slice none 0 0 := s1
    subst s1
    go_enter Try.func72, Try.ntmps72
    go_wp2
    go_ret
    exact ⟨b0, k0, rfl, r0, l0, rfl⟩
  | some x =>
    obtain ⟨b1, k1, rfl, r1, l1⟩ := s1
    go_enter Try.func72, Try.ntmps72
    go_wp2
    go_ret
    exact ⟨b1, k1, rfl, r1, l1, rfl⟩

def RReadPost (F : Nat → Prop) (w : World) (g sb cb sc : Nat) (fa : Option Addr) (fn fc : Nat) (r : List UInt8 × Int × Disk.Dk) (e : Ending) (w' : World) : Prop :=
  ∃ v, e = .returned (.tuple #[v, .int .i64 r.2.1]) ∧ OwnB w.heap.size w' v r.1 ∧ RD F w' g sb cb sc fa fn fc r.2.2 ∧ Upd F w F w'

theorem read_is (d : Disk.Dk) (i : Int) : Disk.read d i = if d.off then ([], 10, d) else if Disk.fits d i then (if Disk.fault d = 1 then ([], 9, Disk.tick d) else if Disk.fault d = 2 then ([], 10, Disk.cut (Disk.tick d)) else (Disk.content d i.toNat, 0, Disk.tick d)) else ([], 2, d) := by
  unfold Disk.read Disk.begin
  cases d.off
  · cases Disk.fits d i
    · rfl
    · by_cases h1 : Disk.fault d = 1
      · simp [h1]
      · by_cases h2 : Disk.fault d = 2
        · simp [h2]
        · simp only [Bool.false_eq_true, if_false, if_true, if_neg h1, if_neg h2]
  · rfl

set_option maxRecDepth 100000 in
set_option maxHeartbeats 2000000 in
theorem rd_read (h : RD F w g sb cb sc fa fn fc d) (i : Int) :
    Calls Try.prog 31 #[.pointer (some ⟨g, 0, none⟩), .int .i64 i] w (RReadPost F w g sb cb sc fa fn fc (Disk.read d i)) := by
  rw [read_is]
  obtain ⟨q0, -, -, -, q4⟩ := h.cells
  by_cases hoff : d.off = true
  · rw [if_pos hoff]
    rw [hoff] at q4
    go_enter Try.func31, Try.ntmps31
    go_wp2
    go_ret2
    exact ⟨_, rfl, OwnB.nil _ _, h, Upd.refl _ _⟩
  have hoff' : d.off = false := by simpa using hoff
  rw [if_neg hoff]
  rw [hoff'] at q4
  have hmx := h.ok.max
  by_cases hfit : Disk.fits d i = true
  · rw [if_pos hfit]
    unfold Disk.fits at hfit
    simp only [Bool.and_eq_true, decide_eq_true_eq] at hfit
    obtain ⟨f1, f2⟩ := hfit
    obtain ⟨j, rfl⟩ : ∃ j : Nat, i = (j : Int) := ⟨i.toNat, by omega⟩
    have HF := Lib.hid (rd_fault h)
    obtain ⟨R, hR⟩ : ∃ R, Disk.fault d = R := ⟨_, rfl⟩
    rw [hR] at HF ⊢
    clear hR
    obtain ⟨n, hn⟩ : ∃ n, n = d.st.length := ⟨_, rfl⟩
    rw [← hn] at q0 f2 hmx
    have hjl : j < (Disk.tick d).st.length := by
      show j < d.st.length
      omega
    have hjn : (j : Int) < (n : Int) := by omega
    clear hn
    by_cases h1 : R = 1
    · subst h1
      rw [if_pos rfl]
      go_enter Try.func31, Try.ntmps31
      go_wp2_with (go_at_call 71; go_must (refine HF.out.mono ?_); rintro e w1 ⟨rfl, hP, hU⟩)
      go_ret2
      exact ⟨_, rfl, OwnB.nil _ _, hP, hU⟩
    · rw [if_neg h1]
      by_cases h2 : R = 2
      · subst h2
        rw [if_pos rfl]
        clear h1
        go_enter Try.func31, Try.ntmps31
        go_wp2_with (go_at_call 71; go_must (refine HF.out.mono ?_); rintro e w1 ⟨rfl, hP, hU⟩; have y4 := hP.cells.2.2.2.2; have f4 := hP.free 4)
        go_ret2
        exact ⟨_, rfl, OwnB.nil _ _, hP.setOff true, hU.setCell (.inl hP.Fg) _ _⟩
      · rw [if_neg h2]
        have t1 : (R == 1) = false := by simp [h1]
        have t2 : (R == 2) = false := by simp [h2]
        have hcon : Disk.content d (Int.toNat j) = Disk.content (Disk.tick d) j := rfl
        rw [hcon]
        have hcl := Disk.content64 h.ok.tick j hjl
        obtain ⟨x, hx⟩ : ∃ x, Disk.content (Disk.tick d) j = x := ⟨_, rfl⟩
        have HX := Lib.hid hx
        rw [hx] at hcl ⊢
        have HCL := Lib.hid hcl
        clear h1 h2 hcon hx hcl
        go_enter Try.func31, Try.ntmps31
        go_wp2_with (first
          | (go_at_call 71; go_must (refine HF.out.mono ?_); rintro e w1 ⟨rfl, hP, hU⟩)
          | (go_at_call 72; go_must (refine (rd_content (hP.ext ((Below.refl _ _).alloc (Nat.le_refl _) _)) j hjl _ rfl).mono ?_); rintro e w2 ⟨b2, c2, rfl, hr2, hs2, rfl⟩; rw [HX.out] at hs2)
          | (at_builtin; refine wpList_append_bytes rfl _ _ rfl w1.heap.size _ [] rfl (OwnB.empty w1 (Nat.le_refl _)) _ 64 c2 x rfl hs2 (by simp) (by simp) ?_; intro v w3 hown hg _))
        go_ret2
        have hB : Below w1.heap.size w1 w3 := ((Below.refl _ _).alloc (Nat.le_refl _) _).grown hg (by simp) (fun k hk => by cases hk; exact Nat.le_refl _)
        exact ⟨_, rfl, (by simpa using hown : OwnB w1.heap.size w3 v x).mono hU.size, hP.ext hB, hU.ext hB⟩
  · rw [if_neg hfit]
    obtain ⟨n, hn⟩ : ∃ n, n = d.st.length := ⟨_, rfl⟩
    rw [← hn] at q0
    unfold Disk.fits at hfit
    rw [← hn] at hfit
    simp only [Bool.and_eq_true, decide_eq_true_eq] at hfit
    clear hn
    by_cases hneg : i < 0
    · clear hfit
      go_enter Try.func31, Try.ntmps31
      go_wp2
      go_ret2
      exact ⟨_, rfl, OwnB.nil _ _, h, Upd.refl _ _⟩
    · have hge : (n : Int) ≤ i := by omega
      clear hfit
      go_enter Try.func31, Try.ntmps31
      go_wp2
      go_ret2
      exact ⟨_, rfl, OwnB.nil _ _, h, Upd.refl _ _⟩
end

end Go.Proofs.Ytedmnbmfbgenjaa
