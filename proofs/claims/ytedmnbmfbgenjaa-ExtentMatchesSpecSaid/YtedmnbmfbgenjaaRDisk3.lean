/-
  The reference's disk: Write.
-/
import Derived.Test.YtedmnbmfbgenjaaRDisk2
import Derived.Test.YtedmnbmfbgenjaaStepB
namespace Go.Proofs.Ytedmnbmfbgenjaa
open Go.RowKit

section
variable {F : Nat → Prop} {w w' : World} {g sb cb sc : Nat} {fa : Option Addr} {fn fc : Nat} {d d' : Disk.Dk}

theorem write_is (d : Disk.Dk) (i : Int) (x : List UInt8) : Disk.write d i x = if d.off then (10, d) else if (Disk.fits d i && decide (x.length = 64)) then (if Disk.fault d = 1 then (9, Disk.tick d) else if Disk.fault d = 2 then (10, Disk.cut (Disk.put (Disk.tick d) i.toNat x)) else (0, Disk.put (Disk.tick d) i.toNat x)) else (2, d) := by
  unfold Disk.write Disk.begin
  cases d.off
  · cases (Disk.fits d i && decide (x.length = 64))
    · rfl
    · by_cases h1 : Disk.fault d = 1
      · simp [h1]
      · by_cases h2 : Disk.fault d = 2
        · simp [h2]
        · simp only [Bool.false_eq_true, if_false, if_true, if_neg h1, if_neg h2]
  · rfl

theorem OwnB.at0 {base : Nat} {w : World} {v : Value} {l : List UInt8} (h : OwnB base w v l) (hl : l.length = 64) : ∃ b c, v = .slice (some ⟨b, 0, none⟩) 64 c ∧ base ≤ b ∧ b < w.heap.size ∧ SlB w (some ⟨b, 0, none⟩) 64 c l := by
  have hlt := h.lt
  obtain ⟨a, c, rfl, hs, hf⟩ := h.sl
  rw [hl] at hs hlt ⊢
  cases a with
  | none => have := (hs.2.2.2.1 rfl).1; subst this; simp at hl
  | some x =>
    obtain ⟨e, hb, -⟩ := hf x rfl
    have := hlt x.block rfl
    exact ⟨x.block, c, by rw [← e], hb, this.2, by rw [← e]; exact hs⟩

/-- A sector that the call made is put into the cache. -/
theorem RD.put (h : RD F w g sb cb sc fa fn fc d) {i b c : Nat} (hi : i < d.st.length) {x : List UInt8} (hx : x.length = 64) (hb : w.heap.size ≤ b) {w1 : World} (hB : Below w.heap.size w w1) (hs : SlB w1 (some ⟨b, 0, none⟩) 64 c x) (hbl : b < w1.heap.size) :
    RD (fun k => F k ∨ k = b) (w1.setCell ⟨cb, i, none⟩ (.slice (some ⟨b, 0, none⟩) 64 c)) g sb cb sc fa fn fc (Disk.put d i x) ∧ Upd F w (fun k => F k ∨ k = b) (w1.setCell ⟨cb, i, none⟩ (.slice (some ⟨b, 0, none⟩) 64 c)) := by
  have h1 := h.ext hB
  have ne : ∀ k, F k → k ≠ b := fun k hk e => by have := h.lt k hk; omega
  have hst : ∀ k, k ≠ cb → (w1.setCell ⟨cb, i, none⟩ (.slice (some ⟨b, 0, none⟩) 64 c)).heap[k]? = w1.heap[k]? := fun k hk => heap_setCell_other _ _ _ _ hk
  have hR : ∀ k, Rw F g sb cb k → Rw (fun k => F k ∨ k = b) g sb cb k := fun k hk => ⟨.inl hk.1, hk.2⟩
  have hcl : i < d.ca.length := by rw [h.ok.len]; exact hi
  refine ⟨⟨h.ok.put i x hx, ?_, ?_, ?_, ?_, fun y hy hl => hR _ (h.fltF y hy hl), fun k hk => ?_, .inl h.Fg, .inl h.Fs, .inl h.Fc, h.gs, h.gc, h.sc', h.cap⟩, ?_⟩
  · exact (hst g h.gc).trans h1.box
  · exact h1.sto.stay (hst sb h.sc') (fun k hk => hst k hk.2.2.2) (by simp) hR
  · have h2 : RowS (Rw (fun k => F k ∨ k = b) g sb cb) w1 cb d.ca := h1.cac.stay rfl (fun _ _ => rfl) (Nat.le_refl _) hR
    exact h2.set (fun e => e.2.2.2 rfl) hcl ⟨b, c, rfl, ⟨.inr rfl, fun e => ne g h.Fg e.symm, fun e => ne sb h.Fs e.symm, fun e => ne cb h.Fc e.symm⟩, hs⟩
  · exact h1.flt.stay (fun y hy hl => hst _ (h.fltF y hy hl).2.2.2) (by simp)
  · rcases hk with e | e
    · have := h1.lt k e; simpa using this
    · subst e; simpa using hbl
  · exact ((Upd.of_ext hB).setCell (.inl h.Fc) _ _).grow fun k hk => by
      rcases hk with e | e
      · exact .inl e
      · exact .inr (by omega)

def RWritePost (F : Nat → Prop) (w : World) (g sb cb sc : Nat) (fa : Option Addr) (fn fc : Nat) (r : Int × Disk.Dk) (e : Ending) (w' : World) : Prop :=
  e = .returned (.int .i64 r.1) ∧ ∃ F', RD F' w' g sb cb sc fa fn fc r.2 ∧ Upd F w F' w'

set_option maxRecDepth 100000 in
set_option maxHeartbeats 4000000 in
theorem rd_write (h : RD F w g sb cb sc fa fn fc d) (i : Int) (a : Option Addr) (n0 c0 : Nat) (x : List UInt8) (hx : SlB w a n0 c0 x) (hF : ∀ y, a = some y → x ≠ [] → ¬ F y.block) :
    Calls Try.prog 33 #[.pointer (some ⟨g, 0, none⟩), .int .i64 i, .slice a n0 c0] w (RWritePost F w g sb cb sc fa fn fc (Disk.write d i x)) := by
  rw [write_is]
  have hFg := h.Fg
  have hxl := hx.len
  have hxe := hx.le
  rw [hxl]
  obtain ⟨q0, -, -, -, q4⟩ := h.cells
  by_cases hoff : d.off = true
  · rw [if_pos hoff]
    rw [hoff] at q4
    go_enter Try.func33, Try.ntmps33
    go_wp2
    go_ret
    exact ⟨rfl, F, h, Upd.refl _ _⟩
  have hoff' : d.off = false := by simpa using hoff
  rw [if_neg hoff]
  rw [hoff'] at q4
  have hmx := h.ok.max
  by_cases hfit : (Disk.fits d i && decide (n0 = 64)) = true
  · rw [if_pos hfit]
    unfold Disk.fits at hfit
    simp only [Bool.and_eq_true, decide_eq_true_eq] at hfit
    obtain ⟨⟨f1, f2⟩, rfl⟩ := hfit
    obtain ⟨j, rfl⟩ : ∃ j : Nat, i = (j : Int) := ⟨i.toNat, by omega⟩
    have HF := Lib.hid (rd_fault h)
    obtain ⟨R, hR⟩ : ∃ R, Disk.fault d = R := ⟨_, rfl⟩
    rw [hR] at HF ⊢
    clear hR
    have hjl : j < (Disk.tick d).st.length := by
      show j < d.st.length
      omega
    have hcj : (Disk.tick d).ca[j]? = some ((Disk.tick d).ca[j]'(by rw [h.ok.tick.len]; exact hjl)) := List.getElem?_eq_getElem _
    have HCJ := Lib.hid hcj
    have hjt : Int.toNat (j : Int) = j := rfl
    rw [hjt]
    obtain ⟨n, hn⟩ : ∃ n, n = d.st.length := ⟨_, rfl⟩
    have hnt : (Disk.tick d).st.length = n := hn.symm
    have HNT := Lib.hid hnt
    rw [← hn] at q0 f2 hmx
    have hjn : (j : Int) < (n : Int) := by omega
    clear hn hnt hcj hjt
    by_cases h1 : R = 1
    · subst h1
      rw [if_pos rfl]
      go_enter Try.func33, Try.ntmps33
      go_wp2_with (go_at_call 71; go_must (refine HF.out.mono ?_); rintro e w1 ⟨rfl, hP, hU⟩)
      go_ret
      exact ⟨rfl, F, hP, hU⟩
    · rw [if_neg h1]
      have t1 : (R == 1) = false := by simp [h1]
      have HXL := Lib.hid hxl
      clear hxl
      obtain ⟨RR, hRR⟩ : ∃ RR : Int × Disk.Dk, (if R = 2 then (10, Disk.cut (Disk.put (Disk.tick d) j x)) else (0, Disk.put (Disk.tick d) j x)) = RR := ⟨_, rfl⟩
      rw [hRR]
      have HRR := Lib.hid hRR
      clear hRR
      go_enter Try.func33, Try.ntmps33
      go_wp2_with (go_at_call 71; go_must (refine HF.out.mono ?_); rintro e w1 ⟨rfl, hP, hU⟩; have y1 := hP.cells.2.1; rw [HNT.out] at y1; have fj := hP.cac.free j; have hx1 := hx.upd hU hF)
      have z1 : w1.drew.cell? ⟨g, 1, none⟩ = some (.slice (some ⟨cb, 0, none⟩) n n) := y1
      obtain ⟨vj, cj, -⟩ := hP.cac.cell HCJ.out
      have bcb := hP.cac.lt
      have bg := heap_lt hP.box
      go_region_law (refine step_app_b rfl (.tmp 41) (.tmp 42) rfl w1.drew.heap.size _ [] (by simp [Act.eval]) (OwnB.empty w1.drew (Nat.le_refl _)) a 64 c0 x (by simp [Act.eval]) ((hx1.stay (w' := w1.drew) (fun _ _ _ => rfl) (Nat.le_refl _)).ext ((Below.refl _ _).alloc (Nat.le_refl _) _)) (by simp) (by simp) ?_; intro v3 w3 hO3 hg3; obtain ⟨b, c, rfl, hb, hbl, hs3⟩ := OwnB.at0 (l := x) hO3 HXL.out; have hB3 := ((Below.refl w1.drew.heap.size w1.drew).alloc (Nat.le_refl _) (.cells #[] 5)).grown hg3 (by simp) (fun k hk => by cases hk; exact Nat.le_refl _); have z3 := (hB3.cell (p := ⟨g, 1, none⟩) bg).trans z1; have f3 : w3.frozen? ⟨cb, j, none⟩ = false := (((hP.stay (w' := w1.drew) (fun _ _ => rfl) (Nat.le_refl _)).ext hB3).cac.free j); have c3 := (hB3.cell (p := ⟨cb, j, none⟩) bcb).trans cj)
      all_goals
        have hB1 : Below w1.heap.size w1 w3 := (Below.drew (Below.refl _ _)).trans hB3
        obtain ⟨hP4, hU4⟩ := hP.put hjl HXL.out hb hB1 hs3 hbl
        clear z1 z3 f3 c3 cj y1 fj hs3 hO3 hg3 hB3 hB1
        generalize w3.setCell ⟨cb, j, none⟩ (.slice (some ⟨b, 0, none⟩) 64 c) = W4 at *
        have y4 := hP4.cells.2.2.2.2
        have f4 := hP4.free 4
        have off4 : (Disk.put (Disk.tick d) j x).off = false := hoff'
        rw [off4] at y4
        have HP4 := Lib.hid hP4
        have HU4 := Lib.hid (hU.trans hU4)
        clear hP4 hU4 hP off4
        by_cases h2 : R = 2
        · have hrr := HRR.out
          rw [if_pos h2] at hrr
          have HRR2 := Lib.hid hrr
          subst h2
          clear hrr HRR
          go_wp2_with fail
          go_ret
          rw [← HRR2.out]
          exact ⟨rfl, _, HP4.out.setOff true, HU4.out.setCell (.inl hFg) _ _⟩
        · have t2 : (R == 2) = false := by simp [h2]
          have hrr := HRR.out
          rw [if_neg h2] at hrr
          have HRR2 := Lib.hid hrr
          clear hrr HRR
          go_wp2_with fail
          go_ret
          rw [← HRR2.out]
          exact ⟨rfl, _, HP4.out, HU4.out⟩
  · rw [if_neg hfit]
    obtain ⟨n, hn⟩ : ∃ n, n = d.st.length := ⟨_, rfl⟩
    rw [← hn] at q0
    unfold Disk.fits at hfit
    rw [← hn] at hfit
    simp only [Bool.and_eq_true, decide_eq_true_eq] at hfit
    clear hn
    by_cases hneg : i < 0
    · clear hfit
      go_enter Try.func33, Try.ntmps33
      go_wp2
      go_ret
      exact ⟨rfl, F, h, Upd.refl _ _⟩
    · by_cases hge : (n : Int) ≤ i
      · clear hfit
        go_enter Try.func33, Try.ntmps33
        go_wp2
        go_ret
        exact ⟨rfl, F, h, Upd.refl _ _⟩
      · have h64 : ¬ n0 = 64 := fun e => hfit ⟨⟨by omega, by omega⟩, e⟩
        have t64 : ((n0 : Int) != 64) = true := by simp; omega
        have t65 : ((n0 : Int) == 64) = false := by simp; omega
        clear hfit h64
        go_enter Try.func33, Try.ntmps33
        go_wp2
        go_ret
        exact ⟨rfl, F, h, Upd.refl _ _⟩
end

end Go.Proofs.Ytedmnbmfbgenjaa
