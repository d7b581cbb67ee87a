/-
  Texts in one: RDisk3, RDisk4, RDisk5.
-/
import Derived.Test.YtabeelcidlhniaaGreatRun33
import Derived.Test.YtabeelcidlhniaaGreatStepB
/-
  The reference's disk: Write.
-/
namespace Go.Proofs.YtabeelcidlhniaaGreat
open Go.RowKit

section
variable {F : Nat → Prop} {w w' : World} {g sb cb sc : Nat} {fa : Option Addr} {fn fc : Nat} {d d' : Disk.Dk}

theorem write_is (d : Disk.Dk) (i : Int) (x : List UInt8) : Disk.write d i x = if d.off then (10, d) else if (Disk.fits d i && decide (x.length = 64)) then (if Disk.fault d = 1 then (9, Disk.tick d) else if Disk.fault d = 2 then (10, Disk.cut (Disk.put (Disk.tick d) i.toNat x)) else (0, Disk.put (Disk.tick d) i.toNat x)) else (2, d) := by
  unfold Disk.write Disk.begin
  cases d.off
  · cases (Disk.fits d i && decide (x.length = 64))
    · rfl
    · by_cases h1 : Disk.fault d = 1
      · simp [h1]
      · by_cases h2 : Disk.fault d = 2
        · simp [h2]
        · simp only [Bool.false_eq_true, if_false, if_true, if_neg h1, if_neg h2]
  · rfl

theorem OwnB.at0 {base : Nat} {w : World} {v : Value} {l : List UInt8} (h : OwnB base w v l) (hl : l.length = 64) : ∃ b c, v = .slice (some ⟨b, 0, none⟩) 64 c ∧ base ≤ b ∧ b < w.heap.size ∧ SlB w (some ⟨b, 0, none⟩) 64 c l := by
  have hlt := h.lt
  obtain ⟨a, c, rfl, hs, hf⟩ := h.sl
  rw [hl] at hs hlt ⊢
  cases a with
  | none => have := (hs.2.2.2.1 rfl).1; subst this; simp at hl
  | some x =>
    obtain ⟨e, hb, -⟩ := hf x rfl
    have := hlt x.block rfl
    exact ⟨x.block, c, by rw [← e], hb, this.2, by rw [← e]; exact hs⟩

/-- A sector that the call made is put into the cache. -/
theorem RD.put (h : RD F w g sb cb sc fa fn fc d) {i b c : Nat} (hi : i < d.st.length) {x : List UInt8} (hx : x.length = 64) (hb : w.heap.size ≤ b) {w1 : World} (hB : Below w.heap.size w w1) (hs : SlB w1 (some ⟨b, 0, none⟩) 64 c x) (hbl : b < w1.heap.size) :
    RD (fun k => F k ∨ k = b) (w1.setCell ⟨cb, i, none⟩ (.slice (some ⟨b, 0, none⟩) 64 c)) g sb cb sc fa fn fc (Disk.put d i x) ∧ Upd F w (fun k => F k ∨ k = b) (w1.setCell ⟨cb, i, none⟩ (.slice (some ⟨b, 0, none⟩) 64 c)) := by
  have h1 := h.ext hB
  have ne : ∀ k, F k → k ≠ b := fun k hk e => by have := h.lt k hk; omega
  have hst : ∀ k, k ≠ cb → (w1.setCell ⟨cb, i, none⟩ (.slice (some ⟨b, 0, none⟩) 64 c)).heap[k]? = w1.heap[k]? := fun k hk => heap_setCell_other _ _ _ _ hk
  have hR : ∀ k, Rw F g sb cb k → Rw (fun k => F k ∨ k = b) g sb cb k := fun k hk => ⟨.inl hk.1, hk.2⟩
  have hcl : i < d.ca.length := by rw [h.ok.len]; exact hi
  refine ⟨⟨h.ok.put i x hx, ?_, ?_, ?_, ?_, fun y hy hl => hR _ (h.fltF y hy hl), fun k hk => ?_, .inl h.Fg, .inl h.Fs, .inl h.Fc, h.gs, h.gc, h.sc', h.cap⟩, ?_⟩
  · exact (hst g h.gc).trans h1.box
  · exact h1.sto.stay (hst sb h.sc') (fun k hk => hst k hk.2.2.2) (by simp) hR
  · have h2 : RowS (Rw (fun k => F k ∨ k = b) g sb cb) w1 cb d.ca := h1.cac.stay rfl (fun _ _ => rfl) (Nat.le_refl _) hR
    exact h2.set (fun e => e.2.2.2 rfl) hcl ⟨b, c, rfl, ⟨.inr rfl, fun e => ne g h.Fg e.symm, fun e => ne sb h.Fs e.symm, fun e => ne cb h.Fc e.symm⟩, hs⟩
  · exact h1.flt.stay (fun y hy hl => hst _ (h.fltF y hy hl).2.2.2) (by simp)
  · rcases hk with e | e
    · have := h1.lt k e; simpa using this
    · subst e; simpa using hbl
  · exact ((Upd.of_ext hB).setCell (.inl h.Fc) _ _).grow fun k hk => by
      rcases hk with e | e
      · exact .inl e
      · exact .inr (by omega)

def RWritePost (F : Nat → Prop) (w : World) (g sb cb sc : Nat) (fa : Option Addr) (fn fc : Nat) (r : Int × Disk.Dk) (e : Ending) (w' : World) : Prop :=
  e = .returned (.int .i64 r.1) ∧ ∃ F', RD F' w' g sb cb sc fa fn fc r.2 ∧ Upd F w F' w'

set_option maxRecDepth 100000 in
set_option maxHeartbeats 4000000 in
theorem rd_write (h : RD F w g sb cb sc fa fn fc d) (i : Int) (a : Option Addr) (n0 c0 : Nat) (x : List UInt8) (hx : SlB w a n0 c0 x) (hF : ∀ y, a = some y → x ≠ [] → ¬ F y.block) :
    Calls Tryz.prog 74 #[.pointer (some ⟨g, 0, none⟩), .int .i64 i, .slice a n0 c0] w (RWritePost F w g sb cb sc fa fn fc (Disk.write d i x)) := by
  rw [write_is]
  have hFg := h.Fg
  have hxl := hx.len
  have hxe := hx.le
  rw [hxl]
  obtain ⟨q0, -, -, -, q4⟩ := h.cells
  by_cases hoff : d.off = true
  · rw [if_pos hoff]
    rw [hoff] at q4
    go_enter Tryz.func74, Tryz.ntmps74
    go_wp2
    go_ret
    exact ⟨rfl, F, h, Upd.refl _ _⟩
  have hoff' : d.off = false := by simpa using hoff
  rw [if_neg hoff]
  rw [hoff'] at q4
  have hmx := h.ok.max
  by_cases hfit : (Disk.fits d i && decide (n0 = 64)) = true
  · rw [if_pos hfit]
    unfold Disk.fits at hfit
    simp only [Bool.and_eq_true, decide_eq_true_eq] at hfit
    obtain ⟨⟨f1, f2⟩, rfl⟩ := hfit
    obtain ⟨j, rfl⟩ : ∃ j : Nat, i = (j : Int) := ⟨i.toNat, by omega⟩
    have HF := Lib.hid (rd_fault h)
    obtain ⟨R, hR⟩ : ∃ R, Disk.fault d = R := ⟨_, rfl⟩
    rw [hR] at HF ⊢
    clear hR
    have hjl : j < (Disk.tick d).st.length := by
      show j < d.st.length
      omega
    have hcj : (Disk.tick d).ca[j]? = some ((Disk.tick d).ca[j]'(by rw [h.ok.tick.len]; exact hjl)) := List.getElem?_eq_getElem _
    have HCJ := Lib.hid hcj
    have hjt : Int.toNat (j : Int) = j := rfl
    rw [hjt]
    obtain ⟨n, hn⟩ : ∃ n, n = d.st.length := ⟨_, rfl⟩
    have hnt : (Disk.tick d).st.length = n := hn.symm
    have HNT := Lib.hid hnt
    rw [← hn] at q0 f2 hmx
    have hjn : (j : Int) < (n : Int) := by omega
    clear hn hnt hcj hjt
    by_cases h1 : R = 1
    · subst h1
      rw [if_pos rfl]
      go_enter Tryz.func74, Tryz.ntmps74
      go_wp2_with (go_at_call 76; go_must (refine HF.out.mono ?_); rintro e w1 ⟨rfl, hP, hU⟩)
      go_ret
      exact ⟨rfl, F, hP, hU⟩
    · rw [if_neg h1]
      have t1 : (R == 1) = false := by simp [h1]
      have HXL := Lib.hid hxl
      clear hxl
      obtain ⟨RR, hRR⟩ : ∃ RR : Int × Disk.Dk, (if R = 2 then (10, Disk.cut (Disk.put (Disk.tick d) j x)) else (0, Disk.put (Disk.tick d) j x)) = RR := ⟨_, rfl⟩
      rw [hRR]
      have HRR := Lib.hid hRR
      clear hRR
      go_enter Tryz.func74, Tryz.ntmps74
      go_wp2_with (go_at_call 76; go_must (refine HF.out.mono ?_); rintro e w1 ⟨rfl, hP, hU⟩; have y1 := hP.cells.2.1; rw [HNT.out] at y1; have fj := hP.cac.free j; have hx1 := hx.upd hU hF)
      have z1 : w1.drew.cell? ⟨g, 1, none⟩ = some (.slice (some ⟨cb, 0, none⟩) n n) := y1
      obtain ⟨vj, cj, -⟩ := hP.cac.cell HCJ.out
      have bcb := hP.cac.lt
      have bg := heap_lt hP.box
      go_region_law (refine step_app_b rfl (.tmp 41) (.tmp 42) rfl w1.drew.heap.size _ [] (by simp [Act.eval]) (OwnB.empty w1.drew (Nat.le_refl _)) a 64 c0 x (by simp [Act.eval]) ((hx1.stay (w' := w1.drew) (fun _ _ _ => rfl) (Nat.le_refl _)).ext ((Below.refl _ _).alloc (Nat.le_refl _) _)) (by simp) (by simp) ?_; intro v3 w3 hO3 hg3; obtain ⟨b, c, rfl, hb, hbl, hs3⟩ := OwnB.at0 (l := x) hO3 HXL.out; have hB3 := ((Below.refl w1.drew.heap.size w1.drew).alloc (Nat.le_refl _) (.cells #[] 5)).grown hg3 (by simp) (fun k hk => by cases hk; exact Nat.le_refl _); have z3 := (hB3.cell (p := ⟨g, 1, none⟩) bg).trans z1; have f3 : w3.frozen? ⟨cb, j, none⟩ = false := (((hP.stay (w' := w1.drew) (fun _ _ => rfl) (Nat.le_refl _)).ext hB3).cac.free j); have c3 := (hB3.cell (p := ⟨cb, j, none⟩) bcb).trans cj)
      all_goals
        have hB1 : Below w1.heap.size w1 w3 := (Below.drew (Below.refl _ _)).trans hB3
        obtain ⟨hP4, hU4⟩ := hP.put hjl HXL.out hb hB1 hs3 hbl
        clear z1 z3 f3 c3 cj y1 fj hs3 hO3 hg3 hB3 hB1
        generalize w3.setCell ⟨cb, j, none⟩ (.slice (some ⟨b, 0, none⟩) 64 c) = W4 at *
        have y4 := hP4.cells.2.2.2.2
        have f4 := hP4.free 4
        have off4 : (Disk.put (Disk.tick d) j x).off = false := hoff'
        rw [off4] at y4
        have HP4 := Lib.hid hP4
        have HU4 := Lib.hid (hU.trans hU4)
        clear hP4 hU4 hP off4
        by_cases h2 : R = 2
        · have hrr := HRR.out
          rw [if_pos h2] at hrr
          have HRR2 := Lib.hid hrr
          subst h2
          clear hrr HRR
          go_wp2_with fail
          go_ret
          rw [← HRR2.out]
          exact ⟨rfl, _, HP4.out.setOff true, HU4.out.setCell (.inl hFg) _ _⟩
        · have t2 : (R == 2) = false := by simp [h2]
          have hrr := HRR.out
          rw [if_neg h2] at hrr
          have HRR2 := Lib.hid hrr
          clear hrr HRR
          go_wp2_with fail
          go_ret
          rw [← HRR2.out]
          exact ⟨rfl, _, HP4.out, HU4.out⟩
  · rw [if_neg hfit]
    obtain ⟨n, hn⟩ : ∃ n, n = d.st.length := ⟨_, rfl⟩
    rw [← hn] at q0
    unfold Disk.fits at hfit
    rw [← hn] at hfit
    simp only [Bool.and_eq_true, decide_eq_true_eq] at hfit
    clear hn
    by_cases hneg : i < 0
    · clear hfit
      go_enter Tryz.func74, Tryz.ntmps74
      go_wp2
      go_ret
      exact ⟨rfl, F, h, Upd.refl _ _⟩
    · by_cases hge : (n : Int) ≤ i
      · clear hfit
        go_enter Tryz.func74, Tryz.ntmps74
        go_wp2
        go_ret
        exact ⟨rfl, F, h, Upd.refl _ _⟩
      · have h64 : ¬ n0 = 64 := fun e => hfit ⟨⟨by omega, by omega⟩, e⟩
        have t64 : ((n0 : Int) != 64) = true := by simp; omega
        have t65 : ((n0 : Int) == 64) = false := by simp; omega
        clear hfit h64
        go_enter Tryz.func74, Tryz.ntmps74
        go_wp2
        go_ret
        exact ⟨rfl, F, h, Upd.refl _ _⟩
end

end Go.Proofs.YtabeelcidlhniaaGreat

/-
  The reference's disk: Sync.
-/
namespace Go.Proofs.YtabeelcidlhniaaGreat
open Go.RowKit

namespace Disk
/-- The cache when the first i sectors were stored. -/
def caAt (d : Dk) (i : Nat) : List (Option (List UInt8)) := (List.range d.ca.length).map fun k => if k < i then none else d.ca[k]?.getD none
/-- The disk when the first i sectors were stored. -/
def mid (d : Dk) (i : Nat) : Dk := { d with st := stAt d (fun k => decide (k < i)), ca := caAt d i }
theorem caAt_get (d : Dk) (i k : Nat) (hk : k < d.ca.length) : (caAt d i)[k]? = some (if k < i then none else d.ca[k]?.getD none) := by
  unfold caAt; simp [hk]
theorem caAt_zero (d : Dk) : caAt d 0 = d.ca := by
  unfold caAt
  apply List.ext_getElem
  · simp
  · intro k h1 h2
    simp [h2]
theorem caAt_none (d : Dk) (i : Nat) (hi : d.ca[i]? = some none) : caAt d (i + 1) = caAt d i := by
  unfold caAt
  refine List.map_congr_left fun k hk => ?_
  by_cases h : k = i
  · subst h; simp [hi]
  · have : (k < i + 1) ↔ (k < i) := by omega
    simp [this]
theorem caAt_set (d : Dk) (i : Nat) : caAt d (i + 1) = (caAt d i).set i none := by
  unfold caAt
  apply List.ext_getElem
  · simp
  · intro k h1 h2
    simp only [List.getElem_map, List.getElem_range, List.getElem_set]
    by_cases h : i = k
    · subst h; simp
    · have : (k < i + 1) ↔ (k < i) := by omega
      simp [this, h]
theorem caAt_all (d : Dk) (i : Nat) (hi : d.ca.length ≤ i) : caAt d i = List.replicate d.ca.length none := by
  unfold caAt
  apply List.ext_getElem
  · simp
  · intro k h1 h2
    simp at h1
    simp [show k < i by omega]
theorem mid_zero (d : Dk) : mid d 0 = d := by
  unfold mid
  rw [caAt_zero]
  have : (fun k => decide (k < 0)) = fun (_ : Nat) => false := by funext k; simp
  rw [this, stAt_none]
theorem mid_none (d : Dk) (i : Nat) (hi : d.ca[i]? = some none) : mid d (i + 1) = mid d i := by
  unfold mid
  rw [caAt_none d i hi]
  congr 1
  unfold stAt
  refine List.map_congr_left fun k hk => ?_
  by_cases h : k = i
  · subst h; simp [content, hi]
  · have : (k < i + 1) ↔ (k < i) := by omega
    simp [this]
theorem mid_some (d : Dk) (i : Nat) (h : i < d.st.length) (x : List UInt8) (hi : d.ca[i]? = some (some x)) : mid d (i + 1) = { mid d i with st := (mid d i).st.set i x, ca := (mid d i).ca.set i none } := by
  have e : (fun k => decide (k < i + 1)) = fun k => decide (k < i) || k == i := by
    funext k
    by_cases h : k = i
    · subst h; simp
    · have : (k < i + 1) ↔ (k < i) := by omega
      simp [this, h]
  show Dk.mk (stAt d (fun k => decide (k < i + 1))) (caAt d (i + 1)) d.fs d.cnt d.off = Dk.mk ((stAt d (fun k => decide (k < i))).set i x) ((caAt d i).set i none) d.fs d.cnt d.off
  rw [e, stAt_step d _ i h x hi, caAt_set]
theorem mid_all {d : Dk} (h : d.Ok) : mid d d.st.length = flush d := by
  unfold mid flush
  rw [caAt_all d _ (by rw [h.len]; exact Nat.le_refl _), stAt_all]
  intro i x hx
  have := (List.getElem?_eq_some_iff.1 hx).1
  have := h.len
  simp; omega
theorem mid_len (d : Dk) (i : Nat) : (mid d i).st.length = d.st.length := by simp [mid, stAt]
end Disk

section
variable {F : Nat → Prop} {w w' : World} {g sb cb sc : Nat} {fa : Option Addr} {fn fc : Nat} {d d' : Disk.Dk}

/-- A stored sector turns. -/
theorem RD.setSto (h : RD F w g sb cb sc fa fn fc d) {i : Nat} (hi : i < d.st.length) {v : Value} {x : List UInt8} (hv : IsS (Rw F g sb cb) w v (some x)) (h64 : x.length = 64) :
    RD F (w.setCell ⟨sb, i, none⟩ v) g sb cb sc fa fn fc { d with st := d.st.set i x } := by
  have k : ∀ b, b ≠ sb → (w.setCell ⟨sb, i, none⟩ v).heap[b]? = w.heap[b]? := fun b hb => heap_setCell_other _ _ _ _ hb
  have hz : (w.setCell ⟨sb, i, none⟩ v).heap.size = w.heap.size := by simp
  refine ⟨⟨by simpa using h.ok.len, by simpa using h.ok.pos, by simpa using h.ok.max, fun y hy => ?_, h.ok.ca64⟩, ?_, ?_, h.cac.stay (k cb (Ne.symm h.sc')) (fun b hb => k b hb.2.2.1) (Nat.le_of_eq hz.symm) (fun _ e => e), h.flt.stay (fun y hy hl => k _ (h.fltF y hy hl).2.2.1) (Nat.le_of_eq hz.symm), h.fltF, fun b hb => by rw [hz]; exact h.lt b hb, h.Fg, h.Fs, h.Fc, h.gs, h.gc, h.sc', by simpa using h.cap⟩
  · rcases List.mem_or_eq_of_mem_set hy with h1 | h1
    · exact h.ok.st64 y h1
    · rw [h1]; exact h64
  · rw [List.length_set]; exact (k g h.gs).trans h.box
  · have := h.sto.set (fun e => e.2.2.1 rfl) (i := i) (by simpa using hi) hv
    rw [← List.map_set] at this
    exact this
/-- A cell of the cache is emptied. -/
theorem RD.setNone (h : RD F w g sb cb sc fa fn fc d) {i : Nat} (hi : i < d.st.length) :
    RD F (w.setCell ⟨cb, i, none⟩ (.slice none 0 0)) g sb cb sc fa fn fc { d with ca := d.ca.set i none } := by
  have k : ∀ b, b ≠ cb → (w.setCell ⟨cb, i, none⟩ (.slice none 0 0)).heap[b]? = w.heap[b]? := fun b hb => heap_setCell_other _ _ _ _ hb
  have hz : (w.setCell ⟨cb, i, none⟩ (.slice none 0 0)).heap.size = w.heap.size := by simp
  refine ⟨⟨by simpa using h.ok.len, h.ok.pos, h.ok.max, h.ok.st64, fun y hy => ?_⟩, (k g h.gc).trans h.box, h.sto.stay (k sb h.sc') (fun b hb => k b hb.2.2.2) (Nat.le_of_eq hz.symm) (fun _ e => e), h.cac.set (fun e => e.2.2.2 rfl) (by rw [h.ok.len]; exact hi) rfl, h.flt.stay (fun y hy hl => k _ (h.fltF y hy hl).2.2.2) (Nat.le_of_eq hz.symm), h.fltF, fun b hb => by rw [hz]; exact h.lt b hb, h.Fg, h.Fs, h.Fc, h.gs, h.gc, h.sc', h.cap⟩
  rcases List.mem_or_eq_of_mem_set hy with h1 | h1
  · exact h.ok.ca64 y h1
  · cases h1
/-- More blocks. -/
theorem RD.widen (h : RD F w g sb cb sc fa fn fc d) {F' : Nat → Prop} (hF : ∀ k, F k → F' k) (hlt : ∀ k, F' k → k < w.heap.size) : RD F' w g sb cb sc fa fn fc d :=
  ⟨h.ok, h.box, h.sto.stay rfl (fun _ _ => rfl) (Nat.le_refl _) (fun k e => ⟨hF k e.1, e.2⟩), h.cac.stay rfl (fun _ _ => rfl) (Nat.le_refl _) (fun k e => ⟨hF k e.1, e.2⟩), h.flt, fun x hx hl => ⟨hF _ (h.fltF x hx hl).1, (h.fltF x hx hl).2⟩, hlt, hF _ h.Fg, hF _ h.Fs, hF _ h.Fc, h.gs, h.gc, h.sc', h.cap⟩
/-- Other faults. -/
theorem RD.setFs (h : RD F w g sb cb sc fa fn fc d) (a : Option Addr) (n c : Nat) (fs : List (Int × Int)) (hf : SlP w a n c fs) (hF : ∀ y, a = some y → fs ≠ [] → Rw F g sb cb y.block) :
    RD F (w.setCell ⟨g, 2, none⟩ (.slice a n c)) g sb cb sc a n c { d with fs := fs } := by
  have k : ∀ b, b ≠ g → (w.setCell ⟨g, 2, none⟩ (.slice a n c)).heap[b]? = w.heap[b]? := fun b hb => heap_setCell_other _ _ _ _ hb
  have hz : (w.setCell ⟨g, 2, none⟩ (.slice a n c)).heap.size = w.heap.size := by simp
  exact ⟨⟨h.ok.len, h.ok.pos, h.ok.max, h.ok.st64, h.ok.ca64⟩, by rw [heap_setCell_same _ _ _ _ _ _ h.box]; rfl, h.sto.stay (k sb (Ne.symm h.gs)) (fun b hb => k b hb.2.1) (Nat.le_of_eq hz.symm) (fun _ e => e), h.cac.stay (k cb (Ne.symm h.gc)) (fun b hb => k b hb.2.1) (Nat.le_of_eq hz.symm) (fun _ e => e), hf.stay (fun x hx hl => k _ (hF x hx hl).2.1) (Nat.le_of_eq hz.symm), hF, fun b hb => by rw [hz]; exact h.lt b hb, h.Fg, h.Fs, h.Fc, h.gs, h.gc, h.sc', h.cap⟩
/-- Another cache, all of it empty. -/
theorem RD.setCb (h : RD F w g sb cb sc fa fn fc d) {b : Nat} {cs : Array Value} (hb : w.heap[b]? = some (.cells cs 37 (0, 0))) (hn : d.st.length ≤ cs.size) (hcs : ∀ i, i < d.st.length → cs[i]? = some (.slice none 0 0)) (hF : ¬ F b) :
    RD (fun k => F k ∨ k = b) (w.setCell ⟨g, 1, none⟩ (.slice (some ⟨b, 0, none⟩) d.st.length d.st.length)) g sb b sc fa fn fc { d with ca := List.replicate d.ca.length none } := by
  have k : ∀ j, j ≠ g → (w.setCell ⟨g, 1, none⟩ (.slice (some ⟨b, 0, none⟩) d.st.length d.st.length)).heap[j]? = w.heap[j]? := fun j hj => heap_setCell_other _ _ _ _ hj
  have hz : (w.setCell ⟨g, 1, none⟩ (.slice (some ⟨b, 0, none⟩) d.st.length d.st.length)).heap.size = w.heap.size := by simp
  have ne : ∀ j, F j → j ≠ b := fun j hj e => hF (e ▸ hj)
  have hR : ∀ j, Rw F g sb cb j → Rw (fun k => F k ∨ k = b) g sb b j := fun j hj => ⟨.inl hj.1, hj.2.1, hj.2.2.1, ne j hj.1⟩
  refine ⟨⟨by simpa using h.ok.len, h.ok.pos, h.ok.max, h.ok.st64, fun y hy => by simp at hy⟩, by rw [heap_setCell_same _ _ _ _ _ _ h.box]; rfl, h.sto.stay (k sb (Ne.symm h.gs)) (fun b hb => k b hb.2.1) (Nat.le_of_eq hz.symm) hR, ⟨cs, (k b (Ne.symm (ne g h.Fg))).trans hb, by simpa [h.ok.len] using hn, fun i x hx => ?_⟩, h.flt.stay (fun x hx hl => k _ (h.fltF x hx hl).2.1) (Nat.le_of_eq hz.symm), fun y hy hl => hR _ (h.fltF y hy hl), fun j hj => ?_, .inl h.Fg, .inl h.Fs, .inr rfl, h.gs, ne g h.Fg, ne sb h.Fs, h.cap⟩
  · have hi := (List.getElem?_eq_some_iff.1 hx).1
    simp at hi
    rw [List.getElem?_replicate, if_pos hi] at hx
    cases hx
    exact ⟨_, hcs i (by rw [← h.ok.len]; exact hi), rfl⟩
  · rw [hz]
    rcases hj with e | rfl
    · exact h.lt j e
    · exact heap_lt hb

theorem sync_is (d : Disk.Dk) : Disk.sync d = if d.off then (10, d) else if Disk.fault d = 1 then (9, Disk.tick d) else if Disk.fault d = 2 then (10, Disk.cut (Disk.tick d)) else (0, Disk.flush (Disk.tick d)) := by
  unfold Disk.sync Disk.begin
  cases d.off
  · by_cases h1 : Disk.fault d = 1
    · simp [h1]
    · by_cases h2 : Disk.fault d = 2
      · simp [h2]
      · simp only [Bool.false_eq_true, if_false, if_true, if_neg h1, if_neg h2]
  · rfl

set_option maxRecDepth 100000 in
set_option maxHeartbeats 4000000 in
theorem rd_sync (h : RD F w g sb cb sc fa fn fc d) :
    Calls Tryz.prog 42 #[.pointer (some ⟨g, 0, none⟩)] w fun e w' => e = .returned (.int .i64 (Disk.sync d).1) ∧ RD F w' g sb cb sc fa fn fc (Disk.sync d).2 ∧ Upd F w F w' := by
  rw [sync_is]
  have hFg := h.Fg
  obtain ⟨-, -, -, -, q4⟩ := h.cells
  by_cases hoff : d.off = true
  · rw [if_pos hoff]
    rw [hoff] at q4
    go_enter Tryz.func42, Tryz.ntmps42
    go_wp2
    go_ret
    exact ⟨rfl, h, Upd.refl _ _⟩
  have hoff' : d.off = false := by simpa using hoff
  rw [if_neg hoff]
  rw [hoff'] at q4
  have HF := Lib.hid (rd_fault h)
  obtain ⟨R, hR⟩ : ∃ R, Disk.fault d = R := ⟨_, rfl⟩
  rw [hR] at HF ⊢
  clear hR
  by_cases h1 : R = 1
  · subst h1
    rw [if_pos rfl]
    go_enter Tryz.func42, Tryz.ntmps42
    go_wp2_with (go_at_call 76; go_must (refine HF.out.mono ?_); rintro e w1 ⟨rfl, hP, hU⟩)
    go_ret
    exact ⟨rfl, hP, hU⟩
  rw [if_neg h1]
  by_cases h2 : R = 2
  · subst h2
    rw [if_pos rfl]
    clear h1
    go_enter Tryz.func42, Tryz.ntmps42
    go_wp2_with (go_at_call 76; go_must (refine HF.out.mono ?_); rintro e w1 ⟨rfl, hP, hU⟩; have y4 := hP.cells.2.2.2.2; have f4 := hP.free 4)
    go_ret
    exact ⟨rfl, hP.setOff true, hU.setCell (.inl hFg) _ _⟩
  rw [if_neg h2]
  have t1 : (R == 1) = false := by simp [h1]
  have t2 : (R == 2) = false := by simp [h2]
  have hmx := h.ok.max
  obtain ⟨n, hn⟩ : ∃ n, n = d.st.length := ⟨_, rfl⟩
  rw [← hn] at hmx
  have hall : Disk.mid (Disk.tick d) n = Disk.flush (Disk.tick d) := by rw [hn]; exact Disk.mid_all h.ok.tick
  have hnl : ∀ k, (Disk.mid (Disk.tick d) k).st.length = n := fun k => by rw [Disk.mid_len]; exact hn.symm
  have hcl : (Disk.tick d).ca.length = n := by rw [hn]; exact h.ok.len
  have HN := Lib.hid (And.intro hall (And.intro hnl hcl))
  clear hn hall hnl hcl h1 h2 hoff hoff'
  have h0 : Disk.mid (Disk.tick d) 0 = Disk.tick d := Disk.mid_zero _
  have H0 := Lib.hid h0
  clear h0
  go_enter Tryz.func42, Tryz.ntmps42
  go_wp2_with (go_at_call 76; go_must (refine HF.out.mono ?_); rintro e w1 ⟨rfl, hP1, hU1⟩)
  rw [← H0.out] at hP1
  clear q4
  go_loopw [3] (fun i wr => ∃ k : Nat, k ≤ n ∧ i = .int .i64 k ∧ RD F wr g sb cb sc fa fn fc (Disk.mid (Disk.tick d) k) ∧ Upd F w F wr) (fun i _ => n - (intOf i).toNat)
  case atStart => exact ⟨0, by omega, rfl, hP1, hU1⟩
  case round =>
    obtain ⟨k, hk, rfl, hP, hU⟩ := hrel
    clear hP1 hU1
    obtain ⟨y0, y1, -⟩ := hP.cells
    rw [HN.out.2.1] at y0 y1
    by_cases hlt : k < n
    · have hkc : k < (Disk.tick d).ca.length := by rw [HN.out.2.2]; exact hlt
      have hcg : (Disk.mid (Disk.tick d) k).ca[k]? = some ((Disk.tick d).ca[k]'hkc) := by
        show (Disk.caAt (Disk.tick d) k)[k]? = _
        rw [Disk.caAt_get _ _ _ hkc, if_neg (Nat.lt_irrefl _), List.getElem?_eq_getElem hkc]; rfl
      have hdk : (Disk.tick d).ca[k]? = some ((Disk.tick d).ca[k]'hkc) := List.getElem?_eq_getElem hkc
      obtain ⟨v, cv, sv⟩ := hP.cac.cell hcg
      obtain ⟨x, hx⟩ : ∃ x, (Disk.tick d).ca[k]'hkc = x := ⟨_, rfl⟩
      rw [hx] at sv hdk hcg
      have HCG := Lib.hid hcg
      clear hcg hx
      have i0 : (0 : Int) ≤ (k : Int) := by omega
      have i1 : (k : Int) < (n : Int) := by omega
      cases x with
      | none =>
        have sv : v = .slice none 0 0 := sv
        subst sv
        have hmid := Disk.mid_none _ _ hdk
        have HM := Lib.hid hmid
        clear hmid hdk hkc
        go_wp2
        exact ⟨⟨k + 1, by omega, by go_num, by rw [HM.out]; exact hP, hU⟩, by simp [intOf]; omega⟩
      | some x =>
        have hmid := Disk.mid_some _ _ (by have := HN.out.2.1 0; rw [Disk.mid_len] at this; rw [this]; exact hlt) x hdk
        have h64 : x.length = 64 := h.ok.tick.ca64 x (List.mem_of_getElem? hdk)
        have hsv := sv
        obtain ⟨b, c, rfl, r1, l1⟩ := sv
        have fs := hP.sto.free k
        obtain ⟨vs, cs, -⟩ := hP.sto.cell (i := k) (x := some ((Disk.mid (Disk.tick d) k).st[k]'(by rw [HN.out.2.1]; exact hlt))) (by rw [List.getElem?_map, List.getElem?_eq_getElem]; rfl)
        have HS := Lib.hid (hP.setSto (by rw [HN.out.2.1]; exact hlt) hsv h64)
        have HM := Lib.hid hmid
        clear hmid hdk hkc hsv r1 l1 h64
        go_wp2
        go_region
        have hP2 := HS.out.stay (w' := (wr.setCell ⟨sb, k, none⟩ (.slice (some ⟨b, 0, none⟩) 64 c)).drew) (fun _ _ => rfl) (Nat.le_refl _)
        have hU2 := (hU.setCell (.inl h.Fs) k (.slice (some ⟨b, 0, none⟩) 64 c)).drew
        clear HS hP hU y0 y1 cv fs cs
        generalize (wr.setCell ⟨sb, k, none⟩ (.slice (some ⟨b, 0, none⟩) 64 c)).drew = W2 at *
        have hl2 : ((Disk.mid (Disk.tick d) k).st.set k x).length = n := by rw [List.length_set]; exact HN.out.2.1 k
        have z1 := hP2.cells.2.1
        change _ = some (Value.slice _ ((Disk.mid (Disk.tick d) k).st.set k x).length ((Disk.mid (Disk.tick d) k).st.set k x).length) at z1
        rw [hl2] at z1
        have fz := hP2.cac.free k
        obtain ⟨vz, cz, -⟩ := hP2.cac.cell HCG.out
        have HS3 := Lib.hid (hP2.setNone (i := k) (by change k < ((Disk.mid (Disk.tick d) k).st.set k x).length; rw [hl2]; exact hlt))
        clear hP2 hl2
        go_wp2
        exact ⟨⟨k + 1, by omega, by go_num, by rw [HM.out]; exact HS3.out, hU2.setCell (.inl h.Fc) _ _⟩, by simp [intOf]; omega⟩
    · obtain rfl : k = n := by omega
      rw [HN.out.1] at hP
      go_wp2
      go_ret
      exact ⟨rfl, hP, hU⟩
end

end Go.Proofs.YtabeelcidlhniaaGreat

/-
  The reference's disk: Dirty, Image, Valid, Arm.
-/
namespace Go.Proofs.YtabeelcidlhniaaGreat
open Go.RowKit

namespace Disk
def dirtyTo (d : Dk) (k : Nat) : List Int := ((List.range k).filter fun (i : Nat) => (d.ca[i]?.getD none).isSome).map fun (i : Nat) => (i : Int)
theorem dirtyTo_none (d : Dk) (k : Nat) (h : d.ca[k]?.getD none = none) : dirtyTo d (k + 1) = dirtyTo d k := by
  unfold dirtyTo; rw [List.range_succ, List.filter_append]; simp [h]
theorem dirtyTo_some (d : Dk) (k : Nat) (x : List UInt8) (h : d.ca[k]?.getD none = some x) : dirtyTo d (k + 1) = dirtyTo d k ++ [(k : Int)] := by
  unfold dirtyTo; rw [List.range_succ, List.filter_append, List.map_append]; simp [h]
theorem dirtyTo_len (d : Dk) (k : Nat) : (dirtyTo d k).length ≤ k := by
  unfold dirtyTo; rw [List.length_map]; exact Nat.le_trans (List.length_filter_le ..) (by simp)
theorem dirtyTo_all {d : Dk} (h : d.Ok) : dirtyTo d d.st.length = dirty d := by unfold dirtyTo dirty; rw [h.len]
end Disk

section
variable {F : Nat → Prop} {w w' : World} {g sb cb sc : Nat} {fa : Option Addr} {fn fc : Nat} {d d' : Disk.Dk}

set_option maxRecDepth 100000 in
set_option maxHeartbeats 2000000 in
theorem rd_dirty (h : RD F w g sb cb sc fa fn fc d) :
    Calls Tryz.prog 26 #[.pointer (some ⟨g, 0, none⟩)] w fun e w' => ∃ v, e = .returned v ∧ OwnI w.heap.size w' v (Disk.dirty d) ∧ Below w.heap.size w w' := by
  have hmx := h.ok.max
  obtain ⟨n, hn⟩ : ∃ n, n = d.st.length := ⟨_, rfl⟩
  rw [← hn] at hmx
  have HALL := Lib.hid (Disk.dirtyTo_all h.ok)
  have HN := Lib.hid hn
  have HCL := Lib.hid h.ok.len
  clear hn
  go_enter Tryz.func26, Tryz.ntmps26
  go_wp2
  go_loopw [3, 4] (fun v i wr => ∃ k : Nat, k ≤ n ∧ i = .int .i64 k ∧ OwnI w.heap.size wr v (Disk.dirtyTo d k) ∧ Below w.heap.size w wr) (fun _ i _ => n - (intOf i).toNat)
  case atStart => exact ⟨0, by omega, rfl, OwnI.nil _ _, Below.refl _ _⟩
  case round =>
    obtain ⟨k, hk, rfl, hO, hB⟩ := hrel
    have hP := h.ext hB
    have hS := rd_sectors hP
    rw [← HN.out] at hS
    have HS := Lib.hid hS
    clear hS
    have y1 := hP.cells.2.1
    rw [← HN.out] at y1
    by_cases hlt : k < n
    · have hkc : k < d.ca.length := by rw [HCL.out, ← HN.out]; exact hlt
      have hdk := List.getElem?_eq_getElem hkc
      obtain ⟨v1, cv, sv⟩ := hP.cac.cell hdk
      obtain ⟨x, hx⟩ : ∃ x, d.ca[k]'hkc = x := ⟨_, rfl⟩
      rw [hx] at sv hdk
      clear hx
      have i0 : (0 : Int) ≤ (k : Int) := by omega
      have i1 : (k : Int) < (n : Int) := by omega
      cases x with
      | none =>
        have sv : v1 = .slice none 0 0 := sv
        subst sv
        have HD := Lib.hid (Disk.dirtyTo_none d k (by rw [hdk]; rfl))
        clear hdk hkc
        go_wp2_with (go_at_call 61; go_must (refine HS.out.mono ?_); rintro e w1 ⟨rfl, rfl⟩)
        exact ⟨⟨k + 1, by omega, by go_num, by rw [HD.out]; exact hO, hB⟩, by simp [intOf]; omega⟩
      | some x =>
        obtain ⟨b, c, rfl, r1, l1⟩ := sv
        have HD := Lib.hid (Disk.dirtyTo_some d k x (by rw [hdk]; rfl))
        have HL := Lib.hid (Disk.dirtyTo_len d k)
        clear hdk hkc l1 r1
        have hsz := hB.size
        go_wp2_with (first
          | (go_at_call 61; go_must (refine HS.out.mono ?_); rintro e w1 ⟨rfl, rfl⟩)
          | (at_builtin; go_must (refine wpList_append_ints rfl _ _ rfl w.heap.size _ _ rfl (hO.alloc _) _ _ _ [(k : Int)] rfl (SlI.one wr k _) (by have := HL.out; omega) (by simp; omega) ?_); intro v5 w5 hO5 hg5))
        exact ⟨⟨k + 1, by omega, by go_num, by rw [HD.out]; exact hO5, (hB.alloc hsz _).grown hg5 (by simp; omega) (fun k hk => (hO.lt k hk).1)⟩, by simp [intOf]; omega⟩
    · obtain rfl : n = k := by omega
      go_wp2_with (go_at_call 61; go_must (refine HS.out.mono ?_); rintro e w1 ⟨rfl, rfl⟩)
      go_ret
      exact ⟨_, rfl, by rw [← HALL.out, ← HN.out]; exact hO, hB⟩


set_option maxRecDepth 100000 in
set_option maxHeartbeats 2000000 in
theorem rd_image (h : RD F w g sb cb sc fa fn fc d) :
    Calls Tryz.prog 28 #[.pointer (some ⟨g, 0, none⟩)] w fun e w' => ∃ v, e = .returned v ∧ OwnB w.heap.size w' v d.st.flatten ∧ Below w.heap.size w w' := by
  have hmx := h.ok.max
  obtain ⟨n, hn⟩ : ∃ n, n = d.st.length := ⟨_, rfl⟩
  rw [← hn] at hmx
  have HN := Lib.hid hn
  have H64 := Lib.hid h.ok.st64
  clear hn
  go_enter Tryz.func28, Tryz.ntmps28
  go_wp2
  go_loopw [3, 4] (fun v i wr => ∃ k : Nat, k ≤ n ∧ i = .int .i64 k ∧ OwnB w.heap.size wr v (d.st.take k).flatten ∧ Below w.heap.size w wr) (fun _ i _ => n - (intOf i).toNat)
  case atStart => exact ⟨0, by omega, rfl, OwnB.nil _ _, Below.refl _ _⟩
  case round =>
    obtain ⟨k, hk, rfl, hO, hB⟩ := hrel
    have hP := h.ext hB
    have hS := rd_sectors hP
    rw [← HN.out] at hS
    have HS := Lib.hid hS
    clear hS
    have y0 := hP.cells.1
    rw [← HN.out] at y0
    by_cases hlt : k < n
    · have hks : k < d.st.length := by rw [← HN.out]; exact hlt
      have hst : (d.st.map some)[k]? = some (some d.st[k]) := by simp [hks]
      obtain ⟨v1, cv, sv⟩ := hP.sto.cell hst
      obtain ⟨b, c, rfl, r1, l1⟩ := sv
      have hfl : (d.st.take (k + 1)).flatten = (d.st.take k).flatten ++ d.st[k] := by rw [List.take_succ_eq_append_getElem hks, List.flatten_append, List.flatten_cons, List.flatten_nil, List.append_nil]
      have hfn : (d.st.take k).flatten.length = 64 * (d.st.take k).length := Disk.flat_length _ (fun x hx => H64.out x (List.mem_of_mem_take hx))
      rw [List.length_take] at hfn
      obtain ⟨x, hx⟩ : ∃ x, d.st[k] = x := ⟨_, rfl⟩
      rw [hx] at l1 hfl
      have HD := Lib.hid hfl
      have HL := Lib.hid hfn
      clear hst hks hx hfl hfn
      have i0 : (0 : Int) ≤ (k : Int) := by omega
      have i1 : (k : Int) < (n : Int) := by omega
      have hsz := hB.size
      go_wp2_with (first
        | (go_at_call 61; go_must (refine HS.out.mono ?_); rintro e w1 ⟨rfl, rfl⟩)
        | (at_builtin; go_must (refine wpList_append_bytes rfl _ _ rfl w.heap.size _ _ rfl hO _ _ _ _ rfl l1 (by have := HL.out; omega) hsz ?_); intro v5 w5 hO5 hg5 _))
      exact ⟨⟨k + 1, by omega, by go_num, by rw [HD.out]; exact hO5, hB.grown hg5 hsz (fun k hk => (hO.lt k hk).1)⟩, by simp [intOf]; omega⟩
    · obtain rfl : n = k := by omega
      go_wp2_with (go_at_call 61; go_must (refine HS.out.mono ?_); rintro e w1 ⟨rfl, rfl⟩)
      go_ret
      rw [List.take_of_length_le (by rw [← HN.out]; exact Nat.le_refl _)] at hO
      exact ⟨_, rfl, hO, hB⟩

set_option maxRecDepth 100000 in
set_option maxHeartbeats 2000000 in
theorem rd_valid (a : Option Addr) (n c : Nat) (l : List (Int × Int)) (w : World) (h : SlP w a n c l) :
    Calls Tryz.prog 46 #[.slice a n c] w fun e w' => e = .returned (.bool (Disk.validFaults l)) ∧ w = w' := by
  have HLN := Lib.hid h.len
  have hle := h.le
  obtain ⟨r, hr⟩ : ∃ r, Disk.validFaults l = r := ⟨_, rfl⟩
  rw [hr]
  unfold Disk.validFaults at hr
  rw [HLN.out] at hr
  have HR := Lib.hid hr
  clear hr
  go_enter Tryz.func46, Tryz.ntmps46
  go_wp2
  go_loopw [3] (fun i wr => ∃ k : Nat, k ≤ n ∧ i = .int .i64 k ∧ Hid ((l.take k).any Disk.badf = false) ∧ w = wr) (fun i _ => n - (intOf i).toNat)
  case atStart => exact ⟨0, Nat.zero_le _, rfl, Lib.hid rfl, rfl⟩
  case round =>
    obtain ⟨k, hk, rfl, HA, rfl⟩ := hrel
    by_cases hlt : k < n
    · obtain ⟨b, o, rfl, hb, y1, y2⟩ := h.at hlt
      have HT := Lib.hid (any_take l k (by rw [HLN.out]; exact hlt) HA.out)
      have HH := Lib.hid (any_hit l k (by rw [HLN.out]; exact hlt))
      generalize l[k]?.getD (0, 0) = pr at *
      obtain ⟨z1, z2⟩ := pr
      simp only at y1 y2
      have hbb : Disk.badf (z1, z2) = ((z2 != 1 && z2 != 2) || decide (z1 < 0)) := rfl
      have HBB := Lib.hid hbb
      clear hbb
      have i0 : (0 : Int) ≤ (k : Int) := by omega
      have i1 : (k : Int) < (n : Int) := by omega
      by_cases hz : z1 < 0
      · have t0 : decide (z1 < 0) = true := by simpa using hz
        have hrf : r = false := by rw [← HR.out, HH.out (by rw [HBB.out, t0, Bool.or_true])]; simp
        subst hrf
        go_wp2
        go_ret
        exact ⟨rfl, rfl⟩
      have t0 : decide (z1 < 0) = false := by simpa using hz
      by_cases h1 : z2 = 1
      · subst h1
        go_wp2
        exact ⟨⟨k + 1, by omega, by go_num, Lib.hid (HT.out (by rw [HBB.out, t0]; rfl)), trivial⟩, by simp [intOf]; omega⟩
      have t1 : (z2 != 1) = true := by simpa using h1
      by_cases h2 : z2 = 2
      · subst h2
        clear h1
        go_wp2
        exact ⟨⟨k + 1, by omega, by go_num, Lib.hid (HT.out (by rw [HBB.out, t0, t1]; rfl)), trivial⟩, by simp [intOf]; omega⟩
      have t2 : (z2 != 2) = true := by simpa using h2
      have hrf : r = false := by rw [← HR.out, HH.out (by rw [HBB.out, t0, t1, t2]; rfl)]; simp
      subst hrf
      clear h1 h2
      go_wp2
      go_ret
      exact ⟨rfl, rfl⟩
    · obtain rfl : k = n := by omega
      have ha := HA.out
      rw [List.take_of_length_le (by rw [HLN.out]; exact Nat.le_refl _)] at ha
      have hrr := HR.out
      rw [ha] at hrr
      simp only [Bool.not_false, Bool.and_true] at hrr
      by_cases hk64 : k ≤ 64
      · have : r = true := by rw [← hrr]; simpa using hk64
        subst this
        clear hrr ha
        have t0 : decide ((k : Int) ≤ 64) = true := by simp; omega
        go_wp2
        go_ret
        exact ⟨rfl, rfl⟩
      · have : r = false := by rw [← hrr]; simpa using hk64
        subst this
        clear hrr ha
        have t0 : decide ((k : Int) ≤ 64) = false := by simp; omega
        go_wp2
        go_ret
        exact ⟨rfl, rfl⟩

theorem wpList_append_faultsO {w : World} {ops : Array Oper} {rest : List Oper} {o : Oper} {a : Act} {Q : Exit → Act → World → Prop} (hgd : o.guard = none) (s x : Operand)
    (ho : o.op = .call { callee := .builtin .append, args := #[s, x], argTypes := #[38, 38] })
    (base : Nat) (v : Value) (l : List (Int × Int)) (hs : a.eval s = v) (hown : OwnP base w v l) (b : Option Addr) (m c : Nat) (l2 : List (Int × Int)) (hx : a.eval x = .slice b m c) (hsl : SlP w b m c l2)
    (hlen : l.length + m ≤ 1000000000) (hbase : base ≤ w.heap.size)
    (h : ∀ v' w', OwnP base w' v' (l ++ l2) → w.grownBy w' v.ownBlock → wpList Tryz.prog ops Q rest (a.put o.dst v') w') : wpList Tryz.prog ops Q (o :: rest) a w := by
  obtain ⟨i0, hi, hz0, hz1, hz2⟩ := info_parts infoFault
  cases b with
  | none =>
    obtain ⟨rfl, rfl⟩ := hsl.2.2.2.1 rfl
    obtain rfl : m = 0 := hsl.1.symm
    refine wpList_append_own_none hgd s x 38 ho base 77 i0 2 Tryz.underlying38 hi v l.length _ hs hown hx ?_
    exact h v w (by simpa using hown) ⟨rfl, rfl, rfl, Nat.le_refl _, fun _ _ _ => rfl⟩
  | some ad => exact wpList_append_faults hgd s x ho base v l hs hown ad m c l2 hx hsl hlen hbase h

def RArmPost (F : Nat → Prop) (w : World) (g sb cb sc : Nat) (r : Int × Disk.Dk) (e : Ending) (w' : World) : Prop :=
  e = .returned (.int .i64 r.1) ∧ ∃ F' fa fn fc, RD F' w' g sb cb sc fa fn fc r.2 ∧ Upd F w F' w'

set_option maxRecDepth 100000 in
set_option maxHeartbeats 2000000 in
theorem rd_arm (h : RD F w g sb cb sc fa fn fc d) (a : Option Addr) (n c : Nat) (l : List (Int × Int)) (hl : SlP w a n c l) :
    Calls Tryz.prog 15 #[.pointer (some ⟨g, 0, none⟩), .slice a n c] w (RArmPost F w g sb cb sc (Disk.arm d l)) := by
  have HV := Lib.hid (rd_valid a n c l w hl)
  by_cases hv : Disk.validFaults l = true
  · have hr : Disk.arm d l = (0, { d with fs := l, cnt := 0 }) := by unfold Disk.arm; rw [if_pos hv]
    have hn : l.length ≤ 64 := by unfold Disk.validFaults at hv; simp at hv; exact hv.1
    rw [hr]
    rw [hv] at HV
    have hln := hl.len
    have HLN := Lib.hid (And.intro hn hln)
    clear hr hv hn hln
    go_enter Tryz.func15, Tryz.ntmps15
    have y2 := h.cells.2.2.1
    have f2 := h.free 2
    go_wp2_with (first
      | (go_at_call 46; go_must (refine HV.out.mono ?_); rintro e w1 ⟨rfl, rfl⟩)
      | (at_builtin; go_must (refine wpList_append_faultsO rfl _ _ rfl w.heap.size _ [] rfl (OwnP.empty w (Nat.le_refl _)) a n c l rfl (hl.ext ((Below.refl _ _).alloc (Nat.le_refl _) _)) (by have := HLN.out; simp; omega) (by simp) ?_); intro v2 w2 hO hg2; have hb2 := ((Below.refl _ _).alloc (Nat.le_refl _) (.cells #[] 77)).grown hg2 (by simp) (fun k hk => by cases hk; exact Nat.le_refl _); obtain ⟨a2, c2, rfl, hs2, hbl⟩ := hO.sl; have z2 := (h.ext hb2).cells.2.2.1; have z3 := (h.ext hb2).cells.2.2.2.1; have g2 := (h.ext hb2).free 2; have g3 := (h.ext hb2).free 3))
    go_ret
    rw [List.nil_append] at hs2
    have hP := (h.ext hb2).widen (F' := fun k => F k ∨ ∃ x, a2 = some x ∧ k = x.block) (fun k hk => .inl hk) (fun k hk => by
        rcases hk with hk | ⟨x, hx, rfl⟩
        · exact Nat.lt_of_lt_of_le (h.lt k hk) hb2.size
        · exact (hbl x hx).2)
    have hU : Upd F w (fun k => F k ∨ ∃ x, a2 = some x ∧ k = x.block) w2 := (Upd.of_ext hb2).grow (fun k hk => by
        rcases hk with hk | ⟨x, hx, rfl⟩
        · exact .inl hk
        · exact .inr (hbl x hx).1)
    have hP2 := (hP.setFs a2 l.length c2 l hs2 (fun y hy _ => by
        have h1 := (hbl y hy).1
        exact ⟨.inr ⟨y, hy, rfl⟩, by have := h.lt g h.Fg; omega, by have := h.lt sb h.Fs; omega, by have := h.lt cb h.Fc; omega⟩)).setCnt 0
    exact ⟨rfl, _, _, _, _, hP2, (hU.setCell (.inl h.Fg) _ _).setCell (.inl h.Fg) _ _⟩
  · have hr : Disk.arm d l = (1, d) := by unfold Disk.arm; rw [if_neg hv]
    have hv' : Disk.validFaults l = false := by simpa using hv
    rw [hr]
    rw [hv'] at HV
    clear hr hv hv'
    go_enter Tryz.func15, Tryz.ntmps15
    go_wp2_with (go_at_call 46; go_must (refine HV.out.mono ?_); rintro e w1 ⟨rfl, rfl⟩)
    go_ret
    exact ⟨rfl, F, fa, fn, fc, h, Upd.refl _ _⟩
end

end Go.Proofs.YtabeelcidlhniaaGreat
