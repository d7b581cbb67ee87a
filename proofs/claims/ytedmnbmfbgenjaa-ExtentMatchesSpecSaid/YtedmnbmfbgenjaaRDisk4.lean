/-
  The reference's disk: Sync.
-/
import Derived.Test.YtedmnbmfbgenjaaRDisk3
namespace Go.Proofs.Ytedmnbmfbgenjaa
open Go.RowKit

namespace Disk
/-- The cache when the first i sectors were stored. -/
def caAt (d : Dk) (i : Nat) : List (Option (List UInt8)) := (List.range d.ca.length).map fun k => if k < i then none else d.ca[k]?.getD none
/-- The disk when the first i sectors were stored. -/
def mid (d : Dk) (i : Nat) : Dk := { d with st := stAt d (fun k => decide (k < i)), ca := caAt d i }
theorem caAt_get (d : Dk) (i k : Nat) (hk : k < d.ca.length) : (caAt d i)[k]? = some (if k < i then none else d.ca[k]?.getD none) := by
  unfold caAt; simp [hk]
theorem caAt_zero (d : Dk) : caAt d 0 = d.ca := by
  unfold caAt
  apply List.ext_getElem
  · simp
  · intro k h1 h2
    simp [h2]
theorem caAt_none (d : Dk) (i : Nat) (hi : d.ca[i]? = some none) : caAt d (i + 1) = caAt d i := by
  unfold caAt
  refine List.map_congr_left fun k hk => ?_
  by_cases h : k = i
  · subst h; simp [hi]
  · have : (k < i + 1) ↔ (k < i) := by omega
    simp [this]
theorem caAt_set (d : Dk) (i : Nat) : caAt d (i + 1) = (caAt d i).set i none := by
  unfold caAt
  apply List.ext_getElem
  · simp
  · intro k h1 h2
    simp only [List.getElem_map, List.getElem_range, List.getElem_set]
    by_cases h : i = k
    · subst h; simp
    · have : (k < i + 1) ↔ (k < i) := by omega
      simp [this, h]
theorem caAt_all (d : Dk) (i : Nat) (hi : d.ca.length ≤ i) : caAt d i = List.replicate d.ca.length none := by
  unfold caAt
  apply List.ext_getElem
  · simp
  · intro k h1 h2
    simp at h1
    simp [show k < i by omega]
theorem mid_zero (d : Dk) : mid d 0 = d := by
  unfold mid
  rw [caAt_zero]
  have : (fun k => decide (k < 0)) = fun (_ : Nat) => false := by funext k; simp
  rw [this, stAt_none]
theorem mid_none (d : Dk) (i : Nat) (hi : d.ca[i]? = some none) : mid d (i + 1) = mid d i := by
  unfold mid
  rw [caAt_none d i hi]
  congr 1
  unfold stAt
  refine List.map_congr_left fun k hk => ?_
  by_cases h : k = i
  · subst h; simp [content, hi]
  · have : (k < i + 1) ↔ (k < i) := by omega
    simp [this]
theorem mid_some (d : Dk) (i : Nat) (h : i < d.st.length) (x : List UInt8) (hi : d.ca[i]? = some (some x)) : mid d (i + 1) = { mid d i with st := (mid d i).st.set i x, ca := (mid d i).ca.set i none } := by
  have e : (fun k => decide (k < i + 1)) = fun k => decide (k < i) || k == i := by
    funext k
    by_cases h : k = i
    · subst h; simp
    · have : (k < i + 1) ↔ (k < i) := by omega
      simp [this, h]
  show Dk.mk (stAt d (fun k => decide (k < i + 1))) (caAt d (i + 1)) d.fs d.cnt d.off = Dk.mk ((stAt d (fun k => decide (k < i))).set i x) ((caAt d i).set i none) d.fs d.cnt d.off
  rw [e, stAt_step d _ i h x hi, caAt_set]
theorem mid_all {d : Dk} (h : d.Ok) : mid d d.st.length = flush d := by
  unfold mid flush
  rw [caAt_all d _ (by rw [h.len]; exact Nat.le_refl _), stAt_all]
  intro i x hx
  have := (List.getElem?_eq_some_iff.1 hx).1
  have := h.len
  simp; omega
theorem mid_len (d : Dk) (i : Nat) : (mid d i).st.length = d.st.length := by simp [mid, stAt]
end Disk

section
variable {F : Nat → Prop} {w w' : World} {g sb cb sc : Nat} {fa : Option Addr} {fn fc : Nat} {d d' : Disk.Dk}

/-- A stored sector turns. -/
theorem RD.setSto (h : RD F w g sb cb sc fa fn fc d) {i : Nat} (hi : i < d.st.length) {v : Value} {x : List UInt8} (hv : IsS (Rw F g sb cb) w v (some x)) (h64 : x.length = 64) :
    RD F (w.setCell ⟨sb, i, none⟩ v) g sb cb sc fa fn fc { d with st := d.st.set i x } := by
  have k : ∀ b, b ≠ sb → (w.setCell ⟨sb, i, none⟩ v).heap[b]? = w.heap[b]? := fun b hb => heap_setCell_other _ _ _ _ hb
  have hz : (w.setCell ⟨sb, i, none⟩ v).heap.size = w.heap.size := by simp
  refine ⟨⟨by simpa using h.ok.len, by simpa using h.ok.pos, by simpa using h.ok.max, fun y hy => ?_, h.ok.ca64⟩, ?_, ?_, h.cac.stay (k cb (Ne.symm h.sc')) (fun b hb => k b hb.2.2.1) (Nat.le_of_eq hz.symm) (fun _ e => e), h.flt.stay (fun y hy hl => k _ (h.fltF y hy hl).2.2.1) (Nat.le_of_eq hz.symm), h.fltF, fun b hb => by rw [hz]; exact h.lt b hb, h.Fg, h.Fs, h.Fc, h.gs, h.gc, h.sc', by simpa using h.cap⟩
  · rcases List.mem_or_eq_of_mem_set hy with h1 | h1
    · exact h.ok.st64 y h1
    · rw [h1]; exact h64
  · rw [List.length_set]; exact (k g h.gs).trans h.box
  · have := h.sto.set (fun e => e.2.2.1 rfl) (i := i) (by simpa using hi) hv
    rw [← List.map_set] at this
    exact this
/-- A cell of the cache is emptied. -/
theorem RD.setNone (h : RD F w g sb cb sc fa fn fc d) {i : Nat} (hi : i < d.st.length) :
    RD F (w.setCell ⟨cb, i, none⟩ (.slice none 0 0)) g sb cb sc fa fn fc { d with ca := d.ca.set i none } := by
  have k : ∀ b, b ≠ cb → (w.setCell ⟨cb, i, none⟩ (.slice none 0 0)).heap[b]? = w.heap[b]? := fun b hb => heap_setCell_other _ _ _ _ hb
  have hz : (w.setCell ⟨cb, i, none⟩ (.slice none 0 0)).heap.size = w.heap.size := by simp
  refine ⟨⟨by simpa using h.ok.len, h.ok.pos, h.ok.max, h.ok.st64, fun y hy => ?_⟩, (k g h.gc).trans h.box, h.sto.stay (k sb h.sc') (fun b hb => k b hb.2.2.2) (Nat.le_of_eq hz.symm) (fun _ e => e), h.cac.set (fun e => e.2.2.2 rfl) (by rw [h.ok.len]; exact hi) rfl, h.flt.stay (fun y hy hl => k _ (h.fltF y hy hl).2.2.2) (Nat.le_of_eq hz.symm), h.fltF, fun b hb => by rw [hz]; exact h.lt b hb, h.Fg, h.Fs, h.Fc, h.gs, h.gc, h.sc', h.cap⟩
  rcases List.mem_or_eq_of_mem_set hy with h1 | h1
  · exact h.ok.ca64 y h1
  · cases h1
/-- More blocks. -/
theorem RD.widen (h : RD F w g sb cb sc fa fn fc d) {F' : Nat → Prop} (hF : ∀ k, F k → F' k) (hlt : ∀ k, F' k → k < w.heap.size) : RD F' w g sb cb sc fa fn fc d :=
  ⟨h.ok, h.box, h.sto.stay rfl (fun _ _ => rfl) (Nat.le_refl _) (fun k e => ⟨hF k e.1, e.2⟩), h.cac.stay rfl (fun _ _ => rfl) (Nat.le_refl _) (fun k e => ⟨hF k e.1, e.2⟩), h.flt, fun x hx hl => ⟨hF _ (h.fltF x hx hl).1, (h.fltF x hx hl).2⟩, hlt, hF _ h.Fg, hF _ h.Fs, hF _ h.Fc, h.gs, h.gc, h.sc', h.cap⟩
/-- Other faults. -/
theorem RD.setFs (h : RD F w g sb cb sc fa fn fc d) (a : Option Addr) (n c : Nat) (fs : List (Int × Int)) (hf : SlP w a n c fs) (hF : ∀ y, a = some y → fs ≠ [] → Rw F g sb cb y.block) :
    RD F (w.setCell ⟨g, 2, none⟩ (.slice a n c)) g sb cb sc a n c { d with fs := fs } := by
  have k : ∀ b, b ≠ g → (w.setCell ⟨g, 2, none⟩ (.slice a n c)).heap[b]? = w.heap[b]? := fun b hb => heap_setCell_other _ _ _ _ hb
  have hz : (w.setCell ⟨g, 2, none⟩ (.slice a n c)).heap.size = w.heap.size := by simp
  exact ⟨⟨h.ok.len, h.ok.pos, h.ok.max, h.ok.st64, h.ok.ca64⟩, by rw [heap_setCell_same _ _ _ _ _ _ h.box]; rfl, h.sto.stay (k sb (Ne.symm h.gs)) (fun b hb => k b hb.2.1) (Nat.le_of_eq hz.symm) (fun _ e => e), h.cac.stay (k cb (Ne.symm h.gc)) (fun b hb => k b hb.2.1) (Nat.le_of_eq hz.symm) (fun _ e => e), hf.stay (fun x hx hl => k _ (hF x hx hl).2.1) (Nat.le_of_eq hz.symm), hF, fun b hb => by rw [hz]; exact h.lt b hb, h.Fg, h.Fs, h.Fc, h.gs, h.gc, h.sc', h.cap⟩
/-- Another cache, all of it empty. -/
theorem RD.setCb (h : RD F w g sb cb sc fa fn fc d) {b : Nat} {cs : Array Value} (hb : w.heap[b]? = some (.cells cs 26 (0, 0))) (hn : d.st.length ≤ cs.size) (hcs : ∀ i, i < d.st.length → cs[i]? = some (.slice none 0 0)) (hF : ¬ F b) :
    RD (fun k => F k ∨ k = b) (w.setCell ⟨g, 1, none⟩ (.slice (some ⟨b, 0, none⟩) d.st.length d.st.length)) g sb b sc fa fn fc { d with ca := List.replicate d.ca.length none } := by
  have k : ∀ j, j ≠ g → (w.setCell ⟨g, 1, none⟩ (.slice (some ⟨b, 0, none⟩) d.st.length d.st.length)).heap[j]? = w.heap[j]? := fun j hj => heap_setCell_other _ _ _ _ hj
  have hz : (w.setCell ⟨g, 1, none⟩ (.slice (some ⟨b, 0, none⟩) d.st.length d.st.length)).heap.size = w.heap.size := by simp
  have ne : ∀ j, F j → j ≠ b := fun j hj e => hF (e ▸ hj)
  have hR : ∀ j, Rw F g sb cb j → Rw (fun k => F k ∨ k = b) g sb b j := fun j hj => ⟨.inl hj.1, hj.2.1, hj.2.2.1, ne j hj.1⟩
  refine ⟨⟨by simpa using h.ok.len, h.ok.pos, h.ok.max, h.ok.st64, fun y hy => by simp at hy⟩, by rw [heap_setCell_same _ _ _ _ _ _ h.box]; rfl, h.sto.stay (k sb (Ne.symm h.gs)) (fun b hb => k b hb.2.1) (Nat.le_of_eq hz.symm) hR, ⟨cs, (k b (Ne.symm (ne g h.Fg))).trans hb, by simpa [h.ok.len] using hn, fun i x hx => ?_⟩, h.flt.stay (fun x hx hl => k _ (h.fltF x hx hl).2.1) (Nat.le_of_eq hz.symm), fun y hy hl => hR _ (h.fltF y hy hl), fun j hj => ?_, .inl h.Fg, .inl h.Fs, .inr rfl, h.gs, ne g h.Fg, ne sb h.Fs, h.cap⟩
  · have hi := (List.getElem?_eq_some_iff.1 hx).1
    simp at hi
    rw [List.getElem?_replicate, if_pos hi] at hx
    cases hx
    exact ⟨_, hcs i (by rw [← h.ok.len]; exact hi), rfl⟩
  · rw [hz]
    rcases hj with e | rfl
    · exact h.lt j e
    · exact heap_lt hb

theorem sync_is (d : Disk.Dk) : Disk.sync d = if d.off then (10, d) else if Disk.fault d = 1 then (9, Disk.tick d) else if Disk.fault d = 2 then (10, Disk.cut (Disk.tick d)) else (0, Disk.flush (Disk.tick d)) := by
  unfold Disk.sync Disk.begin
  cases d.off
  · by_cases h1 : Disk.fault d = 1
    · simp [h1]
    · by_cases h2 : Disk.fault d = 2
      · simp [h2]
      · simp only [Bool.false_eq_true, if_false, if_true, if_neg h1, if_neg h2]
  · rfl

set_option maxRecDepth 100000 in
set_option maxHeartbeats 4000000 in
theorem rd_sync (h : RD F w g sb cb sc fa fn fc d) :
    Calls Try.prog 35 #[.pointer (some ⟨g, 0, none⟩)] w fun e w' => e = .returned (.int .i64 (Disk.sync d).1) ∧ RD F w' g sb cb sc fa fn fc (Disk.sync d).2 ∧ Upd F w F w' := by
  rw [sync_is]
  have hFg := h.Fg
  obtain ⟨-, -, -, -, q4⟩ := h.cells
  by_cases hoff : d.off = true
  · rw [if_pos hoff]
    rw [hoff] at q4
    go_enter Try.func35, Try.ntmps35
    go_wp2
    go_ret
    exact ⟨rfl, h, Upd.refl _ _⟩
  have hoff' : d.off = false := by simpa using hoff
  rw [if_neg hoff]
  rw [hoff'] at q4
  have HF := Lib.hid (rd_fault h)
  obtain ⟨R, hR⟩ : ∃ R, Disk.fault d = R := ⟨_, rfl⟩
  rw [hR] at HF ⊢
  clear hR
  by_cases h1 : R = 1
  · subst h1
    rw [if_pos rfl]
    go_enter Try.func35, Try.ntmps35
    go_wp2_with (go_at_call 71; go_must (refine HF.out.mono ?_); rintro e w1 ⟨rfl, hP, hU⟩)
    go_ret
    exact ⟨rfl, hP, hU⟩
  rw [if_neg h1]
  by_cases h2 : R = 2
  · subst h2
    rw [if_pos rfl]
    clear h1
    go_enter Try.func35, Try.ntmps35
    go_wp2_with (go_at_call 71; go_must (refine HF.out.mono ?_); rintro e w1 ⟨rfl, hP, hU⟩; have y4 := hP.cells.2.2.2.2; have f4 := hP.free 4)
    go_ret
    exact ⟨rfl, hP.setOff true, hU.setCell (.inl hFg) _ _⟩
  rw [if_neg h2]
  have t1 : (R == 1) = false := by simp [h1]
  have t2 : (R == 2) = false := by simp [h2]
  have hmx := h.ok.max
  obtain ⟨n, hn⟩ : ∃ n, n = d.st.length := ⟨_, rfl⟩
  rw [← hn] at hmx
  have hall : Disk.mid (Disk.tick d) n = Disk.flush (Disk.tick d) := by rw [hn]; exact Disk.mid_all h.ok.tick
  have hnl : ∀ k, (Disk.mid (Disk.tick d) k).st.length = n := fun k => by rw [Disk.mid_len]; exact hn.symm
  have hcl : (Disk.tick d).ca.length = n := by rw [hn]; exact h.ok.len
  have HN := Lib.hid (And.intro hall (And.intro hnl hcl))
  clear hn hall hnl hcl h1 h2 hoff hoff'
  have h0 : Disk.mid (Disk.tick d) 0 = Disk.tick d := Disk.mid_zero _
  have H0 := Lib.hid h0
  clear h0
  go_enter Try.func35, Try.ntmps35
  go_wp2_with (go_at_call 71; go_must (refine HF.out.mono ?_); rintro e w1 ⟨rfl, hP1, hU1⟩)
  rw [← H0.out] at hP1
  clear q4
  go_loopw [3] (fun i wr => ∃ k : Nat, k ≤ n ∧ i = .int .i64 k ∧ RD F wr g sb cb sc fa fn fc (Disk.mid (Disk.tick d) k) ∧ Upd F w F wr) (fun i _ => n - (intOf i).toNat)
  case atStart => exact ⟨0, by omega, rfl, hP1, hU1⟩
  case round =>
    obtain ⟨k, hk, rfl, hP, hU⟩ := hrel
    clear hP1 hU1
    obtain ⟨y0, y1, -⟩ := hP.cells
    rw [HN.out.2.1] at y0 y1
    by_cases hlt : k < n
    · have hkc : k < (Disk.tick d).ca.length := by rw [HN.out.2.2]; exact hlt
      have hcg : (Disk.mid (Disk.tick d) k).ca[k]? = some ((Disk.tick d).ca[k]'hkc) := by
        show (Disk.caAt (Disk.tick d) k)[k]? = _
        rw [Disk.caAt_get _ _ _ hkc, if_neg (Nat.lt_irrefl _), List.getElem?_eq_getElem hkc]; rfl
      have hdk : (Disk.tick d).ca[k]? = some ((Disk.tick d).ca[k]'hkc) := List.getElem?_eq_getElem hkc
      obtain ⟨v, cv, sv⟩ := hP.cac.cell hcg
      obtain ⟨x, hx⟩ : ∃ x, (Disk.tick d).ca[k]'hkc = x := ⟨_, rfl⟩
      rw [hx] at sv hdk hcg
      have HCG := Lib.hid hcg
      clear hcg hx
      have i0 : (0 : Int) ≤ (k : Int) := by omega
      have i1 : (k : Int) < (n : Int) := by omega
      cases x with
      | none =>
        have sv : v = .slice none 0 0 := sv
        subst sv
        have hmid := Disk.mid_none _ _ hdk
        have HM := Lib.hid hmid
        clear hmid hdk hkc
        go_wp2
        exact ⟨⟨k + 1, by omega, by go_num, by rw [HM.out]; exact hP, hU⟩, by simp [intOf]; omega⟩
      | some x =>
        have hmid := Disk.mid_some _ _ (by have := HN.out.2.1 0; rw [Disk.mid_len] at this; rw [this]; exact hlt) x hdk
        have h64 : x.length = 64 := h.ok.tick.ca64 x (List.mem_of_getElem? hdk)
        have hsv := sv
        obtain ⟨b, c, rfl, r1, l1⟩ := sv
        have fs := hP.sto.free k
        obtain ⟨vs, cs, -⟩ := hP.sto.cell (i := k) (x := some ((Disk.mid (Disk.tick d) k).st[k]'(by rw [HN.out.2.1]; exact hlt))) (by rw [List.getElem?_map, List.getElem?_eq_getElem]; rfl)
        have HS := Lib.hid (hP.setSto (by rw [HN.out.2.1]; exact hlt) hsv h64)
        have HM := Lib.hid hmid
        clear hmid hdk hkc hsv r1 l1 h64
        go_wp2
        go_region
        have hP2 := HS.out.stay (w' := (wr.setCell ⟨sb, k, none⟩ (.slice (some ⟨b, 0, none⟩) 64 c)).drew) (fun _ _ => rfl) (Nat.le_refl _)
        have hU2 := (hU.setCell (.inl h.Fs) k (.slice (some ⟨b, 0, none⟩) 64 c)).drew
        clear HS hP hU y0 y1 cv fs cs
        generalize (wr.setCell ⟨sb, k, none⟩ (.slice (some ⟨b, 0, none⟩) 64 c)).drew = W2 at *
        have hl2 : ((Disk.mid (Disk.tick d) k).st.set k x).length = n := by rw [List.length_set]; exact HN.out.2.1 k
        have z1 := hP2.cells.2.1
        change _ = some (Value.slice _ ((Disk.mid (Disk.tick d) k).st.set k x).length ((Disk.mid (Disk.tick d) k).st.set k x).length) at z1
        rw [hl2] at z1
        have fz := hP2.cac.free k
        obtain ⟨vz, cz, -⟩ := hP2.cac.cell HCG.out
        have HS3 := Lib.hid (hP2.setNone (i := k) (by change k < ((Disk.mid (Disk.tick d) k).st.set k x).length; rw [hl2]; exact hlt))
        clear hP2 hl2
        go_wp2
        exact ⟨⟨k + 1, by omega, by go_num, by rw [HM.out]; exact HS3.out, hU2.setCell (.inl h.Fc) _ _⟩, by simp [intOf]; omega⟩
    · obtain rfl : k = n := by omega
      rw [HN.out.1] at hP
      go_wp2
      go_ret
      exact ⟨rfl, hP, hU⟩
end

end Go.Proofs.Ytedmnbmfbgenjaa
