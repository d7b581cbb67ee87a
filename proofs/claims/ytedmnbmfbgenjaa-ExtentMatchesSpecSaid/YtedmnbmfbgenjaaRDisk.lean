/-
  The reference's disk: what it is in memory; Sectors, Off, Cut, fault, content.
-/
import Derived.Test.YtedmnbmfbgenjaaSecAt
import Derived.Test.YtedmnbmfbgenjaaLists
import Derived.Deep.QuietTactic
import Derived.BigQuiet
namespace Go.Proofs.Ytedmnbmfbgenjaa
open Go.RowKit

/-- A cell that holds a sector, or nothing. -/
def IsS (R : Nat → Prop) (w : World) (v : Value) (x : Option (List UInt8)) : Prop :=
  match x with
  | none => v = .slice none 0 0
  | some l => ∃ b c, v = .slice (some ⟨b, 0, none⟩) 64 c ∧ R b ∧ SlB w (some ⟨b, 0, none⟩) 64 c l
theorem IsS.stay {R R' : Nat → Prop} {w w' : World} {v : Value} {x : Option (List UInt8)} (h : IsS R w v x) (hb : ∀ k, R k → w'.heap[k]? = w.heap[k]?) (hz : w.heap.size ≤ w'.heap.size) (hR : ∀ k, R k → R' k) : IsS R' w' v x := by
  cases x with
  | none => exact h
  | some l =>
    obtain ⟨b, c, e, hr, hs⟩ := h
    exact ⟨b, c, e, hR b hr, hs.stay (fun y hy _ => by cases hy; exact hb b hr) hz⟩

/-- Block b is a row of such cells. -/
def RowS (R : Nat → Prop) (w : World) (b : Nat) (ls : List (Option (List UInt8))) : Prop :=
  ∃ cs : Array Value, w.heap[b]? = some (.cells cs 26 (0, 0)) ∧ ls.length ≤ cs.size ∧ ∀ (i : Nat) (x : Option (List UInt8)), ls[i]? = some x → ∃ v, cs[i]? = some v ∧ IsS R w v x
theorem RowS.lt {R : Nat → Prop} {w : World} {b : Nat} {ls : List (Option (List UInt8))} (h : RowS R w b ls) : b < w.heap.size := by
  obtain ⟨cs, h1, -⟩ := h; exact heap_lt h1
theorem RowS.cell {R : Nat → Prop} {w : World} {b : Nat} {ls : List (Option (List UInt8))} (h : RowS R w b ls) {i : Nat} {x : Option (List UInt8)} (hx : ls[i]? = some x) : ∃ v, w.cell? ⟨b, i, none⟩ = some v ∧ IsS R w v x := by
  obtain ⟨cs, h1, -, h3⟩ := h
  obtain ⟨v, h4, h5⟩ := h3 i x hx
  exact ⟨v, by rw [cell_of_row _ _ _ _ _ _ h1]; exact h4, h5⟩
theorem RowS.free {R : Nat → Prop} {w : World} {b : Nat} {ls : List (Option (List UInt8))} (h : RowS R w b ls) (k : Nat) : w.frozen? ⟨b, k, none⟩ = false := by
  obtain ⟨cs, h1, -⟩ := h; exact frozen_of_row _ _ _ _ _ h1
theorem RowS.stay {R R' : Nat → Prop} {w w' : World} {b : Nat} {ls : List (Option (List UInt8))} (h : RowS R w b ls) (hb : w'.heap[b]? = w.heap[b]?) (hR : ∀ k, R k → w'.heap[k]? = w.heap[k]?) (hz : w.heap.size ≤ w'.heap.size) (hRR : ∀ k, R k → R' k) : RowS R' w' b ls := by
  obtain ⟨cs, h1, h2, h3⟩ := h
  refine ⟨cs, hb.trans h1, h2, fun i x hx => ?_⟩
  obtain ⟨v, h4, h5⟩ := h3 i x hx
  exact ⟨v, h4, h5.stay hR hz hRR⟩
theorem RowS.set {R : Nat → Prop} {w : World} {b : Nat} {ls : List (Option (List UInt8))} (h : RowS R w b ls) (hb : ¬ R b) {i : Nat} (hi : i < ls.length) {v : Value} {x : Option (List UInt8)} (hv : IsS R w v x) : RowS R (w.setCell ⟨b, i, none⟩ v) b (ls.set i x) := by
  obtain ⟨cs, h1, h2, h3⟩ := h
  have hs : ∀ k, R k → (w.setCell ⟨b, i, none⟩ v).heap[k]? = w.heap[k]? := fun k hk => heap_setCell_other _ _ _ _ (by rintro rfl; exact hb hk)
  refine ⟨cs.setIfInBounds i v, by rw [heap_setCell_same _ _ _ _ _ _ h1], by simpa using h2, fun j y hy => ?_⟩
  by_cases e : j = i
  · subst e
    rw [List.getElem?_set_self hi] at hy
    cases hy
    exact ⟨v, by rw [Array.getElem?_setIfInBounds_self_of_lt (by omega)], hv.stay hs (by simp) (fun _ h => h)⟩
  · rw [List.getElem?_set_ne (fun e2 => e e2.symm)] at hy
    obtain ⟨u, h4, h5⟩ := h3 j y hy
    exact ⟨u, by rw [Array.getElem?_setIfInBounds_ne (fun e2 => e e2.symm)]; exact h4, h5.stay hs (by simp) (fun _ h => h)⟩

/-- Block g is the reference's disk d; it reads the blocks of F and no other. -/
structure RD (F : Nat → Prop) (w : World) (g sb cb sc : Nat) (fa : Option Addr) (fn fc : Nat) (d : Disk.Dk) : Prop where
  ok : d.Ok
  box : w.heap[g]? = some (.cells #[.slice (some ⟨sb, 0, none⟩) d.st.length sc, .slice (some ⟨cb, 0, none⟩) d.st.length d.st.length, .slice fa fn fc, .int .i64 d.cnt, .bool d.off] 105 (0, 0))
  sto : RowS (Rw F g sb cb) w sb (d.st.map some)
  cac : RowS (Rw F g sb cb) w cb d.ca
  flt : SlP w fa fn fc d.fs
  fltF : ∀ x, fa = some x → d.fs ≠ [] → Rw F g sb cb x.block
  lt : ∀ k, F k → k < w.heap.size
  Fg : F g
  Fs : F sb
  Fc : F cb
  gs : g ≠ sb
  gc : g ≠ cb
  sc' : sb ≠ cb
  cap : d.st.length ≤ sc

section
variable {F : Nat → Prop} {w w' : World} {g sb cb sc : Nat} {fa : Option Addr} {fn fc : Nat} {d : Disk.Dk}
theorem RD.cells (h : RD F w g sb cb sc fa fn fc d) : w.cell? ⟨g, 0, none⟩ = some (.slice (some ⟨sb, 0, none⟩) d.st.length sc) ∧ w.cell? ⟨g, 1, none⟩ = some (.slice (some ⟨cb, 0, none⟩) d.st.length d.st.length) ∧ w.cell? ⟨g, 2, none⟩ = some (.slice fa fn fc) ∧ w.cell? ⟨g, 3, none⟩ = some (.int .i64 d.cnt) ∧ w.cell? ⟨g, 4, none⟩ = some (.bool d.off) := by
  refine ⟨?_, ?_, ?_, ?_, ?_⟩ <;> rw [cell_of_row _ _ _ _ _ _ h.box] <;> rfl
theorem RD.free (h : RD F w g sb cb sc fa fn fc d) (k : Nat) : w.frozen? ⟨g, k, none⟩ = false := frozen_of_row _ _ _ _ _ h.box
theorem RD.stay (h : RD F w g sb cb sc fa fn fc d) (k : ∀ b, F b → w'.heap[b]? = w.heap[b]?) (hz : w.heap.size ≤ w'.heap.size) : RD F w' g sb cb sc fa fn fc d :=
  ⟨h.ok, (k g h.Fg).trans h.box, h.sto.stay (k sb h.Fs) (fun b hb => k b hb.1) hz (fun _ e => e), h.cac.stay (k cb h.Fc) (fun b hb => k b hb.1) hz (fun _ e => e), h.flt.stay (fun x hx hl => k _ (h.fltF x hx hl).1) hz, h.fltF, fun b hb => Nat.lt_of_lt_of_le (h.lt b hb) hz, h.Fg, h.Fs, h.Fc, h.gs, h.gc, h.sc', h.cap⟩
theorem RD.ext (h : RD F w g sb cb sc fa fn fc d) (e : Below w.heap.size w w') : RD F w' g sb cb sc fa fn fc d := h.stay (fun b hb => e.block b (h.lt b hb)) e.size
theorem RD.apart {G G' : Nat → Prop} (h : RD F w g sb cb sc fa fn fc d) (k : Upd G w G' w') (hG : ∀ b, G b → ¬ F b) : RD F w' g sb cb sc fa fn fc d :=
  h.stay (fun b hb => k.block b (h.lt b hb) (fun e => hG b e hb)) k.size
theorem RD.drewN (h : RD F w g sb cb sc fa fn fc d) (n : Nat) : RD F (w.drewN n) g sb cb sc fa fn fc d := h.stay (fun _ _ => rfl) (Nat.le_refl _)
/-- The struct's block alone turns. -/
theorem RD.rebox (h : RD F w g sb cb sc fa fn fc d) (k : ∀ b, b ≠ g → w'.heap[b]? = w.heap[b]?) (hz : w'.heap.size = w.heap.size) (d' : Disk.Dk) (hst : d'.st = d.st) (hca : d'.ca = d.ca) (hfs : d'.fs = d.fs)
    (hb : w'.heap[g]? = some (.cells #[.slice (some ⟨sb, 0, none⟩) d.st.length sc, .slice (some ⟨cb, 0, none⟩) d.st.length d.st.length, .slice fa fn fc, .int .i64 d'.cnt, .bool d'.off] 105 (0, 0))) : RD F w' g sb cb sc fa fn fc d' := by
  obtain ⟨st, ca, fs, cnt, off⟩ := d
  obtain ⟨st', ca', fs', cnt', off'⟩ := d'
  simp only at hst hca hfs hb
  subst hst; subst hca; subst hfs
  exact ⟨⟨h.ok.len, h.ok.pos, h.ok.max, h.ok.st64, h.ok.ca64⟩, hb, h.sto.stay (k sb (Ne.symm h.gs)) (fun b hb => k b hb.2.1) (Nat.le_of_eq hz.symm) (fun _ e => e), h.cac.stay (k cb (Ne.symm h.gc)) (fun b hb => k b hb.2.1) (Nat.le_of_eq hz.symm) (fun _ e => e), h.flt.stay (fun x hx hl => k _ (h.fltF x hx hl).2.1) (Nat.le_of_eq hz.symm), h.fltF, fun b hb => by rw [hz]; exact h.lt b hb, h.Fg, h.Fs, h.Fc, h.gs, h.gc, h.sc', h.cap⟩
theorem RD.setCnt (h : RD F w g sb cb sc fa fn fc d) (z : Int) : RD F (w.setCell ⟨g, 3, none⟩ (.int .i64 z)) g sb cb sc fa fn fc { d with cnt := z } :=
  h.rebox (fun b hb => heap_setCell_other _ _ _ _ hb) (by simp) _ rfl rfl rfl (by rw [heap_setCell_same _ _ _ _ _ _ h.box]; rfl)
theorem RD.setOff (h : RD F w g sb cb sc fa fn fc d) (z : Bool) : RD F (w.setCell ⟨g, 4, none⟩ (.bool z)) g sb cb sc fa fn fc { d with off := z } :=
  h.rebox (fun b hb => heap_setCell_other _ _ _ _ hb) (by simp) _ rfl rfl rfl (by rw [heap_setCell_same _ _ _ _ _ _ h.box]; rfl)

theorem rd_sectors (h : RD F w g sb cb sc fa fn fc d) : Calls Try.prog 77 #[.pointer (some ⟨g, 0, none⟩)] w fun e w' => e = .returned (.int .i64 (d.st.length : Nat)) ∧ w = w' := by
  have h0 := h.cells.1
  go_enter Try.func77, Try.ntmps77
  go_wp2
  go_ret
  exact ⟨rfl, rfl⟩
theorem rd_off (h : RD F w g sb cb sc fa fn fc d) : Calls Try.prog 59 #[.pointer (some ⟨g, 0, none⟩)] w fun e w' => e = .returned (.bool d.off) ∧ w = w' := by
  have h0 := h.cells.2.2.2.2
  go_enter Try.func59, Try.ntmps59
  go_wp2
  go_ret
  exact ⟨rfl, rfl⟩
theorem rd_cut (h : RD F w g sb cb sc fa fn fc d) : Calls Try.prog 39 #[.pointer (some ⟨g, 0, none⟩)] w fun e w' => e = .returned (.tuple #[]) ∧ RD F w' g sb cb sc fa fn fc (Disk.cut d) ∧ Upd F w F w' := by
  have hc := h.cells.2.2.2.2
  have hf := h.free 4
  have hFg := h.Fg
  have HP := Lib.hid (h.setOff true)
  clear h
  go_enter Try.func39, Try.ntmps39
  go_wp2
  go_end0
  exact ⟨rfl, HP.out, (Upd.refl F w).setCell (.inl hFg) _ _⟩

theorem ffrom_at {l : List (Int × Int)} {c : Int} {k : Nat} (hk : k < l.length) {p : Int × Int} (hp : l[k]?.getD (0, 0) = p) : ffrom (l.drop k) c = if p.1 == c then p.2 else ffrom (l.drop (k + 1)) c := by
  cases h : (p.1 == c)
  · rw [ffrom_miss l c k hk (by rw [hp]; exact h)]; simp
  · rw [ffrom_hit l c k hk (by rw [hp]; exact h), hp]; simp

set_option maxRecDepth 100000 in
set_option maxHeartbeats 1000000 in
theorem rd_fault (h : RD F w g sb cb sc fa fn fc d) : Calls Try.prog 71 #[.pointer (some ⟨g, 0, none⟩)] w fun e w' => e = .returned (.int .i64 (Disk.fault d)) ∧ RD F w' g sb cb sc fa fn fc (Disk.tick d) ∧ Upd F w F w' := by
  obtain ⟨-, -, hc2, hc3, -⟩ := h.cells
  have hle := h.flt.le
  have HLN := Lib.hid h.flt.len
  have h0 : ffrom (d.fs.drop 0) d.cnt = Disk.fault d := rfl
  have H0 := Lib.hid h0
  generalize Disk.fault d = R at *
  clear h0
  go_enter Try.func71, Try.ntmps71
  go_wp2
  clear hc2 hc3
  go_loopw [3, 4] (fun kd i wr => ∃ k : Nat, k ≤ fn ∧ i = .int .i64 ((k : Int) - 1) ∧ kd = .int .i64 (ffrom (d.fs.drop k) d.cnt) ∧ RD F wr g sb cb sc fa fn fc d ∧ Upd F w F wr) (fun _ i _ => (intOf i + 1).toNat)
  case atStart => exact ⟨fn, Nat.le_refl _, by go_num, by rw [List.drop_of_length_le (by rw [HLN.out]; exact Nat.le_refl _)]; rfl, h, Upd.refl _ _⟩
  case round =>
    obtain ⟨k, hk, rfl, rfl, hP, hU⟩ := hrel
    obtain ⟨-, -, hc2, hc3, -⟩ := hP.cells
    have hf3 := hP.free 3
    by_cases hlt : 0 < k
    · obtain ⟨j, rfl⟩ : ∃ j, k = j + 1 := ⟨k - 1, by omega⟩
      have ej : ((j + 1 : Nat) : Int) - 1 = (j : Int) := by omega
      rw [ej]
      obtain ⟨b, o, rfl, hb, q1, q2⟩ := hP.flt.at (show j < fn by omega)
      obtain ⟨p, hp⟩ : ∃ p, d.fs[j]?.getD (0, 0) = p := ⟨_, rfl⟩
      have hff := ffrom_at (c := d.cnt) (show j < d.fs.length by rw [HLN.out]; omega) hp
      have HFF := Lib.hid hff
      clear hff
      change _ = some (Value.int IntKind.i64 (d.fs[j]?.getD (0, 0)).1) at q1
      change _ = some (Value.int IntKind.i64 (d.fs[j]?.getD (0, 0)).2) at q2
      rw [hp] at q1 q2
      clear hp ej
      obtain ⟨y1, y2⟩ := p
      simp only at q1 q2 HFF
      have b0 : (0 : Int) ≤ (j : Int) := by omega
      have b1 : (j : Int) < (fn : Int) := by omega
      by_cases hy : y1 = d.cnt
      · have t1 : (y1 == d.cnt) = true := by simp [hy]
        rw [t1] at HFF
        clear hy
        go_wp2
        go_quiet (fail)
        go_wp2
        exact ⟨⟨j, by omega, by go_num, by rw [HFF.out]; rfl, hP.drewN _, hU.drewN _⟩, by simp [intOf]⟩
      · have t1 : (y1 == d.cnt) = false := by simp [hy]
        rw [t1] at HFF
        clear hy
        go_wp2
        go_quiet (fail)
        go_wp2
        exact ⟨⟨j, by omega, by go_num, by rw [HFF.out]; rfl, hP.drewN _, hU.drewN _⟩, by simp [intOf]⟩
    · obtain rfl : k = 0 := by omega
      have HP := Lib.hid (hP.setCnt (wrap64 (d.cnt + 1)))
      have HU := Lib.hid (hU.setCell (.inl hP.Fg) 3 (.int .i64 (wrap64 (d.cnt + 1))))
      rw [H0.out]
      go_wp2
      go_ret
      exact ⟨rfl, HP.out, HU.out⟩
end

end Go.Proofs.Ytedmnbmfbgenjaa
