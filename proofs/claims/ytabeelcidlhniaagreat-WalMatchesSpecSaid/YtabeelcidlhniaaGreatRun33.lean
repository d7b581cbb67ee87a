/-
  Texts in one: RDisk, RDisk2.
-/
import Derived.Test.YtabeelcidlhniaaGreatSecAt
import Derived.Test.YtabeelcidlhniaaGreatLists
import Derived.Deep.QuietTactic
import Derived.BigQuiet
/-
  The reference's disk: what it is in memory; Sectors, Off, Cut, fault, content.
-/
namespace Go.Proofs.YtabeelcidlhniaaGreat
open Go.RowKit

/-- A cell that holds a sector, or nothing. -/
def IsS (R : Nat → Prop) (w : World) (v : Value) (x : Option (List UInt8)) : Prop :=
  match x with
  | none => v = .slice none 0 0
  | some l => ∃ b c, v = .slice (some ⟨b, 0, none⟩) 64 c ∧ R b ∧ SlB w (some ⟨b, 0, none⟩) 64 c l
theorem IsS.stay {R R' : Nat → Prop} {w w' : World} {v : Value} {x : Option (List UInt8)} (h : IsS R w v x) (hb : ∀ k, R k → w'.heap[k]? = w.heap[k]?) (hz : w.heap.size ≤ w'.heap.size) (hR : ∀ k, R k → R' k) : IsS R' w' v x := by
  cases x with
  | none => exact h
  | some l =>
    obtain ⟨b, c, e, hr, hs⟩ := h
    exact ⟨b, c, e, hR b hr, hs.stay (fun y hy _ => by cases hy; exact hb b hr) hz⟩

/-- Block b is a row of such cells. -/
def RowS (R : Nat → Prop) (w : World) (b : Nat) (ls : List (Option (List UInt8))) : Prop :=
  ∃ cs : Array Value, w.heap[b]? = some (.cells cs 37 (0, 0)) ∧ ls.length ≤ cs.size ∧ ∀ (i : Nat) (x : Option (List UInt8)), ls[i]? = some x → ∃ v, cs[i]? = some v ∧ IsS R w v x
theorem RowS.lt {R : Nat → Prop} {w : World} {b : Nat} {ls : List (Option (List UInt8))} (h : RowS R w b ls) : b < w.heap.size := by
  obtain ⟨cs, h1, -⟩ := h; exact heap_lt h1
theorem RowS.cell {R : Nat → Prop} {w : World} {b : Nat} {ls : List (Option (List UInt8))} (h : RowS R w b ls) {i : Nat} {x : Option (List UInt8)} (hx : ls[i]? = some x) : ∃ v, w.cell? ⟨b, i, none⟩ = some v ∧ IsS R w v x := by
  obtain ⟨cs, h1, -, h3⟩ := h
  obtain ⟨v, h4, h5⟩ := h3 i x hx
  exact ⟨v, by rw [cell_of_row _ _ _ _ _ _ h1]; exact h4, h5⟩
theorem RowS.free {R : Nat → Prop} {w : World} {b : Nat} {ls : List (Option (List UInt8))} (h : RowS R w b ls) (k : Nat) : w.frozen? ⟨b, k, none⟩ = false := by
  obtain ⟨cs, h1, -⟩ := h; exact frozen_of_row _ _ _ _ _ h1
theorem RowS.stay {R R' : Nat → Prop} {w w' : World} {b : Nat} {ls : List (Option (List UInt8))} (h : RowS R w b ls) (hb : w'.heap[b]? = w.heap[b]?) (hR : ∀ k, R k → w'.heap[k]? = w.heap[k]?) (hz : w.heap.size ≤ w'.heap.size) (hRR : ∀ k, R k → R' k) : RowS R' w' b ls := by
  obtain ⟨cs, h1, h2, h3⟩ := h
  refine ⟨cs, hb.trans h1, h2, fun i x hx => ?_⟩
  obtain ⟨v, h4, h5⟩ := h3 i x hx
  exact ⟨v, h4, h5.stay hR hz hRR⟩
theorem RowS.set {R : Nat → Prop} {w : World} {b : Nat} {ls : List (Option (List UInt8))} (h : RowS R w b ls) (hb : ¬ R b) {i : Nat} (hi : i < ls.length) {v : Value} {x : Option (List UInt8)} (hv : IsS R w v x) : RowS R (w.setCell ⟨b, i, none⟩ v) b (ls.set i x) := by
  obtain ⟨cs, h1, h2, h3⟩ := h
  have hs : ∀ k, R k → (w.setCell ⟨b, i, none⟩ v).heap[k]? = w.heap[k]? := fun k hk => heap_setCell_other _ _ _ _ (by rintro rfl; exact hb hk)
  refine ⟨cs.setIfInBounds i v, by rw [heap_setCell_same _ _ _ _ _ _ h1], by simpa using h2, fun j y hy => ?_⟩
  by_cases e : j = i
  · subst e
    rw [List.getElem?_set_self hi] at hy
    cases hy
    exact ⟨v, by rw [Array.getElem?_setIfInBounds_self_of_lt (by omega)], hv.stay hs (by simp) (fun _ h => h)⟩
  · rw [List.getElem?_set_ne (fun e2 => e e2.symm)] at hy
    obtain ⟨u, h4, h5⟩ := h3 j y hy
    exact ⟨u, by rw [Array.getElem?_setIfInBounds_ne (fun e2 => e e2.symm)]; exact h4, h5.stay hs (by simp) (fun _ h => h)⟩

/-- Block g is the reference's disk d; it reads the blocks of F and no other. -/
structure RD (F : Nat → Prop) (w : World) (g sb cb sc : Nat) (fa : Option Addr) (fn fc : Nat) (d : Disk.Dk) : Prop where
  ok : d.Ok
  box : w.heap[g]? = some (.cells #[.slice (some ⟨sb, 0, none⟩) d.st.length sc, .slice (some ⟨cb, 0, none⟩) d.st.length d.st.length, .slice fa fn fc, .int .i64 d.cnt, .bool d.off] 82 (0, 0))
  sto : RowS (Rw F g sb cb) w sb (d.st.map some)
  cac : RowS (Rw F g sb cb) w cb d.ca
  flt : SlP w fa fn fc d.fs
  fltF : ∀ x, fa = some x → d.fs ≠ [] → Rw F g sb cb x.block
  lt : ∀ k, F k → k < w.heap.size
  Fg : F g
  Fs : F sb
  Fc : F cb
  gs : g ≠ sb
  gc : g ≠ cb
  sc' : sb ≠ cb
  cap : d.st.length ≤ sc

section
variable {F : Nat → Prop} {w w' : World} {g sb cb sc : Nat} {fa : Option Addr} {fn fc : Nat} {d : Disk.Dk}
theorem RD.cells (h : RD F w g sb cb sc fa fn fc d) : w.cell? ⟨g, 0, none⟩ = some (.slice (some ⟨sb, 0, none⟩) d.st.length sc) ∧ w.cell? ⟨g, 1, none⟩ = some (.slice (some ⟨cb, 0, none⟩) d.st.length d.st.length) ∧ w.cell? ⟨g, 2, none⟩ = some (.slice fa fn fc) ∧ w.cell? ⟨g, 3, none⟩ = some (.int .i64 d.cnt) ∧ w.cell? ⟨g, 4, none⟩ = some (.bool d.off) := by
  refine ⟨?_, ?_, ?_, ?_, ?_⟩ <;> rw [cell_of_row _ _ _ _ _ _ h.box] <;> rfl
theorem RD.free (h : RD F w g sb cb sc fa fn fc d) (k : Nat) : w.frozen? ⟨g, k, none⟩ = false := frozen_of_row _ _ _ _ _ h.box
theorem RD.stay (h : RD F w g sb cb sc fa fn fc d) (k : ∀ b, F b → w'.heap[b]? = w.heap[b]?) (hz : w.heap.size ≤ w'.heap.size) : RD F w' g sb cb sc fa fn fc d :=
  ⟨h.ok, (k g h.Fg).trans h.box, h.sto.stay (k sb h.Fs) (fun b hb => k b hb.1) hz (fun _ e => e), h.cac.stay (k cb h.Fc) (fun b hb => k b hb.1) hz (fun _ e => e), h.flt.stay (fun x hx hl => k _ (h.fltF x hx hl).1) hz, h.fltF, fun b hb => Nat.lt_of_lt_of_le (h.lt b hb) hz, h.Fg, h.Fs, h.Fc, h.gs, h.gc, h.sc', h.cap⟩
theorem RD.ext (h : RD F w g sb cb sc fa fn fc d) (e : Below w.heap.size w w') : RD F w' g sb cb sc fa fn fc d := h.stay (fun b hb => e.block b (h.lt b hb)) e.size
theorem RD.apart {G G' : Nat → Prop} (h : RD F w g sb cb sc fa fn fc d) (k : Upd G w G' w') (hG : ∀ b, G b → ¬ F b) : RD F w' g sb cb sc fa fn fc d :=
  h.stay (fun b hb => k.block b (h.lt b hb) (fun e => hG b e hb)) k.size
theorem RD.drewN (h : RD F w g sb cb sc fa fn fc d) (n : Nat) : RD F (w.drewN n) g sb cb sc fa fn fc d := h.stay (fun _ _ => rfl) (Nat.le_refl _)
/-- The struct's block alone turns. -/
theorem RD.rebox (h : RD F w g sb cb sc fa fn fc d) (k : ∀ b, b ≠ g → w'.heap[b]? = w.heap[b]?) (hz : w'.heap.size = w.heap.size) (d' : Disk.Dk) (hst : d'.st = d.st) (hca : d'.ca = d.ca) (hfs : d'.fs = d.fs)
    (hb : w'.heap[g]? = some (.cells #[.slice (some ⟨sb, 0, none⟩) d.st.length sc, .slice (some ⟨cb, 0, none⟩) d.st.length d.st.length, .slice fa fn fc, .int .i64 d'.cnt, .bool d'.off] 82 (0, 0))) : RD F w' g sb cb sc fa fn fc d' := by
  obtain ⟨st, ca, fs, cnt, off⟩ := d
  obtain ⟨st', ca', fs', cnt', off'⟩ := d'
  simp only at hst hca hfs hb
  subst hst; subst hca; subst hfs
  exact ⟨⟨h.ok.len, h.ok.pos, h.ok.max, h.ok.st64, h.ok.ca64⟩, hb, h.sto.stay (k sb (Ne.symm h.gs)) (fun b hb => k b hb.2.1) (Nat.le_of_eq hz.symm) (fun _ e => e), h.cac.stay (k cb (Ne.symm h.gc)) (fun b hb => k b hb.2.1) (Nat.le_of_eq hz.symm) (fun _ e => e), h.flt.stay (fun x hx hl => k _ (h.fltF x hx hl).2.1) (Nat.le_of_eq hz.symm), h.fltF, fun b hb => by rw [hz]; exact h.lt b hb, h.Fg, h.Fs, h.Fc, h.gs, h.gc, h.sc', h.cap⟩
theorem RD.setCnt (h : RD F w g sb cb sc fa fn fc d) (z : Int) : RD F (w.setCell ⟨g, 3, none⟩ (.int .i64 z)) g sb cb sc fa fn fc { d with cnt := z } :=
  h.rebox (fun b hb => heap_setCell_other _ _ _ _ hb) (by simp) _ rfl rfl rfl (by rw [heap_setCell_same _ _ _ _ _ _ h.box]; rfl)
theorem RD.setOff (h : RD F w g sb cb sc fa fn fc d) (z : Bool) : RD F (w.setCell ⟨g, 4, none⟩ (.bool z)) g sb cb sc fa fn fc { d with off := z } :=
  h.rebox (fun b hb => heap_setCell_other _ _ _ _ hb) (by simp) _ rfl rfl rfl (by rw [heap_setCell_same _ _ _ _ _ _ h.box]; rfl)

theorem rd_sectors (h : RD F w g sb cb sc fa fn fc d) : Calls Tryz.prog 61 #[.pointer (some ⟨g, 0, none⟩)] w fun e w' => e = .returned (.int .i64 (d.st.length : Nat)) ∧ w = w' := by
  have h0 := h.cells.1
  go_enter Tryz.func61, Tryz.ntmps61
  go_wp2
  go_ret
  exact ⟨rfl, rfl⟩
theorem rd_off (h : RD F w g sb cb sc fa fn fc d) : Calls Tryz.prog 23 #[.pointer (some ⟨g, 0, none⟩)] w fun e w' => e = .returned (.bool d.off) ∧ w = w' := by
  have h0 := h.cells.2.2.2.2
  go_enter Tryz.func23, Tryz.ntmps23
  go_wp2
  go_ret
  exact ⟨rfl, rfl⟩

theorem ffrom_at {l : List (Int × Int)} {c : Int} {k : Nat} (hk : k < l.length) {p : Int × Int} (hp : l[k]?.getD (0, 0) = p) : ffrom (l.drop k) c = if p.1 == c then p.2 else ffrom (l.drop (k + 1)) c := by
  cases h : (p.1 == c)
  · rw [ffrom_miss l c k hk (by rw [hp]; exact h)]; simp
  · rw [ffrom_hit l c k hk (by rw [hp]; exact h), hp]; simp

set_option maxRecDepth 100000 in
set_option maxHeartbeats 1000000 in
theorem rd_fault (h : RD F w g sb cb sc fa fn fc d) : Calls Tryz.prog 76 #[.pointer (some ⟨g, 0, none⟩)] w fun e w' => e = .returned (.int .i64 (Disk.fault d)) ∧ RD F w' g sb cb sc fa fn fc (Disk.tick d) ∧ Upd F w F w' := by
  obtain ⟨-, -, hc2, hc3, -⟩ := h.cells
  have hle := h.flt.le
  have HLN := Lib.hid h.flt.len
  have h0 : ffrom (d.fs.drop 0) d.cnt = Disk.fault d := rfl
  have H0 := Lib.hid h0
  generalize Disk.fault d = R at *
  clear h0
  go_enter Tryz.func76, Tryz.ntmps76
  go_wp2
  clear hc2 hc3
  go_loopw [3, 4] (fun kd i wr => ∃ k : Nat, k ≤ fn ∧ i = .int .i64 ((k : Int) - 1) ∧ kd = .int .i64 (ffrom (d.fs.drop k) d.cnt) ∧ RD F wr g sb cb sc fa fn fc d ∧ Upd F w F wr) (fun _ i _ => (intOf i + 1).toNat)
  case atStart => exact ⟨fn, Nat.le_refl _, by go_num, by rw [List.drop_of_length_le (by rw [HLN.out]; exact Nat.le_refl _)]; rfl, h, Upd.refl _ _⟩
  case round =>
    obtain ⟨k, hk, rfl, rfl, hP, hU⟩ := hrel
    obtain ⟨-, -, hc2, hc3, -⟩ := hP.cells
    have hf3 := hP.free 3
    by_cases hlt : 0 < k
    · obtain ⟨j, rfl⟩ : ∃ j, k = j + 1 := ⟨k - 1, by omega⟩
      have ej : ((j + 1 : Nat) : Int) - 1 = (j : Int) := by omega
      rw [ej]
      obtain ⟨b, o, rfl, hb, q1, q2⟩ := hP.flt.at (show j < fn by omega)
      obtain ⟨p, hp⟩ : ∃ p, d.fs[j]?.getD (0, 0) = p := ⟨_, rfl⟩
      have hff := ffrom_at (c := d.cnt) (show j < d.fs.length by rw [HLN.out]; omega) hp
      have HFF := Lib.hid hff
      clear hff
      change _ = some (Value.int IntKind.i64 (d.fs[j]?.getD (0, 0)).1) at q1
      change _ = some (Value.int IntKind.i64 (d.fs[j]?.getD (0, 0)).2) at q2
      rw [hp] at q1 q2
      clear hp ej
      obtain ⟨y1, y2⟩ := p
      simp only at q1 q2 HFF
      have b0 : (0 : Int) ≤ (j : Int) := by omega
      have b1 : (j : Int) < (fn : Int) := by omega
      by_cases hy : y1 = d.cnt
      · have t1 : (y1 == d.cnt) = true := by simp [hy]
        rw [t1] at HFF
        clear hy
        go_wp2
        go_quiet (fail)
        go_wp2
        exact ⟨⟨j, by omega, by go_num, by rw [HFF.out]; rfl, hP.drewN _, hU.drewN _⟩, by simp [intOf]⟩
      · have t1 : (y1 == d.cnt) = false := by simp [hy]
        rw [t1] at HFF
        clear hy
        go_wp2
        go_quiet (fail)
        go_wp2
        exact ⟨⟨j, by omega, by go_num, by rw [HFF.out]; rfl, hP.drewN _, hU.drewN _⟩, by simp [intOf]⟩
    · obtain rfl : k = 0 := by omega
      have HP := Lib.hid (hP.setCnt (wrap64 (d.cnt + 1)))
      have HU := Lib.hid (hU.setCell (.inl hP.Fg) 3 (.int .i64 (wrap64 (d.cnt + 1))))
      rw [H0.out]
      go_wp2
      go_ret
      exact ⟨rfl, HP.out, HU.out⟩
end

end Go.Proofs.YtabeelcidlhniaaGreat

/-
  The reference's disk: content, Read.
-/
namespace Go.Proofs.YtabeelcidlhniaaGreat
open Go.RowKit

section
variable {F : Nat → Prop} {w w' : World} {g sb cb sc : Nat} {fa : Option Addr} {fn fc : Nat} {d d' : Disk.Dk}

theorem rd_content (h : RD F w g sb cb sc fa fn fc d) (i : Nat) (hi : i < d.st.length) (z : Int) (hz : z = (i : Int)) :
    Calls Tryz.prog 88 #[.pointer (some ⟨g, 0, none⟩), .int .i64 z] w fun e w' => ∃ b c, e = .returned (.slice (some ⟨b, 0, none⟩) 64 c) ∧ Rw F g sb cb b ∧ SlB w (some ⟨b, 0, none⟩) 64 c (Disk.content d i) ∧ w = w' := by
  subst hz
  obtain ⟨q0, q1, -⟩ := h.cells
  have hmx := h.ok.max
  have hst : (d.st.map some)[i]? = some (some d.st[i]) := by simp [hi]
  have hci : i < d.ca.length := by rw [h.ok.len]; exact hi
  obtain ⟨v0, c0, s0⟩ := h.sto.cell hst
  obtain ⟨b0, k0, rfl, r0, l0⟩ := s0
  obtain ⟨v1, c1, s1⟩ := h.cac.cell (List.getElem?_eq_getElem hci)
  have hcon : Disk.content d i = (d.ca[i]).getD d.st[i] := by unfold Disk.content; simp [hi, hci]
  rw [hcon]
  obtain ⟨n, hn⟩ : ∃ n, n = d.st.length := ⟨_, rfl⟩
  rw [← hn] at q0 q1 hi hmx
  have b0' : (0 : Int) ≤ (i : Int) := by omega
  have b1' : (i : Int) < (n : Int) := by omega
  clear hst hcon
  generalize d.ca[i] = x at *
  generalize d.st[i] = y at *
  clear hci hn
  cases x with
  | none =>
    have s1 : v1 = .slice none 0 0 := s1
    subst s1
    go_enter Tryz.func88, Tryz.ntmps88
    go_wp2
    go_ret
    exact ⟨b0, k0, rfl, r0, l0, rfl⟩
  | some x =>
    obtain ⟨b1, k1, rfl, r1, l1⟩ := s1
    go_enter Tryz.func88, Tryz.ntmps88
    go_wp2
    go_ret
    exact ⟨b1, k1, rfl, r1, l1, rfl⟩

def RReadPost (F : Nat → Prop) (w : World) (g sb cb sc : Nat) (fa : Option Addr) (fn fc : Nat) (r : List UInt8 × Int × Disk.Dk) (e : Ending) (w' : World) : Prop :=
  ∃ v, e = .returned (.tuple #[v, .int .i64 r.2.1]) ∧ OwnB w.heap.size w' v r.1 ∧ RD F w' g sb cb sc fa fn fc r.2.2 ∧ Upd F w F w'

theorem read_is (d : Disk.Dk) (i : Int) : Disk.read d i = if d.off then ([], 10, d) else if Disk.fits d i then (if Disk.fault d = 1 then ([], 9, Disk.tick d) else if Disk.fault d = 2 then ([], 10, Disk.cut (Disk.tick d)) else (Disk.content d i.toNat, 0, Disk.tick d)) else ([], 2, d) := by
  unfold Disk.read Disk.begin
  cases d.off
  · cases Disk.fits d i
    · rfl
    · by_cases h1 : Disk.fault d = 1
      · simp [h1]
      · by_cases h2 : Disk.fault d = 2
        · simp [h2]
        · simp only [Bool.false_eq_true, if_false, if_true, if_neg h1, if_neg h2]
  · rfl

set_option maxRecDepth 100000 in
set_option maxHeartbeats 2000000 in
theorem rd_read (h : RD F w g sb cb sc fa fn fc d) (i : Int) :
    Calls Tryz.prog 73 #[.pointer (some ⟨g, 0, none⟩), .int .i64 i] w (RReadPost F w g sb cb sc fa fn fc (Disk.read d i)) := by
  rw [read_is]
  obtain ⟨q0, -, -, -, q4⟩ := h.cells
  by_cases hoff : d.off = true
  · rw [if_pos hoff]
    rw [hoff] at q4
    go_enter Tryz.func73, Tryz.ntmps73
    go_wp2
    go_ret2
    exact ⟨_, rfl, OwnB.nil _ _, h, Upd.refl _ _⟩
  have hoff' : d.off = false := by simpa using hoff
  rw [if_neg hoff]
  rw [hoff'] at q4
  have hmx := h.ok.max
  by_cases hfit : Disk.fits d i = true
  · rw [if_pos hfit]
    unfold Disk.fits at hfit
    simp only [Bool.and_eq_true, decide_eq_true_eq] at hfit
    obtain ⟨f1, f2⟩ := hfit
    obtain ⟨j, rfl⟩ : ∃ j : Nat, i = (j : Int) := ⟨i.toNat, by omega⟩
    have HF := Lib.hid (rd_fault h)
    obtain ⟨R, hR⟩ : ∃ R, Disk.fault d = R := ⟨_, rfl⟩
    rw [hR] at HF ⊢
    clear hR
    obtain ⟨n, hn⟩ : ∃ n, n = d.st.length := ⟨_, rfl⟩
    rw [← hn] at q0 f2 hmx
    have hjl : j < (Disk.tick d).st.length := by
      show j < d.st.length
      omega
    have hjn : (j : Int) < (n : Int) := by omega
    clear hn
    by_cases h1 : R = 1
    · subst h1
      rw [if_pos rfl]
      go_enter Tryz.func73, Tryz.ntmps73
      go_wp2_with (go_at_call 76; go_must (refine HF.out.mono ?_); rintro e w1 ⟨rfl, hP, hU⟩)
      go_ret2
      exact ⟨_, rfl, OwnB.nil _ _, hP, hU⟩
    · rw [if_neg h1]
      by_cases h2 : R = 2
      · subst h2
        rw [if_pos rfl]
        clear h1
        go_enter Tryz.func73, Tryz.ntmps73
        go_wp2_with (go_at_call 76; go_must (refine HF.out.mono ?_); rintro e w1 ⟨rfl, hP, hU⟩; have y4 := hP.cells.2.2.2.2; have f4 := hP.free 4)
        go_ret2
        exact ⟨_, rfl, OwnB.nil _ _, hP.setOff true, hU.setCell (.inl hP.Fg) _ _⟩
      · rw [if_neg h2]
        have t1 : (R == 1) = false := by simp [h1]
        have t2 : (R == 2) = false := by simp [h2]
        have hcon : Disk.content d (Int.toNat j) = Disk.content (Disk.tick d) j := rfl
        rw [hcon]
        have hcl := Disk.content64 h.ok.tick j hjl
        obtain ⟨x, hx⟩ : ∃ x, Disk.content (Disk.tick d) j = x := ⟨_, rfl⟩
        have HX := Lib.hid hx
        rw [hx] at hcl ⊢
        have HCL := Lib.hid hcl
        clear h1 h2 hcon hx hcl
        go_enter Tryz.func73, Tryz.ntmps73
        go_wp2_with (first
          | (go_at_call 76; go_must (refine HF.out.mono ?_); rintro e w1 ⟨rfl, hP, hU⟩)
          | (go_at_call 88; go_must (refine (rd_content (hP.ext ((Below.refl _ _).alloc (Nat.le_refl _) _)) j hjl _ rfl).mono ?_); rintro e w2 ⟨b2, c2, rfl, hr2, hs2, rfl⟩; rw [HX.out] at hs2)
          | (at_builtin; refine wpList_append_bytes rfl _ _ rfl w1.heap.size _ [] rfl (OwnB.empty w1 (Nat.le_refl _)) _ 64 c2 x rfl hs2 (by simp) (by simp) ?_; intro v w3 hown hg _))
        go_ret2
        have hB : Below w1.heap.size w1 w3 := ((Below.refl _ _).alloc (Nat.le_refl _) _).grown hg (by simp) (fun k hk => by cases hk; exact Nat.le_refl _)
        exact ⟨_, rfl, (by simpa using hown : OwnB w1.heap.size w3 v x).mono hU.size, hP.ext hB, hU.ext hB⟩
  · rw [if_neg hfit]
    obtain ⟨n, hn⟩ : ∃ n, n = d.st.length := ⟨_, rfl⟩
    rw [← hn] at q0
    unfold Disk.fits at hfit
    rw [← hn] at hfit
    simp only [Bool.and_eq_true, decide_eq_true_eq] at hfit
    clear hn
    by_cases hneg : i < 0
    · clear hfit
      go_enter Tryz.func73, Tryz.ntmps73
      go_wp2
      go_ret2
      exact ⟨_, rfl, OwnB.nil _ _, h, Upd.refl _ _⟩
    · have hge : (n : Int) ≤ i := by omega
      clear hfit
      go_enter Tryz.func73, Tryz.ntmps73
      go_wp2
      go_ret2
      exact ⟨_, rfl, OwnB.nil _ _, h, Upd.refl _ _⟩
end

end Go.Proofs.YtabeelcidlhniaaGreat
