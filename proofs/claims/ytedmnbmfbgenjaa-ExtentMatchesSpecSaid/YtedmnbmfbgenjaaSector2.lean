/-
  The walks through Read, Write of the package sector.
-/
import Derived.Test.YtedmnbmfbgenjaaSector
import Derived.Test.YtedmnbmfbgenjaaClone
import Derived.Deep.RegionLaw
namespace Go.Proofs.Ytedmnbmfbgenjaa
open Go.RowKit

def ReadPost (F : Nat → Prop) (w : World) (g s m : Nat) (fa : Option Addr) (fn fc : Nat) (r : List UInt8 × Int × Disk.Dk) (e : Ending) (w' : World) : Prop :=
  ∃ v, e = .returned (.tuple #[v, .int .i64 r.2.1]) ∧ OwnB w.heap.size w' v r.1 ∧ PD F w' g s m fa fn fc r.2.2 ∧ Upd F w F w'

theorem sd_read_nil (i : Int) (w : World) : Calls Try.prog 17 #[.pointer none, .int .i64 i] w fun e w' => e = .returned (.tuple #[.slice none 0 0, .int .i64 10]) ∧ w = w' := by
  by_cases h0 : 0 ≤ i
  · by_cases h1 : 0 < i
    all_goals
      go_enter Try.func17, Try.ntmps17
      go_wp2_with (first | (go_at_call 46; refine (sd_sectors_nil _).mono ?_; rintro e w' ⟨rfl, rfl⟩) | (go_at_call 63; refine (sd_begin_nil _ _).mono ?_; rintro e w' ⟨rfl, rfl⟩))
      go_ret2
      exact ⟨rfl, rfl⟩
  · go_enter Try.func17, Try.ntmps17
    go_wp2_with (first | (go_at_call 63; refine (sd_begin_nil _ _).mono ?_; rintro e w' ⟨rfl, rfl⟩))
    go_ret2
    exact ⟨rfl, rfl⟩

/-- begin says an error. -/
theorem read_err {d d' : Disk.Dk} {i e : Int} (hb : Disk.begin d (Disk.fits d i) = (false, e, d')) (he : e ≠ 0) : Disk.read d i = ([], e, d') := by
  unfold Disk.read; rw [hb]; exact if_neg he
theorem read_off {d d' : Disk.Dk} {i e : Int} (hb : Disk.begin d (Disk.fits d i) = (true, e, d')) : Disk.read d i = ([], 10, Disk.cut d') := by
  unfold Disk.read; rw [hb]
theorem read_ok {d d' : Disk.Dk} {i : Int} (hb : Disk.begin d (Disk.fits d i) = (false, 0, d')) : Disk.read d i = (Disk.content d i.toNat, 0, d') := by
  unfold Disk.read; rw [hb]; exact if_pos rfl
theorem begin_false (d : Disk.Dk) : ∃ e, e ≠ 0 ∧ Disk.begin d false = (false, e, d) := by
  unfold Disk.begin; split
  · exact ⟨10, by decide, rfl⟩
  · exact ⟨2, by decide, by simp⟩
theorem begin_true (d : Disk.Dk) : (∃ e d', e ≠ 0 ∧ Disk.begin d true = (false, e, d')) ∨ (∃ d', Disk.begin d true = (true, 0, d') ∧ d'.st = d.st ∧ d'.ca = d.ca) ∨ (∃ d', Disk.begin d true = (false, 0, d') ∧ d'.st = d.st ∧ d'.ca = d.ca) := by
  unfold Disk.begin; split
  · exact .inl ⟨10, d, by decide, rfl⟩
  · rw [if_pos rfl]
    split
    · exact .inl ⟨9, Disk.tick d, by decide, rfl⟩
    · split
      · exact .inr (.inl ⟨_, rfl, rfl, rfl⟩)
      · exact .inr (.inr ⟨_, rfl, rfl, rfl⟩)

set_option maxRecDepth 100000 in
set_option maxHeartbeats 2000000 in
theorem sd_read {F : Nat → Prop} {w : World} {g s m : Nat} {fa : Option Addr} {fn fc : Nat} {d : Disk.Dk} (h : PD F w g s m fa fn fc d) (i : Int) :
    Calls Try.prog 17 #[.pointer (some ⟨g, 0, none⟩), .int .i64 i] w (ReadPost F w g s m fa fn fc (Disk.read d i)) := by
  have HB := Lib.hid (sd_begin h)
  have HS := Lib.hid (sd_sectors h)
  by_cases hf : 0 ≤ i ∧ i < (d.st.length : Int)
  · obtain ⟨h0, h1⟩ := hf
    have hfit : Disk.fits d i = true := by simp [Disk.fits, h0, h1]
    obtain ⟨k, rfl⟩ := Int.eq_ofNat_of_zero_le h0
    have hkn : k < d.st.length := by omega
    have hmx := h.ok.max
    rcases begin_true d with ⟨e, d', he, hb⟩ | ⟨d', hb, hst, hca⟩ | ⟨d', hb, hst, hca⟩
    · have HR := Lib.hid (read_err (by rw [hfit]; exact hb) he)
      have HC := HB.out true
      rw [hb] at HC
      have HC := Lib.hid HC
      have t1 : (e != 0) = true := by simpa using he
      clear hb he hfit HB
      generalize Disk.read d (k : Int) = r at *
      generalize d.st.length = n at *
      go_enter Try.func17, Try.ntmps17
      go_wp2_with (first | (go_at_call 46; refine HS.out.mono ?_; rintro e1 w1 ⟨rfl, rfl⟩) | (go_at_call 63; refine HC.out.mono ?_; rintro e1 w1 ⟨rfl, hP, hU⟩))
      go_ret2
      rw [HR.out]; exact ⟨_, rfl, OwnB.nil _ _, hP, hU⟩
    · have HR := Lib.hid (read_off (by rw [hfit]; exact hb))
      have HC := HB.out true
      rw [hb] at HC
      have HC := Lib.hid HC
      clear hb hfit HB hst hca
      generalize Disk.read d (k : Int) = r at *
      generalize d.st.length = n at *
      go_enter Try.func17, Try.ntmps17
      go_wp2_with (first | (go_at_call 46; refine HS.out.mono ?_; rintro e1 w1 ⟨rfl, rfl⟩) | (go_at_call 63; refine HC.out.mono ?_; rintro e1 w1 ⟨rfl, hP, hU⟩; have q4 := hP.cells.2.2.2.2; have f4 := hP.free 4; have HO := Lib.hid (hP.setOff true)))
      go_ret2
      rw [HR.out]; exact ⟨_, rfl, OwnB.nil _ _, HO.out, hU.setCell (.inl h.Fg) _ _⟩
    · have HR := Lib.hid (read_ok (by rw [hfit]; exact hb))
      have HC := HB.out true
      rw [hb] at HC
      have HC := Lib.hid HC
      clear hb hfit HB
      have HST := Lib.hid hst; have HCA := Lib.hid hca
      generalize Disk.read d (k : Int) = r at *
      generalize hn : d.st.length = n at *
      have HNN := Lib.hid hn
      clear hn hst hca
      go_enter Try.func17, Try.ntmps17
      go_wp2_with fail
      refine HS.out.mono ?_; rintro e1 w1 ⟨rfl, rfl⟩
      go_wp2_with fail
      refine HC.out.mono ?_; rintro e1 w1 ⟨rfl, hP, hU⟩
      change PD F w1 g s m fa fn fc d' at hP
      obtain ⟨q0, q1, q2, q3, q4⟩ := hP.cells
      have HQ := Lib.hid q0
      clear q0 q2 q3 q4
      rcases hP.map.look (k : Int) with ⟨k', x, a, c, hz, hci, hs, hR, hx, hrunA⟩ | ⟨hno, hrunA⟩
      · have hrun := hrunA w1 rfl
        clear hrunA
        obtain rfl : k = k' := by omega
        have hct : Disk.content d k = x := by
          unfold Disk.content; rw [← HCA.out, hci]; rfl
        have h64 := Lib.hid (hP.ok.ca64 x (List.mem_of_getElem? hci))
        have HCT := Lib.hid hct
        have HCL := Lib.hid (sl_clone (some a) x.length c x w1 hs (by rw [h64.out]; omega))
        clear hct hci hz
        generalize x.length = xl at *
        go_wp2_with (first | (go_at_call 64; refine HCL.out.mono ?_; rintro e2 w2 ⟨v, rfl, hO, hB⟩))
        go_ret2
        rw [HR.out]
        exact ⟨v, rfl, by rw [show (k : Int).toNat = k from rfl, HCT.out]; exact hO.mono hU.size, hP.ext hB, hU.ext hB⟩
      · have hrun := hrunA w1 rfl
        clear hrunA
        have hct : Disk.content d k = d.st[k]?.getD [] := by
          unfold Disk.content; rw [← HCA.out, hno k rfl]; rfl
        have HCT := Lib.hid hct
        have hk2 : k < d'.st.length := by rw [HST.out, HNN.out]; exact hkn
        have hsl : SlB w1 (some ⟨s, 64 * k, none⟩) 64 (64 * d'.st.length - 64 * k) (d.st[k]?.getD []) := by
          have := hP.row.slb (64 * k) 64 (64 * d'.st.length - 64 * k) (by rw [Disk.flat_length _ hP.ok.st64]; omega) (by omega) (by have := hP.ok.max; unfold maxLen; omega)
          rw [Disk.flat_slot _ hP.ok.st64 k hk2, HST.out] at this; rw [HST.out]; exact this
        have HSL := Lib.hid (sd_slot hP k hk2 k rfl)
        have HCL := Lib.hid (sl_clone _ _ _ _ w1 hsl (by omega))
        clear hct hno hsl
        go_wp2_with (first | (go_at_call 65; refine HSL.out.mono ?_; rintro e2 w2 ⟨rfl, rfl⟩) | (go_at_call 64; refine HCL.out.mono ?_; rintro e2 w2 ⟨v, rfl, hO, hB⟩))
        go_ret2
        rw [HR.out]
        exact ⟨v, rfl, by rw [show (k : Int).toNat = k from rfl, HCT.out]; exact hO.mono hU.size, hP.ext hB, hU.ext hB⟩
  · have hfit : Disk.fits d i = false := by simp only [Disk.fits]; rw [← Bool.decide_and]; exact decide_eq_false hf
    obtain ⟨e, he, hb⟩ := begin_false d
    have HR := Lib.hid (read_err (by rw [hfit]; exact hb) he)
    have HC := HB.out false
    rw [hb] at HC
    have HC := Lib.hid HC
    have t1 : (e != 0) = true := by simpa using he
    clear hb he hfit HB
    have hmx := h.ok.max
    generalize Disk.read d i = r at *
    generalize d.st.length = n at *
    by_cases h0 : 0 ≤ i
    · have h1 : ¬ i < (n : Int) := by omega
      have t2 : decide (i < (n : Int)) = false := by simpa using h1
      clear hf
      go_enter Try.func17, Try.ntmps17
      go_wp2_with (first | (go_at_call 46; refine HS.out.mono ?_; rintro e1 w1 ⟨rfl, rfl⟩) | (go_at_call 63; refine HC.out.mono ?_; rintro e1 w1 ⟨rfl, hP, hU⟩))
      go_ret2
      rw [HR.out]; exact ⟨_, rfl, OwnB.nil _ _, hP, hU⟩
    · clear hf
      go_enter Try.func17, Try.ntmps17
      go_wp2_with (first | (go_at_call 63; refine HC.out.mono ?_; rintro e1 w1 ⟨rfl, hP, hU⟩))
      go_ret2
      rw [HR.out]; exact ⟨_, rfl, OwnB.nil _ _, hP, hU⟩

theorem write_err {d d' : Disk.Dk} {i e : Int} {x : List UInt8} (hb : Disk.begin d (Disk.fits d i && decide (x.length = 64)) = (false, e, d')) (he : e ≠ 0) : Disk.write d i x = (e, d') := by
  unfold Disk.write; rw [hb]; exact if_neg he
theorem write_off {d d' : Disk.Dk} {i e : Int} {x : List UInt8} (hb : Disk.begin d (Disk.fits d i && decide (x.length = 64)) = (true, e, d')) : Disk.write d i x = (10, Disk.cut (Disk.put d' i.toNat x)) := by
  unfold Disk.write; rw [hb]
theorem write_ok {d d' : Disk.Dk} {i : Int} {x : List UInt8} (hb : Disk.begin d (Disk.fits d i && decide (x.length = 64)) = (false, 0, d')) : Disk.write d i x = (0, Disk.put d' i.toNat x) := by
  unfold Disk.write; rw [hb]; exact if_pos rfl

def WritePost (F : Nat → Prop) (w : World) (g s m : Nat) (fa : Option Addr) (fn fc : Nat) (r : Int × Disk.Dk) (e : Ending) (w' : World) : Prop :=
  e = .returned (.int .i64 r.1) ∧ ∃ F', PD F' w' g s m fa fn fc r.2 ∧ Upd F w F' w'

/-- A new content goes into the cache. -/
theorem PD.put {F : Nat → Prop} {w w2 : World} {g s m : Nat} {fa : Option Addr} {fn fc : Nat} {d : Disk.Dk} (h : PD F w g s m fa fn fc d) (hB : Below w.heap.size w w2) (i : Nat) (hi : i < d.ca.length) (x : List UInt8) (hx : x.length = 64) {v : Value} (hO : OwnB w.heap.size w2 v x) :
    ∃ (a : Addr) (c : Nat) (o : Obj), v = .slice (some a) 64 c ∧ (Instr.mapUpdate 90 (.map (some m)) (.int .i64 (i : Int)) (.slice (some a) 64 c)).run Try.prog w2 = .ok () (ChangeMaps.setBlock w2 m o) ∧
      PD (fun k => F k ∨ k = a.block) (ChangeMaps.setBlock w2 m o) g s m fa fn fc (Disk.put d i x) ∧ Upd F w (fun k => F k ∨ k = a.block) (ChangeMaps.setBlock w2 m o) := by
  have h2 := h.ext hB
  obtain ⟨ao, c, rfl, hs, hblk⟩ := hO.sl
  have hne : x ≠ [] := by rintro rfl; simp at hx
  cases ao with
  | none => have := (hs.2.2.2.1 rfl).1; exact absurd this hne
  | some a =>
    obtain ⟨-, hbase, -⟩ := hblk a rfl
    have hlt := hs.blt hne
    have hnew : ∀ k, F k → k < w.heap.size := h.lt
    have hR : ∀ k, Rw F g s m k → Rw (fun k => F k ∨ k = a.block) g s m k := fun k hk => ⟨.inl hk.1, hk.2⟩
    have ha : Rw (fun k => F k ∨ k = a.block) g s m a.block := ⟨.inr rfl, by have := hnew g h.Fg; omega, by have := hnew s h.Fs; omega, by have := hnew m h.Fm; omega⟩
    obtain ⟨o, hrun, hM⟩ := (h2.map.mono hR).update i hi x a c hs ha hne (fun e => e.2.2.2 rfl)
    rw [hx] at hrun ⊢
    refine ⟨a, c, o, rfl, hrun, ⟨h2.ok.put i x hx, (setBlock_other _ _ h2.gm).trans h2.box, h2.row.keep (setBlock_other _ _ h2.sm), hM, h2.flt.stay (fun y hy hl => setBlock_other _ _ (h2.fltF y hy hl).2.2.2) (by rw [setBlock_size]; exact Nat.le_refl _), fun y hy hl => hR _ (h2.fltF y hy hl), fun k hk => ?_, .inl h.Fg, .inl h.Fs, .inl h.Fm⟩, ?_⟩
    · rw [setBlock_size]
      rcases hk with hk | rfl
      · exact h2.lt k hk
      · exact hlt
    · refine (((Upd.refl F w).ext hB).setBlock (.inl h.Fm) o).grow (fun k hk => ?_)
      rcases hk with hk | rfl
      · exact .inl hk
      · exact .inr hbase

set_option maxRecDepth 100000 in
set_option maxHeartbeats 2000000 in
theorem sd_write {F : Nat → Prop} {w : World} {g s m : Nat} {fa : Option Addr} {fn fc : Nat} {d : Disk.Dk} (h : PD F w g s m fa fn fc d) (i : Int) (a : Option Addr) (n c : Nat) (x : List UInt8) (hx : SlB w a n c x) (hF : ∀ y, a = some y → x ≠ [] → ¬ F y.block) :
    Calls Try.prog 15 #[.pointer (some ⟨g, 0, none⟩), .int .i64 i, .slice a n c] w (WritePost F w g s m fa fn fc (Disk.write d i x)) := by
  have HB := Lib.hid (sd_begin h)
  have HS := Lib.hid (sd_sectors h)
  have HLN := Lib.hid hx.len
  have hle := hx.le
  by_cases hf : 0 ≤ i ∧ i < (d.st.length : Int)
  · obtain ⟨h0, h1⟩ := hf
    have hfit : Disk.fits d i = true := by simp [Disk.fits, h0, h1]
    obtain ⟨k, rfl⟩ := Int.eq_ofNat_of_zero_le h0
    have hkn : k < d.st.length := by omega
    have hmx := h.ok.max
    by_cases hn : n = 64
    · subst hn
      have hfx : (Disk.fits d (k : Int) && decide (x.length = 64)) = true := by rw [hfit, HLN.out]; rfl
      rcases begin_true d with ⟨e, d', he, hb⟩ | ⟨d', hb, hst, hca⟩ | ⟨d', hb, hst, hca⟩
      · have HR := Lib.hid (write_err (by rw [hfx]; exact hb) he)
        have HC := HB.out true
        rw [hb] at HC
        have HC := Lib.hid HC
        have t1 : (e != 0) = true := by simpa using he
        clear hb he hfit HB hfx
        generalize Disk.write d (k : Int) x = r at *
        generalize d.st.length = nn at *
        go_enter Try.func15, Try.ntmps15
        go_wp2_with (first | (go_at_call 46; refine HS.out.mono ?_; rintro e1 w1 ⟨rfl, rfl⟩) | (go_at_call 63; refine HC.out.mono ?_; rintro e1 w1 ⟨rfl, hP, hU⟩))
        go_ret
        rw [HR.out]; exact ⟨rfl, F, hP, hU⟩
      · have HR := Lib.hid (write_off (by rw [hfx]; exact hb))
        have HC := HB.out true
        rw [hb] at HC
        have HC := Lib.hid HC
        have hkc : k < d'.ca.length := by rw [hca, h.ok.len]; exact hkn
        clear hb hfit HB hfx hst hca
        generalize Disk.write d (k : Int) x = r at *
        generalize d.st.length = nn at *
        go_enter Try.func15, Try.ntmps15
        go_wp2_with (first | (go_at_call 46; refine HS.out.mono ?_; rintro e1 w1 ⟨rfl, rfl⟩) | (go_at_call 63; refine HC.out.mono ?_; rintro e1 w1 ⟨rfl, hP, hU⟩))
        change PD F w1 g s m fa fn fc d' at hP
        have hx1 := hx.upd hU hF
        have q1 := hP.cells.2.1
        have q1' : w1.drew.cell? ⟨g, 1, none⟩ = some (.map (some m)) := q1
        have HCL := Lib.hid (sl_clone a 64 c x w1.drew hx1 (by omega))
        go_region_law (go_simp; go_at_call 64; refine HCL.out.mono ?_; rintro e2 w2 ⟨v, rfl, hO, hBB⟩; obtain ⟨a2, c2, o2, rfl, hrun, hP2, hU2⟩ := hP.drew.put hBB k hkc x HLN.out hO; have q12 : w2.cell? ⟨g, 1, none⟩ = some (.map (some m)) := (hP.drew.ext hBB).cells.2.1)
        all_goals
          have q4 := hP2.cells.2.2.2.2
          have f4 := hP2.free 4
          have HO := Lib.hid (hP2.setOff true)
          go_wp2
          go_ret
          rw [HR.out]
          exact ⟨rfl, _, HO.out, (hU.drew.trans hU2).setCell (.inl h.Fg) _ _⟩
      · have HR := Lib.hid (write_ok (by rw [hfx]; exact hb))
        have HC := HB.out true
        rw [hb] at HC
        have HC := Lib.hid HC
        have hkc : k < d'.ca.length := by rw [hca, h.ok.len]; exact hkn
        clear hb hfit HB hfx hst hca
        generalize Disk.write d (k : Int) x = r at *
        generalize d.st.length = nn at *
        go_enter Try.func15, Try.ntmps15
        go_wp2_with (first | (go_at_call 46; refine HS.out.mono ?_; rintro e1 w1 ⟨rfl, rfl⟩) | (go_at_call 63; refine HC.out.mono ?_; rintro e1 w1 ⟨rfl, hP, hU⟩))
        change PD F w1 g s m fa fn fc d' at hP
        have hx1 := hx.upd hU hF
        have q1 := hP.cells.2.1
        have q1' : w1.drew.cell? ⟨g, 1, none⟩ = some (.map (some m)) := q1
        have HCL := Lib.hid (sl_clone a 64 c x w1.drew hx1 (by omega))
        go_region_law (go_simp; go_at_call 64; refine HCL.out.mono ?_; rintro e2 w2 ⟨v, rfl, hO, hBB⟩; obtain ⟨a2, c2, o2, rfl, hrun, hP2, hU2⟩ := hP.drew.put hBB k hkc x HLN.out hO; have q12 : w2.cell? ⟨g, 1, none⟩ = some (.map (some m)) := (hP.drew.ext hBB).cells.2.1)
        all_goals
          go_wp2
          go_ret
          rw [HR.out]
          exact ⟨rfl, _, hP2, hU.drew.trans hU2⟩
    · have hfx : (Disk.fits d (k : Int) && decide (x.length = 64)) = false := by rw [HLN.out, decide_eq_false hn, Bool.and_false]
      obtain ⟨e, he, hb⟩ := begin_false d
      have HR := Lib.hid (write_err (by rw [hfx]; exact hb) he)
      have HC := HB.out false
      rw [hb] at HC
      have HC := Lib.hid HC
      have t1 : (e != 0) = true := by simpa using he
      have t2 : ((n : Int) == 64) = false := by simp; omega
      clear hb he hfit HB hfx hn
      generalize Disk.write d (k : Int) x = r at *
      generalize d.st.length = nn at *
      go_enter Try.func15, Try.ntmps15
      go_wp2_with (first | (go_at_call 46; refine HS.out.mono ?_; rintro e1 w1 ⟨rfl, rfl⟩) | (go_at_call 63; refine HC.out.mono ?_; rintro e1 w1 ⟨rfl, hP, hU⟩))
      go_ret
      rw [HR.out]; exact ⟨rfl, F, hP, hU⟩
  · have hfx : (Disk.fits d i && decide (x.length = 64)) = false := by
      have : Disk.fits d i = false := by simp only [Disk.fits]; rw [← Bool.decide_and]; exact decide_eq_false hf
      rw [this]; rfl
    obtain ⟨e, he, hb⟩ := begin_false d
    have HR := Lib.hid (write_err (by rw [hfx]; exact hb) he)
    have HC := HB.out false
    rw [hb] at HC
    have HC := Lib.hid HC
    have t1 : (e != 0) = true := by simpa using he
    clear hb he hfx HB
    have hmx := h.ok.max
    generalize Disk.write d i x = r at *
    generalize d.st.length = nn at *
    by_cases h0 : 0 ≤ i
    · have h1 : ¬ i < (nn : Int) := by omega
      have t2 : decide (i < (nn : Int)) = false := by simpa using h1
      clear hf
      go_enter Try.func15, Try.ntmps15
      go_wp2_with (first | (go_at_call 46; refine HS.out.mono ?_; rintro e1 w1 ⟨rfl, rfl⟩) | (go_at_call 63; refine HC.out.mono ?_; rintro e1 w1 ⟨rfl, hP, hU⟩))
      go_ret
      rw [HR.out]; exact ⟨rfl, F, hP, hU⟩
    · clear hf
      go_enter Try.func15, Try.ntmps15
      go_wp2_with (first | (go_at_call 63; refine HC.out.mono ?_; rintro e1 w1 ⟨rfl, hP, hU⟩))
      go_ret
      rw [HR.out]; exact ⟨rfl, F, hP, hU⟩

theorem sd_write_nil (i : Int) (a : Option Addr) (n c : Nat) (w : World) : Calls Try.prog 15 #[.pointer none, .int .i64 i, .slice a n c] w fun e w' => e = .returned (.int .i64 10) ∧ w = w' := by
  by_cases h0 : 0 ≤ i
  · by_cases h1 : 0 < i
    all_goals
      go_enter Try.func15, Try.ntmps15
      go_wp2_with (first | (go_at_call 46; refine (sd_sectors_nil _).mono ?_; rintro e w' ⟨rfl, rfl⟩) | (go_at_call 63; refine (sd_begin_nil _ _).mono ?_; rintro e w' ⟨rfl, rfl⟩))
      go_ret
      exact ⟨rfl, rfl⟩
  · go_enter Try.func15, Try.ntmps15
    go_wp2_with (first | (go_at_call 63; refine (sd_begin_nil _ _).mono ?_; rintro e w' ⟨rfl, rfl⟩))
    go_ret
    exact ⟨rfl, rfl⟩

end Go.Proofs.Ytedmnbmfbgenjaa
