/-
  The walks through the reference's Valid, Encode and Decode.
-/
import Derived.Test.YtcmeajaakdaeeaaDoorRun35
import Derived.Test.YtcmeajaakdaeeaaDoorRun36
namespace Go.Proofs.YtcmeajaakdaeeaaDoor
open Go.RowKit

set_option maxRecDepth 100000 in
set_option maxHeartbeats 2000000 in
theorem rp_valid (p : Pin) (hp : p.h.length ≤ 1000000) (w : World) :
    Calls Tryd.prog 16 #[pv p] w fun e w' => e = .returned (.bool (Pin.valid p)) ∧ Below w.heap.size w w' := by
  have HV := Lib.hid (fun W => hr_validName p.h hp W)
  have hb0 := (Below.refl w.heap.size w).alloc (Nat.le_refl _) (.cells (pc p) 23)
  have hrow : (w.alloc (.cells (pc p) 23)).heap[w.heap.size]? = some (.cells (pc p) 23 (0, 0)) := heap_alloc_eq _ _ _ rfl
  have hz0 : (w.alloc (.cells (pc p) 23)).heap.size = w.heap.size + 1 := by simp
  have HPV := Lib.hid (fun b (h : Host.name p.h = b) => Pin.valid_of h)
  obtain ⟨ph, ps, px⟩ := p
  unfold pv
  unfold pc at hb0 hrow hz0
  simp only at HV hb0 hrow hz0 HPV ⊢
  obtain ⟨nb, hnb⟩ : ∃ b, Host.name ph = b := ⟨_, rfl⟩
  rw [hnb] at HV
  have HPV2 := Lib.hid (HPV.out _ hnb)
  clear HPV hnb
  obtain ⟨sh, hsh⟩ : ∃ s, str ph = s := ⟨_, rfl⟩
  rw [hsh] at HV hb0 hrow hz0 ⊢
  have HB0 := Lib.hid (And.intro hb0 (And.intro hrow hz0))
  clear hsh hb0 hrow hz0
  cases nb with
  | false =>
    go_enter Tryd.func16, Tryd.ntmps16
    go_wp2_with fail
    refine (HV.out _).mono ?_; rintro e w1 ⟨rfl, hB1⟩
    rw [HB0.out.2.2] at hB1
    go_wp2_with fail
    go_ret
    exact ⟨by rw [HPV2.out]; rfl, HB0.out.1.trans (hB1.mono (Nat.le_succ _))⟩
  | true =>
    by_cases h0 : px < 0
    · have HF := Lib.hid (show Pin.valid ⟨ph, ps, px⟩ = false by rw [HPV2.out, decide_eq_false (show ¬ 0 ≤ px by omega)]; rfl)
      have t1 : ¬ 0 ≤ px := by omega
      go_enter Tryd.func16, Tryd.ntmps16
      go_wp2_with fail
      refine (HV.out _).mono ?_; rintro e w1 ⟨rfl, hB1⟩
      rw [HB0.out.2.2] at hB1
      have c2 : w1.cell? ⟨w.heap.size, 2, none⟩ = some (.int .i64 px) := (hB1.cell (p := ⟨w.heap.size, 2, none⟩) (Nat.lt_succ_self _)).trans ((cell_of_row _ _ _ _ _ _ HB0.out.2.1).trans rfl)
      go_wp2_with fail
      go_ret
      exact ⟨by rw [HF.out]; rfl, HB0.out.1.trans (hB1.mono (Nat.le_succ _))⟩
    · have t1 : 0 ≤ px := by omega
      have HF := Lib.hid (show Pin.valid ⟨ph, ps, px⟩ = decide (px ≤ 1099511627776) by rw [HPV2.out, decide_eq_true t1]; rfl)
      go_enter Tryd.func16, Tryd.ntmps16
      go_wp2_with fail
      refine (HV.out _).mono ?_; rintro e w1 ⟨rfl, hB1⟩
      rw [HB0.out.2.2] at hB1
      have c2 : w1.cell? ⟨w.heap.size, 2, none⟩ = some (.int .i64 px) := (hB1.cell (p := ⟨w.heap.size, 2, none⟩) (Nat.lt_succ_self _)).trans ((cell_of_row _ _ _ _ _ _ HB0.out.2.1).trans rfl)
      go_wp2_with fail
      go_ret
      exact ⟨by rw [HF.out]; rfl, HB0.out.1.trans (hB1.mono (Nat.le_succ _))⟩

set_option maxRecDepth 100000 in
set_option maxHeartbeats 4000000 in
theorem rp_encode (p : Pin) (hp : p.h.length ≤ 900) (w : World) :
    Calls Tryd.prog 12 #[pv p] w (PEncP p w) := by
  have HV := Lib.hid (fun W => rp_valid p (by omega) W)
  have hb0 := (Below.refl w.heap.size w).alloc (Nat.le_refl _) (.cells (pc p) 23)
  have hrow : (w.alloc (.cells (pc p) 23)).heap[w.heap.size]? = some (.cells (pc p) 23 (0, 0)) := heap_alloc_eq _ _ _ rfl
  have hz0 : (w.alloc (.cells (pc p) 23)).heap.size = w.heap.size + 1 := by simp
  have HVI := Lib.hid ((Pin.valid_iff p).1)
  have HTX := Lib.hid (fun W => rw_text p.h (by omega) W)
  have HEN := Lib.hid (show Pin.enc p = Wire.txt p.h ++ (Wire.enc (if p.s then 1 else 0) ++ Wire.enc p.x.toNat) from rfl)
  have HTL := Lib.hid (show (Wire.txt p.h).length ≤ 1000 by
    have := Wire.enc_len (v := p.h.length) (by omega); unfold Wire.txt; rw [List.length_append]; omega)
  unfold PEncP
  obtain ⟨ok, hok⟩ : ∃ b, Pin.valid p = b := ⟨_, rfl⟩
  rw [hok] at HV HVI ⊢
  clear hok
  obtain ⟨ph, ps, px⟩ := p
  unfold pv at HV ⊢
  unfold pc at hb0 hrow hz0
  simp only at HV hb0 hrow hz0 HVI HTX HEN HTL ⊢
  obtain ⟨sh, hsh⟩ : ∃ s, str ph = s := ⟨_, rfl⟩
  rw [hsh] at HV hb0 hrow hz0 HTX ⊢
  have HB0 := Lib.hid (And.intro hb0 (And.intro hrow hz0))
  clear hsh hb0 hrow hz0
  cases ok with
  | false =>
    go_enter Tryd.func12, Tryd.ntmps12
    go_wp2_with fail
    refine (HV.out _).mono ?_; rintro e w1 ⟨rfl, hB1⟩
    rw [HB0.out.2.2] at hB1
    go_wp2_with fail
    go_ret2
    exact ⟨_, rfl, OwnB.nil _ _, HB0.out.1.trans (hB1.mono (Nat.le_succ _))⟩
  | true =>
    obtain ⟨-, x0, x1⟩ := HVI.out rfl
    obtain ⟨xn, rfl⟩ : ∃ n : Nat, px = (n : Int) := ⟨px.toNat, by omega⟩
    simp only [Int.toNat_natCast] at HEN
    have wx : IntKind.u64.wrap (xn : Int) = (xn : Int) := by unfold IntKind.wrap; simp only [IntKind.bits, IntKind.signed]; simp; omega
    have HU := Lib.hid (fun W => rw_uint xn (by omega) W)
    have HX := Lib.hid (And.intro x0 x1)
    clear x0 x1
    go_enter Tryd.func12, Tryd.ntmps12
    go_wp2_with fail
    refine (HV.out _).mono ?_; rintro e w1 ⟨rfl, hB1⟩
    rw [HB0.out.2.2] at hB1
    have hB01 := HB0.out.1.trans (hB1.mono (Nat.le_succ _))
    have hlt1 : w.heap.size < w1.heap.size := by have := hB1.size; rw [HB0.out.2.2] at this; omega
    have hbk1 : w1.heap[w.heap.size]? = some (.cells #[.string sh, .bool ps, .int .i64 (xn : Int)] 23 (0, 0)) := (hB1.block _ (Nat.lt_succ_self _)).trans HB0.out.2.1
    have HCS := Lib.hid (show ∀ w', Below w1.heap.size w1 w' → w'.cell? ⟨w.heap.size, 0, none⟩ = some (.string sh) ∧ w'.cell? ⟨w.heap.size, 1, none⟩ = some (.bool ps) ∧ w'.cell? ⟨w.heap.size, 2, none⟩ = some (.int .i64 (xn : Int)) by
      intro w' hb
      have hbk := (hb.block _ hlt1).trans hbk1
      exact ⟨(cell_of_row _ _ _ _ _ _ hbk).trans rfl, (cell_of_row _ _ _ _ _ _ hbk).trans rfl, (cell_of_row _ _ _ _ _ _ hbk).trans rfl⟩)
    clear hbk1
    obtain ⟨c0, -, -⟩ := HCS.out w1 (Below.refl _ _)
    go_wp2_with fail
    refine (HTX.out _).mono ?_; rintro e w2 ⟨v2, rfl, hO2, hB2⟩
    obtain ⟨d0, d1, d2⟩ := HCS.out w2 hB2
    have hlt2 : w.heap.size < w2.heap.size := Nat.lt_of_lt_of_le hlt1 hB2.size
    have hB02 := hB01.trans (hB2.mono hB01.size)
    have HSU := Lib.hid (show (Wire.enc xn).length ≤ 10 from (Wire.enc_len (by have := HX.out.2; omega)).2)
    cases ps with
    | true =>
      have HO1 := Lib.hid (fun W t => SlB.oneZ W (1 : Int) 1 rfl t)
      go_wp2_with (first
        | (at_builtin; refine wpList_append_bytes rfl _ _ rfl w1.heap.size _ (Wire.txt ph) rfl (hO2.alloc _) (some ⟨w2.heap.size, 0, none⟩) 1 1 [1] rfl (HO1.out _ _) (by have := HTL.out; omega) (by have := hB2.size; simp; omega) ?_; intro v3 w3 hown hg _; have hgr : Below w1.heap.size w1 w3 := (hB2.alloc hB2.size _).grown hg (by have := hB2.size; simp; omega) (fun g hg => (hO2.lt g hg).1); clear hg; obtain ⟨-, -, f2⟩ := HCS.out w3 hgr; have hlt3 : w.heap.size < w3.heap.size := Nat.lt_of_lt_of_le hlt1 hgr.size)
        | fail)
      refine (HU.out _).mono ?_; rintro e w4 ⟨v4, rfl, hO4, hB4⟩
      have hB14 := hgr.trans (hB4.mono hgr.size)
      obtain ⟨a4, k4, rfl, hs4, -⟩ := hO4.sl
      have HLT := Lib.hid (show (Wire.txt ph ++ [1]).length ≤ 1001 by rw [List.length_append]; have := HTL.out; simpa using this)
      go_wp2_with (at_builtin; refine wpList_append_bytes rfl _ _ rfl w1.heap.size _ (Wire.txt ph ++ [1]) rfl (hown.ext hB4) a4 _ k4 _ rfl hs4 (by have := HLT.out; have := HSU.out; omega) hB14.size ?_; intro v5 w5 hown5 hg _; have hgr5 : Below w1.heap.size w1 w5 := hB14.grown hg hB14.size (fun g hg => (hown.lt g hg).1); clear hg)
      go_wp2_with fail
      go_ret2
      have h9 := hown5.mono hB01.size
      rw [List.append_assoc, show [1] = Wire.enc 1 by decide +kernel] at h9
      have hE := HEN.out
      first | rw [if_pos trivial] at hE | rw [if_neg id] at hE | simp only [if_false, Bool.false_eq_true] at hE
      rw [← hE] at h9
      exact ⟨_, rfl, h9, hB01.trans (hgr5.mono hB01.size)⟩
    | false =>
      have HO1 := Lib.hid (fun W t => SlB.oneZ W (0 : Int) 0 rfl t)
      go_wp2_with (first
        | (at_builtin; refine wpList_append_bytes rfl _ _ rfl w1.heap.size _ (Wire.txt ph) rfl (hO2.alloc _) (some ⟨w2.heap.size, 0, none⟩) 1 1 [0] rfl (HO1.out _ _) (by have := HTL.out; omega) (by have := hB2.size; simp; omega) ?_; intro v3 w3 hown hg _; have hgr : Below w1.heap.size w1 w3 := (hB2.alloc hB2.size _).grown hg (by have := hB2.size; simp; omega) (fun g hg => (hO2.lt g hg).1); clear hg; obtain ⟨-, -, f2⟩ := HCS.out w3 hgr; have hlt3 : w.heap.size < w3.heap.size := Nat.lt_of_lt_of_le hlt1 hgr.size)
        | fail)
      refine (HU.out _).mono ?_; rintro e w4 ⟨v4, rfl, hO4, hB4⟩
      have hB14 := hgr.trans (hB4.mono hgr.size)
      obtain ⟨a4, k4, rfl, hs4, -⟩ := hO4.sl
      have HLT := Lib.hid (show (Wire.txt ph ++ [0]).length ≤ 1001 by rw [List.length_append]; have := HTL.out; simpa using this)
      go_wp2_with (at_builtin; refine wpList_append_bytes rfl _ _ rfl w1.heap.size _ (Wire.txt ph ++ [0]) rfl (hown.ext hB4) a4 _ k4 _ rfl hs4 (by have := HLT.out; have := HSU.out; omega) hB14.size ?_; intro v5 w5 hown5 hg _; have hgr5 : Below w1.heap.size w1 w5 := hB14.grown hg hB14.size (fun g hg => (hown.lt g hg).1); clear hg)
      go_wp2_with fail
      go_ret2
      have h9 := hown5.mono hB01.size
      rw [List.append_assoc, show [0] = Wire.enc 0 by decide +kernel] at h9
      have hE := HEN.out
      first | rw [if_pos trivial] at hE | rw [if_neg id] at hE | simp only [if_false, Bool.false_eq_true] at hE
      rw [← hE] at h9
      exact ⟨_, rfl, h9, hB01.trans (hgr5.mono hB01.size)⟩

end Go.Proofs.YtcmeajaakdaeeaaDoor
