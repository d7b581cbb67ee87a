/-
  Texts in one: PinR, PinRD, PinL3, Find, RTab.
-/
import Derived.Test.YtcmeajaakdaeeaaGreatDoorRun23
import Derived.Test.YtcmeajaakdaeeaaGreatDoorRun7
import Derived.Test.YtcmeajaakdaeeaaGreatDoorRun1
import Derived.Test.YtcmeajaakdaeeaaGreatDoorRun22
/-
  The walks through the reference's Valid, Encode and Decode.
-/
namespace Go.Proofs.YtcmeajaakdaeeaaGreatDoor
open Go.RowKit

set_option maxRecDepth 100000 in
set_option maxHeartbeats 2000000 in
theorem rp_valid (p : Pin) (hp : p.h.length ≤ 1000000) (w : World) :
    Calls Tryz.prog 8 #[pv p] w fun e w' => e = .returned (.bool (Pin.valid p)) ∧ Below w.heap.size w w' := by
  have HV := Lib.hid (fun W => hr_validName p.h hp W)
  have hb0 := (Below.refl w.heap.size w).alloc (Nat.le_refl _) (.cells (pc p) 23)
  have hrow : (w.alloc (.cells (pc p) 23)).heap[w.heap.size]? = some (.cells (pc p) 23 (0, 0)) := heap_alloc_eq _ _ _ rfl
  have hz0 : (w.alloc (.cells (pc p) 23)).heap.size = w.heap.size + 1 := by simp
  have HPV := Lib.hid (fun b (h : Host.name p.h = b) => Pin.valid_of h)
  obtain ⟨ph, ps, px⟩ := p
  unfold pv
  unfold pc at hb0 hrow hz0
  simp only at HV hb0 hrow hz0 HPV ⊢
  obtain ⟨nb, hnb⟩ : ∃ b, Host.name ph = b := ⟨_, rfl⟩
  rw [hnb] at HV
  have HPV2 := Lib.hid (HPV.out _ hnb)
  clear HPV hnb
  obtain ⟨sh, hsh⟩ : ∃ s, str ph = s := ⟨_, rfl⟩
  rw [hsh] at HV hb0 hrow hz0 ⊢
  have HB0 := Lib.hid (And.intro hb0 (And.intro hrow hz0))
  clear hsh hb0 hrow hz0
  cases nb with
  | false =>
    go_enter Tryz.func8, Tryz.ntmps8
    go_wp2_with fail
    refine (HV.out _).mono ?_; rintro e w1 ⟨rfl, hB1⟩
    rw [HB0.out.2.2] at hB1
    go_wp2_with fail
    go_ret
    exact ⟨by rw [HPV2.out]; rfl, HB0.out.1.trans (hB1.mono (Nat.le_succ _))⟩
  | true =>
    by_cases h0 : px < 0
    · have HF := Lib.hid (show Pin.valid ⟨ph, ps, px⟩ = false by rw [HPV2.out, decide_eq_false (show ¬ 0 ≤ px by omega)]; rfl)
      have t1 : ¬ 0 ≤ px := by omega
      go_enter Tryz.func8, Tryz.ntmps8
      go_wp2_with fail
      refine (HV.out _).mono ?_; rintro e w1 ⟨rfl, hB1⟩
      rw [HB0.out.2.2] at hB1
      have c2 : w1.cell? ⟨w.heap.size, 2, none⟩ = some (.int .i64 px) := (hB1.cell (p := ⟨w.heap.size, 2, none⟩) (Nat.lt_succ_self _)).trans ((cell_of_row _ _ _ _ _ _ HB0.out.2.1).trans rfl)
      go_wp2_with fail
      go_ret
      exact ⟨by rw [HF.out]; rfl, HB0.out.1.trans (hB1.mono (Nat.le_succ _))⟩
    · have t1 : 0 ≤ px := by omega
      have HF := Lib.hid (show Pin.valid ⟨ph, ps, px⟩ = decide (px ≤ 1099511627776) by rw [HPV2.out, decide_eq_true t1]; rfl)
      go_enter Tryz.func8, Tryz.ntmps8
      go_wp2_with fail
      refine (HV.out _).mono ?_; rintro e w1 ⟨rfl, hB1⟩
      rw [HB0.out.2.2] at hB1
      have c2 : w1.cell? ⟨w.heap.size, 2, none⟩ = some (.int .i64 px) := (hB1.cell (p := ⟨w.heap.size, 2, none⟩) (Nat.lt_succ_self _)).trans ((cell_of_row _ _ _ _ _ _ HB0.out.2.1).trans rfl)
      go_wp2_with fail
      go_ret
      exact ⟨by rw [HF.out]; rfl, HB0.out.1.trans (hB1.mono (Nat.le_succ _))⟩


end Go.Proofs.YtcmeajaakdaeeaaGreatDoor

/-
  The walk through the reference's Decode.
-/
namespace Go.Proofs.YtcmeajaakdaeeaaGreatDoor
open Go.RowKit


end Go.Proofs.YtcmeajaakdaeeaaGreatDoor

/-
  The walk of the statement PinCodecMatchesSpec.
-/
namespace Go.Proofs.YtcmeajaakdaeeaaGreatDoor
open Go.RowKit

/-- A block that holds a pin. -/
def PBox (w : World) (B : Nat) (h : ByteArray) (s : Bool) (x : Int) : Prop := w.heap[B]? = some (.cells #[.string h, .bool s, .int .i64 x] 23 (0, 0))
theorem PBox.cells {w : World} {B : Nat} {h : ByteArray} {s : Bool} {x : Int} (hb : PBox w B h s x) : w.cell? ⟨B, 0, none⟩ = some (.string h) ∧ w.cell? ⟨B, 1, none⟩ = some (.bool s) ∧ w.cell? ⟨B, 2, none⟩ = some (.int .i64 x) :=
  ⟨(cell_of_row _ _ _ _ _ _ hb).trans rfl, (cell_of_row _ _ _ _ _ _ hb).trans rfl, (cell_of_row _ _ _ _ _ _ hb).trans rfl⟩
theorem PBox.ext {w w' : World} {B : Nat} {h : ByteArray} {s : Bool} {x : Int} (hb : PBox w B h s x) (e : Ext w w') : PBox w' B h s x := (Below.block e _ (heap_lt hb)).trans hb
theorem PBox.new (w : World) (h : ByteArray) (s : Bool) (x : Int) : PBox (w.alloc (.cells #[.string h, .bool s, .int .i64 x] 23)) w.heap.size h s x := heap_alloc_eq _ _ _ rfl


end Go.Proofs.YtcmeajaakdaeeaaGreatDoor

/-
  The search in a table: find$1, slices.BinarySearchFunc, find.
-/
namespace Go.Proofs.YtcmeajaakdaeeaaGreatDoor
open Go.RowKit

set_option maxRecDepth 100000 in
theorem tb_find1 (p : Pin) (t : List UInt8) (hp : p.h.length ≤ 1000000) (ht : t.length ≤ 1000000) (w : World) :
    Calls Tryz.prog 41 #[pv p, .string (str t)] w fun e w' => e = .returned (.int .i64 (Host.cmp p.h t)) ∧ Below w.heap.size w w' := by
  have HC := Lib.hid (fun W => pn_compare p.h t hp ht W)
  have hb0 := (Below.refl w.heap.size w).alloc (Nat.le_refl _) (.cells (pc p) 23)
  obtain ⟨ph, ps, px⟩ := p
  unfold pv
  unfold pc at hb0
  simp only at hb0 HC ⊢
  generalize str ph = sh at *
  generalize str t = st at *
  have HB0 := Lib.hid hb0
  clear hb0
  go_enter Tryz.func41, Tryz.ntmps41
  go_wp2_with fail
  refine (HC.out _).mono ?_; rintro e w1 ⟨rfl, hb1⟩
  go_wp2_with fail
  go_ret
  exact ⟨rfl, HB0.out.trans (hb1.mono HB0.out.size)⟩

set_option maxHeartbeats 4000000 in
set_option maxRecDepth 100000 in
theorem sl_bsearch (a : Option Addr) (n c : Nat) (L : List Pin) (t : List UInt8) (w : World) (h : SlN w a n c L) (hn : n ≤ 1000000) (hA : Tab.Asc L) (hL : ∀ p ∈ L, p.h.length ≤ 1000000) (ht : t.length ≤ 1000000) :
    Calls Tryz.prog 40 #[.slice a n c, .string (str t), .func (.func 41) #[] #[]] w
      fun e w' => e = .returned (.tuple #[.int .i64 (Tab.lo L t : Nat), .bool (Tab.hit L t)]) ∧ Below w.heap.size w w' := by
  have HL := Lib.hid hL
  have HLN := Lib.hid h.len
  have HF := Lib.hid (fun p hp W => tb_find1 p t hp ht W)
  have HLO := Lib.hid (fun (k : Nat) (p : Pin) (hk : L[k]? = some p) => Tab.lo_iff hA t hk)
  have HLE := Lib.hid (Tab.lo_le L t)
  obtain ⟨lo, hlo⟩ : ∃ lo, Tab.lo L t = lo := ⟨_, rfl⟩
  have HHI := Lib.hid (show Tab.hit L t = match L[lo]? with | some p => decide (p.h = t) | none => false by rw [← hlo]; rfl)
  rw [hlo] at HLO HLE ⊢
  generalize Tab.hit L t = hit at *
  obtain ⟨st, hst⟩ : ∃ st, str t = st := ⟨_, rfl⟩
  rw [hst] at HF ⊢
  clear hlo hst hA hL
  go_enter Tryz.func40, Tryz.ntmps40
  go_wp2_with fail
  go_loopw [9, 10] (fun i j wr => ∃ (i' j' : Nat), i = .int .i64 (i' : Nat) ∧ j = .int .i64 (j' : Nat) ∧ i' ≤ lo ∧ lo ≤ j' ∧ j' ≤ n ∧ Below w.heap.size w wr) (fun i j _ => (intOf j).toNat - (intOf i).toNat)
  case atStart => exact ⟨0, n, rfl, rfl, Nat.zero_le _, by have := HLE.out; rw [HLN.out] at this; exact this, Nat.le_refl _, Below.refl _ _⟩
  case round =>
    obtain ⟨i, j, rfl, rfl, h1, h2, h3, hB⟩ := hrel
    have i0 : (0 : Int) ≤ (i : Int) := by omega
    by_cases hij : i < j
    · have i1 : (i : Int) < (j : Int) := by omega
      obtain ⟨m, hm⟩ : ∃ m : Nat, (i + j) / 2 = m := ⟨_, rfl⟩
      have m1 : i ≤ m := by omega
      have m2 : m < j := by omega
      have m3 : m < n := by omega
      have m4 : (m : Int) < (n : Int) := by omega
      have m5 : (0 : Int) ≤ (m : Int) := by omega
      have e1 : ((i : Int) + (j : Int)) / 2 = (m : Int) := by omega
      have e2 : IntKind.u64.wrap ((i : Int) + (j : Int)) = (i : Int) + (j : Int) := by unfold IntKind.wrap; simp only [IntKind.bits, IntKind.signed]; simp; omega
      obtain ⟨bb, o, rfl, hbb, hkl, c1, c2, c3⟩ := (h.ext hB).at m3
      rw [List.getElem?_eq_getElem hkl, Option.getD_some] at c1 c2 c3
      have HMEM := Lib.hid (List.getElem_mem hkl)
      have HIF := Lib.hid (HLO.out m _ (List.getElem?_eq_getElem hkl))
      generalize L[m] = p at *
      have HFP := Lib.hid (fun W => HF.out p (HL.out p HMEM.out) W)
      obtain ⟨ph, ps, px⟩ := p
      unfold pv at HFP
      simp only at c1 c2 c3 HFP HIF
      generalize str ph = sh at *
      generalize Host.cmp ph t = cc at *
      clear hkl hm
      by_cases hcc : cc < 0
      · have hlm := HIF.out.1 hcc
        go_wp2_with fail
        refine (HFP.out _).mono ?_; rintro e w1 ⟨rfl, hb1⟩
        go_wp2_with fail
        go_roundw
        case rel => exact ⟨m + 1, j, by go_num, rfl, by omega, h2, h3, hB.trans (hb1.mono hB.size)⟩
        case measure => simp [intOf]; omega
      · have hlm : ¬ m < lo := fun e => hcc (HIF.out.2 e)
        go_wp2_with fail
        refine (HFP.out _).mono ?_; rintro e w1 ⟨rfl, hb1⟩
        go_wp2_with fail
        go_roundw
        case rel => exact ⟨i, m, rfl, rfl, h1, by omega, by omega, hB.trans (hb1.mono hB.size)⟩
        case measure => simp [intOf]; omega
    · obtain rfl : i = lo := by omega
      obtain rfl : j = i := by omega
      by_cases hjn : j < n
      · have m4 : (j : Int) < (n : Int) := by omega
        obtain ⟨bb, o, rfl, hbb, hkl, c1, c2, c3⟩ := (h.ext hB).at hjn
        rw [List.getElem?_eq_getElem hkl] at HHI
        rw [List.getElem?_eq_getElem hkl, Option.getD_some] at c1 c2 c3
        have HMEM := Lib.hid (List.getElem_mem hkl)
        generalize L[j] = p at *
        have HFP := Lib.hid (fun W => HF.out p (HL.out p HMEM.out) W)
        have hh2 : hit = (Host.cmp p.h t == 0) := by
          rw [HHI.out, Bool.eq_iff_iff]; simp only [decide_eq_true_eq, beq_iff_eq]
          exact ⟨fun e => by rw [e]; exact Host.cmp_self _, fun e => Host.cmp_eq e⟩
        obtain ⟨ph, ps, px⟩ := p
        unfold pv at HFP
        simp only at c1 c2 c3 HFP ⊢
        simp only at hh2
        generalize str ph = sh at *
        generalize Host.cmp ph t = cc at *
        have HH2 := Lib.hid hh2
        clear hkl hh2
        go_wp2_with fail
        refine (HFP.out _).mono ?_; rintro e w1 ⟨rfl, hb1⟩
        go_wp2_with fail
        go_ret2
        exact ⟨by rw [HH2.out]; rfl, hB.trans (hb1.mono hB.size)⟩
      · obtain rfl : j = n := by omega
        have hf : hit = false := by rw [HHI.out, List.getElem?_eq_none (by rw [HLN.out]; exact Nat.le_refl _)]
        subst hf
        go_wp2_with fail
        go_ret2
        exact ⟨rfl, hB⟩

set_option maxRecDepth 100000 in
theorem tb_find {B : Nat} {w : World} {g : Nat} {v : Value} {L : List Pin} {cap : Int} (h : TabW B w g v L cap) (t : List UInt8) (hn : L.length ≤ 1000000) (hA : Tab.Asc L) (hL : ∀ p ∈ L, p.h.length ≤ 1000000) (ht : t.length ≤ 1000000) :
    Calls Tryz.prog 24 #[.pointer (some ⟨g, 0, none⟩), .string (str t)] w fun e w' => e = .returned (.tuple #[.int .i64 (Tab.lo L t : Nat), .bool (Tab.hit L t)]) ∧ Below w.heap.size w w' := by
  obtain ⟨c0, -⟩ := h.cells
  have hlt := h.lt
  obtain ⟨a, c, rfl, hs, -⟩ := h.2.1.sl
  have HC := Lib.hid (sl_bsearch a L.length c L t w hs hn hA hL ht)
  generalize str t = st at *
  go_enter Tryz.func24, Tryz.ntmps24
  go_wp2_with fail
  refine HC.out.mono ?_; rintro e w1 ⟨rfl, hb⟩
  go_wp2_with fail
  go_ret2
  exact ⟨rfl, hb⟩

end Go.Proofs.YtcmeajaakdaeeaaGreatDoor

/-
  The reference's check of a list of pins (hstsstoreref23.Load).
-/
namespace Go.Proofs.YtcmeajaakdaeeaaGreatDoor
open Go.RowKit

theorem chk_step (L : List Pin) (m k : Nat) {p : Pin} (h : L[k]? = some p) : Tab.chk L (m + 1) k = if Pin.valid p = false then 1 else if 0 < k ∧ 0 ≤ Host.cmp (L.getD (k - 1) Pin.none).h p.h then 8 else Tab.chk L m (k + 1) := by
  rw [Tab.chk, h]

set_option maxHeartbeats 8000000 in
set_option maxRecDepth 100000 in
theorem rt_load (cap : Int) (a : Option Addr) (n c : Nat) (L : List Pin) (w : World) (h : SlN w a n c L) (hn : n ≤ 1000000) (hL : ∀ p ∈ L, p.h.length ≤ 1000000) :
    Calls Tryz.prog 18 #[.slice a n c, .int .i64 cap] w fun e w' => e = .returned (.int .i64 (Tab.load L cap)) ∧ Below w.heap.size w w' := by
  have HLN := Lib.hid h.len
  have HL := Lib.hid hL
  obtain ⟨r, hr⟩ : ∃ r, Tab.load L cap = r := ⟨_, rfl⟩
  rw [hr]
  unfold Tab.load at hr
  rw [h.len] at hr
  clear hL
  by_cases h1 : cap < 1 ∨ 1000 < cap
  · rw [if_pos h1] at hr
    subst hr
    by_cases h2 : cap < 1
    · clear h1
      go_enter Tryz.func18, Tryz.ntmps18
      go_wp2_with fail
      go_ret
      exact ⟨rfl, Below.refl _ _⟩
    · have h3 : 1000 < cap := by omega
      clear h1
      go_enter Tryz.func18, Tryz.ntmps18
      go_wp2_with fail
      go_ret
      exact ⟨rfl, Below.refl _ _⟩
  rw [if_neg h1] at hr
  have g1 : ¬ cap < 1 := by omega
  have g2 : ¬ 1000 < cap := by omega
  clear h1
  by_cases h2 : cap < (n : Int)
  · rw [if_pos h2] at hr
    subst hr
    go_enter Tryz.func18, Tryz.ntmps18
    go_wp2_with fail
    go_ret
    exact ⟨rfl, Below.refl _ _⟩
  rw [if_neg h2] at hr
  have HR := Lib.hid hr
  clear hr
  go_enter Tryz.func18, Tryz.ntmps18
  go_wp2_with fail
  go_loopw [5] (fun i wr => ∃ k : Nat, k ≤ n ∧ i = .int .i64 (k : Nat) ∧ Hid (Tab.chk L (n - k) k = r) ∧ Below w.heap.size w wr) (fun i _ => n - (intOf i).toNat)
  case atStart => exact ⟨0, Nat.zero_le _, rfl, HR, Below.refl _ _⟩
  case round =>
    obtain ⟨k, hk, rfl, HC, hB⟩ := hrel
    have i0 : (0 : Int) ≤ (k : Int) := by omega
    by_cases hlt : k < n
    · have i2 : (k : Int) < (n : Int) := by omega
      have hs := h.ext hB
      obtain ⟨bb, o, rfl, hbb, hkl, c1, c2, c3⟩ := hs.at hlt
      have hgt := List.getElem?_eq_getElem hkl
      rw [hgt, Option.getD_some] at c1 c2 c3
      have HMEM := Lib.hid (List.getElem_mem hkl)
      have hst := chk_step L (n - (k + 1)) k hgt
      rw [show n - (k + 1) + 1 = n - k by omega, HC.out] at hst
      have hprev : ∀ k', k = k' + 1 → ∃ q, L.getD (k - 1) Pin.none = q ∧ q ∈ L ∧ PinAt wr bb (o + k' * 3) q := by
        intro k' hk'
        obtain ⟨b2, o2, hbo, -, hkl2, hp2⟩ := hs.at (show k' < n by omega)
        cases hbo
        refine ⟨_, rfl, ?_, ?_⟩
        · rw [show k - 1 = k' by omega, List.getD_eq_getElem?_getD, List.getElem?_eq_getElem hkl2]; exact List.getElem_mem hkl2
        · rw [show k - 1 = k' by omega, List.getD_eq_getElem?_getD]; exact hp2
      generalize L[k] = p at *
      have HV := Lib.hid (fun W => rp_valid p (HL.out p HMEM.out) W)
      unfold pv at HV
      cases hv : Pin.valid p with
      | false =>
        rw [hv] at HV hst
        rw [if_pos rfl] at hst
        subst hst
        have HV := Lib.hid HV.out
        obtain ⟨sh, hsh⟩ : ∃ s, str p.h = s := ⟨_, rfl⟩
        rw [hsh] at c1 HV
        clear hprev hgt hkl hv hsh hs
        go_wp2_with fail
        refine (HV.out _).mono ?_; rintro e w2 ⟨rfl, hb2⟩
        go_wp2_with fail
        go_ret
        exact ⟨rfl, hB.trans (hb2.mono hB.size)⟩
      | true =>
        rw [hv] at HV hst
        rw [if_neg (by decide)] at hst
        have HV := Lib.hid HV.out
        by_cases hk0 : k = 0
        · rw [if_neg (by omega)] at hst
          have HST := Lib.hid hst
          have t0 : decide (0 < k) = false := by apply decide_eq_false; omega
          obtain ⟨sh, hsh⟩ : ∃ s, str p.h = s := ⟨_, rfl⟩
          rw [hsh] at c1 HV
          clear hprev hgt hkl hv hsh hs hst hk0
          go_wp2_with fail
          refine (HV.out _).mono ?_; rintro e w2 ⟨rfl, hb2⟩
          go_wp2_with fail
          go_quiet (fail)
          go_wp2_with fail
          go_roundw
          case rel => exact ⟨k + 1, by omega, by go_num, Lib.hid HST.out.symm, (hB.trans (hb2.mono hB.size)).trans (below_drewN' _ _ _)⟩
          case measure => simp [intOf]; omega
        · obtain ⟨k', hk'⟩ : ∃ k', k = k' + 1 := ⟨k - 1, by omega⟩
          obtain ⟨q, hq, hqm, hqa⟩ := hprev k' hk'
          subst hk'
          rw [hq] at hst
          have HCMP := Lib.hid (fun W => rp_compare q.h p.h (HL.out q hqm) (HL.out p HMEM.out) W)
          obtain ⟨z, hz⟩ : ∃ z, Host.cmp q.h p.h = z := ⟨_, rfl⟩
          rw [hz] at HCMP hst
          have wk : IntKind.i64.wrap (k' : Int) = (k' : Int) := by rw [IntKind.wrap_i64]; omega
          have k0 : (0 : Int) ≤ (k' : Int) := by omega
          have k1 : (k' : Int) < (n : Int) := by omega
          have i3 : (0 : Int) ≤ (k' : Int) + 1 := by omega
          have i4 : (k' : Int) + 1 < (n : Int) := by omega
          have t0 : decide (0 < k' + 1) = true := by apply decide_eq_true; omega
          obtain ⟨d1, -, -⟩ := hqa
          obtain ⟨sh, hsh⟩ : ∃ s, str p.h = s := ⟨_, rfl⟩
          obtain ⟨sq, hsq⟩ : ∃ s, str q.h = s := ⟨_, rfl⟩
          rw [hsh] at c1 HV HCMP
          rw [hsq] at d1 HCMP
          have HCL := Lib.hid (show ∀ w', Below wr.heap.size wr w' → w'.cell? ⟨bb, o + (k' + 1) * 3, none⟩ = some (.string sh) ∧ w'.cell? ⟨bb, o + k' * 3, none⟩ = some (.string sq) from fun w' hb => ⟨(hb.cell (p := ⟨bb, o + (k' + 1) * 3, none⟩) hbb).trans c1, (hb.cell (p := ⟨bb, o + k' * 3, none⟩) hbb).trans d1⟩)
          have HST := Lib.hid hst
          clear hprev hgt hkl hv hsh hsq hs hst hz hq hqm hk0
          go_wp2_with fail
          refine (HV.out _).mono ?_; rintro e w2 ⟨rfl, hb2⟩
          obtain ⟨e1, f1⟩ := HCL.out _ hb2
          have hbb2 : bb < w2.heap.size := Nat.lt_of_lt_of_le hbb hb2.size
          have HCL2 := Lib.hid (show ∀ w', Ext w2 w' → Ext w2 w' ∧ w'.cell? ⟨bb, o + (k' + 1) * 3, none⟩ = some (.string sh) ∧ w'.cell? ⟨bb, o + k' * 3, none⟩ = some (.string sq) from fun w' he => ⟨he, HCL.out _ (hb2.trans (Below.mono he hb2.size))⟩)
          go_wp2_with fail
          go_region_held3 (fun w' => Ext w2 w' ∧ w'.cell? ⟨bb, o + (k' + 1) * 3, none⟩ = some (.string sh) ∧ w'.cell? ⟨bb, o + k' * 3, none⟩ = some (.string sq)) (first | assumption | exact HCL2.out _ (Ext.drew (Ext.refl _)) | exact HCL2.out _ (Ext.step (by assumption) (And.left (by assumption)))) (first | (go_at_call 36; go_must (refine (HCMP.out _).mono ?_); rintro e w9 ⟨rfl, hb9⟩))
          all_goals
            have hfin : Ext w2 _ := And.left (by assumption)
            have hBf := (hB.trans (hb2.mono hB.size)).trans (Below.mono hfin (hB.trans (hb2.mono hB.size)).size)
            by_cases hz0 : 0 ≤ z
            · have hr8 : r = 8 := by rw [HST.out, if_pos ⟨by omega, hz0⟩]
              subst hr8
              go_wp2_with fail
              go_ret
              exact ⟨rfl, hBf⟩
            · have HRS := Lib.hid (show Tab.chk L (n - (k' + 1 + 1)) (k' + 1 + 1) = r by rw [HST.out, if_neg (fun e => hz0 e.2)])
              go_wp2_with fail
              go_roundw
              case rel => exact ⟨k' + 1 + 1, by omega, by go_num, HRS, hBf⟩
              case measure => simp [intOf]; omega
    · obtain rfl : k = n := by omega
      have hr0 : r = 0 := by rw [← HC.out, Nat.sub_self]; rfl
      subst hr0
      go_wp2_with fail
      go_ret
      exact ⟨rfl, hB⟩

end Go.Proofs.YtcmeajaakdaeeaaGreatDoor
