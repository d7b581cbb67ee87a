/-
  Texts in one: RUptApp, UptL2.
-/
import Derived.Test.YtjfflnnepndlkaaGreatDoorRun25
import Derived.Test.YtjfflnnepndlkaaGreatDoorRun23
import Derived.Test.YtjfflnnepndlkaaGreatDoorRun28
import Derived.Test.YtjfflnnepndlkaaGreatDoorRun24
import Derived.Test.YtjfflnnepndlkaaGreatDoorRun26
/-
  The walk through the reference's Apply.
-/
namespace Go.Proofs.YtjfflnnepndlkaaGreatDoor
open Go.RowKit

/-- What the reference's Apply returns: the pins L, the error z. -/
def RUApP (ck : Int) (L : List Pin) (z : Int) (w : World) (e : Ending) (w' : World) : Prop := ∃ a c, e = .returned (.tuple #[sv (Upt.ack ck z) (.slice a L.length c), .int .i64 z]) ∧ SlN w' a L.length c L ∧ Ext w w'
theorem RUApP.bad {ck : Int} {z : Int} {w : World} (hz : z ≠ 0) {e : Ending} {w' : World} (he : e = .returned (.tuple #[.agg #[.int .i64 0, .slice none 0 0], .int .i64 z])) (hb : Ext w w') : RUApP ck [] z w e w' :=
  ⟨none, 0, by rw [he]; unfold sv Upt.ack; rw [if_neg hz]; rfl, SlN.nil _, hb⟩
theorem RUApP.of {ck : Int} {L L' : List Pin} {u : UpdV} {cap z : Int} (h : Upt.apply ck L u cap = (L', z)) {w : World} {e : Ending} {w' : World} (hp : RUApP ck L' z w e w') : RUApP ck (Upt.apply ck L u cap).1 (Upt.apply ck L u cap).2 w e w' := by rw [h]; exact hp
theorem RUApP.good {ck : Int} {L : List Pin} {a : Option Addr} {n c : Nat} {w : World} {e : Ending} {w' : World} (hn : L.length = n) (he : e = .returned (.tuple #[.agg #[.int .i64 ck, .slice a n c], .int .i64 0])) (ho : SlN w' a n c L) (hb : Ext w w') : RUApP ck L 0 w e w' := by
  subst hn
  exact ⟨a, c, by rw [he]; unfold sv Upt.ack; rw [if_pos rfl], ho, hb⟩
theorem UApP.weak {ck : Int} {L : List Pin} {z : Int} {w : World} {e : Ending} {w' : World} (h : UApP ck L z w e w') : RUApP ck L z w e w' := by
  obtain ⟨v, he, ho, hb⟩ := h
  obtain ⟨a, c, hv, hs, -⟩ := ho.sl
  subst hv
  exact ⟨a, c, he, hs, hb⟩
theorem SlN.setOld {w : World} {a : Option Addr} {n c : Nat} {L : List Pin} (h : SlN w a n c L) {g : Nat} (hne : ∀ x, a = some x → L ≠ [] → x.block ≠ g) (i : Nat) (u : Value) : SlN (w.setCell ⟨g, i, none⟩ u) a n c L :=
  h.stay (fun x hx hl => heap_setCell_other _ _ _ _ (hne x hx hl)) (by simp)

theorem SlN.setOldR {w : World} {a : Option Addr} {n c : Nat} {L : List Pin} (h : SlN w a n c L) {B : Nat} {x : Int} {v : Value} (hr : SBox w B x v) (i j : Nat) (p q : Value) : SlN ((w.setCell ⟨B, i, none⟩ p).setCell ⟨B, j, none⟩ q) a n c L := by
  have key : ∀ y, a = some y → L ≠ [] → y.block ≠ B := by
    intro y hy hl e
    obtain ⟨l, hl'⟩ : ∃ l, L = l := ⟨_, rfl⟩
    cases L with
    | nil => exact hl rfl
    | cons p0 L0 =>
      obtain ⟨hsp, hb, hp⟩ := h.2.2.2.2 y hy 0 (by simp)
      obtain ⟨yb, yo, ys⟩ := y
      simp only at e hsp hp
      subst e
      have h0 := hp.1
      have h1 := hp.2.1
      have h2 := hp.2.2
      rw [cell_of_row _ _ _ _ _ _ hr] at h0 h1 h2
      have hb0 : yo + 0 * 3 < 2 := by
        have := (Array.getElem?_eq_some_iff.1 h0).1; simpa using this
      have hb2 := (Array.getElem?_eq_some_iff.1 h2).1
      simp at hb2
      omega
  exact (h.setOld key i p).setOld key j q

set_option maxRecDepth 100000 in
set_option maxHeartbeats 16000000 in
theorem ru_apply (ck : Int) (a : Option Addr) (n c : Nat) (L : List Pin) (u : UpdV) (cap : Int) (w : World) (h : SlN w a n c L) (hn : n ≤ 100000) (hL : ∀ p ∈ L, p.h.length ≤ 1000000) (hu : u.p.h.length ≤ 1000000) :
    Calls Tryz.prog 9 #[.agg #[.int .i64 ck, .slice a n c], uv u, .int .i64 cap] w (RUApP ck (Upt.apply ck L u cap).1 (Upt.apply ck L u cap).2 w) := by
  have hb0 := (Below.refl w.heap.size w).alloc (Nat.le_refl _) (.cells #[.int .i64 ck, .slice a n c] 24)
  have hS0 := SBox.new w ck (.slice a n c)
  have hz0 : (w.alloc (.cells #[.int .i64 ck, .slice a n c] 24)).heap.size = w.heap.size + 1 := by simp
  have HE0 : ∀ o, Ext (w.alloc (.cells #[.int .i64 ck, .slice a n c] 24)) ((w.alloc (.cells #[.int .i64 ck, .slice a n c] 24)).alloc o) := fun o => (Ext.refl _).alloc o
  have hU0 := UBox.new (w.alloc (.cells #[.int .i64 ck, .slice a n c] 24)) u.k (str u.p.h) u.p.s u.p.x
  have hb1 := hb0.alloc hb0.size (.cells #[.int .i64 u.k, .string (str u.p.h), .bool u.p.s, .int .i64 u.p.x] 28)
  have hS1 := hS0.ext (HE0 (.cells #[.int .i64 u.k, .string (str u.p.h), .bool u.p.s, .int .i64 u.p.x] 28))
  rw [hz0] at hU0
  have hz1 : ((w.alloc (.cells #[.int .i64 ck, .slice a n c] 24)).alloc (.cells #[.int .i64 u.k, .string (str u.p.h), .bool u.p.s, .int .i64 u.p.x] 28)).heap.size = w.heap.size + 2 := by simp
  have hR0 := SBox.new ((w.alloc (.cells #[.int .i64 ck, .slice a n c] 24)).alloc (.cells #[.int .i64 u.k, .string (str u.p.h), .bool u.p.s, .int .i64 u.p.x] 28)) 0 (.slice none 0 0)
  rw [hz1] at hR0
  have hE1 : Ext ((w.alloc (.cells #[.int .i64 ck, .slice a n c] 24)).alloc (.cells #[.int .i64 u.k, .string (str u.p.h), .bool u.p.s, .int .i64 u.p.x] 28)) _ := (Ext.refl _).alloc (.cells #[.int .i64 0, .slice none 0 0] 24)
  have hb2 := hb1.alloc hb1.size (.cells #[.int .i64 0, .slice none 0 0] 24)
  have hS2 := hS1.ext hE1
  have hU2 := hU0.ext hE1
  have hz2 : (((w.alloc (.cells #[.int .i64 ck, .slice a n c] 24)).alloc (.cells #[.int .i64 u.k, .string (str u.p.h), .bool u.p.s, .int .i64 u.p.x] 28)).alloc (.cells #[.int .i64 0, .slice none 0 0] 24)).heap.size = w.heap.size + 3 := by simp
  have hs2 := h.ext hb2
  have HVS := Lib.hid (fun W (hs : SlN W a n c L) => ru_validState ck a n c L W hs (by omega) hL)
  have HV := Lib.hid (fun W => ru_valid u hu W)
  obtain ⟨sb, hsb⟩ : ∃ b, Upt.stValid ck L = b := ⟨_, rfl⟩
  obtain ⟨vb, hvb⟩ : ∃ b, Upt.valid u = b := ⟨_, rfl⟩
  rw [hsb] at HVS
  rw [hvb] at HV
  have HSB := Lib.hid hsb
  have HVB := Lib.hid hvb
  have HLN := Lib.hid h.len
  have HL := Lib.hid hL
  have HUL := Lib.hid hu
  unfold uv uc at HV
  unfold uv uc
  obtain ⟨sh, hsh⟩ : ∃ s, str u.p.h = s := ⟨_, rfl⟩
  obtain ⟨ps, hps⟩ : ∃ s, u.p.s = s := ⟨_, rfl⟩
  obtain ⟨px, hpx⟩ : ∃ s, u.p.x = s := ⟨_, rfl⟩
  obtain ⟨k, hk⟩ : ∃ s, u.k = s := ⟨_, rfl⟩
  rw [hsh, hps, hpx, hk] at HV hb2 hS2 hU2 hR0 hz2 hs2
  rw [hsh, hps, hpx, hk]
  obtain ⟨W3, hW3⟩ : ∃ W3, ((w.alloc (.cells #[.int .i64 ck, .slice a n c] 24)).alloc (.cells #[.int .i64 k, .string sh, .bool ps, .int .i64 px] 28)).alloc (.cells #[.int .i64 0, .slice none 0 0] 24) = W3 := ⟨_, rfl⟩
  rw [hW3] at hb2 hS2 hU2 hR0 hz2 hs2
  have HW3 := Lib.hid hW3
  have HB3 := Lib.hid hb2
  have HS3 := Lib.hid hS2
  have HU3 := Lib.hid hU2
  have HR3 := Lib.hid hR0
  have HZ3 := Lib.hid hz2
  have HSL := Lib.hid hs2
  have HP := Lib.hid (And.intro hsh (And.intro hps (And.intro hpx hk)))
  clear hsh hps hpx hk hW3 hb0 hb1 hb2 hS0 hS1 hS2 hU0 hU2 hR0 hz0 hz1 hz2 hs2 HE0 hE1 hsb hvb h hL hu
  have HCL := Lib.hid (show ∀ W, Ext W3 W → SBox W w.heap.size ck (.slice a n c) ∧ UBox W (w.heap.size + 1) k sh ps px ∧ SBox W (w.heap.size + 2) 0 (.slice none 0 0) from fun W e => ⟨HS3.out.ext e, HU3.out.ext e, HR3.out.ext e⟩)
  cases sb with
  | false =>
    have HR := Lib.hid (Upt.apply_bad (c := ck) (L := L) (u := u) (cap := cap) (.inl HSB.out))
    go_enter Tryz.func9, Tryz.ntmps9
    go_wp2_with fail
    rw [HW3.out]
    refine (HVS.out _ HSL.out).mono ?_; rintro e w4 ⟨rfl, hB4⟩
    obtain ⟨hs, hu, hr⟩ := HCL.out _ hB4
    obtain ⟨s0, s1⟩ := hs.cells
    obtain ⟨u0, u1, u2, u3⟩ := hu.cells
    obtain ⟨r0, r1⟩ := hr.cells
    have fr := hr.frz
    have ls := heap_lt hs
    have lu := heap_lt hu
    have lr := heap_lt hr
    have HR9 := Lib.hid hr
    clear hs hu hr
    go_wp2_with fail
    have hfin := (HR9.out).set2 0 (.slice none 0 0)
    have d0 := hfin.cells.1
    have d1 := hfin.cells.2
    refine bodyPost_ret (v := .tuple #[.agg #[.int .i64 0, .slice none 0 0], .int .i64 1]) (by simp [results, Tryz.results9, go_sem, d0, d1]) rfl (RUApP.of HR.out (RUApP.bad (by decide) rfl ?_))
    exact ((HB3.out.trans (Below.mono hB4 HB3.out.size)).setCell (p := ⟨w.heap.size + 2, 0, none⟩) (Nat.le_add_right _ _) _).setCell (p := ⟨w.heap.size + 2, 1, none⟩) (Nat.le_add_right _ _) _
  | true =>
    cases vb with
    | false =>
      have HR := Lib.hid (Upt.apply_bad (c := ck) (L := L) (u := u) (cap := cap) (.inr HVB.out))
      go_enter Tryz.func9, Tryz.ntmps9
      go_wp2_with fail
      rw [HW3.out]
      refine (HVS.out _ HSL.out).mono ?_; rintro e w4 ⟨rfl, hB4⟩
      obtain ⟨hs, hu, hr⟩ := HCL.out _ hB4
      obtain ⟨s0, s1⟩ := hs.cells
      obtain ⟨u0, u1, u2, u3⟩ := hu.cells
      obtain ⟨r0, r1⟩ := hr.cells
      have fr := hr.frz
      have ls := heap_lt hs
      have lu := heap_lt hu
      have lr := heap_lt hr
      clear hs hu hr
      go_wp2_with fail
      refine (HV.out _).mono ?_; rintro e w5 ⟨rfl, hB5⟩
      have hB45 : Ext W3 w5 := Ext.step hB5 hB4
      clear s0 s1 u0 u1 u2 u3 r0 r1 fr ls lu lr
      obtain ⟨hs, hu, hr⟩ := HCL.out _ hB45
      obtain ⟨s0, s1⟩ := hs.cells
      obtain ⟨u0, u1, u2, u3⟩ := hu.cells
      obtain ⟨r0, r1⟩ := hr.cells
      have fr := hr.frz
      have ls := heap_lt hs
      have lu := heap_lt hu
      have lr := heap_lt hr
      have HR9 := Lib.hid hr
      clear hs hu hr
      go_wp2_with fail
      have hfin := (HR9.out).set2 0 (.slice none 0 0)
      have d0 := hfin.cells.1
      have d1 := hfin.cells.2
      refine bodyPost_ret (v := .tuple #[.agg #[.int .i64 0, .slice none 0 0], .int .i64 1]) (by simp [results, Tryz.results9, go_sem, d0, d1]) rfl (RUApP.of HR.out (RUApP.bad (by decide) rfl ?_))
      exact ((HB3.out.trans (Below.mono hB45 HB3.out.size)).setCell (p := ⟨w.heap.size + 2, 0, none⟩) (Nat.le_add_right _ _) _).setCell (p := ⟨w.heap.size + 2, 1, none⟩) (Nat.le_add_right _ _) _
    | true =>
      have hASC := ((Upt.stValid_iff ck L).1 HSB.out).2.2.2.2
      rcases Upt.kind_of HVB.out with hk | hk
      · have hk1 := HP.out.2.2.2.symm.trans hk
        subst hk1
        have hvp : Pin.valid u.p = true := by
          rcases Upt.valid_cases HVB.out with ⟨-, e⟩ | ⟨e, -, -⟩
          · exact e
          · omega
        have hput : ∀ mm : Int, min cap 1000 = mm → ∀ W, SlN W a n c L → Calls Tryz.prog 28 #[.slice a n c, .agg #[.string sh, .bool ps, .int .i64 px], .int .i64 mm] W fun e w' =>
            ∃ a2 n2 c2, e = .returned (.tuple #[.slice a2 n2 c2, .int .i64 (Upt.apply ck L u cap).2]) ∧ ((Upt.apply ck L u cap).2 = 0 → (Upt.apply ck L u cap).1.length = n2 ∧ SlN w' a2 n2 c2 (Upt.apply ck L u cap).1) ∧ Below W.heap.size W w' := by
          intro mm hmm W hs
          have hq := rt_put a n c L u.p mm W hs (by omega) HL.out HUL.out
          unfold pv at hq
          rw [HP.out.1, HP.out.2.1, HP.out.2.2.1] at hq
          refine hq.mono ?_
          rintro e w' ⟨v, rfl, hno, hb⟩
          have hra := Tab.rput_any hASC mm hvp
          have hap : Upt.apply ck L u cap = if Tab.hit L u.p.h = true then (Upt.ins L u.p, 0) else if mm ≤ (L.length : Int) then ([], 11) else (Upt.ins L u.p, 0) := by
            unfold Upt.apply Upt.upd
            rw [if_neg (by rw [HSB.out, HVB.out]; decide)]
            simp only [if_neg (show ¬ u.k = 2 by omega), hmm]
          have h2 : (Tab.rput L u.p mm).2 = (Upt.apply ck L u cap).2 ∧ ((Upt.apply ck L u cap).2 = 0 → (Tab.rput L u.p mm).1 = (Upt.apply ck L u cap).1) := by
            rw [hra, hap]
            split
            · exact ⟨rfl, fun _ => rfl⟩
            · split
              · exact ⟨rfl, fun e => by cases e⟩
              · exact ⟨rfl, fun _ => rfl⟩
          obtain ⟨a2, c2, hv, hsl⟩ := hno.sl hs hb
          subst hv
          refine ⟨a2, _, c2, by rw [h2.1], fun h0 => ?_, hb⟩
          rw [← h2.2 h0]
          exact ⟨rfl, hsl⟩
        obtain ⟨⟨R, z⟩, hap⟩ : ∃ r, Upt.apply ck L u cap = r := ⟨_, rfl⟩
        rw [hap] at hput
        simp only at hput
        have HPUT := Lib.hid hput
        have HR := Lib.hid hap
        clear hput hap hASC hvp hk
        have HPM := Lib.hid (HPUT.out (min cap 1000) rfl)
        all_goals
          go_enter Tryz.func9, Tryz.ntmps9
          go_wp2_with fail
          rw [HW3.out]
          refine (HVS.out _ HSL.out).mono ?_; rintro e w4 ⟨rfl, hB4⟩
          obtain ⟨hs, hu, hr⟩ := HCL.out _ hB4
          obtain ⟨s0, s1⟩ := hs.cells
          obtain ⟨u0, u1, u2, u3⟩ := hu.cells
          obtain ⟨r0, r1⟩ := hr.cells
          have fr := hr.frz
          have ls := heap_lt hs
          have lu := heap_lt hu
          have lr := heap_lt hr
          clear hs hu hr
          go_wp2_with fail
          refine (HV.out _).mono ?_; rintro e w5 ⟨rfl, hB5⟩
          have hB45 : Ext W3 w5 := Ext.step hB5 hB4
          clear s0 s1 u0 u1 u2 u3 r0 r1 fr ls lu lr
          obtain ⟨hs, hu, hr⟩ := HCL.out _ hB45
          obtain ⟨s0, s1⟩ := hs.cells
          obtain ⟨u0, u1, u2, u3⟩ := hu.cells
          obtain ⟨r0, r1⟩ := hr.cells
          have fr := hr.frz
          have ls := heap_lt hs
          have lu := heap_lt hu
          have lr := heap_lt hr
          have HS5 := Lib.hid hs
          have HR5 := Lib.hid hr
          clear hs hu hr
          have hz5 : W3.heap.size ≤ w5.heap.size := hB45.size
          have HB5 := Lib.hid (HB3.out.trans (Below.mono hB45 HB3.out.size))
          have HSL5 := Lib.hid (HSL.out.ext hB45)
          go_wp2_with fail
          refine (HPM.out _ HSL5.out).mono ?_; rintro e w6 ⟨a2, n2, c2, rfl, hz0, hB6⟩
          have HZ0 := Lib.hid hz0
          clear hz0
          have hS6 := HS5.out.ext hB6
          have hR6 := HR5.out.ext hB6
          have hB06 := HB5.out.trans (hB6.mono HB5.out.size)
          clear s0 s1 u0 u1 u2 u3 r0 r1 fr ls lu lr
          obtain ⟨s0, s1⟩ := hS6.cells
          obtain ⟨r0, r1⟩ := hR6.cells
          have fr := hR6.frz
          have ls := heap_lt hS6
          have lr := heap_lt hR6
          have HR6 := Lib.hid hR6
          have HB6 := Lib.hid hB06
          clear hS6 hR6 hB06 hB6
          by_cases hz : z = 0
          · subst hz
            obtain ⟨hn2, hs2⟩ := HZ0.out rfl
            have HN2 := Lib.hid hn2
            have HS2 := Lib.hid hs2
            clear hn2 hs2
            go_wp2_with fail
            have hfin := (HR6.out).set2 ck (.slice a2 n2 c2)
            have d0 := hfin.cells.1
            have d1 := hfin.cells.2
            refine bodyPost_ret (v := .tuple #[.agg #[.int .i64 ck, .slice a2 n2 c2], .int .i64 0]) (by simp [results, Tryz.results9, go_sem, d0, d1]) rfl (RUApP.of HR.out (RUApP.good HN2.out rfl ?_ ?_))
            · exact HS2.out.setOldR HR6.out _ _ _ _
            · exact (HB6.out.setCell (p := ⟨w.heap.size + 2, 0, none⟩) (Nat.le_add_right _ _) (.int .i64 ck)).setCell (p := ⟨w.heap.size + 2, 1, none⟩) (Nat.le_add_right _ _) (.slice a2 n2 c2)
          · have t1 : (z != 0) = true := by simpa using hz
            have t2 : (z == 0) = false := by simpa using hz
            have hRn : R = [] := by
              have := Upt.apply_err ck L u cap (by rw [HR.out]; exact hz)
              rw [HR.out] at this; exact this
            subst hRn
            have HNZ := Lib.hid hz
            clear hz
            go_wp2_with fail
            have hfin := (HR6.out).set2 0 (.slice none 0 0)
            have d0 := hfin.cells.1
            have d1 := hfin.cells.2
            refine bodyPost_ret (v := .tuple #[.agg #[.int .i64 0, .slice none 0 0], .int .i64 z]) (by simp [results, Tryz.results9, go_sem, d0, d1]) rfl (RUApP.of HR.out (RUApP.bad HNZ.out rfl ?_))
            exact (HB6.out.setCell (p := ⟨w.heap.size + 2, 0, none⟩) (Nat.le_add_right _ _) _).setCell (p := ⟨w.heap.size + 2, 1, none⟩) (Nat.le_add_right _ _) _
      · have hk1 := HP.out.2.2.2.symm.trans hk
        subst hk1
        have hap := Upt.apply_rem (cap := cap) HSB.out HVB.out hk
        have HREM := Lib.hid (fun W (hs : SlN W a n c L) => rt_remove a n c L u.p.h W hs (by omega))
        unfold RRemP at HREM
        rw [Tab.rremove_is hASC, HP.out.1] at HREM
        have hrl := Tab.remove_len L u.p.h
        rw [HLN.out] at hrl
        obtain ⟨⟨R, fd⟩, hrm⟩ : ∃ R, Tab.remove L u.p.h = R := ⟨_, rfl⟩
        rw [hrm] at HREM hap hrl
        simp only at HREM hap hrl
        obtain ⟨m, hm⟩ : ∃ m, R.length = m := ⟨_, rfl⟩
        rw [hm] at hrl
        have HR := Lib.hid hap
        have HM := Lib.hid hm
        clear hap hrm hASC hk hm
        go_enter Tryz.func9, Tryz.ntmps9
        go_wp2_with fail
        rw [HW3.out]
        refine (HVS.out _ HSL.out).mono ?_; rintro e w4 ⟨rfl, hB4⟩
        obtain ⟨hs, hu, hr⟩ := HCL.out _ hB4
        obtain ⟨s0, s1⟩ := hs.cells
        obtain ⟨u0, u1, u2, u3⟩ := hu.cells
        obtain ⟨r0, r1⟩ := hr.cells
        have fr := hr.frz
        have ls := heap_lt hs
        have lu := heap_lt hu
        have lr := heap_lt hr
        clear hs hu hr
        go_wp2_with fail
        refine (HV.out _).mono ?_; rintro e w5 ⟨rfl, hB5⟩
        have hB45 : Ext W3 w5 := Ext.step hB5 hB4
        clear s0 s1 u0 u1 u2 u3 r0 r1 fr ls lu lr
        obtain ⟨hs, hu, hr⟩ := HCL.out _ hB45
        obtain ⟨s0, s1⟩ := hs.cells
        obtain ⟨u0, u1, u2, u3⟩ := hu.cells
        obtain ⟨r0, r1⟩ := hr.cells
        have fr := hr.frz
        have ls := heap_lt hs
        have lu := heap_lt hu
        have lr := heap_lt hr
        have HS5 := Lib.hid hs
        have HR5 := Lib.hid hr
        clear hs hu hr
        have hz5 : W3.heap.size ≤ w5.heap.size := hB45.size
        have HB5 := Lib.hid (HB3.out.trans (Below.mono hB45 HB3.out.size))
        have HSL5 := Lib.hid (HSL.out.ext hB45)
        go_wp2_with fail
        refine (HREM.out _ HSL5.out).mono ?_; rintro e w6 ⟨v6, rfl, hno, hB6⟩
        obtain ⟨a6, c6, hv6, hs6⟩ := hno.sl HSL5.out hB6
        rw [HM.out] at hv6 hs6
        subst hv6
        have hS6 := HS5.out.ext hB6
        have hR6 := HR5.out.ext hB6
        have hB06 := HB5.out.trans (hB6.mono HB5.out.size)
        clear s0 s1 u0 u1 u2 u3 r0 r1 fr ls lu lr
        obtain ⟨s0, s1⟩ := hS6.cells
        obtain ⟨r0, r1⟩ := hR6.cells
        have fr := hR6.frz
        have ls := heap_lt hS6
        have lr := heap_lt hR6
        have hex : Below w6.heap.size w6 (w6.drew.alloc (.cells #[] 26)) := (Below.drew (Below.refl _ _)).alloc (Nat.le_refl _) _
        have HEM := Lib.hid (show OwnN w6.heap.size (w6.drew.alloc (.cells #[] 26)) (.slice (some ⟨w6.heap.size, 0, none⟩) 0 0) [] from OwnN.empty w6.drew (Nat.le_refl _))
        have HS6 := Lib.hid (hs6.ext hex)
        have HEX := Lib.hid hex
        have HSB6 := Lib.hid hS6
        have HRB6 := Lib.hid hR6
        have HB6 := Lib.hid hB06
        have HKS := Lib.hid (show ∀ W, SBox W w.heap.size ck (.slice a n c) → SBox W w.heap.size ck (.slice a n c) ∧ W.cell? ⟨w.heap.size, 0, none⟩ = some (.int .i64 ck) ∧ w.heap.size < W.heap.size from fun W h => ⟨h, h.cells.1, heap_lt h⟩)
        have HM' : m ≤ 1000000 := by omega
        clear hS6 hR6 hB06 hB6 hno hs6 hex
        go_wp2_with fail
        go_region_held3 (fun w' => SBox w' w.heap.size ck (.slice a n c) ∧ w'.cell? ⟨w.heap.size, 0, none⟩ = some (.int .i64 ck) ∧ w.heap.size < w'.heap.size) (first | assumption | exact HKS.out _ HSB6.out | exact HKS.out _ hS1 | exact HKS.out _ (SBox.ext (And.left (by assumption)) ((Ext.refl _).alloc _)) | exact HKS.out _ ((hS1.other (by omega) _ _).other (by omega) _ _)) (first | (refine step_append_pins rfl (.tmp 35) (.tmp 36) rfl w6.heap.size _ [] (by simp [Act.eval]) HEM.out a6 m c6 R (by simp [Act.eval]) HS6.out (by simp; omega) (by simp) ?_; intro v1 w1 hO1 hg1; rw [List.nil_append] at hO1; obtain ⟨a1, c1, hv1, -, -⟩ := hO1.sl; rw [HM.out] at hv1; subst hv1; have hB7 : Below w6.heap.size w6 w1 := HEX.out.grown hg1 (by simp) (fun j hj => by cases hj; exact Nat.le_refl _); have hS1 : SBox w1 w.heap.size ck (.slice a n c) := HSB6.out.ext hB7; have HR7 := Lib.hid (HRB6.out.ext hB7); have HB7 := Lib.hid (HB6.out.trans (hB7.mono HB6.out.size)); obtain ⟨q0, q1⟩ := HR7.out.cells; have fq := HR7.out.frz; have lq := heap_lt HR7.out; clear hB7))
        have HO1 := Lib.hid hO1
        clear hS1 hO1 hg1 r0 r1 fr lr q0 q1
        try clear hS1
        go_wp2_with fail
        have hfin := (HR7.out).set2 ck (.slice a1 m c1)
        have d0 := hfin.cells.1
        have d1 := hfin.cells.2
        refine bodyPost_ret (v := .tuple #[.agg #[.int .i64 ck, .slice a1 m c1], .int .i64 0]) (by simp [results, Tryz.results9, go_sem, d0, d1]) rfl (RUApP.of HR.out (RUApP.good HM.out rfl ?_ ?_))
        · exact HO1.out.slN.setOldR HR7.out _ _ _ _
        · exact (HB7.out.setCell (p := ⟨w.heap.size + 2, 0, none⟩) (Nat.le_add_right _ _) (.int .i64 ck)).setCell (p := ⟨w.heap.size + 2, 1, none⟩) (Nat.le_add_right _ _) (.slice a1 m c1)

end Go.Proofs.YtjfflnnepndlkaaGreatDoor

/-
  The walk of UpdateApplyMatchesSpec.
-/
namespace Go.Proofs.YtjfflnnepndlkaaGreatDoor
open Go.RowKit

set_option maxHeartbeats 8000000 in
set_option maxRecDepth 100000 in
theorem upt_apply_spec (ck : Int) (a : Option Addr) (n c : Nat) (L : List Pin) (u : UpdV) (cap : Int) (w : World) (h : SlN w a n c L) (_hw : (Lit.int .i64 cap).wf = true) :
    Calls Tryz.prog 3 #[.agg #[.int .i64 ck, .slice a n c], uv u, .int .i64 cap] w fun e w' => e = .returned (.bool true) ∧ Below w.heap.size w w' := by
  have HAW := Lib.hid upt_awake
  have hb0 := (Below.refl w.heap.size w).alloc (Nat.le_refl _) (.cells #[.int .i64 ck, .slice a n c] 24)
  have hS0 := SBox.new w ck (.slice a n c)
  have hz0 : (w.alloc (.cells #[.int .i64 ck, .slice a n c] 24)).heap.size = w.heap.size + 1 := by simp
  have hU0 := UBox.new (w.alloc (.cells #[.int .i64 ck, .slice a n c] 24)) u.k (str u.p.h) u.p.s u.p.x
  have hb1 := hb0.alloc hb0.size (.cells #[.int .i64 u.k, .string (str u.p.h), .bool u.p.s, .int .i64 u.p.x] 28)
  have hS1 := hS0.ext ((Ext.refl _).alloc (.cells #[.int .i64 u.k, .string (str u.p.h), .bool u.p.s, .int .i64 u.p.x] 28))
  rw [hz0] at hU0
  have hsl := h.ext hb1
  have hle := h.le
  have hsz : ((str u.p.h).size : Int) = (u.p.h.length : Int) := by rw [strSize]
  have HSP := Lib.hid (fun W (hs : SlN W a n c L) => keep_smallPins 60 a n c L W hs)
  by_cases hsm : n ≤ 60 ∧ ∀ p ∈ L, p.h.length ≤ 300
  · have hbt : (decide (n ≤ 60) && L.all fun x => decide (x.h.length ≤ 300)) = true := by
      rw [decide_eq_true hsm.1, Bool.true_and, List.all_eq_true]; exact fun p hp => decide_eq_true (hsm.2 p hp)
    rw [hbt] at HSP
    have HSP := Lib.hid HSP.out
    have hL : ∀ p ∈ L, p.h.length ≤ 1000000 := fun p hp => Nat.le_trans (hsm.2 p hp) (by omega)
    obtain ⟨hn60, -⟩ := hsm
    by_cases hu : u.p.h.length ≤ 400
    · have HO := Lib.hid (fun W (hs : SlN W a n c L) => keep_ownState ck a n c L W hs (by omega))
      have HA := Lib.hid (fun a9 c9 W (hs : SlN W a9 n c9 L) => (up_apply ck a9 n c9 L u cap W hs (by omega) hL (by omega)).mono (fun e w' hh => hh.weak))
      have HA2 := Lib.hid (fun W (hs : SlN W a n c L) => ru_apply ck a n c L u cap W hs (by omega) hL (by omega))
      have HV := Lib.hid (fun W (hs : SlN W a n c L) => up_validState ck a n c L W hs hL)
      have HV2 := Lib.hid (fun W (hs : SlN W a n c L) => ru_validState ck a n c L W hs (by omega) hL)
      obtain ⟨vb, hvb⟩ : ∃ vb, Upt.stValid ck L = vb := ⟨_, rfl⟩
      rw [hvb] at HV HV2
      unfold RUApP at HA HA2
      obtain ⟨⟨R, z⟩, hap⟩ : ∃ r, Upt.apply ck L u cap = r := ⟨_, rfl⟩
      rw [hap] at HA HA2
      simp only at HA HA2
      obtain ⟨m, hm⟩ : ∃ m, R.length = m := ⟨_, rfl⟩
      obtain ⟨rk, hrk⟩ : ∃ rk, Upt.ack ck z = rk := ⟨_, rfl⟩
      rw [hm, hrk] at HA HA2
      unfold sv at HO HA HA2
      unfold uv uc at HA HA2
      unfold uv uc
      have t1' : ¬ (400 : Int) < (u.p.h.length : Int) := by omega
      obtain ⟨hlen, hhl⟩ : ∃ m, u.p.h.length = m := ⟨_, rfl⟩
      rw [hhl] at hsz t1'
      obtain ⟨sh, hsh⟩ : ∃ s, str u.p.h = s := ⟨_, rfl⟩
      rw [hsh] at HA HA2 hb1 hS1 hU0 hsl hsz ⊢
      generalize u.k = k at *
      generalize u.p.s = ps at *
      generalize u.p.x = px at *
      obtain ⟨W1, hW1⟩ : ∃ W1, (w.alloc (.cells #[.int .i64 ck, .slice a n c] 24)).alloc (.cells #[.int .i64 k, .string sh, .bool ps, .int .i64 px] 28) = W1 := ⟨_, rfl⟩
      rw [hW1] at hb1 hS1 hU0 hsl
      have HW1 := Lib.hid hW1
      have HB1 := Lib.hid hb1
      have HS1 := Lib.hid hS1
      have HU1 := Lib.hid hU0
      have HSL := Lib.hid hsl
      have HCL := Lib.hid (show ∀ W, Ext W1 W → (W.cell? ⟨w.heap.size, 0, none⟩ = some (.int .i64 ck) ∧ W.cell? ⟨w.heap.size, 1, none⟩ = some (.slice a n c) ∧ w.heap.size < W.heap.size) ∧
        (W.cell? ⟨w.heap.size + 1, 0, none⟩ = some (.int .i64 k) ∧ W.cell? ⟨w.heap.size + 1, 1, none⟩ = some (.string sh) ∧ W.cell? ⟨w.heap.size + 1, 2, none⟩ = some (.bool ps) ∧ W.cell? ⟨w.heap.size + 1, 3, none⟩ = some (.int .i64 px) ∧ w.heap.size + 1 < W.heap.size) from
        fun W e => ⟨(HS1.out.ext e).all, (HU1.out.ext e).all⟩)
      clear hvb hap hm hrk hsh hhl hW1 hb0 hb1 hS0 hS1 hU0 hz0 hsl h hbt hL hu
      obtain ⟨⟨x0, x1, x2⟩, ⟨y0, y1, y2, y3, y4⟩⟩ := HCL.out W1 (Ext.refl _)
      go_enter Tryz.func3, Tryz.ntmps3
      go_wp2_with fail
      rw [HW1.out]
      go_wp2_with fail
      refine (HSP.out _ HSL.out).mono ?_; rintro e w2 ⟨rfl, hb2⟩
      have HE2 := Lib.hid (show Ext W1 w2 from hb2)
      clear x0 x1 x2 y0 y1 y2 y3 y4 hb2
      obtain ⟨⟨x0, x1, x2⟩, ⟨y0, y1, y2, y3, y4⟩⟩ := HCL.out w2 HE2.out
      go_wp2_with fail
      refine (HO.out _ (HSL.out.ext HE2.out)).mono ?_; rintro e w3 ⟨a9, c9, rfl, ho3, hb3⟩
      have hE3 : Ext W1 w3 := Ext.step hb3 HE2.out
      have hG3 := SBox.new w3 ck (.slice a9 n c9)
      have hA3 := (Ext.refl w3).alloc (.cells #[.int .i64 ck, .slice a9 n c9] 24)
      have hs3 := ho3.slN.ext hA3
      obtain ⟨W4, hW4⟩ : ∃ W4, w3.alloc (.cells #[.int .i64 ck, .slice a9 n c9] 24) = W4 := ⟨_, rfl⟩
      rw [hW4] at hG3 hA3 hs3
      have HW4 := Lib.hid hW4
      have HG4 := Lib.hid hG3
      have HS9 := Lib.hid hs3
      have HE4 := Lib.hid (Ext.step hA3 hE3)
      clear x0 x1 x2 y0 y1 y2 y3 y4
      obtain ⟨⟨x0, x1, x2⟩, ⟨y0, y1, y2, y3, y4⟩⟩ := HCL.out w3 hE3
      clear ho3 hb3 hE3 hG3 hA3 hs3 hW4
      go_wp2_with fail
      rw [HW4.out]
      refine (HA.out _ _ _ HS9.out).mono ?_; rintro e w5 ⟨a5, c5, rfl, hs5, hb5⟩
      have hE5 : Ext W1 w5 := Ext.step hb5 HE4.out
      have hG5 := SBox.new w5 rk (.slice a5 m c5)
      have hA5 := (Ext.refl w5).alloc (.cells #[.int .i64 rk, .slice a5 m c5] 24)
      have hs5' := hs5.ext hA5
      obtain ⟨W6, hW6⟩ : ∃ W6, w5.alloc (.cells #[.int .i64 rk, .slice a5 m c5] 24) = W6 := ⟨_, rfl⟩
      rw [hW6] at hG5 hA5 hs5'
      have HW6 := Lib.hid hW6
      have HG6 := Lib.hid hG5
      have HS6 := Lib.hid hs5'
      have HE6 := Lib.hid (Ext.step hA5 hE5)
      have HE46 := Lib.hid (Ext.step hA5 hb5)
      clear x0 x1 x2 y0 y1 y2 y3 y4
      obtain ⟨⟨x0, x1, x2⟩, ⟨y0, y1, y2, y3, y4⟩⟩ := HCL.out w5 hE5
      clear hs5 hb5 hE5 hG5 hA5 hs5' hW6
      go_wp2_with fail
      rw [HW6.out]
      refine (HA2.out _ (HSL.out.ext HE6.out)).mono ?_; rintro e w7 ⟨a7, c7, rfl, hs7, hb7⟩
      have hG7 := SBox.new w7 rk (.slice a7 m c7)
      have hA7 := (Ext.refl w7).alloc (.cells #[.int .i64 rk, .slice a7 m c7] 24)
      have hs7' := hs7.ext hA7
      obtain ⟨W8, hW8⟩ : ∃ W8, w7.alloc (.cells #[.int .i64 rk, .slice a7 m c7] 24) = W8 := ⟨_, rfl⟩
      rw [hW8] at hG7 hA7 hs7'
      have hE68 : Ext W6 W8 := Ext.step hA7 hb7
      have hE18 : Ext W1 W8 := Ext.step hE68 HE6.out
      have hE48 : Ext W4 W8 := Ext.step hE68 HE46.out
      have HCM := Lib.hid (show ∀ W, Ext W8 W → Ext W8 W ∧ (W.cell? ⟨w.heap.size, 0, none⟩ = some (.int .i64 ck) ∧ W.cell? ⟨w.heap.size, 1, none⟩ = some (.slice a n c) ∧ w.heap.size < W.heap.size) ∧
        (W.cell? ⟨w3.heap.size, 0, none⟩ = some (.int .i64 ck) ∧ W.cell? ⟨w3.heap.size, 1, none⟩ = some (.slice a9 n c9) ∧ w3.heap.size < W.heap.size) ∧
        (W.cell? ⟨w5.heap.size, 0, none⟩ = some (.int .i64 rk) ∧ W.cell? ⟨w5.heap.size, 1, none⟩ = some (.slice a5 m c5) ∧ w5.heap.size < W.heap.size) ∧
        (W.cell? ⟨w7.heap.size, 0, none⟩ = some (.int .i64 rk) ∧ W.cell? ⟨w7.heap.size, 1, none⟩ = some (.slice a7 m c7) ∧ w7.heap.size < W.heap.size) from
        fun W e => ⟨e, (HCL.out W (Ext.step e hE18)).1, ((HG4.out.ext hE48).ext e).all, ((HG6.out.ext hE68).ext e).all, (hG7.ext e).all⟩)
      have HVA := Lib.hid (fun W (e : Ext W8 W) => HV.out W (HSL.out.ext (Ext.step e hE18)))
      have HVB := Lib.hid (fun W (e : Ext W8 W) => HV2.out W (HSL.out.ext (Ext.step e hE18)))
      have HKA := Lib.hid (show ∀ W, Ext W8 W → Calls Tryz.prog 12 #[.agg #[.int .i64 rk, .slice a5 m c5], .agg #[.int .i64 rk, .slice a7 m c7]] W fun e w' => e = .returned (.bool true) ∧ Ext W w' from fun W e =>
        (keep_states rk rk a5 a7 m m c5 c7 R R W ((HS6.out.ext hE68).ext e) (hs7'.ext e)).mono (fun e w' hh => by rw [decide_eq_true ⟨rfl, rfl⟩] at hh; exact hh))
      have HKB := Lib.hid (show ∀ W, Ext W8 W → Calls Tryz.prog 12 #[.agg #[.int .i64 ck, .slice a9 n c9], .agg #[.int .i64 ck, .slice a n c]] W fun e w' => e = .returned (.bool true) ∧ Ext W w' from fun W e =>
        (keep_states ck ck a9 a n n c9 c L L W ((HS9.out.ext hE48).ext e) (HSL.out.ext (Ext.step e hE18))).mono (fun e w' hh => by rw [decide_eq_true ⟨rfl, rfl⟩] at hh; exact hh))
      have HW8 := Lib.hid hW8
      have HBW := Lib.hid (show Below w.heap.size w W8 from HB1.out.trans (hE18.mono HB1.out.size))
      clear x0 x1 x2 y0 y1 y2 y3 y4 hs7 hb7 hG7 hA7 hs7' hW8 hE68 hE18 hE48
      obtain ⟨-, ⟨x0, x1, x2⟩, ⟨y0, y1, y2⟩, ⟨z0, z1, z2⟩, ⟨v0, v1, v2⟩⟩ := HCM.out W8 (Ext.refl _)
      go_wp2_with fail
      rw [HW8.out]
      go_wp2_with fail
      go_region_held3 (fun W => Ext W8 W ∧ (W.cell? ⟨w.heap.size, 0, none⟩ = some (.int .i64 ck) ∧ W.cell? ⟨w.heap.size, 1, none⟩ = some (.slice a n c) ∧ w.heap.size < W.heap.size) ∧
        (W.cell? ⟨w3.heap.size, 0, none⟩ = some (.int .i64 ck) ∧ W.cell? ⟨w3.heap.size, 1, none⟩ = some (.slice a9 n c9) ∧ w3.heap.size < W.heap.size) ∧
        (W.cell? ⟨w5.heap.size, 0, none⟩ = some (.int .i64 rk) ∧ W.cell? ⟨w5.heap.size, 1, none⟩ = some (.slice a5 m c5) ∧ w5.heap.size < W.heap.size) ∧
        (W.cell? ⟨w7.heap.size, 0, none⟩ = some (.int .i64 rk) ∧ W.cell? ⟨w7.heap.size, 1, none⟩ = some (.slice a7 m c7) ∧ w7.heap.size < W.heap.size)) (first | assumption | exact HCM.out _ (Ext.drew (Ext.refl _)) | exact HCM.out _ (Ext.step (by assumption) (And.left (by assumption)))) (first | (go_at_call 10; go_must (refine (HVA.out _ (And.left (by assumption))).mono ?_); rintro e r1 ⟨rfl, hr1⟩) | (go_at_call 11; go_must (refine (HVB.out _ (And.left (by assumption))).mono ?_); rintro e r2 ⟨rfl, hr2⟩) | (go_at_call_of 12 (Value.agg #[Value.int IntKind.i64 rk, Value.slice a5 m c5]); go_must (refine (HKA.out _ (And.left (by assumption))).mono ?_); rintro e r3 ⟨rfl, hr3⟩) | (go_at_call_of 12 (Value.agg #[Value.int IntKind.i64 ck, Value.slice a9 n c9]); go_must (refine (HKB.out _ (And.left (by assumption))).mono ?_); rintro e r5 ⟨rfl, hr5⟩) | (go_at_call 6; go_must (refine (HAW.out _).mono ?_); rintro e r4 ⟨rfl, hr4⟩))
      all_goals
        have hfin : Ext W8 _ := And.left (by assumption)
        go_wp2_with fail
        go_ret
        exact ⟨rfl, HBW.out.trans (Below.mono hfin HBW.out.size)⟩
    · have t1' : (400 : Int) < (u.p.h.length : Int) := by omega
      unfold uv uc
      generalize str u.p.h = sh at *
      generalize u.k = k at *
      generalize u.p.s = ps at *
      generalize u.p.x = px at *
      generalize u.p.h.length = hl at *
      obtain ⟨W1, hW1⟩ : ∃ W1, (w.alloc (.cells #[.int .i64 ck, .slice a n c] 24)).alloc (.cells #[.int .i64 k, .string sh, .bool ps, .int .i64 px] 28) = W1 := ⟨_, rfl⟩
      rw [hW1] at hb1 hS1 hU0 hsl
      have HW1 := Lib.hid hW1
      have HB1 := Lib.hid hb1
      have HS1 := Lib.hid hS1
      have HU1 := Lib.hid hU0
      have HSL := Lib.hid hsl
      obtain ⟨x0, x1, x2⟩ := HS1.out.all
      clear hW1 hb0 hb1 hS0 hS1 hU0 hz0 hsl h hbt hL hu
      go_enter Tryz.func3, Tryz.ntmps3
      go_wp2_with fail
      rw [HW1.out]
      go_wp2_with fail
      refine (HSP.out _ HSL.out).mono ?_; rintro e w2 ⟨rfl, hb2⟩
      obtain ⟨y0, y1, y2, y3, y4⟩ := (HU1.out.ext hb2).all
      go_wp2_with fail
      refine (HAW.out _).mono ?_; rintro e w3 ⟨rfl, hb3⟩
      go_wp2_with fail
      go_ret
      exact ⟨rfl, HB1.out.trans ((Ext.step hb3 hb2).mono HB1.out.size)⟩
  · have hbt : (decide (n ≤ 60) && L.all fun x => decide (x.h.length ≤ 300)) = false := by
      rw [Bool.eq_false_iff]; intro e
      rw [Bool.and_eq_true, List.all_eq_true] at e
      exact hsm ⟨of_decide_eq_true e.1, fun p hp => of_decide_eq_true (e.2 p hp)⟩
    rw [hbt] at HSP
    have HSP := Lib.hid HSP.out
    unfold uv uc
    generalize str u.p.h = sh at *
    generalize u.k = k at *
    generalize u.p.s = ps at *
    generalize u.p.x = px at *
    obtain ⟨W1, hW1⟩ : ∃ W1, (w.alloc (.cells #[.int .i64 ck, .slice a n c] 24)).alloc (.cells #[.int .i64 k, .string sh, .bool ps, .int .i64 px] 28) = W1 := ⟨_, rfl⟩
    rw [hW1] at hb1 hS1 hU0 hsl
    have HW1 := Lib.hid hW1
    have HB1 := Lib.hid hb1
    have HS1 := Lib.hid hS1
    have HSL := Lib.hid hsl
    obtain ⟨x0, x1, x2⟩ := HS1.out.all
    clear hW1 hb0 hb1 hS0 hS1 hU0 hz0 hsl h hbt hsm hsz
    go_enter Tryz.func3, Tryz.ntmps3
    go_wp2_with fail
    rw [HW1.out]
    go_wp2_with fail
    refine (HSP.out _ HSL.out).mono ?_; rintro e w2 ⟨rfl, hb2⟩
    go_wp2_with fail
    refine (HAW.out _).mono ?_; rintro e w3 ⟨rfl, hb3⟩
    go_wp2_with fail
    go_ret
    exact ⟨rfl, HB1.out.trans ((Ext.step hb3 hb2).mono HB1.out.size)⟩

end Go.Proofs.YtjfflnnepndlkaaGreatDoor
