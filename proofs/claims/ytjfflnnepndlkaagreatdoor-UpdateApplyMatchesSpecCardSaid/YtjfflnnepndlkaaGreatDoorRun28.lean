/-
  The reference's lists of pins (hstsstoreref23): Remove, Put.
-/
import Derived.Test.YtjfflnnepndlkaaGreatDoorRun24
import Derived.Test.YtjfflnnepndlkaaGreatDoorRun20
import Derived.Test.YtjfflnnepndlkaaGreatDoorRun22
namespace Go.Proofs.YtjfflnnepndlkaaGreatDoor
open Go.RowKit

/-- What Remove of the reference returns. -/
def RRemP (a : Option Addr) (n c : Nat) (L : List Pin) (t : List UInt8) (w : World) (e : Ending) (w' : World) : Prop :=
  ∃ v, e = .returned (.tuple #[v, .bool (Tab.rremove L t).2]) ∧ NewOr w w' (.slice a n c) v L (Tab.rremove L t).1 ∧ Below w.heap.size w w'

set_option maxRecDepth 100000 in
set_option maxHeartbeats 4000000 in
theorem rt_remove (a : Option Addr) (n c : Nat) (L : List Pin) (t : List UInt8) (w : World) (h : SlN w a n c L) (hn : n ≤ 1000000) :
    Calls Tryz.prog 27 #[.slice a n c, .string (str t)] w (RRemP a n c L t w) := by
  have HF := Lib.hid (rt_find a n c L t w h)
  have HGO := Lib.hid (show ∀ L' b e w' v, Tab.rremove L t = (L', b) → e = .returned (.tuple #[v, .bool b]) → NewOr w w' (.slice a n c) v L L' → Below w.heap.size w w' → RRemP a n c L t w e w' from fun L' b e w' v h1 h2 h3 h4 => by unfold RRemP; rw [h1]; exact ⟨v, h2, h3, h4⟩)
  have hr : Tab.rremove L t = if Tab.find L t < n then (L.take (Tab.find L t) ++ L.drop (Tab.find L t + 1), true) else (L, false) := by unfold Tab.rremove; rw [h.len]
  obtain ⟨k, hk⟩ : ∃ k, Tab.find L t = k := ⟨_, rfl⟩
  rw [hk] at HF hr
  have HSL := Lib.hid h
  generalize str t = st at *
  by_cases hkn : k < n
  · rw [if_pos hkn] at HF hr
    have HR := Lib.hid hr
    have HLN := Lib.hid h.len
    obtain ⟨bb, o, rfl, -⟩ := h.at hkn
    have hcn := h.2.1
    have hcm := h.2.2.1
    have k0 : (0 : Int) ≤ (k : Int) := by omega
    have k1 : ¬ (k : Int) < 0 := by omega
    have kn : (k : Int) ≤ (n : Int) := by omega
    have kc : (k : Int) ≤ (c : Int) := by omega
    have kc2 : k ≤ c := by omega
    have z1 : (0 : Int) ≤ (k : Int) + 1 := by omega
    have z2 : (k : Int) + 1 ≤ (n : Int) := by omega
    have z3 : k + 1 ≤ n := by omega
    have z9 : (k : Int) ≤ (k : Int) + 1 := by omega
    have wk : IntKind.i64.wrap ((k : Int) + 1) = (k : Int) + 1 := by rw [IntKind.wrap_i64]; omega
    have hEx : Below w.heap.size w (w.alloc (.cells #[] 26)).drew := Below.drew ((Below.refl _ _).alloc (Nat.le_refl _) _)
    have HEX := Lib.hid hEx
    have HE := Lib.hid (show OwnN w.heap.size (w.alloc (.cells #[] 26)).drew (.slice (some ⟨w.heap.size, 0, none⟩) 0 0) [] from (OwnN.empty w (Nat.le_refl _)).stay (fun _ _ => rfl))
    have HHD := Lib.hid ((h.ext hEx).take (k := k) (by omega))
    have hnc : ¬ c = k := by omega
    clear hr hk h hEx
    by_cases hck : c = k + 1
    · have HTL := Lib.hid (show ∀ W, Below w.heap.size w W → SlN W (some ⟨bb, o, none⟩) 0 0 (L.drop (k + 1)) from fun W _ => by
        rw [List.drop_of_length_le (by rw [HLN.out]; omega)]
        exact SlN.zero _ _ _ (Nat.zero_le _))
      obtain rfl : n = k + 1 := by omega
      subst hck
      go_enter Tryz.func27, Tryz.ntmps27
      go_wp2_with fail
      refine HF.out.mono ?_; rintro e w1 ⟨rfl, rfl⟩
      go_wp2_with fail
      go_region_law (first
        | (refine step_append_pins rfl (.tmp 13) (.tmp 16) rfl w.heap.size _ [] (by simp [Act.eval]) (HE.out) (some ⟨bb, o, none⟩) k (k + 1) (L.take k) (by simp [Act.eval]) HHD.out (by simp; omega) (by simp) ?_; intro v1 w1 hO1 hg1; have hB1 : Below w.heap.size w w1 := HEX.out.grown hg1 (by simp) (fun j hj => by cases hj; exact Nat.le_refl _))
        | (refine step_append_pins rfl (.tmp 17) (.tmp 21) rfl w.heap.size v1 _ (by simp [Act.eval]) hO1 (some ⟨bb, o, none⟩) 0 0 (L.drop (k + 1)) (by simp [Act.eval]) (HTL.out _ hB1) (by simp; omega) hB1.size ?_; intro v2 w2 hO2 hg2; have hB2 : Below w.heap.size w w2 := hB1.grown hg2 hB1.size (fun j hj => (hO1.lt j hj).1)))
      have HO2 := Lib.hid (show OwnN w.heap.size w2 v2 (L.take k ++ L.drop (k + 1)) from by simpa using hO2)
      clear hO1 hO2 hg1 hg2
      go_wp2_with fail
      go_ret2
      exact HGO.out _ _ _ _ _ HR.out rfl (.inr HO2.out) hB2
    · have HTL := Lib.hid (show ∀ W, Below w.heap.size w W → SlN W (some ⟨bb, o + (k + 1) * 3, none⟩) (n - (k + 1)) (c - (k + 1)) (L.drop (k + 1)) from fun W hb => (HSL.out.ext hb).drop (by omega))
      go_enter Tryz.func27, Tryz.ntmps27
      go_wp2_with fail
      refine HF.out.mono ?_; rintro e w1 ⟨rfl, rfl⟩
      go_wp2_with fail
      go_region_law (first
        | (refine step_append_pins rfl (.tmp 13) (.tmp 16) rfl w.heap.size _ [] (by simp [Act.eval]) (HE.out) (some ⟨bb, o, none⟩) k c (L.take k) (by simp [Act.eval]) HHD.out (by simp; omega) (by simp) ?_; intro v1 w1 hO1 hg1; have hB1 : Below w.heap.size w w1 := HEX.out.grown hg1 (by simp) (fun j hj => by cases hj; exact Nat.le_refl _))
        | (refine step_append_pins rfl (.tmp 17) (.tmp 21) rfl w.heap.size v1 _ (by simp [Act.eval]) hO1 (some ⟨bb, o + (k + 1) * 3, none⟩) (n - (k + 1)) (c - (k + 1)) (L.drop (k + 1)) (by simp [Act.eval]) (HTL.out _ hB1) (by simp; omega) hB1.size ?_; intro v2 w2 hO2 hg2; have hB2 : Below w.heap.size w w2 := hB1.grown hg2 hB1.size (fun j hj => (hO1.lt j hj).1)))
      have HO2 := Lib.hid (show OwnN w.heap.size w2 v2 (L.take k ++ L.drop (k + 1)) from by simpa using hO2)
      clear hO1 hO2 hg1 hg2
      go_wp2_with fail
      go_ret2
      exact HGO.out _ _ _ _ _ HR.out rfl (.inr HO2.out) hB2
  · rw [if_neg hkn] at HF hr
    have HR := Lib.hid hr
    clear hr hk h
    go_enter Tryz.func27, Tryz.ntmps27
    go_wp2_with fail
    refine HF.out.mono ?_; rintro e w1 ⟨rfl, rfl⟩
    go_wp2_with fail
    go_ret2
    exact HGO.out _ _ _ _ _ HR.out rfl (.inl ⟨rfl, rfl⟩) (Below.refl _ _)

theorem NewOr.sl {w w' : World} {a : Option Addr} {n c : Nat} {v : Value} {L R : List Pin} (h : NewOr w w' (.slice a n c) v L R) (hs : SlN w a n c L) (hb : Below w.heap.size w w') : ∃ a2 c2, v = .slice a2 R.length c2 ∧ SlN w' a2 R.length c2 R := by
  rcases h with ⟨rfl, rfl⟩ | ho
  · exact ⟨a, c, by rw [hs.len], by rw [hs.len]; exact hs.ext hb⟩
  · obtain ⟨a2, c2, h1, h2, -⟩ := ho.sl
    exact ⟨a2, c2, h1, h2⟩

/-- What Put of the reference returns. -/
def RPutP (a : Option Addr) (n c : Nat) (L : List Pin) (p : Pin) (cap : Int) (w : World) (e : Ending) (w' : World) : Prop :=
  ∃ v, e = .returned (.tuple #[v, .int .i64 (Tab.rput L p cap).2]) ∧ NewOr w w' (.slice a n c) v L (Tab.rput L p cap).1 ∧ Below w.heap.size w w'

set_option maxRecDepth 100000 in
set_option maxHeartbeats 8000000 in
/-- The last part of Put: the pin goes in at its place. -/
theorem rt_put (a : Option Addr) (n c : Nat) (L : List Pin) (p : Pin) (cap : Int) (w : World) (h : SlN w a n c L) (hn : n ≤ 1000000) (hL : ∀ q ∈ L, q.h.length ≤ 1000000) (hp : p.h.length ≤ 1000000) :
    Calls Tryz.prog 28 #[.slice a n c, pv p, .int .i64 cap] w (RPutP a n c L p cap w) := by
  have HV := Lib.hid (fun W => rp_valid p hp W)
  have hb0 := (Below.refl w.heap.size w).alloc (Nat.le_refl _) (.cells (pc p) 26)
  have hbx := PBox.new w (str p.h) p.s p.x
  have HREM := Lib.hid (fun W (hB : Below w.heap.size w W) => rt_remove a n c L p.h W (h.ext hB) hn)
  have HGO := Lib.hid (show ∀ L' z e w' v, Tab.rput L p cap = (L', z) → e = .returned (.tuple #[v, .int .i64 z]) → NewOr w w' (.slice a n c) v L L' → Below w.heap.size w w' → RPutP a n c L p cap w e w' from fun L' b e w' v h1 h2 h3 h4 => by unfold RPutP; rw [h1]; exact ⟨v, h2, h3, h4⟩)
  have hr : Tab.rput L p cap = if Pin.valid p = false then (L, 1) else if (Tab.rremove L p.h).2 = false ∧ cap ≤ L.length then (L, 11) else ((Tab.rremove L p.h).1.take (Tab.lo (Tab.rremove L p.h).1 p.h) ++ p :: (Tab.rremove L p.h).1.drop (Tab.lo (Tab.rremove L p.h).1 p.h), 0) := rfl
  have hsub : ∀ q ∈ (Tab.rremove L p.h).1, q.h.length ≤ 1000000 := fun q hq => hL q (by
    unfold Tab.rremove at hq
    split at hq
    · rcases List.mem_append.1 hq with m | m
      · exact List.mem_of_mem_take m
      · exact List.mem_of_mem_drop m
    · exact hq)
  have hRl : (Tab.rremove L p.h).1.length ≤ n := by
    unfold Tab.rremove
    split
    · rw [List.length_append, List.length_take, List.length_drop, h.len]; omega
    · rw [h.len]; exact Nat.le_refl _
  unfold RRemP at HREM
  rw [h.len] at hr
  unfold pc at hb0
  unfold pv at HV ⊢
  obtain ⟨ok, hok⟩ : ∃ b, Pin.valid p = b := ⟨_, rfl⟩
  obtain ⟨⟨R, fd⟩, hrem⟩ : ∃ b, Tab.rremove L p.h = b := ⟨_, rfl⟩
  rw [hok] at HV hr
  rw [hrem] at HREM hr hsub hRl
  simp only at HREM hr hsub hRl
  have HSL := Lib.hid h
  have hz0 : (w.alloc (.cells #[.string (str p.h), .bool p.s, .int .i64 p.x] 26)).heap.size = w.heap.size + 1 := by simp
  have HP0 := Lib.hid (show p = ⟨p.h, p.s, p.x⟩ from rfl)
  obtain ⟨sh, hsh⟩ : ∃ s, str p.h = s := ⟨_, rfl⟩
  rw [hsh] at HV hb0 hbx hz0 HREM ⊢
  have HSH := Lib.hid hsh
  have HB0 := Lib.hid hb0
  have HZ0 := Lib.hid hz0
  have HSUB := Lib.hid hsub
  have HBX := Lib.hid hbx
  clear hok hrem hb0 hz0 hL h hsub hbx hsh
  cases ok with
  | false =>
    have HR := Lib.hid (hr.trans (if_pos rfl))
    clear hr
    go_enter Tryz.func28, Tryz.ntmps28
    go_wp2_with fail
    refine (HV.out _).mono ?_; rintro e w1 ⟨rfl, hB1⟩
    rw [HZ0.out] at hB1
    go_wp2_with fail
    go_ret2
    exact HGO.out _ _ _ _ _ HR.out rfl (.inl ⟨rfl, rfl⟩) (HB0.out.trans (hB1.mono (Nat.le_succ _)))
  | true =>
    rw [if_neg (by decide)] at hr
    by_cases hfull : fd = false ∧ cap ≤ (n : Int)
    · rw [if_pos hfull] at hr
      obtain ⟨rfl, hf2⟩ := hfull
      have HR := Lib.hid hr
      clear hr
      go_enter Tryz.func28, Tryz.ntmps28
      go_wp2_with fail
      refine (HV.out _).mono ?_; rintro e w1 ⟨rfl, hB1⟩
      rw [HZ0.out] at hB1
      have hB := HB0.out.trans (hB1.mono (Nat.le_succ _))
      have hP1 : PBox w1 w.heap.size sh p.s p.x := (hB1.block _ (Nat.lt_succ_self _)).trans HBX.out
      obtain ⟨q0, q1, q2⟩ := hP1.cells
      have hlt1 := heap_lt hP1
      clear hP1
      go_wp2_with fail
      refine (HREM.out _ hB).mono ?_; rintro e w2 ⟨v2, rfl, -, hB2⟩
      go_wp2_with fail
      go_ret2
      exact HGO.out _ _ _ _ _ HR.out rfl (.inl ⟨rfl, rfl⟩) (hB.trans (hB2.mono hB.size))
    · rw [if_neg hfull] at hr
      have HR := Lib.hid hr
      clear hr
      have hnf : fd = false → ¬ cap ≤ (n : Int) := fun e h => hfull ⟨e, h⟩
      clear hfull
      cases fd
      all_goals
        first
          | (have hnf2 := hnf rfl; have tnf : decide (cap ≤ (n : Int)) = false := decide_eq_false hnf2; clear hnf)
          | clear hnf
        go_enter Tryz.func28, Tryz.ntmps28
        go_wp2_with fail
        refine (HV.out _).mono ?_; rintro e w1 ⟨rfl, hB1⟩
        rw [HZ0.out] at hB1
        have hB := HB0.out.trans (hB1.mono (Nat.le_succ _))
        have hP1 : PBox w1 w.heap.size sh p.s p.x := (hB1.block _ (Nat.lt_succ_self _)).trans HBX.out
        obtain ⟨q0, q1, q2⟩ := hP1.cells
        have hlt1 := heap_lt hP1
        have HP1 := Lib.hid hP1
        clear hP1
        go_wp2_with fail
        refine (HREM.out _ hB).mono ?_; rintro e w2 ⟨v2, rfl, hnew, hB2⟩
        obtain ⟨a2, c2, rfl, hs2⟩ := hnew.sl (HSL.out.ext hB) hB2
        have hBB := hB.trans (hB2.mono hB.size)
        have hP2 := HP1.out.ext hB2
        obtain ⟨m, hm⟩ : ∃ m, R.length = m := ⟨_, rfl⟩
        rw [hm] at hs2 hRl ⊢
        have HM := Lib.hid hm
        have HS2 := Lib.hid hs2
        have HP2 := Lib.hid hP2
        have hpb2 := heap_lt hP2
        clear hm hnew hs2 hP2 q0 q1 q2
        go_wp2_with fail
        go_loopw [10] (fun i wr => ∃ k : Nat, k ≤ m ∧ i = .int .i64 (k : Nat) ∧ Hid (∀ q ∈ R.take k, Host.cmp q.h p.h < 0) ∧ Ext w2 wr) (fun i _ => m - (intOf i).toNat)
        case atStart => exact ⟨0, Nat.zero_le _, rfl, Lib.hid (by simp), Ext.refl _⟩
        case round =>
          obtain ⟨k, hk, rfl, HN, hE⟩ := hrel
          have i0 : (0 : Int) ≤ (k : Int) := by omega
          have hp3 := HP2.out.ext hE
          obtain ⟨q0, q1, q2⟩ := hp3.cells
          have hlq := heap_lt hp3
          by_cases hlt : k < m
          · have i2 : (k : Int) < (m : Int) := by omega
            have i3 : decide (k < m) = true := decide_eq_true hlt
            obtain ⟨bb, o, rfl, hbb, hkl, c1, -, -⟩ := (HS2.out.ext hE).at hlt
            rw [List.getElem?_eq_getElem hkl, Option.getD_some] at c1
            have hgt := List.getElem?_eq_getElem hkl
            have HTK := Lib.hid (List.take_succ_eq_append_getElem hkl)
            have HC := Lib.hid (fun W => rp_compare R[k].h p.h (HSUB.out _ (List.getElem_mem hkl)) hp W)
            generalize R[k] = r at *
            obtain ⟨z, hz⟩ : ∃ z, Host.cmp r.h p.h = z := ⟨_, rfl⟩
            obtain ⟨sr, hsr⟩ : ∃ s, str r.h = s := ⟨_, rfl⟩
            rw [hz, hsr, HSH.out] at HC
            rw [hsr] at c1
            have HCL := Lib.hid (show ∀ w', Ext wr w' → Ext wr w' ∧ w'.cell? ⟨bb, o + k * 3, none⟩ = some (.string sr) ∧ w'.cell? ⟨w.heap.size, 0, none⟩ = some (.string sh) ∧ bb < w'.heap.size ∧ w.heap.size < w'.heap.size from fun w' he =>
              ⟨he, (Below.cell he (p := ⟨bb, o + k * 3, none⟩) hbb).trans c1, (hp3.ext he).cells.1, Nat.lt_of_lt_of_le hbb (Below.size he), heap_lt (hp3.ext he)⟩)
            have HZ := Lib.hid hz
            have HG := Lib.hid hgt
            have HE := Lib.hid hE
            clear hgt hz hsr hkl hp3 hE
            by_cases hzn : z < 0
            · have HNN := Lib.hid (show ∀ q ∈ R.take (k + 1), Host.cmp q.h p.h < 0 by
                rw [HTK.out]; intro q hq
                rcases List.mem_append.1 hq with hq | hq
                · exact HN.out q hq
                · simp at hq; subst hq; rw [HZ.out]; exact hzn)
              go_wp2_with fail
              go_region_held3 (fun w' => Ext wr w' ∧ w'.cell? ⟨bb, o + k * 3, none⟩ = some (.string sr) ∧ w'.cell? ⟨w.heap.size, 0, none⟩ = some (.string sh) ∧ bb < w'.heap.size ∧ w.heap.size < w'.heap.size) (first | assumption | exact HCL.out _ (Ext.drew (Ext.refl _)) | exact HCL.out _ (Ext.step (by assumption) (And.left (by assumption)))) (first | (go_at_call 49; go_must (refine (HC.out _).mono ?_); rintro e w9 ⟨rfl, hb9⟩))
              all_goals
                have hfin : Ext wr _ := And.left (by assumption)
                go_wp2_with fail
                go_roundw
                case rel => exact ⟨k + 1, by omega, by go_num, HNN, HE.out.trans (Below.mono hfin HE.out.size)⟩
                case measure => simp [intOf]; omega
            · have hlo : Tab.lo R p.h = k := Tab.lo_eq (by rw [HM.out]; omega) (fun i q hi hq => HN.out q (List.mem_iff_getElem?.2 ⟨i, by rw [List.getElem?_take_of_lt hi]; exact hq⟩)) (fun q hq => by rw [HG.out] at hq; cases hq; rw [HZ.out]; exact hzn)
              go_wp2_with fail
              go_region_held3 (fun w' => Ext wr w' ∧ w'.cell? ⟨bb, o + k * 3, none⟩ = some (.string sr) ∧ w'.cell? ⟨w.heap.size, 0, none⟩ = some (.string sh) ∧ bb < w'.heap.size ∧ w.heap.size < w'.heap.size) (first | assumption | exact HCL.out _ (Ext.drew (Ext.refl _)) | exact HCL.out _ (Ext.step (by assumption) (And.left (by assumption)))) (first | (go_at_call 49; go_must (refine (HC.out _).mono ?_); rintro e w9 ⟨rfl, hb9⟩))
              go_wp2_with fail
              have hfin : Ext wr w9 := And.left (by assumption)
              have HE2 := HE
              have hcm : m ≤ c2 ∧ c2 ≤ maxLen := ⟨HS2.out.2.1, HS2.out.2.2.1⟩
              obtain ⟨hcm, hcmx⟩ := hcm
              have n1 : ¬ c2 = k := by omega
              have n2 : k ≤ c2 := by omega
              have n3 : k ≤ m := by omega
              have n4 : (k : Int) ≤ (c2 : Int) := by omega
              have n5 : (k : Int) ≤ (m : Int) := by omega
              clear c1 q0 q1 q2
              have hBw9 : Below w2.heap.size w2 w9 := HE2.out.trans (Below.mono hfin HE2.out.size)
              have hs9 := HS2.out.ext hBw9
              have hp9 := HP2.out.ext hBw9
              obtain ⟨p0, p1, p2⟩ := hp9.cells
              have hlp9 := heap_lt hp9
              have HP9 := Lib.hid hp9
              have hbX : Below w9.heap.size w9 (w9.alloc (.cells #[] 26)).drew := Below.drew ((Below.refl _ _).alloc (Nat.le_refl _) _)
              have hbY : Below w9.heap.size w9 ((w9.alloc (.cells #[] 26)).alloc (.cells #[.string sh, .bool p.s, .int .i64 p.x] 26)).drew := Below.drew (((Below.refl _ _).alloc (Nat.le_refl _) _).alloc (by simp) _)
              have hbZ : Below w9.heap.size w9 ((w9.alloc (.cells #[.string sh, .bool p.s, .int .i64 p.x] 26)).alloc (.cells #[] 26)).drew := Below.drew (((Below.refl _ _).alloc (Nat.le_refl _) _).alloc (by simp) _)
              have hone : ∀ W : World, SlN (W.alloc (.cells #[.string sh, .bool p.s, .int .i64 p.x] 26)) (some ⟨W.heap.size, 0, none⟩) 1 1 [p] := fun W => by have := SlN.one W p 26; rwa [HSH.out] at this
              have HONE := Lib.hid hone
              have HEX := Lib.hid (show OwnN w9.heap.size (w9.alloc (.cells #[] 26)).drew (.slice (some ⟨w9.heap.size, 0, none⟩) 0 0) [] from (OwnN.empty w9 (Nat.le_refl _)).stay (fun _ _ => rfl))
              have HEY := Lib.hid (show OwnN w9.heap.size ((w9.alloc (.cells #[] 26)).alloc (.cells #[.string sh, .bool p.s, .int .i64 p.x] 26)).drew (.slice (some ⟨w9.heap.size, 0, none⟩) 0 0) [] from ((OwnN.empty w9 (Nat.le_refl _)).alloc _).stay (fun _ _ => rfl))
              have HEZ := Lib.hid (show OwnN w9.heap.size ((w9.alloc (.cells #[.string sh, .bool p.s, .int .i64 p.x] 26)).alloc (.cells #[] 26)).drew (.slice (some ⟨w9.heap.size + 1, 0, none⟩) 0 0) [] from by have := (OwnN.empty (base := w9.heap.size) (w9.alloc (.cells #[.string sh, .bool p.s, .int .i64 p.x] 26)) (by simp)); rw [show (w9.alloc (.cells #[.string sh, .bool p.s, .int .i64 p.x] 26)).heap.size = w9.heap.size + 1 by simp] at this; exact this.stay (fun _ _ => rfl))
              have HNY := Lib.hid (show SlN ((w9.alloc (.cells #[] 26)).alloc (.cells #[.string sh, .bool p.s, .int .i64 p.x] 26)).drew (some ⟨w9.heap.size + 1, 0, none⟩) 1 1 [p] from by have := hone (w9.alloc (.cells #[] 26)); rw [show (w9.alloc (.cells #[] 26)).heap.size = w9.heap.size + 1 by simp] at this; exact this.heap rfl)
              have HNZ := Lib.hid (show SlN ((w9.alloc (.cells #[.string sh, .bool p.s, .int .i64 p.x] 26)).alloc (.cells #[] 26)).drew (some ⟨w9.heap.size, 0, none⟩) 1 1 [p] from ((hone w9).ext ((Below.refl _ _).alloc (Nat.le_refl _) (.cells #[] 26))).heap rfl)
              have HDX := Lib.hid ((hs9.ext hbX).take (k := k) (by omega))
              have HDY := Lib.hid ((hs9.ext hbY).take (k := k) (by omega))
              have HDZ := Lib.hid ((hs9.ext hbZ).take (k := k) (by omega))
              have HBXYZ := Lib.hid (And.intro hbX (And.intro hbY hbZ))
              have HTL := Lib.hid (show ∀ W, Below w9.heap.size w9 W → SlN W (some ⟨bb, o + k * 3, none⟩) (m - k) (c2 - k) (R.drop k) from fun W hb => (hs9.ext hb).drop (by omega))
              have HBF := Lib.hid (hBB.trans (hBw9.mono hBB.size))
              clear hbX hbY hbZ hone hs9 hp9 hBw9
              go_region_law (first | (refine step_append_pins rfl (.tmp 48) (.tmp 51) rfl w9.heap.size _ [] rfl (by first | exact HEX.out | exact HEY.out | exact HEZ.out) _ _ _ (R.take k) rfl (by first | exact HDX.out | exact HDY.out | exact HDZ.out) (by simp; omega) (by simp <;> omega) ?_; intro v1 w1' hO1 hg1; have hb1 : Below w9.heap.size w9 w1' := (by first | exact HBXYZ.out.1.grown hg1 (by simp <;> omega) (fun j hj => by cases hj; first | exact Nat.le_refl _ | exact Nat.le_succ _) | exact HBXYZ.out.2.1.grown hg1 (by simp <;> omega) (fun j hj => by cases hj; first | exact Nat.le_refl _ | exact Nat.le_succ _) | exact HBXYZ.out.2.2.grown hg1 (by simp <;> omega) (fun j hj => by cases hj; first | exact Nat.le_refl _ | exact Nat.le_succ _)); have hsz1 := hb1.size; obtain ⟨x0, x1, x2⟩ := (HP9.out.ext hb1).cells; have hlx := heap_lt (HP9.out.ext hb1)) | (refine step_append_pins rfl (.tmp 52) (.tmp 54) rfl w9.heap.size _ _ rfl (by first | exact hO1 | exact hO1.alloc _) _ _ _ [p] rfl (by first | exact HONE.out w1' | exact HNY.out.grown hg1 (fun y hy => by cases hy; exact fun e => Nat.succ_ne_self _ (Option.some.inj e).symm) | exact HNZ.out.grown hg1 (fun y hy => by cases hy; exact fun e => Nat.succ_ne_self _ (Option.some.inj e))) (by simp; omega) (by first | exact hsz1 | (simp; omega)) ?_; intro v3 w3' hO3 hg2; have hb3 : Below w9.heap.size w9 w3' := (by first | exact hb1.grown hg2 hsz1 (fun j hj => (hO1.lt j hj).1) | exact (hb1.alloc hsz1 (.cells #[.string sh, .bool p.s, .int .i64 p.x] 26)).grown hg2 (by simp <;> omega) (fun j hj => (hO1.lt j hj).1)); have hsz3 := hb3.size) | (refine step_append_pins rfl (.tmp 55) (.tmp 58) rfl w9.heap.size _ _ rfl hO3 _ _ _ (R.drop k) rfl (HTL.out _ hb3) (by simp; omega) hsz3 ?_; intro v4 w4' hO4 hg3; have hb4 : Below w9.heap.size w9 w4' := hb3.grown hg3 hsz3 (fun j hj => (hO3.lt j hj).1)))
              all_goals
                have HO4 := Lib.hid (show OwnN w.heap.size w4' v4 (R.take (Tab.lo R p.h) ++ p :: R.drop (Tab.lo R p.h)) from by rw [hlo]; have := hO4.mono (b' := w.heap.size) HBF.out.size; simpa using this)
                have HB4 := Lib.hid (HBF.out.trans (hb4.mono HBF.out.size))
                clear hO1 hO3 hO4 hg1 hg2 hg3 hb1 hb3 hb4 hsz1 hsz3
                go_wp2_with fail
                go_ret2
                exact HGO.out _ _ _ _ _ HR.out rfl (.inr HO4.out) HB4.out
          · have i3 : decide (k < m) = false := decide_eq_false hlt
            obtain rfl : k = m := by omega
            have hlo : Tab.lo R p.h = k := Tab.lo_eq (by rw [HM.out]; exact Nat.le_refl _) (fun i q hi hq => HN.out q (List.mem_iff_getElem?.2 ⟨i, by rw [List.getElem?_take_of_lt hi]; exact hq⟩)) (fun q hq => by rw [List.getElem?_eq_none (by rw [HM.out]; exact Nat.le_refl _)] at hq; cases hq)
            go_wp2_with fail
            go_quiet (fail)
            go_wp2_with fail
            obtain ⟨w9, hw9⟩ : ∃ w9, wr.drewN nq = w9 := ⟨_, rfl⟩
            rw [hw9]
            have hfin : Ext wr w9 := by rw [← hw9]; exact below_drewN' _ _ _
            have HE2 := Lib.hid hE
            have hkc : k ≤ c2 ∧ c2 ≤ maxLen := ⟨HS2.out.2.1, HS2.out.2.2.1⟩
            obtain ⟨n2, hcmx⟩ := hkc
            have n3 : k ≤ k := Nat.le_refl _
            have n4 : (k : Int) ≤ (c2 : Int) := by omega
            have n5 : (k : Int) ≤ (k : Int) := by omega
            clear q0 q1 q2 hp3 hE hw9
            have HRD := Lib.hid (show R.drop k = [] from List.drop_of_length_le (by rw [HM.out]; exact Nat.le_refl _))
            cases a2 with
            | none =>
              have hz := (HS2.out.2.2.2.1 rfl)
              obtain rfl : k = 0 := by have := HM.out; rw [hz.1] at this; simpa using this.symm
              obtain rfl : c2 = 0 := hz.2
              clear hz
              have hBw9 : Below w2.heap.size w2 w9 := HE2.out.trans (Below.mono hfin HE2.out.size)
              have hs9 := HS2.out.ext hBw9
              have hp9 := HP2.out.ext hBw9
              obtain ⟨p0, p1, p2⟩ := hp9.cells
              have hlp9 := heap_lt hp9
              have HP9 := Lib.hid hp9
              have hbX : Below w9.heap.size w9 (w9.alloc (.cells #[] 26)).drew := Below.drew ((Below.refl _ _).alloc (Nat.le_refl _) _)
              have hbY : Below w9.heap.size w9 ((w9.alloc (.cells #[] 26)).alloc (.cells #[.string sh, .bool p.s, .int .i64 p.x] 26)).drew := Below.drew (((Below.refl _ _).alloc (Nat.le_refl _) _).alloc (by simp) _)
              have hbZ : Below w9.heap.size w9 ((w9.alloc (.cells #[.string sh, .bool p.s, .int .i64 p.x] 26)).alloc (.cells #[] 26)).drew := Below.drew (((Below.refl _ _).alloc (Nat.le_refl _) _).alloc (by simp) _)
              have hone : ∀ W : World, SlN (W.alloc (.cells #[.string sh, .bool p.s, .int .i64 p.x] 26)) (some ⟨W.heap.size, 0, none⟩) 1 1 [p] := fun W => by have := SlN.one W p 26; rwa [HSH.out] at this
              have HONE := Lib.hid hone
              have HEX := Lib.hid (show OwnN w9.heap.size (w9.alloc (.cells #[] 26)).drew (.slice (some ⟨w9.heap.size, 0, none⟩) 0 0) [] from (OwnN.empty w9 (Nat.le_refl _)).stay (fun _ _ => rfl))
              have HEY := Lib.hid (show OwnN w9.heap.size ((w9.alloc (.cells #[] 26)).alloc (.cells #[.string sh, .bool p.s, .int .i64 p.x] 26)).drew (.slice (some ⟨w9.heap.size, 0, none⟩) 0 0) [] from ((OwnN.empty w9 (Nat.le_refl _)).alloc _).stay (fun _ _ => rfl))
              have HEZ := Lib.hid (show OwnN w9.heap.size ((w9.alloc (.cells #[.string sh, .bool p.s, .int .i64 p.x] 26)).alloc (.cells #[] 26)).drew (.slice (some ⟨w9.heap.size + 1, 0, none⟩) 0 0) [] from by have := (OwnN.empty (base := w9.heap.size) (w9.alloc (.cells #[.string sh, .bool p.s, .int .i64 p.x] 26)) (by simp)); rw [show (w9.alloc (.cells #[.string sh, .bool p.s, .int .i64 p.x] 26)).heap.size = w9.heap.size + 1 by simp] at this; exact this.stay (fun _ _ => rfl))
              have HNY := Lib.hid (show SlN ((w9.alloc (.cells #[] 26)).alloc (.cells #[.string sh, .bool p.s, .int .i64 p.x] 26)).drew (some ⟨w9.heap.size + 1, 0, none⟩) 1 1 [p] from by have := hone (w9.alloc (.cells #[] 26)); rw [show (w9.alloc (.cells #[] 26)).heap.size = w9.heap.size + 1 by simp] at this; exact this.heap rfl)
              have HNZ := Lib.hid (show SlN ((w9.alloc (.cells #[.string sh, .bool p.s, .int .i64 p.x] 26)).alloc (.cells #[] 26)).drew (some ⟨w9.heap.size, 0, none⟩) 1 1 [p] from ((hone w9).ext ((Below.refl _ _).alloc (Nat.le_refl _) (.cells #[] 26))).heap rfl)
              have HDX := Lib.hid ((hs9.ext hbX).take (k := 0) (by omega))
              have HDY := Lib.hid ((hs9.ext hbY).take (k := 0) (by omega))
              have HDZ := Lib.hid ((hs9.ext hbZ).take (k := 0) (by omega))
              have HBXYZ := Lib.hid (And.intro hbX (And.intro hbY hbZ))
              have HTL := Lib.hid (show ∀ W, Below w9.heap.size w9 W → SlN W none 0 0 (R.drop 0) from fun W _ => by rw [HRD.out]; exact SlN.nil _)
              have HBF := Lib.hid (hBB.trans (hBw9.mono hBB.size))
              clear hbX hbY hbZ hone hs9 hp9 hBw9
              go_region_law (first | (refine step_append_pins rfl (.tmp 52) (.tmp 54) rfl w9.heap.size _ [] rfl (by first | exact HEY.out | exact HEZ.out) _ _ _ [p] rfl (by first | exact HNY.out | exact HNZ.out) (by simp) (by simp <;> omega) ?_; intro v3 w3' hO3 hg2; have hb3 : Below w9.heap.size w9 w3' := (by first | exact HBXYZ.out.2.1.grown hg2 (by simp <;> omega) (fun j hj => by cases hj; first | exact Nat.le_refl _ | exact Nat.le_succ _) | exact HBXYZ.out.2.2.grown hg2 (by simp <;> omega) (fun j hj => by cases hj; first | exact Nat.le_refl _ | exact Nat.le_succ _)); have hsz3 := hb3.size) | (refine step_append_pins rfl (.tmp 55) (.tmp 58) rfl w9.heap.size _ _ rfl hO3 _ _ _ (R.drop 0) rfl (HTL.out _ hb3) (by simp <;> omega) hsz3 ?_; intro v4 w4' hO4 hg3; have hb4 : Below w9.heap.size w9 w4' := hb3.grown hg3 hsz3 (fun j hj => (hO3.lt j hj).1)))
              all_goals
                have HO4 := Lib.hid (show OwnN w.heap.size w4' v4 (R.take (Tab.lo R p.h) ++ p :: R.drop (Tab.lo R p.h)) from by rw [hlo]; have := hO4.mono (b' := w.heap.size) HBF.out.size; simpa using this)
                have HB4 := Lib.hid (HBF.out.trans (hb4.mono HBF.out.size))
                clear hO3 hO4 hg2 hg3 hb3 hb4 hsz3
                go_wp2_with fail
                go_ret2
                exact HGO.out _ _ _ _ _ HR.out rfl (.inr HO4.out) HB4.out
            | some ad =>
              obtain ⟨bb, o, sp⟩ := ad
              by_cases hck : c2 = k
              · subst hck
                have hBw9 : Below w2.heap.size w2 w9 := HE2.out.trans (Below.mono hfin HE2.out.size)
                have hs9 := HS2.out.ext hBw9
                have hp9 := HP2.out.ext hBw9
                obtain ⟨p0, p1, p2⟩ := hp9.cells
                have hlp9 := heap_lt hp9
                have HP9 := Lib.hid hp9
                have hbX : Below w9.heap.size w9 (w9.alloc (.cells #[] 26)).drew := Below.drew ((Below.refl _ _).alloc (Nat.le_refl _) _)
                have hbY : Below w9.heap.size w9 ((w9.alloc (.cells #[] 26)).alloc (.cells #[.string sh, .bool p.s, .int .i64 p.x] 26)).drew := Below.drew (((Below.refl _ _).alloc (Nat.le_refl _) _).alloc (by simp) _)
                have hbZ : Below w9.heap.size w9 ((w9.alloc (.cells #[.string sh, .bool p.s, .int .i64 p.x] 26)).alloc (.cells #[] 26)).drew := Below.drew (((Below.refl _ _).alloc (Nat.le_refl _) _).alloc (by simp) _)
                have hone : ∀ W : World, SlN (W.alloc (.cells #[.string sh, .bool p.s, .int .i64 p.x] 26)) (some ⟨W.heap.size, 0, none⟩) 1 1 [p] := fun W => by have := SlN.one W p 26; rwa [HSH.out] at this
                have HONE := Lib.hid hone
                have HEX := Lib.hid (show OwnN w9.heap.size (w9.alloc (.cells #[] 26)).drew (.slice (some ⟨w9.heap.size, 0, none⟩) 0 0) [] from (OwnN.empty w9 (Nat.le_refl _)).stay (fun _ _ => rfl))
                have HEY := Lib.hid (show OwnN w9.heap.size ((w9.alloc (.cells #[] 26)).alloc (.cells #[.string sh, .bool p.s, .int .i64 p.x] 26)).drew (.slice (some ⟨w9.heap.size, 0, none⟩) 0 0) [] from ((OwnN.empty w9 (Nat.le_refl _)).alloc _).stay (fun _ _ => rfl))
                have HEZ := Lib.hid (show OwnN w9.heap.size ((w9.alloc (.cells #[.string sh, .bool p.s, .int .i64 p.x] 26)).alloc (.cells #[] 26)).drew (.slice (some ⟨w9.heap.size + 1, 0, none⟩) 0 0) [] from by have := (OwnN.empty (base := w9.heap.size) (w9.alloc (.cells #[.string sh, .bool p.s, .int .i64 p.x] 26)) (by simp)); rw [show (w9.alloc (.cells #[.string sh, .bool p.s, .int .i64 p.x] 26)).heap.size = w9.heap.size + 1 by simp] at this; exact this.stay (fun _ _ => rfl))
                have HNY := Lib.hid (show SlN ((w9.alloc (.cells #[] 26)).alloc (.cells #[.string sh, .bool p.s, .int .i64 p.x] 26)).drew (some ⟨w9.heap.size + 1, 0, none⟩) 1 1 [p] from by have := hone (w9.alloc (.cells #[] 26)); rw [show (w9.alloc (.cells #[] 26)).heap.size = w9.heap.size + 1 by simp] at this; exact this.heap rfl)
                have HNZ := Lib.hid (show SlN ((w9.alloc (.cells #[.string sh, .bool p.s, .int .i64 p.x] 26)).alloc (.cells #[] 26)).drew (some ⟨w9.heap.size, 0, none⟩) 1 1 [p] from ((hone w9).ext ((Below.refl _ _).alloc (Nat.le_refl _) (.cells #[] 26))).heap rfl)
                have HDX := Lib.hid ((hs9.ext hbX).take (k := c2) (by omega))
                have HDY := Lib.hid ((hs9.ext hbY).take (k := c2) (by omega))
                have HDZ := Lib.hid ((hs9.ext hbZ).take (k := c2) (by omega))
                have HBXYZ := Lib.hid (And.intro hbX (And.intro hbY hbZ))
                have HTL := Lib.hid (show ∀ W, Below w9.heap.size w9 W → SlN W (some ⟨bb, o, sp⟩) 0 0 (R.drop c2) from fun W _ => by rw [HRD.out]; exact SlN.zero _ _ _ (Nat.zero_le _))
                have HBF := Lib.hid (hBB.trans (hBw9.mono hBB.size))
                clear hbX hbY hbZ hone hs9 hp9 hBw9
                go_region_law (first | (refine step_append_pins rfl (.tmp 48) (.tmp 51) rfl w9.heap.size _ [] rfl (by first | exact HEX.out | exact HEY.out | exact HEZ.out) _ _ _ (R.take c2) rfl (by first | exact HDX.out | exact HDY.out | exact HDZ.out) (by simp; omega) (by simp <;> omega) ?_; intro v1 w1' hO1 hg1; have hb1 : Below w9.heap.size w9 w1' := (by first | exact HBXYZ.out.1.grown hg1 (by simp <;> omega) (fun j hj => by cases hj; first | exact Nat.le_refl _ | exact Nat.le_succ _) | exact HBXYZ.out.2.1.grown hg1 (by simp <;> omega) (fun j hj => by cases hj; first | exact Nat.le_refl _ | exact Nat.le_succ _) | exact HBXYZ.out.2.2.grown hg1 (by simp <;> omega) (fun j hj => by cases hj; first | exact Nat.le_refl _ | exact Nat.le_succ _)); have hsz1 := hb1.size; obtain ⟨x0, x1, x2⟩ := (HP9.out.ext hb1).cells; have hlx := heap_lt (HP9.out.ext hb1)) | (refine step_append_pins rfl (.tmp 52) (.tmp 54) rfl w9.heap.size _ _ rfl (by first | exact hO1 | exact hO1.alloc _) _ _ _ [p] rfl (by first | exact HONE.out w1' | exact HNY.out.grown hg1 (fun y hy => by cases hy; exact fun e => Nat.succ_ne_self _ (Option.some.inj e).symm) | exact HNZ.out.grown hg1 (fun y hy => by cases hy; exact fun e => Nat.succ_ne_self _ (Option.some.inj e))) (by simp; omega) (by first | exact hsz1 | (simp; omega)) ?_; intro v3 w3' hO3 hg2; have hb3 : Below w9.heap.size w9 w3' := (by first | exact hb1.grown hg2 hsz1 (fun j hj => (hO1.lt j hj).1) | exact (hb1.alloc hsz1 (.cells #[.string sh, .bool p.s, .int .i64 p.x] 26)).grown hg2 (by simp <;> omega) (fun j hj => (hO1.lt j hj).1)); have hsz3 := hb3.size) | (refine step_append_pins rfl (.tmp 55) (.tmp 58) rfl w9.heap.size _ _ rfl hO3 _ _ _ (R.drop c2) rfl (HTL.out _ hb3) (by simp; omega) hsz3 ?_; intro v4 w4' hO4 hg3; have hb4 : Below w9.heap.size w9 w4' := hb3.grown hg3 hsz3 (fun j hj => (hO3.lt j hj).1)))
                all_goals
                  have HO4 := Lib.hid (show OwnN w.heap.size w4' v4 (R.take (Tab.lo R p.h) ++ p :: R.drop (Tab.lo R p.h)) from by rw [hlo]; have := hO4.mono (b' := w.heap.size) HBF.out.size; simpa using this)
                  have HB4 := Lib.hid (HBF.out.trans (hb4.mono HBF.out.size))
                  clear hO1 hO3 hO4 hg1 hg2 hg3 hb1 hb3 hb4 hsz1 hsz3
                  go_wp2_with fail
                  go_ret2
                  exact HGO.out _ _ _ _ _ HR.out rfl (.inr HO4.out) HB4.out
              · have n1 : ¬ c2 = k := hck
                have hBw9 : Below w2.heap.size w2 w9 := HE2.out.trans (Below.mono hfin HE2.out.size)
                have hs9 := HS2.out.ext hBw9
                have hp9 := HP2.out.ext hBw9
                obtain ⟨p0, p1, p2⟩ := hp9.cells
                have hlp9 := heap_lt hp9
                have HP9 := Lib.hid hp9
                have hbX : Below w9.heap.size w9 (w9.alloc (.cells #[] 26)).drew := Below.drew ((Below.refl _ _).alloc (Nat.le_refl _) _)
                have hbY : Below w9.heap.size w9 ((w9.alloc (.cells #[] 26)).alloc (.cells #[.string sh, .bool p.s, .int .i64 p.x] 26)).drew := Below.drew (((Below.refl _ _).alloc (Nat.le_refl _) _).alloc (by simp) _)
                have hbZ : Below w9.heap.size w9 ((w9.alloc (.cells #[.string sh, .bool p.s, .int .i64 p.x] 26)).alloc (.cells #[] 26)).drew := Below.drew (((Below.refl _ _).alloc (Nat.le_refl _) _).alloc (by simp) _)
                have hone : ∀ W : World, SlN (W.alloc (.cells #[.string sh, .bool p.s, .int .i64 p.x] 26)) (some ⟨W.heap.size, 0, none⟩) 1 1 [p] := fun W => by have := SlN.one W p 26; rwa [HSH.out] at this
                have HONE := Lib.hid hone
                have HEX := Lib.hid (show OwnN w9.heap.size (w9.alloc (.cells #[] 26)).drew (.slice (some ⟨w9.heap.size, 0, none⟩) 0 0) [] from (OwnN.empty w9 (Nat.le_refl _)).stay (fun _ _ => rfl))
                have HEY := Lib.hid (show OwnN w9.heap.size ((w9.alloc (.cells #[] 26)).alloc (.cells #[.string sh, .bool p.s, .int .i64 p.x] 26)).drew (.slice (some ⟨w9.heap.size, 0, none⟩) 0 0) [] from ((OwnN.empty w9 (Nat.le_refl _)).alloc _).stay (fun _ _ => rfl))
                have HEZ := Lib.hid (show OwnN w9.heap.size ((w9.alloc (.cells #[.string sh, .bool p.s, .int .i64 p.x] 26)).alloc (.cells #[] 26)).drew (.slice (some ⟨w9.heap.size + 1, 0, none⟩) 0 0) [] from by have := (OwnN.empty (base := w9.heap.size) (w9.alloc (.cells #[.string sh, .bool p.s, .int .i64 p.x] 26)) (by simp)); rw [show (w9.alloc (.cells #[.string sh, .bool p.s, .int .i64 p.x] 26)).heap.size = w9.heap.size + 1 by simp] at this; exact this.stay (fun _ _ => rfl))
                have HNY := Lib.hid (show SlN ((w9.alloc (.cells #[] 26)).alloc (.cells #[.string sh, .bool p.s, .int .i64 p.x] 26)).drew (some ⟨w9.heap.size + 1, 0, none⟩) 1 1 [p] from by have := hone (w9.alloc (.cells #[] 26)); rw [show (w9.alloc (.cells #[] 26)).heap.size = w9.heap.size + 1 by simp] at this; exact this.heap rfl)
                have HNZ := Lib.hid (show SlN ((w9.alloc (.cells #[.string sh, .bool p.s, .int .i64 p.x] 26)).alloc (.cells #[] 26)).drew (some ⟨w9.heap.size, 0, none⟩) 1 1 [p] from ((hone w9).ext ((Below.refl _ _).alloc (Nat.le_refl _) (.cells #[] 26))).heap rfl)
                have HDX := Lib.hid ((hs9.ext hbX).take (k := k) (by omega))
                have HDY := Lib.hid ((hs9.ext hbY).take (k := k) (by omega))
                have HDZ := Lib.hid ((hs9.ext hbZ).take (k := k) (by omega))
                have HBXYZ := Lib.hid (And.intro hbX (And.intro hbY hbZ))
                have HTL := Lib.hid (show ∀ (W : World) (x : Addr) (c' : Nat), c' ≤ maxLen → SlN W (some x) 0 c' (R.drop k) from fun W x c' hc => by rw [HRD.out]; exact SlN.zero _ _ _ hc)
                have HBF := Lib.hid (hBB.trans (hBw9.mono hBB.size))
                clear hbX hbY hbZ hone hs9 hp9 hBw9
                go_region_law (first | (refine step_append_pins rfl (.tmp 48) (.tmp 51) rfl w9.heap.size _ [] rfl (by first | exact HEX.out | exact HEY.out | exact HEZ.out) _ _ _ (R.take k) rfl (by first | exact HDX.out | exact HDY.out | exact HDZ.out) (by simp; omega) (by simp <;> omega) ?_; intro v1 w1' hO1 hg1; have hb1 : Below w9.heap.size w9 w1' := (by first | exact HBXYZ.out.1.grown hg1 (by simp <;> omega) (fun j hj => by cases hj; first | exact Nat.le_refl _ | exact Nat.le_succ _) | exact HBXYZ.out.2.1.grown hg1 (by simp <;> omega) (fun j hj => by cases hj; first | exact Nat.le_refl _ | exact Nat.le_succ _) | exact HBXYZ.out.2.2.grown hg1 (by simp <;> omega) (fun j hj => by cases hj; first | exact Nat.le_refl _ | exact Nat.le_succ _)); have hsz1 := hb1.size; obtain ⟨x0, x1, x2⟩ := (HP9.out.ext hb1).cells; have hlx := heap_lt (HP9.out.ext hb1)) | (refine step_append_pins rfl (.tmp 52) (.tmp 54) rfl w9.heap.size _ _ rfl (by first | exact hO1 | exact hO1.alloc _) _ _ _ [p] rfl (by first | exact HONE.out w1' | exact HNY.out.grown hg1 (fun y hy => by cases hy; exact fun e => Nat.succ_ne_self _ (Option.some.inj e).symm) | exact HNZ.out.grown hg1 (fun y hy => by cases hy; exact fun e => Nat.succ_ne_self _ (Option.some.inj e))) (by simp; omega) (by first | exact hsz1 | (simp; omega)) ?_; intro v3 w3' hO3 hg2; have hb3 : Below w9.heap.size w9 w3' := (by first | exact hb1.grown hg2 hsz1 (fun j hj => (hO1.lt j hj).1) | exact (hb1.alloc hsz1 (.cells #[.string sh, .bool p.s, .int .i64 p.x] 26)).grown hg2 (by simp <;> omega) (fun j hj => (hO1.lt j hj).1)); have hsz3 := hb3.size) | (refine step_append_pins rfl (.tmp 55) (.tmp 58) rfl w9.heap.size _ _ rfl hO3 _ _ _ (R.drop k) rfl (HTL.out _ _ _ (by omega)) (by simp; omega) hsz3 ?_; intro v4 w4' hO4 hg3; have hb4 : Below w9.heap.size w9 w4' := hb3.grown hg3 hsz3 (fun j hj => (hO3.lt j hj).1)))
                all_goals
                  have HO4 := Lib.hid (show OwnN w.heap.size w4' v4 (R.take (Tab.lo R p.h) ++ p :: R.drop (Tab.lo R p.h)) from by rw [hlo]; have := hO4.mono (b' := w.heap.size) HBF.out.size; simpa using this)
                  have HB4 := Lib.hid (HBF.out.trans (hb4.mono HBF.out.size))
                  clear hO1 hO3 hO4 hg1 hg2 hg3 hb1 hb3 hb4 hsz1 hsz3
                  go_wp2_with fail
                  go_ret2
                  exact HGO.out _ _ _ _ _ HR.out rfl (.inr HO4.out) HB4.out

end Go.Proofs.YtjfflnnepndlkaaGreatDoor
