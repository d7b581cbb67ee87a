/-
  The walk of UpdateCodecMatchesSpec.
-/
import Derived.Test.YtjfflnnepndlkaaGreatDoorRun25
import Derived.Test.YtjfflnnepndlkaaGreatDoorRun26
import Derived.Test.YtjfflnnepndlkaaGreatDoorRun1
namespace Go.Proofs.YtjfflnnepndlkaaGreatDoor
open Go.RowKit

set_option maxHeartbeats 8000000 in
set_option maxRecDepth 100000 in
theorem upt_codec (u : UpdV) (a : Option Addr) (n c : Nat) (b : List UInt8) (w : World) (h : SlB w a n c b) :
    Calls Tryz.prog 4 #[uv u, .slice a n c] w fun e w' => e = .returned (.bool true) ∧ Below w.heap.size w w' := by
  have HAW := Lib.hid upt_awake
  have hb0 := (Below.refl w.heap.size w).alloc (Nat.le_refl _) (.cells (uc u) 28)
  have hbx := UBox.new w u.k (str u.p.h) u.p.s u.p.x
  have hle := h.le
  have hsl := h.ext hb0
  have hsz : ((str u.p.h).size : Int) = (u.p.h.length : Int) := by rw [strSize]
  by_cases hsm : u.p.h.length ≤ 400 ∧ n ≤ 5000
  · have HE := Lib.hid (fun W => up_encode u (by omega) W)
    have HE2 := Lib.hid (fun W => ru_encode u (by omega) W)
    have HD := Lib.hid (fun W (hs : SlB W a n c b) => up_decode a n c b W hs (by omega))
    have HD2 := Lib.hid (fun W (hs : SlB W a n c b) => ru_decode a n c b W hs (by omega))
    have HV := Lib.hid (fun W => up_valid u (by omega) W)
    have HV2 := Lib.hid (fun W => ru_valid u (by omega) W)
    unfold UEncP at HE HE2
    unfold UDecP at HD HD2
    obtain ⟨vb, hvb⟩ : ∃ vb, Upt.valid u = vb := ⟨_, rfl⟩
    rw [hvb] at HE HE2 HV HV2
    obtain ⟨ez, hez⟩ : ∃ ez : Int, (if vb = true then (0 : Int) else 1) = ez := ⟨_, rfl⟩
    obtain ⟨E, hE⟩ : ∃ E : List UInt8, (if vb = true then Upt.enc u else []) = E := ⟨_, rfl⟩
    rw [hez, hE] at HE HE2
    clear hvb hez hE
    obtain ⟨⟨⟨dk, dp⟩, dz⟩, hd⟩ : ∃ d, Upt.dec b = d := ⟨_, rfl⟩
    rw [hd] at HD HD2
    clear hd
    obtain ⟨dh, ds, dx⟩ := dp
    unfold uv uc at HE HE2 HD HD2 HV HV2
    unfold uc at hb0 hsl
    unfold uv uc
    simp only at HD HD2
    obtain ⟨sd, hsd⟩ : ∃ s, str dh = s := ⟨_, rfl⟩
    rw [hsd] at HD HD2
    clear hsd
    obtain ⟨t1, t2⟩ := hsm
    have t1' : ¬ (400 : Int) < (u.p.h.length : Int) := by omega
    have t2' : ¬ (5000 : Int) < (n : Int) := by omega
    obtain ⟨hlen, hhl⟩ : ∃ m, u.p.h.length = m := ⟨_, rfl⟩
    rw [hhl] at hsz t1'
    obtain ⟨sh, hsh⟩ : ∃ s, str u.p.h = s := ⟨_, rfl⟩
    rw [hsh] at HE HE2 HV HV2 hb0 hbx hsl hsz ⊢
    generalize u.k = k at *
    generalize u.p.s = ps at *
    generalize u.p.x = px at *
    obtain ⟨W0, hW0⟩ : ∃ W0, w.alloc (.cells #[.int .i64 k, .string sh, .bool ps, .int .i64 px] 28) = W0 := ⟨_, rfl⟩
    rw [hW0] at hb0 hbx hsl
    have HW0 := Lib.hid hW0
    have HB0 := Lib.hid hb0
    have HX0 := Lib.hid hbx
    have HS0 := Lib.hid hsl
    clear hsh hhl hW0 hb0 hbx hsl h t1 t2
    obtain ⟨q0, q1, q2, q3, q4⟩ := HX0.out.all
    go_enter Tryz.func4, Tryz.ntmps4
    go_wp2_with fail
    rw [HW0.out]
    go_wp2_with fail
    refine (HE.out _).mono ?_; rintro e w1 ⟨v1, rfl, ho1, hb1⟩
    obtain ⟨a1, c1, hv1, hs1, -⟩ := ho1.sl
    subst hv1
    have HX1 := Lib.hid (HX0.out.ext hb1)
    have HS1 := Lib.hid hs1
    have HB1 := Lib.hid hb1
    clear q0 q1 q2 q3 q4 ho1 hs1 hb1
    obtain ⟨q0, q1, q2, q3, q4⟩ := HX1.out.all
    go_wp2_with fail
    refine (HE2.out _).mono ?_; rintro e w2 ⟨v2, rfl, ho2, hb2⟩
    obtain ⟨a2, c2, hv2, hs2, -⟩ := ho2.sl
    subst hv2
    have hE2 : Ext W0 w2 := Ext.step hb2 HB1.out
    have HX2 := Lib.hid (HX0.out.ext hE2)
    have HS2 := Lib.hid hs2
    have HS1b := Lib.hid (HS1.out.ext hb2)
    have HE02 := Lib.hid hE2
    clear q0 q1 q2 q3 q4 ho2 hs2 hb2 hE2
    obtain ⟨q0, q1, q2, q3, q4⟩ := HX2.out.all
    go_wp2_with fail
    refine (HD.out _ (HS0.out.ext' HE02.out)).mono ?_; rintro e w3 ⟨rfl, hb3⟩
    have hE3 : Ext W0 w3 := Ext.step hb3 HE02.out
    have hG3 := UBox.new w3 dk sd ds dx
    have hA3 := (Ext.refl w3).alloc (.cells #[.int .i64 dk, .string sd, .bool ds, .int .i64 dx] 28)
    obtain ⟨W4, hW4⟩ : ∃ W4, w3.alloc (.cells #[.int .i64 dk, .string sd, .bool ds, .int .i64 dx] 28) = W4 := ⟨_, rfl⟩
    rw [hW4] at hG3 hA3
    have hE4 : Ext W0 W4 := Ext.step hA3 hE3
    have HE24 := Lib.hid (Ext.step hA3 hb3)
    have HW4 := Lib.hid hW4
    have HG4 := Lib.hid hG3
    have HE04 := Lib.hid hE4
    clear q0 q1 q2 q3 q4 hb3 hE3 hG3 hA3 hW4 hE4
    go_wp2_with fail
    rw [HW4.out]
    go_wp2_with fail
    refine (HD2.out _ (HS0.out.ext' HE04.out)).mono ?_; rintro e w5 ⟨rfl, hb5⟩
    have hG5 := UBox.new w5 dk sd ds dx
    have hA5 := (Ext.refl w5).alloc (.cells #[.int .i64 dk, .string sd, .bool ds, .int .i64 dx] 28)
    obtain ⟨W6, hW6⟩ : ∃ W6, w5.alloc (.cells #[.int .i64 dk, .string sd, .bool ds, .int .i64 dx] 28) = W6 := ⟨_, rfl⟩
    rw [hW6] at hG5 hA5
    have hE46 : Ext W4 W6 := Ext.step hA5 hb5
    have hE26 : Ext w2 W6 := Ext.step hE46 HE24.out
    have hE06 : Ext W0 W6 := Ext.step hE46 HE04.out
    have hx6 := HX0.out.ext hE06
    have hg4 := HG4.out.ext hE46
    have hs1' := HS1b.out.ext' hE26
    have hs2' := HS2.out.ext' hE26
    have HCL := Lib.hid (show ∀ W, Ext W6 W → Ext W6 W ∧ (W.cell? ⟨w.heap.size, 0, none⟩ = some (.int .i64 k) ∧ W.cell? ⟨w.heap.size, 1, none⟩ = some (.string sh) ∧ W.cell? ⟨w.heap.size, 2, none⟩ = some (.bool ps) ∧ W.cell? ⟨w.heap.size, 3, none⟩ = some (.int .i64 px) ∧ w.heap.size < W.heap.size) ∧
      (W.cell? ⟨w3.heap.size, 0, none⟩ = some (.int .i64 dk) ∧ W.cell? ⟨w3.heap.size, 1, none⟩ = some (.string sd) ∧ W.cell? ⟨w3.heap.size, 2, none⟩ = some (.bool ds) ∧ W.cell? ⟨w3.heap.size, 3, none⟩ = some (.int .i64 dx) ∧ w3.heap.size < W.heap.size) ∧
      (W.cell? ⟨w5.heap.size, 0, none⟩ = some (.int .i64 dk) ∧ W.cell? ⟨w5.heap.size, 1, none⟩ = some (.string sd) ∧ W.cell? ⟨w5.heap.size, 2, none⟩ = some (.bool ds) ∧ W.cell? ⟨w5.heap.size, 3, none⟩ = some (.int .i64 dx) ∧ w5.heap.size < W.heap.size) from
      fun W e => ⟨e, (hx6.ext e).all, (hg4.ext e).all, (hG5.ext e).all⟩)
    have HKB := Lib.hid (show ∀ W, Ext W6 W → Calls Tryz.prog 19 #[.slice a1 E.length c1, .slice a2 E.length c2] W fun e w' => e = .returned (.bool true) ∧ W = w' from fun W e =>
      (keep_bytes a1 a2 E.length E.length c1 c2 E E W (hs1'.ext' e) (hs2'.ext' e)).mono (fun e w' hh => by rw [beq_self_eq_true] at hh; exact hh))
    have HW6 := Lib.hid hW6
    have HBW := Lib.hid (show Below w.heap.size w W6 from HB0.out.trans (hE06.mono HB0.out.size))
    generalize E.length = en at *
    clear hG5 hA5 hW6 hE46 hE26 hE06 hx6 hg4 hs1' hs2' hb5
    obtain ⟨-, ⟨x0, x1, x2, x3, x4⟩, ⟨y0, y1, y2, y3, y4⟩, ⟨z0, z1, z2, z3, z4⟩⟩ := HCL.out W6 (Ext.refl _)
    go_wp2_with fail
    rw [HW6.out]
    go_wp2_with fail
    go_region_held3 (fun W => Ext W6 W ∧ (W.cell? ⟨w.heap.size, 0, none⟩ = some (.int .i64 k) ∧ W.cell? ⟨w.heap.size, 1, none⟩ = some (.string sh) ∧ W.cell? ⟨w.heap.size, 2, none⟩ = some (.bool ps) ∧ W.cell? ⟨w.heap.size, 3, none⟩ = some (.int .i64 px) ∧ w.heap.size < W.heap.size) ∧
      (W.cell? ⟨w3.heap.size, 0, none⟩ = some (.int .i64 dk) ∧ W.cell? ⟨w3.heap.size, 1, none⟩ = some (.string sd) ∧ W.cell? ⟨w3.heap.size, 2, none⟩ = some (.bool ds) ∧ W.cell? ⟨w3.heap.size, 3, none⟩ = some (.int .i64 dx) ∧ w3.heap.size < W.heap.size) ∧
      (W.cell? ⟨w5.heap.size, 0, none⟩ = some (.int .i64 dk) ∧ W.cell? ⟨w5.heap.size, 1, none⟩ = some (.string sd) ∧ W.cell? ⟨w5.heap.size, 2, none⟩ = some (.bool ds) ∧ W.cell? ⟨w5.heap.size, 3, none⟩ = some (.int .i64 dx) ∧ w5.heap.size < W.heap.size)) (first | assumption | exact HCL.out _ (Ext.drew (Ext.refl _)) | exact HCL.out _ (Ext.step (by assumption) (And.left (by assumption)))) (first | (go_at_call 17; go_must (refine (HV.out _).mono ?_); rintro e x1 ⟨rfl, hx1⟩) | (go_at_call 18; go_must (refine (HV2.out _).mono ?_); rintro e x2 ⟨rfl, hx2⟩) | (go_at_call 19; go_must (refine (HKB.out _ (And.left (by assumption))).mono ?_); rintro e x3 ⟨rfl, rfl⟩) | (go_at_call 6; go_must (refine (HAW.out _).mono ?_); rintro e x4 ⟨rfl, hx4⟩))
    all_goals
      have hfin : Ext W6 _ := And.left (by assumption)
      go_wp2_with fail
      go_ret
      exact ⟨rfl, HBW.out.trans (Below.mono hfin HBW.out.size)⟩
  · unfold uc at hb0
    unfold uv uc
    have HB0 := Lib.hid hb0
    by_cases t1 : u.p.h.length ≤ 400
    · have t1' : ¬ (400 : Int) < (u.p.h.length : Int) := by omega
      have t2' : (5000 : Int) < (n : Int) := by omega
      generalize str u.p.h = sh at *
      generalize u.p.h.length = hl at *
      clear hb0 hsl h hsm
      go_enter Tryz.func4, Tryz.ntmps4
      go_wp2_with fail
      refine (HAW.out _).mono ?_; rintro e w2 ⟨rfl, hb2⟩
      go_wp2_with fail
      go_ret
      exact ⟨rfl, HB0.out.trans (Below.mono hb2 HB0.out.size)⟩
    · have t1' : (400 : Int) < (u.p.h.length : Int) := by omega
      generalize str u.p.h = sh at *
      generalize u.p.h.length = hl at *
      clear hb0 hsl h hsm
      go_enter Tryz.func4, Tryz.ntmps4
      go_wp2_with fail
      refine (HAW.out _).mono ?_; rintro e w2 ⟨rfl, hb2⟩
      go_wp2_with fail
      go_ret
      exact ⟨rfl, HB0.out.trans (Below.mono hb2 HB0.out.size)⟩

end Go.Proofs.YtjfflnnepndlkaaGreatDoor
