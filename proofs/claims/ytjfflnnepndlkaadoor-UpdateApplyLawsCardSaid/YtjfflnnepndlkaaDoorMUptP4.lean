/-
  UpdateApplyLaws: the walk, and from the given card to the walk.
-/
import Derived.Test.YtjfflnnepndlkaaDoorRun32
import Derived.Test.YtjfflnnepndlkaaDoorCards
import Derived.Test.YtjfflnnepndlkaaDoorTie
import Derived.Test.YtjfflnnepndlkaaDoorRun30
import Derived.Test.YtjfflnnepndlkaaDoorRun25
import Derived.Test.YtjfflnnepndlkaaDoorRun27
import Derived.ProofKit
import Derived.OpenShut
import Derived.ShutString
import Derived.ChangeOld
import Derived.PinnedBridge
import Derived.Lay
import Derived.LaidOnce
import Derived.SevenTiedAt
import Derived.Stop.Joined
namespace Go.Proofs.YtjfflnnepndlkaaDoor
section
open Go.RowKit
theorem short2 (w : World) (x y : List UInt8) :
    Calls Tryd.prog 10 #[.int .i64 400, .slice (some ⟨w.heap.size, 0, none⟩) 2 2] (w.alloc (.cells #[.string (str x), .string (str y)] 9)) fun e w' => e = .returned (.bool (decide (x.length ≤ 400) && decide (y.length ≤ 400))) ∧ Ext (w.alloc (.cells #[.string (str x), .string (str y)] 9)) w' := by
  have := keep_short 400 _ 2 2 [x, y] _ (SlT.built w #[.string (str x), .string (str y)] [x, y] 2 w.heap.size 9 (0, 0) rfl rfl (by decide) rfl)
  simp only [List.all_cons, List.all_nil, Bool.and_true] at this
  exact this
/-- Apply, where there is room. -/
theorem up_apply_room (ck : Int) (a : Option Addr) (n c : Nat) (L : List Pin) (u : UpdV) (w : World) (h : SlN w a n c L) (hn : n ≤ 900) (h1 : Upt.stValid ck L = true) (h2 : Upt.valid u = true) :
    Calls Tryd.prog 12 #[.agg #[.int .i64 ck, .slice a n c], uv u, .int .i64 1000] w fun e w' => ∃ a' c', e = .returned (.tuple #[.agg #[.int .i64 ck, .slice a' (Upt.upd L u).length c'], .int .i64 0]) ∧ SlN w' a' (Upt.upd L u).length c' (Upt.upd L u) ∧ Ext w w' := by
  have hr : Upt.apply ck L u 1000 = (Upt.upd L u, 0) := Upt.apply_room h1 h2 (by rw [h.len]; omega)
  refine (up_apply ck a n c L u 1000 w h (by omega) (fun p hp => by have := Upt.hosts_len h1 p hp; omega) (by have := Upt.host_len h2; omega)).mono ?_
  rintro e w' ⟨v, he, ho, hb⟩
  rw [hr] at he ho
  obtain ⟨a', c', hv, hs, -⟩ := ho.sl
  subst hv
  exact ⟨a', c', he, hs, hb⟩
theorem up_apply_bad (ck : Int) (a : Option Addr) (n c : Nat) (L : List Pin) (u : UpdV) (w : World) (h : SlN w a n c L) (hn : n ≤ 900) (hL : ∀ p ∈ L, p.h.length ≤ 1000000) (hu : u.p.h.length ≤ 1000000) (h1 : Upt.stValid ck L = false ∨ Upt.valid u = false) :
    Calls Tryd.prog 12 #[.agg #[.int .i64 ck, .slice a n c], uv u, .int .i64 1000] w fun e w' => ∃ a' c', e = .returned (.tuple #[.agg #[.int .i64 0, .slice a' 0 c'], .int .i64 1]) ∧ Ext w w' := by
  have hr : Upt.apply ck L u 1000 = ([], 1) := Upt.apply_bad h1
  refine (up_apply ck a n c L u 1000 w h (by omega) hL hu).mono ?_
  rintro e w' ⟨v, he, ho, hb⟩
  rw [hr] at he ho
  obtain ⟨a', c', hv, hs, -⟩ := ho.sl
  subst hv
  exact ⟨a', c', he, hb⟩
theorem any_take {A : List Pin} {p : Pin} {k : Nat} (hk : k < A.length) : (A.take (k + 1)).any (fun q => decide (q = p)) = ((A.take k).any (fun q => decide (q = p)) || decide (A[k] = p)) := by
  rw [List.take_succ_eq_append_getElem hk, List.any_append]; simp

set_option maxHeartbeats 32000000 in
set_option maxRecDepth 100000 in
theorem upt_apply_laws (ck : Int) (a : Option Addr) (n c : Nat) (L : List Pin) (u v : UpdV) (w : World) (h : SlN w a n c L) :
    Calls Tryd.prog 3 #[.agg #[.int .i64 ck, .slice a n c], uv u, uv v] w fun e w' => e = .returned (.bool true) ∧ Below w.heap.size w w' := by
  have HAW := Lib.hid upt_awake
  have hle := h.le
  have hlen := h.len
  have HSP := Lib.hid (fun W (hs : SlN W a n c L) => keep_smallPins 60 a n c L W hs)
  have HSH := Lib.hid (fun W => short2 W u.p.h v.p.h)
  have HRM := Lib.hid (fun a1 n1 c1 L1 (U : UpdV) W h1 h2 h3 h4 => up_apply_room ck a1 n1 c1 L1 U W h1 h2 h3 h4)
  have HBAD := Lib.hid (fun W h1 h2 h3 h4 h5 => up_apply_bad ck a n c L u W h1 h2 h3 h4 h5)
  have HVS := Lib.hid (fun a1 n1 c1 L1 W h1 h2 => up_validState ck a1 n1 c1 L1 W h1 h2)
  have HVU := Lib.hid (fun (U : UpdV) (h1 : U.p.h.length ≤ 1000000) W => up_valid U h1 W)
  have hus : (str u.p.h).toList = u.p.h := str_toList _
  have hvs : (str v.p.h).toList = v.p.h := str_toList _
  have HUV := Lib.hid (show ∃ su p1 k1 x1 sw p2 k2 x2, str u.p.h = su ∧ u.p.s = p1 ∧ u.k = k1 ∧ u.p.x = x1 ∧ str v.p.h = sw ∧ v.p.s = p2 ∧ v.k = k2 ∧ v.p.x = x2 from ⟨_, _, _, _, _, _, _, _, rfl, rfl, rfl, rfl, rfl, rfl, rfl, rfl⟩)
  obtain ⟨su, p1, k1, x1, sw, p2, k2, x2, e1, e2, e3, e4, e5, e6, e7, e8⟩ := HUV.out
  have HUu := Lib.hid (show uv u = .agg #[.int .i64 k1, .string su, .bool p1, .int .i64 x1] by unfold uv uc; rw [e1, e2, e3, e4])
  have HVv := Lib.hid (show uv v = .agg #[.int .i64 k2, .string sw, .bool p2, .int .i64 x2] by unfold uv uc; rw [e5, e6, e7, e8])
  rw [HUu.out, HVv.out]
  rw [e1] at hus
  rw [e5] at hvs
  rw [e1, e5] at HSH
  have HUS := Lib.hid hus
  have HVSS := Lib.hid hvs
  clear e1 e2 e3 e4 e5 e6 e7 e8 HUV hus hvs
  have hb0 := (Below.refl w.heap.size w).alloc (Nat.le_refl _) (.cells #[.int .i64 ck, .slice a n c] 24)
  have hs0 := SBox.new w ck (.slice a n c)
  have hz0 : (w.alloc (.cells #[.int .i64 ck, .slice a n c] 24)).heap.size = w.heap.size + 1 := by simp
  have hu0 := UBox.new (w.alloc (.cells #[.int .i64 ck, .slice a n c] 24)) k1 su p1 x1
  rw [hz0] at hu0
  have hb1 := hb0.alloc hb0.size (.cells #[.int .i64 k1, .string su, .bool p1, .int .i64 x1] 28)
  have hs1 := hs0.ext ((Ext.refl _).alloc (.cells #[.int .i64 k1, .string su, .bool p1, .int .i64 x1] 28))
  have hz1 : ((w.alloc (.cells #[.int .i64 ck, .slice a n c] 24)).alloc (.cells #[.int .i64 k1, .string su, .bool p1, .int .i64 x1] 28)).heap.size = w.heap.size + 2 := by simp
  have hv0 := UBox.new ((w.alloc (.cells #[.int .i64 ck, .slice a n c] 24)).alloc (.cells #[.int .i64 k1, .string su, .bool p1, .int .i64 x1] 28)) k2 sw p2 x2
  rw [hz1] at hv0
  have hE2 : Ext ((w.alloc (.cells #[.int .i64 ck, .slice a n c] 24)).alloc (.cells #[.int .i64 k1, .string su, .bool p1, .int .i64 x1] 28)) _ := (Ext.refl _).alloc (.cells #[.int .i64 k2, .string sw, .bool p2, .int .i64 x2] 28)
  have hb2 := hb1.alloc hb1.size (.cells #[.int .i64 k2, .string sw, .bool p2, .int .i64 x2] 28)
  have hs2 := hs1.ext hE2
  have hu2 := hu0.ext hE2
  have hsl := h.ext hb2
  obtain ⟨W1, hW1⟩ : ∃ W1, ((w.alloc (.cells #[.int .i64 ck, .slice a n c] 24)).alloc (.cells #[.int .i64 k1, .string su, .bool p1, .int .i64 x1] 28)).alloc (.cells #[.int .i64 k2, .string sw, .bool p2, .int .i64 x2] 28) = W1 := ⟨_, rfl⟩
  rw [hW1] at hb2 hs2 hu2 hv0 hsl
  have HW1 := Lib.hid hW1
  have HB1 := Lib.hid hb2
  have HS1 := Lib.hid hs2
  have HU1 := Lib.hid hu2
  have HV1 := Lib.hid hv0
  have HSL := Lib.hid hsl
  have HLN := Lib.hid hlen
  have HCL := Lib.hid (show ∀ W, Ext W1 W → (W.cell? ⟨w.heap.size, 0, none⟩ = some (.int .i64 ck) ∧ W.cell? ⟨w.heap.size, 1, none⟩ = some (.slice a n c) ∧ w.heap.size < W.heap.size) ∧ (W.cell? ⟨w.heap.size + 1, 0, none⟩ = some (.int .i64 k1) ∧ W.cell? ⟨w.heap.size + 1, 1, none⟩ = some (.string su) ∧ W.cell? ⟨w.heap.size + 1, 2, none⟩ = some (.bool p1) ∧ W.cell? ⟨w.heap.size + 1, 3, none⟩ = some (.int .i64 x1) ∧ w.heap.size + 1 < W.heap.size) ∧ (W.cell? ⟨w.heap.size + 2, 0, none⟩ = some (.int .i64 k2) ∧ W.cell? ⟨w.heap.size + 2, 1, none⟩ = some (.string sw) ∧ W.cell? ⟨w.heap.size + 2, 2, none⟩ = some (.bool p2) ∧ W.cell? ⟨w.heap.size + 2, 3, none⟩ = some (.int .i64 x2) ∧ w.heap.size + 2 < W.heap.size) from fun W e => ⟨(HS1.out.ext e).all, (HU1.out.ext e).all, (HV1.out.ext e).all⟩)
  have HFIN := Lib.hid (show ∀ W, Ext W1 W → Below w.heap.size w W from fun W e => HB1.out.trans (Below.mono e HB1.out.size))
  clear hb0 hs0 hz0 hu0 hb1 hs1 hz1 hv0 hE2 hb2 hs2 hu2 hsl hW1 h hlen
  obtain ⟨⟨s0, s1, s2⟩, ⟨y0, y1, y2, y3, y4⟩, ⟨z0, z1, z2, z3, z4⟩⟩ := HCL.out W1 (Ext.refl _)
  by_cases hsm : n ≤ 60 ∧ ∀ p ∈ L, p.h.length ≤ 300
  · have hbt : (decide (n ≤ 60) && L.all fun x => decide (x.h.length ≤ 300)) = true := by
      rw [decide_eq_true hsm.1, Bool.true_and, List.all_eq_true]; exact fun p hp => decide_eq_true (hsm.2 p hp)
    rw [hbt] at HSP
    have HSPa := Lib.hid HSP.out
    have hL : ∀ p ∈ L, p.h.length ≤ 1000000 := fun p hp => Nat.le_trans (hsm.2 p hp) (by omega)
    have HL := Lib.hid hL
    have hn60 := hsm.1
    clear hbt hsm hL HSP
    by_cases hsh : u.p.h.length ≤ 400 ∧ v.p.h.length ≤ 400
    · have hb : (decide (u.p.h.length ≤ 400) && decide (v.p.h.length ≤ 400)) = true := by rw [decide_eq_true hsh.1, decide_eq_true hsh.2]; rfl
      rw [hb] at HSH
      have HUL := Lib.hid (show u.p.h.length ≤ 1000000 ∧ v.p.h.length ≤ 1000000 by omega)
      clear hb hsh
      cases hst : Upt.stValid ck L with
      | false =>
        have HBD := Lib.hid (fun W hs => HBAD.out W hs (by omega) HL.out HUL.out.1 (.inl hst))
        have HVF := Lib.hid (fun W hs => HVS.out a n c L W hs HL.out)
        rw [hst] at HVF
        rw [HUu.out] at HBD
        clear hst
        go_enter Tryd.func3, Tryd.ntmps3
        go_wp2_with fail
        rw [HW1.out]
        go_wp2_with fail
        refine (HSPa.out _ HSL.out).mono ?_; rintro e w2 ⟨rfl, hb2⟩
        have HE2 := Lib.hid (show Ext W1 w2 from hb2)
        clear s0 s1 s2 y0 y1 y2 y3 y4 z0 z1 z2 z3 z4
        obtain ⟨⟨s0, s1, s2⟩, ⟨y0, y1, y2, y3, y4⟩, ⟨z0, z1, z2, z3, z4⟩⟩ := HCL.out w2 HE2.out
        clear hb2
        go_wp2_with fail
        refine (HSH.out _).mono ?_; rintro e w3 ⟨rfl, hb3⟩
        have HE3 := Lib.hid (show Ext W1 w3 from Ext.step hb3 (HE2.out.alloc _))
        clear s0 s1 s2 y0 y1 y2 y3 y4 z0 z1 z2 z3 z4
        obtain ⟨⟨s0, s1, s2⟩, ⟨y0, y1, y2, y3, y4⟩, ⟨z0, z1, z2, z3, z4⟩⟩ := HCL.out w3 HE3.out
        clear hb3
        go_wp2_with fail
        refine (HBD.out _ (HSL.out.ext HE3.out)).mono ?_; rintro e w4 ⟨a4, c4, rfl, hb4⟩
        have hE4 : Ext W1 w4 := Ext.step hb4 HE3.out
        clear s0 s1 s2 y0 y1 y2 y3 y4 z0 z1 z2 z3 z4
        obtain ⟨⟨s0, s1, s2⟩, ⟨y0, y1, y2, y3, y4⟩, ⟨z0, z1, z2, z3, z4⟩⟩ := HCL.out w4 hE4
        have hE5 := hE4.alloc (.cells #[.int .i64 0, .slice a4 0 c4] 24)
        have HVG := Lib.hid (HVF.out _ (HSL.out.ext hE5))
        have HE5 := Lib.hid hE5
        clear hb4 hE4 hE5
        go_wp2_with fail
        refine HVG.out.mono ?_; rintro e w6 ⟨rfl, hb6⟩
        go_wp2_with fail
        refine (HAW.out _).mono ?_; rintro e w7 ⟨rfl, hb7⟩
        go_wp2_with fail
        go_ret
        exact ⟨rfl, HFIN.out _ (Ext.step hb7 (Ext.step hb6 HE5.out))⟩
      | true =>
        cases hvu : Upt.valid u with
        | false =>
          have HBD := Lib.hid (fun W hs => HBAD.out W hs (by omega) HL.out HUL.out.1 (.inr hvu))
          have HVF := Lib.hid (fun W hs => HVS.out a n c L W hs HL.out)
          have HVX := Lib.hid (fun W => HVU.out u HUL.out.1 W)
          rw [hst] at HVF
          rw [hvu] at HVX
          rw [HUu.out] at HBD HVX
          clear hst hvu
          go_enter Tryd.func3, Tryd.ntmps3
          go_wp2_with fail
          rw [HW1.out]
          go_wp2_with fail
          refine (HSPa.out _ HSL.out).mono ?_; rintro e w2 ⟨rfl, hb2⟩
          have HE2 := Lib.hid (show Ext W1 w2 from hb2)
          clear s0 s1 s2 y0 y1 y2 y3 y4 z0 z1 z2 z3 z4
          obtain ⟨⟨s0, s1, s2⟩, ⟨y0, y1, y2, y3, y4⟩, ⟨z0, z1, z2, z3, z4⟩⟩ := HCL.out w2 HE2.out
          clear hb2
          go_wp2_with fail
          refine (HSH.out _).mono ?_; rintro e w3 ⟨rfl, hb3⟩
          have HE3 := Lib.hid (show Ext W1 w3 from Ext.step hb3 (HE2.out.alloc _))
          clear s0 s1 s2 y0 y1 y2 y3 y4 z0 z1 z2 z3 z4
          obtain ⟨⟨s0, s1, s2⟩, ⟨y0, y1, y2, y3, y4⟩, ⟨z0, z1, z2, z3, z4⟩⟩ := HCL.out w3 HE3.out
          clear hb3
          go_wp2_with fail
          refine (HBD.out _ (HSL.out.ext HE3.out)).mono ?_; rintro e w4 ⟨a4, c4, rfl, hb4⟩
          have hE4 : Ext W1 w4 := Ext.step hb4 HE3.out
          clear s0 s1 s2 y0 y1 y2 y3 y4 z0 z1 z2 z3 z4
          obtain ⟨⟨s0, s1, s2⟩, ⟨y0, y1, y2, y3, y4⟩, ⟨z0, z1, z2, z3, z4⟩⟩ := HCL.out w4 hE4
          have hE5 := hE4.alloc (.cells #[.int .i64 0, .slice a4 0 c4] 24)
          have HVG := Lib.hid (HVF.out _ (HSL.out.ext hE5))
          have HE5 := Lib.hid hE5
          clear hb4 hE4 hE5
          go_wp2_with fail
          refine HVG.out.mono ?_; rintro e w6 ⟨rfl, hb6⟩
          have hE6 : Ext W1 w6 := Ext.step hb6 HE5.out
          clear s0 s1 s2 y0 y1 y2 y3 y4 z0 z1 z2 z3 z4
          obtain ⟨⟨s0, s1, s2⟩, ⟨y0, y1, y2, y3, y4⟩, ⟨z0, z1, z2, z3, z4⟩⟩ := HCL.out w6 hE6
          go_wp2_with fail
          refine (HVX.out _).mono ?_; rintro e w8 ⟨rfl, hb8⟩
          go_wp2_with fail
          refine (HAW.out _).mono ?_; rintro e w7 ⟨rfl, hb7⟩
          go_wp2_with fail
          go_ret
          exact ⟨rfl, HFIN.out _ (Ext.step hb7 (Ext.step hb8 hE6))⟩
        | true =>
          have hA : Tab.Asc L := ((Upt.stValid_iff ck L).1 hst).2.2.2.2
          have hgr := (Upt.upd_len L hvu).1
          have hsA : Upt.stValid ck (Upt.upd L u) = true := Upt.upd_state hst hvu (by rw [HLN.out] at hgr; omega)
          have htw : Upt.upd (Upt.upd L u) u = Upt.upd L u := Upt.upd_twice hA hvu
          have hall : ∀ p ∈ L, p.h = u.p.h ∨ p ∈ Upt.upd L u := fun p hp => by
            by_cases e : p.h = u.p.h
            · exact .inl e
            · exact .inr (Upt.upd_other hA hvu hp e)
          have HAP1 := Lib.hid (fun W hs => HRM.out a n c L u W hs (by omega) hst hvu)
          have HAP2 := Lib.hid (fun a1 c1 W hs (hm : (Upt.upd L u).length ≤ 900) => HRM.out a1 (Upt.upd L u).length c1 (Upt.upd L u) u W hs hm hsA hvu)
          rw [htw] at HAP2
          have HVA := Lib.hid (fun a1 c1 W hs => HVS.out a1 (Upt.upd L u).length c1 (Upt.upd L u) W hs (fun p hp => by have := Upt.hosts_len hsA p hp; omega))
          rw [hsA] at HVA
          have HB3 := Lib.hid (show Upt.valid v = true → ∀ a1 c1 W (hs : SlN W a1 (Upt.upd L u).length c1 (Upt.upd L u)), _ from fun hv a1 c1 W hs => HRM.out a1 (Upt.upd L u).length c1 (Upt.upd L u) v W hs (by rw [HLN.out] at hgr; omega) hsA hv)
          have HB4 := Lib.hid (show Upt.valid v = true → ∀ W (hs : SlN W a n c L), _ from fun hv W hs => HRM.out a n c L v W hs (by omega) hst hv)
          have HB5 := Lib.hid (show Upt.valid v = true → ∀ a1 c1 W (hs : SlN W a1 (Upt.upd L v).length c1 (Upt.upd L v)), _ from fun hv a1 c1 W hs => HRM.out a1 (Upt.upd L v).length c1 (Upt.upd L v) u W hs (by have := (Upt.upd_len L hv).1; rw [HLN.out] at this; omega) (Upt.upd_state hst hv (by have := (Upt.upd_len L hv).1; rw [HLN.out] at this; omega)) hvu)
          have HCOM := Lib.hid (show Upt.valid v = true → u.p.h ≠ v.p.h → Upt.upd (Upt.upd L v) u = Upt.upd (Upt.upd L u) v from fun hv hne => (Upt.upd_comm hA hvu hv hne).symm)
          have HVV := Lib.hid (fun W => HVU.out v HUL.out.2 W)
          rw [HUu.out] at HAP1 HAP2 HB5
          rw [HVv.out] at HB3 HB4 HVV
          obtain ⟨A, hAA⟩ : ∃ A, Upt.upd L u = A := ⟨_, rfl⟩
          rw [hAA] at hgr hall HAP1 HAP2 HVA HB3 HCOM
          obtain ⟨m, hm⟩ : ∃ m, A.length = m := ⟨_, rfl⟩
          rw [hm] at hgr HAP1 HAP2 HVA HB3
          have hm900 : m ≤ 900 := by rw [HLN.out] at hgr; omega
          have HALL := Lib.hid hall
          have HML := Lib.hid hm
          obtain ⟨vb, hvb⟩ : ∃ vb, Upt.valid v = vb := ⟨_, rfl⟩
          rw [hvb] at HVV HB3 HB4 HB5 HCOM
          clear hst hvu hA hsA htw hall hAA hm hgr HRM HBAD HVS HVU hvb
          go_enter Tryd.func3, Tryd.ntmps3
          go_wp2_with fail
          rw [HW1.out]
          go_wp2_with fail
          refine (HSPa.out _ HSL.out).mono ?_; rintro e w2 ⟨rfl, hb2⟩
          have HE2 := Lib.hid (show Ext W1 w2 from hb2)
          clear s0 s1 s2 y0 y1 y2 y3 y4 z0 z1 z2 z3 z4
          obtain ⟨⟨s0, s1, s2⟩, ⟨y0, y1, y2, y3, y4⟩, ⟨z0, z1, z2, z3, z4⟩⟩ := HCL.out w2 HE2.out
          clear hb2
          go_wp2_with fail
          refine (HSH.out _).mono ?_; rintro e w3 ⟨rfl, hb3⟩
          have HE3 := Lib.hid (show Ext W1 w3 from Ext.step hb3 (HE2.out.alloc _))
          clear s0 s1 s2 y0 y1 y2 y3 y4 z0 z1 z2 z3 z4
          obtain ⟨⟨s0, s1, s2⟩, ⟨y0, y1, y2, y3, y4⟩, ⟨z0, z1, z2, z3, z4⟩⟩ := HCL.out w3 HE3.out
          clear hb3
          go_wp2_with fail
          refine (HAP1.out _ (HSL.out.ext HE3.out)).mono ?_; rintro e w4 ⟨a4, c4, rfl, hs4, hb4⟩
          have hE4 : Ext W1 w4 := Ext.step hb4 HE3.out
          have hx4 := (Ext.refl w4).alloc (.cells #[.int .i64 ck, .slice a4 m c4] 24)
          have hG4 := SBox.new w4 ck (.slice a4 m c4)
          have hs4' := hs4.ext hx4
          obtain ⟨W5, hW5⟩ : ∃ W5, w4.alloc (.cells #[.int .i64 ck, .slice a4 m c4] 24) = W5 := ⟨_, rfl⟩
          obtain ⟨g7, hg7⟩ : ∃ g, w4.heap.size = g := ⟨_, rfl⟩
          rw [hW5] at hx4 hG4 hs4'
          rw [hg7] at hG4
          have HW5 := Lib.hid hW5
          have HG7 := Lib.hid hg7
          have HE5 := Lib.hid (Ext.step hx4 hE4)
          have HG5 := Lib.hid hG4
          have HS4 := Lib.hid hs4'
          clear s0 s1 s2 y0 y1 y2 y3 y4 z0 z1 z2 z3 z4
          obtain ⟨⟨s0, s1, s2⟩, ⟨y0, y1, y2, y3, y4⟩, ⟨z0, z1, z2, z3, z4⟩⟩ := HCL.out w4 hE4
          clear hb4 hE4 hx4 hG4 hs4 hs4' hW5 hg7
          go_wp2_with fail
          rw [HW5.out]
          rw [HG7.out]
          refine (HAP2.out _ _ _ HS4.out hm900).mono ?_; rintro e w6 ⟨a6, c6, rfl, hs6, hb6⟩
          have hE56 : Ext W5 w6 := hb6
          have hx6 := (Ext.refl w6).alloc (.cells #[.int .i64 ck, .slice a6 m c6] 24)
          have hG6 := SBox.new w6 ck (.slice a6 m c6)
          have hs6' := hs6.ext hx6
          obtain ⟨W7, hW7⟩ : ∃ W7, w6.alloc (.cells #[.int .i64 ck, .slice a6 m c6] 24) = W7 := ⟨_, rfl⟩
          obtain ⟨g9, hg9⟩ : ∃ g, w6.heap.size = g := ⟨_, rfl⟩
          rw [hW7] at hx6 hG6 hs6'
          rw [hg9] at hG6
          have HW7 := Lib.hid hW7
          have HG9 := Lib.hid hg9
          have HE57 := Lib.hid (Ext.step hx6 hE56)
          have HG97 := Lib.hid hG6
          have HS6 := Lib.hid hs6'
          obtain ⟨g0, g1, g2⟩ := (HG5.out.ext hE56).all
          clear hb6 hE56 hx6 hG6 hs6 hs6' hW7 hg9
          go_wp2_with fail
          rw [HW7.out]
          rw [HG9.out]
          refine (HVA.out _ _ _ (HS4.out.ext HE57.out)).mono ?_; rintro e w8 ⟨rfl, hb8⟩
          have hE58 : Ext W5 w8 := Ext.step hb8 HE57.out
          have hE18 : Ext W1 w8 := Ext.step hE58 HE5.out
          have HK := Lib.hid (keep_states ck ck a6 a4 m m c6 c4 A A w8 (HS6.out.ext hb8) (HS4.out.ext hE58))
          rw [decide_eq_true (⟨rfl, rfl⟩ : ck = ck ∧ A = A)] at HK
          unfold Go.Proofs.YtjfflnnepndlkaaDoor.sv at HK
          have HE58 := Lib.hid hE58
          clear g0 g1 g2
          obtain ⟨g0, g1, g2⟩ := (HG5.out.ext hE58).all
          obtain ⟨f0, f1, f2⟩ := (HG97.out.ext hb8).all
          clear s0 s1 s2 y0 y1 y2 y3 y4 z0 z1 z2 z3 z4
          obtain ⟨⟨s0, s1, s2⟩, ⟨y0, y1, y2, y3, y4⟩, ⟨z0, z1, z2, z3, z4⟩⟩ := HCL.out w8 hE18
          clear hE58 hE18 hb8
          go_wp2_with fail
          refine HK.out.mono ?_; rintro e w9 ⟨rfl, hb9⟩
          have hE59 : Ext W5 w9 := Ext.step hb9 HE58.out
          have hE19 : Ext W1 w9 := Ext.step hE59 HE5.out
          have HE59 := Lib.hid hE59
          clear g0 g1 g2 f0 f1 f2
          obtain ⟨g0, g1, g2⟩ := (HG5.out.ext hE59).all
          clear s0 s1 s2 y0 y1 y2 y3 y4 z0 z1 z2 z3 z4
          obtain ⟨⟨s0, s1, s2⟩, ⟨y0, y1, y2, y3, y4⟩, ⟨z0, z1, z2, z3, z4⟩⟩ := HCL.out w9 hE19
          have HCM := Lib.hid (show ∀ W, Ext W5 W → ((W.cell? ⟨w.heap.size, 0, none⟩ = some (.int .i64 ck) ∧ W.cell? ⟨w.heap.size, 1, none⟩ = some (.slice a n c) ∧ w.heap.size < W.heap.size) ∧ (W.cell? ⟨w.heap.size + 1, 0, none⟩ = some (.int .i64 k1) ∧ W.cell? ⟨w.heap.size + 1, 1, none⟩ = some (.string su) ∧ W.cell? ⟨w.heap.size + 1, 2, none⟩ = some (.bool p1) ∧ W.cell? ⟨w.heap.size + 1, 3, none⟩ = some (.int .i64 x1) ∧ w.heap.size + 1 < W.heap.size) ∧ (W.cell? ⟨w.heap.size + 2, 0, none⟩ = some (.int .i64 k2) ∧ W.cell? ⟨w.heap.size + 2, 1, none⟩ = some (.string sw) ∧ W.cell? ⟨w.heap.size + 2, 2, none⟩ = some (.bool p2) ∧ W.cell? ⟨w.heap.size + 2, 3, none⟩ = some (.int .i64 x2) ∧ w.heap.size + 2 < W.heap.size)) ∧ (W.cell? ⟨g7, 0, none⟩ = some (.int .i64 ck) ∧ W.cell? ⟨g7, 1, none⟩ = some (.slice a4 m c4) ∧ g7 < W.heap.size) from fun W e => ⟨HCL.out W (Ext.step e HE5.out), (HG5.out.ext e).all⟩)
          clear hE59 hE19 hb9
          go_wp2_with fail
          clear s0 s1 s2 y0 y1 y2 y3 y4 z0 z1 z2 z3 z4
          clear g0 g1 g2
          go_loopw [11] (fun i wr => ∃ k : Nat, k ≤ n ∧ i = .int .i64 (k : Nat) ∧ Ext W5 wr) (fun i _ => n - (intOf i).toNat)
          case atStart => exact ⟨0, Nat.zero_le _, rfl, HE59.out⟩
          case round =>
            obtain ⟨k, hk, rfl, hE⟩ := hrel
            obtain ⟨⟨⟨s0, s1, s2⟩, ⟨y0, y1, y2, y3, y4⟩, ⟨z0, z1, z2, z3, z4⟩⟩, ⟨g0, g1, g2⟩⟩ := HCM.out wr hE
            have i0 : (0 : Int) ≤ (k : Int) := by omega
            by_cases hlt : k < n
            · have i2 : (k : Int) < (n : Int) := by omega
              obtain ⟨bb, o, rfl, hbb, hkl, d1, d2, d3⟩ := ((HSL.out.ext HE5.out).ext hE).at hlt
              rw [List.getElem?_eq_getElem hkl, Option.getD_some] at d1 d2 d3
              have hmem := HALL.out _ (List.getElem_mem hkl)
              generalize L[k] = p at *
              obtain ⟨sp, hsp⟩ : ∃ s, str p.h = s := ⟨_, rfl⟩
              have hspl : sp.toList = p.h := by rw [← hsp]; exact str_toList _
              rw [hsp] at d1
              obtain ⟨fb, hfb⟩ : ∃ fb, (sp.toList == su.toList) = fb := ⟨_, rfl⟩
              have HFB := Lib.hid (show fb = decide (p.h = u.p.h) by rw [← hfb, hspl, HUS.out, Bool.eq_iff_iff]; simp)
              have HMEM := Lib.hid hmem
              have HSPP := Lib.hid hsp
              have HSPL := Lib.hid hspl
              have HD := Lib.hid (show ∀ W, Ext wr W → W.cell? ⟨bb, o + k * 3, none⟩ = some (.string sp) ∧ W.cell? ⟨bb, o + k * 3 + 1, none⟩ = some (.bool p.s) ∧ W.cell? ⟨bb, o + k * 3 + 2, none⟩ = some (.int .i64 p.x) ∧ bb < W.heap.size from fun W e => ⟨(Below.cell e (p := ⟨bb, o + k * 3, none⟩) hbb).trans d1, (Below.cell e (p := ⟨bb, o + k * 3 + 1, none⟩) hbb).trans d2, (Below.cell e (p := ⟨bb, o + k * 3 + 2, none⟩) hbb).trans d3, Nat.lt_of_lt_of_le hbb (Below.size e)⟩)
              have HEO := Lib.hid hE
              obtain ⟨WR, hWR⟩ : ∃ WR, WR = wr := ⟨_, rfl⟩
              subst hWR
              clear hsp hspl hmem hkl
              go_wp2_with fail
              go_quiet (fail)
              clear hfb d1 d2 d3 s0 s1 s2 y0 y1 y2 y3 y4 z0 z1 z2 z3 z4 g0 g1 g2 hE
              go_wp2_with fail
              go_loopw [12, 13] (fun f j wq => ∃ (k' : Nat) (fv : Bool), f = .bool fv ∧ j = .int .i64 (k' : Nat) ∧ k' ≤ m ∧ Hid (fv = (fb || (A.take k').any (fun q => decide (q = p)))) ∧ Ext WR wq) (fun _ j _ => m - (intOf j).toNat)
              case atStart => exact ⟨0, fb, rfl, rfl, Nat.zero_le _, Lib.hid (by simp), (below_dn _ _)⟩
              case round =>
                obtain ⟨j, fv, rfl, rfl, hj, HF, hEq⟩ := hrel
                have hE5q : Ext W5 wr := Ext.step hEq HEO.out
                obtain ⟨⟨⟨s0, s1, s2⟩, ⟨y0, y1, y2, y3, y4⟩, ⟨z0, z1, z2, z3, z4⟩⟩, ⟨g0, g1, g2⟩⟩ := HCM.out wr hE5q
                have j0 : (0 : Int) ≤ (j : Int) := by omega
                by_cases hjl : j < m
                · have j2 : (j : Int) < (m : Int) := by omega
                  obtain ⟨b4, o4, rfl, hb4, hjk, e1, e2, e3⟩ := (HS4.out.ext hE5q).at hjl
                  rw [List.getElem?_eq_getElem hjk, Option.getD_some] at e1 e2 e3
                  have hany := any_take (p := p) hjk
                  obtain ⟨d1, d2, d3, hbb2⟩ := HD.out _ hEq
                  generalize A[j] = q at *
                  rw [← HSPP.out] at d1
                  cases fv with
                  | true =>
                    have HN := Lib.hid (show true = (fb || (A.take (j + 1)).any (fun q => decide (q = p))) by rw [hany, ← Bool.or_assoc, ← HF.out]; rfl)
                    clear hany hjk
                    go_wp2_with fail
                    go_quiet (fail)
                    go_wp2_with fail
                    go_roundw
                    case rel => exact ⟨j + 1, true, rfl, by go_num, by omega, HN, hEq.trans (below_drewN' _ _ _)⟩
                    case measure => simp [intOf]; omega
                  | false =>
                    by_cases hu : q = p
                    · subst hu
                      have HN2 := Lib.hid (show true = (fb || (A.take (j + 1)).any (fun x => decide (x = q))) by rw [hany]; simp)
                      generalize str q.h = t1 at *
                      generalize q.s = t2 at *
                      generalize q.x = t3 at *
                      clear hany hjk
                      go_wp2_with fail
                      go_quiet (fail)
                      go_wp2_with fail
                      go_roundw
                      case rel => exact ⟨j + 1, true, rfl, by go_num, by omega, HN2, hEq.trans (below_drewN' _ _ _)⟩
                      case measure => simp [intOf]; omega
                    · have HN := Lib.hid (show false = (fb || (A.take (j + 1)).any (fun q => decide (q = p))) by rw [hany, ← Bool.or_assoc, ← HF.out, decide_eq_false hu]; rfl)
                      have HU := Lib.hid hu
                      by_cases q1 : q.h = p.h
                      · rw [q1] at e1
                        generalize str p.h = t1 at *
                        by_cases q2 : q.s = p.s
                        · rw [q2] at e2
                          have q3 : (q.x == p.x) = false := by
                            apply beq_eq_false_iff_ne.2; intro e; apply hu; obtain ⟨a1, a2, a3⟩ := q; obtain ⟨b1, b2, b3⟩ := p; simp_all
                          generalize p.s = t2 at *
                          generalize q.x = t3 at *
                          generalize p.x = t4 at *
                          clear q1 q2 hu hany hjk
                          go_wp2_with fail
                          go_quiet (fail)
                          go_wp2_with fail
                          go_roundw
                          case rel => exact ⟨j + 1, false, rfl, by go_num, by omega, HN, hEq.trans (below_drewN' _ _ _)⟩
                          case measure => simp [intOf]; omega
                        · have q3 : (q.s == p.s) = false := beq_eq_false_iff_ne.2 q2
                          generalize q.s = t2 at *
                          generalize p.s = t5 at *
                          generalize q.x = t3 at *
                          generalize p.x = t4 at *
                          clear q1 q2 hu hany hjk
                          go_wp2_with fail
                          go_quiet (fail)
                          go_wp2_with fail
                          go_roundw
                          case rel => exact ⟨j + 1, false, rfl, by go_num, by omega, HN, hEq.trans (below_drewN' _ _ _)⟩
                          case measure => simp [intOf]; omega
                      · have q3 : ((str q.h).toList == (str p.h).toList) = false := by rw [str_toList, str_toList]; exact beq_eq_false_iff_ne.2 q1
                        generalize str q.h = t1 at *
                        generalize str p.h = t6 at *
                        generalize q.s = t2 at *
                        generalize p.s = t5 at *
                        generalize q.x = t3 at *
                        generalize p.x = t4 at *
                        clear q1 hu hany hjk
                        go_wp2_with fail
                        go_quiet (fail)
                        go_wp2_with fail
                        go_roundw
                        case rel => exact ⟨j + 1, false, rfl, by go_num, by omega, HN, hEq.trans (below_drewN' _ _ _)⟩
                        case measure => simp [intOf]; omega
                · obtain rfl : j = m := by omega
                  have hft : fv = true := by
                    rw [HF.out, HFB.out, List.take_of_length_le (by rw [HML.out]; exact Nat.le_refl _)]
                    rcases HMEM.out with e | e
                    · rw [decide_eq_true e]; rfl
                    · rw [Bool.or_eq_true]; exact .inr (List.any_eq_true.2 ⟨p, e, by simp⟩)
                  subst hft
                  go_wp2_with fail
                  go_roundw
                  case rel => exact ⟨k + 1, by omega, by go_num, Ext.step hEq HEO.out⟩
                  case measure => simp [intOf]; omega
            · obtain rfl : k = n := by omega
              obtain ⟨WR, hWR⟩ : ∃ WR, WR = wr := ⟨_, rfl⟩
              subst hWR
              have hE1r : Ext W1 WR := Ext.step hE HE5.out
              by_cases hh : u.p.h = v.p.h
              · have t1 : (su.toList == sw.toList) = true := by rw [HUS.out, HVSS.out, hh]; simp
                clear hh
                go_wp2_with fail
                refine (HAW.out _).mono ?_; rintro e r1 ⟨rfl, hr1⟩
                go_wp2_with fail
                go_ret
                exact ⟨rfl, HFIN.out _ (Ext.step hr1 hE1r)⟩
              · have t1 : (su.toList == sw.toList) = false := by rw [HUS.out, HVSS.out]; exact beq_eq_false_iff_ne.2 hh
                have HHH := Lib.hid hh
                clear hh
                cases vb with
                | false =>
                  go_wp2_with fail
                  refine (HVV.out _).mono ?_; rintro e r0 ⟨rfl, hr0⟩
                  go_wp2_with fail
                  refine (HAW.out _).mono ?_; rintro e r1 ⟨rfl, hr1⟩
                  go_wp2_with fail
                  go_ret
                  exact ⟨rfl, HFIN.out _ (Ext.step hr1 (Ext.step hr0 hE1r))⟩
                | true =>
                  have HB3a := Lib.hid (HB3.out rfl)
                  have HB4a := Lib.hid (HB4.out rfl)
                  have HB5a := Lib.hid (HB5.out rfl)
                  rw [HCOM.out rfl HHH.out] at HB5a
                  obtain ⟨B, hBB⟩ : ∃ B, Upt.upd A v = B := ⟨_, rfl⟩
                  rw [hBB] at HB3a HB5a
                  obtain ⟨CC, hCC⟩ : ∃ C, Upt.upd L v = C := ⟨_, rfl⟩
                  rw [hCC] at HB4a HB5a
                  obtain ⟨mb, hmb⟩ : ∃ m, B.length = m := ⟨_, rfl⟩
                  rw [hmb] at HB3a HB5a
                  obtain ⟨mc, hmc⟩ : ∃ m, CC.length = m := ⟨_, rfl⟩
                  rw [hmc] at HB4a HB5a
                  have HER := Lib.hid hE
                  clear hBB hCC hmb hmc HB3 HB4 HB5 HCOM
                  go_wp2_with fail
                  refine (HVV.out _).mono ?_; rintro e r0 ⟨rfl, hr0⟩
                  have HE0 := Lib.hid (show Ext W5 r0 from Ext.step hr0 HER.out)
                  clear s0 s1 s2 y0 y1 y2 y3 y4 z0 z1 z2 z3 z4
                  clear g0 g1 g2 hE hE1r hr0
                  obtain ⟨⟨⟨s0, s1, s2⟩, ⟨y0, y1, y2, y3, y4⟩, ⟨z0, z1, z2, z3, z4⟩⟩, ⟨g0, g1, g2⟩⟩ := HCM.out r0 HE0.out
                  go_wp2_with fail
                  refine (HB3a.out _ _ _ (HS4.out.ext HE0.out)).mono ?_; rintro e r1 ⟨a1, c1, rfl, hs1, hr1⟩
                  have hq1 : Ext W5 r1 := Ext.step hr1 HE0.out
                  have hx1 := (Ext.refl r1).alloc (.cells #[.int .i64 ck, .slice a1 mb c1] 24)
                  have hG1 := SBox.new r1 ck (.slice a1 mb c1)
                  have hs1' := hs1.ext hx1
                  obtain ⟨R1, hR1⟩ : ∃ R, r1.alloc (.cells #[.int .i64 ck, .slice a1 mb c1] 24) = R := ⟨_, rfl⟩
                  obtain ⟨h1, hh1⟩ : ∃ g, r1.heap.size = g := ⟨_, rfl⟩
                  rw [hR1] at hx1 hG1 hs1'
                  rw [hh1] at hG1
                  have HR1 := Lib.hid hR1
                  have HH1 := Lib.hid hh1
                  have HQ1 := Lib.hid (Ext.step hx1 hq1)
                  have HG1 := Lib.hid hG1
                  have HSB1 := Lib.hid hs1'
                  clear s0 s1 s2 y0 y1 y2 y3 y4 z0 z1 z2 z3 z4
                  clear g0 g1 g2
                  obtain ⟨⟨⟨s0, s1, s2⟩, ⟨y0, y1, y2, y3, y4⟩, ⟨z0, z1, z2, z3, z4⟩⟩, ⟨g0, g1, g2⟩⟩ := HCM.out r1 hq1
                  clear hr1 hq1 hx1 hG1 hs1 hs1' hR1 hh1
                  go_wp2_with fail
                  rw [HR1.out]
                  rw [HH1.out]
                  refine (HB4a.out _ ((HSL.out.ext HE5.out).ext HQ1.out)).mono ?_; rintro e r2 ⟨a2, c2, rfl, hs2, hr2⟩
                  have hq2 : Ext W5 r2 := Ext.step hr2 HQ1.out
                  have hx2 := (Ext.refl r2).alloc (.cells #[.int .i64 ck, .slice a2 mc c2] 24)
                  have hs2' := hs2.ext hx2
                  have hR12 : Ext R1 (r2.alloc (.cells #[.int .i64 ck, .slice a2 mc c2] 24)) := Ext.step hx2 hr2
                  obtain ⟨R2, hR2⟩ : ∃ R, r2.alloc (.cells #[.int .i64 ck, .slice a2 mc c2] 24) = R := ⟨_, rfl⟩
                  obtain ⟨h2, hh2⟩ : ∃ g, r2.heap.size = g := ⟨_, rfl⟩
                  rw [hR2] at hx2 hs2' hR12
                  have HR2 := Lib.hid hR2
                  have HH2 := Lib.hid hh2
                  have HQ2 := Lib.hid (Ext.step hx2 hq2)
                  have HR12 := Lib.hid hR12
                  have HSC := Lib.hid hs2'
                  clear s0 s1 s2 y0 y1 y2 y3 y4 z0 z1 z2 z3 z4
                  clear g0 g1 g2
                  obtain ⟨⟨⟨s0, s1, s2⟩, ⟨y0, y1, y2, y3, y4⟩, ⟨z0, z1, z2, z3, z4⟩⟩, ⟨g0, g1, g2⟩⟩ := HCM.out r2 hq2
                  clear hr2 hq2 hx2 hs2 hs2' hR2 hh2 hR12
                  go_wp2_with fail
                  rw [HR2.out]
                  rw [HH2.out]
                  refine (HB5a.out _ _ _ HSC.out).mono ?_; rintro e r3 ⟨a3, c3, rfl, hs3, hr3⟩
                  have hx3 := (Ext.refl r3).alloc (.cells #[.int .i64 ck, .slice a3 mb c3] 24)
                  have hs3' := hs3.ext hx3
                  have hR13 : Ext R1 r3 := Ext.step hr3 HR12.out
                  obtain ⟨b0, b1, b2⟩ := (HG1.out.ext hR13).all
                  have hK := keep_states ck ck a1 a3 mb mb c1 c3 B B _ ((HSB1.out.ext hR13).ext hx3) hs3'
                  rw [decide_eq_true (⟨rfl, rfl⟩ : ck = ck ∧ B = B)] at hK
                  unfold Go.Proofs.YtjfflnnepndlkaaDoor.sv at hK
                  have HK3 := Lib.hid hK
                  have HQ3 := Lib.hid (show Ext W1 (r3.alloc (.cells #[.int .i64 ck, .slice a3 mb c3] 24)) from Ext.step hx3 (Ext.step hR13 (Ext.step HQ1.out HE5.out)))
                  clear s0 s1 s2 y0 y1 y2 y3 y4 z0 z1 z2 z3 z4
                  clear g0 g1 g2 hr3 hx3 hs3 hs3' hR13 hK
                  go_wp2_with fail
                  refine HK3.out.mono ?_; rintro e r4 ⟨rfl, hr4⟩
                  go_wp2_with fail
                  refine (HAW.out _).mono ?_; rintro e r5 ⟨rfl, hr5⟩
                  go_wp2_with fail
                  go_ret
                  exact ⟨rfl, HFIN.out _ (Ext.step hr5 (Ext.step hr4 HQ3.out))⟩
    · have hb : (decide (u.p.h.length ≤ 400) && decide (v.p.h.length ≤ 400)) = false := by
        by_cases t : u.p.h.length ≤ 400
        · rw [decide_eq_true t, Bool.true_and, decide_eq_false (fun e => hsh ⟨t, e⟩)]
        · rw [decide_eq_false t]; rfl
      rw [hb] at HSH
      clear hb hsh
      go_enter Tryd.func3, Tryd.ntmps3
      go_wp2_with fail
      rw [HW1.out]
      go_wp2_with fail
      refine (HSPa.out _ HSL.out).mono ?_; rintro e w2 ⟨rfl, hb2⟩
      have HE2 := Lib.hid (show Ext W1 w2 from hb2)
      clear s0 s1 s2 y0 y1 y2 y3 y4 z0 z1 z2 z3 z4
      obtain ⟨⟨s0, s1, s2⟩, ⟨y0, y1, y2, y3, y4⟩, ⟨z0, z1, z2, z3, z4⟩⟩ := HCL.out w2 HE2.out
      clear hb2
      go_wp2_with fail
      refine (HSH.out _).mono ?_; rintro e w3 ⟨rfl, hb3⟩
      have HE3 := Lib.hid (show Ext W1 w3 from Ext.step hb3 (HE2.out.alloc _))
      clear s0 s1 s2 y0 y1 y2 y3 y4 z0 z1 z2 z3 z4
      obtain ⟨⟨s0, s1, s2⟩, ⟨y0, y1, y2, y3, y4⟩, ⟨z0, z1, z2, z3, z4⟩⟩ := HCL.out w3 HE3.out
      clear hb3
      go_wp2_with fail
      refine (HAW.out _).mono ?_; rintro e w7 ⟨rfl, hb7⟩
      go_wp2_with fail
      go_ret
      exact ⟨rfl, HFIN.out _ (Ext.step hb7 HE3.out)⟩
  · have hbt : (decide (n ≤ 60) && L.all fun x => decide (x.h.length ≤ 300)) = false := by
      rw [Bool.eq_false_iff]; intro e
      rw [Bool.and_eq_true, List.all_eq_true] at e
      exact hsm ⟨of_decide_eq_true e.1, fun p hp => of_decide_eq_true (e.2 p hp)⟩
    rw [hbt] at HSP
    have HSPa := Lib.hid HSP.out
    clear hbt hsm HSP
    go_enter Tryd.func3, Tryd.ntmps3
    go_wp2_with fail
    rw [HW1.out]
    go_wp2_with fail
    refine (HSPa.out _ HSL.out).mono ?_; rintro e w2 ⟨rfl, hb2⟩
    go_wp2_with fail
    refine (HAW.out _).mono ?_; rintro e w3 ⟨rfl, hb3⟩
    go_wp2_with fail
    go_ret
    exact ⟨rfl, HFIN.out _ (Ext.step hb3 hb2)⟩
end

open Go.ChangeShapes Go.WideShapes Go.ChangeAt Go.RowKit Go.Lib
open Go.ChangeMaps (open_string shut_string)

theorem RowUpt4.own : ownKnob Tryd.prog.godebug = none := by kernel_rfl
theorem RowUpt4.laidOut : laidOutB Tryd.prog = true := by kernel_rfl
def RowUpt4.laid : List (String × DataW Unit) := [("unicode/utf8.acceptRanges", Rows.laid_unicode_utf8_acceptRanges), ("unicode/utf8.first", Rows.laid_unicode_utf8_first)]

set_option maxRecDepth 100000 in
theorem updateApplyLaws_lifted (os : Os) (started : os.Started) (H : Type) (enc : TypeId × Value → H) :
    ReturnsInHanded {} Tryd.checked os 3 .any (fun w args => (Rows.updateApplyLawsSpec.pre enc Tryd.prog Tryd.f3 [] false w args ∧ laidMetH Tryd.prog RowUpt4.laid w) ∧ sizedMet enc Tryd.prog Tryd.f3 (OpenSpec.ofChange Rows.updateApplyLawsSpec) false w args)
      (Rows.updateApplyLawsSpec.post enc Tryd.prog Tryd.f3 false true false false) := by
  refine returnsInHanded_of_change_and (C := Tryd.checked) (X := fun w _ => laidMetH Tryd.prog RowUpt4.laid w) (fun _ _ _ hh h => h.of_heap hh) RowUpt4.own started (by kernel_rfl) Tryd.func3
    (ChangeSpec.witness_shaped (enc := enc) (C := Tryd.checked) (os := os) (X := fun w _ => laidMetH Tryd.prog RowUpt4.laid w) false (World.laidAll Tryd.prog os RowUpt4.laid) #[.agg #[.int .i64 0, .slice none 0 0], .agg #[.int .i64 0, .string ByteArray.empty, .bool false, .int .i64 0], .agg #[.int .i64 0, .string ByteArray.empty, .bool false, .int .i64 0]] 8 (World.laidAll_os _ _ _)
      (World.shaped_of_ZipB (by kernel_rfl) (by kernel_rfl)) (by kernel_rfl) (by kernel_rfl) (by kernel_rfl)
      (by rw [MakeChecks.laidMetH_plain _ _ _ (by kernel_rfl)]; exact laidMet_laidAll _ (by kernel_rfl) (by kernel_rfl))) ?_
  intro W base args ds gs before hval0 hW _ _ hL _
  have hval : ∀ (j : Nat) t v, Tryd.f3.params[j]? = some t → args[j]? = some v → Value.okWide Tryd.prog W .any base t v := hval0
  have hW' := hW
  obtain ⟨p, q, hA0, hV, rfl, hfz, hnd⟩ := hW
  have hA : DataW.TrodAll enc Tryd.prog W 0 (fun _ => true) true Tryd.f3.params.toList args.toList ds p := hA0
  rw [Tryd.params3] at hA hval
  obtain ⟨v0, vs0, d0, ds0, p0, q0, hargs, rfl, rfl, h0, r0⟩ := trodAll_cons hA
  obtain ⟨v1, vs1, d1, ds1, p1, q1, rfl, rfl, rfl, h1, r1⟩ := trodAll_cons r0
  obtain ⟨v2, vs2, d2, ds2, p2, q2, rfl, rfl, rfl, h2, r2⟩ := trodAll_cons r1
  obtain ⟨rfl, rfl, rfl⟩ := trodAll_nil r2
  obtain rfl : args = #[v0, v1, v2] := by cases args; simp_all
  obtain ⟨rfl, rfl⟩ := trodVars_none hV
  have k0 := h0
  have lt0 : ∀ x ∈ p0, x.block < W.heap.size := by obtain ⟨m, hm⟩ := k0; exact DataW.trod_lt m _ _ _ hm
  obtain ⟨x0, a0, n0, c0, l0, rfl, w0⟩ := open_state (hval 0 24 v0 rfl rfl) h0
  have k1 := h1
  have lt1 : ∀ x ∈ p1, x.block < W.heap.size := by obtain ⟨m, hm⟩ := k1; exact DataW.trod_lt m _ _ _ hm
  obtain ⟨s1, rfl⟩ := open_upd (hval 1 28 v1 rfl rfl) h1
  have k2 := h2
  have lt2 : ∀ x ∈ p2, x.block < W.heap.size := by obtain ⟨m, hm⟩ := k2; exact DataW.trod_lt m _ _ _ hm
  obtain ⟨s2, rfl⟩ := open_upd (hval 2 28 v2 rfl rfl) h2
  clear hA0 hval0
  refine (upt_apply_laws x0 a0 n0 c0 l0 s1 s2 W w0).mono fun e W' ⟨he, bel⟩ => ?_
  subst he
  exact ⟨_, rfl, _, _, _, [], _, [], hW', trodAll_mk1 (shut_bool Tryd.underlying4 _), (trodAll_cons_mk (Below.trod RowUpt4.laidOut (by kernel_rfl) (of_decide_eq_true (by kernel_rfl)) k0 bel lt0) (trodAll_cons_mk (Below.trod RowUpt4.laidOut (by kernel_rfl) (of_decide_eq_true (by kernel_rfl)) k1 bel lt1) (trodAll_cons_mk (Below.trod RowUpt4.laidOut (by kernel_rfl) (of_decide_eq_true (by kernel_rfl)) k2 bel lt2) trodAll_mk0))), rfl, bel.frame _, fun h => by cases h⟩

theorem updateApplyLaws_holds : Rows.UpdateApplyLawsSaid :=
  OpenClaim.holds_of_wide 3 Tryd.f3 rfl rfl rfl rfl rfl rfl rfl ⟨rfl, rfl, rfl, rfl, rfl⟩ rfl rfl rfl rfl rfl (by kernel_rfl) Tryd.func3 (by kernel_rfl)
    (of_decide_eq_true (by kernel_rfl)) (by unfold Func.isWrapper; first | (rw [if_pos (by decide +kernel)]; kernel_rfl) | (rw [if_neg (by decide +kernel)]; exact ⟨rfl, rfl⟩))
    (fun os started H enc _ => updateApplyLaws_lifted os started H enc)

theorem updateApplyLaws_card_holds : Rows.UpdateApplyLawsCardSaid :=
  Claim7.holds_tied_plain_at .later [] [.data, .pinned] true (true, "33b9ba6ebe39839cbf119b77e7338210e006b362036208ac546e4a458e09c4a0") false
    updateApplyLaws_holds (fun _ h => by cases h) (by kernel_rfl) (fun _ h => by cases h) updateApplyLaws_row_tie rfl ⟨rfl, rfl⟩ (by kernel_rfl) rfl
    (fun f fn hf hfn => by
      obtain rfl : f = 3 := Option.some.inj ((show Tryd.prog.funcNamed "hstsstore/hstsstorelaw31.UpdateApplyLaws" = some 3 by kernel_rfl).symm.trans hf) |>.symm
      obtain rfl : fn = Tryd.f3 := (Option.some.inj (Tryd.func3.symm.trans hfn)).symm
      exact ⟨by kernel_rfl, fun j t ht => by
        rw [Tryd.params3] at ht
        have hm : t ∈ [24, 28] := by simpa using Array.mem_of_getElem? ht
        have hall : ([24, 28].all fun u => !Tryd.prog.wantsStandIn u) = true := by kernel_rfl
        exact (show Tryd.prog.wantsStandIn t = false by simpa using List.all_eq_true.1 hall t hm)⟩)
    (by kernel_rfl)
#print axioms updateApplyLaws_card_holds

end Go.Proofs.YtjfflnnepndlkaaDoor
