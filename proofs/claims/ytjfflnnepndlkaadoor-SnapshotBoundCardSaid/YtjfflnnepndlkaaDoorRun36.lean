/-
  Texts in one: SnapL1, SnapL2, SnapL3, SnapL4.
-/
import Derived.Test.YtjfflnnepndlkaaDoorRun33
import Derived.Test.YtjfflnnepndlkaaDoorRun35
import Derived.Test.YtjfflnnepndlkaaDoorRun1
import Derived.Test.YtjfflnnepndlkaaDoorRun25
import Derived.Test.YtjfflnnepndlkaaDoorRun34
import Derived.Test.YtjfflnnepndlkaaDoorRun5
import Derived.Test.YtjfflnnepndlkaaDoorRun27
/-
  The walk of SnapshotDecodeMatchesSpec.
-/
namespace Go.Proofs.YtjfflnnepndlkaaDoor
open Go.RowKit

set_option maxHeartbeats 8000000 in
set_option maxRecDepth 100000 in
theorem snap_decode_spec (a : Option Addr) (n c : Nat) (b : List UInt8) (w : World) (h : SlB w a n c b) :
    Calls Tryd.prog 5 #[.slice a n c] w fun e w' => e = .returned (.bool true) ∧ Below w.heap.size w w' := by
  have HAW := Lib.hid snap_awake
  have hle := h.le
  by_cases hn : n ≤ 5000
  · have HD := Lib.hid (fun W (hs : SlB W a n c b) => sn_decode a n c b W hs (by omega))
    have HD2 := Lib.hid (fun W (hs : SlB W a n c b) => rs_decode a n c b W hs (by omega))
    unfold SDecP at HD HD2
    obtain ⟨⟨⟨x, L⟩, z⟩, hd⟩ : ∃ d, Snap.dec b = d := ⟨_, rfl⟩
    rw [hd] at HD HD2
    simp only at HD HD2
    obtain ⟨m, hm⟩ : ∃ m, L.length = m := ⟨_, rfl⟩
    rw [hm] at HD HD2
    have HSB := Lib.hid h
    have t1 : ¬ (5000 : Int) < (n : Int) := by omega
    clear hd hm h hn
    go_enter Tryd.func5, Tryd.ntmps5
    go_wp2_with fail
    refine (HD.out _ HSB.out).mono ?_; rintro e w1 ⟨a1, c1, rfl, hs1, hb1⟩
    have hx1 := (Ext.refl w1).alloc (.cells #[.int .i64 x, .slice a1 m c1] 24)
    have hs1' := hs1.ext hx1
    have hE1 : Ext w (w1.alloc (.cells #[.int .i64 x, .slice a1 m c1] 24)) := Ext.step hx1 hb1
    have hG1 := SBox.new w1 x (.slice a1 m c1)
    obtain ⟨W2, hW2⟩ : ∃ W2, w1.alloc (.cells #[.int .i64 x, .slice a1 m c1] 24) = W2 := ⟨_, rfl⟩
    rw [hW2] at hs1' hE1 hG1
    have HW2 := Lib.hid hW2
    have HS1 := Lib.hid hs1'
    have HE1 := Lib.hid hE1
    have HG1 := Lib.hid hG1
    clear hx1 hs1 hs1' hE1 hG1 hW2 hb1
    go_wp2_with fail
    rw [HW2.out]
    refine (HD2.out _ (HSB.out.ext HE1.out)).mono ?_; rintro e w3 ⟨a3, c3, rfl, hs3, hb3⟩
    have hx3 := (Ext.refl w3).alloc (.cells #[.int .i64 x, .slice a3 m c3] 24)
    have hE23 : Ext W2 (w3.alloc (.cells #[.int .i64 x, .slice a3 m c3] 24)) := Ext.step hx3 hb3
    have HK := Lib.hid (keep_states x x a1 a3 m m c1 c3 L L _ (HS1.out.ext hE23) (hs3.ext hx3))
    rw [decide_eq_true (⟨rfl, rfl⟩ : x = x ∧ L = L)] at HK
    unfold sv at HK
    obtain ⟨g0, g1⟩ := (HG1.out.ext hb3).cells
    have g2 := heap_lt (HG1.out.ext hb3)
    have hE3 : Ext w (w3.alloc (.cells #[.int .i64 x, .slice a3 m c3] 24)) := Ext.step hE23 HE1.out
    have HE3 := Lib.hid hE3
    clear hx3 hE23 hs3 hb3 hE3
    go_wp2_with fail
    refine HK.out.mono ?_; rintro e w4 ⟨rfl, hb4⟩
    go_wp2_with fail
    refine (HAW.out _).mono ?_; rintro e w5 ⟨rfl, hb5⟩
    go_wp2_with fail
    go_ret
    exact ⟨rfl, Ext.step hb5 (Ext.step hb4 HE3.out)⟩
  · have t1 : (5000 : Int) < (n : Int) := by omega
    clear h
    go_enter Tryd.func5, Tryd.ntmps5
    go_wp2_with fail
    refine (HAW.out _).mono ?_; rintro e w5 ⟨rfl, hb5⟩
    go_wp2_with fail
    go_ret
    exact ⟨rfl, hb5⟩

end Go.Proofs.YtjfflnnepndlkaaDoor

/-
  The walk of SnapshotEncodeMatchesSpec.
-/
namespace Go.Proofs.YtjfflnnepndlkaaDoor
open Go.RowKit

set_option maxHeartbeats 8000000 in
set_option maxRecDepth 100000 in
theorem snap_encode_spec (ck : Int) (a : Option Addr) (n c : Nat) (L : List Pin) (w : World) (h : SlN w a n c L) :
    Calls Tryd.prog 4 #[.agg #[.int .i64 ck, .slice a n c]] w fun e w' => e = .returned (.bool true) ∧ Below w.heap.size w w' := by
  have HAW := Lib.hid snap_awake
  have hb0 := (Below.refl w.heap.size w).alloc (Nat.le_refl _) (.cells #[.int .i64 ck, .slice a n c] 24)
  have hs0 := SBox.new w ck (.slice a n c)
  have hsl := h.ext hb0
  have hle := h.le
  have HSP := Lib.hid (fun W (hs : SlN W a n c L) => keep_smallPins 60 a n c L W hs)
  obtain ⟨W0, hW0⟩ : ∃ W0, w.alloc (.cells #[.int .i64 ck, .slice a n c] 24) = W0 := ⟨_, rfl⟩
  rw [hW0] at hb0 hs0 hsl
  have HW0 := Lib.hid hW0
  have HB0 := Lib.hid hb0
  have HS0 := Lib.hid hs0
  have HSL := Lib.hid hsl
  obtain ⟨q0, q1, q2⟩ := hs0.all
  by_cases hsm : n ≤ 60 ∧ ∀ p ∈ L, p.h.length ≤ 300
  · have hbt : (decide (n ≤ 60) && L.all fun x => decide (x.h.length ≤ 300)) = true := by
      rw [decide_eq_true hsm.1, Bool.true_and, List.all_eq_true]; exact fun p hp => decide_eq_true (hsm.2 p hp)
    rw [hbt] at HSP
    have HSPa := Lib.hid HSP.out
    have hL : ∀ p ∈ L, p.h.length ≤ 1000000 := fun p hp => Nat.le_trans (hsm.2 p hp) (by omega)
    have hn : n ≤ 1000000 := by omega
    have HE := Lib.hid (fun W (hs : SlN W a n c L) => sn_encode ck a n c L W hs hL)
    have HE2 := Lib.hid (fun W (hs : SlN W a n c L) => rs_encode ck a n c L W hs hn hL)
    have HZ := Lib.hid (fun W (hs : SlN W a n c L) => sn_size ck a n c L W hs hL)
    have HZ2 := Lib.hid (fun W (hs : SlN W a n c L) => rs_size ck a n c L W hs hn hL)
    unfold SEncP at HE HE2
    obtain ⟨z, hz⟩ : ∃ z : Int, (if Upt.stValid ck L = true then (0 : Int) else 1) = z := ⟨_, rfl⟩
    obtain ⟨E, hE⟩ : ∃ E : List UInt8, (if Upt.stValid ck L = true then Snap.enc ck L else []) = E := ⟨_, rfl⟩
    rw [hz, hE] at HE HE2
    obtain ⟨sz, hsz⟩ : ∃ sz, Snap.size ck L = sz := ⟨_, rfl⟩
    rw [hsz] at HZ HZ2
    clear hz hE hsz hbt hsm hL HSP hb0 hs0 hsl hW0 h
    go_enter Tryd.func4, Tryd.ntmps4
    go_wp2_with fail
    rw [HW0.out]
    go_wp2_with fail
    refine (HSPa.out _ HSL.out).mono ?_; rintro e w1 ⟨rfl, hb1⟩
    have HE1 := Lib.hid (show Ext W0 w1 from hb1)
    clear q0 q1 q2 hb1
    obtain ⟨q0, q1, q2⟩ := (HS0.out.ext HE1.out).all
    go_wp2_with fail
    refine (HE.out _ (HSL.out.ext HE1.out)).mono ?_; rintro e w2 ⟨v2, rfl, ho2, hb2⟩
    obtain ⟨a2, c2, hv2, hs2, -⟩ := ho2.sl
    have HEx2 := Lib.hid (show Ext W0 w2 from Ext.step hb2 HE1.out)
    have HS2 := Lib.hid hs2
    clear q0 q1 q2 hb2 ho2 hs2
    obtain ⟨q0, q1, q2⟩ := (HS0.out.ext HEx2.out).all
    subst hv2
    go_wp2_with fail
    refine (HE2.out _ (HSL.out.ext HEx2.out)).mono ?_; rintro e w3 ⟨v3, rfl, ho3, hb3⟩
    obtain ⟨a3, c3, hv3, hs3, -⟩ := ho3.sl
    have hE3 : Ext W0 w3 := Ext.step hb3 HEx2.out
    have hs2' := HS2.out.ext' hb3
    subst hv3
    have HKB := Lib.hid (show ∀ W, Ext w3 W → Calls Tryd.prog 19 #[.slice a2 E.length c2, .slice a3 E.length c3] W fun e w' => e = .returned (.bool true) ∧ W = w' from fun W e =>
      (keep_bytes a2 a3 E.length E.length c2 c3 E E W (hs2'.ext' e) (hs3.ext' e)).mono (fun e w' hh => by rw [beq_self_eq_true] at hh; exact hh))
    have HZa := Lib.hid (show ∀ W, Ext w3 W → Calls Tryd.prog 20 #[.agg #[.int .i64 ck, .slice a n c]] W fun e w' => e = .returned (.int .i64 (sz : Nat)) ∧ Ext W w' from fun W e => HZ.out W (HSL.out.ext (Ext.step e hE3)))
    have HZb := Lib.hid (show ∀ W, Ext w3 W → Calls Tryd.prog 21 #[.agg #[.int .i64 ck, .slice a n c]] W fun e w' => e = .returned (.int .i64 (sz : Nat)) ∧ Ext W w' from fun W e => HZ2.out W (HSL.out.ext (Ext.step e hE3)))
    have HCL := Lib.hid (show ∀ W, Ext w3 W → Ext w3 W ∧ W.cell? ⟨w.heap.size, 0, none⟩ = some (.int .i64 ck) ∧ W.cell? ⟨w.heap.size, 1, none⟩ = some (.slice a n c) ∧ w.heap.size < W.heap.size from fun W e => ⟨e, (HS0.out.ext (Ext.step e hE3)).all⟩)
    have HE3 := Lib.hid hE3
    generalize E.length = en at *
    clear q0 q1 q2 hb3 ho3 hs3 hE3 hs2'
    obtain ⟨-, q0, q1, q2⟩ := HCL.out _ (Ext.refl _)
    go_wp2_with fail
    go_region_held3 (fun W => Ext w3 W ∧ W.cell? ⟨w.heap.size, 0, none⟩ = some (.int .i64 ck) ∧ W.cell? ⟨w.heap.size, 1, none⟩ = some (.slice a n c) ∧ w.heap.size < W.heap.size) (first | assumption | exact HCL.out _ (Ext.drew (Ext.refl _)) | exact HCL.out _ (Ext.step (by assumption) (And.left (by assumption)))) (first | (go_at_call 19; go_must (refine (HKB.out _ (And.left (by assumption))).mono ?_); rintro e x1 ⟨rfl, rfl⟩) | (go_at_call 20; go_must (refine (HZa.out _ (And.left (by assumption))).mono ?_); rintro e x2 ⟨rfl, hx2⟩) | (go_at_call 21; go_must (refine (HZb.out _ (And.left (by assumption))).mono ?_); rintro e x3 ⟨rfl, hx3⟩) | (go_at_call 16; go_must (refine (HAW.out _).mono ?_); rintro e x4 ⟨rfl, hx4⟩))
    all_goals
      have hfin : Ext w3 _ := And.left (by assumption)
      go_wp2_with fail
      go_ret
      exact ⟨rfl, HB0.out.trans ((Ext.step hfin HE3.out).mono HB0.out.size)⟩
  · have hbt : (decide (n ≤ 60) && L.all fun x => decide (x.h.length ≤ 300)) = false := by
      rw [Bool.eq_false_iff]; intro e
      rw [Bool.and_eq_true, List.all_eq_true] at e
      exact hsm ⟨of_decide_eq_true e.1, fun p hp => of_decide_eq_true (e.2 p hp)⟩
    rw [hbt] at HSP
    have HSPa := Lib.hid HSP.out
    clear hbt hsm HSP hb0 hs0 hsl hW0 h
    go_enter Tryd.func4, Tryd.ntmps4
    go_wp2_with fail
    rw [HW0.out]
    go_wp2_with fail
    refine (HSPa.out _ HSL.out).mono ?_; rintro e w1 ⟨rfl, hb1⟩
    go_wp2_with fail
    refine (HAW.out _).mono ?_; rintro e w2 ⟨rfl, hb2⟩
    go_wp2_with fail
    go_ret
    exact ⟨rfl, HB0.out.trans ((Ext.step hb2 hb1).mono HB0.out.size)⟩

end Go.Proofs.YtjfflnnepndlkaaDoor

/-
  The walk of SnapshotRoundTrip.
-/
namespace Go.Proofs.YtjfflnnepndlkaaDoor
open Go.RowKit

set_option maxHeartbeats 16000000 in
set_option maxRecDepth 100000 in
theorem snap_round (ck : Int) (a : Option Addr) (n c : Nat) (L : List Pin) (a' : Option Addr) (n' c' : Nat) (b : List UInt8) (w : World) (h : SlN w a n c L) (h' : SlB w a' n' c' b) :
    Calls Tryd.prog 6 #[.agg #[.int .i64 ck, .slice a n c], .slice a' n' c'] w fun e w' => e = .returned (.bool true) ∧ Below w.heap.size w w' := by
  have HAW := Lib.hid snap_awake
  have hb0 := (Below.refl w.heap.size w).alloc (Nat.le_refl _) (.cells #[.int .i64 ck, .slice a n c] 24)
  have hs0 := SBox.new w ck (.slice a n c)
  have hsl := h.ext hb0
  have hsb := h'.ext hb0
  have hle := h.le
  have hle' := h'.le
  have HSP := Lib.hid (fun W (hs : SlN W a n c L) => keep_smallPins 60 a n c L W hs)
  obtain ⟨W0, hW0⟩ : ∃ W0, w.alloc (.cells #[.int .i64 ck, .slice a n c] 24) = W0 := ⟨_, rfl⟩
  rw [hW0] at hb0 hs0 hsl hsb
  have HW0 := Lib.hid hW0
  have HB0 := Lib.hid hb0
  have HS0 := Lib.hid hs0
  have HSL := Lib.hid hsl
  have HSB := Lib.hid hsb
  have HLB := Lib.hid h'.len
  obtain ⟨q0, q1, q2⟩ := hs0.all
  by_cases hsm : n ≤ 60 ∧ ∀ p ∈ L, p.h.length ≤ 300
  · have hbt : (decide (n ≤ 60) && L.all fun x => decide (x.h.length ≤ 300)) = true := by
      rw [decide_eq_true hsm.1, Bool.true_and, List.all_eq_true]; exact fun p hp => decide_eq_true (hsm.2 p hp)
    rw [hbt] at HSP
    have HSPa := Lib.hid HSP.out
    have hL : ∀ p ∈ L, p.h.length ≤ 1000000 := fun p hp => Nat.le_trans (hsm.2 p hp) (by omega)
    have hn60 := hsm.1
    by_cases hn' : n' ≤ 5000
    · have HE := Lib.hid (fun W (hs : SlN W a n c L) => sn_encode ck a n c L W hs hL)
      have HD := Lib.hid (fun W (hs : SlB W a' n' c' b) => sn_decode a' n' c' b W hs (by omega))
      have HZ := Lib.hid (fun W (hs : SlN W a n c L) => sn_size ck a n c L W hs hL)
      have HDE := Lib.hid (fun a2 m c2 W (hs : SlB W a2 m c2 (Snap.enc ck L)) (hm : m ≤ 100000) => sn_decode a2 m c2 (Snap.enc ck L) W hs hm)
      unfold SDecP at HD HDE
      unfold SEncP at HE
      obtain ⟨⟨⟨tx, TL⟩, dz⟩, hd⟩ : ∃ d, Snap.dec b = d := ⟨_, rfl⟩
      have HDD := Lib.hid (show dz = 0 → Upt.stValid tx TL = true ∧ Snap.enc tx TL = b from fun e => by subst e; exact Snap.enc_dec hd)
      rw [hd] at HD
      simp only at HD
      obtain ⟨m, hm⟩ : ∃ m, TL.length = m := ⟨_, rfl⟩
      rw [hm] at HD
      have HM := Lib.hid hm
      have HSZ := Lib.hid (show Snap.size ck L = if Upt.stValid ck L = true then (Snap.enc ck L).length else 0 from rfl)
      have HVD := Lib.hid (fun (e : Upt.stValid ck L = true) => Snap.dec_enc e)
      have HVL := Lib.hid (fun (e : Upt.stValid ck L = true) => (Snap.bound e).1)
      obtain ⟨vb, hvb⟩ : ∃ vb, Upt.stValid ck L = vb := ⟨_, rfl⟩
      rw [hvb] at HE HSZ HVD HVL
      obtain ⟨sz, hsz⟩ : ∃ sz, Snap.size ck L = sz := ⟨_, rfl⟩
      rw [hsz] at HSZ HZ
      have HLN := Lib.hid h.len
      have HEV := Lib.hid (show Upt.stValid tx TL = true → ∀ a1 c1 W, SlN W a1 m c1 TL → Calls Tryd.prog 17 #[.agg #[.int .i64 tx, .slice a1 m c1]] W fun e w' => ∃ v, e = .returned (.tuple #[v, .int .i64 0]) ∧ OwnB W.heap.size w' v (Snap.enc tx TL) ∧ Ext W w' from fun hv a1 c1 W hs => by
        have := sn_encode tx a1 m c1 TL W hs (fun p hp => by have := Upt.hosts_len hv p hp; omega)
        unfold SEncP at this
        rw [hv] at this
        simpa using this)
      have HRV := Lib.hid (show Upt.stValid tx TL = true → ∀ a1 c1 W, SlN W a1 m c1 TL → Calls Tryd.prog 24 #[.agg #[.int .i64 tx, .slice a1 m c1]] W fun e w' => e = .returned (.bool true) ∧ Ext W w' from fun hv a1 c1 W hs => by
        have := ru_validState tx a1 m c1 TL W hs (by have := ((Upt.stValid_iff tx TL).1 hv).2.2.1; rw [HM.out] at this; omega) (fun p hp => by have := Upt.hosts_len hv p hp; omega)
        rw [hv] at this
        exact this)
      have HCL := Lib.hid (show ∀ W, Ext W0 W → W.cell? ⟨w.heap.size, 0, none⟩ = some (.int .i64 ck) ∧ W.cell? ⟨w.heap.size, 1, none⟩ = some (.slice a n c) ∧ w.heap.size < W.heap.size from fun W e => (HS0.out.ext e).all)
      have t1 : ¬ (5000 : Int) < (n' : Int) := by omega
      clear hd hm hvb hsz hbt hsm hL HSP hb0 hs0 hsl hsb hW0 h h'
      cases vb with
      | false =>
        simp only [Bool.false_eq_true, ↓reduceIte] at HE
        have hz0 : sz = 0 := by rw [HSZ.out]; rfl
        subst hz0
        go_enter Tryd.func6, Tryd.ntmps6
        go_wp2_with fail
        rw [HW0.out]
        go_wp2_with fail
        refine (HSPa.out _ HSL.out).mono ?_; rintro e w1 ⟨rfl, hb1⟩
        have HE1 := Lib.hid (show Ext W0 w1 from hb1)
        clear q0 q1 q2 hb1
        obtain ⟨q0, q1, q2⟩ := HCL.out _ HE1.out
        go_wp2_with fail
        refine (HD.out _ (HSB.out.ext HE1.out)).mono ?_; rintro e w3 ⟨a3, c3, rfl, hs3, hb3⟩
        have hG3 := SBox.new w3 tx (.slice a3 m c3)
        have hA3 := (Ext.refl w3).alloc (.cells #[.int .i64 tx, .slice a3 m c3] 24)
        have hs3' := hs3.ext hA3
        have hE3 : Ext W0 w3 := Ext.step hb3 HE1.out
        obtain ⟨W4, hW4⟩ : ∃ W4, w3.alloc (.cells #[.int .i64 tx, .slice a3 m c3] 24) = W4 := ⟨_, rfl⟩
        rw [hW4] at hG3 hA3 hs3'
        have HW4 := Lib.hid hW4
        have HE04 := Lib.hid (Ext.step hA3 hE3)
        have HG4 := Lib.hid hG3
        have HS4 := Lib.hid hs3'
        clear q0 q1 q2
        obtain ⟨q0, q1, q2⟩ := HCL.out _ hE3
        clear hb3 hG3 hA3 hW4 hs3 hs3' hE3
        by_cases hz : dz = 0
        · subst hz
          obtain ⟨hdv, hde⟩ := HDD.out rfl
          have HEVa := Lib.hid (HEV.out hdv)
          have HRVa := Lib.hid (HRV.out hdv)
          rw [hde] at HEVa
          clear hdv hde HEV HRV
          go_wp2_with fail
          rw [HW4.out]
          refine (HEVa.out _ _ _ HS4.out).mono ?_; rintro e w5 ⟨v5, rfl, ho5, hb5⟩
          obtain ⟨a5, c5, hv5, hs5, -⟩ := ho5.sl
          have hln := HLB.out
          rw [hln] at hs5 hv5
          subst hv5
          have hE05 : Ext W0 w5 := Ext.step hb5 HE04.out
          have HKB := Lib.hid ((keep_bytes a5 a' n' n' c5 c' b b w5 hs5 (HSB.out.ext hE05)).mono (R' := fun e w' => e = .returned (.bool true) ∧ w5 = w') (fun e w' hh => by rw [beq_self_eq_true] at hh; exact hh))
          have HE05 := Lib.hid hE05
          obtain ⟨g0, g1⟩ := (HG4.out.ext hb5).cells
          have g2 := heap_lt (HG4.out.ext hb5)
          have HS5 := Lib.hid (HS4.out.ext hb5)
          clear q0 q1 q2 ho5 hs5 hb5 hE05 hln
          obtain ⟨q0, q1, q2⟩ := HCL.out _ HE05.out
          go_wp2_with fail
          refine HKB.out.mono ?_; rintro e w6 ⟨rfl, rfl⟩
          go_wp2_with fail
          refine (HRVa.out _ _ _ HS5.out).mono ?_; rintro e w7 ⟨rfl, hb7⟩
          have HE07 := Lib.hid (show Ext W0 w7 from Ext.step hb7 HE05.out)
          clear q0 q1 q2 g0 g1 g2 hb7
          obtain ⟨q0, q1, q2⟩ := HCL.out _ HE07.out
          go_wp2_with fail
          refine (HE.out _ (HSL.out.ext HE07.out)).mono ?_; rintro e y1 ⟨v1, rfl, ho1, hc1⟩
          have HEY := Lib.hid (show Ext W0 y1 from Ext.step hc1 HE07.out)
          obtain ⟨a1, c1, hv1, hs1, -⟩ := ho1.sl
          subst hv1
          have HS1 := Lib.hid hs1
          clear q0 q1 q2 ho1 hs1 hc1
          obtain ⟨q0, q1, q2⟩ := HCL.out _ HEY.out
          go_wp2_with fail
          refine (HZ.out _ (HSL.out.ext HEY.out)).mono ?_; rintro e y2 ⟨rfl, hc2⟩
          go_wp2_with fail
          refine (HAW.out _).mono ?_; rintro e y3 ⟨rfl, hc3⟩
          go_wp2_with fail
          go_ret
          exact ⟨rfl, HB0.out.trans ((Ext.step hc3 (Ext.step hc2 HEY.out)).mono HB0.out.size)⟩
        · have t3 : (dz == 0) = false := by simpa using hz
          clear hz
          go_wp2_with fail
          rw [HW4.out]
          refine (HE.out _ (HSL.out.ext HE04.out)).mono ?_; rintro e y1 ⟨v1, rfl, ho1, hc1⟩
          have HEY := Lib.hid (show Ext W0 y1 from Ext.step hc1 HE04.out)
          obtain ⟨a1, c1, hv1, hs1, -⟩ := ho1.sl
          subst hv1
          have HS1 := Lib.hid hs1
          clear q0 q1 q2 ho1 hs1 hc1
          obtain ⟨q0, q1, q2⟩ := HCL.out _ HEY.out
          go_wp2_with fail
          refine (HZ.out _ (HSL.out.ext HEY.out)).mono ?_; rintro e y2 ⟨rfl, hc2⟩
          go_wp2_with fail
          refine (HAW.out _).mono ?_; rintro e y3 ⟨rfl, hc3⟩
          go_wp2_with fail
          go_ret
          exact ⟨rfl, HB0.out.trans ((Ext.step hc3 (Ext.step hc2 HEY.out)).mono HB0.out.size)⟩
      | true =>
        simp only [↓reduceIte] at HE
        have hz0 : sz = (Snap.enc ck L).length := by rw [HSZ.out]; rfl
        have hdec : Snap.dec (Snap.enc ck L) = ((ck, L), 0) := HVD.out rfl
        rw [hdec] at HDE
        simp only at HDE
        rw [HLN.out] at HDE
        have hel : (Snap.enc ck L).length ≤ 100000 := by have := HVL.out rfl; rw [HLN.out] at this; omega
        have HEL := Lib.hid hel
        obtain ⟨E, hE⟩ : ∃ E, Snap.enc ck L = E := ⟨_, rfl⟩
        rw [hE] at HDE HE HEL hz0
        clear hE hdec hel
        subst hz0
        go_enter Tryd.func6, Tryd.ntmps6
        go_wp2_with fail
        rw [HW0.out]
        go_wp2_with fail
        refine (HSPa.out _ HSL.out).mono ?_; rintro e w1 ⟨rfl, hb1⟩
        have HE1 := Lib.hid (show Ext W0 w1 from hb1)
        clear q0 q1 q2 hb1
        obtain ⟨q0, q1, q2⟩ := HCL.out _ HE1.out
        go_wp2_with fail
        refine (HD.out _ (HSB.out.ext HE1.out)).mono ?_; rintro e w3 ⟨a3, c3, rfl, hs3, hb3⟩
        have hG3 := SBox.new w3 tx (.slice a3 m c3)
        have hA3 := (Ext.refl w3).alloc (.cells #[.int .i64 tx, .slice a3 m c3] 24)
        have hs3' := hs3.ext hA3
        have hE3 : Ext W0 w3 := Ext.step hb3 HE1.out
        obtain ⟨W4, hW4⟩ : ∃ W4, w3.alloc (.cells #[.int .i64 tx, .slice a3 m c3] 24) = W4 := ⟨_, rfl⟩
        rw [hW4] at hG3 hA3 hs3'
        have HW4 := Lib.hid hW4
        have HE04 := Lib.hid (Ext.step hA3 hE3)
        have HG4 := Lib.hid hG3
        have HS4 := Lib.hid hs3'
        clear q0 q1 q2
        obtain ⟨q0, q1, q2⟩ := HCL.out _ hE3
        clear hb3 hG3 hA3 hW4 hs3 hs3' hE3
        by_cases hz : dz = 0
        · subst hz
          obtain ⟨hdv, hde⟩ := HDD.out rfl
          have HEVa := Lib.hid (HEV.out hdv)
          have HRVa := Lib.hid (HRV.out hdv)
          rw [hde] at HEVa
          clear hdv hde HEV HRV
          go_wp2_with fail
          rw [HW4.out]
          refine (HEVa.out _ _ _ HS4.out).mono ?_; rintro e w5 ⟨v5, rfl, ho5, hb5⟩
          obtain ⟨a5, c5, hv5, hs5, -⟩ := ho5.sl
          have hln := HLB.out
          rw [hln] at hs5 hv5
          subst hv5
          have hE05 : Ext W0 w5 := Ext.step hb5 HE04.out
          have HKB := Lib.hid ((keep_bytes a5 a' n' n' c5 c' b b w5 hs5 (HSB.out.ext hE05)).mono (R' := fun e w' => e = .returned (.bool true) ∧ w5 = w') (fun e w' hh => by rw [beq_self_eq_true] at hh; exact hh))
          have HE05 := Lib.hid hE05
          obtain ⟨g0, g1⟩ := (HG4.out.ext hb5).cells
          have g2 := heap_lt (HG4.out.ext hb5)
          have HS5 := Lib.hid (HS4.out.ext hb5)
          clear q0 q1 q2 ho5 hs5 hb5 hE05 hln
          obtain ⟨q0, q1, q2⟩ := HCL.out _ HE05.out
          go_wp2_with fail
          refine HKB.out.mono ?_; rintro e w6 ⟨rfl, rfl⟩
          go_wp2_with fail
          refine (HRVa.out _ _ _ HS5.out).mono ?_; rintro e w7 ⟨rfl, hb7⟩
          have HE07 := Lib.hid (show Ext W0 w7 from Ext.step hb7 HE05.out)
          clear q0 q1 q2 g0 g1 g2 hb7
          obtain ⟨q0, q1, q2⟩ := HCL.out _ HE07.out
          go_wp2_with fail
          refine (HE.out _ (HSL.out.ext HE07.out)).mono ?_; rintro e y1 ⟨v1, rfl, ho1, hc1⟩
          have HEY := Lib.hid (show Ext W0 y1 from Ext.step hc1 HE07.out)
          obtain ⟨a1, c1, hv1, hs1, -⟩ := ho1.sl
          subst hv1
          have HS1 := Lib.hid hs1
          clear q0 q1 q2 ho1 hs1 hc1
          obtain ⟨q0, q1, q2⟩ := HCL.out _ HEY.out
          go_wp2_with fail
          refine (HDE.out _ _ _ _ HS1.out HEL.out).mono ?_; rintro e y2 ⟨a6, c6, rfl, hs6, hc2⟩
          have hEz : Ext W0 y2 := Ext.step hc2 HEY.out
          have hA6 := (Ext.refl y2).alloc (.cells #[.int .i64 ck, .slice a6 n c6] 24)
          have hE6 : Ext W0 (y2.alloc (.cells #[.int .i64 ck, .slice a6 n c6] 24)) := Ext.step hA6 hEz
          have HK := Lib.hid (keep_states ck ck a6 a n n c6 c L L _ (hs6.ext hA6) (HSL.out.ext hE6))
          rw [decide_eq_true (⟨rfl, rfl⟩ : ck = ck ∧ L = L)] at HK
          unfold sv at HK
          have HE6 := Lib.hid hE6
          clear q0 q1 q2
          obtain ⟨q0, q1, q2⟩ := HCL.out _ hEz
          clear hEz hA6 hE6 hs6 hc2
          go_wp2_with fail
          refine HK.out.mono ?_; rintro e y4 ⟨rfl, hc4⟩
          have HEY4 := Lib.hid (show Ext W0 y4 from Ext.step hc4 HE6.out)
          clear q0 q1 q2 hc4
          obtain ⟨q0, q1, q2⟩ := HCL.out _ HEY4.out
          go_wp2_with fail
          refine (HZ.out _ (HSL.out.ext HEY4.out)).mono ?_; rintro e y5 ⟨rfl, hc5⟩
          go_wp2_with fail
          refine (HAW.out _).mono ?_; rintro e y3 ⟨rfl, hc3⟩
          go_wp2_with fail
          go_ret
          exact ⟨rfl, HB0.out.trans ((Ext.step hc3 (Ext.step hc5 HEY4.out)).mono HB0.out.size)⟩
        · have t3 : (dz == 0) = false := by simpa using hz
          clear hz
          go_wp2_with fail
          rw [HW4.out]
          refine (HE.out _ (HSL.out.ext HE04.out)).mono ?_; rintro e y1 ⟨v1, rfl, ho1, hc1⟩
          have HEY := Lib.hid (show Ext W0 y1 from Ext.step hc1 HE04.out)
          obtain ⟨a1, c1, hv1, hs1, -⟩ := ho1.sl
          subst hv1
          have HS1 := Lib.hid hs1
          clear q0 q1 q2 ho1 hs1 hc1
          obtain ⟨q0, q1, q2⟩ := HCL.out _ HEY.out
          go_wp2_with fail
          refine (HDE.out _ _ _ _ HS1.out HEL.out).mono ?_; rintro e y2 ⟨a6, c6, rfl, hs6, hc2⟩
          have hEz : Ext W0 y2 := Ext.step hc2 HEY.out
          have hA6 := (Ext.refl y2).alloc (.cells #[.int .i64 ck, .slice a6 n c6] 24)
          have hE6 : Ext W0 (y2.alloc (.cells #[.int .i64 ck, .slice a6 n c6] 24)) := Ext.step hA6 hEz
          have HK := Lib.hid (keep_states ck ck a6 a n n c6 c L L _ (hs6.ext hA6) (HSL.out.ext hE6))
          rw [decide_eq_true (⟨rfl, rfl⟩ : ck = ck ∧ L = L)] at HK
          unfold sv at HK
          have HE6 := Lib.hid hE6
          clear q0 q1 q2
          obtain ⟨q0, q1, q2⟩ := HCL.out _ hEz
          clear hEz hA6 hE6 hs6 hc2
          go_wp2_with fail
          refine HK.out.mono ?_; rintro e y4 ⟨rfl, hc4⟩
          have HEY4 := Lib.hid (show Ext W0 y4 from Ext.step hc4 HE6.out)
          clear q0 q1 q2 hc4
          obtain ⟨q0, q1, q2⟩ := HCL.out _ HEY4.out
          go_wp2_with fail
          refine (HZ.out _ (HSL.out.ext HEY4.out)).mono ?_; rintro e y5 ⟨rfl, hc5⟩
          go_wp2_with fail
          refine (HAW.out _).mono ?_; rintro e y3 ⟨rfl, hc3⟩
          go_wp2_with fail
          go_ret
          exact ⟨rfl, HB0.out.trans ((Ext.step hc3 (Ext.step hc5 HEY4.out)).mono HB0.out.size)⟩
    · have t1 : (5000 : Int) < (n' : Int) := by omega
      clear hbt hsm hL HSP hb0 hs0 hsl hsb hW0 h h'
      go_enter Tryd.func6, Tryd.ntmps6
      go_wp2_with fail
      rw [HW0.out]
      go_wp2_with fail
      refine (HSPa.out _ HSL.out).mono ?_; rintro e w1 ⟨rfl, hb1⟩
      go_wp2_with fail
      refine (HAW.out _).mono ?_; rintro e w2 ⟨rfl, hb2⟩
      go_wp2_with fail
      go_ret
      exact ⟨rfl, HB0.out.trans ((Ext.step hb2 hb1).mono HB0.out.size)⟩
  · have hbt : (decide (n ≤ 60) && L.all fun x => decide (x.h.length ≤ 300)) = false := by
      rw [Bool.eq_false_iff]; intro e
      rw [Bool.and_eq_true, List.all_eq_true] at e
      exact hsm ⟨of_decide_eq_true e.1, fun p hp => of_decide_eq_true (e.2 p hp)⟩
    rw [hbt] at HSP
    have HSPa := Lib.hid HSP.out
    clear hbt hsm HSP hb0 hs0 hsl hsb hW0 h h'
    go_enter Tryd.func6, Tryd.ntmps6
    go_wp2_with fail
    rw [HW0.out]
    go_wp2_with fail
    refine (HSPa.out _ HSL.out).mono ?_; rintro e w1 ⟨rfl, hb1⟩
    go_wp2_with fail
    refine (HAW.out _).mono ?_; rintro e w2 ⟨rfl, hb2⟩
    go_wp2_with fail
    go_ret
    exact ⟨rfl, HB0.out.trans ((Ext.step hb2 hb1).mono HB0.out.size)⟩

end Go.Proofs.YtjfflnnepndlkaaDoor

/-
  The walk of SnapshotBound.
-/
namespace Go.Proofs.YtjfflnnepndlkaaDoor
open Go.RowKit

theorem keep_ownPinsS (a : Option Addr) (n c : Nat) (l : List Pin) (w : World) (h : SlN w a n c l) (hn : n ≤ 1000000) :
    Calls Tryd.prog 26 #[.slice a n c] w fun e w' => ∃ a9 c9, e = .returned (.slice a9 n c9) ∧ OwnN w.heap.size w' (.slice a9 n c9) l ∧ Below w.heap.size w w' :=
  (keep_ownPins a n c l w h hn).mono fun e w' ⟨v, he, ho, hb⟩ => by
    obtain ⟨a9, c9, hv, -, -⟩ := ho.sl
    rw [h.len] at hv
    subst hv
    exact ⟨a9, c9, he, ho, hb⟩
theorem bcellS {W w1 : World} (hb : Below W.heap.size W w1) : (∀ b o, b < W.heap.size → w1.cell? ⟨b, o, none⟩ = W.cell? ⟨b, o, none⟩) ∧ (∀ b o, b < W.heap.size → w1.frozen? ⟨b, o, none⟩ = W.frozen? ⟨b, o, none⟩) :=
  ⟨fun b o h => hb.cell (p := ⟨b, o, none⟩) h, fun b o h => hb.frozen (p := ⟨b, o, none⟩) h⟩
theorem OwnN.slB9 {base : Nat} {w : World} {a : Option Addr} {n c : Nat} {L : List Pin} (h : OwnN base w (.slice a n c) L) : SlN w a n c L := by
  obtain ⟨a', c', hv, hs, -⟩ := h.sl
  cases hv
  exact hs
/-- What the two sizes are. -/
theorem Snap.bound_facts {ck : Int} {L : List Pin} (h : Upt.stValid ck L = true) {k n : Nat} (hn : L.length = n) (hk : k ≤ n) :
    Snap.size ck L ≤ 8 + n * 262 ∧ Snap.size ck (L.take k) ≤ Snap.size ck L ∧ 2 ≤ Snap.size ck (L.take k) ∧ (Snap.size ck (L.take k) = Snap.size ck L ↔ k = n) := by
  subst hn
  have h2 := Snap.valid_take h k
  have b1 := Snap.bound h
  have b2 := Snap.bound h2
  have b3 := Snap.take_len h hk
  have e1 : Snap.size ck L = (Snap.enc ck L).length := by unfold Snap.size; rw [h]; rfl
  have e2 : Snap.size ck (L.take k) = (Snap.enc ck (L.take k)).length := by unfold Snap.size; rw [h2]; rfl
  rw [e1, e2]
  exact ⟨b1.1, b3.1, b2.2, b3.2⟩

set_option maxHeartbeats 16000000 in
set_option maxRecDepth 100000 in
theorem snap_bound (ck : Int) (a : Option Addr) (n c : Nat) (L : List Pin) (z : Int) (w : World) (h : SlN w a n c L) (_hz : (Lit.int .i64 z).wf = true) :
    Calls Tryd.prog 7 #[.agg #[.int .i64 ck, .slice a n c], .int .i64 z] w fun e w' => e = .returned (.bool true) ∧ Below w.heap.size w w' := by
  have HAW := Lib.hid snap_awake
  have hb0 := (Below.refl w.heap.size w).alloc (Nat.le_refl _) (.cells #[.int .i64 ck, .slice a n c] 24)
  have hs0 := SBox.new w ck (.slice a n c)
  have hsl := h.ext hb0
  have hle := h.le
  have HSP := Lib.hid (fun W (hs : SlN W a n c L) => keep_smallPins 60 a n c L W hs)
  obtain ⟨W0, hW0⟩ : ∃ W0, w.alloc (.cells #[.int .i64 ck, .slice a n c] 24) = W0 := ⟨_, rfl⟩
  rw [hW0] at hb0 hs0 hsl
  have HW0 := Lib.hid hW0
  have HB0 := Lib.hid hb0
  have HS0 := Lib.hid hs0
  have HSL := Lib.hid hsl
  obtain ⟨q0, q1, q2⟩ := hs0.all
  by_cases hsm : n ≤ 60 ∧ ∀ p ∈ L, p.h.length ≤ 300
  · have hbt : (decide (n ≤ 60) && L.all fun x => decide (x.h.length ≤ 300)) = true := by
      rw [decide_eq_true hsm.1, Bool.true_and, List.all_eq_true]; exact fun p hp => decide_eq_true (hsm.2 p hp)
    rw [hbt] at HSP
    have HSPa := Lib.hid HSP.out
    have hL : ∀ p ∈ L, p.h.length ≤ 1000000 := fun p hp => Nat.le_trans (hsm.2 p hp) (by omega)
    have hn60 := hsm.1
    have HRV := Lib.hid (fun W (hs : SlN W a n c L) => ru_validState ck a n c L W hs (by omega) hL)
    have HCL := Lib.hid (show ∀ W, Ext W0 W → W.cell? ⟨w.heap.size, 0, none⟩ = some (.int .i64 ck) ∧ W.cell? ⟨w.heap.size, 1, none⟩ = some (.slice a n c) ∧ w.heap.size < W.heap.size from fun W e => (HS0.out.ext e).all)
    obtain ⟨vb, hvb⟩ : ∃ vb, Upt.stValid ck L = vb := ⟨_, rfl⟩
    rw [hvb] at HRV
    have HVB := Lib.hid hvb
    have HL := Lib.hid hL
    have HLN := Lib.hid h.len
    clear hbt hsm hL HSP hb0 hs0 hsl hW0 h hvb
    cases vb with
    | false =>
      go_enter Tryd.func7, Tryd.ntmps7
      go_wp2_with fail
      rw [HW0.out]
      go_wp2_with fail
      refine (HSPa.out _ HSL.out).mono ?_; rintro e w1 ⟨rfl, hb1⟩
      clear q0 q1 q2
      obtain ⟨q0, q1, q2⟩ := HCL.out _ hb1
      go_wp2_with fail
      refine (HRV.out _ (HSL.out.ext hb1)).mono ?_; rintro e w2 ⟨rfl, hb2⟩
      go_wp2_with fail
      refine (HAW.out _).mono ?_; rintro e w3 ⟨rfl, hb3⟩
      go_wp2_with fail
      go_ret
      exact ⟨rfl, HB0.out.trans ((Ext.step hb3 (Ext.step hb2 hb1)).mono HB0.out.size)⟩
    | true =>
      obtain ⟨k, hk⟩ : ∃ k : Nat, z % ((n : Int) + 1) = (k : Int) := ⟨(z % ((n : Int) + 1)).toNat, by have := Int.emod_nonneg z (show ((n : Int) + 1) ≠ 0 by omega); omega⟩
      have hkn : k ≤ n := by have := Int.emod_lt_of_pos z (show (0 : Int) < (n : Int) + 1 by omega); omega
      have HMOD := Lib.hid (fun W => keep_mod z ((n : Int) + 1) W (by omega) (by omega))
      rw [hk] at HMOD
      obtain ⟨f1, f2, f3, f4⟩ := Snap.bound_facts HVB.out HLN.out hkn
      have HSA := Lib.hid (fun W (hs : SlN W a n c L) => sn_size ck a n c L W hs HL.out)
      have HSB := Lib.hid (fun a1 c1 W (hs : SlN W a1 k c1 (L.take k)) => sn_size ck a1 k c1 (L.take k) W hs (fun p hp => HL.out p (List.mem_of_mem_take hp)))
      obtain ⟨sa, hsa⟩ : ∃ s, Snap.size ck L = s := ⟨_, rfl⟩
      obtain ⟨sb, hsb⟩ : ∃ s, Snap.size ck (L.take k) = s := ⟨_, rfl⟩
      rw [hsa] at f1 f2 f4 HSA
      rw [hsb] at f2 f3 f4 HSB
      have g1 : (sa : Int) ≤ 8 + (n : Int) * 262 := by omega
      have g2 : (sb : Int) ≤ (sa : Int) := by omega
      have g3 : (2 : Int) ≤ (sb : Int) := by omega
      have g4 : ((k : Int) == (n : Int)) = ((sa : Int) == (sb : Int)) := by
        rw [Bool.eq_iff_iff]; simp only [beq_iff_eq]
        constructor
        · intro e; have := f4.2 (by omega); omega
        · intro e; have := f4.1 (by omega); omega
      obtain ⟨eb, heb⟩ : ∃ eb, ((sa : Int) == (sb : Int)) = eb := ⟨_, rfl⟩
      rw [heb] at g4
      have k0 : (0 : Int) ≤ (k : Int) := by omega
      have k1 : (k : Int) ≤ (n : Int) := by omega
      have kc : n ≤ c := HSL.out.2.1
      have kc' : (k : Int) ≤ (c : Int) := by omega
      have HG4 := Lib.hid g4
      have HEB := Lib.hid heb
      clear hk hsa hsb f1 f2 f3 f4 g4 heb
      cases a with
      | none =>
        obtain ⟨hLn, hcn⟩ := HSL.out.2.2.2.1 rfl
        have hn0 : n = 0 := by have := HLN.out; rw [hLn] at this; exact this.symm
        have hk0 : k = 0 := by omega
        subst hcn; subst hn0; subst hk0
        have hebt : eb = true := by rw [← HG4.out]; rfl
        subst hebt
        have HTK := Lib.hid (show ∀ W, Ext W0 W → SlN W none 0 0 (L.take 0) from fun W e => (HSL.out.ext e).take (by omega))
        have HOP := Lib.hid (fun W (e : Ext W0 W) => keep_ownPinsS none 0 0 (L.take 0) W (HTK.out W e) (by omega))
        go_enter Tryd.func7, Tryd.ntmps7
        go_wp2_with fail
        rw [HW0.out]
        go_wp2_with fail
        refine (HSPa.out _ HSL.out).mono ?_; rintro e w1 ⟨rfl, hb1⟩
        clear q0 q1 q2
        obtain ⟨q0, q1, q2⟩ := HCL.out _ hb1
        go_wp2_with fail
        refine (HRV.out _ (HSL.out.ext hb1)).mono ?_; rintro e w2 ⟨rfl, hb2⟩
        have hE2 : Ext W0 w2 := Ext.step hb2 hb1
        clear q0 q1 q2
        obtain ⟨q0, q1, q2⟩ := HCL.out _ hE2
        go_wp2_with fail
        refine (HMOD.out _).mono ?_; rintro e w3 ⟨rfl, rfl⟩
        have HE2 := Lib.hid hE2
        have hz5 : W0.heap.size ≤ w2.heap.size := hE2.size
        have HKP := Lib.hid (show ∀ W, Ext W0 W → Ext W0 W ∧ W.cell? ⟨w.heap.size, 0, none⟩ = some (.int .i64 ck) ∧ W.cell? ⟨w.heap.size, 1, none⟩ = some (.slice none 0 0) ∧ w.heap.size < W.heap.size from fun W e => ⟨e, (HCL.out W e).1, (HCL.out W e).2.1, (HCL.out W e).2.2⟩)
        have HST := Lib.hid (show ∀ W (p : Addr) u, Ext W0 W → W0.heap.size ≤ p.block → Ext W0 (W.setCell p u) from fun W p u e hp => Below.setCell e hp u)
        go_wp2_with fail
        go_region_held3 (fun W => Ext W0 W ∧ W.cell? ⟨w.heap.size, 0, none⟩ = some (.int .i64 ck) ∧ W.cell? ⟨w.heap.size, 1, none⟩ = some (.slice none 0 0) ∧ w.heap.size < W.heap.size) (first | assumption | exact HKP.out _ hE1 | exact HKP.out _ (Ext.drew (by assumption)) | exact HKP.out _ (Ext.alloc (And.left (by assumption)) _) | exact HKP.out _ (Ext.alloc hE1 _) | exact HKP.out _ (HST.out _ _ _ (HST.out _ _ _ hE1 hz5) hz5)) (first | (go_at_call 26; go_must (refine (HOP.out _ (And.left (by assumption))).mono ?_); rintro e u1 ⟨a9, c9, rfl, ho, hb9⟩; obtain ⟨hc, hf⟩ := bcellS hb9; have hE1 : Ext W0 u1 := Ext.step hb9 (And.left (by assumption))))
        · have hG := SBox.new u1 ck (.slice a9 0 c9)
          have hx := (Ext.refl u1).alloc (.cells #[.int .i64 ck, .slice a9 0 c9] 24)
          have hs9 := ho.slB9.ext hx
          have hEX : Ext W0 (u1.alloc (.cells #[.int .i64 ck, .slice a9 0 c9] 24)) := Ext.step hx hE1
          obtain ⟨WF, hWF⟩ : ∃ WF, u1.alloc (.cells #[.int .i64 ck, .slice a9 0 c9] 24) = WF := ⟨_, rfl⟩
          obtain ⟨g, hg⟩ : ∃ g, u1.heap.size = g := ⟨_, rfl⟩
          rw [hWF] at hG hs9 hEX
          rw [hg] at hG
          rw [hWF, hg]
          rename_i hHeld0; clear hHeld0
          have HGF := Lib.hid hG
          have HS9 := Lib.hid hs9
          have HEX := Lib.hid hEX
          clear q0 q1 q2 hc hf hE1 ho hb9 hWF hg hG hs9 hEX hb1 hb2 hE2 hz5
          have HKQ := Lib.hid (show ∀ W, Ext WF W → Ext WF W ∧ (W.cell? ⟨w.heap.size, 0, none⟩ = some (.int .i64 ck) ∧ W.cell? ⟨w.heap.size, 1, none⟩ = some (.slice none 0 0) ∧ w.heap.size < W.heap.size) ∧ (W.cell? ⟨g, 0, none⟩ = some (.int .i64 ck) ∧ W.cell? ⟨g, 1, none⟩ = some (.slice a9 0 c9) ∧ g < W.heap.size) from fun W e => ⟨e, HCL.out W (Ext.step e HEX.out), (HGF.out.ext e).all⟩)
          have HAA := Lib.hid (fun W (e : Ext WF W) => HSA.out W (HSL.out.ext (Ext.step e HEX.out)))
          have HBB := Lib.hid (fun W (e : Ext WF W) => HSB.out a9 c9 W (HS9.out.ext e))
          obtain ⟨-, ⟨q0, q1, q2⟩, ⟨r0, r1, r2⟩⟩ := HKQ.out WF (Ext.refl _)
          go_wp2_with fail
          go_region_held3 (fun W => Ext WF W ∧ (W.cell? ⟨w.heap.size, 0, none⟩ = some (.int .i64 ck) ∧ W.cell? ⟨w.heap.size, 1, none⟩ = some (.slice none 0 0) ∧ w.heap.size < W.heap.size) ∧ (W.cell? ⟨g, 0, none⟩ = some (.int .i64 ck) ∧ W.cell? ⟨g, 1, none⟩ = some (.slice a9 0 c9) ∧ g < W.heap.size)) (first | assumption | exact HKQ.out _ (Ext.drew (Ext.refl _)) | exact HKQ.out _ (Ext.step (by assumption) (And.left (by assumption)))) (first | (go_at_call_of 20 (Value.agg #[Value.int IntKind.i64 ck, Value.slice none 0 0]); go_must (refine (HAA.out _ (And.left (by assumption))).mono ?_); rintro e x1 ⟨rfl, hx1⟩) | (go_at_call_of 20 (Value.agg #[Value.int IntKind.i64 ck, Value.slice a9 0 c9]); go_must (refine (HBB.out _ (And.left (by assumption))).mono ?_); rintro e x2 ⟨rfl, hx2⟩))
          all_goals
            have hfin : Ext WF _ := And.left (by assumption)
            have hb := HG4.out
            have hb2 := HEB.out
            have HFE := Lib.hid hfin
            rename_i hHeld1; clear hHeld1
            clear q0 q1 q2 r0 r1 r2
            obtain ⟨-, ⟨q0, q1, q2⟩, -⟩ := HKQ.out _ hfin
            go_wp2_with fail
            refine (HAW.out _).mono ?_; rintro e w9 ⟨rfl, hb9⟩
            go_wp2_with fail
            go_ret
            exact ⟨rfl, HB0.out.trans ((Ext.step hb9 (Ext.step HFE.out HEX.out)).mono HB0.out.size)⟩
        · have hZ0 := SBox.new w2 0 (.slice none 0 0)
          have hzd : (w2.alloc (.cells #[.int .i64 0, .slice none 0 0] 24)).drew.heap.size = w2.heap.size + 1 := by simp
          have hZ1 : SBox u1 w2.heap.size 0 (.slice none 0 0) := (hb9.block _ (by rw [hzd]; exact Nat.lt_succ_self _)).trans hZ0
          have hG := hZ1.set2' ck (.slice a9 0 c9)
          have hs9 := ho.slB9.setOldS hZ1 0 1 (.int .i64 ck) (.slice a9 0 c9)
          have hEX : Ext W0 ((u1.setCell ⟨w2.heap.size, 0, none⟩ (.int .i64 ck)).setCell ⟨w2.heap.size, 1, none⟩ (.slice a9 0 c9)) := HST.out _ _ _ (HST.out _ _ _ hE1 hz5) hz5
          obtain ⟨WF, hWF⟩ : ∃ WF, (u1.setCell ⟨w2.heap.size, 0, none⟩ (.int .i64 ck)).setCell ⟨w2.heap.size, 1, none⟩ (.slice a9 0 c9) = WF := ⟨_, rfl⟩
          obtain ⟨g, hg⟩ : ∃ g, w2.heap.size = g := ⟨_, rfl⟩
          rw [hWF] at hG hs9 hEX
          rw [hg] at hG
          rw [hWF, hg]
          rename_i hHeld0; clear hHeld0
          have HGF := Lib.hid hG
          have HS9 := Lib.hid hs9
          have HEX := Lib.hid hEX
          clear q0 q1 q2 hc hf hE1 ho hb9 hWF hg hG hs9 hEX hb1 hb2 hE2 hz5
          have HKQ := Lib.hid (show ∀ W, Ext WF W → Ext WF W ∧ (W.cell? ⟨w.heap.size, 0, none⟩ = some (.int .i64 ck) ∧ W.cell? ⟨w.heap.size, 1, none⟩ = some (.slice none 0 0) ∧ w.heap.size < W.heap.size) ∧ (W.cell? ⟨g, 0, none⟩ = some (.int .i64 ck) ∧ W.cell? ⟨g, 1, none⟩ = some (.slice a9 0 c9) ∧ g < W.heap.size) from fun W e => ⟨e, HCL.out W (Ext.step e HEX.out), (HGF.out.ext e).all⟩)
          have HAA := Lib.hid (fun W (e : Ext WF W) => HSA.out W (HSL.out.ext (Ext.step e HEX.out)))
          have HBB := Lib.hid (fun W (e : Ext WF W) => HSB.out a9 c9 W (HS9.out.ext e))
          obtain ⟨-, ⟨q0, q1, q2⟩, ⟨r0, r1, r2⟩⟩ := HKQ.out WF (Ext.refl _)
          go_wp2_with fail
          go_region_held3 (fun W => Ext WF W ∧ (W.cell? ⟨w.heap.size, 0, none⟩ = some (.int .i64 ck) ∧ W.cell? ⟨w.heap.size, 1, none⟩ = some (.slice none 0 0) ∧ w.heap.size < W.heap.size) ∧ (W.cell? ⟨g, 0, none⟩ = some (.int .i64 ck) ∧ W.cell? ⟨g, 1, none⟩ = some (.slice a9 0 c9) ∧ g < W.heap.size)) (first | assumption | exact HKQ.out _ (Ext.drew (Ext.refl _)) | exact HKQ.out _ (Ext.step (by assumption) (And.left (by assumption)))) (first | (go_at_call_of 20 (Value.agg #[Value.int IntKind.i64 ck, Value.slice none 0 0]); go_must (refine (HAA.out _ (And.left (by assumption))).mono ?_); rintro e x1 ⟨rfl, hx1⟩) | (go_at_call_of 20 (Value.agg #[Value.int IntKind.i64 ck, Value.slice a9 0 c9]); go_must (refine (HBB.out _ (And.left (by assumption))).mono ?_); rintro e x2 ⟨rfl, hx2⟩))
          all_goals
            have hfin : Ext WF _ := And.left (by assumption)
            have hb := HG4.out
            have hb2 := HEB.out
            have HFE := Lib.hid hfin
            rename_i hHeld1; clear hHeld1
            clear q0 q1 q2 r0 r1 r2
            obtain ⟨-, ⟨q0, q1, q2⟩, -⟩ := HKQ.out _ hfin
            go_wp2_with fail
            refine (HAW.out _).mono ?_; rintro e w9 ⟨rfl, hb9⟩
            go_wp2_with fail
            go_ret
            exact ⟨rfl, HB0.out.trans ((Ext.step hb9 (Ext.step HFE.out HEX.out)).mono HB0.out.size)⟩
      | some ad =>
        by_cases hl0 : L = []
        · have hn0 : n = 0 := by have := HLN.out; rw [hl0] at this; exact this.symm
          have hk0 : k = 0 := by omega
          subst hn0; subst hk0
          have hebt : eb = true := by rw [← HG4.out]; rfl
          subst hebt
          obtain ⟨bb, o, sp⟩ := ad
          have HTK := Lib.hid (show ∀ W, Ext W0 W → SlN W (some ⟨bb, o, sp⟩) 0 c (L.take 0) from fun W e => (HSL.out.ext e).take (by omega))
          have HOP := Lib.hid (fun W (e : Ext W0 W) => keep_ownPinsS (some ⟨bb, o, sp⟩) 0 c (L.take 0) W (HTK.out W e) (by omega))
          go_enter Tryd.func7, Tryd.ntmps7
          go_wp2_with fail
          rw [HW0.out]
          go_wp2_with fail
          refine (HSPa.out _ HSL.out).mono ?_; rintro e w1 ⟨rfl, hb1⟩
          clear q0 q1 q2
          obtain ⟨q0, q1, q2⟩ := HCL.out _ hb1
          go_wp2_with fail
          refine (HRV.out _ (HSL.out.ext hb1)).mono ?_; rintro e w2 ⟨rfl, hb2⟩
          have hE2 : Ext W0 w2 := Ext.step hb2 hb1
          clear q0 q1 q2
          obtain ⟨q0, q1, q2⟩ := HCL.out _ hE2
          go_wp2_with fail
          refine (HMOD.out _).mono ?_; rintro e w3 ⟨rfl, rfl⟩
          have HE2 := Lib.hid hE2
          have hz5 : W0.heap.size ≤ w2.heap.size := hE2.size
          have HKP := Lib.hid (show ∀ W, Ext W0 W → Ext W0 W ∧ W.cell? ⟨w.heap.size, 0, none⟩ = some (.int .i64 ck) ∧ W.cell? ⟨w.heap.size, 1, none⟩ = some (.slice (some ⟨bb, o, sp⟩) 0 c) ∧ w.heap.size < W.heap.size from fun W e => ⟨e, (HCL.out W e).1, (HCL.out W e).2.1, (HCL.out W e).2.2⟩)
          have HST := Lib.hid (show ∀ W (p : Addr) u, Ext W0 W → W0.heap.size ≤ p.block → Ext W0 (W.setCell p u) from fun W p u e hp => Below.setCell e hp u)
          go_wp2_with fail
          go_region_held3 (fun W => Ext W0 W ∧ W.cell? ⟨w.heap.size, 0, none⟩ = some (.int .i64 ck) ∧ W.cell? ⟨w.heap.size, 1, none⟩ = some (.slice (some ⟨bb, o, sp⟩) 0 c) ∧ w.heap.size < W.heap.size) (first | assumption | exact HKP.out _ hE1 | exact HKP.out _ (Ext.drew (by assumption)) | exact HKP.out _ (Ext.alloc (And.left (by assumption)) _) | exact HKP.out _ (Ext.alloc hE1 _) | exact HKP.out _ (HST.out _ _ _ (HST.out _ _ _ hE1 hz5) hz5)) (first | (go_at_call 26; go_must (refine (HOP.out _ (And.left (by assumption))).mono ?_); rintro e u1 ⟨a9, c9, rfl, ho, hb9⟩; obtain ⟨hc, hf⟩ := bcellS hb9; have hE1 : Ext W0 u1 := Ext.step hb9 (And.left (by assumption))))
          · have hG := SBox.new u1 ck (.slice a9 0 c9)
            have hx := (Ext.refl u1).alloc (.cells #[.int .i64 ck, .slice a9 0 c9] 24)
            have hs9 := ho.slB9.ext hx
            have hEX : Ext W0 (u1.alloc (.cells #[.int .i64 ck, .slice a9 0 c9] 24)) := Ext.step hx hE1
            obtain ⟨WF, hWF⟩ : ∃ WF, u1.alloc (.cells #[.int .i64 ck, .slice a9 0 c9] 24) = WF := ⟨_, rfl⟩
            obtain ⟨g, hg⟩ : ∃ g, u1.heap.size = g := ⟨_, rfl⟩
            rw [hWF] at hG hs9 hEX
            rw [hg] at hG
            rw [hWF, hg]
            rename_i hHeld0; clear hHeld0
            have HGF := Lib.hid hG
            have HS9 := Lib.hid hs9
            have HEX := Lib.hid hEX
            clear q0 q1 q2 hc hf hE1 ho hb9 hWF hg hG hs9 hEX hb1 hb2 hE2 hz5
            have HKQ := Lib.hid (show ∀ W, Ext WF W → Ext WF W ∧ (W.cell? ⟨w.heap.size, 0, none⟩ = some (.int .i64 ck) ∧ W.cell? ⟨w.heap.size, 1, none⟩ = some (.slice (some ⟨bb, o, sp⟩) 0 c) ∧ w.heap.size < W.heap.size) ∧ (W.cell? ⟨g, 0, none⟩ = some (.int .i64 ck) ∧ W.cell? ⟨g, 1, none⟩ = some (.slice a9 0 c9) ∧ g < W.heap.size) from fun W e => ⟨e, HCL.out W (Ext.step e HEX.out), (HGF.out.ext e).all⟩)
            have HAA := Lib.hid (fun W (e : Ext WF W) => HSA.out W (HSL.out.ext (Ext.step e HEX.out)))
            have HBB := Lib.hid (fun W (e : Ext WF W) => HSB.out a9 c9 W (HS9.out.ext e))
            obtain ⟨-, ⟨q0, q1, q2⟩, ⟨r0, r1, r2⟩⟩ := HKQ.out WF (Ext.refl _)
            go_wp2_with fail
            go_region_held3 (fun W => Ext WF W ∧ (W.cell? ⟨w.heap.size, 0, none⟩ = some (.int .i64 ck) ∧ W.cell? ⟨w.heap.size, 1, none⟩ = some (.slice (some ⟨bb, o, sp⟩) 0 c) ∧ w.heap.size < W.heap.size) ∧ (W.cell? ⟨g, 0, none⟩ = some (.int .i64 ck) ∧ W.cell? ⟨g, 1, none⟩ = some (.slice a9 0 c9) ∧ g < W.heap.size)) (first | assumption | exact HKQ.out _ (Ext.drew (Ext.refl _)) | exact HKQ.out _ (Ext.step (by assumption) (And.left (by assumption)))) (first | (go_at_call_of 20 (Value.agg #[Value.int IntKind.i64 ck, Value.slice (some ⟨bb, o, sp⟩) 0 c]); go_must (refine (HAA.out _ (And.left (by assumption))).mono ?_); rintro e x1 ⟨rfl, hx1⟩) | (go_at_call_of 20 (Value.agg #[Value.int IntKind.i64 ck, Value.slice a9 0 c9]); go_must (refine (HBB.out _ (And.left (by assumption))).mono ?_); rintro e x2 ⟨rfl, hx2⟩))
            all_goals
              have hfin : Ext WF _ := And.left (by assumption)
              have hb := HG4.out
              have hb2 := HEB.out
              have HFE := Lib.hid hfin
              rename_i hHeld1; clear hHeld1
              clear q0 q1 q2 r0 r1 r2
              obtain ⟨-, ⟨q0, q1, q2⟩, -⟩ := HKQ.out _ hfin
              go_wp2_with fail
              refine (HAW.out _).mono ?_; rintro e w9 ⟨rfl, hb9⟩
              go_wp2_with fail
              go_ret
              exact ⟨rfl, HB0.out.trans ((Ext.step hb9 (Ext.step HFE.out HEX.out)).mono HB0.out.size)⟩
          · have hZ0 := SBox.new w2 0 (.slice none 0 0)
            have hzd : (w2.alloc (.cells #[.int .i64 0, .slice none 0 0] 24)).drew.heap.size = w2.heap.size + 1 := by simp
            have hZ1 : SBox u1 w2.heap.size 0 (.slice none 0 0) := (hb9.block _ (by rw [hzd]; exact Nat.lt_succ_self _)).trans hZ0
            have hG := hZ1.set2' ck (.slice a9 0 c9)
            have hs9 := ho.slB9.setOldS hZ1 0 1 (.int .i64 ck) (.slice a9 0 c9)
            have hEX : Ext W0 ((u1.setCell ⟨w2.heap.size, 0, none⟩ (.int .i64 ck)).setCell ⟨w2.heap.size, 1, none⟩ (.slice a9 0 c9)) := HST.out _ _ _ (HST.out _ _ _ hE1 hz5) hz5
            obtain ⟨WF, hWF⟩ : ∃ WF, (u1.setCell ⟨w2.heap.size, 0, none⟩ (.int .i64 ck)).setCell ⟨w2.heap.size, 1, none⟩ (.slice a9 0 c9) = WF := ⟨_, rfl⟩
            obtain ⟨g, hg⟩ : ∃ g, w2.heap.size = g := ⟨_, rfl⟩
            rw [hWF] at hG hs9 hEX
            rw [hg] at hG
            rw [hWF, hg]
            rename_i hHeld0; clear hHeld0
            have HGF := Lib.hid hG
            have HS9 := Lib.hid hs9
            have HEX := Lib.hid hEX
            clear q0 q1 q2 hc hf hE1 ho hb9 hWF hg hG hs9 hEX hb1 hb2 hE2 hz5
            have HKQ := Lib.hid (show ∀ W, Ext WF W → Ext WF W ∧ (W.cell? ⟨w.heap.size, 0, none⟩ = some (.int .i64 ck) ∧ W.cell? ⟨w.heap.size, 1, none⟩ = some (.slice (some ⟨bb, o, sp⟩) 0 c) ∧ w.heap.size < W.heap.size) ∧ (W.cell? ⟨g, 0, none⟩ = some (.int .i64 ck) ∧ W.cell? ⟨g, 1, none⟩ = some (.slice a9 0 c9) ∧ g < W.heap.size) from fun W e => ⟨e, HCL.out W (Ext.step e HEX.out), (HGF.out.ext e).all⟩)
            have HAA := Lib.hid (fun W (e : Ext WF W) => HSA.out W (HSL.out.ext (Ext.step e HEX.out)))
            have HBB := Lib.hid (fun W (e : Ext WF W) => HSB.out a9 c9 W (HS9.out.ext e))
            obtain ⟨-, ⟨q0, q1, q2⟩, ⟨r0, r1, r2⟩⟩ := HKQ.out WF (Ext.refl _)
            go_wp2_with fail
            go_region_held3 (fun W => Ext WF W ∧ (W.cell? ⟨w.heap.size, 0, none⟩ = some (.int .i64 ck) ∧ W.cell? ⟨w.heap.size, 1, none⟩ = some (.slice (some ⟨bb, o, sp⟩) 0 c) ∧ w.heap.size < W.heap.size) ∧ (W.cell? ⟨g, 0, none⟩ = some (.int .i64 ck) ∧ W.cell? ⟨g, 1, none⟩ = some (.slice a9 0 c9) ∧ g < W.heap.size)) (first | assumption | exact HKQ.out _ (Ext.drew (Ext.refl _)) | exact HKQ.out _ (Ext.step (by assumption) (And.left (by assumption)))) (first | (go_at_call_of 20 (Value.agg #[Value.int IntKind.i64 ck, Value.slice (some ⟨bb, o, sp⟩) 0 c]); go_must (refine (HAA.out _ (And.left (by assumption))).mono ?_); rintro e x1 ⟨rfl, hx1⟩) | (go_at_call_of 20 (Value.agg #[Value.int IntKind.i64 ck, Value.slice a9 0 c9]); go_must (refine (HBB.out _ (And.left (by assumption))).mono ?_); rintro e x2 ⟨rfl, hx2⟩))
            all_goals
              have hfin : Ext WF _ := And.left (by assumption)
              have hb := HG4.out
              have hb2 := HEB.out
              have HFE := Lib.hid hfin
              rename_i hHeld1; clear hHeld1
              clear q0 q1 q2 r0 r1 r2
              obtain ⟨-, ⟨q0, q1, q2⟩, -⟩ := HKQ.out _ hfin
              go_wp2_with fail
              refine (HAW.out _).mono ?_; rintro e w9 ⟨rfl, hb9⟩
              go_wp2_with fail
              go_ret
              exact ⟨rfl, HB0.out.trans ((Ext.step hb9 (Ext.step HFE.out HEX.out)).mono HB0.out.size)⟩
        · have hlp : 0 < L.length := List.length_pos_iff.2 hl0
          obtain ⟨bb, o, hab, -⟩ := HSL.out.at (show 0 < n by rw [← HLN.out]; exact hlp)
          cases hab
          clear hl0 hlp
          have HTK := Lib.hid (show ∀ W, Ext W0 W → SlN W (some ⟨bb, o, none⟩) k c (L.take k) from fun W e => (HSL.out.ext e).take (by omega))
          have HOP := Lib.hid (fun W (e : Ext W0 W) => keep_ownPinsS (some ⟨bb, o, none⟩) k c (L.take k) W (HTK.out W e) (by omega))
          go_enter Tryd.func7, Tryd.ntmps7
          go_wp2_with fail
          rw [HW0.out]
          go_wp2_with fail
          refine (HSPa.out _ HSL.out).mono ?_; rintro e w1 ⟨rfl, hb1⟩
          clear q0 q1 q2
          obtain ⟨q0, q1, q2⟩ := HCL.out _ hb1
          go_wp2_with fail
          refine (HRV.out _ (HSL.out.ext hb1)).mono ?_; rintro e w2 ⟨rfl, hb2⟩
          have hE2 : Ext W0 w2 := Ext.step hb2 hb1
          clear q0 q1 q2
          obtain ⟨q0, q1, q2⟩ := HCL.out _ hE2
          go_wp2_with fail
          refine (HMOD.out _).mono ?_; rintro e w3 ⟨rfl, rfl⟩
          have HE2 := Lib.hid hE2
          have hz5 : W0.heap.size ≤ w2.heap.size := hE2.size
          have HKP := Lib.hid (show ∀ W, Ext W0 W → Ext W0 W ∧ W.cell? ⟨w.heap.size, 0, none⟩ = some (.int .i64 ck) ∧ W.cell? ⟨w.heap.size, 1, none⟩ = some (.slice (some ⟨bb, o, none⟩) n c) ∧ w.heap.size < W.heap.size from fun W e => ⟨e, (HCL.out W e).1, (HCL.out W e).2.1, (HCL.out W e).2.2⟩)
          have HST := Lib.hid (show ∀ W (p : Addr) u, Ext W0 W → W0.heap.size ≤ p.block → Ext W0 (W.setCell p u) from fun W p u e hp => Below.setCell e hp u)
          go_wp2_with fail
          go_region_held3 (fun W => Ext W0 W ∧ W.cell? ⟨w.heap.size, 0, none⟩ = some (.int .i64 ck) ∧ W.cell? ⟨w.heap.size, 1, none⟩ = some (.slice (some ⟨bb, o, none⟩) n c) ∧ w.heap.size < W.heap.size) (first | assumption | exact HKP.out _ hE1 | exact HKP.out _ (Ext.drew (by assumption)) | exact HKP.out _ (Ext.alloc (And.left (by assumption)) _) | exact HKP.out _ (Ext.alloc hE1 _) | exact HKP.out _ (HST.out _ _ _ (HST.out _ _ _ hE1 hz5) hz5)) (first | (go_at_call 26; go_must (refine (HOP.out _ (And.left (by assumption))).mono ?_); rintro e u1 ⟨a9, c9, rfl, ho, hb9⟩; obtain ⟨hc, hf⟩ := bcellS hb9; have hE1 : Ext W0 u1 := Ext.step hb9 (And.left (by assumption))))
          · have hG := SBox.new u1 ck (.slice a9 k c9)
            have hx := (Ext.refl u1).alloc (.cells #[.int .i64 ck, .slice a9 k c9] 24)
            have hs9 := ho.slB9.ext hx
            have hEX : Ext W0 (u1.alloc (.cells #[.int .i64 ck, .slice a9 k c9] 24)) := Ext.step hx hE1
            obtain ⟨WF, hWF⟩ : ∃ WF, u1.alloc (.cells #[.int .i64 ck, .slice a9 k c9] 24) = WF := ⟨_, rfl⟩
            obtain ⟨g, hg⟩ : ∃ g, u1.heap.size = g := ⟨_, rfl⟩
            rw [hWF] at hG hs9 hEX
            rw [hg] at hG
            rw [hWF, hg]
            rename_i hHeld0; clear hHeld0
            have HGF := Lib.hid hG
            have HS9 := Lib.hid hs9
            have HEX := Lib.hid hEX
            clear q0 q1 q2 hc hf hE1 ho hb9 hWF hg hG hs9 hEX hb1 hb2 hE2 hz5
            have HKQ := Lib.hid (show ∀ W, Ext WF W → Ext WF W ∧ (W.cell? ⟨w.heap.size, 0, none⟩ = some (.int .i64 ck) ∧ W.cell? ⟨w.heap.size, 1, none⟩ = some (.slice (some ⟨bb, o, none⟩) n c) ∧ w.heap.size < W.heap.size) ∧ (W.cell? ⟨g, 0, none⟩ = some (.int .i64 ck) ∧ W.cell? ⟨g, 1, none⟩ = some (.slice a9 k c9) ∧ g < W.heap.size) from fun W e => ⟨e, HCL.out W (Ext.step e HEX.out), (HGF.out.ext e).all⟩)
            have HAA := Lib.hid (fun W (e : Ext WF W) => HSA.out W (HSL.out.ext (Ext.step e HEX.out)))
            have HBB := Lib.hid (fun W (e : Ext WF W) => HSB.out a9 c9 W (HS9.out.ext e))
            obtain ⟨-, ⟨q0, q1, q2⟩, ⟨r0, r1, r2⟩⟩ := HKQ.out WF (Ext.refl _)
            go_wp2_with fail
            go_region_held3 (fun W => Ext WF W ∧ (W.cell? ⟨w.heap.size, 0, none⟩ = some (.int .i64 ck) ∧ W.cell? ⟨w.heap.size, 1, none⟩ = some (.slice (some ⟨bb, o, none⟩) n c) ∧ w.heap.size < W.heap.size) ∧ (W.cell? ⟨g, 0, none⟩ = some (.int .i64 ck) ∧ W.cell? ⟨g, 1, none⟩ = some (.slice a9 k c9) ∧ g < W.heap.size)) (first | assumption | exact HKQ.out _ (Ext.drew (Ext.refl _)) | exact HKQ.out _ (Ext.step (by assumption) (And.left (by assumption)))) (first | (go_at_call_of 20 (Value.agg #[Value.int IntKind.i64 ck, Value.slice (some ⟨bb, o, none⟩) n c]); go_must (refine (HAA.out _ (And.left (by assumption))).mono ?_); rintro e x1 ⟨rfl, hx1⟩) | (go_at_call_of 20 (Value.agg #[Value.int IntKind.i64 ck, Value.slice a9 k c9]); go_must (refine (HBB.out _ (And.left (by assumption))).mono ?_); rintro e x2 ⟨rfl, hx2⟩))
            all_goals
              have hfin : Ext WF _ := And.left (by assumption)
              have hb := HG4.out
              have hb2 := HEB.out
              have HFE := Lib.hid hfin
              rename_i hHeld1; clear hHeld1
              clear q0 q1 q2 r0 r1 r2
              obtain ⟨-, ⟨q0, q1, q2⟩, -⟩ := HKQ.out _ hfin
              go_wp2_with fail
              refine (HAW.out _).mono ?_; rintro e w9 ⟨rfl, hb9⟩
              go_wp2_with fail
              go_ret
              exact ⟨rfl, HB0.out.trans ((Ext.step hb9 (Ext.step HFE.out HEX.out)).mono HB0.out.size)⟩
          · have hZ0 := SBox.new w2 0 (.slice none 0 0)
            have hzd : (w2.alloc (.cells #[.int .i64 0, .slice none 0 0] 24)).drew.heap.size = w2.heap.size + 1 := by simp
            have hZ1 : SBox u1 w2.heap.size 0 (.slice none 0 0) := (hb9.block _ (by rw [hzd]; exact Nat.lt_succ_self _)).trans hZ0
            have hG := hZ1.set2' ck (.slice a9 k c9)
            have hs9 := ho.slB9.setOldS hZ1 0 1 (.int .i64 ck) (.slice a9 k c9)
            have hEX : Ext W0 ((u1.setCell ⟨w2.heap.size, 0, none⟩ (.int .i64 ck)).setCell ⟨w2.heap.size, 1, none⟩ (.slice a9 k c9)) := HST.out _ _ _ (HST.out _ _ _ hE1 hz5) hz5
            obtain ⟨WF, hWF⟩ : ∃ WF, (u1.setCell ⟨w2.heap.size, 0, none⟩ (.int .i64 ck)).setCell ⟨w2.heap.size, 1, none⟩ (.slice a9 k c9) = WF := ⟨_, rfl⟩
            obtain ⟨g, hg⟩ : ∃ g, w2.heap.size = g := ⟨_, rfl⟩
            rw [hWF] at hG hs9 hEX
            rw [hg] at hG
            rw [hWF, hg]
            rename_i hHeld0; clear hHeld0
            have HGF := Lib.hid hG
            have HS9 := Lib.hid hs9
            have HEX := Lib.hid hEX
            clear q0 q1 q2 hc hf hE1 ho hb9 hWF hg hG hs9 hEX hb1 hb2 hE2 hz5
            have HKQ := Lib.hid (show ∀ W, Ext WF W → Ext WF W ∧ (W.cell? ⟨w.heap.size, 0, none⟩ = some (.int .i64 ck) ∧ W.cell? ⟨w.heap.size, 1, none⟩ = some (.slice (some ⟨bb, o, none⟩) n c) ∧ w.heap.size < W.heap.size) ∧ (W.cell? ⟨g, 0, none⟩ = some (.int .i64 ck) ∧ W.cell? ⟨g, 1, none⟩ = some (.slice a9 k c9) ∧ g < W.heap.size) from fun W e => ⟨e, HCL.out W (Ext.step e HEX.out), (HGF.out.ext e).all⟩)
            have HAA := Lib.hid (fun W (e : Ext WF W) => HSA.out W (HSL.out.ext (Ext.step e HEX.out)))
            have HBB := Lib.hid (fun W (e : Ext WF W) => HSB.out a9 c9 W (HS9.out.ext e))
            obtain ⟨-, ⟨q0, q1, q2⟩, ⟨r0, r1, r2⟩⟩ := HKQ.out WF (Ext.refl _)
            go_wp2_with fail
            go_region_held3 (fun W => Ext WF W ∧ (W.cell? ⟨w.heap.size, 0, none⟩ = some (.int .i64 ck) ∧ W.cell? ⟨w.heap.size, 1, none⟩ = some (.slice (some ⟨bb, o, none⟩) n c) ∧ w.heap.size < W.heap.size) ∧ (W.cell? ⟨g, 0, none⟩ = some (.int .i64 ck) ∧ W.cell? ⟨g, 1, none⟩ = some (.slice a9 k c9) ∧ g < W.heap.size)) (first | assumption | exact HKQ.out _ (Ext.drew (Ext.refl _)) | exact HKQ.out _ (Ext.step (by assumption) (And.left (by assumption)))) (first | (go_at_call_of 20 (Value.agg #[Value.int IntKind.i64 ck, Value.slice (some ⟨bb, o, none⟩) n c]); go_must (refine (HAA.out _ (And.left (by assumption))).mono ?_); rintro e x1 ⟨rfl, hx1⟩) | (go_at_call_of 20 (Value.agg #[Value.int IntKind.i64 ck, Value.slice a9 k c9]); go_must (refine (HBB.out _ (And.left (by assumption))).mono ?_); rintro e x2 ⟨rfl, hx2⟩))
            all_goals
              have hfin : Ext WF _ := And.left (by assumption)
              have hb := HG4.out
              have hb2 := HEB.out
              have HFE := Lib.hid hfin
              rename_i hHeld1; clear hHeld1
              clear q0 q1 q2 r0 r1 r2
              obtain ⟨-, ⟨q0, q1, q2⟩, -⟩ := HKQ.out _ hfin
              go_wp2_with fail
              refine (HAW.out _).mono ?_; rintro e w9 ⟨rfl, hb9⟩
              go_wp2_with fail
              go_ret
              exact ⟨rfl, HB0.out.trans ((Ext.step hb9 (Ext.step HFE.out HEX.out)).mono HB0.out.size)⟩
  · have hbt : (decide (n ≤ 60) && L.all fun x => decide (x.h.length ≤ 300)) = false := by
      rw [Bool.eq_false_iff]; intro e
      rw [Bool.and_eq_true, List.all_eq_true] at e
      exact hsm ⟨of_decide_eq_true e.1, fun p hp => of_decide_eq_true (e.2 p hp)⟩
    rw [hbt] at HSP
    have HSPa := Lib.hid HSP.out
    clear hbt hsm HSP hb0 hs0 hsl hW0 h
    go_enter Tryd.func7, Tryd.ntmps7
    go_wp2_with fail
    rw [HW0.out]
    go_wp2_with fail
    refine (HSPa.out _ HSL.out).mono ?_; rintro e w1 ⟨rfl, hb1⟩
    go_wp2_with fail
    refine (HAW.out _).mono ?_; rintro e w2 ⟨rfl, hb2⟩
    go_wp2_with fail
    go_ret
    exact ⟨rfl, HB0.out.trans ((Ext.step hb2 hb1).mono HB0.out.size)⟩

end Go.Proofs.YtjfflnnepndlkaaDoor
