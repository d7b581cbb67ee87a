/-
  The walk through the reference's Points.
-/
import Derived.Test.YtngccnikpjoldaaDoorLab4
import Derived.Test.YtngccnikpjoldaaDoorLabPlainR
import Derived.Test.YtngccnikpjoldaaDoorPunyEncR
namespace Go.Proofs.YtngccnikpjoldaaDoor
open Go.RowKit

/-- What Points does. -/
def PtsPost (l : List UInt8) (w : World) (e : Ending) (w' : World) : Prop := ∃ v, e = .returned (.tuple #[v, .bool (Lib.validD l)]) ∧ OwnI w.heap.size w' v (if Lib.validD l then Lab.runes l else []) ∧ Below w.heap.size w w'
theorem pts_bad {l : List UInt8} (h : Lib.validD l = false) {w : World} {e : Ending} {w' : World} (he : e = .returned (.tuple #[.slice none 0 0, .bool false])) (hb : Below w.heap.size w w') : PtsPost l w e w' := by
  unfold PtsPost; rw [h]; exact ⟨_, he, OwnI.nil _ _, hb⟩
theorem pts_ok {l : List UInt8} (h : Lib.validD l = true) {acc : List Int} (ha : Lab.runes l = acc) {w : World} {e : Ending} {w' : World} {v : Value} (he : e = .returned (.tuple #[v, .bool true])) (ho : OwnI w.heap.size w' v acc) (hb : Below w.heap.size w w') : PtsPost l w e w' := by
  unfold PtsPost; rw [h, ha]; exact ⟨_, he, ho, hb⟩
/-- The loop over the characters. -/
def PtsRel (l : List UInt8) (W0 : World) (v i : Value) (wr : World) : Prop := ∃ (pos : Nat) (acc : List Int), pos ≤ l.length ∧ i = .int .i64 pos ∧ OwnI W0.heap.size wr v acc ∧
  Hid (Lib.validD l = Lib.validD (l.drop pos)) ∧ Hid (Lab.runes l = acc ++ Lab.runes (l.drop pos)) ∧ acc.length ≤ pos ∧ Below W0.heap.size W0 wr
/-- The loop over the bytes of a character. -/
def PtRel (t : List UInt8) (v0 : Int) (n : Nat) (v8 v10 : Value) : Prop := ∃ (k : Nat) (v : Int), 1 ≤ k ∧ k ≤ n ∧ v8 = .int .i64 v ∧ v10 = .int .i64 k ∧ Hid (v = Lab.part t v0 (k - 1)) ∧ Hid (∀ j, 1 ≤ j → j < k → Lab.cont t j) ∧
  0 ≤ v ∧ v < 8388608 ∧ (k ≤ 3 → v < 131072) ∧ (k ≤ 2 → v < 2048) ∧ (k ≤ 1 → v < 128) ∧ (k ≤ 1 → 2 ≤ n → v < 32)

theorem Lab.step_good {l : List UInt8} {pos : Nat} {acc : List Int} {n : Nat} {v0 least : Int} (hlt : pos < l.length) (hc : Lab.Cls ((l.drop pos).getD 0 0).toNat n v0 least) (hv : Lib.validD l = Lib.validD (l.drop pos)) (hr : Lab.runes l = acc ++ Lab.runes (l.drop pos))
    (hg : Lab.Good (l.drop pos) n v0 least) : Lib.validD l = Lib.validD (l.drop (pos + n)) ∧ Lab.runes l = (acc ++ [Lab.part (l.drop pos) v0 (n - 1)]) ++ Lab.runes (l.drop (pos + n)) := by
  have hne : l.drop pos ≠ [] := by intro h0; have := congrArg List.length h0; simp at this; omega
  obtain ⟨h1, h2⟩ := Lab.reads_good _ n v0 least hc hg hne
  rw [List.drop_drop] at h1 h2
  exact ⟨hv.trans h1, by rw [hr, h2]; simp⟩
theorem Lab.step_bad {l : List UInt8} {pos : Nat} {n : Nat} {v0 least : Int} (hlt : pos < l.length) (hc : Lab.Cls ((l.drop pos).getD 0 0).toNat n v0 least) (hv : Lib.validD l = Lib.validD (l.drop pos)) (hg : ¬ Lab.Good (l.drop pos) n v0 least) : Lib.validD l = false := by
  have hne : l.drop pos ≠ [] := by intro h0; have := congrArg List.length h0; simp at this; omega
  exact hv.trans (Lab.reads_bad _ n v0 least hc hg hne)
theorem Lab.step_none {l : List UInt8} {pos : Nat} (hlt : pos < l.length) (hv : Lib.validD l = Lib.validD (l.drop pos)) (h : ∀ n v0 least, ¬ Lab.Cls ((l.drop pos).getD 0 0).toNat n v0 least) : Lib.validD l = false := by
  have hne : l.drop pos ≠ [] := by intro h0; have := congrArg List.length h0; simp at this; omega
  exact hv.trans (Lab.reads_none _ h hne)
theorem getD_at (l : List UInt8) (pos j : Nat) (h : pos + j < l.length) : (l.drop pos).getD j 0 = l[pos + j] := by
  rw [Lib.getD_dropU]; simp [List.getD, h]

set_option maxHeartbeats 16000000 in
set_option maxRecDepth 100000 in
theorem lr_points (l : List UInt8) (w : World) (hl : l.length ≤ 1000000) :
    Calls Tryd.prog 20 #[.string (str l)] w (PtsPost l w) := by
  have hsz := str_size l
  have hget : ∀ k (h : k < l.length) h', (str l)[k]'h' = l[k] := fun k h h' => str_get _ _ _
  obtain ⟨sv, hsv⟩ : ∃ sv, sv = str l := ⟨_, rfl⟩
  have hget2 : ∀ i (h : i < l.length) (h' : i < sv.size), sv[i] = l[i] := by subst hsv; exact hget
  rw [← hsv] at hsz ⊢
  have HGET := Lib.hid hget2
  clear hget hget2 hsv
  go_enter Tryd.func20, Tryd.ntmps20
  go_wp2_with fail
  go_loopw [4, 5] (fun v i wr => PtsRel l w v i wr) (fun _ i _ => l.length - (intOf i).toNat)
  case atStart => exact ⟨0, [], Nat.zero_le _, rfl, OwnI.nil _ _, Lib.hid (by rw [List.drop_zero]), Lib.hid (by rw [List.drop_zero]; rfl), Nat.le_refl _, Below.refl _ _⟩
  case round =>
    obtain ⟨pos, acc, hpos, rfl, hO, HV, HR, hal, hB⟩ := hrel
    by_cases hlt : pos < l.length
    · have b0 : (0 : Int) ≤ (pos : Int) := by omega
      have b1 : (pos : Int) < (l.length : Int) := by omega
      have hgd : (l.drop pos).getD 0 0 = l[pos] := getD_at l pos 0 hlt
      have hg := HGET.out pos hlt
      have HSG := Lib.hid (fun n v0 least hc hgg => Lab.step_good (n := n) (v0 := v0) (least := least) hlt hc HV.out HR.out hgg)
      have HSB := Lib.hid (fun n v0 least hc hgg => Lab.step_bad (n := n) (v0 := v0) (least := least) hlt hc HV.out hgg)
      have HSN := Lib.hid (fun h => Lab.step_none hlt HV.out h)
      have HAT := Lib.hid (fun j h => getD_at l pos j h)
      have HLD := Lib.hid (show (l.drop pos).length = l.length - pos by simp)
      rw [hgd] at HSG HSB HSN
      have HGD := Lib.hid hgd
      clear hgd HV HR
      have hbw := hB.size
      obtain ⟨t, ht⟩ : ∃ t, t = l.drop pos := ⟨_, rfl⟩
      rw [← ht] at HSG HSB HAT HLD HGD
      generalize l[pos] = b at *
      have hbb := b.toNat_lt
      clear ht
      by_cases c1 : b.toNat < 128
      · have d1 : (b.toNat : Int) < 128 := by omega
        have HCL := Lib.hid (show Lab.Cls b.toNat 1 (b.toNat : Int) 0 from .inl ⟨c1, rfl, rfl, rfl⟩)
        obtain ⟨v0, hv0⟩ : ∃ v0, v0 = (b.toNat : Int) := ⟨_, rfl⟩
        have v00 : 0 ≤ v0 ∧ v0 < 128 ∧ (2 ≤ 1 → v0 < 32) := by omega
        have HBAD := Lib.hid (HSB.out 1 _ _ HCL.out)
        have HGOOD := Lib.hid (HSG.out 1 _ _ HCL.out)
        rw [← hv0] at HBAD HGOOD
        clear HSG HSB HSN HCL
        by_cases hn : pos + 1 ≤ l.length
        · have hnz : ¬ ((l.length : Int) - (pos : Int) < 1) := by omega
          have hV0 := Lib.hid hv0
          go_wp2_with fail
          rw [← hV0.out]
          go_loop [8, 10] (fun v8 v10 => PtRel t v0 1 v8 v10) (fun _ v10 => 1 - (intOf v10).toNat)
          case atStart => exact ⟨1, v0, Nat.le_refl _, by omega, rfl, rfl, Lib.hid rfl, Lib.hid (fun j h1 h2 => by omega), by omega, by omega, by omega, by omega, by omega, by omega⟩
          case round =>
            obtain ⟨k, v, hk1, hk2, rfl, rfl, HPV, HCO, r0, r1, r2, r3, r4, r5⟩ := hrel
            by_cases hkn : k < 1
            · have hkl : pos + k < l.length := by omega
              have e0 : (0 : Int) ≤ (pos : Int) + (k : Int) := by omega
              have e1 : (pos : Int) + (k : Int) < (l.length : Int) := by omega
              have e2 : ((pos : Int) + (k : Int)).toNat = pos + k := by omega
              have e3 : (k : Int) < 1 := by omega
              have hgk := HGET.out (pos + k) hkl
              have HTK := Lib.hid (HAT.out k hkl)
              generalize l[pos + k] = c at *
              have hcc := c.toNat_lt
              by_cases g1 : c.toNat < 128
              · have f1 : (c.toNat : Int) < 128 := by omega
                have HF := Lib.hid (HBAD.out (fun hgg => by have := hgg.2.1 k hk1 hkn; unfold Lab.cont at this; rw [HTK.out] at this; omega))
                clear HBAD HGOOD HTK
                go_wp2_with fail
                go_ret2
                exact pts_bad HF.out rfl hB
              have f1 : ¬ (c.toNat : Int) < 128 := by omega
              by_cases g2 : 191 < c.toNat
              · have f2 : (191 : Int) < (c.toNat : Int) := by omega
                have HF := Lib.hid (HBAD.out (fun hgg => by have := hgg.2.1 k hk1 hkn; unfold Lab.cont at this; rw [HTK.out] at this; omega))
                clear HBAD HGOOD HTK
                go_wp2_with fail
                go_ret2
                exact pts_bad HF.out rfl hB
              have f2 : ¬ (191 : Int) < (c.toNat : Int) := by omega
              have HPN := Lib.hid (show v * 64 + (c.toNat : Int) - 128 = Lab.part t v0 (k + 1 - 1) by
                obtain ⟨q, rfl⟩ : ∃ q, k = q + 1 := ⟨k - 1, by omega⟩
                rw [HPV.out]
                simp only [Nat.add_sub_cancel]
                rw [Lab.part, HTK.out])
              have HCN := Lib.hid (show ∀ j, 1 ≤ j → j < k + 1 → Lab.cont t j by
                intro j h1 h2
                rcases (by omega : j < k ∨ j = k) with h | rfl
                · exact HCO.out j h1 h
                · unfold Lab.cont; rw [HTK.out]; omega)
              clear HTK HBAD HGOOD
              go_wp2_with fail
              go_round
              case rel => exact ⟨k + 1, _, by omega, by omega, rfl, by go_num, HPN, HCN, by omega, by omega, by omega, by omega, by omega, by omega⟩
              case measure => simp [intOf]; omega
            · obtain rfl : k = 1 := by omega
              by_cases hle : v < 0
              · have HF := Lib.hid (HBAD.out (fun hgg => by have := hgg.2.2.1; have h2 := HPV.out; simp only [Nat.sub_self] at this h2; omega))
                clear HBAD HGOOD
                go_wp2_with fail
                go_ret2
                exact pts_bad HF.out rfl hB
              have HPT := Lib.hid (fun W => pr_point v W (by omega) (by omega))
              cases hp : Puny.point v with
              | false =>
                have HF := Lib.hid (HBAD.out (fun hgg => by have := hgg.2.2.2; have h2 := HPV.out; simp only [Nat.sub_self] at this h2; rw [← h2, hp] at this; cases this))
                rw [hp] at HPT
                clear HBAD HGOOD hp
                go_wp2_with fail
                refine (HPT.out _).mono ?_; rintro e w2 ⟨rfl, rfl⟩
                go_wp2_with fail
                go_ret2
                exact pts_bad HF.out rfl hB
              | true =>
                have HG := Lib.hid (HGOOD.out ⟨by rw [HLD.out]; omega, HCO.out, by have h2 := HPV.out; simp only [Nat.sub_self] at h2 ⊢; omega, by have h2 := HPV.out; simp only [Nat.sub_self] at h2 ⊢; rw [← h2, hp]⟩)
                have HV2 := Lib.hid HG.out.1
                have HR2 := Lib.hid (show Lab.runes l = (acc ++ [v]) ++ Lab.runes (l.drop (pos + 1)) by rw [HG.out.2, HPV.out])
                rw [hp] at HPT
                clear HBAD HGOOD hp HG
                have HONE := Lib.hid (SlI.one wr v 3)
                go_wp2_with fail
                refine (HPT.out _).mono ?_; rintro e w2 ⟨rfl, rfl⟩
                go_wp2_with (at_builtin; go_must (refine wpList_append_ints rfl _ _ rfl w.heap.size _ _ rfl (hO.alloc _) _ _ _ [v] rfl HONE.out (by omega) (by simp; omega) ?_); intro v5 w5 hO5 hg5)
                have hB5 := (hB.alloc hbw (.cells #[.int .i64 v] 3)).grown hg5 (by simp; omega) (fun k hk => (hO.lt k hk).1)
                clear hg5 hO hB
                go_wp2
                go_roundw
                case rel => exact ⟨pos + 1, acc ++ [v], hn, by go_num, hO5, HV2, HR2, by simp; omega, hB5⟩
                case measure => simp [intOf]; omega
        · have hnz : (l.length : Int) - (pos : Int) < 1 := by omega
          have HF := Lib.hid (HBAD.out (fun hgg => by have := hgg.1; rw [HLD.out] at this; omega))
          clear HBAD HGOOD
          go_wp2_with fail
          go_ret2
          exact pts_bad HF.out rfl hB
      have d1 : ¬ (b.toNat : Int) < 128 := by omega
      by_cases c2 : 194 ≤ b.toNat ∧ b.toNat < 224
      · have d2 : (194 : Int) ≤ (b.toNat : Int) := by omega
        have d3 : (b.toNat : Int) < 224 := by omega
        have HCL := Lib.hid (show Lab.Cls b.toNat 2 ((b.toNat : Int) - 192) 128 from .inr (.inl ⟨c2.1, c2.2, rfl, rfl, rfl⟩))
        obtain ⟨v0, hv0⟩ : ∃ v0, v0 = (b.toNat : Int) - 192 := ⟨_, rfl⟩
        have v00 : 0 ≤ v0 ∧ v0 < 128 ∧ (2 ≤ 2 → v0 < 32) := by omega
        have HBAD := Lib.hid (HSB.out 2 _ _ HCL.out)
        have HGOOD := Lib.hid (HSG.out 2 _ _ HCL.out)
        rw [← hv0] at HBAD HGOOD
        clear HSG HSB HSN HCL
        by_cases hn : pos + 2 ≤ l.length
        · have hnz : ¬ ((l.length : Int) - (pos : Int) < 2) := by omega
          have hV0 := Lib.hid hv0
          go_wp2_with fail
          rw [← hV0.out]
          go_loop [8, 10] (fun v8 v10 => PtRel t v0 2 v8 v10) (fun _ v10 => 2 - (intOf v10).toNat)
          case atStart => exact ⟨1, v0, Nat.le_refl _, by omega, rfl, rfl, Lib.hid rfl, Lib.hid (fun j h1 h2 => by omega), by omega, by omega, by omega, by omega, by omega, by omega⟩
          case round =>
            obtain ⟨k, v, hk1, hk2, rfl, rfl, HPV, HCO, r0, r1, r2, r3, r4, r5⟩ := hrel
            by_cases hkn : k < 2
            · have hkl : pos + k < l.length := by omega
              have e0 : (0 : Int) ≤ (pos : Int) + (k : Int) := by omega
              have e1 : (pos : Int) + (k : Int) < (l.length : Int) := by omega
              have e2 : ((pos : Int) + (k : Int)).toNat = pos + k := by omega
              have e3 : (k : Int) < 2 := by omega
              have hgk := HGET.out (pos + k) hkl
              have HTK := Lib.hid (HAT.out k hkl)
              generalize l[pos + k] = c at *
              have hcc := c.toNat_lt
              by_cases g1 : c.toNat < 128
              · have f1 : (c.toNat : Int) < 128 := by omega
                have HF := Lib.hid (HBAD.out (fun hgg => by have := hgg.2.1 k hk1 hkn; unfold Lab.cont at this; rw [HTK.out] at this; omega))
                clear HBAD HGOOD HTK
                go_wp2_with fail
                go_ret2
                exact pts_bad HF.out rfl hB
              have f1 : ¬ (c.toNat : Int) < 128 := by omega
              by_cases g2 : 191 < c.toNat
              · have f2 : (191 : Int) < (c.toNat : Int) := by omega
                have HF := Lib.hid (HBAD.out (fun hgg => by have := hgg.2.1 k hk1 hkn; unfold Lab.cont at this; rw [HTK.out] at this; omega))
                clear HBAD HGOOD HTK
                go_wp2_with fail
                go_ret2
                exact pts_bad HF.out rfl hB
              have f2 : ¬ (191 : Int) < (c.toNat : Int) := by omega
              have HPN := Lib.hid (show v * 64 + (c.toNat : Int) - 128 = Lab.part t v0 (k + 1 - 1) by
                obtain ⟨q, rfl⟩ : ∃ q, k = q + 1 := ⟨k - 1, by omega⟩
                rw [HPV.out]
                simp only [Nat.add_sub_cancel]
                rw [Lab.part, HTK.out])
              have HCN := Lib.hid (show ∀ j, 1 ≤ j → j < k + 1 → Lab.cont t j by
                intro j h1 h2
                rcases (by omega : j < k ∨ j = k) with h | rfl
                · exact HCO.out j h1 h
                · unfold Lab.cont; rw [HTK.out]; omega)
              clear HTK HBAD HGOOD
              go_wp2_with fail
              go_round
              case rel => exact ⟨k + 1, _, by omega, by omega, rfl, by go_num, HPN, HCN, by omega, by omega, by omega, by omega, by omega, by omega⟩
              case measure => simp [intOf]; omega
            · obtain rfl : k = 2 := by omega
              by_cases hle : v < 128
              · have HF := Lib.hid (HBAD.out (fun hgg => by have := hgg.2.2.1; have h2 := HPV.out; simp only [Nat.reduceSub] at this h2; omega))
                clear HBAD HGOOD
                go_wp2_with fail
                go_ret2
                exact pts_bad HF.out rfl hB
              have HPT := Lib.hid (fun W => pr_point v W (by omega) (by omega))
              cases hp : Puny.point v with
              | false =>
                have HF := Lib.hid (HBAD.out (fun hgg => by have := hgg.2.2.2; have h2 := HPV.out; simp only [Nat.reduceSub] at this h2; rw [← h2, hp] at this; cases this))
                rw [hp] at HPT
                clear HBAD HGOOD hp
                go_wp2_with fail
                refine (HPT.out _).mono ?_; rintro e w2 ⟨rfl, rfl⟩
                go_wp2_with fail
                go_ret2
                exact pts_bad HF.out rfl hB
              | true =>
                have HG := Lib.hid (HGOOD.out ⟨by rw [HLD.out]; omega, HCO.out, by have h2 := HPV.out; simp only [Nat.reduceSub] at h2 ⊢; omega, by have h2 := HPV.out; simp only [Nat.reduceSub] at h2 ⊢; rw [← h2, hp]⟩)
                have HV2 := Lib.hid HG.out.1
                have HR2 := Lib.hid (show Lab.runes l = (acc ++ [v]) ++ Lab.runes (l.drop (pos + 2)) by rw [HG.out.2, HPV.out])
                rw [hp] at HPT
                clear HBAD HGOOD hp HG
                have HONE := Lib.hid (SlI.one wr v 3)
                go_wp2_with fail
                refine (HPT.out _).mono ?_; rintro e w2 ⟨rfl, rfl⟩
                go_wp2_with (at_builtin; go_must (refine wpList_append_ints rfl _ _ rfl w.heap.size _ _ rfl (hO.alloc _) _ _ _ [v] rfl HONE.out (by omega) (by simp; omega) ?_); intro v5 w5 hO5 hg5)
                have hB5 := (hB.alloc hbw (.cells #[.int .i64 v] 3)).grown hg5 (by simp; omega) (fun k hk => (hO.lt k hk).1)
                clear hg5 hO hB
                go_wp2
                go_roundw
                case rel => exact ⟨pos + 2, acc ++ [v], hn, by go_num, hO5, HV2, HR2, by simp; omega, hB5⟩
                case measure => simp [intOf]; omega
        · have hnz : (l.length : Int) - (pos : Int) < 2 := by omega
          have HF := Lib.hid (HBAD.out (fun hgg => by have := hgg.1; rw [HLD.out] at this; omega))
          clear HBAD HGOOD
          go_wp2_with fail
          go_ret2
          exact pts_bad HF.out rfl hB
      by_cases c3 : 224 ≤ b.toNat ∧ b.toNat < 240
      · have d2 : (194 : Int) ≤ (b.toNat : Int) := by omega
        have d3 : ¬ (b.toNat : Int) < 224 := by omega
        have d4 : (224 : Int) ≤ (b.toNat : Int) := by omega
        have d5 : (b.toNat : Int) < 240 := by omega
        have HCL := Lib.hid (show Lab.Cls b.toNat 3 ((b.toNat : Int) - 224) 2048 from .inr (.inr (.inl ⟨c3.1, c3.2, rfl, rfl, rfl⟩)))
        obtain ⟨v0, hv0⟩ : ∃ v0, v0 = (b.toNat : Int) - 224 := ⟨_, rfl⟩
        have v00 : 0 ≤ v0 ∧ v0 < 128 ∧ (2 ≤ 3 → v0 < 32) := by omega
        clear c2
        have HBAD := Lib.hid (HSB.out 3 _ _ HCL.out)
        have HGOOD := Lib.hid (HSG.out 3 _ _ HCL.out)
        rw [← hv0] at HBAD HGOOD
        clear HSG HSB HSN HCL
        by_cases hn : pos + 3 ≤ l.length
        · have hnz : ¬ ((l.length : Int) - (pos : Int) < 3) := by omega
          have hV0 := Lib.hid hv0
          go_wp2_with fail
          rw [← hV0.out]
          go_loop [8, 10] (fun v8 v10 => PtRel t v0 3 v8 v10) (fun _ v10 => 3 - (intOf v10).toNat)
          case atStart => exact ⟨1, v0, Nat.le_refl _, by omega, rfl, rfl, Lib.hid rfl, Lib.hid (fun j h1 h2 => by omega), by omega, by omega, by omega, by omega, by omega, by omega⟩
          case round =>
            obtain ⟨k, v, hk1, hk2, rfl, rfl, HPV, HCO, r0, r1, r2, r3, r4, r5⟩ := hrel
            by_cases hkn : k < 3
            · have hkl : pos + k < l.length := by omega
              have e0 : (0 : Int) ≤ (pos : Int) + (k : Int) := by omega
              have e1 : (pos : Int) + (k : Int) < (l.length : Int) := by omega
              have e2 : ((pos : Int) + (k : Int)).toNat = pos + k := by omega
              have e3 : (k : Int) < 3 := by omega
              have hgk := HGET.out (pos + k) hkl
              have HTK := Lib.hid (HAT.out k hkl)
              generalize l[pos + k] = c at *
              have hcc := c.toNat_lt
              by_cases g1 : c.toNat < 128
              · have f1 : (c.toNat : Int) < 128 := by omega
                have HF := Lib.hid (HBAD.out (fun hgg => by have := hgg.2.1 k hk1 hkn; unfold Lab.cont at this; rw [HTK.out] at this; omega))
                clear HBAD HGOOD HTK
                go_wp2_with fail
                go_ret2
                exact pts_bad HF.out rfl hB
              have f1 : ¬ (c.toNat : Int) < 128 := by omega
              by_cases g2 : 191 < c.toNat
              · have f2 : (191 : Int) < (c.toNat : Int) := by omega
                have HF := Lib.hid (HBAD.out (fun hgg => by have := hgg.2.1 k hk1 hkn; unfold Lab.cont at this; rw [HTK.out] at this; omega))
                clear HBAD HGOOD HTK
                go_wp2_with fail
                go_ret2
                exact pts_bad HF.out rfl hB
              have f2 : ¬ (191 : Int) < (c.toNat : Int) := by omega
              have HPN := Lib.hid (show v * 64 + (c.toNat : Int) - 128 = Lab.part t v0 (k + 1 - 1) by
                obtain ⟨q, rfl⟩ : ∃ q, k = q + 1 := ⟨k - 1, by omega⟩
                rw [HPV.out]
                simp only [Nat.add_sub_cancel]
                rw [Lab.part, HTK.out])
              have HCN := Lib.hid (show ∀ j, 1 ≤ j → j < k + 1 → Lab.cont t j by
                intro j h1 h2
                rcases (by omega : j < k ∨ j = k) with h | rfl
                · exact HCO.out j h1 h
                · unfold Lab.cont; rw [HTK.out]; omega)
              clear HTK HBAD HGOOD
              go_wp2_with fail
              go_round
              case rel => exact ⟨k + 1, _, by omega, by omega, rfl, by go_num, HPN, HCN, by omega, by omega, by omega, by omega, by omega, by omega⟩
              case measure => simp [intOf]; omega
            · obtain rfl : k = 3 := by omega
              by_cases hle : v < 2048
              · have HF := Lib.hid (HBAD.out (fun hgg => by have := hgg.2.2.1; have h2 := HPV.out; simp only [Nat.reduceSub] at this h2; omega))
                clear HBAD HGOOD
                go_wp2_with fail
                go_ret2
                exact pts_bad HF.out rfl hB
              have HPT := Lib.hid (fun W => pr_point v W (by omega) (by omega))
              cases hp : Puny.point v with
              | false =>
                have HF := Lib.hid (HBAD.out (fun hgg => by have := hgg.2.2.2; have h2 := HPV.out; simp only [Nat.reduceSub] at this h2; rw [← h2, hp] at this; cases this))
                rw [hp] at HPT
                clear HBAD HGOOD hp
                go_wp2_with fail
                refine (HPT.out _).mono ?_; rintro e w2 ⟨rfl, rfl⟩
                go_wp2_with fail
                go_ret2
                exact pts_bad HF.out rfl hB
              | true =>
                have HG := Lib.hid (HGOOD.out ⟨by rw [HLD.out]; omega, HCO.out, by have h2 := HPV.out; simp only [Nat.reduceSub] at h2 ⊢; omega, by have h2 := HPV.out; simp only [Nat.reduceSub] at h2 ⊢; rw [← h2, hp]⟩)
                have HV2 := Lib.hid HG.out.1
                have HR2 := Lib.hid (show Lab.runes l = (acc ++ [v]) ++ Lab.runes (l.drop (pos + 3)) by rw [HG.out.2, HPV.out])
                rw [hp] at HPT
                clear HBAD HGOOD hp HG
                have HONE := Lib.hid (SlI.one wr v 3)
                go_wp2_with fail
                refine (HPT.out _).mono ?_; rintro e w2 ⟨rfl, rfl⟩
                go_wp2_with (at_builtin; go_must (refine wpList_append_ints rfl _ _ rfl w.heap.size _ _ rfl (hO.alloc _) _ _ _ [v] rfl HONE.out (by omega) (by simp; omega) ?_); intro v5 w5 hO5 hg5)
                have hB5 := (hB.alloc hbw (.cells #[.int .i64 v] 3)).grown hg5 (by simp; omega) (fun k hk => (hO.lt k hk).1)
                clear hg5 hO hB
                go_wp2
                go_roundw
                case rel => exact ⟨pos + 3, acc ++ [v], hn, by go_num, hO5, HV2, HR2, by simp; omega, hB5⟩
                case measure => simp [intOf]; omega
        · have hnz : (l.length : Int) - (pos : Int) < 3 := by omega
          have HF := Lib.hid (HBAD.out (fun hgg => by have := hgg.1; rw [HLD.out] at this; omega))
          clear HBAD HGOOD
          go_wp2_with fail
          go_ret2
          exact pts_bad HF.out rfl hB
      by_cases c4 : 240 ≤ b.toNat ∧ b.toNat < 245
      · have d2 : (194 : Int) ≤ (b.toNat : Int) := by omega
        have d3 : ¬ (b.toNat : Int) < 224 := by omega
        have d4 : (224 : Int) ≤ (b.toNat : Int) := by omega
        have d5 : ¬ (b.toNat : Int) < 240 := by omega
        have d6 : (240 : Int) ≤ (b.toNat : Int) := by omega
        have d7 : (b.toNat : Int) < 245 := by omega
        have HCL := Lib.hid (show Lab.Cls b.toNat 4 ((b.toNat : Int) - 240) 65536 from .inr (.inr (.inr ⟨c4.1, c4.2, rfl, rfl, rfl⟩)))
        obtain ⟨v0, hv0⟩ : ∃ v0, v0 = (b.toNat : Int) - 240 := ⟨_, rfl⟩
        have v00 : 0 ≤ v0 ∧ v0 < 128 ∧ (2 ≤ 4 → v0 < 32) := by omega
        clear c2 c3
        have HBAD := Lib.hid (HSB.out 4 _ _ HCL.out)
        have HGOOD := Lib.hid (HSG.out 4 _ _ HCL.out)
        rw [← hv0] at HBAD HGOOD
        clear HSG HSB HSN HCL
        by_cases hn : pos + 4 ≤ l.length
        · have hnz : ¬ ((l.length : Int) - (pos : Int) < 4) := by omega
          have hV0 := Lib.hid hv0
          go_wp2_with fail
          rw [← hV0.out]
          go_loop [8, 10] (fun v8 v10 => PtRel t v0 4 v8 v10) (fun _ v10 => 4 - (intOf v10).toNat)
          case atStart => exact ⟨1, v0, Nat.le_refl _, by omega, rfl, rfl, Lib.hid rfl, Lib.hid (fun j h1 h2 => by omega), by omega, by omega, by omega, by omega, by omega, by omega⟩
          case round =>
            obtain ⟨k, v, hk1, hk2, rfl, rfl, HPV, HCO, r0, r1, r2, r3, r4, r5⟩ := hrel
            by_cases hkn : k < 4
            · have hkl : pos + k < l.length := by omega
              have e0 : (0 : Int) ≤ (pos : Int) + (k : Int) := by omega
              have e1 : (pos : Int) + (k : Int) < (l.length : Int) := by omega
              have e2 : ((pos : Int) + (k : Int)).toNat = pos + k := by omega
              have e3 : (k : Int) < 4 := by omega
              have hgk := HGET.out (pos + k) hkl
              have HTK := Lib.hid (HAT.out k hkl)
              generalize l[pos + k] = c at *
              have hcc := c.toNat_lt
              by_cases g1 : c.toNat < 128
              · have f1 : (c.toNat : Int) < 128 := by omega
                have HF := Lib.hid (HBAD.out (fun hgg => by have := hgg.2.1 k hk1 hkn; unfold Lab.cont at this; rw [HTK.out] at this; omega))
                clear HBAD HGOOD HTK
                go_wp2_with fail
                go_ret2
                exact pts_bad HF.out rfl hB
              have f1 : ¬ (c.toNat : Int) < 128 := by omega
              by_cases g2 : 191 < c.toNat
              · have f2 : (191 : Int) < (c.toNat : Int) := by omega
                have HF := Lib.hid (HBAD.out (fun hgg => by have := hgg.2.1 k hk1 hkn; unfold Lab.cont at this; rw [HTK.out] at this; omega))
                clear HBAD HGOOD HTK
                go_wp2_with fail
                go_ret2
                exact pts_bad HF.out rfl hB
              have f2 : ¬ (191 : Int) < (c.toNat : Int) := by omega
              have HPN := Lib.hid (show v * 64 + (c.toNat : Int) - 128 = Lab.part t v0 (k + 1 - 1) by
                obtain ⟨q, rfl⟩ : ∃ q, k = q + 1 := ⟨k - 1, by omega⟩
                rw [HPV.out]
                simp only [Nat.add_sub_cancel]
                rw [Lab.part, HTK.out])
              have HCN := Lib.hid (show ∀ j, 1 ≤ j → j < k + 1 → Lab.cont t j by
                intro j h1 h2
                rcases (by omega : j < k ∨ j = k) with h | rfl
                · exact HCO.out j h1 h
                · unfold Lab.cont; rw [HTK.out]; omega)
              clear HTK HBAD HGOOD
              go_wp2_with fail
              go_round
              case rel => exact ⟨k + 1, _, by omega, by omega, rfl, by go_num, HPN, HCN, by omega, by omega, by omega, by omega, by omega, by omega⟩
              case measure => simp [intOf]; omega
            · obtain rfl : k = 4 := by omega
              by_cases hle : v < 65536
              · have HF := Lib.hid (HBAD.out (fun hgg => by have := hgg.2.2.1; have h2 := HPV.out; simp only [Nat.reduceSub] at this h2; omega))
                clear HBAD HGOOD
                go_wp2_with fail
                go_ret2
                exact pts_bad HF.out rfl hB
              have HPT := Lib.hid (fun W => pr_point v W (by omega) (by omega))
              cases hp : Puny.point v with
              | false =>
                have HF := Lib.hid (HBAD.out (fun hgg => by have := hgg.2.2.2; have h2 := HPV.out; simp only [Nat.reduceSub] at this h2; rw [← h2, hp] at this; cases this))
                rw [hp] at HPT
                clear HBAD HGOOD hp
                go_wp2_with fail
                refine (HPT.out _).mono ?_; rintro e w2 ⟨rfl, rfl⟩
                go_wp2_with fail
                go_ret2
                exact pts_bad HF.out rfl hB
              | true =>
                have HG := Lib.hid (HGOOD.out ⟨by rw [HLD.out]; omega, HCO.out, by have h2 := HPV.out; simp only [Nat.reduceSub] at h2 ⊢; omega, by have h2 := HPV.out; simp only [Nat.reduceSub] at h2 ⊢; rw [← h2, hp]⟩)
                have HV2 := Lib.hid HG.out.1
                have HR2 := Lib.hid (show Lab.runes l = (acc ++ [v]) ++ Lab.runes (l.drop (pos + 4)) by rw [HG.out.2, HPV.out])
                rw [hp] at HPT
                clear HBAD HGOOD hp HG
                have HONE := Lib.hid (SlI.one wr v 3)
                go_wp2_with fail
                refine (HPT.out _).mono ?_; rintro e w2 ⟨rfl, rfl⟩
                go_wp2_with (at_builtin; go_must (refine wpList_append_ints rfl _ _ rfl w.heap.size _ _ rfl (hO.alloc _) _ _ _ [v] rfl HONE.out (by omega) (by simp; omega) ?_); intro v5 w5 hO5 hg5)
                have hB5 := (hB.alloc hbw (.cells #[.int .i64 v] 3)).grown hg5 (by simp; omega) (fun k hk => (hO.lt k hk).1)
                clear hg5 hO hB
                go_wp2
                go_roundw
                case rel => exact ⟨pos + 4, acc ++ [v], hn, by go_num, hO5, HV2, HR2, by simp; omega, hB5⟩
                case measure => simp [intOf]; omega
        · have hnz : (l.length : Int) - (pos : Int) < 4 := by omega
          have HF := Lib.hid (HBAD.out (fun hgg => by have := hgg.1; rw [HLD.out] at this; omega))
          clear HBAD HGOOD
          go_wp2_with fail
          go_ret2
          exact pts_bad HF.out rfl hB
      · have HF := Lib.hid (HSN.out (Lab.cls_none _ c1 c2 c3 c4))
        clear HSG HSB HSN HAT HLD HGD
        by_cases e1 : b.toNat < 194
        · have d2 : ¬ (194 : Int) ≤ (b.toNat : Int) := by omega
          have d4 : ¬ (224 : Int) ≤ (b.toNat : Int) := by omega
          have d6 : ¬ (240 : Int) ≤ (b.toNat : Int) := by omega
          clear c1 c2 c3 c4
          go_wp2_with fail
          go_ret2
          exact pts_bad HF.out rfl hB
        · have d2 : (194 : Int) ≤ (b.toNat : Int) := by omega
          have d3 : ¬ (b.toNat : Int) < 224 := by omega
          have d4 : (224 : Int) ≤ (b.toNat : Int) := by omega
          have d5 : ¬ (b.toNat : Int) < 240 := by omega
          have d6 : (240 : Int) ≤ (b.toNat : Int) := by omega
          have d7 : ¬ (b.toNat : Int) < 245 := by omega
          clear c1 c2 c3 c4
          go_wp2_with fail
          go_ret2
          exact pts_bad HF.out rfl hB
    · obtain rfl : pos = l.length := by omega
      have hv := HV.out
      have hr := HR.out
      rw [List.drop_length] at hv hr
      rw [Lab.runes_nil, List.append_nil] at hr
      have HV2 := Lib.hid (hv.trans Lib.validD_nil)
      have HR2 := Lib.hid hr
      clear hv hr HV HR
      go_wp2_with fail
      go_ret2
      exact pts_ok HV2.out HR2.out rfl hO hB

end Go.Proofs.YtngccnikpjoldaaDoor
