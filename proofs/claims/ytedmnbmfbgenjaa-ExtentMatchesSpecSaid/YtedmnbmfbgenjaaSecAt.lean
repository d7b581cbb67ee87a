/-
  The contracts of the package sector at operations whose result is known; block and awake of the statements on sectors.
-/
import Derived.Test.YtedmnbmfbgenjaaSector4
import Derived.Test.YtedmnbmfbgenjaaKeep
namespace Go.Proofs.Ytedmnbmfbgenjaa
open Go.RowKit

section
variable {F : Nat → Prop} {w : World} {g s m : Nat} {fa : Option Addr} {fn fc : Nat} {d d' : Disk.Dk}

theorem sd_write_at (h : PD F w g s m fa fn fc d) (i : Int) {a : Option Addr} {n c : Nat} {x : List UInt8} (hx : SlB w a n c x) (hF : ∀ y, a = some y → x ≠ [] → ¬ F y.block) {z : Int} (hr : Disk.write d i x = (z, d')) :
    Calls Try.prog 15 #[.pointer (some ⟨g, 0, none⟩), .int .i64 i, .slice a n c] w fun e w' => e = .returned (.int .i64 z) ∧ ∃ F', PD F' w' g s m fa fn fc d' ∧ Upd F w F' w' := by
  have := sd_write h i a n c x hx hF
  unfold WritePost at this; rw [hr] at this; exact this
theorem sd_read_at (h : PD F w g s m fa fn fc d) (i : Int) {b : List UInt8} {z : Int} (hr : Disk.read d i = (b, z, d')) :
    Calls Try.prog 17 #[.pointer (some ⟨g, 0, none⟩), .int .i64 i] w fun e w' => ∃ v, e = .returned (.tuple #[v, .int .i64 z]) ∧ OwnB w.heap.size w' v b ∧ PD F w' g s m fa fn fc d' ∧ Upd F w F w' := by
  have := sd_read h i
  unfold ReadPost at this; rw [hr] at this; exact this
theorem sd_sync_at (h : PD F w g s m fa fn fc d) {z : Int} (hr : Disk.sync d = (z, d')) :
    Calls Try.prog 34 #[.pointer (some ⟨g, 0, none⟩)] w fun e w' => e = .returned (.int .i64 z) ∧ PD F w' g s m fa fn fc d' ∧ Upd F w F w' := by
  have := sd_sync h
  rw [hr] at this; exact this
theorem sd_arm_at (h : PD F w g s m fa fn fc d) {a : Option Addr} {n c : Nat} {l : List (Int × Int)} (hl : SlP w a n c l) {z : Int} (hr : Disk.arm d l = (z, d')) :
    Calls Try.prog 36 #[.pointer (some ⟨g, 0, none⟩), .slice a n c] w fun e w' => e = .returned (.int .i64 z) ∧ ∃ F' fa fn fc, PD F' w' g s m fa fn fc d' ∧ Upd F w F' w' := by
  have := sd_arm h a n c l hl
  unfold ArmPost at this; rw [hr] at this; exact this
theorem sd_restart_at (h : PD F w g s m fa fn fc d) {a : Option Addr} {n c : Nat} {ks : List (Int × Int)} (hk : SlP w a n c ks) (hF : ∀ y, a = some y → ks ≠ [] → ¬ F y.block) (hr : Disk.restart d ks = d') :
    Calls Try.prog 40 #[.pointer (some ⟨g, 0, none⟩), .slice a n c] w fun e w' => e = .returned (.tuple #[]) ∧ PD F w' g s m none 0 0 d' ∧ Upd F w F w' := by
  have := sd_restart h a n c ks hk hF
  rw [hr] at this; exact this
end

theorem SlP.one (w : World) (z y : Int) (t : TypeId) : SlP (w.alloc (.cells #[.int .i64 z, .int .i64 y] t)) (some ⟨w.heap.size, 0, none⟩) 1 1 [(z, y)] := by
  refine ⟨rfl, Nat.le_refl _, by unfold maxLen; omega, (fun h => by cases h), fun x hx i hi => ?_⟩
  cases hx
  refine ⟨rfl, by simp, ?_, ?_⟩
  · obtain rfl : i = 0 := by simpa using hi
    rw [World.cell?_alloc_at _ _ _ _ rfl]; rfl
  · obtain rfl : i = 0 := by simpa using hi
    rw [World.cell?_alloc_at _ _ _ _ rfl]; rfl

set_option maxRecDepth 100000 in
theorem law5_block (b : UInt8) (w : World) (z : Int) (hz : z = (b.toNat : Int)) :
    Calls Try.prog 14 #[.int .u8 z] w fun e w' => ∃ v, e = .returned v ∧ OwnB w.heap.size w' v (List.replicate 64 b) ∧ Below w.heap.size w w' := by
  subst hz
  have hb0 := b.toNat_lt
  go_enter Try.func14, Try.ntmps14
  go_wp2
  go_loopw [3, 4] (fun v i wr => ∃ k : Nat, k ≤ 64 ∧ i = .int .i64 k ∧ OwnB w.heap.size wr v (List.replicate k b) ∧ Below w.heap.size w wr) (fun _ i _ => 64 - (intOf i).toNat)
  case atStart => exact ⟨0, by omega, rfl, OwnB.nil _ _, Below.refl _ _⟩
  case round =>
    obtain ⟨k, hk, rfl, hO, hB⟩ := hrel
    by_cases hlt : k < 64
    · have hsz := hB.size
      go_wp2_with ((show wpList _ _ _ (Oper.mk (some 12) _ _ _ _ _ :: _) _ _); go_must (refine wpList_append_bytes rfl _ _ rfl w.heap.size _ _ rfl (hO.alloc _) (some ⟨wr.heap.size, 0, none⟩) 1 1 [b] rfl (SlB.one _ b _) (by simp; omega) (by simp; omega) ?_); intro v1 w1 hO1 hg1 _)
      have hB1 := (hB.alloc hsz _).grown hg1 (by simp; omega) (fun k hk => (hO.lt k hk).1)
      rw [← List.replicate_succ'] at hO1
      go_wp2
      go_roundw
      case rel => exact ⟨k + 1, by omega, by go_num, hO1, hB1⟩
      case measure => simp [intOf]; omega
    · obtain rfl : k = 64 := by omega
      go_wp2
      go_ret
      exact ⟨_, rfl, hO, hB⟩

theorem aw5_facts : ∃ d1 d2 d3 d4 d5 d6 d7 b, Disk.write (Disk.new 2) 0 (List.replicate 64 1) = (0, d1) ∧ Disk.sync d1 = (0, d2) ∧ Disk.write d2 0 (List.replicate 64 2) = (0, d3) ∧ Disk.restart d3 [(0, 10)] = d4 ∧ Disk.read d4 0 = (b, 0, d5) ∧
    b.length = 64 ∧ b[9]?.getD 0 = 2 ∧ b[10]?.getD 0 = 1 ∧ Disk.arm d5 [(0, 1)] = (0, d6) ∧ Disk.sync d6 = (9, d7) := by
  refine ⟨_, _, _, _, _, _, _, _, Prod.ext (?_ : _ = (0 : Int)) rfl, Prod.ext (?_ : _ = (0 : Int)) rfl, Prod.ext (?_ : _ = (0 : Int)) rfl, rfl, Prod.ext rfl (Prod.ext (?_ : _ = (0 : Int)) rfl), ?_, ?_, ?_, Prod.ext (?_ : _ = (0 : Int)) rfl, Prod.ext (?_ : _ = (9 : Int)) rfl⟩ <;> decide +kernel

set_option maxRecDepth 100000 in
set_option maxHeartbeats 2000000 in
theorem law5_awake (w : World) : Calls Try.prog 20 #[] w fun e w' => e = .returned (.bool true) ∧ Below w.heap.size w w' := by
  obtain ⟨d1, d2, d3, d4, d5, d6, d7, b, e1, e2, e3, e4, e5, l1, l2, l3, e6, e7⟩ := aw5_facts
  have H1 := Lib.hid e1; have H2 := Lib.hid e2; have H3 := Lib.hid e3; have H4 := Lib.hid e4; have H5 := Lib.hid e5; have H6 := Lib.hid e6; have H7 := Lib.hid e7
  have L1 := Lib.hid l1; have L2 := Lib.hid l2; have L3 := Lib.hid l3
  clear e1 e2 e3 e4 e5 e6 e7 l1 l2 l3
  go_enter Try.func20, Try.ntmps20
  go_wp2_with fail
  refine (sd_new 2 (by omega) (by omega) _ 2 rfl).mono ?_; rintro e w1 ⟨F, g, s, m, fa, fn, fc, rfl, hP1, hF1, hB1⟩
  go_wp2_with fail
  refine (sd_sectors hP1).mono ?_; rintro e w1' ⟨rfl, rfl⟩
  rw [show (Disk.new 2).st.length = 2 from rfl]
  go_wp2_with fail
  refine (law5_block 1 _ 1 rfl).mono ?_; rintro e w2 ⟨v2, rfl, hO2, hB2⟩
  obtain ⟨a2, c2, rfl, hs2, hf2⟩ := hO2.sl
  have hP2 := hP1.ext hB2
  rw [List.length_replicate] at hs2
  go_wp2_with fail
  refine (sd_write_at hP2 0 hs2 (fun y hy _ hFy => by have := (hf2 y hy).2.1; have := hP1.lt _ hFy; omega) H1.out).mono ?_; rintro e w3 ⟨rfl, F3, hP3, hU3⟩
  go_wp2_with fail
  refine (sd_sync_at hP3 H2.out).mono ?_; rintro e w4 ⟨rfl, hP4, hU4⟩
  go_wp2_with fail
  refine (law5_block 2 _ 2 rfl).mono ?_; rintro e w5 ⟨v5, rfl, hO5, hB5⟩
  obtain ⟨a5, c5, rfl, hs5, hf5⟩ := hO5.sl
  have hP5 := hP4.ext hB5
  rw [List.length_replicate] at hs5
  go_wp2_with fail
  refine (sd_write_at hP5 0 hs5 (fun y hy _ hFy => by have := (hf5 y hy).2.1; have := hP4.lt _ hFy; omega) H3.out).mono ?_; rintro e w6 ⟨rfl, F6, hP6, hU6⟩
  go_wp2_with fail
  have hU : Upd F w1 F6 w6 := ((((Upd.of_ext hB2).trans hU3).trans hU4).ext hB5).trans hU6
  clear hU3 hU4 hU6 hB2 hB5 hP1 hP2 hP3 hP4 hP5 hO2 hO5 hs2 hs5 hf2 hf5
  refine (sd_restart_at (hP6.alloc (.cells #[Value.int .i64 0, .int .i64 10] 67)) (SlP.one w6 0 10 _) (fun y hy _ hFy => by cases hy; exact Nat.lt_irrefl _ (hP6.lt _ hFy)) H4.out).mono ?_; rintro e w7 ⟨rfl, hP7, hU7⟩
  go_wp2_with fail
  refine (sd_read_at hP7 0 H5.out).mono ?_; rintro e w8 ⟨v8, rfl, hO8, hP8, hU8⟩
  obtain ⟨a8, c8, rfl, hs8, -⟩ := hO8.sl
  rw [L1.out] at hs8
  obtain ⟨b8, o8, rfl, -, -, x9⟩ := hs8.at (show 9 < 64 by omega)
  obtain ⟨b8', o8', e8, -, -, x10⟩ := hs8.at (show 10 < 64 by omega)
  cases e8
  rw [L2.out] at x9
  rw [L3.out] at x10
  rw [L1.out]
  change _ = some (Value.int .u8 2) at x9
  change _ = some (Value.int .u8 1) at x10
  go_wp2_with fail
  refine (sd_arm_at (hP8.alloc (.cells #[Value.int .i64 0, .int .i64 1] 77)) (SlP.one w8 0 1 _) H6.out).mono ?_; rintro e w9 ⟨rfl, F9, fa9, fn9, fc9, hP9, hU9⟩
  go_wp2_with fail
  refine (sd_sync_at hP9 H7.out).mono ?_; rintro e w10 ⟨rfl, hP10, hU10⟩
  go_wp2_with fail
  go_ret
  refine ⟨rfl, ?_⟩
  exact (((((hU.alloc _).trans hU7).trans hU8).alloc _).trans (hU9.trans hU10)).below hB1 hF1 hB1.size

end Go.Proofs.Ytedmnbmfbgenjaa
