/-
  The walk through awake of law 32.
-/
import Derived.Test.YtjfflnnepndlkaaDoorRun28
import Derived.Test.YtjfflnnepndlkaaDoorRun30
namespace Go.Proofs.YtjfflnnepndlkaaDoor
open Go.RowKit

theorem aw32_a : Upt.stValid 0 [] = true := by decide +kernel
theorem aw32_b : Snap.enc 0 [] = [0, 0] := by decide +kernel
theorem aw32_c : Snap.dec [5, 1, 1, 97, 1, 7] = ((5, [⟨[97], true, 7⟩]), 0) := by decide +kernel
theorem aw32_d : Snap.size 5 [⟨[97], true, 7⟩] = 6 := by decide +kernel

set_option maxHeartbeats 4000000 in
set_option maxRecDepth 100000 in
theorem snap_awake (w : World) : Calls Tryd.prog 16 #[] w fun e w' => e = .returned (.bool true) ∧ Ext w w' := by
  have HE := Lib.hid (fun W => sn_encode 0 none 0 0 [] W (SlN.nil W) (by simp))
  unfold SEncP at HE
  rw [aw32_a, aw32_b] at HE
  simp only [↓reduceIte] at HE
  have HD := Lib.hid (fun a c W (hs : SlB W a 6 c [5, 1, 1, 97, 1, 7]) => sn_decode a 6 c [5, 1, 1, 97, 1, 7] W hs (by decide))
  unfold SDecP at HD
  rw [aw32_c] at HD
  simp only [List.length_cons, List.length_nil, Nat.zero_add] at HD
  have HS := Lib.hid (fun a c W (hs : SlN W a 1 c [⟨[97], true, 7⟩]) => sn_size 5 a 1 c [⟨[97], true, 7⟩] W hs (by intro p hp; simp at hp; subst hp; decide))
  rw [aw32_d] at HS
  go_enter Tryd.func16, Tryd.ntmps16
  go_wp2_with fail
  refine (HE.out _).mono ?_; rintro e w1 ⟨v, rfl, ho, hb1⟩
  obtain ⟨a1, c1, hv, hs, -⟩ := ho.sl
  subst hv
  have hs : SlB w1 a1 2 c1 [0, 0] := hs
  have HS1 := Lib.hid hs
  have HB1 := Lib.hid (show Ext w w1 from hb1)
  clear ho hs hb1
  go_wp2_with fail
  have hb2 := SlB.built w1 #[.int .u8 5, .int .u8 1, .int .u8 1, .int .u8 97, .int .u8 1, .int .u8 7] [5, 1, 1, 97, 1, 7] 6 w1.heap.size 5 (6, 7) rfl rfl (by unfold maxLen; omega) rfl
  have hx2 := (Ext.refl w1).alloc (.cells #[.int .u8 5, .int .u8 1, .int .u8 1, .int .u8 97, .int .u8 1, .int .u8 7] 5 (6, 7))
  refine (HD.out _ _ _ hb2).mono ?_; rintro e w3 ⟨a3, c3, rfl, hs3, hb3⟩
  have hE3 : Ext w1 w3 := Ext.step hb3 hx2
  have hx4 := (Ext.refl w3).alloc (.cells #[.int .i64 5, .slice a3 1 c3] 24)
  have hs4 := hs3.ext hx4
  have hE4 := Ext.step hx4 hE3
  have HS4 := Lib.hid (HS.out a3 c3 _ hs4)
  obtain ⟨bb, o, rfl, hbb, -, q0, q1, q2⟩ := hs3.at (show 0 < 1 by decide)
  simp only [List.getElem?_cons_zero, Option.getD_some, Nat.zero_mul, Nat.add_zero] at q0 q1 q2
  have hcv := run_conv_bytes (HS1.out.ext' hE4)
  have hst : (str [0, 0]).toList = [0, 0] := str_toList _
  have hs1l : (str [97]).toList = [97] := str_toList _
  generalize str [0, 0] = s6 at *
  generalize str [97] = s1 at *
  have HE4 := Lib.hid (show Ext w _ from Ext.step hE4 HB1.out)
  have n1 : (0 : Int) < (1 : Int) := by decide
  clear hb2 hx2 hb3 hE3 hx4 hs4 hE4 hs3
  go_wp2_with fail
  refine HS4.out.mono ?_; rintro e w5 ⟨rfl, hb5⟩
  go_wp2_with fail
  go_ret
  exact ⟨rfl, Ext.step hb5 HE4.out⟩

end Go.Proofs.YtjfflnnepndlkaaDoor
