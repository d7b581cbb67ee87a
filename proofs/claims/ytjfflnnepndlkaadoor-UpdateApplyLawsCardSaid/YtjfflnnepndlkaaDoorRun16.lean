/-
  The walk through the reference's Decode of Punycode.
-/
import Derived.Test.YtjfflnnepndlkaaDoorRun15
namespace Go.Proofs.YtjfflnnepndlkaaDoor
open Go.RowKit

theorem Puny.cut_snoc (l : List UInt8) (b : UInt8) : Puny.cut (l ++ [b]) = if b = 45 then l.length else Puny.cut l := by
  unfold Puny.cut
  rw [List.reverse_append, List.reverse_singleton, List.singleton_append, List.takeWhile_cons]
  by_cases h : b = 45
  · subst h; simp
  · simp [h]; omega
theorem Puny.cut_le (l : List UInt8) : Puny.cut l ≤ l.length := by unfold Puny.cut; omega

theorem Puny.step_err {l : List UInt8} {s : Puny.D} {e : Int} (h : Puny.decNum l s.i 1 0 s.bias = .error e) : Puny.decStep l s = .error e := by unfold Puny.decStep; rw [h]
theorem Puny.step_ok {l : List UInt8} {s : Puny.D} {r : List UInt8} {j : Int} (h : Puny.decNum l s.i 1 0 s.bias = .ok (r, j)) :
    Puny.decStep l s = if Puny.point (s.n + j / ((s.pts.length : Int) + 1)) = false then .error 2 else if 256 < ((s.pts.length : Int) + 1) then .error 3 else .ok (r, ⟨Puny.ins s.pts (j % ((s.pts.length : Int) + 1)).toNat (s.n + j / ((s.pts.length : Int) + 1)), s.n + j / ((s.pts.length : Int) + 1), j % ((s.pts.length : Int) + 1) + 1, Puny.adapt (j - s.i) ((s.pts.length : Int) + 1) s.first, false⟩) := by unfold Puny.decStep; rw [h]
theorem wpR_i64 (x : Int) (h0 : -9223372036854775808 ≤ x) (h1 : x ≤ 9223372036854775807) : IntKind.i64.wrap x = x := by rw [IntKind.wrap_i64]; omega

/-- The loop that takes the basic code points. -/
def PRCopy (l : List UInt8) (W0 : World) (C : Nat) (v i : Value) (w2 : World) : Prop := ∃ k : Nat, k ≤ C ∧ i = .int .i64 k ∧ OwnI W0.heap.size w2 v ((l.take k).map fun b => (b.toNat : Int)) ∧ Below W0.heap.size W0 w2
/-- The loop over the numbers. -/
def PRDec (l : List UInt8) (W0 : World) (v6 v8 v9 v10 v11 v12 : Value) (w2 : World) : Prop := ∃ (f at' : Nat) (s : Puny.D), at' ≤ l.length ∧ l.length - at' < f ∧ v8 = .int .i64 at' ∧ v9 = .int .i64 s.n ∧ v10 = .int .i64 s.i ∧ v11 = .int .i64 s.bias ∧ v12 = .bool s.first ∧
  OwnI W0.heap.size w2 v6 s.pts ∧ Hid (Puny.decode l = Puny.decGo f (l.drop at') s) ∧ 0 ≤ s.i ∧ s.i ≤ s.pts.length ∧ 0 ≤ s.n ∧ s.n ≤ 1114111 ∧ 0 ≤ s.bias ∧ s.bias ≤ 1000 ∧ s.pts.length ≤ 256 ∧ Below W0.heap.size W0 w2
/-- The loop over the digits of a number. -/
def PRNum (l : List UInt8) (at' : Nat) (i bias : Int) (v8 v10 v14 v15 : Value) : Prop := ∃ (a k : Nat) (x j : Int), at' ≤ a ∧ a ≤ l.length ∧ k ≤ a ∧ v8 = .int .i64 a ∧ v10 = .int .i64 j ∧ v14 = .int .i64 x ∧ v15 = .int .i64 k ∧ 0 ≤ x ∧ x ≤ 1099511627776 ∧ 0 ≤ j ∧ j ≤ 1099511627776 ∧
  Hid (Puny.decNum (l.drop at') i 1 0 bias = Puny.decNum (l.drop a) j x k bias)

set_option maxHeartbeats 8000000 in
set_option maxRecDepth 100000 in
theorem pr_decode (l : List UInt8) (w : World) (hl : l.length ≤ 1000000) : Calls Tryd.prog 103 #[.string (str l)] w (PDecPost l w) := by
  have hsz := str_size l
  by_cases hn : 1024 < l.length
  · have hd : Puny.decode l = .error 3 := by unfold Puny.decode; rw [if_pos hn]
    have HD := Lib.hid hd
    have ht : (1024 : Int) < (l.length : Int) := by omega
    clear hd hn
    go_enter Tryd.func103, Tryd.ntmps103
    go_wp2_with fail
    go_ret2
    exact pdec_err HD.out rfl (Below.refl _ _)
  have ht : ¬ (1024 : Int) < (l.length : Int) := by omega
  have hde : ¬ (∀ b ∈ l, b.toNat < 128) → Puny.decode l = .error 4 := by
    intro h; unfold Puny.decode; rw [if_neg hn, if_pos (by rw [Bool.eq_false_iff, ne_eq, List.all_eq_true]; simpa using h)]
  have hdo : (∀ b ∈ l, b.toNat < 128) → Puny.decode l = if 256 < Puny.cut l then .error 3 else Puny.decGo (l.length + 1) (if Puny.cut l = 0 then l else l.drop (Puny.cut l + 1)) ⟨(l.take (Puny.cut l)).map fun b => (b.toNat : Int), 128, 0, 72, true⟩ := by
    intro h; unfold Puny.decode; rw [if_neg hn, if_neg (by rw [Bool.not_eq_false, List.all_eq_true]; simpa using h)]
  have HDE := Lib.hid hde; have HDO := Lib.hid hdo
  have hget : ∀ k (h : k < l.length) h', (str l)[k]'h' = l[k] := fun k h h' => str_get _ _ _
  have HCL := Lib.hid (Puny.cut_le l)
  have HCN := Lib.hid (fun h : Puny.cut l ≠ 0 => (Puny.cut_lt l h).1)
  obtain ⟨sv, hsv⟩ : ∃ sv, sv = str l := ⟨_, rfl⟩
  have hget2 : ∀ i (h : i < l.length) (h' : i < sv.size), sv[i] = l[i] := by subst hsv; exact hget
  rw [← hsv] at hsz ⊢
  have HGET := Lib.hid hget2
  clear hde hdo hget hget2 hsv
  go_enter Tryd.func103, Tryd.ntmps103
  go_wp2_with fail
  go_loopw [4, 5] (fun v i wr => ∃ k : Nat, k ≤ l.length ∧ i = .int .i64 k ∧ v = .int .i64 (Puny.cut (l.take k) : Nat) ∧ Hid (∀ b ∈ l.take k, b.toNat < 128) ∧ wr = w) (fun _ i _ => l.length - (intOf i).toNat)
  case atStart => exact ⟨0, Nat.zero_le _, rfl, rfl, Lib.hid (by simp), rfl⟩
  case round =>
    obtain ⟨k, hk, rfl, rfl, HP, rfl⟩ := hrel
    by_cases hlt : k < l.length
    · have b0 : (0 : Int) ≤ (k : Int) := by omega
      have b1 : (k : Int) < (l.length : Int) := by omega
      have htk := List.take_succ_eq_append_getElem hlt
      have hmem : l[k] ∈ l := List.getElem_mem hlt
      have hcs := Puny.cut_snoc (l.take k) l[k]
      rw [← htk, List.length_take, Nat.min_eq_left (Nat.le_of_lt hlt)] at hcs
      have hg := HGET.out k hlt
      generalize l[k] = b at *
      by_cases h128 : 128 ≤ b.toNat
      · have HD := Lib.hid (HDE.out (fun h => by have := h b hmem; omega))
        have hb2 : (128 : Int) ≤ (b.toNat : Int) := by omega
        clear htk hmem hcs
        go_wp2_with fail
        go_ret2
        exact pdec_err HD.out rfl (Below.refl _ _)
      · have hb2 : ¬ (128 : Int) ≤ (b.toNat : Int) := by omega
        have HN := Lib.hid (show ∀ x ∈ l.take (k + 1), x.toNat < 128 by
          rw [htk]; intro x hx
          rcases List.mem_append.1 hx with hx | hx
          · exact HP.out x hx
          · simp at hx; subst hx; omega)
        clear htk hmem
        by_cases h45 : b = 45
        · rw [if_pos h45] at hcs
          have HCS := Lib.hid hcs
          have ht45 : ((b.toNat : Int) == 45) = true := by rw [h45]; rfl
          have ht46 : (b.toNat : Int) = 45 := by rw [h45]; rfl
          clear hcs h45
          go_wp2_with fail
          go_roundw
          case rel => exact ⟨k + 1, by omega, by go_num, by rw [HCS.out], HN, by first | rfl | trivial⟩
          case measure => simp [intOf]; omega
        · rw [if_neg h45] at hcs
          have HCS := Lib.hid hcs
          have hb3 : ¬ (b.toNat : Int) = 45 := fun e => h45 (UInt8.toNat_inj.1 (by simpa using (by omega : b.toNat = 45)))
          have ht45 : ((b.toNat : Int) == 45) = false := by simpa using hb3
          clear hcs h45
          go_wp2_with fail
          go_roundw
          case rel => exact ⟨k + 1, by omega, by go_num, by rw [HCS.out], HN, by first | rfl | trivial⟩
          case measure => simp [intOf]; omega
    · obtain rfl : k = l.length := by omega
      obtain ⟨W0, rfl⟩ : ∃ W0, W0 = wr := ⟨_, rfl⟩
      rw [List.take_of_length_le (Nat.le_refl _)] at HP ⊢
      have HD := Lib.hid (HDO.out HP.out)
      have hcl := HCL.out
      have hcn := HCN.out
      clear HDE HDO HP HCL HCN
      generalize Puny.cut l = C at *
      go_wp2_with fail
      go_loopw [6, 7] (fun v i w2 => PRCopy l W0 C v i w2) (fun _ i _ => C - (intOf i).toNat)
      case atStart => exact ⟨0, Nat.zero_le _, rfl, by simpa using OwnI.nil _ _, Below.refl _ _⟩
      case round =>
        obtain ⟨k, hk2, rfl, hO, hB⟩ := hrel
        by_cases hlt2 : k < C
        · have b0 : (0 : Int) ≤ (k : Int) := by omega
          have b1 : (k : Int) < (C : Int) := by omega
          have b2 : (k : Int) < (l.length : Int) := by omega
          have hkl : k < l.length := by omega
          have HTK := Lib.hid (List.take_succ_eq_append_getElem hkl)
          have hg := HGET.out k hkl
          generalize l[k] = b at *
          have hbw := hB.size
          have hLl : ((l.take k).map fun b => (b.toNat : Int)).length ≤ 1024 := by simp; omega
          have hwb : IntKind.i64.wrap (b.toNat : Int) = (b.toNat : Int) := by rw [IntKind.wrap_i64]; have := b.toNat_lt; omega
          have HONE := Lib.hid (SlI.one wr (b.toNat : Int) 3)
          go_wp2_with (at_builtin; go_must (refine wpList_append_ints rfl _ _ rfl W0.heap.size _ _ rfl (hO.alloc _) _ _ _ [(b.toNat : Int)] rfl HONE.out (by omega) (by simp; omega) ?_); intro v1 w1 hO1 hg1)
          have hB1 := (hB.alloc hbw (.cells #[.int .i64 (b.toNat : Int)] 3)).grown hg1 (by simp; omega) (fun k hk => (hO.lt k hk).1)
          clear hg1 hO hB
          go_wp2
          go_roundw
          case rel => exact ⟨k + 1, by omega, by go_num, by rw [HTK.out, List.map_append]; exact hO1, hB1⟩
          case measure => simp [intOf]; omega
        · obtain rfl : k = C := by omega
          obtain ⟨pts, hpts⟩ : ∃ pts, pts = (l.take k).map fun b => (b.toNat : Int) := ⟨_, rfl⟩
          have hpl : pts.length = k := by rw [hpts]; simp; omega
          rw [← hpts] at hO
          have hd := HD.out
          rw [← hpts] at hd
          obtain ⟨a6, c6, hv6, -⟩ := id hO.sl
          subst hv6
          have hbw := hB.size
          clear hpts
          by_cases hlim : 256 < k
          · have HD3 := Lib.hid (show Puny.decode l = .error 3 by rw [hd, if_pos hlim])
            have ht2 : (256 : Int) < (pts.length : Int) := by omega
            clear hd HD
            go_wp2_with fail
            go_ret2
            exact pdec_err HD3.out rfl hB
          rw [if_neg hlim] at hd
          have ht2 : ¬ (256 : Int) < (pts.length : Int) := by omega
          obtain ⟨at0, hat0⟩ : ∃ n, n = if k = 0 then 0 else k + 1 := ⟨_, rfl⟩
          have hdd : Puny.decode l = Puny.decGo (l.length + 1) (l.drop at0) ⟨pts, 128, 0, 72, true⟩ := by
            rw [hd, hat0]; split <;> rfl
          have HD3 := Lib.hid hdd
          have hal : at0 ≤ l.length := by rw [hat0]; split <;> omega
          have hpl2 : pts.length ≤ 256 := by omega
          clear hd HD hdd hcn hpl hlim
          by_cases hk0 : k = 0
          · have ht0 : ¬ (0 : Int) < (k : Int) := by omega
            have he : k = at0 := by rw [hat0, if_pos hk0]; exact hk0
            clear hat0 hk0
            go_wp2_with fail
            go_loopw [6, 8, 9, 10, 11, 12] (fun v6 v8 v9 v10 v11 v12 w2 => PRDec l W0 v6 v8 v9 v10 v11 v12 w2) (fun _ v8 _ _ _ _ _ => l.length - (intOf v8).toNat)
            case atStart => exact ⟨l.length + 1, at0, ⟨pts, 128, 0, 72, true⟩, hal, by omega, by rw [← he] <;> go_num, rfl, rfl, rfl, rfl, hO, HD3, by simp, by simp, by simp, by simp, by simp, by simp, hpl2, hB⟩
            case round =>
              clear hB hO HD3 he hal hpl2 hbw
              obtain ⟨f, at', ⟨pts, n, i, bias, first⟩, hat, hf, rfl, rfl, rfl, rfl, rfl, hO, HG, i0, i1, n0, n1, d0, d1, pl, hB⟩ := hrel
              simp only at hO HG i0 i1 n0 n1 d0 d1 pl
              obtain ⟨f, rfl⟩ : ∃ g, f = g + 1 := ⟨f - 1, by omega⟩
              have hbw := hB.size
              obtain ⟨a6, c6, rfl, hs6⟩ := id hO.sl
              by_cases hlt3 : at' < l.length
              · have b0 : (at' : Int) < (l.length : Int) := by omega
                have hne : l.drop at' ≠ [] := by intro e; have := congrArg List.length e; simp at this; omega
                have hg := HG.out
                rw [Puny.decGo, if_neg hne] at hg
                have HERR := Lib.hid (fun e (h : Puny.decNum (l.drop at') i 1 0 bias = .error e) => by rw [hg, Puny.step_err (s := ⟨pts, n, i, bias, first⟩) h] : ∀ e, Puny.decNum (l.drop at') i 1 0 bias = .error e → Puny.decode l = .error e)
                have HOK := Lib.hid (fun r j (h : Puny.decNum (l.drop at') i 1 0 bias = .ok (r, j)) => hg.trans (by rw [Puny.step_ok (s := ⟨pts, n, i, bias, first⟩) h]))
                clear hg HG hne
                go_wp2_with fail
                go_loop [8, 10, 14, 15] (fun v8 v10 v14 v15 => PRNum l at' i bias v8 v10 v14 v15) (fun v8 _ _ _ => l.length - (intOf v8).toNat)
                case atStart => exact ⟨at', 0, 1, i, Nat.le_refl _, by omega, by omega, rfl, rfl, rfl, rfl, by omega, by omega, by omega, by omega, Lib.hid rfl⟩
                case round =>
                  obtain ⟨a, k, x, j, hata, ha, hka, rfl, rfl, rfl, rfl, x0, x1, j0, j1, HN⟩ := hrel
                  by_cases hla : a < l.length
                  · have e0 : (a : Int) < (l.length : Int) := by omega
                    have e00 : (0 : Int) ≤ (a : Int) := by omega
                    have hgt := HGET.out a hla
                    have hg := HN.out
                    rw [List.drop_eq_getElem_cons hla, Puny.decNum] at hg
                    generalize l[a] = b at *
                    obtain ⟨t1, t2⟩ := Puny.thr_bd k bias
                    obtain ⟨v0, v1⟩ := Puny.value_bd b
                    have hx := Int.mul_le_mul_of_nonneg_left v1 x0
                    have hx' := Int.mul_le_mul_of_nonneg_left v0 x0
                    rw [Int.mul_comm x (Puny.value b)] at hx hx'
                    rw [Int.mul_comm x (-1)] at hx'
                    have hpos : 0 ≤ Puny.value b → 0 ≤ Puny.value b * x := fun h => Int.mul_nonneg h x0
                    have hthr := fun W => pr_threshold k bias W (by omega) d0 d1
                    have HTH := Lib.hid hthr
                    have hval := fun W => pr_value b W
                    have HVAL := Lib.hid hval
                    clear hval hthr
                    generalize Puny.value b = u at *
                    generalize Puny.thr k bias = t at *
                    obtain ⟨y, hy⟩ : ∃ y, y = u * x := ⟨_, rfl⟩
                    rw [← hy] at hg hx hx' hpos
                    have HY := Lib.hid hy
                    clear hy
                    by_cases hu : u < 0
                    · rw [if_pos hu] at hg
                      have HD4 := Lib.hid (HERR.out _ hg)
                      clear hg HERR HOK
                      go_wp2_with fail
                      refine (HVAL.out _).mono ?_; rintro e w2 ⟨rfl, rfl⟩
                      go_wp2_with fail
                      go_ret2
                      exact pdec_err HD4.out rfl hB
                    rw [if_neg hu] at hg
                    have hy0 := hpos (by omega)
                    have hy1 : y ≤ 38482906972160 := by omega
                    have hwr : IntKind.i64.wrap (u * x) = y := by rw [← HY.out, IntKind.wrap_i64]; omega
                    clear hpos hx hx'
                    by_cases ho : 1099511627776 < j + y
                    · rw [if_pos ho] at hg
                      have HD4 := Lib.hid (HERR.out _ hg)
                      have hwr2 : IntKind.i64.wrap (j + y) = j + y := by rw [IntKind.wrap_i64]; omega
                      clear hg HERR HOK
                      go_wp2_with fail
                      refine (HVAL.out _).mono ?_; rintro e w2 ⟨rfl, rfl⟩
                      go_wp2_with fail
                      go_ret2
                      exact pdec_err HD4.out rfl hB
                    rw [if_neg ho] at hg
                    obtain ⟨J, hJ⟩ : ∃ J, J = j + y := ⟨_, rfl⟩
                    rw [← hJ] at hg ho
                    have hwr2 : IntKind.i64.wrap (j + y) = J := by rw [hJ, IntKind.wrap_i64]; omega
                    have J0 : 0 ≤ J := by omega
                    have HJ := Lib.hid hJ
                    clear hJ
                    by_cases ht : u < t
                    · rw [if_pos ht] at hg
                      obtain ⟨Ji, -, -⟩ := Puny.decNum_bd _ _ _ _ _ _ _ i0 (by omega) hg
                      have hok := HOK.out _ _ hg
                      have HOK2 := Lib.hid hok
                      clear hg hok HERR HOK HN
                      go_wp2_with fail
                      refine (HVAL.out _).mono ?_; rintro e w2 ⟨rfl, rfl⟩
                      go_wp2_with fail
                      refine (HTH.out _).mono ?_; rintro e w2 ⟨rfl, rfl⟩
                      go_wp2_with fail
                      have had := fun W => pr_adapt (J - i) ((pts.length : Int) + 1) first W (by omega) (by omega) (by omega) (by omega)
                      refine (had _).mono ?_; rintro e w2 ⟨rfl, rfl⟩
                      clear had
                      have hbd := Puny.adapt_bd (J - i) ((pts.length : Int) + 1) first (by omega) (by omega) (by omega)
                      have hok := HOK2.out
                      generalize Puny.adapt (J - i) ((pts.length : Int) + 1) first = nb at *
                      have hq0 : 0 ≤ J / ((pts.length : Int) + 1) := Int.ediv_nonneg (by omega) (by omega)
                      have hq1 : J / ((pts.length : Int) + 1) ≤ J := Int.ediv_le_self _ (by omega)
                      have hm0 : 0 ≤ J % ((pts.length : Int) + 1) := Int.emod_nonneg _ (by omega)
                      have hm1 : J % ((pts.length : Int) + 1) < ((pts.length : Int) + 1) := Int.emod_lt_of_pos _ (by omega)
                      have HOK3 := Lib.hid hok
                      clear hok HOK2
                      go_wp2_with fail
                      obtain ⟨N, hN⟩ : ∃ N, N = n + J / ((pts.length : Int) + 1) := ⟨_, rfl⟩
                      obtain ⟨m, hm⟩ : ∃ m : Nat, (m : Int) = J % ((pts.length : Int) + 1) := ⟨(J % ((pts.length : Int) + 1)).toNat, by omega⟩
                      have hmt : (J % ((pts.length : Int) + 1)).toNat = m := by omega
                      have hok := HOK3.out
                      rw [hmt, ← hm, ← hN] at hok
                      have hml : m ≤ pts.length := by omega
                      have hN0 : 0 ≤ N := by omega
                      have hN1 : N ≤ 2000000000000 := by omega
                      rw [← hm, ← hN]
                      clear hm hN hmt hm0 hm1 hq0 hq1 HOK3
                      refine (pr_point N _ (by omega) (by omega)).mono ?_; rintro e w2 ⟨rfl, rfl⟩
                      cases hp : Puny.point N with
                      | false =>
                        rw [hp, if_pos rfl] at hok
                        have HD4 := Lib.hid hok
                        clear hok hp
                        go_wp2_with fail
                        go_ret2
                        exact pdec_err HD4.out rfl hB
                      | true =>
                        rw [hp, if_neg (by simp)] at hok
                        have hN2 := ((Puny.point_iff N).1 hp).2.1
                        have HOK4 := Lib.hid hok
                        clear hok hp
                        go_wp2_with fail
                        have hs1 := hs6.take hml
                        have hc6 := hs6.2.1
                        have g0 : (0 : Int) ≤ (m : Int) := by omega
                        have g1 : (m : Int) ≤ (c6 : Int) := by omega
                        have g2 : (m : Int) ≤ (pts.length : Int) := by omega
                        have hlt6 := hO.lt
                        rcases id hO.2 with ⟨hv, hn0⟩ | ⟨g6, cap, cur, hv, -⟩
                        · injection hv with hv1 hv0 hv2
                          subst hv1; subst hv2
                          obtain rfl : pts = [] := List.eq_nil_of_length_eq_zero hn0
                          obtain rfl : m = 0 := by simpa using hml
                          have hs1 : SlI wr none 0 0 [] := SlI.nil wr
                          have hs2 : SlI wr none 0 0 [] := SlI.nil wr
                          clear hs6 hlt6 hn0 hv0 g0 g1 g2
                          have HEX := Lib.hid (OwnI.empty wr (Nat.le_refl wr.heap.size))
                          have HEY := Lib.hid (OwnI.alloc (OwnI.empty wr (Nat.le_refl wr.heap.size)) (.cells #[.int .i64 N] 3))
                          have hz0 : (wr.alloc (.cells #[.int .i64 N] 3)).heap.size = wr.heap.size + 1 := by simp
                          have hez := OwnI.empty (base := wr.heap.size) (wr.alloc (.cells #[.int .i64 N] 3)) (by simp)
                          rw [hz0] at hez
                          have HEZ := Lib.hid hez
                          have hBX : Below wr.heap.size wr (wr.alloc (.cells #[] 3)) := (Below.refl _ _).alloc (Nat.le_refl _) _
                          have hBY : Below wr.heap.size wr ((wr.alloc (.cells #[] 3)).alloc (.cells #[.int .i64 N] 3)) := hBX.alloc (by simp) _
                          have hBZ : Below wr.heap.size wr ((wr.alloc (.cells #[.int .i64 N] 3)).alloc (.cells #[] 3)) := ((Below.refl _ _).alloc (Nat.le_refl _) _).alloc (by simp) _
                          have HSX := Lib.hid (hs1.ext hBX); have HSY := Lib.hid (hs1.ext hBY); have HSZ := Lib.hid (hs1.ext hBZ)
                          clear hez
                          have hNY := SlI.one (wr.alloc (.cells #[] 3)) N 3
                          rw [show (wr.alloc (.cells #[] 3)).heap.size = wr.heap.size + 1 by simp] at hNY
                          have hNZ := (SlI.one wr N 3).ext ((Below.refl _ (wr.alloc (.cells #[.int .i64 N] 3))).alloc (Nat.le_refl _) (.cells #[] 3))
                          have HNY := Lib.hid hNY; have HNZ := Lib.hid hNZ
                          have HBXYZ := Lib.hid (And.intro hBX (And.intro hBY hBZ))
                          have HS2 := Lib.hid hs2
                          clear hNY hNZ hBX hBY hBZ hs2 hs1
                          go_region_law (first | (refine step_append_ints rfl (.tmp 117) (.tmp 120) rfl wr.heap.size _ [] rfl (by first | exact HEX.out | exact HEY.out | exact HEZ.out) _ _ _ [] rfl (by first | exact HSX.out | exact HSY.out | exact HSZ.out) (by simp <;> omega) (by simp <;> omega) ?_; intro v1 w1 hO1 hg1; have hb1 : Below wr.heap.size wr w1 := (by first | exact below_grownD HBXYZ.out.1 hg1 rfl rfl rfl rfl (by simp <;> omega) (fun k hk => by cases hk; first | exact Nat.le_refl _ | exact Nat.le_succ _) | exact below_grownD HBXYZ.out.2.1 hg1 rfl rfl rfl rfl (by simp <;> omega) (fun k hk => by cases hk; first | exact Nat.le_refl _ | exact Nat.le_succ _) | exact below_grownD HBXYZ.out.2.2 hg1 rfl rfl rfl rfl (by simp <;> omega) (fun k hk => by cases hk; first | exact Nat.le_refl _ | exact Nat.le_succ _)); have hsz1 := hb1.size) | (refine step_append_ints rfl (.tmp 121) (.tmp 123) rfl wr.heap.size _ _ rfl (by first | exact hO1 | exact hO1.alloc _) _ _ _ [N] rfl (by first | exact SlI.one w1 N _ | exact sli_grownD HNY.out hg1 rfl (fun e => Nat.succ_ne_self _ (Option.some.inj e).symm) | exact sli_grownD HNZ.out hg1 rfl (fun e => Nat.succ_ne_self _ (Option.some.inj e))) (by simp <;> omega) (by first | exact hsz1 | (simp <;> omega)) ?_; intro v2 w2 hO2 hg2; have hb2 : Below wr.heap.size wr w2 := (by first | exact below_grownD hb1 hg2 rfl rfl rfl rfl hsz1 (fun k hk => (hO1.lt k hk).1) | exact below_grownD (hb1.alloc hsz1 (.cells #[.int .i64 N] 3)) hg2 rfl rfl rfl rfl (by simp <;> omega) (fun k hk => (hO1.lt k hk).1)); have hsz2 := hb2.size) | (refine step_append_ints rfl (.tmp 124) (.tmp 127) rfl wr.heap.size _ _ rfl hO2 _ _ _ [] rfl (HS2.out.ext hb2) (by simp <;> omega) hsz2 ?_; intro v3 w3 hO3 hg3; have hb3 : Below wr.heap.size wr w3 := below_grownD hb2 hg3 rfl rfl rfl rfl hsz2 (fun k hk => (hO2.lt k hk).1)))
                          all_goals
                            have hb := hB.trans (hb3.mono hbw)
                            rw [show ([] ++ [] ++ [N] ++ [] : List Int) = Puny.ins [] 0 N by simp [Puny.ins]] at hO3
                            have hO4 := hO3.mono hbw
                            have hil := Puny.ins_length [] 0 N hml
                            obtain ⟨a7, c7, rfl, -⟩ := id hO4.sl
                            clear hg1 hg2 hg3 hO1 hO2 hO3 hb1 hb2 hb3 HSX HSY HSZ HEX HEY HEZ HNY HNZ HBXYZ HS2 hsz1 hsz2
                            have hok := HOK4.out
                            rw [if_neg (show ¬ 256 < (([] : List Int).length : Int) + 1 by simp)] at hok
                            have HG4 := Lib.hid hok
                            have ht256 : ¬ (256 : Int) < ((Puny.ins [] 0 N).length : Int) := by omega
                            have hml2 : (0 : Int) + 1 ≤ ((Puny.ins [] 0 N).length : Int) := by omega
                            clear hok HOK4 hil
                            generalize Puny.ins [] 0 N = pts2 at *
                            go_wp2_with fail
                            go_roundw
                            case rel => exact ⟨f, a + 1, ⟨pts2, N, (0 : Int) + 1, nb, false⟩, by omega, by omega, by go_num, rfl, by go_num, rfl, rfl, hO4, HG4, by simp, hml2, hN0, hN2, hbd.1, hbd.2, by simp; omega, hb⟩
                            case measure => simp [intOf]; omega
                        · injection hv with hv1 _ hv2
                          subst hv1; subst hv2
                          have hg6 : g6 < wr.heap.size := (hlt6 _ rfl).2
                          by_cases hcm : c6 = m
                          · subst hcm
                            have hs2 : SlI wr (some ⟨g6, 0, none⟩) 0 0 (pts.drop c6) := by
                              rw [List.drop_eq_nil_of_le (by omega)]; exact SlI.zero _ _ _ (by unfold maxLen; omega)
                            have HEX := Lib.hid (OwnI.empty wr (Nat.le_refl wr.heap.size))
                            have HEY := Lib.hid (OwnI.alloc (OwnI.empty wr (Nat.le_refl wr.heap.size)) (.cells #[.int .i64 N] 3))
                            have hz0 : (wr.alloc (.cells #[.int .i64 N] 3)).heap.size = wr.heap.size + 1 := by simp
                            have hez := OwnI.empty (base := wr.heap.size) (wr.alloc (.cells #[.int .i64 N] 3)) (by simp)
                            rw [hz0] at hez
                            have HEZ := Lib.hid hez
                            have hBX : Below wr.heap.size wr (wr.alloc (.cells #[] 3)) := (Below.refl _ _).alloc (Nat.le_refl _) _
                            have hBY : Below wr.heap.size wr ((wr.alloc (.cells #[] 3)).alloc (.cells #[.int .i64 N] 3)) := hBX.alloc (by simp) _
                            have hBZ : Below wr.heap.size wr ((wr.alloc (.cells #[.int .i64 N] 3)).alloc (.cells #[] 3)) := ((Below.refl _ _).alloc (Nat.le_refl _) _).alloc (by simp) _
                            have HSX := Lib.hid (hs1.ext hBX); have HSY := Lib.hid (hs1.ext hBY); have HSZ := Lib.hid (hs1.ext hBZ)
                            have htl : (pts.take c6).length = c6 := by simp; omega
                            clear hez
                            have hNY := SlI.one (wr.alloc (.cells #[] 3)) N 3
                            rw [show (wr.alloc (.cells #[] 3)).heap.size = wr.heap.size + 1 by simp] at hNY
                            have hNZ := (SlI.one wr N 3).ext ((Below.refl _ (wr.alloc (.cells #[.int .i64 N] 3))).alloc (Nat.le_refl _) (.cells #[] 3))
                            have HNY := Lib.hid hNY; have HNZ := Lib.hid hNZ
                            have HBXYZ := Lib.hid (And.intro hBX (And.intro hBY hBZ))
                            have HS2 := Lib.hid hs2
                            clear hNY hNZ hBX hBY hBZ hs2 hs1
                            go_region_law (first | (refine step_append_ints rfl (.tmp 117) (.tmp 120) rfl wr.heap.size _ [] rfl (by first | exact HEX.out | exact HEY.out | exact HEZ.out) _ _ _ (pts.take c6) rfl (by first | exact HSX.out | exact HSY.out | exact HSZ.out) (by simp; omega) (by simp <;> omega) ?_; intro v1 w1 hO1 hg1; have hb1 : Below wr.heap.size wr w1 := (by first | exact below_grownD HBXYZ.out.1 hg1 rfl rfl rfl rfl (by simp <;> omega) (fun k hk => by cases hk; first | exact Nat.le_refl _ | exact Nat.le_succ _) | exact below_grownD HBXYZ.out.2.1 hg1 rfl rfl rfl rfl (by simp <;> omega) (fun k hk => by cases hk; first | exact Nat.le_refl _ | exact Nat.le_succ _) | exact below_grownD HBXYZ.out.2.2 hg1 rfl rfl rfl rfl (by simp <;> omega) (fun k hk => by cases hk; first | exact Nat.le_refl _ | exact Nat.le_succ _)); have hsz1 := hb1.size) | (refine step_append_ints rfl (.tmp 121) (.tmp 123) rfl wr.heap.size _ _ rfl (by first | exact hO1 | exact hO1.alloc _) _ _ _ [N] rfl (by first | exact SlI.one w1 N _ | exact sli_grownD HNY.out hg1 rfl (fun e => Nat.succ_ne_self _ (Option.some.inj e).symm) | exact sli_grownD HNZ.out hg1 rfl (fun e => Nat.succ_ne_self _ (Option.some.inj e))) (by simp; omega) (by first | exact hsz1 | (simp; omega)) ?_; intro v2 w2 hO2 hg2; have hb2 : Below wr.heap.size wr w2 := (by first | exact below_grownD hb1 hg2 rfl rfl rfl rfl hsz1 (fun k hk => (hO1.lt k hk).1) | exact below_grownD (hb1.alloc hsz1 (.cells #[.int .i64 N] 3)) hg2 rfl rfl rfl rfl (by simp; omega) (fun k hk => (hO1.lt k hk).1)); have hsz2 := hb2.size) | (refine step_append_ints rfl (.tmp 124) (.tmp 127) rfl wr.heap.size _ _ rfl hO2 _ _ _ (pts.drop c6) rfl (HS2.out.ext hb2) (by simp; omega) hsz2 ?_; intro v3 w3 hO3 hg3; have hb3 : Below wr.heap.size wr w3 := below_grownD hb2 hg3 rfl rfl rfl rfl hsz2 (fun k hk => (hO2.lt k hk).1)))
                            all_goals
                              have hb := hB.trans (hb3.mono hbw)
                              rw [ins_eq] at hO3
                              have hO4 := hO3.mono hbw
                              have hil := Puny.ins_length pts c6 N hml
                              obtain ⟨a7, c7, rfl, -⟩ := id hO4.sl
                              clear hg1 hg2 hg3 hO1 hO2 hO3 hb1 hb2 hb3 HSX HSY HSZ HEX HEY HEZ HNY HNZ HBXYZ HS2 hsz1 hsz2
                              have hok := HOK4.out
                              by_cases h256 : 256 < (pts.length : Int) + 1
                              · rw [if_pos h256] at hok
                                have HD4 := Lib.hid hok
                                have ht256 : (256 : Int) < ((Puny.ins pts c6 N).length : Int) := by omega
                                clear hok HOK4 hil
                                go_wp2_with fail
                                go_ret2
                                exact pdec_err HD4.out rfl hb
                              · rw [if_neg h256] at hok
                                have HG4 := Lib.hid hok
                                have ht256 : ¬ (256 : Int) < ((Puny.ins pts c6 N).length : Int) := by omega
                                have hml2 : (c6 : Int) + 1 ≤ ((Puny.ins pts c6 N).length : Int) := by omega
                                clear hok HOK4 hil
                                generalize Puny.ins pts c6 N = pts2 at *
                                go_wp2_with fail
                                go_roundw
                                case rel => exact ⟨f, a + 1, ⟨pts2, N, (c6 : Int) + 1, nb, false⟩, by omega, by omega, by go_num, rfl, by go_num, rfl, rfl, hO4, HG4, by simp; omega, hml2, hN0, hN2, hbd.1, hbd.2, by simp; omega, hb⟩
                                case measure => simp [intOf]; omega
                          · have hs2 := hs6.drop hml
                            simp only [Nat.zero_add] at hs2
                            have HEX := Lib.hid (OwnI.empty wr (Nat.le_refl wr.heap.size))
                            have HEY := Lib.hid (OwnI.alloc (OwnI.empty wr (Nat.le_refl wr.heap.size)) (.cells #[.int .i64 N] 3))
                            have hz0 : (wr.alloc (.cells #[.int .i64 N] 3)).heap.size = wr.heap.size + 1 := by simp
                            have hez := OwnI.empty (base := wr.heap.size) (wr.alloc (.cells #[.int .i64 N] 3)) (by simp)
                            rw [hz0] at hez
                            have HEZ := Lib.hid hez
                            have hBX : Below wr.heap.size wr (wr.alloc (.cells #[] 3)) := (Below.refl _ _).alloc (Nat.le_refl _) _
                            have hBY : Below wr.heap.size wr ((wr.alloc (.cells #[] 3)).alloc (.cells #[.int .i64 N] 3)) := hBX.alloc (by simp) _
                            have hBZ : Below wr.heap.size wr ((wr.alloc (.cells #[.int .i64 N] 3)).alloc (.cells #[] 3)) := ((Below.refl _ _).alloc (Nat.le_refl _) _).alloc (by simp) _
                            have HSX := Lib.hid (hs1.ext hBX); have HSY := Lib.hid (hs1.ext hBY); have HSZ := Lib.hid (hs1.ext hBZ)
                            have htl : (pts.take m).length = m := by simp; omega
                            clear hez
                            have hNY := SlI.one (wr.alloc (.cells #[] 3)) N 3
                            rw [show (wr.alloc (.cells #[] 3)).heap.size = wr.heap.size + 1 by simp] at hNY
                            have hNZ := (SlI.one wr N 3).ext ((Below.refl _ (wr.alloc (.cells #[.int .i64 N] 3))).alloc (Nat.le_refl _) (.cells #[] 3))
                            have HNY := Lib.hid hNY; have HNZ := Lib.hid hNZ
                            have HBXYZ := Lib.hid (And.intro hBX (And.intro hBY hBZ))
                            have HS2 := Lib.hid hs2
                            clear hNY hNZ hBX hBY hBZ hs2 hs1
                            go_region_law (first | (refine step_append_ints rfl (.tmp 117) (.tmp 120) rfl wr.heap.size _ [] rfl (by first | exact HEX.out | exact HEY.out | exact HEZ.out) _ _ _ (pts.take m) rfl (by first | exact HSX.out | exact HSY.out | exact HSZ.out) (by simp; omega) (by simp <;> omega) ?_; intro v1 w1 hO1 hg1; have hb1 : Below wr.heap.size wr w1 := (by first | exact below_grownD HBXYZ.out.1 hg1 rfl rfl rfl rfl (by simp <;> omega) (fun k hk => by cases hk; first | exact Nat.le_refl _ | exact Nat.le_succ _) | exact below_grownD HBXYZ.out.2.1 hg1 rfl rfl rfl rfl (by simp <;> omega) (fun k hk => by cases hk; first | exact Nat.le_refl _ | exact Nat.le_succ _) | exact below_grownD HBXYZ.out.2.2 hg1 rfl rfl rfl rfl (by simp <;> omega) (fun k hk => by cases hk; first | exact Nat.le_refl _ | exact Nat.le_succ _)); have hsz1 := hb1.size) | (refine step_append_ints rfl (.tmp 121) (.tmp 123) rfl wr.heap.size _ _ rfl (by first | exact hO1 | exact hO1.alloc _) _ _ _ [N] rfl (by first | exact SlI.one w1 N _ | exact sli_grownD HNY.out hg1 rfl (fun e => Nat.succ_ne_self _ (Option.some.inj e).symm) | exact sli_grownD HNZ.out hg1 rfl (fun e => Nat.succ_ne_self _ (Option.some.inj e))) (by simp; omega) (by first | exact hsz1 | (simp; omega)) ?_; intro v2 w2 hO2 hg2; have hb2 : Below wr.heap.size wr w2 := (by first | exact below_grownD hb1 hg2 rfl rfl rfl rfl hsz1 (fun k hk => (hO1.lt k hk).1) | exact below_grownD (hb1.alloc hsz1 (.cells #[.int .i64 N] 3)) hg2 rfl rfl rfl rfl (by simp; omega) (fun k hk => (hO1.lt k hk).1)); have hsz2 := hb2.size) | (refine step_append_ints rfl (.tmp 124) (.tmp 127) rfl wr.heap.size _ _ rfl hO2 _ _ _ (pts.drop m) rfl (HS2.out.ext hb2) (by simp; omega) hsz2 ?_; intro v3 w3 hO3 hg3; have hb3 : Below wr.heap.size wr w3 := below_grownD hb2 hg3 rfl rfl rfl rfl hsz2 (fun k hk => (hO2.lt k hk).1)))
                            all_goals
                              have hb := hB.trans (hb3.mono hbw)
                              rw [ins_eq] at hO3
                              have hO4 := hO3.mono hbw
                              have hil := Puny.ins_length pts m N hml
                              obtain ⟨a7, c7, rfl, -⟩ := id hO4.sl
                              clear hg1 hg2 hg3 hO1 hO2 hO3 hb1 hb2 hb3 HSX HSY HSZ HEX HEY HEZ HNY HNZ HBXYZ HS2 hsz1 hsz2
                              have hok := HOK4.out
                              by_cases h256 : 256 < (pts.length : Int) + 1
                              · rw [if_pos h256] at hok
                                have HD4 := Lib.hid hok
                                have ht256 : (256 : Int) < ((Puny.ins pts m N).length : Int) := by omega
                                clear hok HOK4 hil
                                go_wp2_with fail
                                go_ret2
                                exact pdec_err HD4.out rfl hb
                              · rw [if_neg h256] at hok
                                have HG4 := Lib.hid hok
                                have ht256 : ¬ (256 : Int) < ((Puny.ins pts m N).length : Int) := by omega
                                have hml2 : (m : Int) + 1 ≤ ((Puny.ins pts m N).length : Int) := by omega
                                clear hok HOK4 hil
                                generalize Puny.ins pts m N = pts2 at *
                                go_wp2_with fail
                                go_roundw
                                case rel => exact ⟨f, a + 1, ⟨pts2, N, (m : Int) + 1, nb, false⟩, by omega, by omega, by go_num, rfl, by go_num, rfl, rfl, hO4, HG4, by simp; omega, hml2, hN0, hN2, hbd.1, hbd.2, by simp; omega, hb⟩
                                case measure => simp [intOf]; omega
                    rw [if_neg ht] at hg
                    have hz2 := Int.mul_le_mul_of_nonneg_left (show 36 - t ≤ 35 by omega) x0
                    have hz3 := Int.mul_nonneg x0 (show 0 ≤ 36 - t by omega)
                    obtain ⟨z, hzz⟩ : ∃ z, z = x * (36 - t) := ⟨_, rfl⟩
                    rw [← hzz] at hg hz2 hz3
                    have hwr3 : IntKind.i64.wrap (x * (36 - t)) = z := by rw [← hzz, IntKind.wrap_i64]; omega
                    clear hzz
                    by_cases ho2 : 1099511627776 < z
                    · rw [if_pos ho2] at hg
                      have HD4 := Lib.hid (HERR.out _ hg)
                      clear hg HERR HOK
                      go_wp2_with fail
                      refine (HVAL.out _).mono ?_; rintro e w2 ⟨rfl, rfl⟩
                      go_wp2_with fail
                      refine (HTH.out _).mono ?_; rintro e w2 ⟨rfl, rfl⟩
                      go_wp2_with fail
                      go_ret2
                      exact pdec_err HD4.out rfl hB
                    · rw [if_neg ho2] at hg
                      have HG4 := Lib.hid hg
                      clear hg
                      go_wp2_with fail
                      refine (HVAL.out _).mono ?_; rintro e w2 ⟨rfl, rfl⟩
                      go_wp2_with fail
                      refine (HTH.out _).mono ?_; rintro e w2 ⟨rfl, rfl⟩
                      go_wp2_with fail
                      go_round
                      case rel => exact ⟨a + 1, k + 1, z, J, by omega, by omega, by omega, by go_num, rfl, rfl, by go_num, hz3, by omega, J0, by omega, HG4⟩
                      case measure => simp [intOf]; omega
                  · obtain rfl : a = l.length := by omega
                    have hg := HN.out
                    rw [List.drop_length, Puny.decNum] at hg
                    have HD4 := Lib.hid (HERR.out _ hg)
                    clear hg HERR HOK
                    go_wp2_with fail
                    go_ret2
                    exact pdec_err HD4.out rfl hB
              · obtain rfl : at' = l.length := by omega
                have hg := HG.out
                rw [List.drop_length, Puny.decGo, if_pos rfl] at hg
                have HD4 := Lib.hid hg
                clear hg HG
                go_wp2_with fail
                go_ret2
                exact pdec_ok HD4.out rfl hO hB
          · have ht0 : (0 : Int) < (k : Int) := by omega
            have he : k + 1 = at0 := by rw [hat0, if_neg hk0]
            clear hat0 hk0
            go_wp2_with fail
            go_loopw [6, 8, 9, 10, 11, 12] (fun v6 v8 v9 v10 v11 v12 w2 => PRDec l W0 v6 v8 v9 v10 v11 v12 w2) (fun _ v8 _ _ _ _ _ => l.length - (intOf v8).toNat)
            case atStart => exact ⟨l.length + 1, at0, ⟨pts, 128, 0, 72, true⟩, hal, by omega, by rw [← he] <;> go_num, rfl, rfl, rfl, rfl, hO, HD3, by simp, by simp, by simp, by simp, by simp, by simp, hpl2, hB⟩
            case round =>
              clear hB hO HD3 he hal hpl2 hbw
              obtain ⟨f, at', ⟨pts, n, i, bias, first⟩, hat, hf, rfl, rfl, rfl, rfl, rfl, hO, HG, i0, i1, n0, n1, d0, d1, pl, hB⟩ := hrel
              simp only at hO HG i0 i1 n0 n1 d0 d1 pl
              obtain ⟨f, rfl⟩ : ∃ g, f = g + 1 := ⟨f - 1, by omega⟩
              have hbw := hB.size
              obtain ⟨a6, c6, rfl, hs6⟩ := id hO.sl
              by_cases hlt3 : at' < l.length
              · have b0 : (at' : Int) < (l.length : Int) := by omega
                have hne : l.drop at' ≠ [] := by intro e; have := congrArg List.length e; simp at this; omega
                have hg := HG.out
                rw [Puny.decGo, if_neg hne] at hg
                have HERR := Lib.hid (fun e (h : Puny.decNum (l.drop at') i 1 0 bias = .error e) => by rw [hg, Puny.step_err (s := ⟨pts, n, i, bias, first⟩) h] : ∀ e, Puny.decNum (l.drop at') i 1 0 bias = .error e → Puny.decode l = .error e)
                have HOK := Lib.hid (fun r j (h : Puny.decNum (l.drop at') i 1 0 bias = .ok (r, j)) => hg.trans (by rw [Puny.step_ok (s := ⟨pts, n, i, bias, first⟩) h]))
                clear hg HG hne
                go_wp2_with fail
                go_loop [8, 10, 14, 15] (fun v8 v10 v14 v15 => PRNum l at' i bias v8 v10 v14 v15) (fun v8 _ _ _ => l.length - (intOf v8).toNat)
                case atStart => exact ⟨at', 0, 1, i, Nat.le_refl _, by omega, by omega, rfl, rfl, rfl, rfl, by omega, by omega, by omega, by omega, Lib.hid rfl⟩
                case round =>
                  obtain ⟨a, k, x, j, hata, ha, hka, rfl, rfl, rfl, rfl, x0, x1, j0, j1, HN⟩ := hrel
                  by_cases hla : a < l.length
                  · have e0 : (a : Int) < (l.length : Int) := by omega
                    have e00 : (0 : Int) ≤ (a : Int) := by omega
                    have hgt := HGET.out a hla
                    have hg := HN.out
                    rw [List.drop_eq_getElem_cons hla, Puny.decNum] at hg
                    generalize l[a] = b at *
                    obtain ⟨t1, t2⟩ := Puny.thr_bd k bias
                    obtain ⟨v0, v1⟩ := Puny.value_bd b
                    have hx := Int.mul_le_mul_of_nonneg_left v1 x0
                    have hx' := Int.mul_le_mul_of_nonneg_left v0 x0
                    rw [Int.mul_comm x (Puny.value b)] at hx hx'
                    rw [Int.mul_comm x (-1)] at hx'
                    have hpos : 0 ≤ Puny.value b → 0 ≤ Puny.value b * x := fun h => Int.mul_nonneg h x0
                    have hthr := fun W => pr_threshold k bias W (by omega) d0 d1
                    have HTH := Lib.hid hthr
                    have hval := fun W => pr_value b W
                    have HVAL := Lib.hid hval
                    clear hval hthr
                    generalize Puny.value b = u at *
                    generalize Puny.thr k bias = t at *
                    obtain ⟨y, hy⟩ : ∃ y, y = u * x := ⟨_, rfl⟩
                    rw [← hy] at hg hx hx' hpos
                    have HY := Lib.hid hy
                    clear hy
                    by_cases hu : u < 0
                    · rw [if_pos hu] at hg
                      have HD4 := Lib.hid (HERR.out _ hg)
                      clear hg HERR HOK
                      go_wp2_with fail
                      refine (HVAL.out _).mono ?_; rintro e w2 ⟨rfl, rfl⟩
                      go_wp2_with fail
                      go_ret2
                      exact pdec_err HD4.out rfl hB
                    rw [if_neg hu] at hg
                    have hy0 := hpos (by omega)
                    have hy1 : y ≤ 38482906972160 := by omega
                    have hwr : IntKind.i64.wrap (u * x) = y := by rw [← HY.out, IntKind.wrap_i64]; omega
                    clear hpos hx hx'
                    by_cases ho : 1099511627776 < j + y
                    · rw [if_pos ho] at hg
                      have HD4 := Lib.hid (HERR.out _ hg)
                      have hwr2 : IntKind.i64.wrap (j + y) = j + y := by rw [IntKind.wrap_i64]; omega
                      clear hg HERR HOK
                      go_wp2_with fail
                      refine (HVAL.out _).mono ?_; rintro e w2 ⟨rfl, rfl⟩
                      go_wp2_with fail
                      go_ret2
                      exact pdec_err HD4.out rfl hB
                    rw [if_neg ho] at hg
                    obtain ⟨J, hJ⟩ : ∃ J, J = j + y := ⟨_, rfl⟩
                    rw [← hJ] at hg ho
                    have hwr2 : IntKind.i64.wrap (j + y) = J := by rw [hJ, IntKind.wrap_i64]; omega
                    have J0 : 0 ≤ J := by omega
                    have HJ := Lib.hid hJ
                    clear hJ
                    by_cases ht : u < t
                    · rw [if_pos ht] at hg
                      obtain ⟨Ji, -, -⟩ := Puny.decNum_bd _ _ _ _ _ _ _ i0 (by omega) hg
                      have hok := HOK.out _ _ hg
                      have HOK2 := Lib.hid hok
                      clear hg hok HERR HOK HN
                      go_wp2_with fail
                      refine (HVAL.out _).mono ?_; rintro e w2 ⟨rfl, rfl⟩
                      go_wp2_with fail
                      refine (HTH.out _).mono ?_; rintro e w2 ⟨rfl, rfl⟩
                      go_wp2_with fail
                      have had := fun W => pr_adapt (J - i) ((pts.length : Int) + 1) first W (by omega) (by omega) (by omega) (by omega)
                      refine (had _).mono ?_; rintro e w2 ⟨rfl, rfl⟩
                      clear had
                      have hbd := Puny.adapt_bd (J - i) ((pts.length : Int) + 1) first (by omega) (by omega) (by omega)
                      have hok := HOK2.out
                      generalize Puny.adapt (J - i) ((pts.length : Int) + 1) first = nb at *
                      have hq0 : 0 ≤ J / ((pts.length : Int) + 1) := Int.ediv_nonneg (by omega) (by omega)
                      have hq1 : J / ((pts.length : Int) + 1) ≤ J := Int.ediv_le_self _ (by omega)
                      have hm0 : 0 ≤ J % ((pts.length : Int) + 1) := Int.emod_nonneg _ (by omega)
                      have hm1 : J % ((pts.length : Int) + 1) < ((pts.length : Int) + 1) := Int.emod_lt_of_pos _ (by omega)
                      have HOK3 := Lib.hid hok
                      clear hok HOK2
                      go_wp2_with fail
                      obtain ⟨N, hN⟩ : ∃ N, N = n + J / ((pts.length : Int) + 1) := ⟨_, rfl⟩
                      obtain ⟨m, hm⟩ : ∃ m : Nat, (m : Int) = J % ((pts.length : Int) + 1) := ⟨(J % ((pts.length : Int) + 1)).toNat, by omega⟩
                      have hmt : (J % ((pts.length : Int) + 1)).toNat = m := by omega
                      have hok := HOK3.out
                      rw [hmt, ← hm, ← hN] at hok
                      have hml : m ≤ pts.length := by omega
                      have hN0 : 0 ≤ N := by omega
                      have hN1 : N ≤ 2000000000000 := by omega
                      rw [← hm, ← hN]
                      clear hm hN hmt hm0 hm1 hq0 hq1 HOK3
                      refine (pr_point N _ (by omega) (by omega)).mono ?_; rintro e w2 ⟨rfl, rfl⟩
                      cases hp : Puny.point N with
                      | false =>
                        rw [hp, if_pos rfl] at hok
                        have HD4 := Lib.hid hok
                        clear hok hp
                        go_wp2_with fail
                        go_ret2
                        exact pdec_err HD4.out rfl hB
                      | true =>
                        rw [hp, if_neg (by simp)] at hok
                        have hN2 := ((Puny.point_iff N).1 hp).2.1
                        have HOK4 := Lib.hid hok
                        clear hok hp
                        go_wp2_with fail
                        have hs1 := hs6.take hml
                        have hc6 := hs6.2.1
                        have g0 : (0 : Int) ≤ (m : Int) := by omega
                        have g1 : (m : Int) ≤ (c6 : Int) := by omega
                        have g2 : (m : Int) ≤ (pts.length : Int) := by omega
                        have hlt6 := hO.lt
                        rcases id hO.2 with ⟨hv, hn0⟩ | ⟨g6, cap, cur, hv, -⟩
                        · injection hv with hv1 hv0 hv2
                          subst hv1; subst hv2
                          obtain rfl : pts = [] := List.eq_nil_of_length_eq_zero hn0
                          obtain rfl : m = 0 := by simpa using hml
                          have hs1 : SlI wr none 0 0 [] := SlI.nil wr
                          have hs2 : SlI wr none 0 0 [] := SlI.nil wr
                          clear hs6 hlt6 hn0 hv0 g0 g1 g2
                          have HEX := Lib.hid (OwnI.empty wr (Nat.le_refl wr.heap.size))
                          have HEY := Lib.hid (OwnI.alloc (OwnI.empty wr (Nat.le_refl wr.heap.size)) (.cells #[.int .i64 N] 3))
                          have hz0 : (wr.alloc (.cells #[.int .i64 N] 3)).heap.size = wr.heap.size + 1 := by simp
                          have hez := OwnI.empty (base := wr.heap.size) (wr.alloc (.cells #[.int .i64 N] 3)) (by simp)
                          rw [hz0] at hez
                          have HEZ := Lib.hid hez
                          have hBX : Below wr.heap.size wr (wr.alloc (.cells #[] 3)) := (Below.refl _ _).alloc (Nat.le_refl _) _
                          have hBY : Below wr.heap.size wr ((wr.alloc (.cells #[] 3)).alloc (.cells #[.int .i64 N] 3)) := hBX.alloc (by simp) _
                          have hBZ : Below wr.heap.size wr ((wr.alloc (.cells #[.int .i64 N] 3)).alloc (.cells #[] 3)) := ((Below.refl _ _).alloc (Nat.le_refl _) _).alloc (by simp) _
                          have HSX := Lib.hid (hs1.ext hBX); have HSY := Lib.hid (hs1.ext hBY); have HSZ := Lib.hid (hs1.ext hBZ)
                          clear hez
                          have hNY := SlI.one (wr.alloc (.cells #[] 3)) N 3
                          rw [show (wr.alloc (.cells #[] 3)).heap.size = wr.heap.size + 1 by simp] at hNY
                          have hNZ := (SlI.one wr N 3).ext ((Below.refl _ (wr.alloc (.cells #[.int .i64 N] 3))).alloc (Nat.le_refl _) (.cells #[] 3))
                          have HNY := Lib.hid hNY; have HNZ := Lib.hid hNZ
                          have HBXYZ := Lib.hid (And.intro hBX (And.intro hBY hBZ))
                          have HS2 := Lib.hid hs2
                          clear hNY hNZ hBX hBY hBZ hs2 hs1
                          go_region_law (first | (refine step_append_ints rfl (.tmp 117) (.tmp 120) rfl wr.heap.size _ [] rfl (by first | exact HEX.out | exact HEY.out | exact HEZ.out) _ _ _ [] rfl (by first | exact HSX.out | exact HSY.out | exact HSZ.out) (by simp <;> omega) (by simp <;> omega) ?_; intro v1 w1 hO1 hg1; have hb1 : Below wr.heap.size wr w1 := (by first | exact below_grownD HBXYZ.out.1 hg1 rfl rfl rfl rfl (by simp <;> omega) (fun k hk => by cases hk; first | exact Nat.le_refl _ | exact Nat.le_succ _) | exact below_grownD HBXYZ.out.2.1 hg1 rfl rfl rfl rfl (by simp <;> omega) (fun k hk => by cases hk; first | exact Nat.le_refl _ | exact Nat.le_succ _) | exact below_grownD HBXYZ.out.2.2 hg1 rfl rfl rfl rfl (by simp <;> omega) (fun k hk => by cases hk; first | exact Nat.le_refl _ | exact Nat.le_succ _)); have hsz1 := hb1.size) | (refine step_append_ints rfl (.tmp 121) (.tmp 123) rfl wr.heap.size _ _ rfl (by first | exact hO1 | exact hO1.alloc _) _ _ _ [N] rfl (by first | exact SlI.one w1 N _ | exact sli_grownD HNY.out hg1 rfl (fun e => Nat.succ_ne_self _ (Option.some.inj e).symm) | exact sli_grownD HNZ.out hg1 rfl (fun e => Nat.succ_ne_self _ (Option.some.inj e))) (by simp <;> omega) (by first | exact hsz1 | (simp <;> omega)) ?_; intro v2 w2 hO2 hg2; have hb2 : Below wr.heap.size wr w2 := (by first | exact below_grownD hb1 hg2 rfl rfl rfl rfl hsz1 (fun k hk => (hO1.lt k hk).1) | exact below_grownD (hb1.alloc hsz1 (.cells #[.int .i64 N] 3)) hg2 rfl rfl rfl rfl (by simp <;> omega) (fun k hk => (hO1.lt k hk).1)); have hsz2 := hb2.size) | (refine step_append_ints rfl (.tmp 124) (.tmp 127) rfl wr.heap.size _ _ rfl hO2 _ _ _ [] rfl (HS2.out.ext hb2) (by simp <;> omega) hsz2 ?_; intro v3 w3 hO3 hg3; have hb3 : Below wr.heap.size wr w3 := below_grownD hb2 hg3 rfl rfl rfl rfl hsz2 (fun k hk => (hO2.lt k hk).1)))
                          all_goals
                            have hb := hB.trans (hb3.mono hbw)
                            rw [show ([] ++ [] ++ [N] ++ [] : List Int) = Puny.ins [] 0 N by simp [Puny.ins]] at hO3
                            have hO4 := hO3.mono hbw
                            have hil := Puny.ins_length [] 0 N hml
                            obtain ⟨a7, c7, rfl, -⟩ := id hO4.sl
                            clear hg1 hg2 hg3 hO1 hO2 hO3 hb1 hb2 hb3 HSX HSY HSZ HEX HEY HEZ HNY HNZ HBXYZ HS2 hsz1 hsz2
                            have hok := HOK4.out
                            rw [if_neg (show ¬ 256 < (([] : List Int).length : Int) + 1 by simp)] at hok
                            have HG4 := Lib.hid hok
                            have ht256 : ¬ (256 : Int) < ((Puny.ins [] 0 N).length : Int) := by omega
                            have hml2 : (0 : Int) + 1 ≤ ((Puny.ins [] 0 N).length : Int) := by omega
                            clear hok HOK4 hil
                            generalize Puny.ins [] 0 N = pts2 at *
                            go_wp2_with fail
                            go_roundw
                            case rel => exact ⟨f, a + 1, ⟨pts2, N, (0 : Int) + 1, nb, false⟩, by omega, by omega, by go_num, rfl, by go_num, rfl, rfl, hO4, HG4, by simp, hml2, hN0, hN2, hbd.1, hbd.2, by simp; omega, hb⟩
                            case measure => simp [intOf]; omega
                        · injection hv with hv1 _ hv2
                          subst hv1; subst hv2
                          have hg6 : g6 < wr.heap.size := (hlt6 _ rfl).2
                          by_cases hcm : c6 = m
                          · subst hcm
                            have hs2 : SlI wr (some ⟨g6, 0, none⟩) 0 0 (pts.drop c6) := by
                              rw [List.drop_eq_nil_of_le (by omega)]; exact SlI.zero _ _ _ (by unfold maxLen; omega)
                            have HEX := Lib.hid (OwnI.empty wr (Nat.le_refl wr.heap.size))
                            have HEY := Lib.hid (OwnI.alloc (OwnI.empty wr (Nat.le_refl wr.heap.size)) (.cells #[.int .i64 N] 3))
                            have hz0 : (wr.alloc (.cells #[.int .i64 N] 3)).heap.size = wr.heap.size + 1 := by simp
                            have hez := OwnI.empty (base := wr.heap.size) (wr.alloc (.cells #[.int .i64 N] 3)) (by simp)
                            rw [hz0] at hez
                            have HEZ := Lib.hid hez
                            have hBX : Below wr.heap.size wr (wr.alloc (.cells #[] 3)) := (Below.refl _ _).alloc (Nat.le_refl _) _
                            have hBY : Below wr.heap.size wr ((wr.alloc (.cells #[] 3)).alloc (.cells #[.int .i64 N] 3)) := hBX.alloc (by simp) _
                            have hBZ : Below wr.heap.size wr ((wr.alloc (.cells #[.int .i64 N] 3)).alloc (.cells #[] 3)) := ((Below.refl _ _).alloc (Nat.le_refl _) _).alloc (by simp) _
                            have HSX := Lib.hid (hs1.ext hBX); have HSY := Lib.hid (hs1.ext hBY); have HSZ := Lib.hid (hs1.ext hBZ)
                            have htl : (pts.take c6).length = c6 := by simp; omega
                            clear hez
                            have hNY := SlI.one (wr.alloc (.cells #[] 3)) N 3
                            rw [show (wr.alloc (.cells #[] 3)).heap.size = wr.heap.size + 1 by simp] at hNY
                            have hNZ := (SlI.one wr N 3).ext ((Below.refl _ (wr.alloc (.cells #[.int .i64 N] 3))).alloc (Nat.le_refl _) (.cells #[] 3))
                            have HNY := Lib.hid hNY; have HNZ := Lib.hid hNZ
                            have HBXYZ := Lib.hid (And.intro hBX (And.intro hBY hBZ))
                            have HS2 := Lib.hid hs2
                            clear hNY hNZ hBX hBY hBZ hs2 hs1
                            go_region_law (first | (refine step_append_ints rfl (.tmp 117) (.tmp 120) rfl wr.heap.size _ [] rfl (by first | exact HEX.out | exact HEY.out | exact HEZ.out) _ _ _ (pts.take c6) rfl (by first | exact HSX.out | exact HSY.out | exact HSZ.out) (by simp; omega) (by simp <;> omega) ?_; intro v1 w1 hO1 hg1; have hb1 : Below wr.heap.size wr w1 := (by first | exact below_grownD HBXYZ.out.1 hg1 rfl rfl rfl rfl (by simp <;> omega) (fun k hk => by cases hk; first | exact Nat.le_refl _ | exact Nat.le_succ _) | exact below_grownD HBXYZ.out.2.1 hg1 rfl rfl rfl rfl (by simp <;> omega) (fun k hk => by cases hk; first | exact Nat.le_refl _ | exact Nat.le_succ _) | exact below_grownD HBXYZ.out.2.2 hg1 rfl rfl rfl rfl (by simp <;> omega) (fun k hk => by cases hk; first | exact Nat.le_refl _ | exact Nat.le_succ _)); have hsz1 := hb1.size) | (refine step_append_ints rfl (.tmp 121) (.tmp 123) rfl wr.heap.size _ _ rfl (by first | exact hO1 | exact hO1.alloc _) _ _ _ [N] rfl (by first | exact SlI.one w1 N _ | exact sli_grownD HNY.out hg1 rfl (fun e => Nat.succ_ne_self _ (Option.some.inj e).symm) | exact sli_grownD HNZ.out hg1 rfl (fun e => Nat.succ_ne_self _ (Option.some.inj e))) (by simp; omega) (by first | exact hsz1 | (simp; omega)) ?_; intro v2 w2 hO2 hg2; have hb2 : Below wr.heap.size wr w2 := (by first | exact below_grownD hb1 hg2 rfl rfl rfl rfl hsz1 (fun k hk => (hO1.lt k hk).1) | exact below_grownD (hb1.alloc hsz1 (.cells #[.int .i64 N] 3)) hg2 rfl rfl rfl rfl (by simp; omega) (fun k hk => (hO1.lt k hk).1)); have hsz2 := hb2.size) | (refine step_append_ints rfl (.tmp 124) (.tmp 127) rfl wr.heap.size _ _ rfl hO2 _ _ _ (pts.drop c6) rfl (HS2.out.ext hb2) (by simp; omega) hsz2 ?_; intro v3 w3 hO3 hg3; have hb3 : Below wr.heap.size wr w3 := below_grownD hb2 hg3 rfl rfl rfl rfl hsz2 (fun k hk => (hO2.lt k hk).1)))
                            all_goals
                              have hb := hB.trans (hb3.mono hbw)
                              rw [ins_eq] at hO3
                              have hO4 := hO3.mono hbw
                              have hil := Puny.ins_length pts c6 N hml
                              obtain ⟨a7, c7, rfl, -⟩ := id hO4.sl
                              clear hg1 hg2 hg3 hO1 hO2 hO3 hb1 hb2 hb3 HSX HSY HSZ HEX HEY HEZ HNY HNZ HBXYZ HS2 hsz1 hsz2
                              have hok := HOK4.out
                              by_cases h256 : 256 < (pts.length : Int) + 1
                              · rw [if_pos h256] at hok
                                have HD4 := Lib.hid hok
                                have ht256 : (256 : Int) < ((Puny.ins pts c6 N).length : Int) := by omega
                                clear hok HOK4 hil
                                go_wp2_with fail
                                go_ret2
                                exact pdec_err HD4.out rfl hb
                              · rw [if_neg h256] at hok
                                have HG4 := Lib.hid hok
                                have ht256 : ¬ (256 : Int) < ((Puny.ins pts c6 N).length : Int) := by omega
                                have hml2 : (c6 : Int) + 1 ≤ ((Puny.ins pts c6 N).length : Int) := by omega
                                clear hok HOK4 hil
                                generalize Puny.ins pts c6 N = pts2 at *
                                go_wp2_with fail
                                go_roundw
                                case rel => exact ⟨f, a + 1, ⟨pts2, N, (c6 : Int) + 1, nb, false⟩, by omega, by omega, by go_num, rfl, by go_num, rfl, rfl, hO4, HG4, by simp; omega, hml2, hN0, hN2, hbd.1, hbd.2, by simp; omega, hb⟩
                                case measure => simp [intOf]; omega
                          · have hs2 := hs6.drop hml
                            simp only [Nat.zero_add] at hs2
                            have HEX := Lib.hid (OwnI.empty wr (Nat.le_refl wr.heap.size))
                            have HEY := Lib.hid (OwnI.alloc (OwnI.empty wr (Nat.le_refl wr.heap.size)) (.cells #[.int .i64 N] 3))
                            have hz0 : (wr.alloc (.cells #[.int .i64 N] 3)).heap.size = wr.heap.size + 1 := by simp
                            have hez := OwnI.empty (base := wr.heap.size) (wr.alloc (.cells #[.int .i64 N] 3)) (by simp)
                            rw [hz0] at hez
                            have HEZ := Lib.hid hez
                            have hBX : Below wr.heap.size wr (wr.alloc (.cells #[] 3)) := (Below.refl _ _).alloc (Nat.le_refl _) _
                            have hBY : Below wr.heap.size wr ((wr.alloc (.cells #[] 3)).alloc (.cells #[.int .i64 N] 3)) := hBX.alloc (by simp) _
                            have hBZ : Below wr.heap.size wr ((wr.alloc (.cells #[.int .i64 N] 3)).alloc (.cells #[] 3)) := ((Below.refl _ _).alloc (Nat.le_refl _) _).alloc (by simp) _
                            have HSX := Lib.hid (hs1.ext hBX); have HSY := Lib.hid (hs1.ext hBY); have HSZ := Lib.hid (hs1.ext hBZ)
                            have htl : (pts.take m).length = m := by simp; omega
                            clear hez
                            have hNY := SlI.one (wr.alloc (.cells #[] 3)) N 3
                            rw [show (wr.alloc (.cells #[] 3)).heap.size = wr.heap.size + 1 by simp] at hNY
                            have hNZ := (SlI.one wr N 3).ext ((Below.refl _ (wr.alloc (.cells #[.int .i64 N] 3))).alloc (Nat.le_refl _) (.cells #[] 3))
                            have HNY := Lib.hid hNY; have HNZ := Lib.hid hNZ
                            have HBXYZ := Lib.hid (And.intro hBX (And.intro hBY hBZ))
                            have HS2 := Lib.hid hs2
                            clear hNY hNZ hBX hBY hBZ hs2 hs1
                            go_region_law (first | (refine step_append_ints rfl (.tmp 117) (.tmp 120) rfl wr.heap.size _ [] rfl (by first | exact HEX.out | exact HEY.out | exact HEZ.out) _ _ _ (pts.take m) rfl (by first | exact HSX.out | exact HSY.out | exact HSZ.out) (by simp; omega) (by simp <;> omega) ?_; intro v1 w1 hO1 hg1; have hb1 : Below wr.heap.size wr w1 := (by first | exact below_grownD HBXYZ.out.1 hg1 rfl rfl rfl rfl (by simp <;> omega) (fun k hk => by cases hk; first | exact Nat.le_refl _ | exact Nat.le_succ _) | exact below_grownD HBXYZ.out.2.1 hg1 rfl rfl rfl rfl (by simp <;> omega) (fun k hk => by cases hk; first | exact Nat.le_refl _ | exact Nat.le_succ _) | exact below_grownD HBXYZ.out.2.2 hg1 rfl rfl rfl rfl (by simp <;> omega) (fun k hk => by cases hk; first | exact Nat.le_refl _ | exact Nat.le_succ _)); have hsz1 := hb1.size) | (refine step_append_ints rfl (.tmp 121) (.tmp 123) rfl wr.heap.size _ _ rfl (by first | exact hO1 | exact hO1.alloc _) _ _ _ [N] rfl (by first | exact SlI.one w1 N _ | exact sli_grownD HNY.out hg1 rfl (fun e => Nat.succ_ne_self _ (Option.some.inj e).symm) | exact sli_grownD HNZ.out hg1 rfl (fun e => Nat.succ_ne_self _ (Option.some.inj e))) (by simp; omega) (by first | exact hsz1 | (simp; omega)) ?_; intro v2 w2 hO2 hg2; have hb2 : Below wr.heap.size wr w2 := (by first | exact below_grownD hb1 hg2 rfl rfl rfl rfl hsz1 (fun k hk => (hO1.lt k hk).1) | exact below_grownD (hb1.alloc hsz1 (.cells #[.int .i64 N] 3)) hg2 rfl rfl rfl rfl (by simp; omega) (fun k hk => (hO1.lt k hk).1)); have hsz2 := hb2.size) | (refine step_append_ints rfl (.tmp 124) (.tmp 127) rfl wr.heap.size _ _ rfl hO2 _ _ _ (pts.drop m) rfl (HS2.out.ext hb2) (by simp; omega) hsz2 ?_; intro v3 w3 hO3 hg3; have hb3 : Below wr.heap.size wr w3 := below_grownD hb2 hg3 rfl rfl rfl rfl hsz2 (fun k hk => (hO2.lt k hk).1)))
                            all_goals
                              have hb := hB.trans (hb3.mono hbw)
                              rw [ins_eq] at hO3
                              have hO4 := hO3.mono hbw
                              have hil := Puny.ins_length pts m N hml
                              obtain ⟨a7, c7, rfl, -⟩ := id hO4.sl
                              clear hg1 hg2 hg3 hO1 hO2 hO3 hb1 hb2 hb3 HSX HSY HSZ HEX HEY HEZ HNY HNZ HBXYZ HS2 hsz1 hsz2
                              have hok := HOK4.out
                              by_cases h256 : 256 < (pts.length : Int) + 1
                              · rw [if_pos h256] at hok
                                have HD4 := Lib.hid hok
                                have ht256 : (256 : Int) < ((Puny.ins pts m N).length : Int) := by omega
                                clear hok HOK4 hil
                                go_wp2_with fail
                                go_ret2
                                exact pdec_err HD4.out rfl hb
                              · rw [if_neg h256] at hok
                                have HG4 := Lib.hid hok
                                have ht256 : ¬ (256 : Int) < ((Puny.ins pts m N).length : Int) := by omega
                                have hml2 : (m : Int) + 1 ≤ ((Puny.ins pts m N).length : Int) := by omega
                                clear hok HOK4 hil
                                generalize Puny.ins pts m N = pts2 at *
                                go_wp2_with fail
                                go_roundw
                                case rel => exact ⟨f, a + 1, ⟨pts2, N, (m : Int) + 1, nb, false⟩, by omega, by omega, by go_num, rfl, by go_num, rfl, rfl, hO4, HG4, by simp; omega, hml2, hN0, hN2, hbd.1, hbd.2, by simp; omega, hb⟩
                                case measure => simp [intOf]; omega
                    rw [if_neg ht] at hg
                    have hz2 := Int.mul_le_mul_of_nonneg_left (show 36 - t ≤ 35 by omega) x0
                    have hz3 := Int.mul_nonneg x0 (show 0 ≤ 36 - t by omega)
                    obtain ⟨z, hzz⟩ : ∃ z, z = x * (36 - t) := ⟨_, rfl⟩
                    rw [← hzz] at hg hz2 hz3
                    have hwr3 : IntKind.i64.wrap (x * (36 - t)) = z := by rw [← hzz, IntKind.wrap_i64]; omega
                    clear hzz
                    by_cases ho2 : 1099511627776 < z
                    · rw [if_pos ho2] at hg
                      have HD4 := Lib.hid (HERR.out _ hg)
                      clear hg HERR HOK
                      go_wp2_with fail
                      refine (HVAL.out _).mono ?_; rintro e w2 ⟨rfl, rfl⟩
                      go_wp2_with fail
                      refine (HTH.out _).mono ?_; rintro e w2 ⟨rfl, rfl⟩
                      go_wp2_with fail
                      go_ret2
                      exact pdec_err HD4.out rfl hB
                    · rw [if_neg ho2] at hg
                      have HG4 := Lib.hid hg
                      clear hg
                      go_wp2_with fail
                      refine (HVAL.out _).mono ?_; rintro e w2 ⟨rfl, rfl⟩
                      go_wp2_with fail
                      refine (HTH.out _).mono ?_; rintro e w2 ⟨rfl, rfl⟩
                      go_wp2_with fail
                      go_round
                      case rel => exact ⟨a + 1, k + 1, z, J, by omega, by omega, by omega, by go_num, rfl, rfl, by go_num, hz3, by omega, J0, by omega, HG4⟩
                      case measure => simp [intOf]; omega
                  · obtain rfl : a = l.length := by omega
                    have hg := HN.out
                    rw [List.drop_length, Puny.decNum] at hg
                    have HD4 := Lib.hid (HERR.out _ hg)
                    clear hg HERR HOK
                    go_wp2_with fail
                    go_ret2
                    exact pdec_err HD4.out rfl hB
              · obtain rfl : at' = l.length := by omega
                have hg := HG.out
                rw [List.drop_length, Puny.decGo, if_pos rfl] at hg
                have HD4 := Lib.hid hg
                clear hg HG
                go_wp2_with fail
                go_ret2
                exact pdec_ok HD4.out rfl hO hB

end Go.Proofs.YtjfflnnepndlkaaDoor
