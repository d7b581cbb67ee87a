/-
  The walk through label.ToASCII.
-/
import Derived.Test.YtngccnikpjoldaaDoorLab3
import Derived.Test.YtngccnikpjoldaaDoorShelfV
import Derived.Lib.OthersKept
namespace Go.Proofs.YtngccnikpjoldaaDoor
open Go.RowKit

theorem OwnI.iterAt {w : World} {B k : Nat} {v : Value} {l : List Int} {s : ByteArray} {pos : Nat} (h : OwnI B w v l) (hk : w.heap[k]? = some (.stringIter s pos)) (pos' : Nat) : OwnI B (w.iterAt k s pos') v l := by
  refine ⟨h.1, ?_⟩
  rcases h.2 with h0 | ⟨g, cap, cur, hv, hb, hg, rest⟩
  · exact .inl h0
  · refine .inr ⟨g, cap, cur, hv, hb, ?_, rest⟩
    rw [Lib.iterAt_other _ _ _ _ _ (fun e => by subst e; rw [hk] at hg; cases hg)]
    exact hg
theorem OwnI.ne_iter {w : World} {B k : Nat} {v : Value} {l : List Int} {s : ByteArray} {pos : Nat} (h : OwnI B w v l) (hk : w.heap[k]? = some (.stringIter s pos)) : v.ownBlock ≠ some k := by
  rcases h.2 with ⟨rfl, _⟩ | ⟨g, cap, cur, rfl, hb, hg, rest⟩
  · simp [Value.ownBlock]
  · intro e
    simp only [Value.ownBlock, Option.some.injEq] at e
    subst e
    rw [hk] at hg
    cases hg

theorem Puny.enc_len (ps : List Int) (hps : ∀ p ∈ ps, Puny.point p = true) (hl : ps.length ≤ 256) : (Puny.encode ps).length ≤ 3000 := by
  obtain ⟨t, s', h1, -, -, -, h2⟩ := Puny.encode_reads ps hps hl
  have h3 := Puny.basics_le ps
  rw [h1, List.length_append]
  unfold Puny.front
  rw [List.length_append]
  have : (if Puny.basics ps = [] then ([] : List UInt8) else [45]).length ≤ 1 := by split <;> simp
  omega

theorem Lab.toA_bad {l : List UInt8} (h : Lib.validD l = false) : Lab.toA l = ([], 4) := by unfold Lab.toA; rw [if_pos h]
theorem Lab.toA_many {l : List UInt8} (h : Lib.validD l = true) (hn : 256 < (Lab.runes l).length) : Lab.toA l = ([], 3) := by unfold Lab.toA; rw [if_neg (by simp [h]), if_pos hn]
theorem Lab.toA_out {l o : List UInt8} (h : Lib.validD l = true) (hn : ¬ 256 < (Lab.runes l).length) (ho : Lab.outA l = o) : Lab.toA l = if Lab.valid o then (o, 0) else ([], 14) := by
  subst ho; unfold Lab.toA; rw [if_neg (by simp [h]), if_neg hn]
theorem str_cat (a b : List UInt8) : str a ++ str b = str (a ++ b) := by
  unfold str; apply ByteArray.ext; simp

/-- The loop over the runes. -/
def RunRel (s : ByteArray) (it : Nat) (ps : List Int) (W0 : World) (v : Value) (wr : World) : Prop := ∃ (pos : Nat) (acc : List Int), pos ≤ s.size ∧ wr.heap[it]? = some (.stringIter s pos) ∧ OwnI W0.heap.size wr v acc ∧
  Hid (ps = acc ++ Lab.runes (s.data.toList.drop pos)) ∧ Below W0.heap.size W0 wr

set_option maxHeartbeats 8000000 in
set_option maxRecDepth 100000 in
theorem lab_toASCII (l : List UInt8) (w : World) (hl : l.length ≤ 1000000) (hT : Tabs w) :
    Calls Tryd.prog 8 #[.string (str l)] w (StrPost (Lab.toA l) w) := by
  have hsz := str_size l
  have hvs := fun W h => sh_validString (str l) W (by rw [hsz]; omega) h
  have hrc := fun W => sh_runeCount (str l) W (by rw [hsz]; omega)
  rw [show (str l).data.toList = l from rfl] at hvs hrc
  have hlw := fun W => lab_lower l W hl
  cases hv : Lib.validD l with
  | false =>
    have HF := Lib.hid (Lab.toA_bad hv)
    rw [hv] at hvs
    have HVS := Lib.hid hvs
    clear hv hvs hrc hlw
    generalize str l = sv at *
    go_enter Tryd.func8, Tryd.ntmps8
    go_wp2_with fail
    refine (HVS.out _ hT).mono ?_; rintro e w1 ⟨rfl, hb1⟩
    go_wp2_with fail
    go_ret2
    exact strPost_of HF.out rfl hb1
  | true =>
    by_cases hn : 256 < (Lab.runes l).length
    · have HF := Lib.hid (Lab.toA_many hv hn)
      rw [hv] at hvs
      have HVS := Lib.hid hvs; have HRC := Lib.hid hrc
      have ht : (256 : Int) < ((Lab.runes l).length : Int) := by omega
      clear hv hvs hrc hlw hn
      generalize str l = sv at *
      generalize (Lab.runes l).length = rn at *
      go_enter Tryd.func8, Tryd.ntmps8
      go_wp2_with fail
      refine (HVS.out _ hT).mono ?_; rintro e w1 ⟨rfl, hb1⟩
      have hsz1 := hb1.size
      go_wp2_with fail
      refine (HRC.out _).mono ?_; rintro e w2 ⟨rfl, hb2⟩
      have hB2 := hb1.trans (hb2.mono hsz1)
      go_wp2_with fail
      go_ret2
      exact strPost_of HF.out rfl hB2
    have hvl := Lab.valid_lower l
    rw [hv] at hvl
    have hpt := Lab.runes_points _ (Lab.lower l) (Nat.le_refl _) hvl
    have hrl : (Lab.runes (Lab.lower l)).length = (Lab.runes l).length := by rw [Lab.runes_lower, List.length_map]
    have hrn : ¬ (256 : Int) < ((Lab.runes l).length : Int) := by omega
    have HTO := Lib.hid (fun o ho => Lab.toA_out (o := o) hv hn ho)
    by_cases hc : (Lab.runes l).length < l.length
    · have ho : Lab.outA l = Lab.pre ++ Puny.encode (Lab.runes (Lab.lower l)) := by unfold Lab.outA; rw [if_pos hc]
      have HF := Lib.hid (HTO.out _ ho)
      have hcz : ((Lab.runes l).length : Int) < (l.length : Int) := by omega
      have henc := fun a n c W h => pn_encode a n c (Lab.runes (Lab.lower l)) W h (fun x hx => by have := (Puny.point_iff _).1 (hpt x hx); omega)
      unfold PEncPost at henc
      rw [Puny.enc_ok' (by omega) hpt] at henc
      have hel := Puny.enc_len _ hpt (by omega)
      have hcs := str_size (Puny.encode (Lab.runes (Lab.lower l)))
      have hval := fun W => lab_valid (Lab.pre ++ Puny.encode (Lab.runes (Lab.lower l))) W (by rw [List.length_append]; simp [Lab.pre]; omega)
      rw [hv] at hvs
      have hlsz := str_size (Lab.lower l)
      have HL0 := Lib.hid (show (str (Lab.lower l)).data.toList = Lab.lower l from rfl)
      have HCAT := Lib.hid (str_cat Lab.pre (Puny.encode (Lab.runes (Lab.lower l))))
      have hrx : (Lab.runes (Lab.lower l)).length ≤ 256 := by omega
      have hdd : decide ((256 : Int) < ((Lab.runes l).length : Int)) = false := by simpa using hrn
      have HVS := Lib.hid hvs; have HRC := Lib.hid hrc; have HLW := Lib.hid hlw; have HENC := Lib.hid henc; have HVAL := Lib.hid hval
      clear hv hvs hrc hlw hn hvl hpt hrl HTO hc ho henc hval
      generalize hps : Lab.runes (Lab.lower l) = ps at *
      have HPS := Lib.hid hps
      generalize str l = sv at *
      obtain ⟨so, hso⟩ : ∃ so, so = str (Lab.lower l) := ⟨_, rfl⟩
      rw [← hso] at hlsz HL0 HLW
      rw [Lab.lower_len] at hlsz
      clear hso hps
      generalize (Lab.runes l).length = rn at *
      generalize Puny.encode ps = cd at *
      go_enter Tryd.func8, Tryd.ntmps8
      go_wp2_with fail
      refine (HVS.out _ hT).mono ?_; rintro e w1 ⟨rfl, hb1⟩
      have hsz1 := hb1.size
      go_wp2_with fail
      refine (HRC.out _).mono ?_; rintro e w2 ⟨rfl, hb2⟩
      have hB2 := hb1.trans (hb2.mono hsz1)
      have hsz2 := hB2.size
      clear hb1 hb2
      go_wp2_with fail
      refine (HLW.out _).mono ?_; rintro e w3 ⟨rfl, hb3⟩
      have hB3 := hB2.trans (hb3.mono hsz2)
      have hsz3 := hB3.size
      clear hB2 hb3
      go_wp2_with fail
      refine (HRC.out _).mono ?_; rintro e w4 ⟨rfl, hb4⟩
      have hB4 := hB3.trans (hb4.mono hsz3)
      have hsz4 := hB4.size
      clear hB3 hb4 HRC HLW HVS
      go_wp2_with fail
      go_loopw [5, 7] (fun v _ wr => RunRel so w4.heap.size ps w4 v wr) (fun _ _ wr => so.size - wr.iterPos w4.heap.size)
      case atStart => exact ⟨0, [], Nat.zero_le _, World.iter_heap w4 so 0, OwnI.nil _ _, Lib.hid (by rw [List.drop_zero, HL0.out, HPS.out]; rfl), (Below.refl _ _).alloc (Nat.le_refl _) _⟩
      case round =>
        obtain ⟨pos, acc, hpos, hit, hO, HACC, hB⟩ := hrel
        have hbw := hB.size
        by_cases hlt : pos < so.size
        · have hnx := fun ty => Lib.run_next_any_at (P := Tryd.prog) wr w4.heap.size so pos ty hit hlt
          have hdl := Lib.decodeL_drop so pos
          have hwd := Lib.width_pos so pos
          have hrle := Lib.rune_le so pos
          have hne : so.data.toList.drop pos ≠ [] := by
            intro h0; have := congrArg List.length h0; rw [List.length_drop, ← Lib.size_eq] at this; simp at this; omega
          have hkl := Lib.decodeL_le _ hne
          have hrs := Lab.runes_step _ hne
          rw [List.length_drop, ← Lib.size_eq] at hkl
          rw [hdl] at hkl hrs
          generalize (Utf8.decode so pos).1 = R at *
          generalize (Utf8.decode so pos).2 = K at *
          have hacc := HACC.out
          rw [hrs, List.drop_drop] at hacc
          have hal : acc.length < 256 := by
            have := congrArg List.length hacc; rw [List.length_append, List.length_cons] at this; omega
          have hpk : pos + K ≤ so.size := by omega
          have HACC2 := Lib.hid (show ps = (acc ++ [(R : Int)]) ++ Lab.runes (so.data.toList.drop (pos + K)) by rw [hacc]; simp)
          have HIT2 := Lib.hid (Lib.iterAt_heap wr w4.heap.size so pos (pos + K) hit)
          have hB2 := Lib.below_iterAt hB (Nat.le_refl w4.heap.size) so (pos + K)
          have hO2 := hO.iterAt hit (pos + K)
          have hlt4 : w4.heap.size < wr.heap.size := (Array.getElem?_eq_some_iff.1 hit).1
          have hws : (wr.iterAt w4.heap.size so (pos + K)).heap.size = wr.heap.size := Lib.iterAt_size _ _ _ _
          have HIP := Lib.hid (show wr.iterPos w4.heap.size = pos by unfold World.iterPos; rw [hit])
          clear hdl hne hkl hrs hacc hO hB hit
          generalize wr.iterAt w4.heap.size so (pos + K) = W at *
          have HONE := Lib.hid (SlI.one W (R : Int) 3)
          have hbw2 := hB2.size
          have HWS := Lib.hid hws
          clear hws
          have hR0 : (0 : Int) ≤ (R : Int) := by omega
          have hR1 : (R : Int) ≤ 1114111 := by omega
          go_wp2_with (at_builtin; go_must (refine wpList_append_ints rfl _ _ rfl w4.heap.size _ _ rfl (hO2.alloc _) _ _ _ [(R : Int)] rfl HONE.out (by omega) (by simp; omega) ?_); intro v5 w5 hO5 hg5)
          have hB5 := (hB2.alloc hbw2 (.cells #[.int .i64 (R : Int)] 3)).grown hg5 (by simp; omega) (fun k hk => (hO2.lt k hk).1)
          have hit5 : w5.heap[w4.heap.size]? = some (.stringIter so (pos + K)) :=
            (hg5.block _ (by simp; rw [HWS.out]; omega) (fun e => hO2.ne_iter HIT2.out e.symm)).trans ((heap_alloc_lt _ _ _ (by rw [HWS.out]; exact hlt4)).trans HIT2.out)
          clear hg5 hO2 hB2
          go_wp2
          go_roundw
          case rel => exact ⟨pos + K, acc ++ [(R : Int)], hpk, hit5, hO5, HACC2, hB5⟩
          case measure => rw [HIP.out]; unfold World.iterPos; rw [hit5]; simp only; omega
        · obtain rfl : pos = so.size := by omega
          have hnx := fun ty => Lib.run_next_end_at (P := Tryd.prog) wr w4.heap.size so so.size ty hit hlt
          have hacc := HACC.out
          rw [List.drop_eq_nil_of_le (by rw [← Lib.size_eq]; exact Nat.le_refl _), Lab.runes_nil, List.append_nil] at hacc
          rw [← hacc] at hO
          obtain ⟨a5, c5, rfl, hs5⟩ := hO.sl
          have hB5 := hB4.trans (hB.mono hsz4)
          have hsz5 := hB5.size
          have hq : (⟨#[120, 110, 45, 45]⟩ : ByteArray) ++ str cd = str (Lab.pre ++ cd) := HCAT.out
          clear hacc HACC hO hit hB HL0 hlsz
          cases hva : Lab.valid (Lab.pre ++ cd) with
          | false =>
            rw [hva] at HVAL HF
            clear hva
            go_wp2_with fail
            refine (HENC.out _ _ _ _ hs5).mono ?_; rintro e w6 ⟨rfl, hb6⟩
            have hB6 := hB5.trans (hb6.mono hsz5)
            have hsz6 := hB6.size
            simp only
            go_wp2_with fail
            refine (HVAL.out _).mono ?_; rintro e w7 ⟨rfl, hb7⟩
            have hB7 := hB6.trans (hb7.mono hsz6)
            go_wp2_with fail
            go_ret2
            exact strPost_of HF.out rfl hB7
          | true =>
            rw [hva] at HVAL HF
            clear hva
            go_wp2_with fail
            refine (HENC.out _ _ _ _ hs5).mono ?_; rintro e w6 ⟨rfl, hb6⟩
            have hB6 := hB5.trans (hb6.mono hsz5)
            have hsz6 := hB6.size
            simp only
            go_wp2_with fail
            refine (HVAL.out _).mono ?_; rintro e w7 ⟨rfl, hb7⟩
            have hB7 := hB6.trans (hb7.mono hsz6)
            go_wp2_with fail
            go_ret2
            exact strPost_of HF.out rfl hB7
    · have ho : Lab.outA l = Lab.lower l := by unfold Lab.outA; rw [if_neg hc]
      have HF := Lib.hid (HTO.out _ ho)
      have hcz : ¬ ((Lab.runes l).length : Int) < (l.length : Int) := by omega
      have hval := fun W => lab_valid (Lab.lower l) W (by rw [Lab.lower_len]; omega)
      rw [hv] at hvs
      have HVS := Lib.hid hvs; have HRC := Lib.hid hrc; have HLW := Lib.hid hlw
      clear hv hvs hrc hlw hn hvl hpt hrl HTO hc ho
      generalize str l = sv at *
      generalize (Lab.runes l).length = rn at *
      cases hva : Lab.valid (Lab.lower l) with
      | false =>
        rw [hva] at hval HF
        have HVAL := Lib.hid hval
        clear hva hval
        generalize str (Lab.lower l) = so at *
        go_enter Tryd.func8, Tryd.ntmps8
        go_wp2_with fail
        refine (HVS.out _ hT).mono ?_; rintro e w1 ⟨rfl, hb1⟩
        have hsz1 := hb1.size
        go_wp2_with fail
        refine (HRC.out _).mono ?_; rintro e w2 ⟨rfl, hb2⟩
        have hB2 := hb1.trans (hb2.mono hsz1)
        have hsz2 := hB2.size
        go_wp2_with fail
        refine (HLW.out _).mono ?_; rintro e w3 ⟨rfl, hb3⟩
        have hB3 := hB2.trans (hb3.mono hsz2)
        have hsz3 := hB3.size
        go_wp2_with fail
        refine (HRC.out _).mono ?_; rintro e w4 ⟨rfl, hb4⟩
        have hB4 := hB3.trans (hb4.mono hsz3)
        have hsz4 := hB4.size
        go_wp2_with fail
        refine (HVAL.out _).mono ?_; rintro e w5 ⟨rfl, hb5⟩
        have hB5 := hB4.trans (hb5.mono hsz4)
        go_wp2_with fail
        go_ret2
        exact strPost_of HF.out rfl hB5
      | true =>
        rw [hva] at hval HF
        have HVAL := Lib.hid hval
        clear hva hval
        go_enter Tryd.func8, Tryd.ntmps8
        go_wp2_with fail
        refine (HVS.out _ hT).mono ?_; rintro e w1 ⟨rfl, hb1⟩
        have hsz1 := hb1.size
        go_wp2_with fail
        refine (HRC.out _).mono ?_; rintro e w2 ⟨rfl, hb2⟩
        have hB2 := hb1.trans (hb2.mono hsz1)
        have hsz2 := hB2.size
        go_wp2_with fail
        refine (HLW.out _).mono ?_; rintro e w3 ⟨rfl, hb3⟩
        have hB3 := hB2.trans (hb3.mono hsz2)
        have hsz3 := hB3.size
        go_wp2_with fail
        refine (HRC.out _).mono ?_; rintro e w4 ⟨rfl, hb4⟩
        have hB4 := hB3.trans (hb4.mono hsz3)
        have hsz4 := hB4.size
        go_wp2_with fail
        refine (HVAL.out _).mono ?_; rintro e w5 ⟨rfl, hb5⟩
        have hB5 := hB4.trans (hb5.mono hsz4)
        go_wp2_with fail
        go_ret2
        exact strPost_of HF.out rfl hB5

end Go.Proofs.YtngccnikpjoldaaDoor
