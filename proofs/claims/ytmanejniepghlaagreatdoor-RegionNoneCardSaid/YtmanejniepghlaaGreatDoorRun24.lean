/-
  Texts in one: PunyDecode, StepInts.
-/
import Derived.Test.YtmanejniepghlaaGreatDoorRun23
import Derived.Lib.LastIndexByte
/-
  The walk through punycode.Decode.
-/
namespace Go.Proofs.YtmanejniepghlaaGreatDoor
open Go.RowKit

theorem str_at (l : List UInt8) (j : Nat) (h : j < l.length) : (str l).data[j]! = l[j] := by
  simp [str, h]
theorem last_cut (l : List UInt8) : (Lib.lastIndexByte (str l) 45 = -1 ∧ Puny.cut l = 0) ∨ (Lib.lastIndexByte (str l) 45 = (Puny.cut l : Int) ∧ Puny.cut l < l.length) := by
  have h45 : ∀ b : UInt8, ((b.toNat : Int) = 45) ↔ b = 45 := fun b => ⟨fun h => UInt8.toNat_inj.1 (by simpa using (by omega : b.toNat = 45)), fun h => by subst h; rfl⟩
  unfold Lib.lastIndexByte
  rw [str_size]
  rcases Lib.lastIdx_spec (str l) 45 l.length with ⟨h1, h2⟩ | ⟨i, hi, h1, h2, h3⟩
  · left
    refine ⟨h1, Puny.cut_none l fun x hx => ?_⟩
    obtain ⟨j, hj, rfl⟩ := List.mem_iff_getElem.1 hx
    have := h2 j hj
    rw [str_at _ _ hj] at this
    exact fun e => this ((h45 _).2 e)
  · right
    rw [str_at _ _ hi] at h2
    have hl : l = l.take i ++ 45 :: l.drop (i + 1) := by
      rw [← (h45 _).1 h2, List.getElem_cons_drop, List.take_append_drop]
    have hc : Puny.cut l = i := by
      have := Puny.cut_front (l.take i) (l.drop (i + 1)) (fun x hx => by
        obtain ⟨j, hj, rfl⟩ := List.mem_iff_getElem.1 hx
        rw [List.getElem_drop]
        simp at hj
        have := h3 (i + 1 + j) (by omega) (by omega)
        rw [str_at _ _ (by omega)] at this
        exact fun e => this ((h45 _).2 e))
      rw [← hl] at this
      rw [this]; simp; omega
    rw [hc]
    exact ⟨h1, hi⟩

theorem Puny.decStep_bd (l : List UInt8) (s : Puny.D) (r : List UInt8) (s' : Puny.D) (h : Puny.decStep l s = .ok (r, s')) (h0 : 0 ≤ s.i) (_h1 : s.i ≤ s.pts.length) (_n0 : 0 ≤ s.n) :
    r.length < l.length ∧ 0 ≤ s'.i ∧ s'.i ≤ s'.pts.length ∧ 0 ≤ s'.n ∧ s'.n ≤ 1114111 ∧ 0 ≤ s'.bias ∧ s'.bias ≤ 1000 ∧ s'.pts.length ≤ 256 := by
  unfold Puny.decStep at h
  cases hd : Puny.decNum l s.i 1 0 s.bias with
  | error e => rw [hd] at h; cases h
  | ok x =>
    obtain ⟨r1, j⟩ := x
    obtain ⟨j0, j1, hr⟩ := Puny.decNum_bd _ _ _ _ _ _ _ h0 (by omega) hd
    rw [hd] at h
    simp only at h
    by_cases hp : Puny.point (s.n + j / ((s.pts.length : Int) + 1)) = false
    · rw [if_pos hp] at h; cases h
    rw [if_neg hp] at h
    by_cases hl : 256 < ((s.pts.length : Int) + 1)
    · rw [if_pos hl] at h; cases h
    rw [if_neg hl] at h
    have hp2 := (Puny.point_iff _).1 (by simpa using hp)
    have hm0 : 0 ≤ j % ((s.pts.length : Int) + 1) := Int.emod_nonneg _ (by omega)
    have hm1 : j % ((s.pts.length : Int) + 1) < ((s.pts.length : Int) + 1) := Int.emod_lt_of_pos _ (by omega)
    have hil : (Puny.ins s.pts (j % ((s.pts.length : Int) + 1)).toNat (s.n + j / ((s.pts.length : Int) + 1))).length = s.pts.length + 1 := Puny.ins_length _ _ _ (by omega)
    have hbd := Puny.adapt_bd (j - s.i) ((s.pts.length : Int) + 1) s.first (by omega) (by omega) (by omega)
    cases h
    refine ⟨hr, ?_, ?_, hp2.1, hp2.2.1, hbd.1, hbd.2, ?_⟩
    · simp only; omega
    · simp only [hil]; omega
    · simp only [hil]; omega

theorem step_append_int {w : World} {ops : Array Oper} {o : Oper} {a : Act} {K : Act → World → Prop} {Q : Exit → Act → World → Prop} {E : Prop} (hgd : o.guard = none) (s x : Operand)
    (ho : o.op = .call { callee := .builtin .append, args := #[s, x], argTypes := #[81, 81] })
    (base : Nat) (v : Value) (l : List Int) (hs : a.eval s = v) (hown : OwnI base w v l) (z : Int) (vb c : Nat) (hx : a.eval x = .slice (some ⟨vb, 0, none⟩) 1 c) (hc : w.cell? ⟨vb, 0, none⟩ = some (iv z))
    (hl : l.length ≤ 1000000) (hb : base ≤ w.heap.size)
    (h : ∀ g cap w', OwnI base w' (.slice (some ⟨g, 0, none⟩) (l.length + 1) cap) (l ++ [z]) → w.grownBy w' v.ownBlock → K (a.put o.dst (.slice (some ⟨g, 0, none⟩) (l.length + 1) cap)) w') :
    if Region.wanted o (yielded ops a.tmps) = true then Oper.wp Tryz.prog o a w K Q else E := by
  obtain ⟨i0, hi, hz0, hz1, hz2⟩ := info_parts infoInt
  refine step_append_lies w hgd s x 81 ho base 3 i0 (.int .i64 0) 1 8 Tryz.underlying81 hi hz0 hz1 hz2 rfl (by decide) v l.length _ hs hown ⟨vb, 0, none⟩ 1 c [iv z] hx rfl ?_ ?_ (by omega) (by unfold maxLen; omega) (by omega) hb _ rfl ?_
  · intro j u hj
    cases j with
    | zero => cases hj; exact hc
    | succ j => simp at hj
  · intro u hu; simp at hu; subst hu; rfl
  · intro g cap w' h1 h2 _ _
    refine h g cap w' ?_ h2
    unfold OwnI
    rw [List.length_append, List.map_append]; exact h1

/-- What Decode does. -/
def PDecPost (l : List UInt8) (w : World) (e : Ending) (w' : World) : Prop :=
  ∃ v, e = .returned (.tuple #[v, .int .i64 (Puny.dec l).2]) ∧ OwnI w.heap.size w' v (Puny.dec l).1 ∧ Below w.heap.size w w'
theorem pdec_err {l : List UInt8} {er : Int} (hd : Puny.decode l = .error er) {w : World} {e : Ending} {w' : World} (he : e = .returned (.tuple #[.slice none 0 0, .int .i64 er])) (hb : Below w.heap.size w w') : PDecPost l w e w' := by
  unfold PDecPost Puny.dec; rw [hd]; exact ⟨_, he, OwnI.nil _ _, hb⟩
theorem pdec_ok {l : List UInt8} {p : List Int} (hd : Puny.decode l = .ok p) {w : World} {e : Ending} {w' : World} {v : Value} (he : e = .returned (.tuple #[v, .int .i64 0])) (ho : OwnI w.heap.size w' v p) (hb : Below w.heap.size w w') : PDecPost l w e w' := by
  unfold PDecPost Puny.dec; rw [hd]; exact ⟨_, he, ho, hb⟩

/-- The loop that takes the basic code points. -/
def PCopyRel (l : List UInt8) (W0 : World) (C : Nat) (i : Value) (w2 : World) : Prop := ∃ (k : Nat) (L : List Int) (v : Value), k ≤ C ∧ i = .int .i64 k ∧ Hid (L.length = k) ∧ Hid (L = (l.take k).map fun b => (b.toNat : Int)) ∧ DBox w2 W0.heap.size l v 128 0 72 false ∧ OwnI W0.heap.size w2 v L ∧ Below W0.heap.size W0 w2

set_option maxHeartbeats 4000000 in
set_option maxRecDepth 100000 in
theorem pn_decode (l : List UInt8) (w : World) (hl : l.length ≤ 1000000) : Calls Tryz.prog 239 #[.string (str l)] w (PDecPost l w) := by
  have hsz := str_size l
  by_cases hn : 1024 < l.length
  · have hd : Puny.decode l = .error 3 := by unfold Puny.decode; rw [if_pos hn]
    have HD := Lib.hid hd
    have ht : (1024 : Int) < (l.length : Int) := by omega
    clear hd hn
    go_enter Tryz.func239, Tryz.ntmps239
    go_wp2_with fail
    go_ret2
    exact pdec_err HD.out rfl (Below.refl _ _)
  have ht : ¬ (1024 : Int) < (l.length : Int) := by omega
  have hde : ¬ (∀ b ∈ l, b.toNat < 128) → Puny.decode l = .error 4 := by
    intro h; unfold Puny.decode; rw [if_neg hn, if_pos (by rw [Bool.eq_false_iff, ne_eq, List.all_eq_true]; simpa using h)]
  have hdo : (∀ b ∈ l, b.toNat < 128) → Puny.decode l = if 256 < Puny.cut l then .error 3 else Puny.decGo (l.length + 1) (if Puny.cut l = 0 then l else l.drop (Puny.cut l + 1)) ⟨(l.take (Puny.cut l)).map fun b => (b.toNat : Int), 128, 0, 72, true⟩ := by
    intro h; unfold Puny.decode; rw [if_neg hn, if_neg (by rw [Bool.not_eq_false, List.all_eq_true]; simpa using h)]
  have HDE := Lib.hid hde; have HDO := Lib.hid hdo
  have hget : ∀ k (h : k < l.length) h', (str l)[k]'h' = l[k] := fun k h h' => str_get _ _ _
  have HGET := Lib.hid hget
  have HLC := Lib.hid (last_cut l)
  have HFR := Lib.hid (str_from l)
  clear hde hdo hget
  obtain ⟨sv, hsv⟩ : ∃ sv, sv = str l := ⟨_, rfl⟩
  rw [← hsv] at hsz ⊢
  have HSV := Lib.hid hsv
  clear hsv
  go_enter Tryz.func239, Tryz.ntmps239
  go_wp2_with fail
  go_loopw [14] (fun i wr => ∃ k : Nat, k ≤ l.length ∧ i = .int .i64 k ∧ Hid (∀ b ∈ l.take k, b.toNat < 128) ∧ wr = w) (fun i _ => l.length - (intOf i).toNat)
  case atStart => exact ⟨0, Nat.zero_le _, rfl, Lib.hid (by simp), rfl⟩
  case round =>
    obtain ⟨k, hk, rfl, HP, rfl⟩ := hrel
    by_cases hlt : k < l.length
    · have b0 : (0 : Int) ≤ (k : Int) := by omega
      have b1 : (k : Int) < (l.length : Int) := by omega
      have htk := List.take_succ_eq_append_getElem hlt
      have hmem : l[k] ∈ l := List.getElem_mem hlt
      have hg : ∀ h' : k < sv.size, sv[k] = l[k] := by have := HSV.out; subst this; exact HGET.out k hlt
      generalize l[k] = b at *
      by_cases h128 : 128 ≤ b.toNat
      · have HD := Lib.hid (HDE.out (fun h => by have := h b hmem; omega))
        have hb2 : (128 : Int) ≤ (b.toNat : Int) := by omega
        clear htk hmem
        go_wp2_with fail
        go_ret2
        exact pdec_err HD.out rfl (Below.refl _ _)
      · have hb2 : ¬ (128 : Int) ≤ (b.toNat : Int) := by omega
        have HN := Lib.hid (show ∀ x ∈ l.take (k + 1), x.toNat < 128 by
          rw [htk]; intro x hx
          rcases List.mem_append.1 hx with hx | hx
          · exact HP.out x hx
          · simp at hx; subst hx; omega)
        clear htk hmem
        go_wp2_with fail
        go_roundw
        case rel => exact ⟨k + 1, by omega, by go_num, HN, by first | rfl | trivial⟩
        case measure => simp [intOf]; omega
    · obtain rfl : k = l.length := by omega
      obtain ⟨W0, rfl⟩ : ∃ W0, W0 = wr := ⟨_, rfl⟩
      have HD := Lib.hid (HDO.out (fun b hb => HP.out b (by rw [List.take_of_length_le (Nat.le_refl _)]; exact hb)))
      have hli := fun W => sh_lastIndexByte sv 45 (by rw [hsz]; omega) W
      rw [HSV.out] at hli
      obtain ⟨K, hK⟩ : ∃ K, K = Lib.lastIndexByte (str l) 45 := ⟨_, rfl⟩
      rw [← hK, ← HSV.out] at hli
      have hlc := HLC.out
      rw [← hK] at hlc
      have HLI := Lib.hid hli
      have HLC2 := Lib.hid hlc
      clear hli hlc hK HDE HDO HLC HP
      go_wp2_with fail
      refine (HLI.out _).mono ?_; rintro e w1 ⟨rfl, rfl⟩
      have hD : DBox (W0.alloc (.cells #[.string sv, .slice none 0 0, .int .i64 128, .int .i64 0, .int .i64 72, .bool false] 263)) W0.heap.size l (.slice none 0 0) 128 0 72 false := by
        rw [HSV.out]; exact heap_alloc_eq _ _ _ rfl
      have hB : Below W0.heap.size W0 (W0.alloc (.cells #[.string sv, .slice none 0 0, .int .i64 128, .int .i64 0, .int .i64 72, .bool false] 263)) := (Below.refl _ _).alloc (Nat.le_refl _) _
      have hO : OwnI W0.heap.size (W0.alloc (.cells #[.string sv, .slice none 0 0, .int .i64 128, .int .i64 0, .int .i64 72, .bool false] 263)) (.slice none 0 0) [] := OwnI.nil _ _
      generalize (W0.alloc (.cells #[.string sv, .slice none 0 0, .int .i64 128, .int .i64 0, .int .i64 72, .bool false] 263)) = w1 at *
      by_cases hc0 : Puny.cut l = 0
      · have hd := HD.out
        rw [hc0, if_neg (by omega), if_pos rfl] at hd
        have hK0 : ¬ (0 : Int) < K := by rcases HLC2.out with ⟨h, _⟩ | ⟨h, _⟩ <;> omega
        obtain ⟨pts, hp⟩ : ∃ pts : List Int, pts = [] := ⟨_, rfl⟩
        have hv : Value.slice none 0 0 = .slice none pts.length 0 := by rw [hp]; rfl
        have hpl : ([] : List UInt8) = l.take 0 := by simp
        have hq : (l.take 0).map (fun b => (b.toNat : Int)) = pts := by rw [hp]; simp
        rw [hq] at hd
        have hlim0 : pts.length = 0 := by rw [hp]; rfl
        have HD2 := Lib.hid (show Puny.decode l = if 256 < pts.length then .error 3 else Puny.decGo (l.length + 1) l ⟨pts, 128, 0, 72, true⟩ by rw [hlim0, if_neg (by omega)]; exact hd)
        rw [hv] at hD hO
        rw [← hp] at hO
        have hpl2 : pts.length ≤ 1024 := by omega
        obtain ⟨rest, hrest⟩ : ∃ rest, rest = l := ⟨_, rfl⟩
        rw [← hrest] at hD
        rw [show Puny.decGo (l.length + 1) l = Puny.decGo (l.length + 1) rest by rw [hrest]] at HD2
        have hrl : rest.length ≤ l.length := by rw [hrest]; exact Nat.le_refl _
        clear hd hc0 hv hp hq hlim0 hpl hrest HD HLC2
        obtain ⟨am, cm, hva, -⟩ := hO.sl
        obtain ⟨c0, c1, -, -, -, -⟩ := hD.cells
        have hgw := heap_lt hD
        by_cases hlim : 256 < pts.length
        · have HD3 := Lib.hid (show Puny.decode l = .error 3 by rw [HD2.out, if_pos hlim])
          have ht2 : (256 : Int) < (pts.length : Int) := by omega
          clear HD2
          go_wp2_with fail
          go_ret2
          exact pdec_err HD3.out rfl hB
        have HD3 := Lib.hid (HD2.out.trans (if_neg hlim))
        have ht2 : ¬ (256 : Int) < (pts.length : Int) := by omega
        clear HD2 hva
        go_wp2_with fail
        go_loopw [8] (fun u w2 => ∃ (f : Nat) (r : List UInt8) (s : Puny.D) (v : Value), r.length < f ∧ r.length ≤ l.length ∧ DBox w2 W0.heap.size r v s.n s.i s.bias (!s.first) ∧ OwnI W0.heap.size w2 v s.pts ∧ Hid (Puny.decode l = Puny.decGo f r s) ∧ 0 ≤ s.i ∧ s.i ≤ s.pts.length ∧ 0 ≤ s.n ∧ s.n ≤ 1114111 ∧ 0 ≤ s.bias ∧ s.bias ≤ 1000 ∧ s.pts.length ≤ 256 ∧ Below W0.heap.size W0 w2) (fun _ w2 => match w2.cell? ⟨W0.heap.size, 0, none⟩ with | some (.string s) => s.size | _ => 0)
        case atStart => exact ⟨l.length + 1, rest, ⟨pts, 128, 0, 72, true⟩, _, by omega, hrl, hD, hO, HD3, by simp, by simp, by simp, by simp, by simp, by simp, by simp only; omega, hB⟩
        case round =>
          obtain ⟨f, r, s, v, hrf, hrl2, hDr, hOr, HG, i0, i1, n0, n1, b0, b1, pl, hBr⟩ := hrel
          obtain ⟨d0, d1, -, -, -, -⟩ := hDr.cells
          have hbs := hBr.size
          obtain ⟨f, rfl⟩ : ∃ g, f = g + 1 := ⟨f - 1, by omega⟩
          have hg := HG.out
          rw [Puny.decGo] at hg
          cases r with
          | nil =>
            rw [if_pos rfl] at hg
            have HD4 := Lib.hid hg
            have hto : (str []).toList.isEmpty = true := by simp
            obtain ⟨av, cv, hvv, -⟩ := hOr.sl
            subst hvv
            generalize str [] = sv2 at *
            clear hg
            go_wp2
            go_ret2
            exact pdec_ok HD4.out rfl hOr hBr
          | cons b r =>
            rw [if_neg (by simp)] at hg
            have hto : (str (b :: r)).toList.isEmpty = false := by simp
            have hstep := fun W h h' h'' => pn_step W0.heap.size W0.heap.size (b :: r) s v W h h' (Nat.le_refl _) h'' i0 i1 n0 n1 b0 b1 pl (by omega)
            have HSTEP := Lib.hid hstep
            have HG2 := Lib.hid hg
            have hms : (str (b :: r)).size = r.length + 1 := by simp
            have HMS := Lib.hid (And.intro d0 hms)
            generalize str (b :: r) = sv2 at *
            clear hg hstep hms
            go_wp2_with fail
            refine (HSTEP.out _ hDr hOr hbs).mono ?_; rintro e w3 ⟨hb3, ⟨er, her, hd, rfl⟩ | ⟨r', s', v', hd, rfl, hD3, hO3⟩⟩
            · have hg := HG2.out
              rw [hd] at hg
              have HD4 := Lib.hid hg
              have hB3 := hBr.trans hb3
              clear hg hd
              go_wp2
              go_ret2
              exact pdec_err HD4.out rfl hB3
            · have hg := HG2.out
              rw [hd] at hg
              have HD4 := Lib.hid hg
              have hB3 := hBr.trans hb3
              obtain ⟨q0, q1, q2, q3, q4, q5, q6, q7⟩ := Puny.decStep_bd _ _ _ _ hd i0 i1 n0
              simp only [List.length_cons] at q0 hrf hrl2
              clear hg hd
              go_wp2
              go_roundw
              case rel => exact ⟨f, r', s', v', by omega, by omega, hD3, hO3, HD4, q1, q2, q3, q4, q5, q6, q7, hB3⟩
              case measure =>
                rw [hD3.cells.1, HMS.out.1]; simp only [str_size]; rw [HMS.out.2]; omega
      · obtain ⟨C, hC⟩ : ∃ C, C = Puny.cut l := ⟨_, rfl⟩
        obtain ⟨rfl, hCl⟩ : K = (C : Int) ∧ C < l.length := by
          rcases HLC2.out with ⟨h, h'⟩ | ⟨h, h'⟩
          · exact absurd h' hc0
          · rw [hC]; exact ⟨h, h'⟩
        have hd := HD.out
        rw [if_neg hc0, ← hC] at hd
        have hK0 : (0 : Int) < (C : Int) := by omega
        have HD2 := Lib.hid hd
        clear hd hc0 hC HD HLC2
        go_wp2_with fail
        have hC0 : 0 < C := by omega
        rw [show decide (0 < C) = true from decide_eq_true hC0]
        go_loopw [30] (fun i w2 => PCopyRel l W0 C i w2) (fun i _ => C - (intOf i).toNat)
        case atStart => exact ⟨0, [], .slice none 0 0, Nat.zero_le _, rfl, Lib.hid rfl, Lib.hid (by simp), hD, hO, hB⟩
        case round =>
          obtain ⟨k, L, v, hk2, rfl, HLK, HL, hDr, hOr, hBr⟩ := hrel
          by_cases hlt2 : k < C
          · have b0 : (0 : Int) ≤ (k : Int) := by omega
            have b1 : (k : Int) < (C : Int) := by omega
            have b2 : (k : Int) < (l.length : Int) := by omega
            have hkl : k < l.length := by omega
            have HTK := Lib.hid (List.take_succ_eq_append_getElem hkl)
            have hg : ∀ h' : k < sv.size, sv[k] = l[k] := by have := HSV.out; subst this; exact HGET.out k hkl
            generalize l[k] = b at *
            obtain ⟨av, cv, rfl, -⟩ := id hOr.sl
            have hne := hOr.ne_dbox hDr
            obtain ⟨c0, c1, -, -, -, -⟩ := hDr.cells
            have f1 := hDr.free 1
            have hgw := heap_lt hDr
            have hbw := hBr.size
            have hLl : L.length ≤ 1000000 := by have := HLK.out; omega
            have hO4 : OwnI W0.heap.size (wr.alloc (.cells #[.int .i64 (IntKind.i64.wrap (b.toNat : Int))] 3)).drew (.slice av L.length cv) L := hOr.alloc _
            have hD4 : DBox (wr.alloc (.cells #[.int .i64 (IntKind.i64.wrap (b.toNat : Int))] 3)).drew W0.heap.size l (Value.slice av L.length cv) 128 0 72 false := hDr.allocd _
            have hB4 : Below W0.heap.size W0 (wr.alloc (.cells #[.int .i64 (IntKind.i64.wrap (b.toNat : Int))] 3)).drew := (hBr.alloc hbw _).drew
            have hc4 : (wr.alloc (.cells #[.int .i64 (IntKind.i64.wrap (b.toNat : Int))] 3)).drew.cell? ⟨wr.heap.size, 0, none⟩ = some (iv (IntKind.i64.wrap (b.toNat : Int))) := by
              show (wr.alloc _).cell? _ = _
              rw [World.cell?_alloc_at _ _ _ _ rfl]; rfl
            have HO4 := Lib.hid hO4; have HD4 := Lib.hid hD4; have HB4 := Lib.hid hB4; have HC4 := Lib.hid hc4
            clear hDr hOr hO4 hD4 hB4 hc4
            go_wp2_with fail
            go_region_law (refine step_append_int rfl (.tmp 37) (.tmp 42) rfl W0.heap.size (.slice av L.length cv) L (by simp [Act.eval]) HO4.out (IntKind.i64.wrap (b.toNat : Int)) wr.heap.size 1 (by simp [Act.eval]) HC4.out hLl (by simp; omega) ?_; intro g5 k5 w5 hO5 hg5; have hD5 := DBox.grown HD4.out hg5 hne; have c51 := hD5.cells.2.1; have f51 := hD5.free 1)
            all_goals (
              have hwb : IntKind.i64.wrap (b.toNat : Int) = (b.toNat : Int) := by rw [IntKind.wrap_i64]; have := b.toNat_lt; omega
              rw [hwb] at hO5
              have hB5 := HB4.out.grown hg5 (by simp; omega) (fun k hk => (HO4.out.lt k hk).1)
              clear c51 f51 HO4 HC4 HD4 HB4 hg5
              have hl5 : L.length + 1 = (L ++ [(b.toNat : Int)]).length := by simp
              rw [hl5] at hO5
              have hne5 := hO5.ne_dbox hD5
              have hD6 := hD5.setPts (.slice (some ⟨g5, 0, none⟩) (L ++ [(b.toNat : Int)]).length k5)
              have hO6 := hO5.setBox hne5 1 (.slice (some ⟨g5, 0, none⟩) (L ++ [(b.toNat : Int)]).length k5)
              have hB6 : Below W0.heap.size W0 (w5.setCell ⟨W0.heap.size, 1, none⟩ (.slice (some ⟨g5, 0, none⟩) (L ++ [(b.toNat : Int)]).length k5)) := hB5.setCell (Nat.le_refl _) _
              rw [hl5]
              generalize w5.setCell ⟨W0.heap.size, 1, none⟩ (.slice (some ⟨g5, 0, none⟩) (L ++ [(b.toNat : Int)]).length k5) = w6 at *
              clear hD5 hO5 hB5 hwb hne5
              go_wp2
              go_roundw
              case rel => exact ⟨k + 1, L ++ [(b.toNat : Int)], _, by omega, by go_num, Lib.hid (by simp [HLK.out]), Lib.hid (by rw [HTK.out, HL.out]; simp), hD6, hO6, hB6⟩
              case measure => simp [intOf]; omega)
          · obtain rfl : k = C := by omega
            have hlk := HLK.out
            have hd := HD2.out
            rw [← HL.out, ← hlk] at hd
            obtain ⟨rest, hrest⟩ : ∃ rest, rest = l.drop (L.length + 1) := ⟨_, rfl⟩
            rw [← hrest] at hd
            have HD2' := Lib.hid hd
            have hrl : rest.length ≤ l.length := by rw [hrest]; simp
            have hpl2 : L.length ≤ 1024 := by omega
            have hfr := HFR.out (k + 1) (by omega)
            rw [← HSV.out, hsz, ← hlk, ← hrest] at hfr
            have f0 := hDr.free 0
            have c0' := hDr.cells.1
            have HSR := Lib.hid (hDr.setRest rest)
            have HOR := Lib.hid (hOr.setBox (hOr.ne_dbox hDr) 0 (.string (str rest)))
            have HBR := Lib.hid (show Below W0.heap.size W0 (wr.setCell ⟨W0.heap.size, 0, none⟩ (.string (str rest))) from hBr.setCell (Nat.le_refl _) _)
            obtain ⟨ax, cx, hvx, -⟩ := id hOr.sl
            have c1x := hDr.cells.2.1
            rw [hvx] at c1x
            rw [hlk] at hfr
            clear hD hO hB hd hrest hlk hDr hOr hBr HD2
            have b0 : (0 : Int) ≤ (k : Int) + 1 := by omega
            have b1 : (k : Int) + 1 ≤ (l.length : Int) := by omega
            have b2 : ((k : Int) + 1).toNat = k + 1 := by omega
            obtain ⟨pts, rfl⟩ : ∃ pts, pts = L := ⟨_, rfl⟩
            by_cases hlim : 256 < pts.length
            · have HD3 := Lib.hid (show Puny.decode l = .error 3 by rw [HD2'.out, if_pos hlim])
              have ht2 : (256 : Int) < (pts.length : Int) := by omega
              clear HD2' HSR HOR
              go_wp2_with fail
              go_ret2
              exact pdec_err HD3.out rfl HBR.out
            have HD3 := Lib.hid (HD2'.out.trans (if_neg hlim))
            have ht2 : ¬ (256 : Int) < (pts.length : Int) := by omega
            clear HD2'
            go_wp2_with fail
            obtain ⟨hD, hO, hB⟩ := And.intro HSR.out (And.intro HOR.out HBR.out)
            clear HSR HOR HBR c1x f0 c0'
            generalize (wr.setCell ⟨W0.heap.size, 0, none⟩ (.string (str rest))) = w1 at *
            go_loopw [8] (fun u w2 => ∃ (f : Nat) (r : List UInt8) (s : Puny.D) (v : Value), r.length < f ∧ r.length ≤ l.length ∧ DBox w2 W0.heap.size r v s.n s.i s.bias (!s.first) ∧ OwnI W0.heap.size w2 v s.pts ∧ Hid (Puny.decode l = Puny.decGo f r s) ∧ 0 ≤ s.i ∧ s.i ≤ s.pts.length ∧ 0 ≤ s.n ∧ s.n ≤ 1114111 ∧ 0 ≤ s.bias ∧ s.bias ≤ 1000 ∧ s.pts.length ≤ 256 ∧ Below W0.heap.size W0 w2) (fun _ w2 => match w2.cell? ⟨W0.heap.size, 0, none⟩ with | some (.string s) => s.size | _ => 0)
            case atStart => exact ⟨l.length + 1, rest, ⟨pts, 128, 0, 72, true⟩, _, by omega, hrl, hD, hO, HD3, by simp, by simp, by simp, by simp, by simp, by simp, by simp only; omega, hB⟩
            case round =>
              obtain ⟨f, r, s, v, hrf, hrl2, hDr, hOr, HG, i0, i1, n0, n1, b0, b1, pl, hBr⟩ := hrel
              obtain ⟨d0, d1, -, -, -, -⟩ := hDr.cells
              have hbs := hBr.size
              obtain ⟨f, rfl⟩ : ∃ g, f = g + 1 := ⟨f - 1, by omega⟩
              have hg := HG.out
              rw [Puny.decGo] at hg
              cases r with
              | nil =>
                rw [if_pos rfl] at hg
                have HD4 := Lib.hid hg
                have hto : (str []).toList.isEmpty = true := by simp
                obtain ⟨av, cv, hvv, -⟩ := hOr.sl
                subst hvv
                generalize str [] = sv2 at *
                clear hg
                go_wp2
                go_ret2
                exact pdec_ok HD4.out rfl hOr hBr
              | cons b r =>
                rw [if_neg (by simp)] at hg
                have hto : (str (b :: r)).toList.isEmpty = false := by simp
                have hstep := fun W h h' h'' => pn_step W0.heap.size W0.heap.size (b :: r) s v W h h' (Nat.le_refl _) h'' i0 i1 n0 n1 b0 b1 pl (by omega)
                have HSTEP := Lib.hid hstep
                have HG2 := Lib.hid hg
                have hms : (str (b :: r)).size = r.length + 1 := by simp
                have HMS := Lib.hid (And.intro d0 hms)
                generalize str (b :: r) = sv2 at *
                clear hg hstep hms
                go_wp2_with fail
                refine (HSTEP.out _ hDr hOr hbs).mono ?_; rintro e w3 ⟨hb3, ⟨er, her, hd, rfl⟩ | ⟨r', s', v', hd, rfl, hD3, hO3⟩⟩
                · have hg := HG2.out
                  rw [hd] at hg
                  have HD4 := Lib.hid hg
                  have hB3 := hBr.trans hb3
                  clear hg hd
                  go_wp2
                  go_ret2
                  exact pdec_err HD4.out rfl hB3
                · have hg := HG2.out
                  rw [hd] at hg
                  have HD4 := Lib.hid hg
                  have hB3 := hBr.trans hb3
                  obtain ⟨q0, q1, q2, q3, q4, q5, q6, q7⟩ := Puny.decStep_bd _ _ _ _ hd i0 i1 n0
                  simp only [List.length_cons] at q0 hrf hrl2
                  clear hg hd
                  go_wp2
                  go_roundw
                  case rel => exact ⟨f, r', s', v', by omega, by omega, hD3, hO3, HD4, q1, q2, q3, q4, q5, q6, q7, hB3⟩
                  case measure =>
                    rw [hD3.cells.1, HMS.out.1]; simp only [str_size]; rw [HMS.out.2]; omega


end Go.Proofs.YtmanejniepghlaaGreatDoor

/-
  append of a slice of ints onto an own slice, as one step of a region that draws its order.
-/
namespace Go.Proofs.YtmanejniepghlaaGreatDoor
open Go.RowKit

theorem SlI.grown {w w' : World} {x : Addr} {n c : Nat} {l : List Int} {row : Option Nat} (h : SlI w (some x) n c l) (hg : w.grownBy w' row) (hne : row ≠ some x.block) : SlI w' (some x) n c l := by
  obtain ⟨hl, hn, hc, h0, h1⟩ := h
  refine ⟨hl, hn, hc, h0, fun y hy i hi => ?_⟩
  cases hy
  obtain ⟨hs, hb, hi⟩ := h1 x rfl i hi
  exact ⟨hs, Nat.lt_of_lt_of_le hb hg.size, (World.cell?_of_block (a := ⟨x.block, x.off + i, none⟩) (hg.block _ hb (fun e => hne e.symm))).trans hi⟩

end Go.Proofs.YtmanejniepghlaaGreatDoor
