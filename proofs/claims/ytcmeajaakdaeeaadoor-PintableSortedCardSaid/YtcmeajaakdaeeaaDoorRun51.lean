/-
  The walk of PintableSorted.
-/
import Derived.Test.YtcmeajaakdaeeaaDoorRun44
import Derived.Test.YtcmeajaakdaeeaaDoorRun48
import Derived.Test.YtcmeajaakdaeeaaDoorRun49
import Derived.Test.YtcmeajaakdaeeaaDoorRun50
namespace Go.Proofs.YtcmeajaakdaeeaaDoor
open Go.RowKit Go.Shelf

attribute [local go_sem] Oper.semAt_some

theorem Tab.put_sub (L : List Pin) (cap : Int) (p q : Pin) (hq : q ∈ (Tab.put L cap p).1) : q = p ∨ q ∈ L := by
  unfold Tab.put at hq
  split at hq
  · exact .inr hq
  · split at hq
    · exact (List.mem_or_eq_of_mem_set hq).symm
    · split at hq
      · exact .inr hq
      · rcases List.mem_append.1 hq with m | m
        · exact .inr (List.mem_of_mem_take m)
        · rcases List.mem_cons.1 m with m | m
          · exact .inl m
          · exact .inr (List.mem_of_mem_drop m)

theorem cellsN_ne {W : World} {b l : Nat} {cs : Array Value} {t : TypeId} {fr : Nat × Nat} {o : Obj} (h : W.heap[b]? = some (.cells cs t fr)) (hl : W.heap[l]? = some o) (ho : o.isCells = false) : b ≠ l := by
  rintro rfl; rw [h] at hl; cases hl; simp [Obj.isCells] at ho
theorem OwnN.put {base : Nat} {W : World} {v : Value} {L : List Pin} (h : OwnN base W v L) {l : Nat} {o o' : Obj} (hl : W.heap[l]? = some o) (hc : o.isCells = false) : OwnN base (W.putObj l o') v L := by
  refine ⟨h.1, ?_⟩
  rcases h.2 with hn | ⟨g, cap, cur, rfl, hb, hgg, rest⟩
  · exact .inl hn
  · exact .inr ⟨g, cap, cur, rfl, hb, (World.putObj_heap_other (cellsN_ne hgg hl hc)).trans hgg, rest⟩
theorem TabW.put {B : Nat} {W : World} {g : Nat} {v : Value} {L : List Pin} {cap : Int} (h : TabW B W g v L cap) {l : Nat} {o o' : Obj} (hl : W.heap[l]? = some o) (hc : o.isCells = false) : TabW B (W.putObj l o') g v L cap :=
  ⟨(World.putObj_heap_other (cellsN_ne h.1 hl hc)).trans h.1, h.2.1.put hl hc, h.2.2⟩

/-- A table whose pins are in order and not more than the capacity. -/
def TabG (B : Nat) (W : World) (g : Nat) (cap : Int) : Prop := ∃ L v, TabW B W g v L cap ∧ Tab.Asc L ∧ (L.length : Int) ≤ cap ∧ ∀ q ∈ L, q.h.length ≤ 1000000
theorem TabG.put {B : Nat} {W : World} {g : Nat} {cap : Int} (h : TabG B W g cap) (hcap : cap ≤ 1000) (p : Pin) (hp : p.h.length ≤ 1000000) {B0 : Nat} {w0 : World} (hb : Below B0 w0 W) (hB0 : B0 ≤ B) (hw : B0 ≤ W.heap.size) :
    Calls Tryd.prog 29 #[.pointer (some ⟨g, 0, none⟩), pv p] W fun e W' => (∃ z, e = .returned (.int .i64 z)) ∧ TabG B W' g cap ∧ Below B0 w0 W' := by
  obtain ⟨L, v, hT, hA, hc, hL⟩ := h
  refine (tb_put hT p (by omega) hA hL hp).mono ?_
  rintro e W' ⟨v', h1, h2, h3⟩
  refine ⟨⟨_, h1⟩, ⟨_, v', h2, Tab.put_asc hA _ _, Tab.put_len hc p, fun q hq => ?_⟩, h3.below hb (fun k hk => Nat.le_trans hB0 (Foot.own hT k hk).1) hw⟩
  rcases Tab.put_sub _ _ _ _ hq with rfl | e
  · exact hp
  · exact hL q e

/-- Between the rounds of the range: how many there were, and what stays. -/
structure SrtI (w : World) (g X nb m : Nat) (v sl : Value) (M : List Pin) (cap : Int) (k : Nat) (W : World) : Prop where
  num : Boxed W nb 3 (.int .i64 (k : Nat))
  box : Boxed W X 40 sl
  tab : TabW g W g v M cap
  bel : Below w.heap.size w W
  big : nb + 1 < W.heap.size
theorem SrtI.put {w : World} {g X nb m : Nat} {v sl : Value} {M : List Pin} {cap : Int} {k : Nat} {W : World} (h : SrtI w g X nb m v sl M cap k W) (hw : w.heap.size ≤ nb) {l : Nat} {o o' : Obj} (hlb : nb < l) (hl : W.heap[l]? = some o) (hc : o.isCells = false) : SrtI w g X nb m v sl M cap k (W.putObj l o') :=
  ⟨boxed_put h.num hl hc, boxed_put h.box hl hc, h.tab.put hl hc, below_put h.bel (by omega) hl hc h.bel.size _, by have := h.big; simpa using this⟩

theorem SrtI.count {w : World} {g X nb m : Nat} {v sl : Value} {M : List Pin} {cap : Int} {k : Nat} {W : World} (h : SrtI w g X nb m v sl M cap k W) (hX : X < nb ∧ g < nb) (hw : w.heap.size ≤ nb) (hv : v.ownBlock ≠ some nb) : SrtI w g X nb m v sl M cap (k + 1) (W.setCell ⟨nb, 0, none⟩ (.int .i64 ((k : Int) + 1))) := by
  have hne : ∀ j, j ≠ nb → (W.setCell ⟨nb, 0, none⟩ (.int .i64 ((k : Int) + 1))).heap[j]? = W.heap[j]? := fun j hj => heap_setCell_other _ _ _ _ hj
  exact ⟨by have := h.num.set (.int .i64 ((k : Int) + 1)); rwa [show ((k : Int) + 1) = ((k + 1 : Nat) : Int) by omega] at this ⊢, (hne X (by omega)).trans h.box, ⟨(hne g (by omega)).trans h.tab.1, h.tab.2.1.stay (fun j hj => hne j (fun e => hv (by rw [hj, e]))), h.tab.2.2⟩, h.bel.setCell hw _, by simpa using h.big⟩

set_option maxHeartbeats 8000000 in
set_option maxRecDepth 100000 in
theorem tab_sorted (a : Option Addr) (n c : Nat) (L : List Pin) (cap : Int) (w : World) (h : SlN w a n c L) (_hcap : (Lit.int .i64 cap).wf = true) :
    Calls Tryd.prog 8 #[.slice a n c, .int .i64 cap] w fun e w' => e = .returned (.bool true) ∧ Below w.heap.size w w' := by
  have HSP := Lib.hid (keep_smallPins 60 a n c L w h)
  have HAW := Lib.hid tab_awake
  by_cases hsm : n ≤ 60 ∧ ∀ p ∈ L, p.h.length ≤ 300
  · have hb : (decide (n ≤ 60) && L.all fun x => decide (x.h.length ≤ 300)) = true := by
      rw [decide_eq_true hsm.1, Bool.true_and, List.all_eq_true]; exact fun p hp => decide_eq_true (hsm.2 p hp)
    rw [hb] at HSP
    have HSP := Lib.hid HSP.out
    by_cases hc1 : cap < 1
    · clear hb h hsm
      go_enter Tryd.func8, Tryd.ntmps8
      go_wp2_with fail
      refine HSP.out.mono ?_; rintro e w1 ⟨rfl, hb1⟩
      go_wp2_with fail
      refine (HAW.out _).mono ?_; rintro e w2 ⟨rfl, hb2⟩
      go_wp2_with fail
      go_ret
      exact ⟨rfl, hb1.trans (hb2.mono hb1.size)⟩
    by_cases hc2 : 1000 < cap
    · clear hb h hsm
      have hc3 : decide (cap < 1) = false := decide_eq_false hc1
      go_enter Tryd.func8, Tryd.ntmps8
      go_wp2_with fail
      refine HSP.out.mono ?_; rintro e w1 ⟨rfl, hb1⟩
      go_wp2_with fail
      refine (HAW.out _).mono ?_; rintro e w2 ⟨rfl, hb2⟩
      go_wp2_with fail
      go_ret
      exact ⟨rfl, hb1.trans (hb2.mono hb1.size)⟩
    have hL : ∀ p ∈ L, p.h.length ≤ 1000000 := fun p hp => Nat.le_trans (hsm.2 p hp) (by omega)
    have HL := Lib.hid hL
    have HSL := Lib.hid h
    have hn60 : (n : Int) ≤ 60 := by omega
    have HNEW := Lib.hid (show ∀ W, Calls Tryd.prog 26 #[.int .i64 cap] W fun e w' => e = .returned (.tuple #[.pointer (some ⟨W.heap.size, 0, none⟩), .int .i64 0]) ∧ w' = W.alloc (.cells #[.slice none 0 0, .int .i64 cap] 71) from fun W => (tb_new cap W).mono (fun e w' hh => by unfold NewP at hh; rwa [if_neg (by omega)] at hh))
    have HCAP := Lib.hid (show 1 ≤ cap ∧ cap ≤ 1000 by omega)
    clear hb h hL hsm
    refine (callsIn_wide (n := 6)).1 ?_
    refine callsIn_of_wp_marks Tryd.func8 rfl trivial ?_ rfl
    simp only [Tryd.ntmps8, List.size_toArray, List.length_cons, List.length_nil, Nat.reduceAdd, Nat.reduceSub, Array.replicate_succ, Array.replicate_zero, List.push_toArray, List.append_toArray, List.nil_append, List.cons_append]
    refine wpIn_wide.2 ?_
    go_wp2_with fail
    refine HSP.out.mono ?_; rintro e w1 ⟨rfl, hb1⟩
    go_wp2_with fail
    refine (HNEW.out _).mono ?_; rintro e w2 ⟨rfl, hw2⟩
    have hG2 : TabG w1.heap.size w2 w1.heap.size cap := ⟨[], _, by rw [hw2]; exact TabW.new w1 cap (Nat.le_refl _), asc_nil, by have := HCAP.out; simp; omega, by simp⟩
    have hB2 : Below w.heap.size w w2 := by rw [hw2]; exact hb1.alloc hb1.size _
    have HG2 := Lib.hid hG2
    obtain ⟨g, hg⟩ : ∃ g, w1.heap.size = g := ⟨_, rfl⟩
    have hgw : w.heap.size ≤ g := by rw [← hg]; exact hb1.size
    rw [hg] at HG2 ⊢
    clear hG2 hw2 hg hb1
    go_wp2_with fail
    go_loopw [7] (fun i wr => ∃ k : Nat, k ≤ n ∧ i = .int .i64 (k : Nat) ∧ TabG g wr g cap ∧ Below w.heap.size w wr) (fun i _ => n - (intOf i).toNat)
    case atStart => exact ⟨0, Nat.zero_le _, rfl, HG2.out, hB2⟩
    case round =>
      obtain ⟨k, hk, rfl, hG, hB⟩ := hrel
      have i0 : (0 : Int) ≤ (k : Int) := by omega
      by_cases hlt : k < n
      · have i2 : (k : Int) < (n : Int) := by omega
        obtain ⟨bb, o, rfl, hbb, hkl, c1, c2, c3⟩ := (HSL.out.ext hB).at hlt
        rw [List.getElem?_eq_getElem hkl, Option.getD_some] at c1 c2 c3
        have HP := Lib.hid (hG.put HCAP.out.2 L[k] (HL.out _ (List.getElem_mem hkl)) hB hgw hB.size)
        generalize L[k] = p at *
        obtain ⟨ph, ps, px⟩ := p
        unfold pv at HP
        simp only at HP c1 c2 c3
        generalize str ph = sh at *
        clear hG hkl
        go_wp2_with fail
        refine HP.out.mono ?_; rintro e w3 ⟨⟨z, rfl⟩, hG3, hB3⟩
        go_wp2_with fail
        go_roundw
        case rel => exact ⟨k + 1, by omega, by go_num, hG3, hB3⟩
        case measure => simp [intOf]; omega
      · obtain rfl : k = n := by omega
        obtain ⟨M, v, hT, hA, hc, hM⟩ := hG
        have HPN := Lib.hid (tb_pins hT (by have := HCAP.out; omega))
        have HT := Lib.hid hT
        have HA := Lib.hid hA
        have HM := Lib.hid hM
        obtain ⟨m, hm⟩ : ∃ m, M.length = m := ⟨_, rfl⟩
        rw [hm] at hc
        have HML := Lib.hid hm
        have m1000 : (m : Int) ≤ 1000 := by have := HCAP.out; omega
        clear hT hA hM hm
        go_wp2_with fail
        refine HPN.out.mono ?_; rintro e w3 ⟨v3, rfl, ho3, hb3⟩
        have hB3 := hB.trans (hb3.mono hB.size)
        obtain ⟨a3, c3, hv3, hs3, -⟩ := ho3.sl
        rw [HML.out] at hs3 hv3
        subst hv3
        have hz3 : (w3.alloc (.cells #[.slice a3 m c3] 40)).heap.size = w3.heap.size + 1 := by simp
        have hb4 := (Below.refl w3.heap.size w3).alloc (Nat.le_refl _) (.cells #[.slice a3 m c3] 40)
        have hbx4 : Boxed (w3.alloc (.cells #[.slice a3 m c3] 40)) w3.heap.size 40 (.slice a3 m c3) := heap_alloc_eq _ _ _ rfl
        have hS4 := hs3.ext hb4
        have hT4 := (HT.out.ext hb3).ext hb4
        have hB4 := hB3.trans (hb4.mono hB3.size)
        have hgl4 : g < w3.heap.size := (HT.out.ext hb3).lt
        go_wp2_with fail
        have HT4 := Lib.hid hT4
        have HS4 := Lib.hid hS4
        clear hT4 hS4 hs3 ho3
        generalize (w3.alloc (.cells #[.slice a3 m c3] 40)) = w4 at *
        obtain ⟨X, hX⟩ : ∃ X, w3.heap.size = X := ⟨_, rfl⟩
        rw [hX] at hz3 hbx4 hgl4 ⊢
        clear hX hb4
        have HZ4 := Lib.hid hz3
        have hX4 : X < w4.heap.size := by omega
        clear hz3
        go_loopw [9] (fun i wr => ∃ k : Nat, 1 ≤ k ∧ i = .int .i64 (k : Nat) ∧ Below w4.heap.size w4 wr) (fun i _ => m - (intOf i).toNat)
        case atStart => exact ⟨1, Nat.le_refl _, rfl, Below.refl _ _⟩
        case round =>
          obtain ⟨j, hj, rfl, hB5⟩ := hrel
          have hbx5 := boxedT_ext hbx4 hB5
          have x1 := hbx5.cell
          have hX5 : X < wr.heap.size := heap_lt hbx5
          have j0 : (0 : Int) ≤ (j : Int) := by omega
          by_cases hjm : j < m
          · have j2 : (j : Int) < (m : Int) := by omega
            obtain ⟨j', rfl⟩ : ∃ j', j = j' + 1 := ⟨j - 1, by omega⟩
            have hs5 := HS4.out.ext hB5
            obtain ⟨bb, o, rfl, hbb, hkl, c1, -, -⟩ := hs5.at hjm
            obtain ⟨b2, o2, hbo, -, hkl2, d1, -, -⟩ := hs5.at (show j' < m by omega)
            cases hbo
            rw [List.getElem?_eq_getElem hkl, Option.getD_some] at c1
            rw [List.getElem?_eq_getElem hkl2, Option.getD_some] at d1
            have hlt2 : Host.cmp M[j'].h M[j' + 1].h < 0 := Tab.asc_at HA.out (Nat.lt_succ_self _) (List.getElem?_eq_getElem hkl2) (List.getElem?_eq_getElem hkl)
            have HCMP := Lib.hid (fun W => rp_compare M[j'].h M[j' + 1].h (HM.out _ (List.getElem_mem hkl2)) (HM.out _ (List.getElem_mem hkl)) W)
            obtain ⟨z, hz⟩ : ∃ z, Host.cmp M[j'].h M[j' + 1].h = z := ⟨_, rfl⟩
            rw [hz] at HCMP hlt2
            obtain ⟨sp, hsp⟩ : ∃ s, str M[j' + 1].h = s := ⟨_, rfl⟩
            obtain ⟨sq, hsq⟩ : ∃ s, str M[j'].h = s := ⟨_, rfl⟩
            rw [hsp] at c1 HCMP
            rw [hsq] at d1 HCMP
            have wk : IntKind.i64.wrap (j' : Int) = (j' : Int) := by rw [IntKind.wrap_i64]; omega
            have k0 : (0 : Int) ≤ (j' : Int) := by omega
            have k1 : (j' : Int) < (m : Int) := by omega
            have i3 : (0 : Int) ≤ (j' : Int) + 1 := by omega
            have i4 : (j' : Int) + 1 < (m : Int) := by omega
            have hz0 : ¬ 0 ≤ z := by omega
            have HCL := Lib.hid (show ∀ w', Ext wr w' → Ext wr w' ∧ w'.cell? ⟨X, 0, none⟩ = some (.slice (some ⟨bb, o, none⟩) m c3) ∧ w'.cell? ⟨bb, o + (j' + 1) * 3, none⟩ = some (.string sp) ∧ w'.cell? ⟨bb, o + j' * 3, none⟩ = some (.string sq) ∧ X < w'.heap.size ∧ bb < w'.heap.size from fun w' he =>
              ⟨he, (Below.cell he (p := ⟨X, 0, none⟩) hX5).trans x1, (Below.cell he (p := ⟨bb, o + (j' + 1) * 3, none⟩) hbb).trans c1, (Below.cell he (p := ⟨bb, o + j' * 3, none⟩) hbb).trans d1, Nat.lt_of_lt_of_le hX5 (Below.size he), Nat.lt_of_lt_of_le hbb (Below.size he)⟩)
            clear hz hsp hsq hkl hkl2 hs5 hlt2 hbx5 hbx4 j0 hj
            have HB5 := Lib.hid hB5
            clear hB5
            go_wp2_with fail
            go_region_held3 (fun w' => Ext wr w' ∧ w'.cell? ⟨X, 0, none⟩ = some (.slice (some ⟨bb, o, none⟩) m c3) ∧ w'.cell? ⟨bb, o + (j' + 1) * 3, none⟩ = some (.string sp) ∧ w'.cell? ⟨bb, o + j' * 3, none⟩ = some (.string sq) ∧ X < w'.heap.size ∧ bb < w'.heap.size) (first | assumption | exact HCL.out _ (Ext.drew (Ext.refl _)) | exact HCL.out _ (Ext.step (by assumption) (And.left (by assumption)))) (first | (go_at_call 21; go_must (refine (HCMP.out _).mono ?_); rintro e w9 ⟨rfl, hb9⟩))
            all_goals
              have hfin : Ext wr _ := And.left (by assumption)
              go_wp2_with fail
              go_roundw
              case rel => exact ⟨j' + 1 + 1, by omega, by go_num, HB5.out.trans (Below.mono hfin HB5.out.size)⟩
              case measure => simp [intOf]; omega
          · have j3 : ¬ (j : Int) < (m : Int) := by omega
            clear hbx5
            go_wp2_with fail
            refine (tb_all _ _).mono ?_; rintro e w6 ⟨rfl, rfl⟩
            have hfe := fun (W : World) => run_eql_func_nil (P := Tryd.prog) W Tryd.underlying52 (Fn.func 56) #[] #[.pointer (some ⟨wr.heap.size + 1, 0, none⟩)]
            go_wp2_with fail
            clear hfe
            have hb6 := ((Below.refl wr.heap.size wr).alloc (Nat.le_refl _) (.cells #[.int .i64 0] 3)).alloc (by simp) (.cells #[.pointer (some ⟨g, 0, none⟩)] 42)
            have hN6 : Boxed ((wr.alloc (.cells #[.int .i64 0] 3)).alloc (.cells #[.pointer (some ⟨g, 0, none⟩)] 42)) wr.heap.size 3 (.int .i64 0) := by
              unfold Boxed; rw [heap_alloc_lt _ _ _ (by simp), heap_alloc_eq _ _ _ rfl]
            have hP6 : Boxed ((wr.alloc (.cells #[.int .i64 0] 3)).alloc (.cells #[.pointer (some ⟨g, 0, none⟩)] 42)) (wr.heap.size + 1) 42 (.pointer (some ⟨g, 0, none⟩)) := by
              unfold Boxed; rw [heap_alloc_eq _ _ _ (by simp)]
            have hz6 : ((wr.alloc (.cells #[.int .i64 0] 3)).alloc (.cells #[.pointer (some ⟨g, 0, none⟩)] 42)).heap.size = wr.heap.size + 2 := by simp
            generalize ((wr.alloc (.cells #[.int .i64 0] 3)).alloc (.cells #[.pointer (some ⟨g, 0, none⟩)] 42)) = w6 at *
            have hT6 := (HT4.out.ext hB5).ext hb6
            have hX6 : Boxed w6 X 40 (.slice a3 m c3) := boxedT_ext (boxedT_ext hbx4 hB5) hb6
            have hB6 : Below w.heap.size w w6 := (hB4.trans (hB5.mono hB4.size)).trans (hb6.mono (hB4.trans (hB5.mono hB4.size)).size)
            have hww : w.heap.size ≤ wr.heap.size := (hB4.trans (hB5.mono hB4.size)).size
            obtain ⟨nb, hnb⟩ : ∃ nb, wr.heap.size = nb := ⟨_, rfl⟩
            rw [hnb] at hN6 hP6 hz6 hww hX5 ⊢
            have hseq := tb_seq (nb + 1) hT6 hP6
            rw [HML.out] at hseq
            have HSEQ := Lib.hid hseq
            have HVB := Lib.hid (show v.ownBlock ≠ some nb from fun e => by have := (HT4.out.2.1.lt _ e).2; have := hB5.size; omega)
            have HOB := Lib.hid (fun j (hj : v.ownBlock = some j) => hT6.2.1.lt j hj)
            obtain ⟨hf, hhf⟩ : ∃ hf, m / 2 = hf := ⟨_, rfl⟩
            have hdiv : (m : Int) / 2 = (hf : Int) := by omega
            have wp1 : IntKind.i64.wrap (hf : Int) = (hf : Int) := by rw [IntKind.wrap_i64]; omega
            have wp2 : IntKind.i64.wrap ((hf : Int) + 1) = (hf : Int) + 1 := by rw [IntKind.wrap_i64]; omega
            have HHF := Lib.hid hhf
            have hSI : SrtI w g X nb m v (.slice a3 m c3) M cap 0 w6 := ⟨hN6, hX6, hT6, hB6, by omega⟩
            have HSI := Lib.hid hSI
            clear hseq hhf hb6 hN6 hP6 hT6 hX6 hB6 hSI hB5 hnb x1 hbx4 j0 j3 hjm hj hb3 hB3 hB4 hX4 hB hk hlt
            refine (wpIn_wide (n := 4)).1 ?_
            refine wpIn_rangeIx2 (Kp := KpT (nb + 1) g v) (D := Unit) rfl (by omega) (gf := 56) (lb := #[.pointer (some ⟨nb + 1, 0, none⟩)]) rfl trivial (enters_of Tryd.func56 (by kernel_rfl) rfl) HSEQ.out kpT_t
              (fun W l o o' hl h1 h2 => ⟨World.putObj_heap_other (by omega), World.putObj_heap_other (by omega), fun j hj => World.putObj_heap_other (fun e => by have := (HOB.out j hj).2; omega)⟩) (Below.refl _ _) (fun _ => rfl)
              (fun k W => k ≤ hf ∧ SrtI w g X nb m v (.slice a3 m c3) M cap k W) (fun cd k W => cd = .exit 4 ∧ k = hf + 1 ∧ k ≤ m ∧ SrtI w g X nb m v (.slice a3 m c3) M cap k W)
              (fun k W l o o' hI hl h1 h2 => ⟨hI.1, hI.2.put hww (by omega) h1 h2⟩) (fun cd k W l o o' hI hl h1 h2 => ⟨hI.1, hI.2.1, hI.2.2.1, hI.2.2.2.put hww (by omega) h1 h2⟩)
              ?h0 (fun _ k W => k ≤ hf ∧ SrtI w g X nb m v (.slice a3 m c3) M cap k W) (fun _ k W l o o' hI hl h1 h2 => ⟨hI.1, hI.2.put hww (by omega) h1 h2⟩) ?round ?done ?stop
            case h0 =>
              intro o o'
              have hbe := ((Below.refl _ w6).alloc (Nat.le_refl _) o).alloc (by simp) o'
              have hS := HSI.out
              exact ⟨Nat.zero_le _, boxedT_ext hS.num hbe, boxedT_ext hS.box hbe, hS.tab.ext hbe, hS.bel.trans (hbe.mono hS.bel.size), by have := hbe.size; have := hS.big; omega⟩
            case round =>
              rintro l k W ⟨hkh, hI⟩ hk
              unfold tEnc
              gi_wp2
              refine ⟨below_keeps (Below.refl _ _), kpT_refl _ _ _ _, (), ⟨hkh, hI⟩, ?_⟩
              rintro lp W' ⟨hkh, hI⟩
              have x1 := hI.box.cell
              have x2 := hI.num.cell
              have f2 := hI.num.frozen
              have hXW := heap_lt hI.box
              have hnW := heap_lt hI.num
              have HIB := Lib.hid hI
              have hkg : X < nb ∧ g < nb := by omega
              have hvb : v.ownBlock ≠ some nb := HVB.out
              clear hI
              by_cases hkk : hf < k + 1
              · have hki : (hf : Int) < (k : Int) + 1 := by omega
                gi_wp2
                have hOth := (HIB.out.tab.2.1.lt)
                have hgb := HIB.out.tab.lt
                refine ⟨(KeepsOthers.setCell _ _ _).from _, rfl, by omega, by omega, ?_⟩
                exact HIB.out.count hkg hww hvb
              · have hki : ¬ (hf : Int) < (k : Int) + 1 := by omega
                gi_wp2
                refine ⟨(KeepsOthers.setCell _ _ _).from _, ⟨heap_setCell_other _ _ _ _ (by simp), heap_setCell_other _ _ _ _ (by simp only; omega), fun j hj => heap_setCell_other _ _ _ _ (fun e => hvb (by rw [hj, show j = nb from e]))⟩, by omega, ?_⟩
                exact HIB.out.count hkg hww hvb
            case done =>
              rintro D W hD ⟨hq, hI⟩ hK
              obtain ⟨q, hqm, hI, hq⟩ : ∃ q, q = m ∧ SrtI w g X nb m v (.slice a3 m c3) M cap q W ∧ q ≤ hf := ⟨m, rfl, hI, hq⟩
              have hmin : min (m : Int) ((hf : Int) + 1) = (q : Int) := by have := HHF.out; omega
              have hif : (if (hf : Int) + 1 < (m : Int) then (hf : Int) + 1 else (m : Int)) = (q : Int) := by have := HHF.out; split <;> omega
              clear hqm
              have x1 := hI.box.cell
              have x2 := hI.num.cell
              have hXW := heap_lt hI.box
              have hnW := heap_lt hI.num
              have HIB := Lib.hid hI
              have HCL := Lib.hid (show ∀ w', Ext W w' → Ext W w' ∧ w'.cell? ⟨X, 0, none⟩ = some (.slice a3 m c3) ∧ w'.cell? ⟨nb, 0, none⟩ = some (.int .i64 (q : Nat)) ∧ X < w'.heap.size ∧ nb < w'.heap.size ∧ TabW g w' g v M cap from fun w' he =>
                ⟨he, (Below.cell he (p := ⟨X, 0, none⟩) hXW).trans x1, (Below.cell he (p := ⟨nb, 0, none⟩) hnW).trans x2, Nat.lt_of_lt_of_le hXW (Below.size he), Nat.lt_of_lt_of_le hnW (Below.size he), hI.tab.ext he⟩)
              have HK := Lib.hid hK
              have HLEN := Lib.hid (show ∀ W', TabW g W' g v M cap → Calls Tryd.prog 33 #[.pointer (some ⟨g, 0, none⟩)] W' fun e w' => e = .returned (.int .i64 (m : Nat)) ∧ w' = W' from fun W' hT => by have := tb_len hT; rwa [HML.out] at this)
              clear hI hK x1 x2
              gi_wp2
              go_wp2_with fail
              go_region_held3 (fun w' => Ext W w' ∧ w'.cell? ⟨X, 0, none⟩ = some (.slice a3 m c3) ∧ w'.cell? ⟨nb, 0, none⟩ = some (.int .i64 (q : Nat)) ∧ X < w'.heap.size ∧ nb < w'.heap.size ∧ TabW g w' g v M cap) (first | assumption | exact HCL.out _ (Ext.drew (Ext.refl _)) | exact HCL.out _ (Ext.step (by assumption) (And.left (by assumption)))) (first | (go_at_call 33; go_must (refine (HLEN.out _ (by simp only [*])).mono ?_); rintro e w9 ⟨rfl, hb9⟩) | (go_at_call 25; go_must (refine (HAW.out _).mono ?_); rintro e w9 ⟨rfl, hb9⟩))
              all_goals
                have hfin : Ext W _ := And.left (by assumption)
                have hD2 := (Below.block hfin D (heap_lt HK.out)).trans HK.out
                go_wp2_with fail
                refine ⟨by simp, .inl ⟨_, _, rfl, run_takeDeferred hD2, ⟨.bool true, by simp [results, Tryd.results8, go_sem], ?_⟩⟩⟩
                have hBf := HIB.out.bel.trans (Below.mono hfin HIB.out.bel.size)
                exact ⟨rfl, below_put hBf (by omega) hD2 rfl hBf.size _⟩
            case stop =>
              rintro D cd q W hD hkm ⟨rfl, hq, hq2, hI⟩ hK
              have hmin : min (m : Int) ((hf : Int) + 1) = (q : Int) := by have := HHF.out; omega
              have hif : (if (hf : Int) + 1 < (m : Int) then (hf : Int) + 1 else (m : Int)) = (q : Int) := by have := HHF.out; split <;> omega
              clear hq
              have x1 := hI.box.cell
              have x2 := hI.num.cell
              have hXW := heap_lt hI.box
              have hnW := heap_lt hI.num
              have HIB := Lib.hid hI
              have HCL := Lib.hid (show ∀ w', Ext W w' → Ext W w' ∧ w'.cell? ⟨X, 0, none⟩ = some (.slice a3 m c3) ∧ w'.cell? ⟨nb, 0, none⟩ = some (.int .i64 (q : Nat)) ∧ X < w'.heap.size ∧ nb < w'.heap.size ∧ TabW g w' g v M cap from fun w' he =>
                ⟨he, (Below.cell he (p := ⟨X, 0, none⟩) hXW).trans x1, (Below.cell he (p := ⟨nb, 0, none⟩) hnW).trans x2, Nat.lt_of_lt_of_le hXW (Below.size he), Nat.lt_of_lt_of_le hnW (Below.size he), hI.tab.ext he⟩)
              have HK := Lib.hid hK
              have HLEN := Lib.hid (show ∀ W', TabW g W' g v M cap → Calls Tryd.prog 33 #[.pointer (some ⟨g, 0, none⟩)] W' fun e w' => e = .returned (.int .i64 (m : Nat)) ∧ w' = W' from fun W' hT => by have := tb_len hT; rwa [HML.out] at this)
              clear hI hK x1 x2
              gi_wp2
              go_wp2_with fail
              go_region_held3 (fun w' => Ext W w' ∧ w'.cell? ⟨X, 0, none⟩ = some (.slice a3 m c3) ∧ w'.cell? ⟨nb, 0, none⟩ = some (.int .i64 (q : Nat)) ∧ X < w'.heap.size ∧ nb < w'.heap.size ∧ TabW g w' g v M cap) (first | assumption | exact HCL.out _ (Ext.drew (Ext.refl _)) | exact HCL.out _ (Ext.step (by assumption) (And.left (by assumption)))) (first | (go_at_call 33; go_must (refine (HLEN.out _ (by simp only [*])).mono ?_); rintro e w9 ⟨rfl, hb9⟩) | (go_at_call 25; go_must (refine (HAW.out _).mono ?_); rintro e w9 ⟨rfl, hb9⟩))
              all_goals
                have hfin : Ext W _ := And.left (by assumption)
                have hD2 := (Below.block hfin D (heap_lt HK.out)).trans HK.out
                go_wp2_with fail
                refine ⟨by simp, .inl ⟨_, _, rfl, run_takeDeferred hD2, ⟨.bool true, by simp [results, Tryd.results8, go_sem], ?_⟩⟩⟩
                have hBf := HIB.out.bel.trans (Below.mono hfin HIB.out.bel.size)
                exact ⟨rfl, below_put hBf (by omega) hD2 rfl hBf.size _⟩
  · have hb : (decide (n ≤ 60) && L.all fun x => decide (x.h.length ≤ 300)) = false := by
      rw [Bool.eq_false_iff]; intro e
      rw [Bool.and_eq_true, List.all_eq_true] at e
      exact hsm ⟨of_decide_eq_true e.1, fun p hp => of_decide_eq_true (e.2 p hp)⟩
    rw [hb] at HSP
    have HSP := Lib.hid HSP.out
    clear hb h hsm
    go_enter Tryd.func8, Tryd.ntmps8
    go_wp2_with fail
    refine HSP.out.mono ?_; rintro e w1 ⟨rfl, hb1⟩
    go_wp2_with fail
    refine (HAW.out _).mono ?_; rintro e w2 ⟨rfl, hb2⟩
    go_wp2_with fail
    go_ret
    exact ⟨rfl, hb1.trans (hb2.mono hb1.size)⟩

end Go.Proofs.YtcmeajaakdaeeaaDoor
