/-
  Texts in one: TabL2, TabL3.
-/
import Derived.Test.YtcmeajaakdaeeaaDoorRun44
import Derived.Test.YtcmeajaakdaeeaaDoorRun48
import Derived.Test.YtcmeajaakdaeeaaDoorRun49
import Derived.Test.YtcmeajaakdaeeaaDoorRun50
import Derived.Test.YtcmeajaakdaeeaaDoorRun40
/-
  The walk of PintableSorted.
-/
namespace Go.Proofs.YtcmeajaakdaeeaaDoor
open Go.RowKit Go.Shelf

attribute [local go_sem] Oper.semAt_some

theorem Tab.put_sub (L : List Pin) (cap : Int) (p q : Pin) (hq : q ∈ (Tab.put L cap p).1) : q = p ∨ q ∈ L := by
  unfold Tab.put at hq
  split at hq
  · exact .inr hq
  · split at hq
    · exact (List.mem_or_eq_of_mem_set hq).symm
    · split at hq
      · exact .inr hq
      · rcases List.mem_append.1 hq with m | m
        · exact .inr (List.mem_of_mem_take m)
        · rcases List.mem_cons.1 m with m | m
          · exact .inl m
          · exact .inr (List.mem_of_mem_drop m)

theorem cellsN_ne {W : World} {b l : Nat} {cs : Array Value} {t : TypeId} {fr : Nat × Nat} {o : Obj} (h : W.heap[b]? = some (.cells cs t fr)) (hl : W.heap[l]? = some o) (ho : o.isCells = false) : b ≠ l := by
  rintro rfl; rw [h] at hl; cases hl; simp [Obj.isCells] at ho
theorem OwnN.put {base : Nat} {W : World} {v : Value} {L : List Pin} (h : OwnN base W v L) {l : Nat} {o o' : Obj} (hl : W.heap[l]? = some o) (hc : o.isCells = false) : OwnN base (W.putObj l o') v L := by
  refine ⟨h.1, ?_⟩
  rcases h.2 with hn | ⟨g, cap, cur, rfl, hb, hgg, rest⟩
  · exact .inl hn
  · exact .inr ⟨g, cap, cur, rfl, hb, (World.putObj_heap_other (cellsN_ne hgg hl hc)).trans hgg, rest⟩
theorem TabW.put {B : Nat} {W : World} {g : Nat} {v : Value} {L : List Pin} {cap : Int} (h : TabW B W g v L cap) {l : Nat} {o o' : Obj} (hl : W.heap[l]? = some o) (hc : o.isCells = false) : TabW B (W.putObj l o') g v L cap :=
  ⟨(World.putObj_heap_other (cellsN_ne h.1 hl hc)).trans h.1, h.2.1.put hl hc, h.2.2⟩

/-- A table whose pins are in order and not more than the capacity. -/
def TabG (B : Nat) (W : World) (g : Nat) (cap : Int) : Prop := ∃ L v, TabW B W g v L cap ∧ Tab.Asc L ∧ (L.length : Int) ≤ cap ∧ ∀ q ∈ L, q.h.length ≤ 1000000
theorem TabG.put {B : Nat} {W : World} {g : Nat} {cap : Int} (h : TabG B W g cap) (hcap : cap ≤ 1000) (p : Pin) (hp : p.h.length ≤ 1000000) {B0 : Nat} {w0 : World} (hb : Below B0 w0 W) (hB0 : B0 ≤ B) (hw : B0 ≤ W.heap.size) :
    Calls Tryd.prog 29 #[.pointer (some ⟨g, 0, none⟩), pv p] W fun e W' => (∃ z, e = .returned (.int .i64 z)) ∧ TabG B W' g cap ∧ Below B0 w0 W' := by
  obtain ⟨L, v, hT, hA, hc, hL⟩ := h
  refine (tb_put hT p (by omega) hA hL hp).mono ?_
  rintro e W' ⟨v', h1, h2, h3⟩
  refine ⟨⟨_, h1⟩, ⟨_, v', h2, Tab.put_asc hA _ _, Tab.put_len hc p, fun q hq => ?_⟩, h3.below hb (fun k hk => Nat.le_trans hB0 (Foot.own hT k hk).1) hw⟩
  rcases Tab.put_sub _ _ _ _ hq with rfl | e
  · exact hp
  · exact hL q e

/-- Between the rounds of the range: how many there were, and what stays. -/
structure SrtI (w : World) (g X nb m : Nat) (v sl : Value) (M : List Pin) (cap : Int) (k : Nat) (W : World) : Prop where
  num : Boxed W nb 3 (.int .i64 (k : Nat))
  box : Boxed W X 40 sl
  tab : TabW g W g v M cap
  bel : Below w.heap.size w W
  big : nb + 1 < W.heap.size
theorem SrtI.put {w : World} {g X nb m : Nat} {v sl : Value} {M : List Pin} {cap : Int} {k : Nat} {W : World} (h : SrtI w g X nb m v sl M cap k W) (hw : w.heap.size ≤ nb) {l : Nat} {o o' : Obj} (hlb : nb < l) (hl : W.heap[l]? = some o) (hc : o.isCells = false) : SrtI w g X nb m v sl M cap k (W.putObj l o') :=
  ⟨boxed_put h.num hl hc, boxed_put h.box hl hc, h.tab.put hl hc, below_put h.bel (by omega) hl hc h.bel.size _, by have := h.big; simpa using this⟩

theorem SrtI.count {w : World} {g X nb m : Nat} {v sl : Value} {M : List Pin} {cap : Int} {k : Nat} {W : World} (h : SrtI w g X nb m v sl M cap k W) (hX : X < nb ∧ g < nb) (hw : w.heap.size ≤ nb) (hv : v.ownBlock ≠ some nb) : SrtI w g X nb m v sl M cap (k + 1) (W.setCell ⟨nb, 0, none⟩ (.int .i64 ((k : Int) + 1))) := by
  have hne : ∀ j, j ≠ nb → (W.setCell ⟨nb, 0, none⟩ (.int .i64 ((k : Int) + 1))).heap[j]? = W.heap[j]? := fun j hj => heap_setCell_other _ _ _ _ hj
  exact ⟨by have := h.num.set (.int .i64 ((k : Int) + 1)); rwa [show ((k : Int) + 1) = ((k + 1 : Nat) : Int) by omega] at this ⊢, (hne X (by omega)).trans h.box, ⟨(hne g (by omega)).trans h.tab.1, h.tab.2.1.stay (fun j hj => hne j (fun e => hv (by rw [hj, e]))), h.tab.2.2⟩, h.bel.setCell hw _, by simpa using h.big⟩

set_option maxHeartbeats 8000000 in
set_option maxRecDepth 100000 in
theorem tab_sorted (a : Option Addr) (n c : Nat) (L : List Pin) (cap : Int) (w : World) (h : SlN w a n c L) (_hcap : (Lit.int .i64 cap).wf = true) :
    Calls Tryd.prog 8 #[.slice a n c, .int .i64 cap] w fun e w' => e = .returned (.bool true) ∧ Below w.heap.size w w' := by
  have HSP := Lib.hid (keep_smallPins 60 a n c L w h)
  have HAW := Lib.hid tab_awake
  by_cases hsm : n ≤ 60 ∧ ∀ p ∈ L, p.h.length ≤ 300
  · have hb : (decide (n ≤ 60) && L.all fun x => decide (x.h.length ≤ 300)) = true := by
      rw [decide_eq_true hsm.1, Bool.true_and, List.all_eq_true]; exact fun p hp => decide_eq_true (hsm.2 p hp)
    rw [hb] at HSP
    have HSP := Lib.hid HSP.out
    by_cases hc1 : cap < 1
    · clear hb h hsm
      go_enter Tryd.func8, Tryd.ntmps8
      go_wp2_with fail
      refine HSP.out.mono ?_; rintro e w1 ⟨rfl, hb1⟩
      go_wp2_with fail
      refine (HAW.out _).mono ?_; rintro e w2 ⟨rfl, hb2⟩
      go_wp2_with fail
      go_ret
      exact ⟨rfl, hb1.trans (hb2.mono hb1.size)⟩
    by_cases hc2 : 1000 < cap
    · clear hb h hsm
      have hc3 : decide (cap < 1) = false := decide_eq_false hc1
      go_enter Tryd.func8, Tryd.ntmps8
      go_wp2_with fail
      refine HSP.out.mono ?_; rintro e w1 ⟨rfl, hb1⟩
      go_wp2_with fail
      refine (HAW.out _).mono ?_; rintro e w2 ⟨rfl, hb2⟩
      go_wp2_with fail
      go_ret
      exact ⟨rfl, hb1.trans (hb2.mono hb1.size)⟩
    have hL : ∀ p ∈ L, p.h.length ≤ 1000000 := fun p hp => Nat.le_trans (hsm.2 p hp) (by omega)
    have HL := Lib.hid hL
    have HSL := Lib.hid h
    have hn60 : (n : Int) ≤ 60 := by omega
    have HNEW := Lib.hid (show ∀ W, Calls Tryd.prog 26 #[.int .i64 cap] W fun e w' => e = .returned (.tuple #[.pointer (some ⟨W.heap.size, 0, none⟩), .int .i64 0]) ∧ w' = W.alloc (.cells #[.slice none 0 0, .int .i64 cap] 71) from fun W => (tb_new cap W).mono (fun e w' hh => by unfold NewP at hh; rwa [if_neg (by omega)] at hh))
    have HCAP := Lib.hid (show 1 ≤ cap ∧ cap ≤ 1000 by omega)
    clear hb h hL hsm
    refine (callsIn_wide (n := 6)).1 ?_
    refine callsIn_of_wp_marks Tryd.func8 rfl trivial ?_ rfl
    simp only [Tryd.ntmps8, List.size_toArray, List.length_cons, List.length_nil, Nat.reduceAdd, Nat.reduceSub, Array.replicate_succ, Array.replicate_zero, List.push_toArray, List.append_toArray, List.nil_append, List.cons_append]
    refine wpIn_wide.2 ?_
    go_wp2_with fail
    refine HSP.out.mono ?_; rintro e w1 ⟨rfl, hb1⟩
    go_wp2_with fail
    refine (HNEW.out _).mono ?_; rintro e w2 ⟨rfl, hw2⟩
    have hG2 : TabG w1.heap.size w2 w1.heap.size cap := ⟨[], _, by rw [hw2]; exact TabW.new w1 cap (Nat.le_refl _), asc_nil, by have := HCAP.out; simp; omega, by simp⟩
    have hB2 : Below w.heap.size w w2 := by rw [hw2]; exact hb1.alloc hb1.size _
    have HG2 := Lib.hid hG2
    obtain ⟨g, hg⟩ : ∃ g, w1.heap.size = g := ⟨_, rfl⟩
    have hgw : w.heap.size ≤ g := by rw [← hg]; exact hb1.size
    rw [hg] at HG2 ⊢
    clear hG2 hw2 hg hb1
    go_wp2_with fail
    go_loopw [7] (fun i wr => ∃ k : Nat, k ≤ n ∧ i = .int .i64 (k : Nat) ∧ TabG g wr g cap ∧ Below w.heap.size w wr) (fun i _ => n - (intOf i).toNat)
    case atStart => exact ⟨0, Nat.zero_le _, rfl, HG2.out, hB2⟩
    case round =>
      obtain ⟨k, hk, rfl, hG, hB⟩ := hrel
      have i0 : (0 : Int) ≤ (k : Int) := by omega
      by_cases hlt : k < n
      · have i2 : (k : Int) < (n : Int) := by omega
        obtain ⟨bb, o, rfl, hbb, hkl, c1, c2, c3⟩ := (HSL.out.ext hB).at hlt
        rw [List.getElem?_eq_getElem hkl, Option.getD_some] at c1 c2 c3
        have HP := Lib.hid (hG.put HCAP.out.2 L[k] (HL.out _ (List.getElem_mem hkl)) hB hgw hB.size)
        generalize L[k] = p at *
        obtain ⟨ph, ps, px⟩ := p
        unfold pv at HP
        simp only at HP c1 c2 c3
        generalize str ph = sh at *
        clear hG hkl
        go_wp2_with fail
        refine HP.out.mono ?_; rintro e w3 ⟨⟨z, rfl⟩, hG3, hB3⟩
        go_wp2_with fail
        go_roundw
        case rel => exact ⟨k + 1, by omega, by go_num, hG3, hB3⟩
        case measure => simp [intOf]; omega
      · obtain rfl : k = n := by omega
        obtain ⟨M, v, hT, hA, hc, hM⟩ := hG
        have HPN := Lib.hid (tb_pins hT (by have := HCAP.out; omega))
        have HT := Lib.hid hT
        have HA := Lib.hid hA
        have HM := Lib.hid hM
        obtain ⟨m, hm⟩ : ∃ m, M.length = m := ⟨_, rfl⟩
        rw [hm] at hc
        have HML := Lib.hid hm
        have m1000 : (m : Int) ≤ 1000 := by have := HCAP.out; omega
        clear hT hA hM hm
        go_wp2_with fail
        refine HPN.out.mono ?_; rintro e w3 ⟨v3, rfl, ho3, hb3⟩
        have hB3 := hB.trans (hb3.mono hB.size)
        obtain ⟨a3, c3, hv3, hs3, -⟩ := ho3.sl
        rw [HML.out] at hs3 hv3
        subst hv3
        have hz3 : (w3.alloc (.cells #[.slice a3 m c3] 40)).heap.size = w3.heap.size + 1 := by simp
        have hb4 := (Below.refl w3.heap.size w3).alloc (Nat.le_refl _) (.cells #[.slice a3 m c3] 40)
        have hbx4 : Boxed (w3.alloc (.cells #[.slice a3 m c3] 40)) w3.heap.size 40 (.slice a3 m c3) := heap_alloc_eq _ _ _ rfl
        have hS4 := hs3.ext hb4
        have hT4 := (HT.out.ext hb3).ext hb4
        have hB4 := hB3.trans (hb4.mono hB3.size)
        have hgl4 : g < w3.heap.size := (HT.out.ext hb3).lt
        go_wp2_with fail
        have HT4 := Lib.hid hT4
        have HS4 := Lib.hid hS4
        clear hT4 hS4 hs3 ho3
        generalize (w3.alloc (.cells #[.slice a3 m c3] 40)) = w4 at *
        obtain ⟨X, hX⟩ : ∃ X, w3.heap.size = X := ⟨_, rfl⟩
        rw [hX] at hz3 hbx4 hgl4 ⊢
        clear hX hb4
        have HZ4 := Lib.hid hz3
        have hX4 : X < w4.heap.size := by omega
        clear hz3
        go_loopw [9] (fun i wr => ∃ k : Nat, 1 ≤ k ∧ i = .int .i64 (k : Nat) ∧ Below w4.heap.size w4 wr) (fun i _ => m - (intOf i).toNat)
        case atStart => exact ⟨1, Nat.le_refl _, rfl, Below.refl _ _⟩
        case round =>
          obtain ⟨j, hj, rfl, hB5⟩ := hrel
          have hbx5 := boxedT_ext hbx4 hB5
          have x1 := hbx5.cell
          have hX5 : X < wr.heap.size := heap_lt hbx5
          have j0 : (0 : Int) ≤ (j : Int) := by omega
          by_cases hjm : j < m
          · have j2 : (j : Int) < (m : Int) := by omega
            obtain ⟨j', rfl⟩ : ∃ j', j = j' + 1 := ⟨j - 1, by omega⟩
            have hs5 := HS4.out.ext hB5
            obtain ⟨bb, o, rfl, hbb, hkl, c1, -, -⟩ := hs5.at hjm
            obtain ⟨b2, o2, hbo, -, hkl2, d1, -, -⟩ := hs5.at (show j' < m by omega)
            cases hbo
            rw [List.getElem?_eq_getElem hkl, Option.getD_some] at c1
            rw [List.getElem?_eq_getElem hkl2, Option.getD_some] at d1
            have hlt2 : Host.cmp M[j'].h M[j' + 1].h < 0 := Tab.asc_at HA.out (Nat.lt_succ_self _) (List.getElem?_eq_getElem hkl2) (List.getElem?_eq_getElem hkl)
            have HCMP := Lib.hid (fun W => rp_compare M[j'].h M[j' + 1].h (HM.out _ (List.getElem_mem hkl2)) (HM.out _ (List.getElem_mem hkl)) W)
            obtain ⟨z, hz⟩ : ∃ z, Host.cmp M[j'].h M[j' + 1].h = z := ⟨_, rfl⟩
            rw [hz] at HCMP hlt2
            obtain ⟨sp, hsp⟩ : ∃ s, str M[j' + 1].h = s := ⟨_, rfl⟩
            obtain ⟨sq, hsq⟩ : ∃ s, str M[j'].h = s := ⟨_, rfl⟩
            rw [hsp] at c1 HCMP
            rw [hsq] at d1 HCMP
            have wk : IntKind.i64.wrap (j' : Int) = (j' : Int) := by rw [IntKind.wrap_i64]; omega
            have k0 : (0 : Int) ≤ (j' : Int) := by omega
            have k1 : (j' : Int) < (m : Int) := by omega
            have i3 : (0 : Int) ≤ (j' : Int) + 1 := by omega
            have i4 : (j' : Int) + 1 < (m : Int) := by omega
            have hz0 : ¬ 0 ≤ z := by omega
            have HCL := Lib.hid (show ∀ w', Ext wr w' → Ext wr w' ∧ w'.cell? ⟨X, 0, none⟩ = some (.slice (some ⟨bb, o, none⟩) m c3) ∧ w'.cell? ⟨bb, o + (j' + 1) * 3, none⟩ = some (.string sp) ∧ w'.cell? ⟨bb, o + j' * 3, none⟩ = some (.string sq) ∧ X < w'.heap.size ∧ bb < w'.heap.size from fun w' he =>
              ⟨he, (Below.cell he (p := ⟨X, 0, none⟩) hX5).trans x1, (Below.cell he (p := ⟨bb, o + (j' + 1) * 3, none⟩) hbb).trans c1, (Below.cell he (p := ⟨bb, o + j' * 3, none⟩) hbb).trans d1, Nat.lt_of_lt_of_le hX5 (Below.size he), Nat.lt_of_lt_of_le hbb (Below.size he)⟩)
            clear hz hsp hsq hkl hkl2 hs5 hlt2 hbx5 hbx4 j0 hj
            have HB5 := Lib.hid hB5
            clear hB5
            go_wp2_with fail
            go_region_held3 (fun w' => Ext wr w' ∧ w'.cell? ⟨X, 0, none⟩ = some (.slice (some ⟨bb, o, none⟩) m c3) ∧ w'.cell? ⟨bb, o + (j' + 1) * 3, none⟩ = some (.string sp) ∧ w'.cell? ⟨bb, o + j' * 3, none⟩ = some (.string sq) ∧ X < w'.heap.size ∧ bb < w'.heap.size) (first | assumption | exact HCL.out _ (Ext.drew (Ext.refl _)) | exact HCL.out _ (Ext.step (by assumption) (And.left (by assumption)))) (first | (go_at_call 21; go_must (refine (HCMP.out _).mono ?_); rintro e w9 ⟨rfl, hb9⟩))
            all_goals
              have hfin : Ext wr _ := And.left (by assumption)
              go_wp2_with fail
              go_roundw
              case rel => exact ⟨j' + 1 + 1, by omega, by go_num, HB5.out.trans (Below.mono hfin HB5.out.size)⟩
              case measure => simp [intOf]; omega
          · have j3 : ¬ (j : Int) < (m : Int) := by omega
            clear hbx5
            go_wp2_with fail
            refine (tb_all _ _).mono ?_; rintro e w6 ⟨rfl, rfl⟩
            have hfe := fun (W : World) => run_eql_func_nil (P := Tryd.prog) W Tryd.underlying52 (Fn.func 56) #[] #[.pointer (some ⟨wr.heap.size + 1, 0, none⟩)]
            go_wp2_with fail
            clear hfe
            have hb6 := ((Below.refl wr.heap.size wr).alloc (Nat.le_refl _) (.cells #[.int .i64 0] 3)).alloc (by simp) (.cells #[.pointer (some ⟨g, 0, none⟩)] 42)
            have hN6 : Boxed ((wr.alloc (.cells #[.int .i64 0] 3)).alloc (.cells #[.pointer (some ⟨g, 0, none⟩)] 42)) wr.heap.size 3 (.int .i64 0) := by
              unfold Boxed; rw [heap_alloc_lt _ _ _ (by simp), heap_alloc_eq _ _ _ rfl]
            have hP6 : Boxed ((wr.alloc (.cells #[.int .i64 0] 3)).alloc (.cells #[.pointer (some ⟨g, 0, none⟩)] 42)) (wr.heap.size + 1) 42 (.pointer (some ⟨g, 0, none⟩)) := by
              unfold Boxed; rw [heap_alloc_eq _ _ _ (by simp)]
            have hz6 : ((wr.alloc (.cells #[.int .i64 0] 3)).alloc (.cells #[.pointer (some ⟨g, 0, none⟩)] 42)).heap.size = wr.heap.size + 2 := by simp
            generalize ((wr.alloc (.cells #[.int .i64 0] 3)).alloc (.cells #[.pointer (some ⟨g, 0, none⟩)] 42)) = w6 at *
            have hT6 := (HT4.out.ext hB5).ext hb6
            have hX6 : Boxed w6 X 40 (.slice a3 m c3) := boxedT_ext (boxedT_ext hbx4 hB5) hb6
            have hB6 : Below w.heap.size w w6 := (hB4.trans (hB5.mono hB4.size)).trans (hb6.mono (hB4.trans (hB5.mono hB4.size)).size)
            have hww : w.heap.size ≤ wr.heap.size := (hB4.trans (hB5.mono hB4.size)).size
            obtain ⟨nb, hnb⟩ : ∃ nb, wr.heap.size = nb := ⟨_, rfl⟩
            rw [hnb] at hN6 hP6 hz6 hww hX5 ⊢
            have hseq := tb_seq (nb + 1) hT6 hP6
            rw [HML.out] at hseq
            have HSEQ := Lib.hid hseq
            have HVB := Lib.hid (show v.ownBlock ≠ some nb from fun e => by have := (HT4.out.2.1.lt _ e).2; have := hB5.size; omega)
            have HOB := Lib.hid (fun j (hj : v.ownBlock = some j) => hT6.2.1.lt j hj)
            obtain ⟨hf, hhf⟩ : ∃ hf, m / 2 = hf := ⟨_, rfl⟩
            have hdiv : (m : Int) / 2 = (hf : Int) := by omega
            have wp1 : IntKind.i64.wrap (hf : Int) = (hf : Int) := by rw [IntKind.wrap_i64]; omega
            have wp2 : IntKind.i64.wrap ((hf : Int) + 1) = (hf : Int) + 1 := by rw [IntKind.wrap_i64]; omega
            have HHF := Lib.hid hhf
            have hSI : SrtI w g X nb m v (.slice a3 m c3) M cap 0 w6 := ⟨hN6, hX6, hT6, hB6, by omega⟩
            have HSI := Lib.hid hSI
            clear hseq hhf hb6 hN6 hP6 hT6 hX6 hB6 hSI hB5 hnb x1 hbx4 j0 j3 hjm hj hb3 hB3 hB4 hX4 hB hk hlt
            refine (wpIn_wide (n := 4)).1 ?_
            refine wpIn_rangeIx2 (Kp := KpT (nb + 1) g v) (D := Unit) rfl (by omega) (gf := 56) (lb := #[.pointer (some ⟨nb + 1, 0, none⟩)]) rfl trivial (enters_of Tryd.func56 (by kernel_rfl) rfl) HSEQ.out kpT_t
              (fun W l o o' hl h1 h2 => ⟨World.putObj_heap_other (by omega), World.putObj_heap_other (by omega), fun j hj => World.putObj_heap_other (fun e => by have := (HOB.out j hj).2; omega)⟩) (Below.refl _ _) (fun _ => rfl)
              (fun k W => k ≤ hf ∧ SrtI w g X nb m v (.slice a3 m c3) M cap k W) (fun cd k W => cd = .exit 4 ∧ k = hf + 1 ∧ k ≤ m ∧ SrtI w g X nb m v (.slice a3 m c3) M cap k W)
              (fun k W l o o' hI hl h1 h2 => ⟨hI.1, hI.2.put hww (by omega) h1 h2⟩) (fun cd k W l o o' hI hl h1 h2 => ⟨hI.1, hI.2.1, hI.2.2.1, hI.2.2.2.put hww (by omega) h1 h2⟩)
              ?h0 (fun _ k W => k ≤ hf ∧ SrtI w g X nb m v (.slice a3 m c3) M cap k W) (fun _ k W l o o' hI hl h1 h2 => ⟨hI.1, hI.2.put hww (by omega) h1 h2⟩) ?round ?done ?stop
            case h0 =>
              intro o o'
              have hbe := ((Below.refl _ w6).alloc (Nat.le_refl _) o).alloc (by simp) o'
              have hS := HSI.out
              exact ⟨Nat.zero_le _, boxedT_ext hS.num hbe, boxedT_ext hS.box hbe, hS.tab.ext hbe, hS.bel.trans (hbe.mono hS.bel.size), by have := hbe.size; have := hS.big; omega⟩
            case round =>
              rintro l k W ⟨hkh, hI⟩ hk
              unfold tEnc
              gi_wp2
              refine ⟨below_keeps (Below.refl _ _), kpT_refl _ _ _ _, (), ⟨hkh, hI⟩, ?_⟩
              rintro lp W' ⟨hkh, hI⟩
              have x1 := hI.box.cell
              have x2 := hI.num.cell
              have f2 := hI.num.frozen
              have hXW := heap_lt hI.box
              have hnW := heap_lt hI.num
              have HIB := Lib.hid hI
              have hkg : X < nb ∧ g < nb := by omega
              have hvb : v.ownBlock ≠ some nb := HVB.out
              clear hI
              by_cases hkk : hf < k + 1
              · have hki : (hf : Int) < (k : Int) + 1 := by omega
                gi_wp2
                have hOth := (HIB.out.tab.2.1.lt)
                have hgb := HIB.out.tab.lt
                refine ⟨(KeepsOthers.setCell _ _ _).from _, rfl, by omega, by omega, ?_⟩
                exact HIB.out.count hkg hww hvb
              · have hki : ¬ (hf : Int) < (k : Int) + 1 := by omega
                gi_wp2
                refine ⟨(KeepsOthers.setCell _ _ _).from _, ⟨heap_setCell_other _ _ _ _ (by simp), heap_setCell_other _ _ _ _ (by simp only; omega), fun j hj => heap_setCell_other _ _ _ _ (fun e => hvb (by rw [hj, show j = nb from e]))⟩, by omega, ?_⟩
                exact HIB.out.count hkg hww hvb
            case done =>
              rintro D W hD ⟨hq, hI⟩ hK
              obtain ⟨q, hqm, hI, hq⟩ : ∃ q, q = m ∧ SrtI w g X nb m v (.slice a3 m c3) M cap q W ∧ q ≤ hf := ⟨m, rfl, hI, hq⟩
              have hmin : min (m : Int) ((hf : Int) + 1) = (q : Int) := by have := HHF.out; omega
              have hif : (if (hf : Int) + 1 < (m : Int) then (hf : Int) + 1 else (m : Int)) = (q : Int) := by have := HHF.out; split <;> omega
              clear hqm
              have x1 := hI.box.cell
              have x2 := hI.num.cell
              have hXW := heap_lt hI.box
              have hnW := heap_lt hI.num
              have HIB := Lib.hid hI
              have HCL := Lib.hid (show ∀ w', Ext W w' → Ext W w' ∧ w'.cell? ⟨X, 0, none⟩ = some (.slice a3 m c3) ∧ w'.cell? ⟨nb, 0, none⟩ = some (.int .i64 (q : Nat)) ∧ X < w'.heap.size ∧ nb < w'.heap.size ∧ TabW g w' g v M cap from fun w' he =>
                ⟨he, (Below.cell he (p := ⟨X, 0, none⟩) hXW).trans x1, (Below.cell he (p := ⟨nb, 0, none⟩) hnW).trans x2, Nat.lt_of_lt_of_le hXW (Below.size he), Nat.lt_of_lt_of_le hnW (Below.size he), hI.tab.ext he⟩)
              have HK := Lib.hid hK
              have HLEN := Lib.hid (show ∀ W', TabW g W' g v M cap → Calls Tryd.prog 33 #[.pointer (some ⟨g, 0, none⟩)] W' fun e w' => e = .returned (.int .i64 (m : Nat)) ∧ w' = W' from fun W' hT => by have := tb_len hT; rwa [HML.out] at this)
              clear hI hK x1 x2
              gi_wp2
              go_wp2_with fail
              go_region_held3 (fun w' => Ext W w' ∧ w'.cell? ⟨X, 0, none⟩ = some (.slice a3 m c3) ∧ w'.cell? ⟨nb, 0, none⟩ = some (.int .i64 (q : Nat)) ∧ X < w'.heap.size ∧ nb < w'.heap.size ∧ TabW g w' g v M cap) (first | assumption | exact HCL.out _ (Ext.drew (Ext.refl _)) | exact HCL.out _ (Ext.step (by assumption) (And.left (by assumption)))) (first | (go_at_call 33; go_must (refine (HLEN.out _ (by simp only [*])).mono ?_); rintro e w9 ⟨rfl, hb9⟩) | (go_at_call 25; go_must (refine (HAW.out _).mono ?_); rintro e w9 ⟨rfl, hb9⟩))
              all_goals
                have hfin : Ext W _ := And.left (by assumption)
                have hD2 := (Below.block hfin D (heap_lt HK.out)).trans HK.out
                go_wp2_with fail
                refine ⟨by simp, .inl ⟨_, _, rfl, run_takeDeferred hD2, ⟨.bool true, by simp [results, Tryd.results8, go_sem], ?_⟩⟩⟩
                have hBf := HIB.out.bel.trans (Below.mono hfin HIB.out.bel.size)
                exact ⟨rfl, below_put hBf (by omega) hD2 rfl hBf.size _⟩
            case stop =>
              rintro D cd q W hD hkm ⟨rfl, hq, hq2, hI⟩ hK
              have hmin : min (m : Int) ((hf : Int) + 1) = (q : Int) := by have := HHF.out; omega
              have hif : (if (hf : Int) + 1 < (m : Int) then (hf : Int) + 1 else (m : Int)) = (q : Int) := by have := HHF.out; split <;> omega
              clear hq
              have x1 := hI.box.cell
              have x2 := hI.num.cell
              have hXW := heap_lt hI.box
              have hnW := heap_lt hI.num
              have HIB := Lib.hid hI
              have HCL := Lib.hid (show ∀ w', Ext W w' → Ext W w' ∧ w'.cell? ⟨X, 0, none⟩ = some (.slice a3 m c3) ∧ w'.cell? ⟨nb, 0, none⟩ = some (.int .i64 (q : Nat)) ∧ X < w'.heap.size ∧ nb < w'.heap.size ∧ TabW g w' g v M cap from fun w' he =>
                ⟨he, (Below.cell he (p := ⟨X, 0, none⟩) hXW).trans x1, (Below.cell he (p := ⟨nb, 0, none⟩) hnW).trans x2, Nat.lt_of_lt_of_le hXW (Below.size he), Nat.lt_of_lt_of_le hnW (Below.size he), hI.tab.ext he⟩)
              have HK := Lib.hid hK
              have HLEN := Lib.hid (show ∀ W', TabW g W' g v M cap → Calls Tryd.prog 33 #[.pointer (some ⟨g, 0, none⟩)] W' fun e w' => e = .returned (.int .i64 (m : Nat)) ∧ w' = W' from fun W' hT => by have := tb_len hT; rwa [HML.out] at this)
              clear hI hK x1 x2
              gi_wp2
              go_wp2_with fail
              go_region_held3 (fun w' => Ext W w' ∧ w'.cell? ⟨X, 0, none⟩ = some (.slice a3 m c3) ∧ w'.cell? ⟨nb, 0, none⟩ = some (.int .i64 (q : Nat)) ∧ X < w'.heap.size ∧ nb < w'.heap.size ∧ TabW g w' g v M cap) (first | assumption | exact HCL.out _ (Ext.drew (Ext.refl _)) | exact HCL.out _ (Ext.step (by assumption) (And.left (by assumption)))) (first | (go_at_call 33; go_must (refine (HLEN.out _ (by simp only [*])).mono ?_); rintro e w9 ⟨rfl, hb9⟩) | (go_at_call 25; go_must (refine (HAW.out _).mono ?_); rintro e w9 ⟨rfl, hb9⟩))
              all_goals
                have hfin : Ext W _ := And.left (by assumption)
                have hD2 := (Below.block hfin D (heap_lt HK.out)).trans HK.out
                go_wp2_with fail
                refine ⟨by simp, .inl ⟨_, _, rfl, run_takeDeferred hD2, ⟨.bool true, by simp [results, Tryd.results8, go_sem], ?_⟩⟩⟩
                have hBf := HIB.out.bel.trans (Below.mono hfin HIB.out.bel.size)
                exact ⟨rfl, below_put hBf (by omega) hD2 rfl hBf.size _⟩
  · have hb : (decide (n ≤ 60) && L.all fun x => decide (x.h.length ≤ 300)) = false := by
      rw [Bool.eq_false_iff]; intro e
      rw [Bool.and_eq_true, List.all_eq_true] at e
      exact hsm ⟨of_decide_eq_true e.1, fun p hp => of_decide_eq_true (e.2 p hp)⟩
    rw [hb] at HSP
    have HSP := Lib.hid HSP.out
    clear hb h hsm
    go_enter Tryd.func8, Tryd.ntmps8
    go_wp2_with fail
    refine HSP.out.mono ?_; rintro e w1 ⟨rfl, hb1⟩
    go_wp2_with fail
    refine (HAW.out _).mono ?_; rintro e w2 ⟨rfl, hb2⟩
    go_wp2_with fail
    go_ret
    exact ⟨rfl, hb1.trans (hb2.mono hb1.size)⟩

end Go.Proofs.YtcmeajaakdaeeaaDoor

/-
  The walk of PintableOrderFree.
-/
namespace Go.Proofs.YtcmeajaakdaeeaaDoor
open Go.RowKit Go.Shelf

attribute [local go_sem] Oper.semAt_some

/-- Two elements have changed places. -/
def swp (L : List Pin) (x y : Nat) : List Pin := (L.set x (L[y]?.getD Pin.none)).set y (L[x]?.getD Pin.none)
theorem swp_perm {L : List Pin} {x y : Nat} (hx : x < L.length) (hy : y < L.length) : (swp L x y).Perm L := by
  unfold swp
  rw [List.getElem?_eq_getElem hx, List.getElem?_eq_getElem hy, Option.getD_some, Option.getD_some]
  exact List.set_set_perm hx hy
theorem swp_len (L : List Pin) (x y : Nat) : (swp L x y).length = L.length := by unfold swp; simp

theorem puts_length (cap : Int) : ∀ (l L : List Pin), (Tab.puts cap L l).length ≤ L.length + l.length
  | [], L => Nat.le_refl _
  | p :: l, L => by
    have h1 := puts_length cap l (Tab.put L cap p).1
    have h2 := Tab.put_grow L cap p
    have e0 : Tab.puts cap L (p :: l) = Tab.puts cap (Tab.put L cap p).1 l := rfl
    rw [e0]; simp only [List.length_cons]; omega
theorem puts_sub (cap : Int) : ∀ (l L : List Pin) (q : Pin), q ∈ Tab.puts cap L l → q ∈ L ∨ q ∈ l
  | [], L, q, h => .inl h
  | p :: l, L, q, h => by
    have e0 : Tab.puts cap L (p :: l) = Tab.puts cap (Tab.put L cap p).1 l := rfl
    rw [e0] at h
    rcases puts_sub cap l _ q h with e | e
    · rcases Tab.put_sub _ _ _ _ e with rfl | e
      · exact .inr List.mem_cons_self
      · exact .inl e
    · exact .inr (List.mem_cons_of_mem _ e)

/-- Putting the next pin: the table's blocks are its own or new ones. -/
theorem put_next {B : Nat} {W : World} {g : Nat} {v : Value} {l : List Pin} (hT : TabW B W g v (Tab.puts 1000 [] l) 1000) (hl : l.length ≤ 100) (hL : ∀ q ∈ l, q.h.length ≤ 1000000) (p : Pin) (hp : p.h.length ≤ 1000000) :
    Calls Tryd.prog 29 #[.pointer (some ⟨g, 0, none⟩), pv p] W fun e W' => (∃ z, e = .returned (.int .i64 z)) ∧ ∃ v', TabW B W' g v' (Tab.puts 1000 [] (l ++ [p])) 1000 ∧ Upd (Foot g v) W (Foot g v') W' := by
  have hlen := puts_length 1000 l []
  refine (tb_put hT p (by simp at hlen; omega) (Tab.puts_asc _ _ asc_nil) (fun q hq => ?_) hp).mono ?_
  · rcases puts_sub _ _ _ _ hq with e | e
    · cases e
    · exact hL q e
  · rintro e W' ⟨v', h1, h2, h3⟩
    rw [Tab.puts_snoc]
    exact ⟨⟨_, h1⟩, v', h2, h3⟩

theorem upd_set6 (G : Nat) (w : World) (o1 o2 o3 o4 o5 o6 : Nat) (v1 v2 v3 v4 v5 v6 : Value) : Upd (fun k => k = G) w (fun k => k = G) ((((((w.setCell ⟨G, o1, none⟩ v1).setCell ⟨G, o2, none⟩ v2).setCell ⟨G, o3, none⟩ v3).setCell ⟨G, o4, none⟩ v4).setCell ⟨G, o5, none⟩ v5).setCell ⟨G, o6, none⟩ v6).drew := by
  have h : ∀ (W : World) (o : Nat) (v : Value), Upd (fun k => k = G) w (fun k => k = G) W → Upd (fun k => k = G) w (fun k => k = G) (W.setCell ⟨G, o, none⟩ v) := fun W o v h => h.setCell (g := G) (.inl rfl) o v
  exact (h _ _ _ (h _ _ _ (h _ _ _ (h _ _ _ (h _ _ _ (h _ _ _ (Upd.refl _ _))))))).drew

theorem OwnN.drew' {base : Nat} {w : World} {v : Value} {l : List Pin} (h : OwnN base w v l) : OwnN base w.drew v l := h.stay (fun _ _ => rfl)

/-- The hosts of a list are different from each other. -/
def Dist (l : List Pin) : Prop := l.Pairwise fun a b => a.h ≠ b.h
theorem Dist.snoc {l : List Pin} {p : Pin} (h : Dist l) (hp : ∀ q ∈ l, q.h ≠ p.h) : Dist (l ++ [p]) := by
  unfold Dist at *
  rw [List.pairwise_append]
  exact ⟨h, by simp, fun a ha b hb => by simp at hb; subst hb; exact hp a ha⟩
theorem Dist.perm {l k : List Pin} (h : Dist l) (hp : k.Perm l) : Dist k := (hp.pairwise_iff (fun h e => h e.symm)).2 h

/-- The first table's state: it holds the first pins; what lies below its block is as it was. -/
def StA (W0 : World) (g : Nat) (l : List Pin) (W : World) : Prop := ∃ v, TabW g W g v (Tab.puts 1000 [] l) 1000 ∧ Upd (fun k => k = g) W0 (Foot g v) W
theorem StA.put {W0 : World} {g : Nat} {l : List Pin} {W : World} (h : StA W0 g l W) (hl : l.length ≤ 100) (hL : ∀ q ∈ l, q.h.length ≤ 1000000) (p : Pin) (hp : p.h.length ≤ 1000000) :
    Calls Tryd.prog 29 #[.pointer (some ⟨g, 0, none⟩), pv p] W fun e W' => (∃ z, e = .returned (.int .i64 z)) ∧ StA W0 g (l ++ [p]) W' := by
  obtain ⟨v, hT, hU⟩ := h
  refine (put_next hT hl hL p hp).mono ?_
  rintro e W' ⟨hz, v', hT', hU'⟩
  exact ⟨hz, v', hT', hU.trans hU'⟩
theorem Upd.pt {g : Nat} {v : Value} {W0 W : World} (h : Upd (fun k => k = g) W0 (Foot g v) W) {j : Nat} (hj : j < W0.heap.size) (hne : j ≠ g) : W.heap[j]? = W0.heap[j]? := h.block j hj hne

set_option maxHeartbeats 8000000 in
set_option maxRecDepth 100000 in
theorem tab_order (a : Option Addr) (n c : Nat) (L : List Pin) (i k : Int) (w : World) (h : SlN w a n c L) (_hi : (Lit.int .i64 i).wf = true) (_hk : (Lit.int .i64 k).wf = true) :
    Calls Tryd.prog 7 #[.slice a n c, .int .i64 i, .int .i64 k] w fun e w' => e = .returned (.bool true) ∧ Below w.heap.size w w' := by
  have HSP := Lib.hid (keep_smallPins 40 a n c L w h)
  have HAW := Lib.hid tab_awake
  have hle := h.le
  by_cases hn2 : n < 2
  · have i2 : (n : Int) < 2 := by omega
    clear h
    go_enter Tryd.func7, Tryd.ntmps7
    go_wp2_with fail
    refine (HAW.out _).mono ?_; rintro e w2 ⟨rfl, hb2⟩
    go_wp2_with fail
    go_ret
    exact ⟨rfl, hb2⟩
  have i2 : ¬ (n : Int) < 2 := by omega
  have i2' : decide ((n : Int) < 2) = false := decide_eq_false i2
  by_cases hsm : n ≤ 40 ∧ ∀ p ∈ L, p.h.length ≤ 300
  · have hb : (decide (n ≤ 40) && L.all fun x => decide (x.h.length ≤ 300)) = true := by
      rw [decide_eq_true hsm.1, Bool.true_and, List.all_eq_true]; exact fun p hp => decide_eq_true (hsm.2 p hp)
    rw [hb] at HSP
    have HSP := Lib.hid HSP.out
    have HL := Lib.hid (show ∀ p ∈ L, p.h.length ≤ 1000000 from fun p hp => Nat.le_trans (hsm.2 p hp) (by omega))
    have HSL := Lib.hid h
    have HLN := Lib.hid h.len
    have hn40 : n ≤ 40 := hsm.1
    have HNEW := Lib.hid (show ∀ W, Calls Tryd.prog 26 #[.int .i64 1000] W fun e w' => e = .returned (.tuple #[.pointer (some ⟨W.heap.size, 0, none⟩), .int .i64 0]) ∧ w' = W.alloc (.cells #[.slice none 0 0, .int .i64 1000] 71) from fun W => (tb_new 1000 W).mono (fun e w' hh => by unfold NewP at hh; rwa [if_neg (by omega)] at hh))
    have HOP := Lib.hid (fun W (hB : Below w.heap.size w W) => keep_ownPins a n c L W (h.ext hB) (by omega))
    have HM1 := Lib.hid (fun W => keep_mod i n W (by omega) (by omega))
    have HM2 := Lib.hid (fun W => keep_mod k n W (by omega) (by omega))
    obtain ⟨x, hx⟩ : ∃ x : Nat, i % (n : Int) = (x : Int) := ⟨(i % (n : Int)).toNat, by have := Int.emod_nonneg i (show (n : Int) ≠ 0 by omega); omega⟩
    obtain ⟨y, hy⟩ : ∃ y : Nat, k % (n : Int) = (y : Int) := ⟨(k % (n : Int)).toNat, by have := Int.emod_nonneg k (show (n : Int) ≠ 0 by omega); omega⟩
    have hxn : x < n := by have := Int.emod_lt_of_pos i (show (0 : Int) < (n : Int) by omega); omega
    have hyn : y < n := by have := Int.emod_lt_of_pos k (show (0 : Int) < (n : Int) by omega); omega
    rw [hx] at HM1
    rw [hy] at HM2
    clear hb h hsm hx hy hle hn2
    go_enter Tryd.func7, Tryd.ntmps7
    go_wp2_with fail
    refine HSP.out.mono ?_; rintro e w1 ⟨rfl, hb1⟩
    go_wp2_with fail
    refine (HNEW.out _).mono ?_; rintro e w2 ⟨rfl, rfl⟩
    go_wp2_with fail
    refine (HNEW.out _).mono ?_; rintro e w3 ⟨rfl, hw3⟩
    have hz3 : w3.heap.size = w1.heap.size + 2 := by rw [hw3]; simp
    have hA3 : TabW w1.heap.size w3 w1.heap.size (.slice none 0 0) [] 1000 := by rw [hw3]; exact (TabW.new w1 1000 (Nat.le_refl _)).ext ((Below.refl _ _).alloc (Nat.le_refl _) _)
    have hC3 : TabW (w1.heap.size + 1) w3 (w1.heap.size + 1) (.slice none 0 0) [] 1000 := by
      rw [hw3]
      have := TabW.new (w1.alloc (.cells #[.slice none 0 0, .int .i64 1000] 71)) 1000 (B := w1.heap.size + 1) (by simp)
      simpa using this
    have hB3 : Below w.heap.size w w3 := by rw [hw3]; exact (hb1.alloc hb1.size _).alloc (by have := hb1.size; simp; omega) _
    have HA3 := Lib.hid hA3
    have HC3 := Lib.hid hC3
    rw [show (w1.alloc (.cells #[.slice none 0 0, .int .i64 1000] 71)).heap.size = w1.heap.size + 1 by simp]
    obtain ⟨g, hg⟩ : ∃ g, w1.heap.size = g := ⟨_, rfl⟩
    have hgw : w.heap.size ≤ g := by rw [← hg]; exact hb1.size
    rw [hg] at HA3 HC3 hz3 ⊢
    clear hA3 hC3 hw3 hg hb1
    go_wp2_with fail
    refine (HOP.out _ hB3).mono ?_; rintro e w4 ⟨v4, rfl, ho4, hb4⟩
    go_wp2_with fail
    refine (HM1.out _).mono ?_; rintro e w5 ⟨rfl, rfl⟩
    go_wp2_with fail
    refine (HM2.out _).mono ?_; rintro e w6 ⟨rfl, rfl⟩
    have hB4 := hB3.trans (hb4.mono hB3.size)
    obtain ⟨a4, c4, hv4, hs4, -⟩ := ho4.sl
    rw [HLN.out] at hs4 hv4
    subst hv4
    obtain ⟨G, rfl⟩ : ∃ G, a4 = some ⟨G, 0, none⟩ := by
      rcases ho4.addr.2 with e | e
      · subst e; obtain ⟨b, o, hbo, -⟩ := hs4.at hxn; cases hbo
      · exact e
    obtain ⟨-, -, -, fz, hGlt, hG3, hnc4, -⟩ := ho4.cells3 hxn
    obtain ⟨bb, o, hbo, -, hkx, xa, xb, xc⟩ := hs4.at hxn
    cases hbo
    obtain ⟨bb, o, hbo, -, hky, ya, yb, yc⟩ := hs4.at hyn
    cases hbo
    rw [Nat.zero_add] at xa xb xc ya yb yc
    have hsw : OwnN w3.heap.size w4 (.slice (some ⟨G, 0, none⟩) n c4) L := ho4
    have HSW := Lib.hid (((hsw.set3 (i := x) (by rw [HLN.out]; exact hxn) (L[y]?.getD Pin.none)).set3 (i := y) (by rw [List.length_set, HLN.out]; exact hyn) (L[x]?.getD Pin.none)))
    have HPM := Lib.hid (swp_perm (L := L) (by rw [HLN.out]; exact hxn) (by rw [HLN.out]; exact hyn))
    have HSD := Lib.hid (show swp L x y = (L.set x (L[y]?.getD Pin.none)).set y (L[x]?.getD Pin.none) from rfl)
    have x0 : (0 : Int) ≤ (x : Int) := by omega
    have x1 : (x : Int) < (n : Int) := by omega
    have y0 : (0 : Int) ≤ (y : Int) := by omega
    have y1 : (y : Int) < (n : Int) := by omega
    have hpp : x = y → L[x]?.getD Pin.none = L[y]?.getD Pin.none := fun e => by rw [e]
    clear hsw ho4 hs4
    generalize L[x]?.getD Pin.none = px at *
    generalize L[y]?.getD Pin.none = py at *
    obtain ⟨sx, hsx⟩ : ∃ s, str px.h = s := ⟨_, rfl⟩
    obtain ⟨sy, hsy⟩ : ∃ s, str py.h = s := ⟨_, rfl⟩
    rw [hsx] at HSW xa
    rw [hsy] at HSW ya
    have HSS := Lib.hid (And.intro hsx hsy)
    clear hsx hsy hkx hky
    go_wp2_with fail
    have hU7 : Upd (fun k => k = G) w4 (fun k => k = G) (((((((w4.setCell ⟨G, x * 3, none⟩ (.string sy)).setCell ⟨G, x * 3 + 1, none⟩ (.bool py.s)).setCell ⟨G, x * 3 + 2, none⟩ (.int .i64 py.x)).setCell ⟨G, y * 3, none⟩ (.string sx)).setCell ⟨G, y * 3 + 1, none⟩ (.bool px.s)).setCell ⟨G, y * 3 + 2, none⟩ (.int .i64 px.x)).drew) := upd_set6 _ _ _ _ _ _ _ _ _ _ _ _ _ _
    have hO7 : OwnN w3.heap.size (((((((w4.setCell ⟨G, x * 3, none⟩ (.string sy)).setCell ⟨G, x * 3 + 1, none⟩ (.bool py.s)).setCell ⟨G, x * 3 + 2, none⟩ (.int .i64 py.x)).setCell ⟨G, y * 3, none⟩ (.string sx)).setCell ⟨G, y * 3 + 1, none⟩ (.bool px.s)).setCell ⟨G, y * 3 + 2, none⟩ (.int .i64 px.x)).drew) (.slice (some ⟨G, 0, none⟩) n c4) (swp L x y) := by rw [HSD.out]; exact HSW.out.drew'
    have hA7 : TabW g (((((((w4.setCell ⟨G, x * 3, none⟩ (.string sy)).setCell ⟨G, x * 3 + 1, none⟩ (.bool py.s)).setCell ⟨G, x * 3 + 2, none⟩ (.int .i64 py.x)).setCell ⟨G, y * 3, none⟩ (.string sx)).setCell ⟨G, y * 3 + 1, none⟩ (.bool px.s)).setCell ⟨G, y * 3 + 2, none⟩ (.int .i64 px.x)).drew) g (.slice none 0 0) [] 1000 := (HA3.out.ext hb4).upd hU7 (fun k hk e => by
      rcases hk with rfl | hk
      · omega
      · cases hk)
    have hC7 : TabW (g + 1) (((((((w4.setCell ⟨G, x * 3, none⟩ (.string sy)).setCell ⟨G, x * 3 + 1, none⟩ (.bool py.s)).setCell ⟨G, x * 3 + 2, none⟩ (.int .i64 py.x)).setCell ⟨G, y * 3, none⟩ (.string sx)).setCell ⟨G, y * 3 + 1, none⟩ (.bool px.s)).setCell ⟨G, y * 3 + 2, none⟩ (.int .i64 px.x)).drew) (g + 1) (.slice none 0 0) [] 1000 := (HC3.out.ext hb4).upd hU7 (fun k hk e => by
      rcases hk with rfl | hk
      · omega
      · cases hk)
    have hB7 : Below w.heap.size w (((((((w4.setCell ⟨G, x * 3, none⟩ (.string sy)).setCell ⟨G, x * 3 + 1, none⟩ (.bool py.s)).setCell ⟨G, x * 3 + 2, none⟩ (.int .i64 py.x)).setCell ⟨G, y * 3, none⟩ (.string sx)).setCell ⟨G, y * 3 + 1, none⟩ (.bool px.s)).setCell ⟨G, y * 3 + 2, none⟩ (.int .i64 px.x)).drew) := hU7.below hB4 (fun k e => by subst e; have := hB3.size; omega) hB4.size
    have hs7 : g + 2 ≤ (((((((w4.setCell ⟨G, x * 3, none⟩ (.string sy)).setCell ⟨G, x * 3 + 1, none⟩ (.bool py.s)).setCell ⟨G, x * 3 + 2, none⟩ (.int .i64 py.x)).setCell ⟨G, y * 3, none⟩ (.string sx)).setCell ⟨G, y * 3 + 1, none⟩ (.bool px.s)).setCell ⟨G, y * 3 + 2, none⟩ (.int .i64 px.x)).drew).heap.size := by have := hb4.size; simp; omega
    have hG7 : G < (((((((w4.setCell ⟨G, x * 3, none⟩ (.string sy)).setCell ⟨G, x * 3 + 1, none⟩ (.bool py.s)).setCell ⟨G, x * 3 + 2, none⟩ (.int .i64 py.x)).setCell ⟨G, y * 3, none⟩ (.string sx)).setCell ⟨G, y * 3 + 1, none⟩ (.bool px.s)).setCell ⟨G, y * 3 + 2, none⟩ (.int .i64 px.x)).drew).heap.size := by simpa using hGlt
    obtain ⟨L2, hL2⟩ : ∃ L2, swp L x y = L2 := ⟨_, rfl⟩
    rw [hL2] at HPM hO7
    clear HSD hL2
    have HU7 := Lib.hid (And.intro hO7 (And.intro hA7 (And.intro hC7 (And.intro hB7 (And.intro hs7 hG7)))))
    have HPP := Lib.hid hpp
    clear hU7 hO7 hA7 hC7 hB7 hs7 hG7 hpp
    by_cases hxy : x = y
    case' pos =>
      have hpe := HPP.out hxy
      subst hxy
      subst hpe
      have : sx = sy := HSS.out.1.symm.trans HSS.out.2
      subst this
    all_goals
      go_region
      obtain ⟨hO7, hA7, hC7, hB7, hs7, hG7⟩ := HU7.out
      clear HU7 HSW
      revert hO7 hA7 hC7 hB7 hs7 hG7
      generalize World.drew _ = W7
      intro hO7 hA7 hC7 hB7 hs7 hG7
      have hSA : StA W7 g [] W7 := ⟨.slice none 0 0, hA7, (Upd.refl _ _).grow (fun k hk => by
        rcases hk with rfl | hk
        · exact .inl rfl
        · cases hk)⟩
      have HSA := Lib.hid hSA
      have HO7 := Lib.hid hO7
      have HC7 := Lib.hid hC7
      have hgG : g + 2 ≤ G := by omega
      clear hSA hO7 hA7 hC7 xa xb xc ya yb yc fz hGlt hG3 hnc4 hz3 hb4 hB3 hB4
      go_wp2_with fail
      go_loopw [14] (fun i wr => ∃ j : Nat, j ≤ n ∧ i = .int .i64 (j : Nat) ∧ Hid (Dist (L.take j)) ∧ StA W7 g (L.take j) wr) (fun i _ => n - (intOf i).toNat)
      case atStart => exact ⟨0, Nat.zero_le _, rfl, Lib.hid List.Pairwise.nil, HSA.out⟩
      case round =>
        obtain ⟨j, hj, rfl, HD, hS⟩ := hrel
        have j0 : (0 : Int) ≤ (j : Int) := by omega
        have hbel : Below w.heap.size w wr := by
          obtain ⟨v, hT, hU⟩ := hS
          exact hU.below hB7 (fun k e => by subst e; exact hgw) hB7.size
        by_cases hjn : j < n
        · have j1 : (j : Int) < (n : Int) := by omega
          have HS := Lib.hid hS
          have hsl := HSL.out.ext hbel
          clear hS
          obtain ⟨bb, o, rfl, hbb, hkl, c1, c2, c3⟩ := hsl.at hjn
          have HTK := Lib.hid (List.take_succ_eq_append_getElem hkl)
          have HPL := Lib.hid (HL.out _ (List.getElem_mem hkl))
          rw [List.getElem?_eq_getElem hkl, Option.getD_some] at c1 c2 c3
          have HSL2 := Lib.hid hsl
          generalize L[j] = p at *
          have HBL := Lib.hid hbel
          clear hsl hbel hkl
          obtain ⟨sp, hsp⟩ : ∃ s, str p.h = s := ⟨_, rfl⟩
          have HSPP := Lib.hid hsp
          rw [hsp] at c1
          clear hsp
          obtain ⟨W8, rfl⟩ : ∃ W8, W8 = wr := ⟨_, rfl⟩
          have HCC := Lib.hid (show ∀ W', Ext W8 W' → W'.cell? ⟨bb, o + j * 3, none⟩ = some (.string sp) ∧ W'.cell? ⟨bb, o + j * 3 + 1, none⟩ = some (.bool p.s) ∧ W'.cell? ⟨bb, o + j * 3 + 2, none⟩ = some (.int .i64 p.x) ∧ bb < W'.heap.size from fun W' he =>
            ⟨(Below.cell he (p := ⟨bb, o + j * 3, none⟩) hbb).trans c1, (Below.cell he (p := ⟨bb, o + j * 3 + 1, none⟩) hbb).trans c2, (Below.cell he (p := ⟨bb, o + j * 3 + 2, none⟩) hbb).trans c3, Nat.lt_of_lt_of_le hbb (Below.size he)⟩)
          clear c1 c2 c3 hbb
          go_wp2_with fail
          go_loopw [15] (fun i wr => ∃ m : Nat, m ≤ j ∧ i = .int .i64 (m : Nat) ∧ Hid (∀ q ∈ L.take m, q.h ≠ p.h) ∧ Ext W8 wr) (fun i _ => n - (intOf i).toNat)
          case atStart => exact ⟨0, Nat.zero_le _, rfl, Lib.hid (by simp), Ext.refl _⟩
          case round =>
            obtain ⟨m, hm, rfl, HN, hE⟩ := hrel
            have m0 : (0 : Int) ≤ (m : Int) := by omega
            obtain ⟨e1, e2, e3, hbb9⟩ := HCC.out _ hE
            by_cases hmj : m < j
            · have m1 : (m : Int) < (j : Int) := by omega
              have m2 : (m : Int) < (n : Int) := by omega
              obtain ⟨b2, o2, hbo, -, hkl2, d1, -, -⟩ := (HSL2.out.ext hE).at (show m < n by omega)
              cases hbo
              rw [List.getElem?_eq_getElem hkl2, Option.getD_some] at d1
              have HTK2 := Lib.hid (List.take_succ_eq_append_getElem hkl2)
              generalize L[m] = q at *
              have HE := Lib.hid hE
              by_cases heq : q.h = p.h
              · have ht : ((str q.h).toList == sp.toList) = true := by rw [← HSPP.out, heq]; simp
                obtain ⟨sq, hsq⟩ : ∃ s, str q.h = s := ⟨_, rfl⟩
                rw [hsq] at d1 ht
                clear hkl2 hE heq hsq
                go_wp2_with fail
                go_quiet (fail)
                go_wp2_with fail
                refine (HAW.out _).mono ?_; rintro e w9 ⟨rfl, hb9⟩
                go_wp2_with fail
                go_ret
                have hBq := HBL.out.trans (Below.mono HE.out HBL.out.size)
                exact ⟨rfl, (hBq.trans (below_drewN' _ _ _)).trans (hb9.mono hBq.size)⟩
              · have ht : ((str q.h).toList == sp.toList) = false := by rw [← HSPP.out, str_toList, str_toList]; exact beq_eq_false_iff_ne.2 heq
                have HNN := Lib.hid (show ∀ r ∈ L.take (m + 1), r.h ≠ p.h by
                  rw [HTK2.out]; intro r hr
                  rcases List.mem_append.1 hr with hr | hr
                  · exact HN.out r hr
                  · simp at hr; subst hr; exact heq)
                obtain ⟨sq, hsq⟩ : ∃ s, str q.h = s := ⟨_, rfl⟩
                rw [hsq] at d1 ht
                clear hkl2 hE heq hsq
                go_wp2_with fail
                go_quiet (fail)
                go_wp2_with fail
                go_roundw
                case rel => exact ⟨m + 1, by omega, by go_num, HNN, HE.out.trans (below_drewN' _ _ _)⟩
                case measure => simp [intOf]; omega
            · obtain rfl : m = j := by omega
              have HPN := Lib.hid (show StA W7 g (L.take m) wr from by
                obtain ⟨v, hT, hU⟩ := HS.out
                exact ⟨v, hT.ext hE, hU.ext hE⟩)
              have HPT := Lib.hid (HPN.out.put (by rw [List.length_take]; omega) (fun r hr => HL.out r (List.mem_of_mem_take hr)) p HPL.out)
              unfold pv at HPT
              rw [HSPP.out] at HPT
              have HDD := Lib.hid (show Dist (L.take (m + 1)) by rw [HTK.out]; exact HD.out.snoc HN.out)
              clear hE
              go_wp2_with fail
              refine HPT.out.mono ?_; rintro e w9 ⟨⟨z, rfl⟩, hS9⟩
              rw [← HTK.out] at hS9
              go_wp2_with fail
              go_roundw
              case rel => exact ⟨m + 1, by omega, by go_num, HDD, hS9⟩
              case measure => simp [intOf]; omega
        · obtain rfl : j = n := by omega
          obtain ⟨vA, hTA, hUA⟩ := hS
          rw [List.take_of_length_le (by rw [HLN.out]; exact Nat.le_refl _)] at hTA HD
          have hTC : TabW (g + 1) wr (g + 1) (.slice none 0 0) [] 1000 := HC7.out.upd hUA (fun k hk e => by
            rcases hk with rfl | hk
            · omega
            · cases hk)
          have hO8 : OwnN w3.heap.size wr (.slice (some ⟨G, 0, none⟩) j c4) L2 := HO7.out.stay (fun k hk => by
            have hkG : k = G := by simpa [Value.ownBlock] using hk.symm
            subst hkG
            exact hUA.block _ hG7 (by omega))
          have hvA : ∀ k, Foot g vA k → k ≠ g + 1 ∧ k ≠ G := fun k hk => by
            rcases hUA.new k hk with e | e
            · exact ⟨by omega, by omega⟩
            · exact ⟨by omega, by omega⟩
          have HVA := Lib.hid hvA
          have HTA := Lib.hid hTA
          have hSB : StA wr (g + 1) [] wr := ⟨.slice none 0 0, hTC, (Upd.refl _ _).grow (fun k hk => by
            rcases hk with rfl | hk
            · exact .inl rfl
            · cases hk)⟩
          have HSB := Lib.hid hSB
          have HO8 := Lib.hid hO8
          have hl2 : L2.length = j := by rw [HPM.out.length_eq, HLN.out]
          have hG8 : G < wr.heap.size := Nat.lt_of_lt_of_le hG7 hUA.size
          have HL2 := Lib.hid hl2
          have HLE2 := Lib.hid (show ∀ q ∈ L2, q.h.length ≤ 1000000 from fun q hq => HL.out q (HPM.out.mem_iff.1 hq))
          clear hTA hUA hTC hO8 hvA hSB hl2
          obtain ⟨W8, rfl⟩ : ∃ W8, W8 = wr := ⟨_, rfl⟩
          go_wp2_with fail
          go_loopw [16] (fun i wr => ∃ m : Nat, m ≤ j ∧ i = .int .i64 (m : Nat) ∧ StA W8 (g + 1) (L2.take m) wr) (fun i _ => j - (intOf i).toNat)
          case atStart => exact ⟨0, Nat.zero_le _, rfl, HSB.out⟩
          case round =>
            obtain ⟨m, hm, rfl, hS⟩ := hrel
            have m0 : (0 : Int) ≤ (m : Int) := by omega
            have hO9 : OwnN w3.heap.size wr (.slice (some ⟨G, 0, none⟩) j c4) L2 := by
              obtain ⟨v, hT, hU⟩ := hS
              exact HO8.out.stay (fun k hk => by
                have hkG : k = G := by simpa [Value.ownBlock] using hk.symm
                subst hkG
                exact hU.block _ hG8 (by omega))
            by_cases hmj : m < j
            · have m1 : (m : Int) < (j : Int) := by omega
              obtain ⟨b2, o2, hbo, hb2, hkl2, d1, d2, d3⟩ := hO9.slN.at hmj
              cases hbo
              rw [List.getElem?_eq_getElem hkl2, Option.getD_some, Nat.zero_add] at d1 d2 d3
              have HTK2 := Lib.hid (List.take_succ_eq_append_getElem hkl2)
              have HPT := Lib.hid (hS.put (by rw [List.length_take]; omega) (fun r hr => HLE2.out r (List.mem_of_mem_take hr)) L2[m] (HLE2.out _ (List.getElem_mem hkl2)))
              generalize L2[m] = q at *
              unfold pv at HPT
              obtain ⟨sq, hsq⟩ : ∃ s, str q.h = s := ⟨_, rfl⟩
              rw [hsq] at d1 HPT
              clear hkl2 hsq hS hO9
              go_wp2_with fail
              refine HPT.out.mono ?_; rintro e w9 ⟨⟨z, rfl⟩, hS9⟩
              rw [← HTK2.out] at hS9
              go_wp2_with fail
              go_roundw
              case rel => exact ⟨m + 1, by omega, by go_num, hS9⟩
              case measure => simp [intOf]; omega
            · obtain rfl : m = j := by omega
              obtain ⟨vB, hTB, hUB⟩ := hS
              rw [List.take_of_length_le (by rw [HL2.out]; exact Nat.le_refl _)] at hTB
              have hTA9 : TabW g wr g vA (Tab.puts 1000 [] L) 1000 := HTA.out.upd hUB (fun k hk e => (HVA.out k hk).1 e)
              have hB9 : Below w.heap.size w wr := hUB.below hbel (fun k e => by omega) hbel.size
              have hpp : Tab.puts 1000 [] L = Tab.puts 1000 [] L2 := Tab.puts_perm (fun q => HPM.out.mem_iff.symm) HD.out (HD.out.perm HPM.out) (by rw [HLN.out]; omega) (by rw [HL2.out]; omega)
              rw [← hpp] at hTB
              have hlen := puts_length 1000 L []
              rw [HLN.out] at hlen
              simp only [List.length_nil, Nat.zero_add] at hlen
              obtain ⟨R, hR⟩ : ∃ R, Tab.puts 1000 [] L = R := ⟨_, rfl⟩
              rw [hR] at hTA9 hTB hlen
              have HPA := Lib.hid (tb_pins hTA9 (by omega))
              have HTB := Lib.hid hTB
              have HRL := Lib.hid hlen
              clear hTA9 hTB hUB hpp hR hO9 hlen
              go_wp2_with fail
              refine HPA.out.mono ?_; rintro e w9 ⟨v9, rfl, ho9, hb9⟩
              obtain ⟨a9, c9, hv9, hs9, -⟩ := ho9.sl
              subst hv9
              have HS9 := Lib.hid hs9
              have HPB := Lib.hid (tb_pins (HTB.out.ext hb9) (by have := HRL.out; omega))
              clear ho9 hs9
              go_wp2_with fail
              refine HPB.out.mono ?_; rintro e w10 ⟨v10, rfl, ho10, hb10⟩
              obtain ⟨a10, c10, hv10, hs10, -⟩ := ho10.sl
              subst hv10
              have HKP := Lib.hid (keep_pins a9 a10 R.length R.length c9 c10 R R w10 (HS9.out.ext hb10) hs10)
              rw [decide_eq_true rfl] at HKP
              have HKP := Lib.hid HKP.out
              have hB10 := (hB9.trans (hb9.mono hB9.size)).trans (hb10.mono (hB9.trans (hb9.mono hB9.size)).size)
              clear ho10 hs10
              obtain ⟨rl, hrl⟩ : ∃ rl, R.length = rl := ⟨_, rfl⟩
              rw [hrl] at HKP ⊢
              clear hrl
              go_wp2_with fail
              refine HKP.out.mono ?_; rintro e w11 ⟨rfl, hb11⟩
              have hB11 := hB10.trans (hb11.mono hB10.size)
              go_wp2_with fail
              refine (HAW.out _).mono ?_; rintro e w12 ⟨rfl, hb12⟩
              go_wp2_with fail
              go_ret
              exact ⟨rfl, hB11.trans (hb12.mono hB11.size)⟩
  · have hb : (decide (n ≤ 40) && L.all fun x => decide (x.h.length ≤ 300)) = false := by
      rw [Bool.eq_false_iff]; intro e
      rw [Bool.and_eq_true, List.all_eq_true] at e
      exact hsm ⟨of_decide_eq_true e.1, fun p hp => of_decide_eq_true (e.2 p hp)⟩
    rw [hb] at HSP
    have HSP := Lib.hid HSP.out
    clear hb h hsm
    go_enter Tryd.func7, Tryd.ntmps7
    go_wp2_with fail
    refine HSP.out.mono ?_; rintro e w1 ⟨rfl, hb1⟩
    go_wp2_with fail
    refine (HAW.out _).mono ?_; rintro e w2 ⟨rfl, hb2⟩
    go_wp2_with fail
    go_ret
    exact ⟨rfl, hb1.trans (hb2.mono hb1.size)⟩

end Go.Proofs.YtcmeajaakdaeeaaDoor
