/-
  The walk through Dirty of the package sector: slices.Sorted(maps.Keys(cache)) by the shelf's contracts.
-/
import Derived.Test.YtedmnbmfbgenjaaSector4
import Derived.Shelf.SlIterI.Nil
import Derived.Shelf.SlIterI.Sorted
import Derived.Shelf.SortM.Plain
import Derived.Shelf.SortM.SortNone
namespace Go.Proofs.Ytedmnbmfbgenjaa
open Go.RowKit Go.Maps Go.Sort Go.Shelf

def laysKeys_ren : Go.Shelf.Ren := ⟨fun | 7 => 79 | 10 => 91 | n => n, fun | 23 => 90 | 26 => 3 | 3 => 26 | 28 => 111 | 0 => 0 | 27 => 110 | 33 => 126 | 4 => 4 | n => n, fun | n => n⟩
theorem laysKeys : SlLaysZI.n7 Try.prog laysKeys_ren := {
  mixed := by kernel_rfl
  f7 := ⟨Try.f79.name, by kernel_rfl, Try.func79.trans (congrArg some (by kernel_rfl))⟩
  f10 := ⟨Try.f91.name, by kernel_rfl, Try.func91.trans (congrArg some (by kernel_rfl))⟩
  t0 := Try.underlying0
  a0 := Try.isAgg0
  z0 := Try.sizeOf0
  v0 := Try.zeroValue0
  t4 := Try.underlying4
  a4 := Try.isAgg4
  z4 := Try.sizeOf4
  v4 := Try.zeroValue4
  t23 := Try.underlying90
  a23 := Try.isAgg90
  z23 := Try.sizeOf90
  v23 := Try.zeroValue90
  t26 := Try.underlying3
  a26 := Try.isAgg3
  z26 := Try.sizeOf3
  v26 := Try.zeroValue3
  t27 := Try.underlying110
  a27 := Try.isAgg110
  z27 := Try.sizeOf110
  v27 := Try.zeroValue110
  t28 := Try.underlying111
  a28 := Try.isAgg111
  z28 := Try.sizeOf111
  v28 := Try.zeroValue111
  t33 := Try.underlying126
  a33 := Try.isAgg126
  z33 := Try.sizeOf126
  v33 := Try.zeroValue126 }
def laysSorted_ren : Go.Shelf.Ren := ⟨fun | 6 => 78 | 8 => 89 | 9 => 90 | 11 => 95 | 13 => 97 | 12 => 96 | 23 => 109 | 24 => 110 | 14 => 100 | 15 => 101 | 16 => 102 | 17 => 103 | 18 => 104 | 19 => 105 | 20 => 106 | 21 => 107 | 22 => 108 | 25 => 112 | 26 => 113 | 27 => 114 | 28 => 115 | 29 => 116 | 30 => 117 | 31 => 118 | n => n, fun | 26 => 3 | 28 => 111 | 24 => 62 | 0 => 0 | 3 => 3 | 37 => 128 | 48 => 42 | 50 => 148 | 4 => 4 | 40 => 139 | 39 => 138 | 45 => 144 | 5 => 5 | 9 => 9 | 51 => 150 | 55 => 154 | 57 => 156 | 58 => 157 | 33 => 126 | n => n, fun | n => n⟩
theorem laysSorted : SlLaysZI.n6 Try.prog laysSorted_ren := {
  mixed := by kernel_rfl
  f6 := ⟨Try.f78.name, by kernel_rfl, Try.func78.trans (congrArg some (by kernel_rfl))⟩
  f8 := ⟨Try.f89.name, by kernel_rfl, Try.func89.trans (congrArg some (by kernel_rfl))⟩
  f11 := ⟨Try.f95.name, by kernel_rfl, Try.func95.trans (congrArg some (by kernel_rfl))⟩
  t0 := Try.underlying0
  a0 := Try.isAgg0
  z0 := Try.sizeOf0
  v0 := Try.zeroValue0
  t24 := Try.underlying62
  a24 := Try.isAgg62
  z24 := Try.sizeOf62
  v24 := Try.zeroValue62
  t26 := Try.underlying3
  a26 := Try.isAgg3
  z26 := Try.sizeOf3
  v26 := Try.zeroValue3
  t28 := Try.underlying111
  a28 := Try.isAgg111
  z28 := Try.sizeOf111
  v28 := Try.zeroValue111
  i26 := by kernel_rfl }
def laysSort_ren : Go.Shelf.Ren := ⟨fun | 5 => 90 | 8 => 97 | 7 => 96 | 19 => 109 | 20 => 110 | 10 => 100 | 11 => 101 | 12 => 102 | 13 => 103 | 14 => 104 | 15 => 105 | 16 => 106 | 17 => 107 | 18 => 108 | 30 => 112 | 31 => 113 | 32 => 114 | 33 => 115 | 34 => 116 | 35 => 117 | 40 => 118 | n => n, fun | 23 => 62 | 25 => 3 | 3 => 3 | 32 => 128 | 22 => 62 | 0 => 0 | 44 => 42 | 46 => 148 | 4 => 4 | 36 => 139 | 35 => 138 | 41 => 144 | 5 => 5 | 9 => 9 | 53 => 150 | 57 => 154 | 63 => 156 | 64 => 157 | n => n, fun | n => n⟩
theorem laysSort : SlLaysM.n5 Try.prog laysSort_ren := {
  mixed := by kernel_rfl
  f5 := ⟨Try.f90.name, by kernel_rfl, Try.func90.trans (congrArg some (by kernel_rfl))⟩
  f7 := ⟨Try.f96.name, by kernel_rfl, Try.func96.trans (congrArg some (by kernel_rfl))⟩
  f8 := Try.func97.trans (congrArg some (by kernel_rfl))
  f10 := ⟨Try.f100.name, by kernel_rfl, Try.func100.trans (congrArg some (by kernel_rfl))⟩
  f11 := ⟨Try.f101.name, by kernel_rfl, Try.func101.trans (congrArg some (by kernel_rfl))⟩
  f12 := ⟨Try.f102.name, by kernel_rfl, Try.func102.trans (congrArg some (by kernel_rfl))⟩
  f13 := ⟨Try.f103.name, by kernel_rfl, Try.func103.trans (congrArg some (by kernel_rfl))⟩
  f14 := ⟨Try.f104.name, by kernel_rfl, Try.func104.trans (congrArg some (by kernel_rfl))⟩
  f15 := ⟨Try.f105.name, by kernel_rfl, Try.func105.trans (congrArg some (by kernel_rfl))⟩
  f16 := ⟨Try.f106.name, by kernel_rfl, Try.func106.trans (congrArg some (by kernel_rfl))⟩
  f17 := ⟨Try.f107.name, by kernel_rfl, Try.func107.trans (congrArg some (by kernel_rfl))⟩
  f18 := ⟨Try.f108.name, by kernel_rfl, Try.func108.trans (congrArg some (by kernel_rfl))⟩
  f19 := Try.func109.trans (congrArg some (by kernel_rfl))
  f20 := Try.func110.trans (congrArg some (by kernel_rfl))
  f30 := ⟨Try.f112.name, by kernel_rfl, Try.func112.trans (congrArg some (by kernel_rfl))⟩
  f31 := Try.func113.trans (congrArg some (by kernel_rfl))
  f32 := Try.func114.trans (congrArg some (by kernel_rfl))
  f33 := ⟨Try.f115.name, by kernel_rfl, Try.func115.trans (congrArg some (by kernel_rfl))⟩
  f34 := ⟨Try.f116.name, by kernel_rfl, Try.func116.trans (congrArg some (by kernel_rfl))⟩
  f35 := ⟨Try.f117.name, by kernel_rfl, Try.func117.trans (congrArg some (by kernel_rfl))⟩
  f40 := ⟨Try.f118.name, by kernel_rfl, Try.func118.trans (congrArg some (by kernel_rfl))⟩
  t0 := Try.underlying0
  a0 := Try.isAgg0
  z0 := Try.sizeOf0
  v0 := Try.zeroValue0
  t3 := Try.underlying3
  a3 := Try.isAgg3
  z3 := Try.sizeOf3
  v3 := Try.zeroValue3
  t4 := Try.underlying4
  a4 := Try.isAgg4
  z4 := Try.sizeOf4
  v4 := Try.zeroValue4
  t5 := Try.underlying5
  a5 := Try.isAgg5
  z5 := Try.sizeOf5
  v5 := Try.zeroValue5
  t9 := Try.underlying9
  a9 := Try.isAgg9
  z9 := Try.sizeOf9
  v9 := Try.zeroValue9
  t22 := Try.underlying62
  a22 := Try.isAgg62
  z22 := Try.sizeOf62
  v22 := Try.zeroValue62
  t23 := Try.underlying62
  a23 := Try.isAgg62
  z23 := Try.sizeOf62
  v23 := Try.zeroValue62
  t25 := Try.underlying3
  a25 := Try.isAgg3
  z25 := Try.sizeOf3
  v25 := Try.zeroValue3
  t32 := Try.underlying128
  a32 := Try.isAgg128
  z32 := Try.sizeOf128
  v32 := Try.zeroValue128
  t35 := Try.underlying138
  a35 := Try.isAgg138
  z35 := Try.sizeOf138
  v35 := Try.zeroValue138
  t36 := Try.underlying139
  a36 := Try.isAgg139
  z36 := Try.sizeOf139
  v36 := Try.zeroValue139
  t41 := Try.underlying144
  a41 := Try.isAgg144
  z41 := Try.sizeOf144
  v41 := Try.zeroValue144
  t44 := Try.underlying42
  a44 := Try.isAgg42
  z44 := Try.sizeOf42
  v44 := Try.zeroValue42
  t46 := Try.underlying148
  a46 := Try.isAgg148
  z46 := Try.sizeOf148
  v46 := Try.zeroValue148
  t53 := Try.underlying150
  a53 := Try.isAgg150
  z53 := Try.sizeOf150
  v53 := Try.zeroValue150
  t57 := Try.underlying154
  a57 := Try.isAgg154
  z57 := Try.sizeOf154
  v57 := Try.zeroValue154
  t63 := Try.underlying156
  a63 := Try.isAgg156
  z63 := Try.sizeOf156
  v63 := Try.zeroValue156
  t64 := Try.underlying157
  a64 := Try.isAgg157
  z64 := Try.sizeOf157
  v64 := Try.zeroValue157 }

/-- slices.Sort's two contracts at this dump. -/
theorem lays_sorts (m : Nat) : AnyZI.SortsIn Try.prog laysSorted_ren Fence.wide m :=
  ⟨fun blk off cap ss W hH hblk hsz => callsIn_wide.2 (AnyM.slices_Sort_int laysSort blk off cap ss W hH hblk hsz),
   fun p cap W => callsIn_wide.2 (AnyM.slices_Sort_int_none laysSort p cap W)⟩

/-! ### The cache's keys -/
/-- How an element of the cache is read here: held as it is. -/
def RH (v : Value) : Option (DataW Value × List MemPlace) := some (.held v, [])

theorem sorted_perm' {l : List (Lit × DataW Value)} : (l.foldr DataW.insert []).Perm l := Go.WideShapes.sorted_perm l

set_option maxRecDepth 100000 in
theorem MapIs.keys {R : Nat → Prop} {w : World} {m : Nat} {ca : List (Option (List UInt8))} (h : MapIs R w m ca) (hn : ca.length ≤ 4096) :
    ∃ D0 : DataW Value, w.ownsMap Try.prog 3 RH m 4096 D0 ∧ Maps.size D0 ≤ 4096 ∧ ∀ ss : List Int, ss.Perm (intKeys D0) → ss.mergeSort (fun x y => decide (x ≤ y)) = Disk.dirty ⟨[], ca, [], 0, false⟩ := by
  obtain ⟨es, clock, hb, hE⟩ := h
  have hsz : es.size ≤ 4096 := by rw [hE.size]; exact Nat.le_trans List.countP_le_length hn
  have hrd : ∀ x ∈ es.toList, ∃ i : Nat, x.key = .int .i64 (i : Int) ∧ (∃ y, ca[i]? = some (some y)) ∧ WideElems.rd Try.prog 3 RH x = some (.int .i64 (i : Int), .held x.val) := by
    intro x hx
    obtain ⟨i, y, a, c, q1, q2, -⟩ := hE.mem x hx
    have hi := (List.getElem?_eq_some_iff.1 q1).1
    refine ⟨i, q2, ⟨y, q1⟩, ?_⟩
    have hk := Maps.keyOf_int_mk (P := Try.prog) (k := 3) (q := .i64) Try.underlying3 (a := (i : Int)) (by simp [Lit.wf, IntKind.min, IntKind.max, IntKind.signed, IntKind.bits]; omega)
    unfold WideElems.rd
    rw [q2, hk]; rfl
  refine ⟨_, ⟨es, clock, hb, ⟨by unfold maxLen; omega, hE.stamped, fun x hx => ?_⟩, hsz, rfl⟩, ?_, ?_⟩
  · obtain ⟨i, -, -, h2⟩ := hrd x hx; exact ⟨_, h2⟩
  · simp only [Maps.size, length_sorted]; simpa using hsz
  · intro ss hp
    have hp2 : ss.Perm (es.toList.map fun x => Go.intOf (WideElems.rg Try.prog 3 RH x).1) := by
      refine hp.trans ?_
      unfold intKeys
      rw [show (es.toList.map fun x => Go.intOf (WideElems.rg Try.prog 3 RH x).1) = (es.toList.map (WideElems.rg Try.prog 3 RH)).map fun p => Go.intOf p.1 by rw [List.map_map]; rfl]
      exact (sorted_perm').map _
    have hkey : ∀ x ∈ es.toList, ∃ i : Nat, Go.intOf (WideElems.rg Try.prog 3 RH x).1 = (i : Int) ∧ x.key = .int .i64 (i : Int) ∧ ∃ y, ca[i]? = some (some y) := by
      intro x hx
      obtain ⟨i, h1, h2, h3⟩ := hrd x hx
      exact ⟨i, by rw [WideElems.rg_of h3]; rfl, h1, h2⟩
    have hnd : (es.toList.map fun x => Go.intOf (WideElems.rg Try.prog 3 RH x).1).Nodup := by
      have h5 := ((MapKept.stamped_iff es clock).1 hE.stamped).2.2
      refine List.pairwise_map.2 (h5.imp_of_mem fun {a b} ha hb hne e => hne ?_)
      obtain ⟨i, e1, e2, -⟩ := hkey a ha
      obtain ⟨j, e3, e4, -⟩ := hkey b hb
      rw [e1, e3] at e
      rw [e2, e4, e]
    have hdn : (Disk.dirty ⟨[], ca, [], 0, false⟩).Pairwise (fun a b => a < b) := by
      unfold Disk.dirty
      refine List.pairwise_map.2 ?_
      exact (List.Pairwise.filter _ List.pairwise_lt_range).imp (fun {a b} h => by omega)
    have hperm : ss.Perm (Disk.dirty ⟨[], ca, [], 0, false⟩) := by
      refine hp2.trans ((List.perm_ext_iff_of_nodup hnd (hdn.imp (fun {a b} h => by omega))).2 fun z => ?_)
      constructor
      · intro hz
        obtain ⟨x, hx, rfl⟩ := List.mem_map.1 hz
        obtain ⟨i, e1, -, y, hy⟩ := hkey x hx
        rw [e1]
        unfold Disk.dirty
        refine List.mem_map.2 ⟨i, List.mem_filter.2 ⟨List.mem_range.2 (List.getElem?_eq_some_iff.1 hy).1, ?_⟩, rfl⟩
        show (ca[i]?.getD none).isSome = true
        rw [hy]; rfl
      · intro hz
        unfold Disk.dirty at hz
        obtain ⟨i, hi, rfl⟩ := List.mem_map.1 hz
        have h6 := (List.mem_filter.1 hi).2
        change (ca[i]?.getD none).isSome = true at h6
        cases hc : ca[i]? with
        | none => rw [hc] at h6; simp at h6
        | some o =>
          cases o with
          | none => rw [hc] at h6; simp at h6
          | some y =>
            obtain ⟨e, he, hek⟩ := hE.all i y hc
            obtain ⟨j, e1, e2, -⟩ := hkey e he
            rw [hek] at e2
            injection e2 with _ e2
            exact List.mem_map.2 ⟨e, he, by rw [e1, ← e2]⟩
    have tr : ∀ a b c : Int, decide (a ≤ b) = true → decide (b ≤ c) = true → decide (a ≤ c) = true := fun a b c h1 h2 => by simp only [decide_eq_true_eq] at *; omega
    have to : ∀ a b : Int, (decide (a ≤ b) || decide (b ≤ a)) = true := fun a b => by simp only [Bool.or_eq_true, decide_eq_true_eq]; omega
    exact List.Perm.eq_of_pairwise (le := fun a b => decide (a ≤ b) = true) (fun a b _ _ h1 h2 => by simp only [decide_eq_true_eq] at h1 h2; omega) (List.pairwise_mergeSort tr to ss) (hdn.imp (fun {a b} h => by simp only [decide_eq_true_eq]; omega)) ((List.mergeSort_perm ss _).trans hperm)

set_option maxHeartbeats 1000000 in
set_option maxRecDepth 100000 in
theorem sd_dirty {F : Nat → Prop} {w : World} {g s m : Nat} {fa : Option Addr} {fn fc : Nat} {d : Disk.Dk} (h : PD F w g s m fa fn fc d) :
    Calls Try.prog 43 #[.pointer (some ⟨g, 0, none⟩)] w fun e w' => ∃ v, e = .returned v ∧ OwnI w.heap.size w' v (Disk.dirty d) ∧ Below w.heap.size w w' := by
  have q1 := h.cells.2.1
  have hmx : d.ca.length ≤ 4096 := by rw [h.ok.len]; exact h.ok.max
  obtain ⟨D0, hown, hsz, hss⟩ := h.map.keys hmx
  have hml := h.map.lt
  have HSS := Lib.hid hss
  clear hss
  refine (callsIn_wide (n := 6)).1 ?_
  have hseq : SeqGives Fence.wide 2 Try.prog 91 #[.pointer (some ⟨w.heap.size, 0, none⟩)] encZ (fun ss => ss.Perm (intKeys D0)) (Maps.size D0) (w.alloc (.cells #[.map (some m)] 90)) :=
    AnyZI.keys_gives (ρ := laysKeys_ren) { laysKeys with } Fence.wide _ trivial rfl (by omega) w.heap.size m 4096 D0 _ (by simp) (by rw [World.cell?_alloc_at _ _ _ _ rfl]; rfl) (by
      obtain ⟨es, clock, hb, Ft, hs, hD⟩ := hown
      exact ⟨es, clock, (Below.heap_alloc _ _ m hml).trans hb, Ft, hs, hD⟩)
  have cK : ∀ mb W, CallsIn Fence.wide 5 Try.prog 79 #[.map mb] W fun e w' => e = .returned (.func (.func 91) #[] #[.pointer (some ⟨W.heap.size, 0, none⟩)]) ∧ w' = W.alloc (.cells #[.map mb] 90) := fun mb W => AnyZI.keys_in laysKeys Fence.wide 5 trivial rfl mb W
  have cS := AnyZI.sorted_in laysSorted Fence.wide 5 trivial trivial trivial trivial rfl (by omega) (lays_sorts _) (enters_of Try.func90 (by kernel_rfl) rfl) 91 #[.pointer (some ⟨w.heap.size, 0, none⟩)] trivial (enters_of Try.func91 (by kernel_rfl) rfl) _ _ (by unfold maxLen; omega) (by omega) _ hseq
  change CallsIn _ _ Try.prog 78 _ _ _ at cS
  have hfK : Fence.wide.fn 79 := trivial
  have hfS : Fence.wide.fn 78 := trivial
  clear hseq
  refine callsIn_of_wp Try.func43 rfl trivial ?_ rfl
  simp only [Try.ntmps43, List.size_toArray, List.length_cons, List.length_nil, Nat.reduceAdd, Nat.reduceSub, Array.replicate_succ, Array.replicate_zero, List.push_toArray, List.append_toArray, List.nil_append, List.cons_append]
  gi_wp2_with (first
    | (gi_at_call 79; refine (cK _ _).mono ?_; rintro e w' ⟨rfl, rfl⟩)
    | (gi_at_call 78; refine cS.mono ?_; rintro e w' ⟨v, ss, rfl, hS, hrow, hnil, hb⟩))
  go_ret
  have hd := HSS.out ss hS
  have hd' : ss.mergeSort (fun x y => decide (x ≤ y)) = Disk.dirty d := hd
  have hlen : ss.length = (Disk.dirty d).length := by rw [← hd', List.length_mergeSort]
  refine ⟨v, rfl, ?_, ((Below.refl _ w).alloc (Nat.le_refl _) _).trans (hb.mono (by simp))⟩
  unfold OwnI
  have := ownsRow_base_a (base' := w.heap.size) hrow (by simp)
  rw [hd', hlen] at this
  exact this

end Go.Proofs.Ytedmnbmfbgenjaa
