/-
  The walk through Dirty of the package sector: slices.Sorted(maps.Keys(cache)) by the shelf's contracts.
-/
import Derived.Test.YtabeelcidlhniaaGreatRun8
import Derived.Shelf.SlIterI.Nil
import Derived.Shelf.SlIterI.Sorted
import Derived.Shelf.SortM.Plain
import Derived.Shelf.SortM.SortNone
namespace Go.Proofs.YtabeelcidlhniaaGreat
open Go.RowKit Go.Maps Go.Sort Go.Shelf

def laysKeys_ren : Go.Shelf.Ren := ⟨fun | 7 => 60 | 10 => 82 | n => n, fun | 23 => 62 | 26 => 3 | 3 => 37 | 28 => 94 | 0 => 0 | 27 => 93 | 33 => 114 | 4 => 4 | n => n, fun | n => n⟩
theorem laysKeys : SlLaysZI.n7 Tryz.prog laysKeys_ren := {
  mixed := by kernel_rfl
  f7 := ⟨Tryz.f60.name, by kernel_rfl, Tryz.func60.trans (congrArg some (by kernel_rfl))⟩
  f10 := ⟨Tryz.f82.name, by kernel_rfl, Tryz.func82.trans (congrArg some (by kernel_rfl))⟩
  t0 := Tryz.underlying0
  a0 := Tryz.isAgg0
  z0 := Tryz.sizeOf0
  v0 := Tryz.zeroValue0
  t4 := Tryz.underlying4
  a4 := Tryz.isAgg4
  z4 := Tryz.sizeOf4
  v4 := Tryz.zeroValue4
  t23 := Tryz.underlying62
  a23 := Tryz.isAgg62
  z23 := Tryz.sizeOf62
  v23 := Tryz.zeroValue62
  t26 := Tryz.underlying3
  a26 := Tryz.isAgg3
  z26 := Tryz.sizeOf3
  v26 := Tryz.zeroValue3
  t27 := Tryz.underlying93
  a27 := Tryz.isAgg93
  z27 := Tryz.sizeOf93
  v27 := Tryz.zeroValue93
  t28 := Tryz.underlying94
  a28 := Tryz.isAgg94
  z28 := Tryz.sizeOf94
  v28 := Tryz.zeroValue94
  t33 := Tryz.underlying114
  a33 := Tryz.isAgg114
  z33 := Tryz.sizeOf114
  v33 := Tryz.zeroValue114 }
def laysSorted_ren : Go.Shelf.Ren := ⟨fun | 6 => 59 | 8 => 80 | 9 => 81 | 11 => 92 | 13 => 94 | 12 => 93 | 23 => 107 | 24 => 108 | 14 => 98 | 15 => 99 | 16 => 100 | 17 => 101 | 18 => 102 | 19 => 103 | 20 => 104 | 21 => 105 | 22 => 106 | 25 => 110 | 26 => 111 | 27 => 112 | 28 => 113 | 29 => 114 | 30 => 115 | 31 => 116 | n => n, fun | 26 => 3 | 28 => 94 | 24 => 56 | 0 => 0 | 3 => 3 | 37 => 115 | 48 => 24 | 50 => 139 | 4 => 4 | 40 => 130 | 39 => 129 | 45 => 135 | 5 => 5 | 9 => 9 | 51 => 141 | 55 => 145 | 57 => 147 | 58 => 148 | 33 => 114 | n => n, fun | n => n⟩
theorem laysSorted : SlLaysZI.n6 Tryz.prog laysSorted_ren := {
  mixed := by kernel_rfl
  f6 := ⟨Tryz.f59.name, by kernel_rfl, Tryz.func59.trans (congrArg some (by kernel_rfl))⟩
  f8 := ⟨Tryz.f80.name, by kernel_rfl, Tryz.func80.trans (congrArg some (by kernel_rfl))⟩
  f11 := ⟨Tryz.f92.name, by kernel_rfl, Tryz.func92.trans (congrArg some (by kernel_rfl))⟩
  t0 := Tryz.underlying0
  a0 := Tryz.isAgg0
  z0 := Tryz.sizeOf0
  v0 := Tryz.zeroValue0
  t24 := Tryz.underlying56
  a24 := Tryz.isAgg56
  z24 := Tryz.sizeOf56
  v24 := Tryz.zeroValue56
  t26 := Tryz.underlying3
  a26 := Tryz.isAgg3
  z26 := Tryz.sizeOf3
  v26 := Tryz.zeroValue3
  t28 := Tryz.underlying94
  a28 := Tryz.isAgg94
  z28 := Tryz.sizeOf94
  v28 := Tryz.zeroValue94
  i26 := by kernel_rfl }
def laysSort_ren : Go.Shelf.Ren := ⟨fun | 5 => 81 | 8 => 94 | 7 => 93 | 19 => 107 | 20 => 108 | 10 => 98 | 11 => 99 | 12 => 100 | 13 => 101 | 14 => 102 | 15 => 103 | 16 => 104 | 17 => 105 | 18 => 106 | 30 => 110 | 31 => 111 | 32 => 112 | 33 => 113 | 34 => 114 | 35 => 115 | 40 => 116 | n => n, fun | 23 => 56 | 25 => 3 | 3 => 3 | 32 => 115 | 22 => 56 | 0 => 0 | 44 => 24 | 46 => 139 | 4 => 4 | 36 => 130 | 35 => 129 | 41 => 135 | 5 => 5 | 9 => 9 | 53 => 141 | 57 => 145 | 63 => 147 | 64 => 148 | n => n, fun | n => n⟩
theorem laysSort : SlLaysM.n5 Tryz.prog laysSort_ren := {
  mixed := by kernel_rfl
  f5 := ⟨Tryz.f81.name, by kernel_rfl, Tryz.func81.trans (congrArg some (by kernel_rfl))⟩
  f7 := ⟨Tryz.f93.name, by kernel_rfl, Tryz.func93.trans (congrArg some (by kernel_rfl))⟩
  f8 := Tryz.func94.trans (congrArg some (by kernel_rfl))
  f10 := ⟨Tryz.f98.name, by kernel_rfl, Tryz.func98.trans (congrArg some (by kernel_rfl))⟩
  f11 := ⟨Tryz.f99.name, by kernel_rfl, Tryz.func99.trans (congrArg some (by kernel_rfl))⟩
  f12 := ⟨Tryz.f100.name, by kernel_rfl, Tryz.func100.trans (congrArg some (by kernel_rfl))⟩
  f13 := ⟨Tryz.f101.name, by kernel_rfl, Tryz.func101.trans (congrArg some (by kernel_rfl))⟩
  f14 := ⟨Tryz.f102.name, by kernel_rfl, Tryz.func102.trans (congrArg some (by kernel_rfl))⟩
  f15 := ⟨Tryz.f103.name, by kernel_rfl, Tryz.func103.trans (congrArg some (by kernel_rfl))⟩
  f16 := ⟨Tryz.f104.name, by kernel_rfl, Tryz.func104.trans (congrArg some (by kernel_rfl))⟩
  f17 := ⟨Tryz.f105.name, by kernel_rfl, Tryz.func105.trans (congrArg some (by kernel_rfl))⟩
  f18 := ⟨Tryz.f106.name, by kernel_rfl, Tryz.func106.trans (congrArg some (by kernel_rfl))⟩
  f19 := Tryz.func107.trans (congrArg some (by kernel_rfl))
  f20 := Tryz.func108.trans (congrArg some (by kernel_rfl))
  f30 := ⟨Tryz.f110.name, by kernel_rfl, Tryz.func110.trans (congrArg some (by kernel_rfl))⟩
  f31 := Tryz.func111.trans (congrArg some (by kernel_rfl))
  f32 := Tryz.func112.trans (congrArg some (by kernel_rfl))
  f33 := ⟨Tryz.f113.name, by kernel_rfl, Tryz.func113.trans (congrArg some (by kernel_rfl))⟩
  f34 := ⟨Tryz.f114.name, by kernel_rfl, Tryz.func114.trans (congrArg some (by kernel_rfl))⟩
  f35 := ⟨Tryz.f115.name, by kernel_rfl, Tryz.func115.trans (congrArg some (by kernel_rfl))⟩
  f40 := ⟨Tryz.f116.name, by kernel_rfl, Tryz.func116.trans (congrArg some (by kernel_rfl))⟩
  t0 := Tryz.underlying0
  a0 := Tryz.isAgg0
  z0 := Tryz.sizeOf0
  v0 := Tryz.zeroValue0
  t3 := Tryz.underlying3
  a3 := Tryz.isAgg3
  z3 := Tryz.sizeOf3
  v3 := Tryz.zeroValue3
  t4 := Tryz.underlying4
  a4 := Tryz.isAgg4
  z4 := Tryz.sizeOf4
  v4 := Tryz.zeroValue4
  t5 := Tryz.underlying5
  a5 := Tryz.isAgg5
  z5 := Tryz.sizeOf5
  v5 := Tryz.zeroValue5
  t9 := Tryz.underlying9
  a9 := Tryz.isAgg9
  z9 := Tryz.sizeOf9
  v9 := Tryz.zeroValue9
  t22 := Tryz.underlying56
  a22 := Tryz.isAgg56
  z22 := Tryz.sizeOf56
  v22 := Tryz.zeroValue56
  t23 := Tryz.underlying56
  a23 := Tryz.isAgg56
  z23 := Tryz.sizeOf56
  v23 := Tryz.zeroValue56
  t25 := Tryz.underlying3
  a25 := Tryz.isAgg3
  z25 := Tryz.sizeOf3
  v25 := Tryz.zeroValue3
  t32 := Tryz.underlying115
  a32 := Tryz.isAgg115
  z32 := Tryz.sizeOf115
  v32 := Tryz.zeroValue115
  t35 := Tryz.underlying129
  a35 := Tryz.isAgg129
  z35 := Tryz.sizeOf129
  v35 := Tryz.zeroValue129
  t36 := Tryz.underlying130
  a36 := Tryz.isAgg130
  z36 := Tryz.sizeOf130
  v36 := Tryz.zeroValue130
  t41 := Tryz.underlying135
  a41 := Tryz.isAgg135
  z41 := Tryz.sizeOf135
  v41 := Tryz.zeroValue135
  t44 := Tryz.underlying24
  a44 := Tryz.isAgg24
  z44 := Tryz.sizeOf24
  v44 := Tryz.zeroValue24
  t46 := Tryz.underlying139
  a46 := Tryz.isAgg139
  z46 := Tryz.sizeOf139
  v46 := Tryz.zeroValue139
  t53 := Tryz.underlying141
  a53 := Tryz.isAgg141
  z53 := Tryz.sizeOf141
  v53 := Tryz.zeroValue141
  t57 := Tryz.underlying145
  a57 := Tryz.isAgg145
  z57 := Tryz.sizeOf145
  v57 := Tryz.zeroValue145
  t63 := Tryz.underlying147
  a63 := Tryz.isAgg147
  z63 := Tryz.sizeOf147
  v63 := Tryz.zeroValue147
  t64 := Tryz.underlying148
  a64 := Tryz.isAgg148
  z64 := Tryz.sizeOf148
  v64 := Tryz.zeroValue148 }

/-- slices.Sort's two contracts at this dump. -/
theorem lays_sorts (m : Nat) : AnyZI.SortsIn Tryz.prog laysSorted_ren Fence.wide m :=
  ⟨fun blk off cap ss W hH hblk hsz => callsIn_wide.2 (AnyM.slices_Sort_int laysSort blk off cap ss W hH hblk hsz),
   fun p cap W => callsIn_wide.2 (AnyM.slices_Sort_int_none laysSort p cap W)⟩

/-! ### The cache's keys -/
/-- How an element of the cache is read here: held as it is. -/
def RH (v : Value) : Option (DataW Value × List MemPlace) := some (.held v, [])

theorem sorted_perm' {l : List (Lit × DataW Value)} : (l.foldr DataW.insert []).Perm l := Go.WideShapes.sorted_perm l

set_option maxRecDepth 100000 in
theorem MapIs.keys {R : Nat → Prop} {w : World} {m : Nat} {ca : List (Option (List UInt8))} (h : MapIs R w m ca) (hn : ca.length ≤ 4096) :
    ∃ D0 : DataW Value, w.ownsMap Tryz.prog 3 RH m 4096 D0 ∧ Maps.size D0 ≤ 4096 ∧ ∀ ss : List Int, ss.Perm (intKeys D0) → ss.mergeSort (fun x y => decide (x ≤ y)) = Disk.dirty ⟨[], ca, [], 0, false⟩ := by
  obtain ⟨es, clock, hb, hE⟩ := h
  have hsz : es.size ≤ 4096 := by rw [hE.size]; exact Nat.le_trans List.countP_le_length hn
  have hrd : ∀ x ∈ es.toList, ∃ i : Nat, x.key = .int .i64 (i : Int) ∧ (∃ y, ca[i]? = some (some y)) ∧ WideElems.rd Tryz.prog 3 RH x = some (.int .i64 (i : Int), .held x.val) := by
    intro x hx
    obtain ⟨i, y, a, c, q1, q2, -⟩ := hE.mem x hx
    have hi := (List.getElem?_eq_some_iff.1 q1).1
    refine ⟨i, q2, ⟨y, q1⟩, ?_⟩
    have hk := Maps.keyOf_int_mk (P := Tryz.prog) (k := 3) (q := .i64) Tryz.underlying3 (a := (i : Int)) (by simp [Lit.wf, IntKind.min, IntKind.max, IntKind.signed, IntKind.bits]; omega)
    unfold WideElems.rd
    rw [q2, hk]; rfl
  refine ⟨_, ⟨es, clock, hb, ⟨by unfold maxLen; omega, hE.stamped, fun x hx => ?_⟩, hsz, rfl⟩, ?_, ?_⟩
  · obtain ⟨i, -, -, h2⟩ := hrd x hx; exact ⟨_, h2⟩
  · simp only [Maps.size, length_sorted]; simpa using hsz
  · intro ss hp
    have hp2 : ss.Perm (es.toList.map fun x => Go.intOf (WideElems.rg Tryz.prog 3 RH x).1) := by
      refine hp.trans ?_
      unfold intKeys
      rw [show (es.toList.map fun x => Go.intOf (WideElems.rg Tryz.prog 3 RH x).1) = (es.toList.map (WideElems.rg Tryz.prog 3 RH)).map fun p => Go.intOf p.1 by rw [List.map_map]; rfl]
      exact (sorted_perm').map _
    have hkey : ∀ x ∈ es.toList, ∃ i : Nat, Go.intOf (WideElems.rg Tryz.prog 3 RH x).1 = (i : Int) ∧ x.key = .int .i64 (i : Int) ∧ ∃ y, ca[i]? = some (some y) := by
      intro x hx
      obtain ⟨i, h1, h2, h3⟩ := hrd x hx
      exact ⟨i, by rw [WideElems.rg_of h3]; rfl, h1, h2⟩
    have hnd : (es.toList.map fun x => Go.intOf (WideElems.rg Tryz.prog 3 RH x).1).Nodup := by
      have h5 := ((MapKept.stamped_iff es clock).1 hE.stamped).2.2
      refine List.pairwise_map.2 (h5.imp_of_mem fun {a b} ha hb hne e => hne ?_)
      obtain ⟨i, e1, e2, -⟩ := hkey a ha
      obtain ⟨j, e3, e4, -⟩ := hkey b hb
      rw [e1, e3] at e
      rw [e2, e4, e]
    have hdn : (Disk.dirty ⟨[], ca, [], 0, false⟩).Pairwise (fun a b => a < b) := by
      unfold Disk.dirty
      refine List.pairwise_map.2 ?_
      exact (List.Pairwise.filter _ List.pairwise_lt_range).imp (fun {a b} h => by omega)
    have hperm : ss.Perm (Disk.dirty ⟨[], ca, [], 0, false⟩) := by
      refine hp2.trans ((List.perm_ext_iff_of_nodup hnd (hdn.imp (fun {a b} h => by omega))).2 fun z => ?_)
      constructor
      · intro hz
        obtain ⟨x, hx, rfl⟩ := List.mem_map.1 hz
        obtain ⟨i, e1, -, y, hy⟩ := hkey x hx
        rw [e1]
        unfold Disk.dirty
        refine List.mem_map.2 ⟨i, List.mem_filter.2 ⟨List.mem_range.2 (List.getElem?_eq_some_iff.1 hy).1, ?_⟩, rfl⟩
        show (ca[i]?.getD none).isSome = true
        rw [hy]; rfl
      · intro hz
        unfold Disk.dirty at hz
        obtain ⟨i, hi, rfl⟩ := List.mem_map.1 hz
        have h6 := (List.mem_filter.1 hi).2
        change (ca[i]?.getD none).isSome = true at h6
        cases hc : ca[i]? with
        | none => rw [hc] at h6; simp at h6
        | some o =>
          cases o with
          | none => rw [hc] at h6; simp at h6
          | some y =>
            obtain ⟨e, he, hek⟩ := hE.all i y hc
            obtain ⟨j, e1, e2, -⟩ := hkey e he
            rw [hek] at e2
            injection e2 with _ e2
            exact List.mem_map.2 ⟨e, he, by rw [e1, ← e2]⟩
    have tr : ∀ a b c : Int, decide (a ≤ b) = true → decide (b ≤ c) = true → decide (a ≤ c) = true := fun a b c h1 h2 => by simp only [decide_eq_true_eq] at *; omega
    have to : ∀ a b : Int, (decide (a ≤ b) || decide (b ≤ a)) = true := fun a b => by simp only [Bool.or_eq_true, decide_eq_true_eq]; omega
    exact List.Perm.eq_of_pairwise (le := fun a b => decide (a ≤ b) = true) (fun a b _ _ h1 h2 => by simp only [decide_eq_true_eq] at h1 h2; omega) (List.pairwise_mergeSort tr to ss) (hdn.imp (fun {a b} h => by simp only [decide_eq_true_eq]; omega)) ((List.mergeSort_perm ss _).trans hperm)

set_option maxHeartbeats 1000000 in
set_option maxRecDepth 100000 in
theorem sd_dirty {F : Nat → Prop} {w : World} {g s m : Nat} {fa : Option Addr} {fn fc : Nat} {d : Disk.Dk} (h : PD F w g s m fa fn fc d) :
    Calls Tryz.prog 25 #[.pointer (some ⟨g, 0, none⟩)] w fun e w' => ∃ v, e = .returned v ∧ OwnI w.heap.size w' v (Disk.dirty d) ∧ Below w.heap.size w w' := by
  have q1 := h.cells.2.1
  have hmx : d.ca.length ≤ 4096 := by rw [h.ok.len]; exact h.ok.max
  obtain ⟨D0, hown, hsz, hss⟩ := h.map.keys hmx
  have hml := h.map.lt
  have HSS := Lib.hid hss
  clear hss
  refine (callsIn_wide (n := 6)).1 ?_
  have hseq : SeqGives Fence.wide 2 Tryz.prog 82 #[.pointer (some ⟨w.heap.size, 0, none⟩)] encZ (fun ss => ss.Perm (intKeys D0)) (Maps.size D0) (w.alloc (.cells #[.map (some m)] 62)) :=
    AnyZI.keys_gives (ρ := laysKeys_ren) { laysKeys with } Fence.wide _ trivial rfl (by omega) w.heap.size m 4096 D0 _ (by simp) (by rw [World.cell?_alloc_at _ _ _ _ rfl]; rfl) (by
      obtain ⟨es, clock, hb, Ft, hs, hD⟩ := hown
      exact ⟨es, clock, (Below.heap_alloc _ _ m hml).trans hb, Ft, hs, hD⟩)
  have cK : ∀ mb W, CallsIn Fence.wide 5 Tryz.prog 60 #[.map mb] W fun e w' => e = .returned (.func (.func 82) #[] #[.pointer (some ⟨W.heap.size, 0, none⟩)]) ∧ w' = W.alloc (.cells #[.map mb] 62) := fun mb W => AnyZI.keys_in laysKeys Fence.wide 5 trivial rfl mb W
  have cS := AnyZI.sorted_in laysSorted Fence.wide 5 trivial trivial trivial trivial rfl (by omega) (lays_sorts _) (enters_of Tryz.func81 (by kernel_rfl) rfl) 82 #[.pointer (some ⟨w.heap.size, 0, none⟩)] trivial (enters_of Tryz.func82 (by kernel_rfl) rfl) _ _ (by unfold maxLen; omega) (by omega) _ hseq
  change CallsIn _ _ Tryz.prog 59 _ _ _ at cS
  have hfK : Fence.wide.fn 60 := trivial
  have hfS : Fence.wide.fn 59 := trivial
  clear hseq
  refine callsIn_of_wp Tryz.func25 rfl trivial ?_ rfl
  simp only [Tryz.ntmps25, List.size_toArray, List.length_cons, List.length_nil, Nat.reduceAdd, Nat.reduceSub, Array.replicate_succ, Array.replicate_zero, List.push_toArray, List.append_toArray, List.nil_append, List.cons_append]
  gi_wp2_with (first
    | (gi_at_call 60; refine (cK _ _).mono ?_; rintro e w' ⟨rfl, rfl⟩)
    | (gi_at_call 59; refine cS.mono ?_; rintro e w' ⟨v, ss, rfl, hS, hrow, hnil, hb⟩))
  go_ret
  have hd := HSS.out ss hS
  have hd' : ss.mergeSort (fun x y => decide (x ≤ y)) = Disk.dirty d := hd
  have hlen : ss.length = (Disk.dirty d).length := by rw [← hd', List.length_mergeSort]
  refine ⟨v, rfl, ?_, ((Below.refl _ w).alloc (Nat.le_refl _) _).trans (hb.mono (by simp))⟩
  unfold OwnI
  have := ownsRow_base_a (base' := w.heap.size) hrow (by simp)
  rw [hd', hlen] at this
  exact this

end Go.Proofs.YtabeelcidlhniaaGreat
