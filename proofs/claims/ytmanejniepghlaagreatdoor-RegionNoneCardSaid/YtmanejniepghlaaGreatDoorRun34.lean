/-
  Texts in one: InsN, InsN2, PinRow.
-/
import Derived.Test.YtmanejniepghlaaGreatDoorRun31
import Derived.Test.YtmanejniepghlaaGreatDoorRun3
import Derived.Shelf.Spec.SlicesInsert
import Derived.Lib.AppendZerosOnto
import Derived.Laws.NewBlocks
import Derived.Test.YtmanejniepghlaaGreatDoorRun22
/-
  slices.Insert of one pin.
-/
namespace Go.Proofs.YtmanejniepghlaaGreatDoor
open Go.RowKit

/-- copy, elements of k cells: what the source held goes over. -/
theorem run_copy_k {P : Program} (k : Nat) (w : World) (dT sT ty elem : TypeId) (b o dLen dCap : Nat) (a : Addr) (sLen sCap : Nat) (cs : List Value)
    (hu : P.underlying dT = some (.slice elem)) (hs : (P.info? elem).map (·.size) = some k) (hn : cs.length = Nat.min sLen dLen * k)
    (hsrc : ∀ j v, cs[j]? = some v → w.cell? (a.add j) = some v) (hc : ∀ j, j < cs.length → (w.cell? ⟨b, o + j, none⟩).isSome = true) (hf : ∀ j, j < cs.length → w.frozen? ⟨b, o + j, none⟩ = false) (h1 : ∀ v ∈ cs, v.oneCell' = true) :
    (Builtin.copy_ #[dT, sT] ty #[.slice (some ⟨b, o, none⟩) dLen dCap, .slice (some a) sLen sCap]).run P w = .ok (goInt (Nat.min sLen dLen)) (w.setCells b o cs) := by
  have hl := run_loadCells_list (P := P) w a cs hsrc
  have hst := run_storeCells_cells (P := P) b o cs 0 w (by simpa using hc) (by simpa using hf) h1
  cases hq : P.info? elem with
  | none => simp [hq] at hs
  | some i =>
    have hi : i.size = k := by simpa [hq] using hs
    simp [Builtin.copy_, run_underlying hu, Builtin.lenOf, Builtin.firstCells, sizeOf, typeInfo, hq, hi, ← hn, hl, hst]

theorem pl_one (l : List Pin) : ∀ v ∈ l.flatMap pl, v.oneCell' = true := by
  intro u hu
  obtain ⟨p, _, hp⟩ := List.mem_flatMap.1 hu
  simp [pl] at hp
  rcases hp with rfl | rfl | rfl <;> rfl

set_option maxHeartbeats 4000000 in
set_option maxRecDepth 100000 in
theorem ins_grow (b n c i vb : Nat) (L : List Pin) (p : Pin) (w : World) (hi : i < n) (hnc : n ≤ c) (hroom : c < n + 1) (hbig : n ≤ 1000000) (hL : L.length = n)
    (hcs : ∀ j v, (L.flatMap pl)[j]? = some v → w.cell? ⟨b, 0 + j, none⟩ = some v) (hvs : ∀ j v, (pl p)[j]? = some v → w.cell? ⟨vb, 0 + j, none⟩ = some v) :
    Calls Tryz.prog 165 #[.slice (some ⟨b, 0, none⟩) n c, .int .i64 i, .slice (some ⟨vb, 0, none⟩) 1 1] w fun e w' =>
      ∃ G ROW, n + 1 ≤ G ∧ G ≤ maxLen ∧ ROW.size = G * 3 ∧ ROW.toList.take (i * 3) = (L.take i).flatMap pl ∧ e = .returned (.slice (some ⟨w.heap.size, 0, none⟩) (n + 1) G) ∧
      w' = (((w.alloc (.cells ROW 34)).drew.setCells w.heap.size (i * 3) (pl p)).drew).setCells w.heap.size ((i + 1) * 3) ((L.drop i).flatMap pl) := by
  have mixed : Tryz.prog.follows Departure.mixedOrders = true := by kernel_rfl
  obtain ⟨i0, hi0, hz0, hzs, hzb⟩ := info_parts infoPin
  have hz2 : ¬ ((i : Int) = (n : Int)) := by omega
  have hz3 : (c : Int) < (n : Int) + 1 := by omega
  have hsz : (Tryz.prog.info? 34).map (·.size) = some 3 := by rw [hi0]; simp [hzs]
  have hcl : (L.flatMap pl).length = n * 3 := by rw [flat_pl_length, hL]
  have hbw : b < w.heap.size := block_lt_of_cell (hcs 0 _ (List.getElem?_eq_getElem (by omega)))
  have hvw : vb < w.heap.size := block_lt_of_cell (hvs 0 _ (List.getElem?_eq_getElem (by simp [pl])))
  have hkk : (n : Int) + 1 - (i : Int) = ((n + 1 - i : Nat) : Int) := by omega
  have hik : i + (n + 1 - i) = n + 1 := by omega
  have htk : (L.take i).flatMap pl = (L.flatMap pl).take (i * 3) := by
    conv => rhs; rw [← List.take_append_drop i L, List.flatMap_append]
    rw [List.take_left' (by rw [flat_pl_length, List.length_take]; omega)]
  have hdk : (L.drop i).flatMap pl = (L.flatMap pl).drop (i * 3) := by
    conv => rhs; rw [← List.take_append_drop i L, List.flatMap_append]
    rw [List.drop_left' (by rw [flat_pl_length, List.length_take]; omega)]
  have hold : (Builtin.firstCells i0.size i (.slice (some ⟨b, 0, none⟩) i c)).run Tryz.prog w.drew = .ok ((L.flatMap pl).take (i * 3)).toArray w.drew := by
    rw [hzs]
    exact run_firstCells_some w.drew 3 i ⟨b, 0, none⟩ i c ((L.flatMap pl).take (i * 3)) (by rw [List.length_take]; omega) (fun j v hj => by
      rw [Addr.add_lit]
      rw [List.getElem?_take] at hj
      split at hj
      · exact hcs j v hj
      · cases hj)
  have hrz : ∀ ty, (Builtin.append_ #[42, 3] ty #[.slice (some ⟨b, 0, none⟩) i c, .int .i64 ((n : Int) + 1 - (i : Int))]).run Tryz.prog w =
      .ok (.slice (some ⟨w.heap.size, 0, none⟩) (n + 1) (grownCap w (n + 1) c 34)) (w.drew.alloc (.cells (((L.flatMap pl).take (i * 3)).toArray ++ Builtin.zeroCells (Value.agg #[.string ⟨#[]⟩, .bool false, .int .i64 0]).cells (n + 1 - i) ++ Builtin.zeroCells (Value.agg #[.string ⟨#[]⟩, .bool false, .int .i64 0]).cells (grownCap w (n + 1) c 34 - (n + 1))) 34)) := fun ty => by
    have h := Lib.run_append_grow_zeros w 42 3 ty 34 i0 _ .i64 .i64 Tryz.underlying42 Tryz.underlying3 hi0 hz0 (some ⟨b, 0, none⟩) i c ((L.flatMap pl).take (i * 3)) hold (n + 1 - i) (by omega) (by omega) (by omega) (by omega) (by rw [hzb]; omega) (by rw [hzb, hik]; exact growslice_fits hroom (by omega))
    rw [hik] at h
    rw [hkk]
    exact h
  have hGn : n + 1 ≤ grownCap w (n + 1) c 34 := grownCap_ge w _ _ _
  have hGm : grownCap w (n + 1) c 34 ≤ maxLen := grownCap_le_maxLen w (n + 1) c 34 (by unfold maxLen; omega)
  obtain ⟨G, hG⟩ : ∃ G, G = grownCap w (n + 1) c 34 := ⟨_, rfl⟩
  rw [← hG] at hrz hGn hGm
  obtain ⟨ROW, hROW⟩ : ∃ ROW : Array Value, ROW = ((L.flatMap pl).take (i * 3)).toArray ++ Builtin.zeroCells (Value.agg #[.string ⟨#[]⟩, .bool false, .int .i64 0]).cells (n + 1 - i) ++ Builtin.zeroCells (Value.agg #[.string ⟨#[]⟩, .bool false, .int .i64 0]).cells (G - (n + 1)) := ⟨_, rfl⟩
  rw [← hROW] at hrz
  have hRl : ROW.size = G * 3 := by
    rw [hROW]
    simp [Builtin.zeroCells, Value.cells, hcl]
    omega
  have hRt : ROW.toList.take (i * 3) = (L.take i).flatMap pl := by
    rw [hROW, htk, Array.toList_append, Array.toList_append, List.append_assoc, List.take_append_of_le_length (by simp [hcl]; omega)]
    exact List.take_of_length_le (by simp; omega)
  obtain ⟨W1, hW1⟩ : ∃ W1, W1 = w.drew.alloc (.cells ROW 34) := ⟨_, rfl⟩
  rw [← hW1] at hrz
  have hN : ∀ j, j < (n + 1) * 3 → (W1.cell? ⟨w.heap.size, j, none⟩).isSome = true := fun j hj => by
    rw [hW1, World.cell?_alloc_at (w := w.drew) ROW _ w.heap.size j rfl, Array.getElem?_eq_getElem (by omega)]; rfl
  have hNf : ∀ j, W1.frozen? ⟨w.heap.size, j, none⟩ = false := fun j => by rw [hW1]; exact World.frozen?_alloc_at (w := w.drew) ROW _ w.heap.size j rfl
  have hOb : ∀ j v, w.cell? ⟨b, j, none⟩ = some v → W1.cell? ⟨b, j, none⟩ = some v := fun j v h => by rw [hW1, World.cell?_alloc_past (w := w.drew) _ b j hbw]; exact h
  have hOv : ∀ j v, w.cell? ⟨vb, j, none⟩ = some v → W1.cell? ⟨vb, j, none⟩ = some v := fun j v h => by rw [hW1, World.cell?_alloc_past (w := w.drew) _ vb j hvw]; exact h
  have h1v : ∀ v ∈ pl p, v.oneCell' = true := fun v hv => pl_one [p] v (by simpa using hv)
  have hpl : (pl p).length = 3 := rfl
  obtain ⟨vs, hvse⟩ : ∃ vs, pl p = vs := ⟨_, rfl⟩
  rw [hvse] at hvs h1v hpl
  have hdl : ((L.drop i).flatMap pl).length = (n - i) * 3 := by rw [flat_pl_length, List.length_drop, hL]
  have hds : ∀ j v, ((L.drop i).flatMap pl)[j]? = some v → w.cell? ⟨b, i * 3 + j, none⟩ = some v := fun j v hj => by
    rw [hdk, List.getElem?_drop] at hj
    have := hcs _ _ hj
    rwa [Nat.zero_add] at this
  have h1d := pl_one (L.drop i)
  obtain ⟨ds, hdse⟩ : ∃ ds, (L.drop i).flatMap pl = ds := ⟨_, rfl⟩
  rw [hdse] at hdl hds h1d
  have hcpA : ∀ (W : World), (∀ x, W.cell? x = W1.cell? x) → (∀ x, W.frozen? x = W1.frozen? x) → ∀ ty dc, (Builtin.copy_ #[42, 42] ty #[.slice (some ⟨w.heap.size, i * 3, none⟩) (n + 1 - i) dc, .slice (some ⟨vb, 0, none⟩) 1 1]).run Tryz.prog W = .ok (goInt 1) (W.setCells w.heap.size (i * 3) vs) := fun W hWc hWf ty dc => by
    have hm : Nat.min 1 (n + 1 - i) = 1 := by simp only [Nat.min_def]; split <;> omega
    have := run_copy_k (P := Tryz.prog) 3 W _ 42 ty 34 w.heap.size (i * 3) (n + 1 - i) dc ⟨vb, 0, none⟩ 1 1 vs Tryz.underlying42 hsz (by rw [hm]; omega)
      (fun j v hj => by rw [Addr.add_lit, hWc]; exact hOv _ v (hvs j v hj))
      (fun j hj => by rw [hWc]; exact hN _ (by omega)) (fun j hj => by rw [hWf]; exact hNf _) h1v
    rwa [hm] at this
  have hGi : ¬ (G = i) := by omega
  have hGim : ¬ (G = i + 1) := by omega
  have hci : ¬ (c = i) := by omega
  have hbN : b ≠ w.heap.size := by omega
  have hcpB : ∀ (W : World), (∀ x, W.cell? x = (W1.setCells w.heap.size (i * 3) vs).cell? x) → (∀ x, W.frozen? x = (W1.setCells w.heap.size (i * 3) vs).frozen? x) → ∀ ty dc sc, (Builtin.copy_ #[42, 42] ty #[.slice (some ⟨w.heap.size, (i + 1) * 3, none⟩) (n + 1 - (i + 1)) dc, .slice (some ⟨b, i * 3, none⟩) (n - i) sc]).run Tryz.prog W = .ok (goInt ((n - i : Nat) : Int)) (W.setCells w.heap.size ((i + 1) * 3) ds) := fun W hWc hWf ty dc sc => by
    have hm : Nat.min (n - i) (n + 1 - (i + 1)) = n - i := by simp only [Nat.min_def]; split <;> omega
    have := run_copy_k (P := Tryz.prog) 3 W _ 42 ty 34 w.heap.size ((i + 1) * 3) (n + 1 - (i + 1)) dc ⟨b, i * 3, none⟩ (n - i) sc ds Tryz.underlying42 hsz (by rw [hm]; omega)
      (fun j v hj => by
        rw [Addr.add_lit, hWc, World.cell?_setCells_out _ _ _ _ _ (fun h _ => absurd h hbN)]
        exact hOb _ v (hds j v hj))
      (fun j hj => by rw [hWc]; exact isSome_setCells _ _ _ _ (fun t ht => hN _ (by omega)) _ (hN _ (by omega)))
      (fun j hj => by rw [hWf, World.frozen?_setCells]; exact hNf _) h1d
    rwa [hm] at this
  subst hW1
  have hE1 : ∀ x, ((w.alloc (.cells ROW 34)).drew).cell? x = (w.drew.alloc (.cells ROW 34)).cell? x := fun x => rfl
  have hE2 : ∀ x, ((w.alloc (.cells ROW 34)).drew).frozen? x = (w.drew.alloc (.cells ROW 34)).frozen? x := fun x => rfl
  have hF1 : ∀ x, (((w.alloc (.cells ROW 34)).drew.setCells w.heap.size (i * 3) vs).drew).cell? x = ((w.drew.alloc (.cells ROW 34)).setCells w.heap.size (i * 3) vs).cell? x := fun x => rfl
  have hF2 : ∀ x, (((w.alloc (.cells ROW 34)).drew.setCells w.heap.size (i * 3) vs).drew).frozen? x = ((w.drew.alloc (.cells ROW 34)).setCells w.heap.size (i * 3) vs).frozen? x := fun x => rfl
  have hw1 : IntKind.i64.wrap ((i : Int) + 1) = (i : Int) + 1 := by rw [IntKind.wrap_i64]; omega
  have hb1 : (0 : Int) ≤ (i : Int) + 1 := by omega
  have hin : i ≤ n := by omega
  have htn : ((i : Int) + 1).toNat = i + 1 := by omega
  have hb3 : (i : Int) ≤ (n : Int) := by omega
  have HFIN := Lib.hid (show ∃ G' ROW', n + 1 ≤ G' ∧ G' ≤ maxLen ∧ ROW'.size = G' * 3 ∧ ROW'.toList.take (i * 3) = (L.take i).flatMap pl ∧ G' = G ∧ ROW' = ROW from ⟨G, ROW, hGn, hGm, hRl, hRt, rfl, rfl⟩)
  clear hkk hik hold hROW hG hRl hRt htk hdk hcl hvs hds h1v h1d
  go_enter Tryz.func165, Tryz.ntmps165
  go_wp2_with (first
    | (at_builtin; refine Lib.wpList_append_run _ rfl _ _ _ _ rfl _ _ rfl rfl _ _ (hrz _) ?_)
    | (at_builtin; refine wpList_copy_runI _ rfl _ _ 42 42 rfl _ _ rfl rfl (hcpA _ hE1 hE2 _ _) ?_)
    | (at_builtin; refine wpList_copy_runI _ rfl _ _ 42 42 rfl _ _ rfl rfl (hcpB _ (fun _ => rfl) (fun _ => rfl) _ _ _) ?_))
  go_region_law_o (refine step_copy_runI rfl _ _ 42 42 rfl (.slice (some ⟨w.heap.size, (i + 1) * 3, none⟩) (n + 1 - (i + 1)) (G - (i + 1))) (.slice (some ⟨b, i * 3, none⟩) (n - i) (c - i)) (by simp [Act.eval, Act.put]) (by simp [Act.eval, Act.put]) (hcpB _ hF1 hF2 3 (G - (i + 1)) (c - i)) ?_)
  go_wp2
  go_ret
  obtain ⟨G', ROW', f1, f2, f3, f4, rfl, rfl⟩ := HFIN.out
  exact ⟨G', ROW', f1, f2, f3, f4, rfl, by rw [hvse, hdse]⟩

set_option maxHeartbeats 4000000 in
set_option maxRecDepth 100000 in
theorem ins_shift (b n c i vb : Nat) (L : List Pin) (p : Pin) (w : World) (hi : i < n) (hroom : n + 1 ≤ c) (_hc63 : c ≤ maxLen) (hbig : n ≤ 1000000) (hvb : vb ≠ b) (hL : L.length = n)
    (hcs : ∀ j v, (L.flatMap pl)[j]? = some v → w.cell? ⟨b, 0 + j, none⟩ = some v) (hsp : ∀ j, j < (n + 1) * 3 → (w.cell? ⟨b, j, none⟩).isSome = true) (hfz : ∀ j, w.frozen? ⟨b, j, none⟩ = false) (hvs : ∀ j v, (pl p)[j]? = some v → w.cell? ⟨vb, 0 + j, none⟩ = some v)
    (tA tB : TypeId) (kA kB : Nat) (hsa : w.shape? vb = some (tA, kA)) (hsb : w.shape? b = some (tB, kB)) (hkB : kB ≠ 0) (hfa : ∀ j, w.frozen? ⟨vb, j, none⟩ = false) :
    Calls Tryz.prog 165 #[.slice (some ⟨b, 0, none⟩) n c, .int .i64 i, .slice (some ⟨vb, 0, none⟩) 1 1] w fun e w' =>
      e = .returned (.slice (some ⟨b, 0, none⟩) (n + 1) c) ∧ w' = (w.drew.setCells b ((i + 1) * 3) ((L.drop i).flatMap pl)).setCells b (i * 3) (pl p) := by
  have mixed : Tryz.prog.follows Departure.mixedOrders = true := by kernel_rfl
  obtain ⟨i0, hi0, hz0, hzs, hzb⟩ := info_parts infoPin
  have hz2 : ¬ ((i : Int) = (n : Int)) := by omega
  have hsz : (Tryz.prog.info? 34).map (·.size) = some 3 := by rw [hi0]; simp [hzs]
  have hov : ∀ lb cb, (callFunc 186 #[.slice (some ⟨vb, 0, none⟩) 1 1, .slice (some ⟨b, (i + 1) * 3, none⟩) lb cb]).run Tryz.prog w = .ok (.value (.bool false)) w := fun lb cb => by
    rw [run_callFunc_extern Tryz.func186 (by kernel_rfl) (by kernel_rfl) (by kernel_rfl) (e := Extern.SlicesOverlaps.overlaps #[42, 42] #[4]) (by kernel_rfl),
      Lib.run_overlaps_apart w 42 4 34 Tryz.underlying42 3 (fun w => by simp [sizeOf, typeInfo, hi0, hzs]) ⟨vb, 0, none⟩ ⟨b, (i + 1) * 3, none⟩ 1 1 lb cb hvb tA tB kA kB hsa hsb hkB (hfa _) (hfa _)]
    rfl
  have hdk : (L.drop i).flatMap pl = (L.flatMap pl).drop (i * 3) := by
    conv => rhs; rw [← List.take_append_drop i L, List.flatMap_append]
    rw [List.drop_left' (by rw [flat_pl_length, List.length_take]; omega)]
  have hw1 : IntKind.i64.wrap ((i : Int) + 1) = (i : Int) + 1 := by rw [IntKind.wrap_i64]; omega
  have hb1 : (0 : Int) ≤ (i : Int) + 1 := by omega
  have hin : i ≤ n := by omega
  have htn : ((i : Int) + 1).toNat = i + 1 := by omega
  have hb2 : ¬ (c = i + 1) := by omega
  have hb3 : (i : Int) ≤ (n : Int) + 1 := by omega
  have hb4 : ¬ (c = i) := by omega
  have h1v : ∀ v ∈ pl p, v.oneCell' = true := fun v hv => pl_one [p] v (by simpa using hv)
  have hpl : (pl p).length = 3 := rfl
  obtain ⟨vs, hvse⟩ : ∃ vs, pl p = vs := ⟨_, rfl⟩
  rw [hvse] at hvs h1v hpl
  have hdl : ((L.drop i).flatMap pl).length = (n - i) * 3 := by rw [flat_pl_length, List.length_drop, hL]
  have hds : ∀ j v, ((L.drop i).flatMap pl)[j]? = some v → w.cell? ⟨b, i * 3 + j, none⟩ = some v := fun j v hj => by
    rw [hdk, List.getElem?_drop] at hj
    have := hcs _ _ hj
    rwa [Nat.zero_add] at this
  have h1d := pl_one (L.drop i)
  obtain ⟨ds, hdse⟩ : ∃ ds, (L.drop i).flatMap pl = ds := ⟨_, rfl⟩
  rw [hdse] at hdl hds h1d
  have hcp1 : ∀ ty dc sc, (Builtin.copy_ #[42, 42] ty #[.slice (some ⟨b, (i + 1) * 3, none⟩) (n - i) dc, .slice (some ⟨b, i * 3, none⟩) (n + 1 - i) sc]).run Tryz.prog w.drew = .ok (goInt ((n - i : Nat) : Int)) (w.drew.setCells b ((i + 1) * 3) ds) := fun ty dc sc => by
    have hm : Nat.min (n + 1 - i) (n - i) = n - i := by simp only [Nat.min_def]; split <;> omega
    have := run_copy_k (P := Tryz.prog) 3 w.drew _ 42 ty 34 b ((i + 1) * 3) (n - i) dc ⟨b, i * 3, none⟩ (n + 1 - i) sc ds Tryz.underlying42 hsz (by rw [hm]; omega)
      (fun j v hj => by rw [Addr.add_lit]; exact hds j v hj)
      (fun j hj => hsp _ (by omega)) (fun j hj => hfz _) h1d
    rwa [hm] at this
  obtain ⟨W1, hW1⟩ : ∃ W1, W1 = w.drew.setCells b ((i + 1) * 3) ds := ⟨_, rfl⟩
  have hsp1 : ∀ k, k < (n + 1) * 3 → (W1.cell? ⟨b, k, none⟩).isSome = true := fun k hk => by
    rw [hW1]
    exact isSome_setCells b ds ((i + 1) * 3) w.drew (fun j hj => hsp _ (by omega)) k (hsp k hk)
  have hcp2 : ∀ (W : World), (∀ x, W.cell? x = W1.cell? x) → (∀ x, W.frozen? x = W1.frozen? x) → ∀ ty dc, (Builtin.copy_ #[42, 42] ty #[.slice (some ⟨b, i * 3, none⟩) (n + 1 - i) dc, .slice (some ⟨vb, 0, none⟩) 1 1]).run Tryz.prog W = .ok (goInt 1) (W.setCells b (i * 3) vs) := fun W hWc hWf ty dc => by
    have hm : Nat.min 1 (n + 1 - i) = 1 := by simp only [Nat.min_def]; split <;> omega
    have := run_copy_k (P := Tryz.prog) 3 W _ 42 ty 34 b (i * 3) (n + 1 - i) dc ⟨vb, 0, none⟩ 1 1 vs Tryz.underlying42 hsz (by rw [hm]; omega)
      (fun j v hj => by
        rw [Addr.add_lit, hWc, hW1, World.cell?_setCells_out b _ _ _ _ (fun h _ => absurd h hvb)]
        exact hvs j v hj)
      (fun j hj => by rw [hWc]; exact hsp1 _ (by omega)) (fun j hj => by rw [hWf, hW1, World.frozen?_setCells]; exact hfz _) h1v
    rwa [hm] at this
  rw [← hW1] at hcp1
  have hcI : (n : Int) + 1 ≤ (c : Int) := by omega
  clear hdk hcs hvs hsp hds h1v h1d
  go_enter Tryz.func165, Tryz.ntmps165
  go_wp2_with (simp only [hov])
  go_region_law_o (refine step_copy_runI rfl _ _ 42 42 rfl _ _ (by simp [Act.eval, Act.put]) (by simp [Act.eval, Act.put]) (hcp1 _ _ _) ?_)
  go_wp2_with (at_builtin; refine wpList_copy_runI _ rfl _ _ 42 42 rfl _ _ rfl rfl (hcp2 _ (fun _ => rfl) (fun _ => rfl) _ _) ?_)
  go_ret
  exact ⟨rfl, by rw [hvse, hdse]⟩

end Go.Proofs.YtmanejniepghlaaGreatDoor

/-
  slices.Insert of one pin into a slice that the call itself made: one contract.
-/
namespace Go.Proofs.YtmanejniepghlaaGreatDoor
open Go.RowKit

theorem splice_grow (cur : Array Value) (o : Nat) (A X Y : List Value) (hA : cur.toList.take o = A) (ho : A.length = o) (hs : o + X.length + Y.length ≤ cur.size) :
    (YtmanejniepghlaaGreatDoor.splice (YtmanejniepghlaaGreatDoor.splice cur o X) (o + X.length) Y).toList.take (o + X.length + Y.length) = A ++ (X ++ Y) := by
  rw [splice_toList _ _ _ (by rw [splice_size]; omega), splice_toList _ _ _ (by omega), hA]
  have h1 : (A ++ X ++ cur.toList.drop (o + X.length)).take (o + X.length) = A ++ X := List.take_left' (by simp; omega)
  rw [h1, List.append_assoc (A ++ X), List.take_append, List.take_of_length_le (by simp; omega), List.take_append]
  simp [ho, List.append_assoc]
theorem splice_shiftN (cur : Array Value) (o : Nat) (A X D : List Value) (hA : cur.toList.take (o + D.length) = A ++ D) (ho : A.length = o) (hs : o + X.length + D.length ≤ cur.size) :
    (YtmanejniepghlaaGreatDoor.splice (YtmanejniepghlaaGreatDoor.splice cur (o + X.length) D) o X).toList.take (o + X.length + D.length) = A ++ (X ++ D) := by
  have hA2 : cur.toList.take o = A := by
    have := congrArg (List.take o) hA
    rw [List.take_take, List.take_left' ho] at this
    rwa [show min o (o + D.length) = o by omega] at this
  rw [splice_toList _ _ _ (by rw [splice_size]; omega), splice_toList _ _ _ (by omega)]
  have h1 : (cur.toList.take (o + X.length) ++ D ++ cur.toList.drop (o + X.length + D.length)).take o = A := by
    rw [List.append_assoc, List.take_append_of_le_length (by simp; omega), List.take_take, show min o (o + X.length) = o by omega, hA2]
  have h2 : (cur.toList.take (o + X.length) ++ D ++ cur.toList.drop (o + X.length + D.length)).drop (o + X.length) = D ++ cur.toList.drop (o + X.length + D.length) := by
    rw [List.append_assoc, List.drop_left' (by simp; omega)]
  rw [h1, h2, ← List.append_assoc, List.take_left' (by simp; omega), List.append_assoc]

/-- append of one pin, with the block that the result lies in. -/
theorem append_where {w : World} {base : Nat} {v : Value} {L : List Pin} (hown : OwnN base w v L) (vb : Nat) (p : Pin) (hsl : SlN w (some ⟨vb, 0, none⟩) 1 1 [p]) (hlen : L.length ≤ 1000000) (hbase : base ≤ w.heap.size) (ty : TypeId) :
    ∃ v' w', (Builtin.append_ #[42, 42] ty #[v, .slice (some ⟨vb, 0, none⟩) 1 1]).run Tryz.prog w = .ok v' w' ∧ OwnN base w' v' (L ++ [p]) ∧ w.grownBy w' v.ownBlock ∧ ∀ k, v'.ownBlock = some k → v.ownBlock = some k ∨ w.heap.size ≤ k := by
  obtain ⟨i0, hi, hz0, hz1, hz2⟩ := info_parts infoPin
  obtain ⟨-, -, c1, c2, c3⟩ := hsl.2.2.2.2 _ rfl 0 (by simp)
  have hnews : ∀ j u, (pl p)[j]? = some u → w.cell? ((⟨vb, 0, none⟩ : Addr).add j) = some u := by
    intro j u hj
    rw [Addr.add_lit]
    match j, hj with
    | 0, hj => cases hj; exact c1
    | 1, hj => cases hj; exact c2
    | 2, hj => cases hj; exact c3
    | j + 3, hj => simp [pl] at hj
  have hpl : (pl p).length = 3 := rfl
  have h1 : ∀ u ∈ pl p, u.oneCell' = true := fun u hu => pl_one [p] u (by simpa using hu)
  obtain ⟨v', w', hr, h2, h3, -⟩ := run_append_own (P := Tryz.prog) w base 42 ty 34 i0 _ 3 32 Tryz.underlying42 hi hz0 hz1 hz2 rfl (by decide) v L.length _ hown ⟨vb, 0, none⟩ 1 1 (pl p) rfl hnews h1 (by unfold maxLen; omega) (by omega) hbase
  refine ⟨v', w', hr, ?_, h3, ?_⟩
  · unfold OwnN; rw [List.length_append, List.flatMap_append]; simpa using h2
  · intro k hk
    rcases hown.2 with ⟨hv, hn⟩ | ⟨g, cap, cur, hv, hbg, hg, hnc, hcm, hcs, htake⟩
    · right
      have hw0 : OwnN w.heap.size w v L := ⟨hown.1, .inl ⟨hv, hn⟩⟩
      obtain ⟨v2, w2, hr2, h22, -, -⟩ := run_append_own (P := Tryz.prog) w w.heap.size 42 ty 34 i0 _ 3 32 Tryz.underlying42 hi hz0 hz1 hz2 rfl (by decide) v L.length _ hw0 ⟨vb, 0, none⟩ 1 1 (pl p) rfl hnews h1 (by unfold maxLen; omega) (by omega) (Nat.le_refl _)
      rw [hr] at hr2
      cases hr2
      exact (World.ownsRow.lt h22 k hk).1
    · subst hv
      by_cases hroom : L.length + 1 ≤ cap
      · left
        have hr2 := run_append_room (P := Tryz.prog) w 42 ty 34 i0 Tryz.underlying42 hi g L.length cap cur hg ⟨vb, 0, none⟩ 1 1 (pl p) (by rw [hz1]; rfl) hnews h1 hroom (by rw [hz1, hpl]; omega)
        rw [hr] at hr2
        cases hr2
        exact hk
      · right
        have holds : ∀ j u, (L.flatMap pl)[j]? = some u → w.cell? ((⟨g, 0, none⟩ : Addr).add j) = some u := by
          intro j u hj
          rw [Addr.add_lit, Nat.zero_add, cell_of_row w g j cur _ _ hg]
          rw [← htake, List.getElem?_take] at hj
          split at hj
          · simpa using hj
          · cases hj
        have hr2 := run_append_grow (P := Tryz.prog) w 42 ty 34 i0 _ Tryz.underlying42 hi hz0 ⟨g, 0, none⟩ L.length cap (L.flatMap pl) (by rw [flat_pl_length, hz1]) holds ⟨vb, 0, none⟩ 1 1 (pl p) (by rw [hz1]; rfl) hnews (by omega) (by omega) (growslice_fits (by omega) (by rw [hz2]; omega))
        rw [hr] at hr2
        cases hr2
        cases hk
        exact Nat.le_refl _

/-- Where the result of an insertion lies. -/
def InsP (base : Nat) (v : Value) (L : List Pin) (w : World) (e : Ending) (w' : World) : Prop := ∃ v', e = .returned v' ∧ OwnN base w' v' L ∧ w.grownBy w' v.ownBlock ∧ ∀ k, v'.ownBlock = some k → v.ownBlock = some k ∨ w.heap.size ≤ k

set_option maxRecDepth 100000 in
theorem ins_end (base : Nat) (v : Value) (L : List Pin) (p : Pin) (vb : Nat) (w : World) (h : OwnN base w v L) (hl : L.length ≤ 1000000) (hb : base ≤ w.heap.size) (hx : SlN w (some ⟨vb, 0, none⟩) 1 1 [p]) :
    Calls Tryz.prog 165 #[v, .int .i64 (L.length : Nat), .slice (some ⟨vb, 0, none⟩) 1 1] w (InsP base v (L ++ [p]) w) := by
  obtain ⟨v1, w1, hr, hown, hg1, hk1⟩ := append_where h vb p hx hl hb 42
  have HR := Lib.hid hr
  have HF := Lib.hid (show InsP base v (L ++ [p]) w (.returned v1) w1 from ⟨v1, rfl, hown, hg1, hk1⟩)
  clear hr hown hg1 hk1
  rcases id h.2 with ⟨rfl, hn0⟩ | ⟨g, cap, cur, rfl, hg, hcur, hnc, hcm, hcs, htk⟩
  · have hl0 : L = [] := List.eq_nil_of_length_eq_zero hn0
    subst hl0
    go_enter Tryz.func165, Tryz.ntmps165
    go_wp2_with (at_builtin; refine Lib.wpList_append_run _ rfl _ _ _ _ rfl _ _ rfl rfl _ _ HR.out ?_)
    go_ret
    exact HF.out
  · obtain ⟨n, hn⟩ : ∃ n, L.length = n := ⟨_, rfl⟩
    rw [hn] at hnc hl HR HF ⊢
    have hle : (n : Int) ≤ (cap : Int) := by omega
    have h63 : (cap : Int) ≤ 9223372036854775807 := by unfold maxLen at hcm; omega
    clear h hn hcur hcs htk
    by_cases hcn : cap = n
    · subst hcn
      go_enter Tryz.func165, Tryz.ntmps165
      go_wp2_with (at_builtin; refine Lib.wpList_append_run _ rfl _ _ _ _ rfl _ _ rfl rfl _ _ HR.out ?_)
      go_ret
      exact HF.out
    · go_enter Tryz.func165, Tryz.ntmps165
      go_wp2_with (at_builtin; refine Lib.wpList_append_run _ rfl _ _ _ _ rfl _ _ rfl rfl _ _ HR.out ?_)
      go_ret
      exact HF.out

theorem pl_of_slN {w : World} {vb : Nat} {p : Pin} (hx : SlN w (some ⟨vb, 0, none⟩) 1 1 [p]) : ∀ j v, (pl p)[j]? = some v → w.cell? ⟨vb, 0 + j, none⟩ = some v := by
  obtain ⟨-, -, c1, c2, c3⟩ := hx.2.2.2.2 _ rfl 0 (by simp)
  intro j v hj
  match j, hj with
  | 0, hj => cases hj; exact c1
  | 1, hj => cases hj; exact c2
  | 2, hj => cases hj; exact c3
  | j + 3, hj => simp [pl] at hj

set_option maxHeartbeats 1000000 in
/-- slices.Insert(s, i, p), s the call's own, p in a block of its own. -/
theorem ins_pins (base : Nat) (v : Value) (L : List Pin) (i : Nat) (p : Pin) (vb : Nat) (w : World) (h : OwnN base w v L) (hi : i ≤ L.length) (hl : L.length ≤ 1000000) (hb : base ≤ w.heap.size)
    (hx : w.heap[vb]? = some (.cells #[.string (str p.h), .bool p.s, .int .i64 p.x] 34 (0, 0))) (hne : v.ownBlock ≠ some vb) :
    Calls Tryz.prog 165 #[v, .int .i64 (i : Nat), .slice (some ⟨vb, 0, none⟩) 1 1] w (InsP base v (L.take i ++ p :: L.drop i) w) := by
  have hxs : SlN w (some ⟨vb, 0, none⟩) 1 1 [p] := by
    refine ⟨rfl, Nat.le_refl _, by unfold maxLen; omega, (fun h => by cases h), fun x hx' i hi => ?_⟩
    cases hx'
    obtain rfl : i = 0 := by simpa using hi
    exact ⟨rfl, heap_lt hx, (cell_of_row _ _ _ _ _ _ hx).trans rfl, (cell_of_row _ _ _ _ _ _ hx).trans rfl, (cell_of_row _ _ _ _ _ _ hx).trans rfl⟩
  by_cases hend : i = L.length
  · subst hend
    have := ins_end base v L p vb w h hl hb hxs
    rwa [List.take_length, List.drop_length]
  · rcases id h.2 with ⟨rfl, hn0⟩ | ⟨g, cap, cur, rfl, hg, hcur, hnc, hcm, hcs, htk⟩
    · omega
    · have hcells : ∀ (j : Nat) u, (L.flatMap pl)[j]? = some u → w.cell? ⟨g, 0 + j, none⟩ = some u := by
        intro j u hj
        rw [Nat.zero_add, cell_of_row w g j cur _ _ hcur]
        rw [← htk, List.getElem?_take] at hj
        split at hj
        · simpa using hj
        · cases hj
      have hgne : vb ≠ g := fun e => hne (by rw [e]; rfl)
      have hal : ((L.take i).flatMap pl).length = i * 3 := by rw [flat_pl_length, List.length_take]; omega
      have hdl : ((L.drop i).flatMap pl).length = (L.length - i) * 3 := by rw [flat_pl_length, List.length_drop]
      have hpl : (pl p).length = 3 := rfl
      have hnew : (L.take i ++ p :: L.drop i).flatMap pl = (L.take i).flatMap pl ++ (pl p ++ (L.drop i).flatMap pl) := by rw [List.flatMap_append, List.flatMap_cons]
      have hnl : (L.take i ++ p :: L.drop i).length = L.length + 1 := by simp; omega
      have e3 : (i + 1) * 3 = i * 3 + (pl p).length := by rw [hpl]; omega
      by_cases hroom : L.length + 1 ≤ cap
      · refine (ins_shift g L.length cap i vb L p w (by omega) hroom hcm hl hgne rfl hcells (fun j hj => by rw [cell_of_row w g j cur _ _ hcur, Array.getElem?_eq_getElem (by omega)]; rfl) (fun j => frozen_of_row _ _ _ _ _ hcur) (pl_of_slN hxs) 34 34 3 (cap * 3) (by simp [World.shape?, hx]) (by simp [World.shape?, hcur, hcs]) (by omega) (fun j => frozen_of_row _ _ _ _ _ hx)).mono ?_
        rintro e w' ⟨rfl, rfl⟩
        have h1 := heap_setCells_row g 34 ((L.drop i).flatMap pl) cur ((i + 1) * 3) w.drew hcur
        have h2 := heap_setCells_row g 34 (pl p) _ (i * 3) _ h1
        refine ⟨_, rfl, ⟨?_, .inr ⟨g, cap, _, by rw [hnl], hg, h2, by omega, hcm, by rw [splice_size, splice_size]; exact hcs, ?_⟩⟩, ?_, fun k hk => .inl hk⟩
        · rw [flat_pl_length]
        · rw [e3, hnew, hnl, show (L.length + 1) * 3 = i * 3 + (pl p).length + ((L.drop i).flatMap pl).length by rw [hpl, hdl]; omega]
          refine splice_shiftN cur (i * 3) _ (pl p) _ ?_ hal (by rw [hpl, hdl]; omega)
          rw [hdl, show i * 3 + (L.length - i) * 3 = L.length * 3 by omega, htk, ← List.flatMap_append, List.take_append_drop]
        · exact (show w.grownBy w.drew _ from ⟨rfl, rfl, rfl, Nat.le_refl _, fun _ _ _ => rfl⟩).trans ((setCells_grown g _ _ w.drew).trans (setCells_grown g _ _ _))
      · refine (ins_grow g L.length cap i vb L p w (by omega) hnc (by omega) hl rfl hcells (pl_of_slN hxs)).mono ?_
        rintro e w' ⟨G, ROW, hG1, hG2, hR1, hR2, rfl, rfl⟩
        have h0 : (w.alloc (.cells ROW 34)).drew.heap[w.heap.size]? = some (.cells ROW 34 (0, 0)) := heap_alloc_eq _ _ _ rfl
        have h1 := heap_setCells_row w.heap.size 34 (pl p) ROW (i * 3) _ h0
        have h2 := heap_setCells_row w.heap.size 34 ((L.drop i).flatMap pl) _ ((i + 1) * 3) ((w.alloc (.cells ROW 34)).drew.setCells w.heap.size (i * 3) (pl p)).drew h1
        refine ⟨_, rfl, ⟨?_, .inr ⟨w.heap.size, G, _, by rw [hnl], hb, h2, by omega, hG2, by rw [splice_size, splice_size]; exact hR1, ?_⟩⟩, ?_, fun k hk => .inr (by cases hk; exact Nat.le_refl _)⟩
        · rw [flat_pl_length]
        · rw [e3, hnew, hnl, show (L.length + 1) * 3 = i * 3 + (pl p).length + ((L.drop i).flatMap pl).length by rw [hpl, hdl]; omega]
          exact splice_grow ROW (i * 3) _ (pl p) _ hR2 hal (by rw [hpl, hdl]; omega)
        · have hA := setCells_grown w.heap.size (pl p) (i * 3) (w.alloc (.cells ROW 34)).drew
          have hB := setCells_grown w.heap.size ((L.drop i).flatMap pl) ((i + 1) * 3) ((w.alloc (.cells ROW 34)).drew.setCells w.heap.size (i * 3) (pl p)).drew
          have hz : w.heap.size ≤ (w.alloc (.cells ROW 34)).drew.heap.size := by simp
          have hz1 := hA.size
          have hz2 := hB.size
          exact ⟨hB.os.trans hA.os, hB.tape.trans hA.tape, hB.output.trans hA.output, Nat.le_trans hz (Nat.le_trans hz1 hz2), fun k hk _ => (hB.block k (Nat.lt_of_lt_of_le hk (Nat.le_trans hz hz1)) (fun e => by cases e; omega)).trans ((hA.block k (Nat.lt_of_lt_of_le hk hz) (fun e => by cases e; omega)).trans (heap_alloc_lt w _ _ hk))⟩

end Go.Proofs.YtmanejniepghlaaGreatDoor

/-
  Rows of pins: parts of a row, one element set, clear.
-/
namespace Go.Proofs.YtmanejniepghlaaGreatDoor
open Go.RowKit

theorem flat_take (L : List Pin) {i : Nat} (hi : i ≤ L.length) : (L.take i).flatMap pl = (L.flatMap pl).take (i * 3) := by
  conv => rhs; rw [← List.take_append_drop i L, List.flatMap_append]
  rw [List.take_left' (by rw [flat_pl_length, List.length_take]; omega)]
theorem flat_drop (L : List Pin) {i : Nat} (hi : i ≤ L.length) : (L.drop i).flatMap pl = (L.flatMap pl).drop (i * 3) := by
  conv => rhs; rw [← List.take_append_drop i L, List.flatMap_append]
  rw [List.drop_left' (by rw [flat_pl_length, List.length_take]; omega)]
/-- One element of an own slice is set. -/
theorem OwnN.set3 {base : Nat} {w : World} {g n c : Nat} {L : List Pin} (h : OwnN base w (.slice (some ⟨g, 0, none⟩) n c) L) {i : Nat} (hi : i < L.length) (p : Pin) :
    OwnN base (((w.setCell ⟨g, i * 3, none⟩ (.string (str p.h))).setCell ⟨g, i * 3 + 1, none⟩ (.bool p.s)).setCell ⟨g, i * 3 + 2, none⟩ (.int .i64 p.x)) (.slice (some ⟨g, 0, none⟩) n c) (L.set i p) := by
  refine ⟨by rw [flat_pl_length], ?_⟩
  rcases h.2 with ⟨hv, hn⟩ | ⟨g', cap, cur, hv, hg, hc, hnc, hcm, hcs, htake⟩
  · cases hv
  · cases hv
    have h1 := heap_setCells_row g 34 (pl p) cur (i * 3) w hc
    refine .inr ⟨g, c, _, by rw [List.length_set], hg, h1, by rw [List.length_set]; exact hnc, hcm, by rw [splice_size]; exact hcs, ?_⟩
    have hpl : (pl p).length = 3 := rfl
    have hset : L.set i p = L.take i ++ p :: L.drop (i + 1) := by rw [List.set_eq_take_append_cons_drop, if_pos hi]
    rw [List.length_set, hset, splice_toList _ _ _ (by rw [hpl]; omega), List.flatMap_append, List.flatMap_cons, hpl]
    have e1 : cur.toList.take (i * 3) = (L.take i).flatMap pl := by
      rw [flat_take L (by omega), ← htake, List.take_take, show min (i * 3) (L.length * 3) = i * 3 by omega]
    have e2 : (cur.toList.drop (i * 3 + 3)).take (L.length * 3 - (i * 3 + 3)) = (L.drop (i + 1)).flatMap pl := by
      rw [flat_drop L (by omega), ← htake, List.drop_take, show (i + 1) * 3 = i * 3 + 3 by omega]
    have hl : ((L.take i).flatMap pl ++ pl p).length = i * 3 + 3 := by rw [List.length_append, flat_pl_length, List.length_take, hpl]; omega
    rw [e1, List.take_append, List.take_of_length_le (by omega), hl, e2, List.append_assoc]

/-- clear(s), elements of any size. -/
theorem run_clear_k {P : Program} (w : World) (t e ty : TypeId) (z : Value) (ht : P.underlying t = some (.slice e)) (hv : ∀ w, (zeroValue e).run P w = .ok z w) (b o n c : Nat) (hn : 0 < n) (zs : List Value) (hzs : (Builtin.zeroCells z.cells n).toList = zs)
    (hc : ∀ j, j < zs.length → (w.cell? ⟨b, o + j, none⟩).isSome = true) (hf : ∀ j, j < zs.length → w.frozen? ⟨b, o + j, none⟩ = false) (h1 : ∀ v ∈ zs, v.oneCell' = true) :
    (Builtin.clear_ #[t] ty #[.slice (some ⟨b, o, none⟩) n c]).run P w = .ok (.tuple #[]) (w.setCells b o zs) := by
  have hst := run_storeCells_cells (P := P) b o zs 0 w (by simpa using hc) (by simpa using hf) h1
  simp only [Nat.add_zero] at hst
  obtain ⟨m, rfl⟩ : ∃ m, n = m + 1 := ⟨n - 1, by omega⟩
  simp [Builtin.clear_, run_underlying ht, hv, hzs, hst]

theorem grown_trans {w w1 w2 : World} {row : Option Nat} (h : w.grownBy w1 row) (k : w1.grownBy w2 row) : w.grownBy w2 row :=
  ⟨k.os.trans h.os, k.tape.trans h.tape, k.output.trans h.output, Nat.le_trans h.size k.size, fun i hi hne => (k.block i (Nat.lt_of_lt_of_le hi h.size) hne).trans (h.block i hi hne)⟩
theorem zero_one (m : Nat) : ∀ v ∈ (Builtin.zeroCells (Value.agg #[.string ⟨#[]⟩, .bool false, .int .i64 0]).cells m).toList, v.oneCell' = true := by
  intro v hv
  rw [Array.mem_toList_iff, Array.mem_iff_getElem] at hv
  obtain ⟨i, hi, rfl⟩ := hv
  simp [Builtin.zeroCells, Value.cells]
  have h3 : i % 3 = 0 ∨ i % 3 = 1 ∨ i % 3 = 2 := by omega
  rcases h3 with h | h | h <;> simp [h] <;> rfl
theorem zero_len (m : Nat) : (Builtin.zeroCells (Value.agg #[.string ⟨#[]⟩, .bool false, .int .i64 0]).cells m).toList.length = m * 3 := by
  simp [Builtin.zeroCells, Value.cells]

end Go.Proofs.YtmanejniepghlaaGreatDoor
