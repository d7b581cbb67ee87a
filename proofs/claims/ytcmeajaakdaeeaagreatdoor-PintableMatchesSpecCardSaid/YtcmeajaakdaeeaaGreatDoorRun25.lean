/-
  Texts in one: InsN, InsN2, Put, Exp, DelF, DelF2, Expire, TabAw, StepN.
-/
import Derived.Test.YtcmeajaakdaeeaaGreatDoorRun24
import Derived.Shelf.Spec.SlicesInsert
import Derived.Lib.AppendZerosOnto
import Derived.Laws.NewBlocks
import Derived.Test.YtcmeajaakdaeeaaGreatDoorRun14
import Derived.Test.YtcmeajaakdaeeaaGreatDoorRun2
import Derived.Test.YtcmeajaakdaeeaaGreatDoorRun16
/-
  slices.Insert of one pin.
-/
namespace Go.Proofs.YtcmeajaakdaeeaaGreatDoor
open Go.RowKit

/-- copy, elements of k cells: what the source held goes over. -/
theorem run_copy_k {P : Program} (k : Nat) (w : World) (dT sT ty elem : TypeId) (b o dLen dCap : Nat) (a : Addr) (sLen sCap : Nat) (cs : List Value)
    (hu : P.underlying dT = some (.slice elem)) (hs : (P.info? elem).map (·.size) = some k) (hn : cs.length = Nat.min sLen dLen * k)
    (hsrc : ∀ j v, cs[j]? = some v → w.cell? (a.add j) = some v) (hc : ∀ j, j < cs.length → (w.cell? ⟨b, o + j, none⟩).isSome = true) (hf : ∀ j, j < cs.length → w.frozen? ⟨b, o + j, none⟩ = false) (h1 : ∀ v ∈ cs, v.oneCell' = true) :
    (Builtin.copy_ #[dT, sT] ty #[.slice (some ⟨b, o, none⟩) dLen dCap, .slice (some a) sLen sCap]).run P w = .ok (goInt (Nat.min sLen dLen)) (w.setCells b o cs) := by
  have hl := run_loadCells_list (P := P) w a cs hsrc
  have hst := run_storeCells_cells (P := P) b o cs 0 w (by simpa using hc) (by simpa using hf) h1
  cases hq : P.info? elem with
  | none => simp [hq] at hs
  | some i =>
    have hi : i.size = k := by simpa [hq] using hs
    simp [Builtin.copy_, run_underlying hu, Builtin.lenOf, Builtin.firstCells, sizeOf, typeInfo, hq, hi, ← hn, hl, hst]

theorem pl_one (l : List Pin) : ∀ v ∈ l.flatMap pl, v.oneCell' = true := by
  intro u hu
  obtain ⟨p, _, hp⟩ := List.mem_flatMap.1 hu
  simp [pl] at hp
  rcases hp with rfl | rfl | rfl <;> rfl

set_option maxHeartbeats 4000000 in
set_option maxRecDepth 100000 in
theorem ins_grow (b n c i vb : Nat) (L : List Pin) (p : Pin) (w : World) (hi : i < n) (hnc : n ≤ c) (hroom : c < n + 1) (hbig : n ≤ 1000000) (hL : L.length = n)
    (hcs : ∀ j v, (L.flatMap pl)[j]? = some v → w.cell? ⟨b, 0 + j, none⟩ = some v) (hvs : ∀ j v, (pl p)[j]? = some v → w.cell? ⟨vb, 0 + j, none⟩ = some v) :
    Calls Tryz.prog 28 #[.slice (some ⟨b, 0, none⟩) n c, .int .i64 i, .slice (some ⟨vb, 0, none⟩) 1 1] w fun e w' =>
      ∃ G ROW, n + 1 ≤ G ∧ G ≤ maxLen ∧ ROW.size = G * 3 ∧ ROW.toList.take (i * 3) = (L.take i).flatMap pl ∧ e = .returned (.slice (some ⟨w.heap.size, 0, none⟩) (n + 1) G) ∧
      w' = (((w.alloc (.cells ROW 23)).drew.setCells w.heap.size (i * 3) (pl p)).drew).setCells w.heap.size ((i + 1) * 3) ((L.drop i).flatMap pl) := by
  have mixed : Tryz.prog.follows Departure.mixedOrders = true := by kernel_rfl
  obtain ⟨i0, hi0, hz0, hzs, hzb⟩ := info_parts infoPin
  have hz2 : ¬ ((i : Int) = (n : Int)) := by omega
  have hz3 : (c : Int) < (n : Int) + 1 := by omega
  have hsz : (Tryz.prog.info? 23).map (·.size) = some 3 := by rw [hi0]; simp [hzs]
  have hcl : (L.flatMap pl).length = n * 3 := by rw [flat_pl_length, hL]
  have hbw : b < w.heap.size := block_lt_of_cell (hcs 0 _ (List.getElem?_eq_getElem (by omega)))
  have hvw : vb < w.heap.size := block_lt_of_cell (hvs 0 _ (List.getElem?_eq_getElem (by simp [pl])))
  have hkk : (n : Int) + 1 - (i : Int) = ((n + 1 - i : Nat) : Int) := by omega
  have hik : i + (n + 1 - i) = n + 1 := by omega
  have htk : (L.take i).flatMap pl = (L.flatMap pl).take (i * 3) := by
    conv => rhs; rw [← List.take_append_drop i L, List.flatMap_append]
    rw [List.take_left' (by rw [flat_pl_length, List.length_take]; omega)]
  have hdk : (L.drop i).flatMap pl = (L.flatMap pl).drop (i * 3) := by
    conv => rhs; rw [← List.take_append_drop i L, List.flatMap_append]
    rw [List.drop_left' (by rw [flat_pl_length, List.length_take]; omega)]
  have hold : (Builtin.firstCells i0.size i (.slice (some ⟨b, 0, none⟩) i c)).run Tryz.prog w.drew = .ok ((L.flatMap pl).take (i * 3)).toArray w.drew := by
    rw [hzs]
    exact run_firstCells_some w.drew 3 i ⟨b, 0, none⟩ i c ((L.flatMap pl).take (i * 3)) (by rw [List.length_take]; omega) (fun j v hj => by
      rw [Addr.add_lit]
      rw [List.getElem?_take] at hj
      split at hj
      · exact hcs j v hj
      · cases hj)
  have hrz : ∀ ty, (Builtin.append_ #[28, 3] ty #[.slice (some ⟨b, 0, none⟩) i c, .int .i64 ((n : Int) + 1 - (i : Int))]).run Tryz.prog w =
      .ok (.slice (some ⟨w.heap.size, 0, none⟩) (n + 1) (grownCap w (n + 1) c 23)) (w.drew.alloc (.cells (((L.flatMap pl).take (i * 3)).toArray ++ Builtin.zeroCells (Value.agg #[.string ⟨#[]⟩, .bool false, .int .i64 0]).cells (n + 1 - i) ++ Builtin.zeroCells (Value.agg #[.string ⟨#[]⟩, .bool false, .int .i64 0]).cells (grownCap w (n + 1) c 23 - (n + 1))) 23)) := fun ty => by
    have h := Lib.run_append_grow_zeros w 28 3 ty 23 i0 _ .i64 .i64 Tryz.underlying28 Tryz.underlying3 hi0 hz0 (some ⟨b, 0, none⟩) i c ((L.flatMap pl).take (i * 3)) hold (n + 1 - i) (by omega) (by omega) (by omega) (by omega) (by rw [hzb]; omega) (by rw [hzb, hik]; exact growslice_fits hroom (by omega))
    rw [hik] at h
    rw [hkk]
    exact h
  have hGn : n + 1 ≤ grownCap w (n + 1) c 23 := grownCap_ge w _ _ _
  have hGm : grownCap w (n + 1) c 23 ≤ maxLen := grownCap_le_maxLen w (n + 1) c 23 (by unfold maxLen; omega)
  obtain ⟨G, hG⟩ : ∃ G, G = grownCap w (n + 1) c 23 := ⟨_, rfl⟩
  rw [← hG] at hrz hGn hGm
  obtain ⟨ROW, hROW⟩ : ∃ ROW : Array Value, ROW = ((L.flatMap pl).take (i * 3)).toArray ++ Builtin.zeroCells (Value.agg #[.string ⟨#[]⟩, .bool false, .int .i64 0]).cells (n + 1 - i) ++ Builtin.zeroCells (Value.agg #[.string ⟨#[]⟩, .bool false, .int .i64 0]).cells (G - (n + 1)) := ⟨_, rfl⟩
  rw [← hROW] at hrz
  have hRl : ROW.size = G * 3 := by
    rw [hROW]
    simp [Builtin.zeroCells, Value.cells, hcl]
    omega
  have hRt : ROW.toList.take (i * 3) = (L.take i).flatMap pl := by
    rw [hROW, htk, Array.toList_append, Array.toList_append, List.append_assoc, List.take_append_of_le_length (by simp [hcl]; omega)]
    exact List.take_of_length_le (by simp; omega)
  obtain ⟨W1, hW1⟩ : ∃ W1, W1 = w.drew.alloc (.cells ROW 23) := ⟨_, rfl⟩
  rw [← hW1] at hrz
  have hN : ∀ j, j < (n + 1) * 3 → (W1.cell? ⟨w.heap.size, j, none⟩).isSome = true := fun j hj => by
    rw [hW1, World.cell?_alloc_at (w := w.drew) ROW _ w.heap.size j rfl, Array.getElem?_eq_getElem (by omega)]; rfl
  have hNf : ∀ j, W1.frozen? ⟨w.heap.size, j, none⟩ = false := fun j => by rw [hW1]; exact World.frozen?_alloc_at (w := w.drew) ROW _ w.heap.size j rfl
  have hOb : ∀ j v, w.cell? ⟨b, j, none⟩ = some v → W1.cell? ⟨b, j, none⟩ = some v := fun j v h => by rw [hW1, World.cell?_alloc_past (w := w.drew) _ b j hbw]; exact h
  have hOv : ∀ j v, w.cell? ⟨vb, j, none⟩ = some v → W1.cell? ⟨vb, j, none⟩ = some v := fun j v h => by rw [hW1, World.cell?_alloc_past (w := w.drew) _ vb j hvw]; exact h
  have h1v : ∀ v ∈ pl p, v.oneCell' = true := fun v hv => pl_one [p] v (by simpa using hv)
  have hpl : (pl p).length = 3 := rfl
  obtain ⟨vs, hvse⟩ : ∃ vs, pl p = vs := ⟨_, rfl⟩
  rw [hvse] at hvs h1v hpl
  have hdl : ((L.drop i).flatMap pl).length = (n - i) * 3 := by rw [flat_pl_length, List.length_drop, hL]
  have hds : ∀ j v, ((L.drop i).flatMap pl)[j]? = some v → w.cell? ⟨b, i * 3 + j, none⟩ = some v := fun j v hj => by
    rw [hdk, List.getElem?_drop] at hj
    have := hcs _ _ hj
    rwa [Nat.zero_add] at this
  have h1d := pl_one (L.drop i)
  obtain ⟨ds, hdse⟩ : ∃ ds, (L.drop i).flatMap pl = ds := ⟨_, rfl⟩
  rw [hdse] at hdl hds h1d
  have hcpA : ∀ (W : World), (∀ x, W.cell? x = W1.cell? x) → (∀ x, W.frozen? x = W1.frozen? x) → ∀ ty dc, (Builtin.copy_ #[28, 28] ty #[.slice (some ⟨w.heap.size, i * 3, none⟩) (n + 1 - i) dc, .slice (some ⟨vb, 0, none⟩) 1 1]).run Tryz.prog W = .ok (goInt 1) (W.setCells w.heap.size (i * 3) vs) := fun W hWc hWf ty dc => by
    have hm : Nat.min 1 (n + 1 - i) = 1 := by simp only [Nat.min_def]; split <;> omega
    have := run_copy_k (P := Tryz.prog) 3 W _ 28 ty 23 w.heap.size (i * 3) (n + 1 - i) dc ⟨vb, 0, none⟩ 1 1 vs Tryz.underlying28 hsz (by rw [hm]; omega)
      (fun j v hj => by rw [Addr.add_lit, hWc]; exact hOv _ v (hvs j v hj))
      (fun j hj => by rw [hWc]; exact hN _ (by omega)) (fun j hj => by rw [hWf]; exact hNf _) h1v
    rwa [hm] at this
  have hGi : ¬ (G = i) := by omega
  have hGim : ¬ (G = i + 1) := by omega
  have hci : ¬ (c = i) := by omega
  have hbN : b ≠ w.heap.size := by omega
  have hcpB : ∀ (W : World), (∀ x, W.cell? x = (W1.setCells w.heap.size (i * 3) vs).cell? x) → (∀ x, W.frozen? x = (W1.setCells w.heap.size (i * 3) vs).frozen? x) → ∀ ty dc sc, (Builtin.copy_ #[28, 28] ty #[.slice (some ⟨w.heap.size, (i + 1) * 3, none⟩) (n + 1 - (i + 1)) dc, .slice (some ⟨b, i * 3, none⟩) (n - i) sc]).run Tryz.prog W = .ok (goInt ((n - i : Nat) : Int)) (W.setCells w.heap.size ((i + 1) * 3) ds) := fun W hWc hWf ty dc sc => by
    have hm : Nat.min (n - i) (n + 1 - (i + 1)) = n - i := by simp only [Nat.min_def]; split <;> omega
    have := run_copy_k (P := Tryz.prog) 3 W _ 28 ty 23 w.heap.size ((i + 1) * 3) (n + 1 - (i + 1)) dc ⟨b, i * 3, none⟩ (n - i) sc ds Tryz.underlying28 hsz (by rw [hm]; omega)
      (fun j v hj => by
        rw [Addr.add_lit, hWc, World.cell?_setCells_out _ _ _ _ _ (fun h _ => absurd h hbN)]
        exact hOb _ v (hds j v hj))
      (fun j hj => by rw [hWc]; exact isSome_setCells _ _ _ _ (fun t ht => hN _ (by omega)) _ (hN _ (by omega)))
      (fun j hj => by rw [hWf, World.frozen?_setCells]; exact hNf _) h1d
    rwa [hm] at this
  subst hW1
  have hE1 : ∀ x, ((w.alloc (.cells ROW 23)).drew).cell? x = (w.drew.alloc (.cells ROW 23)).cell? x := fun x => rfl
  have hE2 : ∀ x, ((w.alloc (.cells ROW 23)).drew).frozen? x = (w.drew.alloc (.cells ROW 23)).frozen? x := fun x => rfl
  have hF1 : ∀ x, (((w.alloc (.cells ROW 23)).drew.setCells w.heap.size (i * 3) vs).drew).cell? x = ((w.drew.alloc (.cells ROW 23)).setCells w.heap.size (i * 3) vs).cell? x := fun x => rfl
  have hF2 : ∀ x, (((w.alloc (.cells ROW 23)).drew.setCells w.heap.size (i * 3) vs).drew).frozen? x = ((w.drew.alloc (.cells ROW 23)).setCells w.heap.size (i * 3) vs).frozen? x := fun x => rfl
  have hw1 : IntKind.i64.wrap ((i : Int) + 1) = (i : Int) + 1 := by rw [IntKind.wrap_i64]; omega
  have hb1 : (0 : Int) ≤ (i : Int) + 1 := by omega
  have hin : i ≤ n := by omega
  have htn : ((i : Int) + 1).toNat = i + 1 := by omega
  have hb3 : (i : Int) ≤ (n : Int) := by omega
  have HFIN := Lib.hid (show ∃ G' ROW', n + 1 ≤ G' ∧ G' ≤ maxLen ∧ ROW'.size = G' * 3 ∧ ROW'.toList.take (i * 3) = (L.take i).flatMap pl ∧ G' = G ∧ ROW' = ROW from ⟨G, ROW, hGn, hGm, hRl, hRt, rfl, rfl⟩)
  clear hkk hik hold hROW hG hRl hRt htk hdk hcl hvs hds h1v h1d
  go_enter Tryz.func28, Tryz.ntmps28
  go_wp2_with (first
    | (at_builtin; refine Lib.wpList_append_run _ rfl _ _ _ _ rfl _ _ rfl rfl _ _ (hrz _) ?_)
    | (at_builtin; refine wpList_copy_runI _ rfl _ _ 28 28 rfl _ _ rfl rfl (hcpA _ hE1 hE2 _ _) ?_)
    | (at_builtin; refine wpList_copy_runI _ rfl _ _ 28 28 rfl _ _ rfl rfl (hcpB _ (fun _ => rfl) (fun _ => rfl) _ _ _) ?_))
  go_region_law_o (refine step_copy_runI rfl _ _ 28 28 rfl (.slice (some ⟨w.heap.size, (i + 1) * 3, none⟩) (n + 1 - (i + 1)) (G - (i + 1))) (.slice (some ⟨b, i * 3, none⟩) (n - i) (c - i)) (by simp [Act.eval, Act.put]) (by simp [Act.eval, Act.put]) (hcpB _ hF1 hF2 3 (G - (i + 1)) (c - i)) ?_)
  go_wp2
  go_ret
  obtain ⟨G', ROW', f1, f2, f3, f4, rfl, rfl⟩ := HFIN.out
  exact ⟨G', ROW', f1, f2, f3, f4, rfl, by rw [hvse, hdse]⟩

set_option maxHeartbeats 4000000 in
set_option maxRecDepth 100000 in
theorem ins_shift (b n c i vb : Nat) (L : List Pin) (p : Pin) (w : World) (hi : i < n) (hroom : n + 1 ≤ c) (_hc63 : c ≤ maxLen) (hbig : n ≤ 1000000) (hvb : vb ≠ b) (hL : L.length = n)
    (hcs : ∀ j v, (L.flatMap pl)[j]? = some v → w.cell? ⟨b, 0 + j, none⟩ = some v) (hsp : ∀ j, j < (n + 1) * 3 → (w.cell? ⟨b, j, none⟩).isSome = true) (hfz : ∀ j, w.frozen? ⟨b, j, none⟩ = false) (hvs : ∀ j v, (pl p)[j]? = some v → w.cell? ⟨vb, 0 + j, none⟩ = some v)
    (tA tB : TypeId) (kA kB : Nat) (hsa : w.shape? vb = some (tA, kA)) (hsb : w.shape? b = some (tB, kB)) (hkB : kB ≠ 0) (hfa : ∀ j, w.frozen? ⟨vb, j, none⟩ = false) :
    Calls Tryz.prog 28 #[.slice (some ⟨b, 0, none⟩) n c, .int .i64 i, .slice (some ⟨vb, 0, none⟩) 1 1] w fun e w' =>
      e = .returned (.slice (some ⟨b, 0, none⟩) (n + 1) c) ∧ w' = (w.drew.setCells b ((i + 1) * 3) ((L.drop i).flatMap pl)).setCells b (i * 3) (pl p) := by
  have mixed : Tryz.prog.follows Departure.mixedOrders = true := by kernel_rfl
  obtain ⟨i0, hi0, hz0, hzs, hzb⟩ := info_parts infoPin
  have hz2 : ¬ ((i : Int) = (n : Int)) := by omega
  have hsz : (Tryz.prog.info? 23).map (·.size) = some 3 := by rw [hi0]; simp [hzs]
  have hov : ∀ lb cb, (callFunc 47 #[.slice (some ⟨vb, 0, none⟩) 1 1, .slice (some ⟨b, (i + 1) * 3, none⟩) lb cb]).run Tryz.prog w = .ok (.value (.bool false)) w := fun lb cb => by
    rw [run_callFunc_extern Tryz.func47 (by kernel_rfl) (by kernel_rfl) (by kernel_rfl) (e := Extern.SlicesOverlaps.overlaps #[28, 28] #[4]) (by kernel_rfl),
      Lib.run_overlaps_apart w 28 4 23 Tryz.underlying28 3 (fun w => by simp [sizeOf, typeInfo, hi0, hzs]) ⟨vb, 0, none⟩ ⟨b, (i + 1) * 3, none⟩ 1 1 lb cb hvb tA tB kA kB hsa hsb hkB (hfa _) (hfa _)]
    rfl
  have hdk : (L.drop i).flatMap pl = (L.flatMap pl).drop (i * 3) := by
    conv => rhs; rw [← List.take_append_drop i L, List.flatMap_append]
    rw [List.drop_left' (by rw [flat_pl_length, List.length_take]; omega)]
  have hw1 : IntKind.i64.wrap ((i : Int) + 1) = (i : Int) + 1 := by rw [IntKind.wrap_i64]; omega
  have hb1 : (0 : Int) ≤ (i : Int) + 1 := by omega
  have hin : i ≤ n := by omega
  have htn : ((i : Int) + 1).toNat = i + 1 := by omega
  have hb2 : ¬ (c = i + 1) := by omega
  have hb3 : (i : Int) ≤ (n : Int) + 1 := by omega
  have hb4 : ¬ (c = i) := by omega
  have h1v : ∀ v ∈ pl p, v.oneCell' = true := fun v hv => pl_one [p] v (by simpa using hv)
  have hpl : (pl p).length = 3 := rfl
  obtain ⟨vs, hvse⟩ : ∃ vs, pl p = vs := ⟨_, rfl⟩
  rw [hvse] at hvs h1v hpl
  have hdl : ((L.drop i).flatMap pl).length = (n - i) * 3 := by rw [flat_pl_length, List.length_drop, hL]
  have hds : ∀ j v, ((L.drop i).flatMap pl)[j]? = some v → w.cell? ⟨b, i * 3 + j, none⟩ = some v := fun j v hj => by
    rw [hdk, List.getElem?_drop] at hj
    have := hcs _ _ hj
    rwa [Nat.zero_add] at this
  have h1d := pl_one (L.drop i)
  obtain ⟨ds, hdse⟩ : ∃ ds, (L.drop i).flatMap pl = ds := ⟨_, rfl⟩
  rw [hdse] at hdl hds h1d
  have hcp1 : ∀ ty dc sc, (Builtin.copy_ #[28, 28] ty #[.slice (some ⟨b, (i + 1) * 3, none⟩) (n - i) dc, .slice (some ⟨b, i * 3, none⟩) (n + 1 - i) sc]).run Tryz.prog w.drew = .ok (goInt ((n - i : Nat) : Int)) (w.drew.setCells b ((i + 1) * 3) ds) := fun ty dc sc => by
    have hm : Nat.min (n + 1 - i) (n - i) = n - i := by simp only [Nat.min_def]; split <;> omega
    have := run_copy_k (P := Tryz.prog) 3 w.drew _ 28 ty 23 b ((i + 1) * 3) (n - i) dc ⟨b, i * 3, none⟩ (n + 1 - i) sc ds Tryz.underlying28 hsz (by rw [hm]; omega)
      (fun j v hj => by rw [Addr.add_lit]; exact hds j v hj)
      (fun j hj => hsp _ (by omega)) (fun j hj => hfz _) h1d
    rwa [hm] at this
  obtain ⟨W1, hW1⟩ : ∃ W1, W1 = w.drew.setCells b ((i + 1) * 3) ds := ⟨_, rfl⟩
  have hsp1 : ∀ k, k < (n + 1) * 3 → (W1.cell? ⟨b, k, none⟩).isSome = true := fun k hk => by
    rw [hW1]
    exact isSome_setCells b ds ((i + 1) * 3) w.drew (fun j hj => hsp _ (by omega)) k (hsp k hk)
  have hcp2 : ∀ (W : World), (∀ x, W.cell? x = W1.cell? x) → (∀ x, W.frozen? x = W1.frozen? x) → ∀ ty dc, (Builtin.copy_ #[28, 28] ty #[.slice (some ⟨b, i * 3, none⟩) (n + 1 - i) dc, .slice (some ⟨vb, 0, none⟩) 1 1]).run Tryz.prog W = .ok (goInt 1) (W.setCells b (i * 3) vs) := fun W hWc hWf ty dc => by
    have hm : Nat.min 1 (n + 1 - i) = 1 := by simp only [Nat.min_def]; split <;> omega
    have := run_copy_k (P := Tryz.prog) 3 W _ 28 ty 23 b (i * 3) (n + 1 - i) dc ⟨vb, 0, none⟩ 1 1 vs Tryz.underlying28 hsz (by rw [hm]; omega)
      (fun j v hj => by
        rw [Addr.add_lit, hWc, hW1, World.cell?_setCells_out b _ _ _ _ (fun h _ => absurd h hvb)]
        exact hvs j v hj)
      (fun j hj => by rw [hWc]; exact hsp1 _ (by omega)) (fun j hj => by rw [hWf, hW1, World.frozen?_setCells]; exact hfz _) h1v
    rwa [hm] at this
  rw [← hW1] at hcp1
  have hcI : (n : Int) + 1 ≤ (c : Int) := by omega
  clear hdk hcs hvs hsp hds h1v h1d
  go_enter Tryz.func28, Tryz.ntmps28
  go_wp2_with (simp only [hov])
  go_region_law_o (refine step_copy_runI rfl _ _ 28 28 rfl _ _ (by simp [Act.eval, Act.put]) (by simp [Act.eval, Act.put]) (hcp1 _ _ _) ?_)
  go_wp2_with (at_builtin; refine wpList_copy_runI _ rfl _ _ 28 28 rfl _ _ rfl rfl (hcp2 _ (fun _ => rfl) (fun _ => rfl) _ _) ?_)
  go_ret
  exact ⟨rfl, by rw [hvse, hdse]⟩

end Go.Proofs.YtcmeajaakdaeeaaGreatDoor

/-
  slices.Insert of one pin into a slice that the call itself made: one contract.
-/
namespace Go.Proofs.YtcmeajaakdaeeaaGreatDoor
open Go.RowKit

theorem splice_grow (cur : Array Value) (o : Nat) (A X Y : List Value) (hA : cur.toList.take o = A) (ho : A.length = o) (hs : o + X.length + Y.length ≤ cur.size) :
    (YtcmeajaakdaeeaaGreatDoor.splice (YtcmeajaakdaeeaaGreatDoor.splice cur o X) (o + X.length) Y).toList.take (o + X.length + Y.length) = A ++ (X ++ Y) := by
  rw [splice_toList _ _ _ (by rw [splice_size]; omega), splice_toList _ _ _ (by omega), hA]
  have h1 : (A ++ X ++ cur.toList.drop (o + X.length)).take (o + X.length) = A ++ X := List.take_left' (by simp; omega)
  rw [h1, List.append_assoc (A ++ X), List.take_append, List.take_of_length_le (by simp; omega), List.take_append]
  simp [ho, List.append_assoc]
theorem splice_shiftN (cur : Array Value) (o : Nat) (A X D : List Value) (hA : cur.toList.take (o + D.length) = A ++ D) (ho : A.length = o) (hs : o + X.length + D.length ≤ cur.size) :
    (YtcmeajaakdaeeaaGreatDoor.splice (YtcmeajaakdaeeaaGreatDoor.splice cur (o + X.length) D) o X).toList.take (o + X.length + D.length) = A ++ (X ++ D) := by
  have hA2 : cur.toList.take o = A := by
    have := congrArg (List.take o) hA
    rw [List.take_take, List.take_left' ho] at this
    rwa [show min o (o + D.length) = o by omega] at this
  rw [splice_toList _ _ _ (by rw [splice_size]; omega), splice_toList _ _ _ (by omega)]
  have h1 : (cur.toList.take (o + X.length) ++ D ++ cur.toList.drop (o + X.length + D.length)).take o = A := by
    rw [List.append_assoc, List.take_append_of_le_length (by simp; omega), List.take_take, show min o (o + X.length) = o by omega, hA2]
  have h2 : (cur.toList.take (o + X.length) ++ D ++ cur.toList.drop (o + X.length + D.length)).drop (o + X.length) = D ++ cur.toList.drop (o + X.length + D.length) := by
    rw [List.append_assoc, List.drop_left' (by simp; omega)]
  rw [h1, h2, ← List.append_assoc, List.take_left' (by simp; omega), List.append_assoc]

/-- append of one pin, with the block that the result lies in. -/
theorem append_where {w : World} {base : Nat} {v : Value} {L : List Pin} (hown : OwnN base w v L) (vb : Nat) (p : Pin) (hsl : SlN w (some ⟨vb, 0, none⟩) 1 1 [p]) (hlen : L.length ≤ 1000000) (hbase : base ≤ w.heap.size) (ty : TypeId) :
    ∃ v' w', (Builtin.append_ #[28, 28] ty #[v, .slice (some ⟨vb, 0, none⟩) 1 1]).run Tryz.prog w = .ok v' w' ∧ OwnN base w' v' (L ++ [p]) ∧ w.grownBy w' v.ownBlock ∧ ∀ k, v'.ownBlock = some k → v.ownBlock = some k ∨ w.heap.size ≤ k := by
  obtain ⟨i0, hi, hz0, hz1, hz2⟩ := info_parts infoPin
  obtain ⟨-, -, c1, c2, c3⟩ := hsl.2.2.2.2 _ rfl 0 (by simp)
  have hnews : ∀ j u, (pl p)[j]? = some u → w.cell? ((⟨vb, 0, none⟩ : Addr).add j) = some u := by
    intro j u hj
    rw [Addr.add_lit]
    match j, hj with
    | 0, hj => cases hj; exact c1
    | 1, hj => cases hj; exact c2
    | 2, hj => cases hj; exact c3
    | j + 3, hj => simp [pl] at hj
  have hpl : (pl p).length = 3 := rfl
  have h1 : ∀ u ∈ pl p, u.oneCell' = true := fun u hu => pl_one [p] u (by simpa using hu)
  obtain ⟨v', w', hr, h2, h3, -⟩ := run_append_own (P := Tryz.prog) w base 28 ty 23 i0 _ 3 32 Tryz.underlying28 hi hz0 hz1 hz2 rfl (by decide) v L.length _ hown ⟨vb, 0, none⟩ 1 1 (pl p) rfl hnews h1 (by unfold maxLen; omega) (by omega) hbase
  refine ⟨v', w', hr, ?_, h3, ?_⟩
  · unfold OwnN; rw [List.length_append, List.flatMap_append]; simpa using h2
  · intro k hk
    rcases hown.2 with ⟨hv, hn⟩ | ⟨g, cap, cur, hv, hbg, hg, hnc, hcm, hcs, htake⟩
    · right
      have hw0 : OwnN w.heap.size w v L := ⟨hown.1, .inl ⟨hv, hn⟩⟩
      obtain ⟨v2, w2, hr2, h22, -, -⟩ := run_append_own (P := Tryz.prog) w w.heap.size 28 ty 23 i0 _ 3 32 Tryz.underlying28 hi hz0 hz1 hz2 rfl (by decide) v L.length _ hw0 ⟨vb, 0, none⟩ 1 1 (pl p) rfl hnews h1 (by unfold maxLen; omega) (by omega) (Nat.le_refl _)
      rw [hr] at hr2
      cases hr2
      exact (World.ownsRow.lt h22 k hk).1
    · subst hv
      by_cases hroom : L.length + 1 ≤ cap
      · left
        have hr2 := run_append_room (P := Tryz.prog) w 28 ty 23 i0 Tryz.underlying28 hi g L.length cap cur hg ⟨vb, 0, none⟩ 1 1 (pl p) (by rw [hz1]; rfl) hnews h1 hroom (by rw [hz1, hpl]; omega)
        rw [hr] at hr2
        cases hr2
        exact hk
      · right
        have holds : ∀ j u, (L.flatMap pl)[j]? = some u → w.cell? ((⟨g, 0, none⟩ : Addr).add j) = some u := by
          intro j u hj
          rw [Addr.add_lit, Nat.zero_add, cell_of_row w g j cur _ _ hg]
          rw [← htake, List.getElem?_take] at hj
          split at hj
          · simpa using hj
          · cases hj
        have hr2 := run_append_grow (P := Tryz.prog) w 28 ty 23 i0 _ Tryz.underlying28 hi hz0 ⟨g, 0, none⟩ L.length cap (L.flatMap pl) (by rw [flat_pl_length, hz1]) holds ⟨vb, 0, none⟩ 1 1 (pl p) (by rw [hz1]; rfl) hnews (by omega) (by omega) (growslice_fits (by omega) (by rw [hz2]; omega))
        rw [hr] at hr2
        cases hr2
        cases hk
        exact Nat.le_refl _

/-- Where the result of an insertion lies. -/
def InsP (base : Nat) (v : Value) (L : List Pin) (w : World) (e : Ending) (w' : World) : Prop := ∃ v', e = .returned v' ∧ OwnN base w' v' L ∧ w.grownBy w' v.ownBlock ∧ ∀ k, v'.ownBlock = some k → v.ownBlock = some k ∨ w.heap.size ≤ k

set_option maxRecDepth 100000 in
theorem ins_end (base : Nat) (v : Value) (L : List Pin) (p : Pin) (vb : Nat) (w : World) (h : OwnN base w v L) (hl : L.length ≤ 1000000) (hb : base ≤ w.heap.size) (hx : SlN w (some ⟨vb, 0, none⟩) 1 1 [p]) :
    Calls Tryz.prog 28 #[v, .int .i64 (L.length : Nat), .slice (some ⟨vb, 0, none⟩) 1 1] w (InsP base v (L ++ [p]) w) := by
  obtain ⟨v1, w1, hr, hown, hg1, hk1⟩ := append_where h vb p hx hl hb 28
  have HR := Lib.hid hr
  have HF := Lib.hid (show InsP base v (L ++ [p]) w (.returned v1) w1 from ⟨v1, rfl, hown, hg1, hk1⟩)
  clear hr hown hg1 hk1
  rcases id h.2 with ⟨rfl, hn0⟩ | ⟨g, cap, cur, rfl, hg, hcur, hnc, hcm, hcs, htk⟩
  · have hl0 : L = [] := List.eq_nil_of_length_eq_zero hn0
    subst hl0
    go_enter Tryz.func28, Tryz.ntmps28
    go_wp2_with (at_builtin; refine Lib.wpList_append_run _ rfl _ _ _ _ rfl _ _ rfl rfl _ _ HR.out ?_)
    go_ret
    exact HF.out
  · obtain ⟨n, hn⟩ : ∃ n, L.length = n := ⟨_, rfl⟩
    rw [hn] at hnc hl HR HF ⊢
    have hle : (n : Int) ≤ (cap : Int) := by omega
    have h63 : (cap : Int) ≤ 9223372036854775807 := by unfold maxLen at hcm; omega
    clear h hn hcur hcs htk
    by_cases hcn : cap = n
    · subst hcn
      go_enter Tryz.func28, Tryz.ntmps28
      go_wp2_with (at_builtin; refine Lib.wpList_append_run _ rfl _ _ _ _ rfl _ _ rfl rfl _ _ HR.out ?_)
      go_ret
      exact HF.out
    · go_enter Tryz.func28, Tryz.ntmps28
      go_wp2_with (at_builtin; refine Lib.wpList_append_run _ rfl _ _ _ _ rfl _ _ rfl rfl _ _ HR.out ?_)
      go_ret
      exact HF.out

theorem pl_of_slN {w : World} {vb : Nat} {p : Pin} (hx : SlN w (some ⟨vb, 0, none⟩) 1 1 [p]) : ∀ j v, (pl p)[j]? = some v → w.cell? ⟨vb, 0 + j, none⟩ = some v := by
  obtain ⟨-, -, c1, c2, c3⟩ := hx.2.2.2.2 _ rfl 0 (by simp)
  intro j v hj
  match j, hj with
  | 0, hj => cases hj; exact c1
  | 1, hj => cases hj; exact c2
  | 2, hj => cases hj; exact c3
  | j + 3, hj => simp [pl] at hj

set_option maxHeartbeats 1000000 in
/-- slices.Insert(s, i, p), s the call's own, p in a block of its own. -/
theorem ins_pins (base : Nat) (v : Value) (L : List Pin) (i : Nat) (p : Pin) (vb : Nat) (w : World) (h : OwnN base w v L) (hi : i ≤ L.length) (hl : L.length ≤ 1000000) (hb : base ≤ w.heap.size)
    (hx : w.heap[vb]? = some (.cells #[.string (str p.h), .bool p.s, .int .i64 p.x] 23 (0, 0))) (hne : v.ownBlock ≠ some vb) :
    Calls Tryz.prog 28 #[v, .int .i64 (i : Nat), .slice (some ⟨vb, 0, none⟩) 1 1] w (InsP base v (L.take i ++ p :: L.drop i) w) := by
  have hxs : SlN w (some ⟨vb, 0, none⟩) 1 1 [p] := by
    refine ⟨rfl, Nat.le_refl _, by unfold maxLen; omega, (fun h => by cases h), fun x hx' i hi => ?_⟩
    cases hx'
    obtain rfl : i = 0 := by simpa using hi
    exact ⟨rfl, heap_lt hx, (cell_of_row _ _ _ _ _ _ hx).trans rfl, (cell_of_row _ _ _ _ _ _ hx).trans rfl, (cell_of_row _ _ _ _ _ _ hx).trans rfl⟩
  by_cases hend : i = L.length
  · subst hend
    have := ins_end base v L p vb w h hl hb hxs
    rwa [List.take_length, List.drop_length]
  · rcases id h.2 with ⟨rfl, hn0⟩ | ⟨g, cap, cur, rfl, hg, hcur, hnc, hcm, hcs, htk⟩
    · omega
    · have hcells : ∀ (j : Nat) u, (L.flatMap pl)[j]? = some u → w.cell? ⟨g, 0 + j, none⟩ = some u := by
        intro j u hj
        rw [Nat.zero_add, cell_of_row w g j cur _ _ hcur]
        rw [← htk, List.getElem?_take] at hj
        split at hj
        · simpa using hj
        · cases hj
      have hgne : vb ≠ g := fun e => hne (by rw [e]; rfl)
      have hal : ((L.take i).flatMap pl).length = i * 3 := by rw [flat_pl_length, List.length_take]; omega
      have hdl : ((L.drop i).flatMap pl).length = (L.length - i) * 3 := by rw [flat_pl_length, List.length_drop]
      have hpl : (pl p).length = 3 := rfl
      have hnew : (L.take i ++ p :: L.drop i).flatMap pl = (L.take i).flatMap pl ++ (pl p ++ (L.drop i).flatMap pl) := by rw [List.flatMap_append, List.flatMap_cons]
      have hnl : (L.take i ++ p :: L.drop i).length = L.length + 1 := by simp; omega
      have e3 : (i + 1) * 3 = i * 3 + (pl p).length := by rw [hpl]; omega
      by_cases hroom : L.length + 1 ≤ cap
      · refine (ins_shift g L.length cap i vb L p w (by omega) hroom hcm hl hgne rfl hcells (fun j hj => by rw [cell_of_row w g j cur _ _ hcur, Array.getElem?_eq_getElem (by omega)]; rfl) (fun j => frozen_of_row _ _ _ _ _ hcur) (pl_of_slN hxs) 23 23 3 (cap * 3) (by simp [World.shape?, hx]) (by simp [World.shape?, hcur, hcs]) (by omega) (fun j => frozen_of_row _ _ _ _ _ hx)).mono ?_
        rintro e w' ⟨rfl, rfl⟩
        have h1 := heap_setCells_row g 23 ((L.drop i).flatMap pl) cur ((i + 1) * 3) w.drew hcur
        have h2 := heap_setCells_row g 23 (pl p) _ (i * 3) _ h1
        refine ⟨_, rfl, ⟨?_, .inr ⟨g, cap, _, by rw [hnl], hg, h2, by omega, hcm, by rw [splice_size, splice_size]; exact hcs, ?_⟩⟩, ?_, fun k hk => .inl hk⟩
        · rw [flat_pl_length]
        · rw [e3, hnew, hnl, show (L.length + 1) * 3 = i * 3 + (pl p).length + ((L.drop i).flatMap pl).length by rw [hpl, hdl]; omega]
          refine splice_shiftN cur (i * 3) _ (pl p) _ ?_ hal (by rw [hpl, hdl]; omega)
          rw [hdl, show i * 3 + (L.length - i) * 3 = L.length * 3 by omega, htk, ← List.flatMap_append, List.take_append_drop]
        · exact (show w.grownBy w.drew _ from ⟨rfl, rfl, rfl, Nat.le_refl _, fun _ _ _ => rfl⟩).trans ((setCells_grown g _ _ w.drew).trans (setCells_grown g _ _ _))
      · refine (ins_grow g L.length cap i vb L p w (by omega) hnc (by omega) hl rfl hcells (pl_of_slN hxs)).mono ?_
        rintro e w' ⟨G, ROW, hG1, hG2, hR1, hR2, rfl, rfl⟩
        have h0 : (w.alloc (.cells ROW 23)).drew.heap[w.heap.size]? = some (.cells ROW 23 (0, 0)) := heap_alloc_eq _ _ _ rfl
        have h1 := heap_setCells_row w.heap.size 23 (pl p) ROW (i * 3) _ h0
        have h2 := heap_setCells_row w.heap.size 23 ((L.drop i).flatMap pl) _ ((i + 1) * 3) ((w.alloc (.cells ROW 23)).drew.setCells w.heap.size (i * 3) (pl p)).drew h1
        refine ⟨_, rfl, ⟨?_, .inr ⟨w.heap.size, G, _, by rw [hnl], hb, h2, by omega, hG2, by rw [splice_size, splice_size]; exact hR1, ?_⟩⟩, ?_, fun k hk => .inr (by cases hk; exact Nat.le_refl _)⟩
        · rw [flat_pl_length]
        · rw [e3, hnew, hnl, show (L.length + 1) * 3 = i * 3 + (pl p).length + ((L.drop i).flatMap pl).length by rw [hpl, hdl]; omega]
          exact splice_grow ROW (i * 3) _ (pl p) _ hR2 hal (by rw [hpl, hdl]; omega)
        · have hA := setCells_grown w.heap.size (pl p) (i * 3) (w.alloc (.cells ROW 23)).drew
          have hB := setCells_grown w.heap.size ((L.drop i).flatMap pl) ((i + 1) * 3) ((w.alloc (.cells ROW 23)).drew.setCells w.heap.size (i * 3) (pl p)).drew
          have hz : w.heap.size ≤ (w.alloc (.cells ROW 23)).drew.heap.size := by simp
          have hz1 := hA.size
          have hz2 := hB.size
          exact ⟨hB.os.trans hA.os, hB.tape.trans hA.tape, hB.output.trans hA.output, Nat.le_trans hz (Nat.le_trans hz1 hz2), fun k hk _ => (hB.block k (Nat.lt_of_lt_of_le hk (Nat.le_trans hz hz1)) (fun e => by cases e; omega)).trans ((hA.block k (Nat.lt_of_lt_of_le hk hz) (fun e => by cases e; omega)).trans (heap_alloc_lt w _ _ hk))⟩

end Go.Proofs.YtcmeajaakdaeeaaGreatDoor

/-
  The table's Put.
-/
namespace Go.Proofs.YtcmeajaakdaeeaaGreatDoor
open Go.RowKit

/-- The blocks of a table. -/
def Foot (g : Nat) (v : Value) (k : Nat) : Prop := k = g ∨ v.ownBlock = some k
theorem Foot.own {B : Nat} {w : World} {g : Nat} {v : Value} {L : List Pin} {cap : Int} (h : TabW B w g v L cap) : ∀ k, Foot g v k → B ≤ k ∧ k < w.heap.size := by
  rintro k (rfl | hk)
  · exact ⟨h.2.2.1, h.lt⟩
  · exact h.2.1.lt k hk
theorem TabW.upd {B : Nat} {F F' : Nat → Prop} {w w' : World} {g : Nat} {v : Value} {L : List Pin} {cap : Int} (h : TabW B w g v L cap) (k : Upd F w F' w') (hF : ∀ k, Foot g v k → ¬ F k) : TabW B w' g v L cap :=
  ⟨(k.block g h.lt (hF g (.inl rfl))).trans h.1, h.2.1.stay (fun j hj => k.block j (h.2.1.lt j hj).2 (hF j (.inr hj))), h.2.2⟩

theorem flat_take (L : List Pin) {i : Nat} (hi : i ≤ L.length) : (L.take i).flatMap pl = (L.flatMap pl).take (i * 3) := by
  conv => rhs; rw [← List.take_append_drop i L, List.flatMap_append]
  rw [List.take_left' (by rw [flat_pl_length, List.length_take]; omega)]
theorem flat_drop (L : List Pin) {i : Nat} (hi : i ≤ L.length) : (L.drop i).flatMap pl = (L.flatMap pl).drop (i * 3) := by
  conv => rhs; rw [← List.take_append_drop i L, List.flatMap_append]
  rw [List.drop_left' (by rw [flat_pl_length, List.length_take]; omega)]
/-- One element of an own slice is set. -/
theorem OwnN.set3 {base : Nat} {w : World} {g n c : Nat} {L : List Pin} (h : OwnN base w (.slice (some ⟨g, 0, none⟩) n c) L) {i : Nat} (hi : i < L.length) (p : Pin) :
    OwnN base (((w.setCell ⟨g, i * 3, none⟩ (.string (str p.h))).setCell ⟨g, i * 3 + 1, none⟩ (.bool p.s)).setCell ⟨g, i * 3 + 2, none⟩ (.int .i64 p.x)) (.slice (some ⟨g, 0, none⟩) n c) (L.set i p) := by
  refine ⟨by rw [flat_pl_length], ?_⟩
  rcases h.2 with ⟨hv, hn⟩ | ⟨g', cap, cur, hv, hg, hc, hnc, hcm, hcs, htake⟩
  · cases hv
  · cases hv
    have h1 := heap_setCells_row g 23 (pl p) cur (i * 3) w hc
    refine .inr ⟨g, c, _, by rw [List.length_set], hg, h1, by rw [List.length_set]; exact hnc, hcm, by rw [splice_size]; exact hcs, ?_⟩
    have hpl : (pl p).length = 3 := rfl
    have hset : L.set i p = L.take i ++ p :: L.drop (i + 1) := by rw [List.set_eq_take_append_cons_drop, if_pos hi]
    rw [List.length_set, hset, splice_toList _ _ _ (by rw [hpl]; omega), List.flatMap_append, List.flatMap_cons, hpl]
    have e1 : cur.toList.take (i * 3) = (L.take i).flatMap pl := by
      rw [flat_take L (by omega), ← htake, List.take_take, show min (i * 3) (L.length * 3) = i * 3 by omega]
    have e2 : (cur.toList.drop (i * 3 + 3)).take (L.length * 3 - (i * 3 + 3)) = (L.drop (i + 1)).flatMap pl := by
      rw [flat_drop L (by omega), ← htake, List.drop_take, show (i + 1) * 3 = i * 3 + 3 by omega]
    have hl : ((L.take i).flatMap pl ++ pl p).length = i * 3 + 3 := by rw [List.length_append, flat_pl_length, List.length_take, hpl]; omega
    rw [e1, List.take_append, List.take_of_length_le (by omega), hl, e2, List.append_assoc]

/-- What Put does. -/
def PutP (B : Nat) (g : Nat) (v : Value) (L : List Pin) (cap : Int) (p : Pin) (w : World) (e : Ending) (w' : World) : Prop :=
  ∃ v', e = .returned (.int .i64 (Tab.put L cap p).2) ∧ TabW B w' g v' (Tab.put L cap p).1 cap ∧ Upd (Foot g v) w (Foot g v') w'
theorem PutP.of {B : Nat} {g : Nat} {v : Value} {L L' : List Pin} {cap : Int} {p : Pin} {z : Int} (h : Tab.put L cap p = (L', z)) {w : World} {e : Ending} {w' : World} {v' : Value} (he : e = .returned (.int .i64 z)) (ht : TabW B w' g v' L' cap) (hu : Upd (Foot g v) w (Foot g v') w') : PutP B g v L cap p w e w' := by
  unfold PutP; rw [h]; exact ⟨v', he, ht, hu⟩

set_option maxHeartbeats 8000000 in
set_option maxRecDepth 100000 in
theorem tb_put {B : Nat} {w : World} {g : Nat} {v : Value} {L : List Pin} {cap : Int} (h : TabW B w g v L cap) (p : Pin) (hn : L.length ≤ 100000) (hA : Tab.Asc L) (hL : ∀ q ∈ L, q.h.length ≤ 1000000) (hp : p.h.length ≤ 1000000) :
    Calls Tryz.prog 9 #[.pointer (some ⟨g, 0, none⟩), pv p] w (PutP B g v L cap p w) := by
  have HV := Lib.hid (fun W => pi_valid p hp W)
  have HT := Lib.hid h
  have hb0 := (Below.refl w.heap.size w).alloc (Nat.le_refl _) (.cells (pc p) 23)
  have HF := Lib.hid (fun W (hW : TabW B W g v L cap) => tb_find hW p.h (by omega) hA hL hp)
  have HBX := Lib.hid (PBox.new w (str p.h) p.s p.x)
  have hlt := h.lt
  have HPT := Lib.hid (show Tab.put L cap p = if Pin.valid p = false then (L, 1) else if Tab.hit L p.h then (L.set (Tab.lo L p.h) p, 0) else if (L.length : Int) = cap then (L, 11) else (L.take (Tab.lo L p.h) ++ p :: L.drop (Tab.lo L p.h), 0) from rfl)
  have HLO := Lib.hid (Tab.lo_le L p.h)
  unfold pc at hb0
  unfold pv at HV ⊢
  have HB0 := Lib.hid hb0
  have hz0 : (w.alloc (.cells #[.string (str p.h), .bool p.s, .int .i64 p.x] 23)).heap.size = w.heap.size + 1 := by simp
  have HZ0 := Lib.hid hz0
  clear hb0 hz0 h hA hL
  obtain ⟨ok, hok⟩ : ∃ b, Pin.valid p = b := ⟨_, rfl⟩
  obtain ⟨lo, hlo⟩ : ∃ b, Tab.lo L p.h = b := ⟨_, rfl⟩
  obtain ⟨hit, hhit⟩ : ∃ b, Tab.hit L p.h = b := ⟨_, rfl⟩
  rw [hok] at HV HPT
  rw [hlo, hhit] at HF HPT
  rw [hlo] at HLO
  clear hok
  have HHI := Lib.hid hhit
  have HLQ := Lib.hid hlo
  clear hlo hhit
  obtain ⟨sh, hsh⟩ : ∃ s, str p.h = s := ⟨_, rfl⟩
  rw [hsh] at HV HF HBX HB0 HZ0 ⊢
  have HSH := Lib.hid hsh
  clear hsh
  cases ok with
  | false =>
    have HR := Lib.hid (HPT.out.trans (if_pos rfl))
    go_enter Tryz.func9, Tryz.ntmps9
    go_wp2_with fail
    refine (HV.out _).mono ?_; rintro e w1 ⟨rfl, hB1⟩
    rw [HZ0.out] at hB1
    have hB := HB0.out.trans (hB1.mono (Nat.le_succ _))
    go_wp2_with fail
    go_ret
    exact PutP.of HR.out rfl (HT.out.ext hB) (Upd.of_ext hB)
  | true =>
    have HPT := Lib.hid (HPT.out.trans (if_neg (by decide)))
    cases hit with
    | true =>
      have HR := Lib.hid (HPT.out.trans (if_pos rfl))
      have hlol : lo < L.length := by
        have h1 := HHI.out
        unfold Tab.hit at h1
        rw [HLQ.out] at h1
        cases h2 : L[lo]? with
        | none => rw [h2] at h1; cases h1
        | some q => exact (List.getElem?_eq_some_iff.1 h2).1
      obtain ⟨g', c', rfl⟩ : ∃ g' c', v = .slice (some ⟨g', 0, none⟩) L.length c' := by
        rcases HT.out.2.1.2 with ⟨hv, hn0⟩ | ⟨g', cap', cur, hv, -⟩
        · omega
        · exact ⟨g', cap', hv⟩
      have hgg : g' ≠ g := fun e => HT.out.2.2.2 (by rw [← e]; rfl)
      obtain ⟨n, hn2⟩ : ∃ n, L.length = n := ⟨_, rfl⟩
      rw [hn2] at hlol HT HF
      have HN := Lib.hid hn2
      have l0 : (0 : Int) ≤ (lo : Int) := by omega
      have l1 : (lo : Int) < (n : Int) := by omega
      rw [hn2]
      clear hn2
      go_enter Tryz.func9, Tryz.ntmps9
      go_wp2_with fail
      refine (HV.out _).mono ?_; rintro e w1 ⟨rfl, hB1⟩
      rw [HZ0.out] at hB1
      have hB := HB0.out.trans (hB1.mono (Nat.le_succ _))
      have hP1 : PBox w1 w.heap.size sh p.s p.x := (hB1.block _ (Nat.lt_succ_self _)).trans HBX.out
      obtain ⟨q0, q1, q2⟩ := hP1.cells
      have hlt1 := heap_lt hP1
      go_wp2_with fail
      refine (HF.out _ (HT.out.ext hB)).mono ?_; rintro e w2 ⟨rfl, hB2⟩
      have hBB := hB.trans (hB2.mono hB.size)
      have hP2 := hP1.ext hB2
      have hT2 := HT.out.ext hBB
      clear q0 q1 q2
      obtain ⟨c0, -⟩ := hT2.cells
      obtain ⟨q0, q1, q2⟩ := hP2.cells
      have hlt2 := heap_lt hP2
      have hltg := hT2.lt
      have hrow : ∃ cur, w2.heap[g']? = some (.cells cur 23 (0, 0)) ∧ cur.size = c' * 3 ∧ n ≤ c' := by
        rcases hT2.2.1.2 with ⟨hv, -⟩ | ⟨g2, cap', cur, hv, -, hc, hnc, -, hcs, -⟩
        · cases hv
        · cases hv; exact ⟨cur, hc, hcs, by have := HN.out; omega⟩
      obtain ⟨cur, hcur, hcs, hnc⟩ := hrow
      have hcl : ∀ j, j < 3 → ∃ u, w2.cell? ⟨g', lo * 3 + j, none⟩ = some u := fun j hj => by
        rw [cell_of_row _ _ _ _ _ _ hcur, Array.getElem?_eq_getElem (by omega)]; exact ⟨_, rfl⟩
      obtain ⟨x0, e0⟩ := hcl 0 (by omega)
      obtain ⟨x1, e1⟩ := hcl 1 (by omega)
      obtain ⟨x2, e2⟩ := hcl 2 (by omega)
      rw [Nat.add_zero] at e0
      have fz : ∀ k, w2.frozen? ⟨g', k, none⟩ = false := fun k => frozen_of_row _ _ _ _ _ hcur
      have hltg' := heap_lt hcur
      have HT2 := Lib.hid hT2
      have HNC := Lib.hid hnc
      clear hcur hcs hcl hnc hP1 hP2 hT2
      go_wp2_with fail
      go_region
      all_goals
        have hset := HT2.out.2.1.set3 (i := lo) (by rw [HN.out]; exact hlol) p
        rw [HSH.out] at hset
        have hno : ∀ (W : World) (j : Nat) (u : Value), (W.setCell ⟨g', j, none⟩ u).heap[g]? = W.heap[g]? := fun W j u => heap_setCell_other _ _ _ _ (fun e => hgg e.symm)
        have HFT := Lib.hid (show TabW B (((w2.setCell ⟨g', lo * 3, none⟩ (.string sh)).setCell ⟨g', lo * 3 + 1, none⟩ (.bool p.s)).setCell ⟨g', lo * 3 + 2, none⟩ (.int .i64 p.x)).drew g (.slice (some ⟨g', 0, none⟩) n c') (L.set lo p) cap from
          ⟨(hno _ _ _).trans ((hno _ _ _).trans ((hno _ _ _).trans HT2.out.1)), hset, HT2.out.2.2.1, HT2.out.2.2.2⟩)
        have HU := Lib.hid (((((Upd.of_ext (F := Foot g (.slice (some ⟨g', 0, none⟩) n c')) hBB).setCell (g := g') (.inl (.inr rfl)) (lo * 3) (.string sh)).setCell (g := g') (.inl (.inr rfl)) (lo * 3 + 1) (.bool p.s)).setCell (g := g') (.inl (.inr rfl)) (lo * 3 + 2) (.int .i64 p.x)).drew)
        go_wp2
        go_ret
        exact PutP.of HR.out rfl HFT.out HU.out
    | false =>
      have HPT := Lib.hid (HPT.out.trans (if_neg (by decide)))
      go_enter Tryz.func9, Tryz.ntmps9
      go_wp2_with fail
      refine (HV.out _).mono ?_; rintro e w1 ⟨rfl, hB1⟩
      rw [HZ0.out] at hB1
      have hB := HB0.out.trans (hB1.mono (Nat.le_succ _))
      have hP1 : PBox w1 w.heap.size sh p.s p.x := (hB1.block _ (Nat.lt_succ_self _)).trans HBX.out
      obtain ⟨q0, q1, q2⟩ := hP1.cells
      have hlt1 := heap_lt hP1
      go_wp2_with fail
      refine (HF.out _ (HT.out.ext hB)).mono ?_; rintro e w2 ⟨rfl, hB2⟩
      have hBB := hB.trans (hB2.mono hB.size)
      have hP2 := hP1.ext hB2
      have hT2 := HT.out.ext hBB
      clear q0 q1 q2
      go_wp2_with fail
      refine (tb_len hT2).mono ?_; rintro e w3 ⟨rfl, rfl⟩
      go_wp2_with fail
      refine (tb_cap hT2).mono ?_; rintro e w4 ⟨rfl, rfl⟩
      by_cases hfull : (L.length : Int) = cap
      · have HR := Lib.hid (HPT.out.trans (if_pos hfull))
        subst hfull
        go_wp2_with fail
        go_ret
        exact PutP.of HR.out rfl hT2 (Upd.of_ext hBB)
      · have HR := Lib.hid (HPT.out.trans (if_neg hfull))
        have tf : ((L.length : Int) == cap) = false := by simpa using hfull
        clear hfull
        obtain ⟨c0, -⟩ := hT2.cells
        obtain ⟨q0, q1, q2⟩ := hP2.cells
        have hlt2 := heap_lt hP2
        have hltg := hT2.lt
        have hex : Below w4.heap.size w4 (w4.drew.alloc (.cells #[.string sh, .bool p.s, .int .i64 p.x] 23)) := (Below.drew (Below.refl _ _)).alloc (Nat.le_refl _) _
        have hT3 := hT2.ext hex
        have hne3 : v.ownBlock ≠ some w4.heap.size := fun e => by have := (hT2.2.1.lt _ e).2; omega
        have hI := ins_pins B v L lo p w4.heap.size (w4.drew.alloc (.cells #[.string sh, .bool p.s, .int .i64 p.x] 23)) hT3.2.1 HLO.out (by omega) (Nat.le_trans hT3.2.2.1 (Nat.le_of_lt hT3.lt)) (by rw [HSH.out]; exact heap_alloc_eq w4.drew _ _ rfl) hne3
        have HI := Lib.hid hI
        have HT3 := Lib.hid hT3
        have HT2 := Lib.hid hT2
        clear hI hT3 hex hP1 hP2 hT2
        go_wp2_with fail
        go_region_law (go_simp; go_at_call 28; refine HI.out.mono ?_; rintro e w5 ⟨v5, rfl, ho5, hg5, hn5k⟩; obtain ⟨a5, k5, hv5, -, -⟩ := ho5.sl; obtain ⟨n5, hn5⟩ : ∃ n, (L.take lo ++ p :: L.drop lo).length = n := ⟨_, rfl⟩; rw [hn5] at hv5; subst hv5; clear hn5; have hk5 : w5.heap[g]? = _ := (hg5.block g HT3.out.lt (fun e => HT3.out.2.2.2 e.symm)).trans HT3.out.1; have c5 : w5.cell? ⟨g, 0, none⟩ = some v := (cell_of_row _ _ _ _ _ _ hk5).trans rfl; have f5 : w5.frozen? ⟨g, 0, none⟩ = false := frozen_of_row _ _ _ _ _ hk5)
        all_goals
          have hT3 := HT3.out
          have hne5 : (Value.slice a5 n5 k5).ownBlock ≠ some g := fun e => by
            rcases hn5k g e with h9 | h9
            · exact hT3.2.2.2 h9
            · have := hT3.lt; omega
          have HFT := Lib.hid (show TabW B (w5.setCell ⟨g, 0, none⟩ (.slice a5 n5 k5)) g (.slice a5 n5 k5) (L.take lo ++ p :: L.drop lo) cap from
            ⟨heap_setCell_same w5 g 0 _ _ _ hk5, ho5.stay (fun k hk => heap_setCell_other _ _ _ _ (fun e => hne5 (by rw [hk]; exact congrArg some e))), hT3.2.2.1, hne5⟩)
          have U1 : Upd (Foot g v) w (Foot g v) (w4.drew.alloc (.cells #[.string sh, .bool p.s, .int .i64 p.x] 23)) := ((Upd.of_ext hBB).drew).alloc _
          have HU := Lib.hid (((U1.grown (fun k hk => .inl (.inr hk)) hg5).setCell (g := g) (.inl (.inl rfl)) 0 (.slice a5 n5 k5)).grow (F2 := Foot g (.slice a5 n5 k5)) (fun k hk => by
            rcases hk with rfl | hk
            · exact .inl (.inl rfl)
            · rcases hn5k k hk with h9 | h9
              · exact .inl (.inr h9)
              · exact .inr (Nat.le_trans U1.size h9)))
          go_wp2
          go_ret
          exact PutP.of HR.out rfl HFT.out HU.out

end Go.Proofs.YtcmeajaakdaeeaaGreatDoor

/-
  The table's Expire: Expire$1, slices.IndexFunc, slices.DeleteFunc.
-/
namespace Go.Proofs.YtcmeajaakdaeeaaGreatDoor
open Go.RowKit

theorem boxedN_ext {W W' : World} {B : Nat} {t : TypeId} {v : Value} (h : Boxed W B t v) (e : Below W.heap.size W W') : Boxed W' B t v := (e.block _ (heap_lt h)).trans h

theorem se_expired (x now : Int) (w : World) : Calls Tryz.prog 32 #[.int .i64 x, .int .i64 now] w fun e w' => e = .returned (.bool (decide (x ≤ now))) ∧ w' = w := by
  go_enter Tryz.func32, Tryz.ntmps32
  go_wp2_with fail
  go_ret
  exact ⟨rfl, rfl⟩

set_option maxRecDepth 100000 in
theorem tb_exp1 (sh : ByteArray) (ps : Bool) (px now : Int) (nb : Nat) (w : World) (hb : Boxed w nb 3 (.int .i64 now)) :
    Calls Tryz.prog 31 #[.agg #[.string sh, .bool ps, .int .i64 px], .pointer (some ⟨nb, 0, none⟩)] w fun e w' => e = .returned (.bool (decide (px ≤ now))) ∧ Below w.heap.size w w' := by
  have hb0 := (Below.refl w.heap.size w).alloc (Nat.le_refl _) (.cells #[.string sh, .bool ps, .int .i64 px] 23)
  have HB0 := Lib.hid hb0
  have hb2 : Boxed (w.alloc (.cells #[.string sh, .bool ps, .int .i64 px] 23)) nb 3 (.int .i64 now) := boxedN_ext hb hb0
  have d1 := hb2.cell
  have hlt := heap_lt hb2
  have HE := Lib.hid (fun W => se_expired px now W)
  have hr : ∃ r, decide (px ≤ now) = r := ⟨_, rfl⟩
  obtain ⟨r, hr⟩ := hr
  rw [hr] at HE ⊢
  clear hb0 hr
  go_enter Tryz.func31, Tryz.ntmps31
  go_wp2_with fail
  refine (HE.out _).mono ?_; rintro e w1 ⟨rfl, rfl⟩
  go_wp2_with fail
  go_ret
  exact ⟨rfl, HB0.out⟩

/-- How many pins at the head are live. -/
def lvn (L : List Pin) (now : Int) : Nat := (L.takeWhile fun q => decide (now < q.x)).length
theorem lvn_le (L : List Pin) (now : Int) : lvn L now ≤ L.length := (List.takeWhile_sublist _).length_le
theorem lvn_at : ∀ (L : List Pin) (now : Int) (i : Nat), (∀ q ∈ L.take i, now < q.x) → i ≤ L.length → (∀ q, L[i]? = some q → ¬ now < q.x) → lvn L now = i
  | [], now, i, _, h2, _ => by simp at h2; subst h2; rfl
  | p :: L, now, i, h1, h2, h3 => by
    cases i with
    | zero =>
      have := h3 p rfl
      unfold lvn; rw [List.takeWhile_cons_of_neg (by simpa using this)]; rfl
    | succ i =>
      have hp : now < p.x := h1 p (by simp)
      have ih := lvn_at L now i (fun q hq => h1 q (by simp [hq])) (by simpa using h2) (fun q hq => h3 q (by simpa using hq))
      have e : lvn (p :: L) now = lvn L now + 1 := by unfold lvn; rw [List.takeWhile_cons_of_pos (by simpa using hp)]; rfl
      rw [e, ih]

set_option maxRecDepth 100000 in
theorem sl_indexN (a : Option Addr) (n c : Nat) (L : List Pin) (now : Int) (nb : Nat) (w : World) (h : SlN w a n c L) (hn : n ≤ 1000000) (hb : Boxed w nb 3 (.int .i64 now)) :
    Calls Tryz.prog 49 #[.slice a n c, .func (.func 31) #[] #[.pointer (some ⟨nb, 0, none⟩)]] w
      fun e w' => e = .returned (.int .i64 (if lvn L now = n then -1 else (lvn L now : Nat))) ∧ Below w.heap.size w w' := by
  have HLN := Lib.hid h.len
  have HB := Lib.hid hb
  have HAT := Lib.hid (fun i => lvn_at L now i)
  obtain ⟨k, hk⟩ : ∃ k, lvn L now = k := ⟨_, rfl⟩
  rw [hk] at HAT ⊢
  clear hk hb
  obtain ⟨r, hr⟩ : ∃ r : Int, (if k = n then -1 else (k : Int)) = r := ⟨_, rfl⟩
  rw [hr]
  have HR := Lib.hid hr
  clear hr
  go_enter Tryz.func49, Tryz.ntmps49
  go_wp2_with fail
  go_loopw [8] (fun i wr => ∃ (i' : Nat), i = .int .i64 (i' : Nat) ∧ i' ≤ n ∧ Hid (∀ q ∈ L.take i', now < q.x) ∧ Below w.heap.size w wr) (fun i _ => n - (intOf i).toNat)
  case atStart => exact ⟨0, rfl, Nat.zero_le _, Lib.hid (by simp), Below.refl _ _⟩
  case round =>
    obtain ⟨i, rfl, h1, HC, hB⟩ := hrel
    have i0 : (0 : Int) ≤ (i : Int) := by omega
    by_cases hij : i < n
    · have i1 : (i : Int) < (n : Int) := by omega
      obtain ⟨bb, o, rfl, hbb, hkl, c1, c2, c3⟩ := (h.ext hB).at hij
      have HGT := Lib.hid (List.getElem?_eq_getElem hkl)
      rw [List.getElem?_eq_getElem hkl, Option.getD_some] at c1 c2 c3
      have HTK := Lib.hid (List.take_succ_eq_append_getElem hkl)
      generalize L[i] = p at *
      have HX := Lib.hid (tb_exp1 (str p.h) p.s p.x now nb wr (boxedN_ext HB.out hB))
      have HP := Lib.hid (show p.x = p.x from rfl)
      obtain ⟨sh, hsh⟩ : ∃ s, str p.h = s := ⟨_, rfl⟩
      rw [hsh] at c1 HX
      by_cases hlv : p.x ≤ now
      · rw [decide_eq_true hlv] at HX
        have hki : k = i := HAT.out i HC.out (by rw [HLN.out]; omega) (fun q hq => by rw [HGT.out] at hq; cases hq; omega)
        have hrr : r = (i : Int) := by rw [← HR.out, hki, if_neg (by omega)]
        subst hrr
        clear hkl hsh hlv hki
        go_wp2_with fail
        refine HX.out.mono ?_; rintro e w1 ⟨rfl, hb1⟩
        go_wp2_with fail
        go_ret
        exact ⟨rfl, hB.trans (hb1.mono hB.size)⟩
      · rw [decide_eq_false hlv] at HX
        have HNX := Lib.hid (show ∀ q ∈ L.take (i + 1), now < q.x by
          rw [HTK.out]; intro q hq
          rcases List.mem_append.1 hq with hq | hq
          · exact HC.out q hq
          · simp at hq; subst hq; omega)
        clear hkl hsh hlv
        go_wp2_with fail
        refine HX.out.mono ?_; rintro e w1 ⟨rfl, hb1⟩
        go_wp2_with fail
        go_roundw
        case rel => exact ⟨i + 1, by go_num, by omega, HNX, hB.trans (hb1.mono hB.size)⟩
        case measure => simp [intOf]; omega
    · obtain rfl : i = n := by omega
      have hki : k = i := HAT.out i HC.out (by rw [HLN.out]; exact Nat.le_refl _) (fun q hq => by rw [List.getElem?_eq_none (by rw [HLN.out]; exact Nat.le_refl _)] at hq; cases hq)
      have hrr : r = -1 := by rw [← HR.out, if_pos hki]
      subst hrr
      clear hki
      go_wp2_with fail
      go_ret
      exact ⟨rfl, hB⟩

end Go.Proofs.YtcmeajaakdaeeaaGreatDoor

/-
  slices.DeleteFunc at pins (Expire).
-/
namespace Go.Proofs.YtcmeajaakdaeeaaGreatDoor
open Go.RowKit

/-- clear(s), elements of any size. -/
theorem run_clear_k {P : Program} (w : World) (t e ty : TypeId) (z : Value) (ht : P.underlying t = some (.slice e)) (hv : ∀ w, (zeroValue e).run P w = .ok z w) (b o n c : Nat) (hn : 0 < n) (zs : List Value) (hzs : (Builtin.zeroCells z.cells n).toList = zs)
    (hc : ∀ j, j < zs.length → (w.cell? ⟨b, o + j, none⟩).isSome = true) (hf : ∀ j, j < zs.length → w.frozen? ⟨b, o + j, none⟩ = false) (h1 : ∀ v ∈ zs, v.oneCell' = true) :
    (Builtin.clear_ #[t] ty #[.slice (some ⟨b, o, none⟩) n c]).run P w = .ok (.tuple #[]) (w.setCells b o zs) := by
  have hst := run_storeCells_cells (P := P) b o zs 0 w (by simpa using hc) (by simpa using hf) h1
  simp only [Nat.add_zero] at hst
  obtain ⟨m, rfl⟩ : ∃ m, n = m + 1 := ⟨n - 1, by omega⟩
  simp [Builtin.clear_, run_underlying ht, hv, hzs, hst]

def lvp (now : Int) (q : Pin) : Bool := decide (now < q.x)
theorem flt0 : ∀ (L : List Pin) (now : Int), lvn L now < L.length → (L.take (lvn L now + 1)).filter (lvp now) = L.take (lvn L now)
  | [], now, h => by simp at h
  | p :: L, now, h => by
    by_cases hp : now < p.x
    · have e : lvn (p :: L) now = lvn L now + 1 := by unfold lvn; rw [List.takeWhile_cons_of_pos (by simpa using hp)]; rfl
      rw [e] at h ⊢
      have ih := flt0 L now (by simpa using h)
      rw [List.take_succ_cons, List.filter_cons_of_pos (by simpa [lvp] using hp), ih, List.take_succ_cons]
    · have e : lvn (p :: L) now = 0 := by unfold lvn; rw [List.takeWhile_cons_of_neg (by simpa using hp)]; rfl
      rw [e]
      simp [lvp, hp]
theorem flt_all : ∀ (L : List Pin) (now : Int), lvn L now = L.length → L.filter (lvp now) = L
  | [], _, _ => rfl
  | p :: L, now, h => by
    by_cases hp : now < p.x
    · have e : lvn (p :: L) now = lvn L now + 1 := by unfold lvn; rw [List.takeWhile_cons_of_pos (by simpa using hp)]; rfl
      rw [e] at h
      rw [List.filter_cons_of_pos (by simpa [lvp] using hp), flt_all L now (by simpa using h)]
    · have e : lvn (p :: L) now = 0 := by unfold lvn; rw [List.takeWhile_cons_of_neg (by simpa using hp)]; rfl
      rw [e] at h; simp at h

/-- The row between two rounds of DeleteFunc's loop. -/
def DRow (w : World) (g c n i j : Nat) (L : List Pin) (now : Int) : Prop :=
  ∃ cur, w.heap[g]? = some (.cells cur 23 (0, 0)) ∧ cur.size = c * 3 ∧ cur.toList.take (i * 3) = ((L.take j).filter (lvp now)).flatMap pl ∧ (∀ k, j * 3 ≤ k → k < n * 3 → cur[k]? = (L.flatMap pl)[k]?) ∧ i = ((L.take j).filter (lvp now)).length
theorem DRow.ext {w w' : World} {g c n i j : Nat} {L : List Pin} {now : Int} (h : DRow w g c n i j L now) (e : Below w.heap.size w w') : DRow w' g c n i j L now := by
  obtain ⟨cur, h1, h2⟩ := h
  exact ⟨cur, (e.block _ (heap_lt h1)).trans h1, h2⟩
theorem DRow.lt {w : World} {g c n i j : Nat} {L : List Pin} {now : Int} (h : DRow w g c n i j L now) : g < w.heap.size := by
  obtain ⟨cur, h1, -⟩ := h; exact heap_lt h1
theorem DRow.free {w : World} {g c n i j : Nat} {L : List Pin} {now : Int} (h : DRow w g c n i j L now) (k : Nat) : w.frozen? ⟨g, k, none⟩ = false := by
  obtain ⟨cur, h1, -⟩ := h; exact frozen_of_row _ _ _ _ _ h1
theorem DRow.cell1 {w : World} {g c n i j : Nat} {L : List Pin} {now : Int} (h : DRow w g c n i j L now) (k : Nat) (hk : k < c * 3) : ∃ u, w.cell? ⟨g, k, none⟩ = some u := by
  obtain ⟨cur, h1, h2, -⟩ := h
  rw [cell_of_row _ _ _ _ _ _ h1, Array.getElem?_eq_getElem (by omega)]; exact ⟨_, rfl⟩
theorem DRow.cells {w : World} {g c n i j : Nat} {L : List Pin} {now : Int} (h : DRow w g c n i j L now) (hL : L.length = n) {p : Pin} (hj : L[j]? = some p) : w.cell? ⟨g, j * 3, none⟩ = some (.string (str p.h)) ∧ w.cell? ⟨g, j * 3 + 1, none⟩ = some (.bool p.s) ∧ w.cell? ⟨g, j * 3 + 2, none⟩ = some (.int .i64 p.x) := by
  obtain ⟨cur, h1, h2, h3, h4, -⟩ := h
  obtain ⟨hlt, rfl⟩ := List.getElem?_eq_some_iff.1 hj
  obtain ⟨g1, g2, g3⟩ := flat_pl_get L j hlt
  refine ⟨?_, ?_, ?_⟩
  · rw [cell_of_row _ _ _ _ _ _ h1, h4 _ (by omega) (by omega), g1]
  · rw [cell_of_row _ _ _ _ _ _ h1, h4 _ (by omega) (by omega), g2]
  · rw [cell_of_row _ _ _ _ _ _ h1, h4 _ (by omega) (by omega), g3]
theorem DRow.dead {w : World} {g c n i j : Nat} {L : List Pin} {now : Int} (h : DRow w g c n i j L now) {p : Pin} (hj : L[j]? = some p) (hp : ¬ now < p.x) : DRow w g c n i (j + 1) L now := by
  obtain ⟨cur, h1, h2, h3, h4, h5⟩ := h
  obtain ⟨hlt, rfl⟩ := List.getElem?_eq_some_iff.1 hj
  have e : (L.take (j + 1)).filter (lvp now) = (L.take j).filter (lvp now) := by
    rw [List.take_succ_eq_append_getElem hlt, List.filter_append]; simp [lvp, hp]
  exact ⟨cur, h1, h2, by rw [e]; exact h3, fun k hk => h4 k (by omega), by rw [e]; exact h5⟩
theorem DRow.live {w : World} {g c n i j : Nat} {L : List Pin} {now : Int} (h : DRow w g c n i j L now) (hij : i < j) (hjc : j < c) {p : Pin} (hj : L[j]? = some p) (hp : now < p.x) :
    DRow (((w.setCell ⟨g, i * 3, none⟩ (.string (str p.h))).setCell ⟨g, i * 3 + 1, none⟩ (.bool p.s)).setCell ⟨g, i * 3 + 2, none⟩ (.int .i64 p.x)) g c n (i + 1) (j + 1) L now := by
  obtain ⟨cur, h1, h2, h3, h4, h5⟩ := h
  obtain ⟨hlt, rfl⟩ := List.getElem?_eq_some_iff.1 hj
  have hpl : (pl L[j]).length = 3 := rfl
  have e : (L.take (j + 1)).filter (lvp now) = (L.take j).filter (lvp now) ++ [L[j]] := by
    rw [List.take_succ_eq_append_getElem hlt, List.filter_append]; simp [lvp, hp]
  have hr := heap_setCells_row g 23 (pl L[j]) cur (i * 3) w h1
  have hsl := splice_toList (pl L[j]) cur (i * 3) (by rw [hpl]; omega)
  refine ⟨_, hr, by rw [splice_size]; exact h2, ?_, fun k hk1 hk2 => ?_, by rw [e, List.length_append, ← h5]; rfl⟩
  · rw [hsl, e, List.flatMap_append, h3, List.take_left' (by rw [List.length_append, flat_pl_length, ← h5, hpl]; omega)]
    simp
  · rw [← h4 k (by omega) hk2]
    have hl : (cur.toList.take (i * 3) ++ pl L[j]).length = i * 3 + 3 := by rw [List.length_append, List.length_take, hpl, Array.length_toList]; omega
    rw [← Array.getElem?_toList, hsl, List.getElem?_append_right (by omega), hl, hpl, List.getElem?_drop, ← Array.getElem?_toList, show i * 3 + 3 + (k - (i * 3 + 3)) = k by omega]

end Go.Proofs.YtcmeajaakdaeeaaGreatDoor

/-
  The walk through slices.DeleteFunc at pins (Expire).
-/
namespace Go.Proofs.YtcmeajaakdaeeaaGreatDoor
open Go.RowKit

theorem grown_of {w w' : World} (h : Below w.heap.size w w') (row : Option Nat) : w.grownBy w' row := ⟨h.os, h.tape, h.output, h.size, fun k hk _ => h.block k hk⟩
theorem grown_trans {w w1 w2 : World} {row : Option Nat} (h : w.grownBy w1 row) (k : w1.grownBy w2 row) : w.grownBy w2 row :=
  ⟨k.os.trans h.os, k.tape.trans h.tape, k.output.trans h.output, Nat.le_trans h.size k.size, fun i hi hne => (k.block i (Nat.lt_of_lt_of_le hi h.size) hne).trans (h.block i hi hne)⟩
theorem zero_one (m : Nat) : ∀ v ∈ (Builtin.zeroCells (Value.agg #[.string ⟨#[]⟩, .bool false, .int .i64 0]).cells m).toList, v.oneCell' = true := by
  intro v hv
  rw [Array.mem_toList_iff, Array.mem_iff_getElem] at hv
  obtain ⟨i, hi, rfl⟩ := hv
  simp [Builtin.zeroCells, Value.cells]
  have h3 : i % 3 = 0 ∨ i % 3 = 1 ∨ i % 3 = 2 := by omega
  rcases h3 with h | h | h <;> simp [h] <;> rfl
theorem zero_len (m : Nat) : (Builtin.zeroCells (Value.agg #[.string ⟨#[]⟩, .bool false, .int .i64 0]).cells m).toList.length = m * 3 := by
  simp [Builtin.zeroCells, Value.cells]

/-- What DeleteFunc does. -/
def DelP (base g c : Nat) (L : List Pin) (now : Int) (w : World) (e : Ending) (w' : World) : Prop :=
  ∃ i : Nat, e = .returned (.slice (some ⟨g, 0, none⟩) i c) ∧ OwnN base w' (.slice (some ⟨g, 0, none⟩) i c) (L.filter (lvp now)) ∧ w.grownBy w' (some g)

set_option maxHeartbeats 4000000 in
set_option maxRecDepth 100000 in
theorem sl_delfunc (base g c n : Nat) (L : List Pin) (now : Int) (nb : Nat) (w : World) (h : OwnN base w (.slice (some ⟨g, 0, none⟩) n c) L) (hL : L.length = n) (hn : n ≤ 1000000) (hb : Boxed w nb 3 (.int .i64 now)) (hne : nb ≠ g) :
    Calls Tryz.prog 30 #[.slice (some ⟨g, 0, none⟩) n c, .func (.func 31) #[] #[.pointer (some ⟨nb, 0, none⟩)]] w (DelP base g c L now w) := by
  have hsl : SlN w (some ⟨g, 0, none⟩) n c L := by
    obtain ⟨a, c2, hv, hs, -⟩ := h.sl
    rw [hL] at hs hv
    cases hv; exact hs
  have HIX := Lib.hid (sl_indexN _ n c L now nb w hsl hn hb)
  have HO := Lib.hid h
  have hkn := lvn_le L now
  rw [hL] at hkn
  by_cases hall : lvn L now = n
  · rw [if_pos hall] at HIX
    have HF := Lib.hid (flt_all L now (by rw [hL]; exact hall))
    clear h hsl hall hkn hL
    go_enter Tryz.func30, Tryz.ntmps30
    go_wp2_with fail
    refine HIX.out.mono ?_; rintro e w1 ⟨rfl, hB1⟩
    go_wp2_with fail
    go_ret
    exact ⟨n, rfl, by rw [HF.out]; exact HO.out.ext hB1, grown_of hB1 _⟩
  · rw [if_neg hall] at HIX
    have hrow : ∃ cur, w.heap[g]? = some (.cells cur 23 (0, 0)) ∧ cur.size = c * 3 ∧ n ≤ c ∧ cur.toList.take (n * 3) = L.flatMap pl ∧ c ≤ maxLen ∧ base ≤ g := by
      rcases h.2 with ⟨hv, -⟩ | ⟨g2, cap', cur, hv, hbg, hc, hnc, hcm, hcs, htk⟩
      · cases hv
      · cases hv; rw [hL] at hnc htk; exact ⟨cur, hc, hcs, hnc, htk, hcm, hbg⟩
    obtain ⟨cur, hcur, hcs, hnc, htk, hcm, hbg⟩ := hrow
    have hf0 := flt0 L now (by omega)
    have HD0 := Lib.hid (show DRow w g c n (lvn L now) (lvn L now + 1) L now from
      ⟨cur, hcur, hcs, by rw [hf0, flat_take L (by omega), ← htk, List.take_take, show min (lvn L now * 3) (n * 3) = lvn L now * 3 by omega], fun k _ hk2 => by
        rw [← htk, List.getElem?_take_of_lt hk2, Array.getElem?_toList], by rw [hf0, List.length_take]; omega⟩)
    have hgw := heap_lt hcur
    obtain ⟨k, hk⟩ : ∃ k, lvn L now = k := ⟨_, rfl⟩
    rw [hk] at HIX HD0 hkn hall
    have k0 : (0 : Int) ≤ (k : Int) := by omega
    have HB := Lib.hid hb
    have hnbw := heap_lt hb
    have k1 : ¬ ((k : Int) = -1) := by omega
    have HL := Lib.hid hL
    clear hcur hcs htk hf0 hk h hsl hb hL
    go_enter Tryz.func30, Tryz.ntmps30
    go_wp2_with fail
    refine HIX.out.mono ?_; rintro e w1 ⟨rfl, hB1⟩
    have tk : ((k : Int) == -1) = false := beq_eq_false_iff_ne.2 k1
    go_wp2_with fail
    go_loopw [5, 6] (fun i j wr => ∃ (i' j' : Nat), i = .int .i64 (i' : Nat) ∧ j = .int .i64 (j' : Nat) ∧ i' < j' ∧ j' ≤ n ∧ DRow wr g c n i' j' L now ∧ w.grownBy wr (some g)) (fun _ j _ => n - (intOf j).toNat)
    case atStart => exact ⟨k, k + 1, rfl, by go_num, Nat.lt_succ_self _, by omega, HD0.out.ext hB1, grown_of hB1 _⟩
    case round =>
      obtain ⟨i, j, rfl, rfl, h1, h2, hD, hG⟩ := hrel
      have i0 : (0 : Int) ≤ (i : Int) := by omega
      have j0 : (0 : Int) ≤ (j : Int) := by omega
      have in1 : (i : Int) < (n : Int) := by omega
      have hbr : Boxed wr nb 3 (.int .i64 now) := (hG.block nb hnbw (fun e => hne (by cases e; rfl))).trans HB.out
      have hlg := hD.lt
      by_cases hjn : j < n
      · have j1 : (j : Int) < (n : Int) := by omega
        have hlj : j < L.length := by rw [HL.out]; exact hjn
        have hgt := List.getElem?_eq_getElem hlj
        generalize L[j] = p at *
        obtain ⟨c1, c2, c3⟩ := hD.cells HL.out hgt
        have HGT := Lib.hid hgt
        have hex := (Below.refl wr.heap.size wr).alloc (Nat.le_refl _) (.cells #[.string (str p.h), .bool p.s, .int .i64 p.x] 23)
        have HX := Lib.hid (tb_exp1 (str p.h) p.s p.x now nb _ (boxedN_ext hbr hex))
        have HPN := Lib.hid (PBox.new wr (str p.h) p.s p.x)
        have HEX := Lib.hid hex
        have HD := Lib.hid hD
        have HG := Lib.hid hG
        clear hex hgt hD hG
        obtain ⟨sh, hsh⟩ : ∃ s, str p.h = s := ⟨_, rfl⟩
        have HSH := Lib.hid hsh
        rw [hsh] at c1 HX HPN HEX
        clear hsh
        by_cases hlv : p.x ≤ now
        · rw [decide_eq_true hlv] at HX
          have HDD := Lib.hid (HD.out.dead HGT.out (by omega))
          clear hlv
          go_wp2_with fail
          refine HX.out.mono ?_; rintro e w2 ⟨rfl, hB2⟩
          have hB := HEX.out.trans (hB2.mono HEX.out.size)
          go_wp2_with fail
          go_roundw
          case rel => exact ⟨i, j + 1, rfl, by go_num, by omega, by omega, HDD.out.ext hB, grown_trans HG.out (grown_of hB _)⟩
          case measure => simp [intOf]; omega
        · rw [decide_eq_false hlv] at HX
          have HLV := Lib.hid (show now < p.x by omega)
          clear hlv
          go_wp2_with fail
          refine HX.out.mono ?_; rintro e w2 ⟨rfl, hB2⟩
          have hB := HEX.out.trans (hB2.mono HEX.out.size)
          have hPB := HPN.out.ext hB2
          obtain ⟨q0, q1, q2⟩ := hPB.cells
          have hlt2 := heap_lt hPB
          have hD2 := HD.out.ext hB
          obtain ⟨x0, e0⟩ := hD2.cell1 (i * 3) (by omega)
          obtain ⟨x1, e1⟩ := hD2.cell1 (i * 3 + 1) (by omega)
          obtain ⟨x2, e2⟩ := hD2.cell1 (i * 3 + 2) (by omega)
          have fz := hD2.free
          have hlg2 := hD2.lt
          have HD3 := Lib.hid (hD2.live h1 (by omega) HGT.out HLV.out)
          rw [HSH.out] at HD3
          have HG3 := Lib.hid (grown_trans (grown_trans HG.out (grown_of hB _)) (setCells_grown g [.string sh, .bool p.s, .int .i64 p.x] (i * 3) w2))
          clear hPB hD2
          go_wp2_with fail
          go_roundw
          case rel => exact ⟨i + 1, j + 1, by go_num, by go_num, by omega, by omega, HD3.out, HG3.out⟩
          case measure => simp [intOf]; omega
      · obtain rfl : j = n := by omega
        obtain ⟨i9, hi9, hz9, -, -⟩ := info_parts infoPin
        obtain ⟨zs, hzs⟩ : ∃ zs, (Builtin.zeroCells (Value.agg #[.string ⟨#[]⟩, .bool false, .int .i64 0]).cells (j - i)).toList = zs := ⟨_, rfl⟩
        have hzl : zs.length = (j - i) * 3 := by rw [← hzs]; exact zero_len _
        have hz1 : ∀ v ∈ zs, v.oneCell' = true := by rw [← hzs]; exact zero_one _
        have hcl : ∀ ty, (Builtin.clear_ #[28] ty #[.slice (some ⟨g, i * 3, none⟩) (j - i) (c - i)]).run Tryz.prog wr = .ok (.tuple #[]) (wr.setCells g (i * 3) zs) := fun ty =>
          run_clear_k wr _ 23 ty (Value.agg #[.string ⟨#[]⟩, .bool false, .int .i64 0]) Tryz.underlying28 (fun w => by simp [zeroValue, typeInfo, hi9, hz9]) g (i * 3) (j - i) (c - i) (by omega) zs hzs
            (fun q hq => by obtain ⟨u, hu⟩ := hD.cell1 (i * 3 + q) (by omega); rw [hu]; rfl) (fun q hq => hD.free _) hz1
        have hci : ¬ c = i := by omega
        have hicI : (i : Int) ≤ (c : Int) := by omega
        have HFIN := Lib.hid (show DelP base g c L now w (.returned (.slice (some ⟨g, 0, none⟩) i c)) (wr.setCells g (i * 3) zs) from by
          obtain ⟨cur2, d1, d2, d3, -, d5⟩ := hD
          have htl : L.take j = L := List.take_of_length_le (by rw [HL.out]; exact Nat.le_refl _)
          rw [htl] at d3 d5
          have hr := heap_setCells_row g 23 zs cur2 (i * 3) wr d1
          refine ⟨i, rfl, ⟨by rw [flat_pl_length], .inr ⟨g, c, _, by rw [← d5], hbg, hr, by rw [← d5]; omega, hcm, by rw [splice_size]; exact d2, ?_⟩⟩, grown_trans hG (setCells_grown g zs (i * 3) wr)⟩
          rw [← d5, splice_toList _ _ _ (by omega), List.append_assoc, List.take_left' (by rw [List.length_take, Array.length_toList]; omega), d3])
        clear hzs hz1 hzl hD hG hbr hi9 hz9
        go_wp2_with fail
        go_ret
        exact HFIN.out

end Go.Proofs.YtcmeajaakdaeeaaGreatDoor

/-
  The table's Expire.
-/
namespace Go.Proofs.YtcmeajaakdaeeaaGreatDoor
open Go.RowKit

theorem live_eq (L : List Pin) (now : Int) : L.filter (lvp now) = Tab.live L now := rfl

/-- What Expire does. -/
def ExpP (B g : Nat) (v : Value) (L : List Pin) (cap now : Int) (w : World) (e : Ending) (w' : World) : Prop :=
  ∃ v', e = .returned (.int .i64 ((L.length : Int) - ((Tab.live L now).length : Int))) ∧ TabW B w' g v' (Tab.live L now) cap ∧ Upd (Foot g v) w (Foot g v') w'

set_option maxHeartbeats 4000000 in
set_option maxRecDepth 100000 in
theorem tb_expire {B : Nat} {w : World} {g : Nat} {v : Value} {L : List Pin} {cap : Int} (h : TabW B w g v L cap) (now : Int) (hn : L.length ≤ 1000000) :
    Calls Tryz.prog 11 #[.pointer (some ⟨g, 0, none⟩), .int .i64 now] w (ExpP B g v L cap now w) := by
  have hb0 := (Below.refl w.heap.size w).alloc (Nat.le_refl _) (.cells #[.int .i64 now] 3)
  have hbx : Boxed (w.alloc (.cells #[.int .i64 now] 3)) w.heap.size 3 (.int .i64 now) := heap_alloc_eq _ _ _ rfl
  have hT0 := h.ext hb0
  have hlt := h.lt
  have HL0 := Lib.hid (tb_len hT0)
  have HU0 := Lib.hid (Upd.of_ext (F := Foot g v) hb0)
  by_cases h0 : L.length = 0
  · have hnil : L = [] := List.eq_nil_of_length_eq_zero h0
    subst hnil
    have HT := Lib.hid hT0
    clear hT0 hbx hb0 h
    go_enter Tryz.func11, Tryz.ntmps11
    go_wp2_with fail
    refine HL0.out.mono ?_; rintro e w1 ⟨rfl, rfl⟩
    go_wp2_with fail
    refine HL0.out.mono ?_; rintro e w2 ⟨rfl, rfl⟩
    go_wp2_with fail
    go_ret
    exact ⟨v, rfl, HT.out, HU0.out⟩
  · obtain ⟨g', c', rfl⟩ : ∃ g' c', v = .slice (some ⟨g', 0, none⟩) L.length c' := by
      rcases h.2.1.2 with ⟨hv, hn0⟩ | ⟨g', cap', cur, hv, -⟩
      · exact absurd hn0 h0
      · exact ⟨g', cap', hv⟩
    have hgg : g' ≠ g := fun e => h.2.2.2 (by rw [← e]; rfl)
    have hg'lt := (h.2.1.lt g' rfl).2
    obtain ⟨n, hn2⟩ : ∃ n, L.length = n := ⟨_, rfl⟩
    have HP0 := Lib.hid (show ∀ e w', e = .returned (.int .i64 ((n : Int) - ((Tab.live L now).length : Int))) → ∀ v', TabW B w' g v' (Tab.live L now) cap → Upd (Foot g (.slice (some ⟨g', 0, none⟩) L.length c')) w (Foot g v') w' → ExpP B g (.slice (some ⟨g', 0, none⟩) L.length c') L cap now w e w' from fun e w' he v' ht hu => ⟨v', by rw [he, hn2], ht, hu⟩)
    rw [hn2] at h0 hn hT0 HL0 HU0 HP0 ⊢
    have HDL := Lib.hid (sl_delfunc B g' c' n L now w.heap.size _ hT0.2.1 hn2 hn hbx (by omega))
    have hln : (Tab.live L now).length ≤ n := by rw [← hn2]; exact List.length_filter_le _ _
    have HT := Lib.hid hT0
    obtain ⟨c0, -⟩ := hT0.cells
    have hltg := hT0.lt
    have t1 : (0 : Int) < (n : Int) := by omega
    clear hT0 hbx hb0 h hn2
    go_enter Tryz.func11, Tryz.ntmps11
    go_wp2_with fail
    refine HL0.out.mono ?_; rintro e w1 ⟨rfl, rfl⟩
    go_wp2_with fail
    refine HDL.out.mono ?_; rintro e w2 ⟨i, rfl, ho2, hg2⟩
    have hk2 := (hg2.block g HT.out.lt (fun e => hgg (by cases e; rfl))).trans HT.out.1
    have c2 : w2.cell? ⟨g, 0, none⟩ = some (.slice (some ⟨g', 0, none⟩) n c') := (cell_of_row _ _ _ _ _ _ hk2).trans rfl
    have f2 : w2.frozen? ⟨g, 0, none⟩ = false := frozen_of_row _ _ _ _ _ hk2
    have hlt2 := heap_lt hk2
    have hT3 : TabW B (w2.setCell ⟨g, 0, none⟩ (.slice (some ⟨g', 0, none⟩) i c')) g (.slice (some ⟨g', 0, none⟩) i c') (Tab.live L now) cap :=
      ⟨heap_setCell_same w2 g 0 _ _ _ hk2, OwnN.stay ho2 (fun k hk => heap_setCell_other _ _ _ _ (fun e => by cases hk; exact hgg e)), HT.out.2.2.1, fun e => hgg (by cases e; rfl)⟩
    have HU3 := Lib.hid (((HU0.out.grown (row := some g') (fun k hk => .inl (.inr (by cases hk; rfl))) hg2).setCell (g := g) (.inl (.inl rfl)) 0 (.slice (some ⟨g', 0, none⟩) i c')).grow (F2 := Foot g (.slice (some ⟨g', 0, none⟩) i c')) (fun k hk => .inl (by rcases hk with h9 | h9; exact .inl h9; exact .inr h9)))
    have HL3 := Lib.hid (tb_len hT3)
    have HT3 := Lib.hid hT3
    clear hk2 ho2 hg2 hT3
    obtain ⟨m, hm⟩ : ∃ m, (Tab.live L now).length = m := ⟨_, rfl⟩
    rw [hm] at HL3 HP0 hln
    clear hm
    go_wp2_with fail
    refine HL3.out.mono ?_; rintro e w3 ⟨rfl, rfl⟩
    have ws : IntKind.i64.wrap ((n : Int) - (m : Int)) = (n : Int) - (m : Int) := by rw [IntKind.wrap_i64]; omega
    go_wp2_with fail
    go_ret
    exact HP0.out _ _ rfl _ HT3.out HU3.out

end Go.Proofs.YtcmeajaakdaeeaaGreatDoor

/-
  awake of law 23.
-/
namespace Go.Proofs.YtcmeajaakdaeeaaGreatDoor
open Go.RowKit

def tA : Pin := ⟨[97, 46, 99, 111, 109], false, 5⟩
def tB : Pin := ⟨[97, 46, 99, 111, 109], true, 7⟩
def tC : Pin := ⟨[98, 46, 99, 111, 109], false, 9⟩
theorem aw23_a : Tab.put [] 1 tA = ([tA], 0) := by decide +kernel
theorem aw23_b : Tab.put [tA] 1 tB = ([tB], 0) := by decide +kernel
theorem aw23_c : Tab.put [tB] 1 tC = ([tB], 11) := by decide +kernel
theorem aw23_d : Tab.live [tB] 7 = [] := by decide +kernel
theorem aw23_e : Tab.put [] 1 tC = ([tC], 0) := by decide +kernel
theorem asc_nil : Tab.Asc [] := List.Pairwise.nil
theorem asc_one (p : Pin) : Tab.Asc [p] := by unfold Tab.Asc; simp

/-- A state of the table between two calls. -/
def TSt (w : World) (L : List Pin) (W : World) : Prop := ∃ v, TabW w.heap.size W w.heap.size v L 1 ∧ Below w.heap.size w W
theorem TSt.put {w : World} {L : List Pin} {W : World} (h : TSt w L W) {p : Pin} {L' : List Pin} {z : Int} (he : Tab.put L 1 p = (L', z)) (hA : Tab.Asc L) (hL : ∀ q ∈ L, q.h.length ≤ 1000000) (hn : L.length ≤ 100000) (hp : p.h.length ≤ 1000000) :
    Calls Tryz.prog 9 #[.pointer (some ⟨w.heap.size, 0, none⟩), pv p] W fun e W' => e = .returned (.int .i64 z) ∧ TSt w L' W' := by
  obtain ⟨v, hT, hB⟩ := h
  refine (tb_put hT p hn hA hL hp).mono ?_
  rintro e W' ⟨v', h1, h2, h3⟩
  rw [he] at h1 h2
  exact ⟨h1, v', h2, h3.below hB (fun k hk => (Foot.own hT k hk).1) hB.size⟩
theorem TSt.expire {w : World} {L : List Pin} {W : World} (h : TSt w L W) (now : Int) {L' : List Pin} {z : Int} (he : Tab.live L now = L') (hz : (L.length : Int) - (L'.length : Int) = z) (hn : L.length ≤ 100000) :
    Calls Tryz.prog 11 #[.pointer (some ⟨w.heap.size, 0, none⟩), .int .i64 now] W fun e W' => e = .returned (.int .i64 z) ∧ TSt w L' W' := by
  obtain ⟨v, hT, hB⟩ := h
  refine (tb_expire hT now (by omega)).mono ?_
  rintro e W' ⟨v', h1, h2, h3⟩
  rw [he] at h1 h2
  rw [hz] at h1
  exact ⟨h1, v', h2, h3.below hB (fun k hk => (Foot.own hT k hk).1) hB.size⟩

set_option maxHeartbeats 4000000 in
set_option maxRecDepth 100000 in
theorem tab_awake (w : World) : Calls Tryz.prog 5 #[] w fun e w' => e = .returned (.bool true) ∧ Below w.heap.size w w' := by
  have hN := (tb_new 1 w).mono (R' := fun e w' => e = .returned (.tuple #[.pointer (some ⟨w.heap.size, 0, none⟩), .int .i64 0]) ∧ w' = w.alloc (.cells #[.slice none 0 0, .int .i64 1] 57)) (fun e w' h => by unfold NewP at h; rwa [if_neg (by omega)] at h)
  have HN := Lib.hid hN
  have H1 := Lib.hid (fun W (h : TSt w [] W) => h.put aw23_a asc_nil (by simp) (by simp) (by decide))
  have H2 := Lib.hid (fun W (h : TSt w [tA] W) => h.put aw23_b (asc_one _) (by simp [tA]) (by simp) (by decide))
  have H3 := Lib.hid (fun W (h : TSt w [tB] W) => h.put aw23_c (asc_one _) (by simp [tB]) (by simp) (by decide))
  have H4 := Lib.hid (fun W (h : TSt w [tB] W) => h.expire 7 aw23_d (z := 1) (by decide) (by simp))
  have H5 := Lib.hid (fun W (h : TSt w [] W) => h.put aw23_e asc_nil (by simp) (by simp) (by decide))
  clear hN
  go_enter Tryz.func5, Tryz.ntmps5
  go_wp2_with fail
  refine HN.out.mono ?_; rintro e w1 ⟨rfl, rfl⟩
  have hS := Lib.hid (show TSt w [] (w.alloc (.cells #[.slice none 0 0, .int .i64 1] 57)) from ⟨_, TabW.new w 1 (Nat.le_refl _), (Below.refl _ _).alloc (Nat.le_refl _) _⟩)
  go_wp2_with fail
  refine (H1.out _ hS.out).mono ?_; rintro e w2 ⟨rfl, h2⟩
  have h2 := Lib.hid h2
  go_wp2_with fail
  refine (H2.out _ h2.out).mono ?_; rintro e w3 ⟨rfl, h3⟩
  have h3 := Lib.hid h3
  go_wp2_with fail
  refine (H3.out _ h3.out).mono ?_; rintro e w4 ⟨rfl, h4⟩
  have h4 := Lib.hid h4
  go_wp2_with fail
  refine (H4.out _ h4.out).mono ?_; rintro e w5 ⟨rfl, h5⟩
  have h5 := Lib.hid h5
  go_wp2_with fail
  refine (H5.out _ h5.out).mono ?_; rintro e w6 ⟨rfl, h6⟩
  have h6 := Lib.hid h6
  go_wp2_with fail
  refine (tb_len h6.out.choose_spec.1).mono ?_; rintro e w7 ⟨rfl, rfl⟩
  go_wp2_with fail
  go_ret
  exact ⟨rfl, h6.out.choose_spec.2⟩

end Go.Proofs.YtcmeajaakdaeeaaGreatDoor

/-
  append of a slice of pins onto an own slice: as a run equation, and as one step of a region that draws its order.
-/
namespace Go.Proofs.YtcmeajaakdaeeaaGreatDoor
open Go.RowKit

theorem SlN.cellsOf {w : World} {ad : Addr} {m c : Nat} {l2 : List Pin} (hsl : SlN w (some ad) m c l2) : ∀ j u, (l2.flatMap pl)[j]? = some u → w.cell? (ad.add j) = some u := by
  intro j u hj
  have hjl : j < l2.length * 3 := by
    have := (List.getElem?_eq_some_iff.1 hj).1; rwa [flat_pl_length] at this
  have hi2 : j / 3 < l2.length := by omega
  obtain ⟨hsp, hb, c1, c2, c3⟩ := hsl.2.2.2.2 ad rfl (j / 3) hi2
  obtain ⟨g1, g2, g3⟩ := flat_pl_get l2 (j / 3) hi2
  have hadd : ad.add j = ⟨ad.block, ad.off + j, none⟩ := by
    obtain ⟨b, o, sp⟩ := ad; simp only at hsp; subst hsp; unfold Addr.add; split <;> simp_all
  rw [hadd]
  have h3 : j % 3 = 0 ∨ j % 3 = 1 ∨ j % 3 = 2 := by omega
  rcases h3 with h0 | h0 | h0
  · have e : j / 3 * 3 = j := by omega
    rw [e] at c1 g1
    rw [c1, ← hj, g1]
  · have e : j / 3 * 3 + 1 = j := by omega
    rw [Nat.add_assoc, e] at c2
    rw [e] at g2
    rw [c2, ← hj, g2]
  · have e : j / 3 * 3 + 2 = j := by omega
    rw [Nat.add_assoc, e] at c3
    rw [e] at g3
    rw [c3, ← hj, g3]

theorem run_append_pins {w : World} (ty : TypeId) (base : Nat) (v : Value) (l : List Pin) (hown : OwnN base w v l) (b : Option Addr) (m c : Nat) (l2 : List Pin) (hsl : SlN w b m c l2) (hlen : l.length + m ≤ 1000000000) (hbase : base ≤ w.heap.size) :
    ∃ v' w', (Builtin.append_ #[28, 28] ty #[v, .slice b m c]).run Tryz.prog w = .ok v' w' ∧ OwnN base w' v' (l ++ l2) ∧ w.grownBy w' v.ownBlock := by
  obtain ⟨i0, hi, hz0, hz1, hz2⟩ := info_parts infoPin
  cases b with
  | none =>
    obtain ⟨rfl, rfl⟩ := hsl.2.2.2.1 rfl
    obtain rfl : m = 0 := hsl.1.symm
    have hrun := run_append_owned_none (P := Tryz.prog) (w := w) base 28 ty 23 i0 3 Tryz.underlying28 hi v l.length _ hown
    exact ⟨v, w, hrun, by simpa using hown, rfl, rfl, rfl, Nat.le_refl _, fun _ _ _ => rfl⟩
  | some ad =>
    have hl2 := hsl.len
    obtain ⟨v', w', hr, h2, h3, -⟩ := run_append_own (P := Tryz.prog) w base 28 ty 23 i0 _ 3 32 Tryz.underlying28 hi hz0 hz1 hz2 rfl (by decide) v l.length _ hown ad m c (l2.flatMap pl) (by rw [flat_pl_length, hl2]) hsl.cellsOf (pl_one _) (by unfold maxLen; omega) (by omega) hbase
    refine ⟨v', w', hr, ?_, h3⟩
    unfold OwnN; rw [List.length_append, List.flatMap_append, hl2]; exact h2

theorem step_append_pins {w : World} {ops : Array Oper} {o : Oper} {a : Act} {K : Act → World → Prop} {Q : Exit → Act → World → Prop} {E : Prop} (hgd : o.guard = none) (s x : Operand)
    (ho : o.op = .call { callee := .builtin .append, args := #[s, x], argTypes := #[28, 28] })
    (base : Nat) (v : Value) (l : List Pin) (hs : a.eval s = v) (hown : OwnN base w v l) (b : Option Addr) (m c : Nat) (l2 : List Pin) (hx : a.eval x = .slice b m c) (hsl : SlN w b m c l2)
    (hlen : l.length + m ≤ 1000000000) (hbase : base ≤ w.heap.size)
    (h : ∀ v' w', OwnN base w' v' (l ++ l2) → w.grownBy w' v.ownBlock → K (a.put o.dst v') w') :
    if Region.wanted o (yielded ops a.tmps) = true then Oper.wp Tryz.prog o a w K Q else E := by
  have hw : Region.wanted o (yielded ops a.tmps) = true := by simp [Region.wanted, hgd]
  rw [if_pos hw]
  obtain ⟨v', w', hrun, h1, h2⟩ := run_append_pins o.type base v l hown b m c l2 hsl hlen hbase
  unfold Oper.wp
  simp [execOp, ho, resolve, invoke, builtin, hs, hx, hrun, Result.andThen]
  exact h v' w' h1 h2

theorem SlN.grown {w w' : World} {a : Option Addr} {n c : Nat} {l : List Pin} {row : Option Nat} (h : SlN w a n c l) (hg : w.grownBy w' row) (hne : ∀ x, a = some x → row ≠ some x.block) : SlN w' a n c l := by
  obtain ⟨hl, hn, hc, h0, h1⟩ := h
  refine ⟨hl, hn, hc, h0, fun x hx i hi => ?_⟩
  obtain ⟨hs, hb, hi⟩ := h1 x hx i hi
  exact ⟨hs, Nat.lt_of_lt_of_le hb hg.size, hi.stay (hg.block _ hb (fun e => hne x hx e.symm))⟩
theorem SlN.heap {w W : World} {a : Option Addr} {n c : Nat} {l : List Pin} (h : SlN w a n c l) (he : W.heap = w.heap) : SlN W a n c l :=
  h.stay (fun _ _ _ => by rw [he]) (by rw [he]; exact Nat.le_refl _)
/-- The rest of a slice behind its first k elements. -/
theorem SlN.drop {w : World} {b o n c : Nat} {l : List Pin} (h : SlN w (some ⟨b, o, none⟩) n c l) {k : Nat} (hk : k ≤ n) : SlN w (some ⟨b, o + k * 3, none⟩) (n - k) (c - k) (l.drop k) := by
  obtain ⟨hl, hn, hc, h0, h1⟩ := h
  refine ⟨by simp; omega, by omega, by omega, (fun h => by cases h), fun y hy i hi => ?_⟩
  cases hy
  have hi' : k + i < l.length := by simp at hi; omega
  obtain ⟨hs, hb, hcl⟩ := h1 _ rfl (k + i) hi'
  refine ⟨rfl, hb, ?_⟩
  rw [List.getElem_drop]
  simp only at hcl ⊢
  rwa [show o + k * 3 + i * 3 = o + (k + i) * 3 by omega]
theorem SlN.zero (w : World) (x : Addr) (c : Nat) (hc : c ≤ maxLen) : SlN w (some x) 0 c [] := ⟨rfl, Nat.zero_le _, hc, (fun h => by cases h), fun y _ i hi => by simp at hi⟩

end Go.Proofs.YtcmeajaakdaeeaaGreatDoor
