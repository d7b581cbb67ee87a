/-
  A map from ints to slices of bytes that the call itself has made: the cache of a disk. Look-up, store, clear, range.
-/
import Derived.Test.YtabeelcidlhniaaGreatUpd
import Derived.Test.YtabeelcidlhniaaGreatDiskPlain
import Derived.Maps.RangeRun
import Derived.Maps.OwnSet
import Derived.Maps.RangeWalk
namespace Go.Proofs.YtabeelcidlhniaaGreat
open Go.RowKit
open Go.MapKept (Stamped IsKey findNow_spec run_findKey run_checkKey run_keyThatStays stamped_push stamped_modify stamped_empty)
open Go.ChangeMaps (setBlock)

/-- What an entry of the cache is: R says where the contents lie. -/
def EntryIs (R : Nat → Prop) (w : World) (ca : List (Option (List UInt8))) (e : MapEntry) : Prop :=
  ∃ (i : Nat) (x : List UInt8) (a : Addr) (c : Nat), ca[i]? = some (some x) ∧ e.key = .int .i64 (i : Int) ∧ e.val = .slice (some a) x.length c ∧ SlB w (some a) x.length c x ∧ R a.block ∧ x ≠ []

structure EsIs (R : Nat → Prop) (w : World) (ca : List (Option (List UInt8))) (es : Array MapEntry) (clock : Nat) : Prop where
  stamped : Stamped es clock
  size : es.size = ca.countP (·.isSome)
  mem : ∀ e ∈ es.toList, EntryIs R w ca e
  all : ∀ (i : Nat) (x : List UInt8), ca[i]? = some (some x) → ∃ e ∈ es.toList, e.key = .int .i64 (i : Int)

def MapIs (R : Nat → Prop) (w : World) (m : Nat) (ca : List (Option (List UInt8))) : Prop :=
  ∃ es clock, w.heap[m]? = some (.map es clock) ∧ EsIs R w ca es clock

theorem EntryIs.stay {R : Nat → Prop} {w w' : World} {ca : List (Option (List UInt8))} {e : MapEntry} (h : EntryIs R w ca e) (k : ∀ b, R b → b < w.heap.size → w'.heap[b]? = w.heap[b]?) (hz : w.heap.size ≤ w'.heap.size) : EntryIs R w' ca e := by
  obtain ⟨i, x, a, c, h1, h2, h3, h4, h5, h6⟩ := h
  exact ⟨i, x, a, c, h1, h2, h3, h4.stay (fun y hy _ => by cases hy; exact k _ h5 (h4.blt h6)) hz, h5, h6⟩
theorem EntryIs.mono {R R' : Nat → Prop} {w : World} {ca : List (Option (List UInt8))} {e : MapEntry} (h : EntryIs R w ca e) (k : ∀ b, R b → R' b) : EntryIs R' w ca e := by
  obtain ⟨i, x, a, c, h1, h2, h3, h4, h5, h6⟩ := h
  exact ⟨i, x, a, c, h1, h2, h3, h4, k _ h5, h6⟩
theorem EsIs.stay {R : Nat → Prop} {w w' : World} {ca : List (Option (List UInt8))} {es : Array MapEntry} {clock : Nat} (h : EsIs R w ca es clock) (k : ∀ b, R b → b < w.heap.size → w'.heap[b]? = w.heap[b]?) (hz : w.heap.size ≤ w'.heap.size) : EsIs R w' ca es clock :=
  ⟨h.stamped, h.size, fun e he => (h.mem e he).stay k hz, h.all⟩
theorem MapIs.lt {R : Nat → Prop} {w : World} {m : Nat} {ca : List (Option (List UInt8))} (h : MapIs R w m ca) : m < w.heap.size := by
  obtain ⟨es, clock, hb, -⟩ := h; exact heap_lt hb
theorem MapIs.stay {R : Nat → Prop} {w w' : World} {m : Nat} {ca : List (Option (List UInt8))} (h : MapIs R w m ca) (k : ∀ b, R b → b < w.heap.size → w'.heap[b]? = w.heap[b]?) (hm : w'.heap[m]? = w.heap[m]?) (hz : w.heap.size ≤ w'.heap.size) : MapIs R w' m ca := by
  obtain ⟨es, clock, hb, hE⟩ := h
  exact ⟨es, clock, hm.trans hb, hE.stay k hz⟩
theorem MapIs.mono {R R' : Nat → Prop} {w : World} {m : Nat} {ca : List (Option (List UInt8))} (h : MapIs R w m ca) (k : ∀ b, R b → R' b) : MapIs R' w m ca := by
  obtain ⟨es, clock, hb, hE⟩ := h
  exact ⟨es, clock, hb, hE.stamped, hE.size, fun e he => (hE.mem e he).mono k, hE.all⟩
/-- A block of contents is no map. -/
theorem EntryIs.ne {R : Nat → Prop} {w : World} {ca : List (Option (List UInt8))} {e : MapEntry} (h : EntryIs R w ca e) {m : Nat} {es : Array MapEntry} {clock : Nat} (hm : w.heap[m]? = some (.map es clock)) : EntryIs (fun b => R b ∧ b ≠ m) w ca e := by
  obtain ⟨i, x, a, c, h1, h2, h3, h4, h5, h6⟩ := h
  refine ⟨i, x, a, c, h1, h2, h3, h4, ⟨h5, fun e => ?_⟩, h6⟩
  have h7 := (h4.2.2.2.2 a rfl 0 (List.length_pos_iff.2 h6)).2.2
  simp only [World.cell?] at h7
  rw [e, hm] at h7
  cases h7

theorem es_isKey {R : Nat → Prop} {w : World} {ca : List (Option (List UInt8))} {es : Array MapEntry} {clock : Nat} (h : EsIs R w ca es clock) : ∀ x ∈ es.toList, IsKey (.int .i64) x.key := by
  intro x hx
  obtain ⟨i, y, a, c, -, h2, -⟩ := h.mem x hx
  rw [h2]; rfl

/-- A look-up, with ok. -/
theorem MapIs.look {R : Nat → Prop} {w : World} {m : Nat} {ca : List (Option (List UInt8))} (h : MapIs R w m ca) (z : Int) :
    (∃ (i : Nat) (x : List UInt8) (a : Addr) (c : Nat), z = i ∧ ca[i]? = some (some x) ∧ SlB w (some a) x.length c x ∧ R a.block ∧ x ≠ [] ∧ ∀ W : World, W.heap = w.heap → (Instr.lookup 62 (.map (some m)) (.int .i64 z) true).run Tryz.prog W = .ok (.tuple #[.slice (some a) x.length c, .bool true]) W) ∨
    ((∀ i : Nat, z = i → ca[i]?.getD none = none) ∧ ∀ W : World, W.heap = w.heap → (Instr.lookup 62 (.map (some m)) (.int .i64 z) true).run Tryz.prog W = .ok (.tuple #[.slice none 0 0, .bool false]) W) := by
  obtain ⟨es, clock, hb, hE⟩ := h
  have hk : IsKey (.int .i64) (.int .i64 z) := rfl
  have hu := Tryz.underlying62
  have hd := Tryz.underlying3
  have hz := fun w => Tryz.zeroValue37 w
  rcases findNow_spec hk es.toList 0 (es_isKey hE) with ⟨h1, h2⟩ | ⟨j, e, h1, h2, h3⟩
  · refine .inr ⟨fun i hi => ?_, ?_⟩
    · subst hi
      cases hc : ca[i]? with
      | none => rfl
      | some o =>
        cases o with
        | none => rfl
        | some x =>
          obtain ⟨e, he, hek⟩ := hE.all i x hc
          exact absurd hek (h2 e he)
    · intro W hW
      rw [← hW] at hb
      simp [Instr.lookup, run_underlying hu, MapKept.run_getObj_map hb, run_checkKey hd hk, run_findKey hd h1, hz, Result.andThen]
  · obtain ⟨i, x, a, c, q1, q2, q3, q4, q5, q6⟩ := hE.mem e (List.mem_of_getElem? h2)
    have hzi : z = i := by rw [h3] at q2; injection q2
    refine .inl ⟨i, x, a, c, hzi, q1, q4, q5, q6, fun W hW => ?_⟩
    rw [← hW] at hb
    simp [Instr.lookup, run_underlying hu, MapKept.run_getObj_map hb, run_checkKey hd hk, run_findKey hd h1, Result.andThen, q3]

theorem setBlock_same {w : World} {b : Nat} {o o' : Obj} (h : w.heap[b]? = some o) : (setBlock w b o').heap[b]? = some o' := (MapKept.heap_set h).1
theorem setBlock_other (w : World) {b : Nat} (o' : Obj) {k : Nat} (hk : k ≠ b) : (setBlock w b o').heap[k]? = w.heap[k]? := by
  show (w.heap.setIfInBounds b o')[k]? = _
  simp [Ne.symm hk]
theorem setBlock_size (w : World) (b : Nat) (o' : Obj) : (setBlock w b o').heap.size = w.heap.size := by
  show (w.heap.setIfInBounds b o').size = _
  simp
theorem Upd.setBlock {F F' : Nat → Prop} {w w1 : World} (h : Upd F w F' w1) {g : Nat} (hg : F g ∨ w.heap.size ≤ g) (o : Obj) : Upd F w F' (setBlock w1 g o) where
  os := h.os
  tape := h.tape
  output := h.output
  size := by rw [setBlock_size]; exact h.size
  block k hk hF := (setBlock_other _ _ (fun e => by subst e; rcases hg with e1 | e1; exact hF e1; omega)).trans (h.block k hk hF)
  new := h.new

set_option maxRecDepth 100000 in
theorem es_update {R : Nat → Prop} {w : World} {ca : List (Option (List UInt8))} {es : Array MapEntry} {clock : Nat} (h : EsIs R w ca es clock) (i : Nat) (hi : i < ca.length) (x : List UInt8) (a : Addr) (c : Nat)
    (hs : SlB w (some a) x.length c x) (hR : R a.block) (hx : x ≠ []) {m : Nat} (hb : w.heap[m]? = some (.map es clock)) :
    ∃ es' clock', (Instr.mapUpdate 62 (.map (some m)) (.int .i64 (i : Int)) (.slice (some a) x.length c)).run Tryz.prog w = .ok () (setBlock w m (.map es' clock')) ∧ EsIs R w (ca.set i (some x)) es' clock' := by
  have hk : IsKey (.int .i64) (.int .i64 (i : Int)) := rfl
  have hu := Tryz.underlying62
  have hd := Tryz.underlying3
  have hold : ∀ e, EntryIs R w ca e → e.key ≠ .int .i64 (i : Int) → EntryIs R w (ca.set i (some x)) e := by
    rintro e ⟨j, y, b, d, q1, q2, q3, q4, q5, q6⟩ hne
    refine ⟨j, y, b, d, ?_, q2, q3, q4, q5, q6⟩
    rw [List.getElem?_set_ne (fun e => hne (by rw [q2, e]))]; exact q1
  have hnew : ∀ born, EntryIs R w (ca.set i (some x)) ⟨.int .i64 (i : Int), .slice (some a) x.length c, born⟩ := fun born =>
    ⟨i, x, a, c, by rw [List.getElem?_set_self hi], rfl, rfl, hs, hR, hx⟩
  have hall : ∀ (es' : Array MapEntry), (∃ e ∈ es'.toList, e.key = .int .i64 (i : Int)) → (∀ e ∈ es.toList, e.key ≠ .int .i64 (i : Int) → e ∈ es'.toList) → ∀ (k : Nat) (y : List UInt8), (ca.set i (some x))[k]? = some (some y) → ∃ e ∈ es'.toList, e.key = .int .i64 (k : Int) := by
    intro es' h1 h2 k y hy
    by_cases hki : i = k
    · subst hki; exact h1
    · rw [List.getElem?_set_ne hki] at hy
      obtain ⟨e, he, hek⟩ := h.all k y hy
      exact ⟨e, h2 e he (by rw [hek]; intro e2; injection e2 with _ e3; omega), hek⟩
  rcases findNow_spec hk es.toList 0 (es_isKey h) with ⟨h1, h2⟩ | ⟨j, e, h1, h2, h3⟩
  · refine ⟨es.push ⟨.int .i64 (i : Int), .slice (some a) x.length c, clock⟩, clock + 1, ?_, stamped_push h.stamped h2, ?_, ?_, ?_⟩
    · simp [Instr.mapUpdate, run_underlying hu, MapKept.run_getObj_map hb, run_checkKey hd hk, run_findKey hd h1, MapKept.run_setObj_map _ hb, Result.andThen, setBlock]
    · have hnone : ca[i] = none := by
        cases hc : ca[i] with
        | none => rfl
        | some y =>
          obtain ⟨e, he, hek⟩ := h.all i y (by rw [List.getElem?_eq_getElem hi, hc])
          exact absurd hek (h2 e he)
      rw [Array.size_push, h.size, List.countP_set hi, hnone]; simp
    · intro e he
      simp only [Array.toList_push, List.mem_append, List.mem_singleton] at he
      rcases he with he | rfl
      · exact hold e (h.mem e he) (h2 e he)
      · exact hnew _
    · refine hall _ ⟨⟨.int .i64 (i : Int), .slice (some a) x.length c, clock⟩, by simp, rfl⟩ (fun e he _ => ?_)
      rw [Array.toList_push]; exact List.mem_append_left _ he
  · have hj : es[j]? = some e := by simpa using h2
    have hjl : j < es.toList.length := (List.getElem?_eq_some_iff.1 h2).1
    have hkeyf : ∀ e', es[j]? = some e' → ({ e' with key := .int .i64 (i : Int), val := .slice (some a) x.length c } : MapEntry).key = e'.key := fun e' he' => by rw [hj] at he'; cases he'; exact h3.symm
    have hlist : (es.modify j (fun e' => { e' with key := .int .i64 (i : Int), val := .slice (some a) x.length c })).toList = es.toList.set j { e with key := .int .i64 (i : Int), val := .slice (some a) x.length c } := by rw [Array.toList_modify, ChangeMaps.modify_eq_set _ _ _ _ h2]
    refine ⟨es.modify j (fun e' => { e' with key := .int .i64 (i : Int), val := .slice (some a) x.length c }), clock, ?_, stamped_modify h.stamped _ _ (fun _ _ => rfl) (fun e' _ he' => hkeyf e' he'), ?_, ?_, ?_⟩
    · simp [Instr.mapUpdate, run_underlying hu, MapKept.run_getObj_map hb, run_checkKey hd hk, run_findKey hd h1, hj, h3, run_keyThatStays hk, MapKept.run_setObj_map _ hb, Result.andThen, setBlock]
    · obtain ⟨k, y, b, d, q1, q2, -⟩ := h.mem e (List.mem_of_getElem? h2)
      have hki : k = i := by rw [h3] at q2; injection q2 with _ e2; omega
      subst hki
      rw [List.getElem?_eq_getElem hi] at q1
      have q1' := Option.some.inj q1
      have hpos : 0 < ca.countP (·.isSome) := List.countP_pos_iff.2 ⟨_, List.getElem_mem hi, by rw [q1']; rfl⟩
      rw [Array.size_modify, h.size, List.countP_set hi, q1']; simp; omega
    · intro e' he'
      rw [hlist] at he'
      obtain ⟨p, hp, ep⟩ := List.getElem_of_mem he'
      rw [List.getElem_set] at ep
      split at ep
      · subst ep; exact hnew _
      · rename_i hne
        have hp' : p < es.toList.length := by simpa using hp
        refine hold e' (h.mem e' (ep ▸ List.getElem_mem hp')) ?_
        intro ek
        have h5 := ((MapKept.stamped_iff es clock).1 h.stamped).2.2
        have hpe : es.toList[p] = e' := ep
        have hje : es.toList[j] = e := by rw [List.getElem?_eq_getElem hjl] at h2; exact Option.some.inj h2
        rcases Nat.lt_or_gt_of_ne hne with hlt | hlt
        · exact List.pairwise_iff_getElem.1 h5 j p hjl hp' hlt (by rw [hpe, hje, ek, h3])
        · exact List.pairwise_iff_getElem.1 h5 p j hp' hjl hlt (by rw [hpe, hje, ek, h3])
    · refine hall _ ?_ ?_
      · exact ⟨{ e with key := .int .i64 (i : Int), val := .slice (some a) x.length c }, by rw [hlist]; exact List.mem_iff_getElem.2 ⟨j, by simpa using hjl, by simp⟩, rfl⟩
      · intro e' he' hne
        rw [hlist]
        obtain ⟨p, hp, ep⟩ := List.getElem_of_mem he'
        have hpj : j ≠ p := by
          rintro rfl
          have hje : es.toList[j] = e := by rw [List.getElem?_eq_getElem hjl] at h2; exact Option.some.inj h2
          exact hne (by rw [← ep, hje, h3])
        exact List.mem_iff_getElem.2 ⟨p, by simpa using hp, by rw [List.getElem_set_ne hpj]; exact ep⟩

/-- A store. -/
theorem MapIs.update {R : Nat → Prop} {w : World} {m : Nat} {ca : List (Option (List UInt8))} (h : MapIs R w m ca) (i : Nat) (hi : i < ca.length) (x : List UInt8) (a : Addr) (c : Nat) (hs : SlB w (some a) x.length c x) (hR : R a.block) (hx : x ≠ []) (hm : ¬ R m) :
    ∃ o, (Instr.mapUpdate 62 (.map (some m)) (.int .i64 (i : Int)) (.slice (some a) x.length c)).run Tryz.prog w = .ok () (setBlock w m o) ∧ MapIs R (setBlock w m o) m (ca.set i (some x)) := by
  obtain ⟨es, clock, hb, hE⟩ := h
  obtain ⟨es', clock', hrun, hE'⟩ := es_update hE i hi x a c hs hR hx hb
  exact ⟨_, hrun, es', clock', setBlock_same hb, hE'.stay (fun b hb _ => setBlock_other _ _ (fun e => hm (e ▸ hb))) (by rw [setBlock_size]; exact Nat.le_refl _)⟩

/-- clear. -/
theorem MapIs.clear {R : Nat → Prop} {w : World} {m : Nat} {ca : List (Option (List UInt8))} (h : MapIs R w m ca) (ty : TypeId) :
    ∃ o, (Builtin.clear_ #[62] ty #[.map (some m)]).run Tryz.prog w = .ok (.tuple #[]) (setBlock w m o) ∧ ∀ R' n, MapIs R' (setBlock w m o) m (List.replicate n none) := by
  obtain ⟨es, clock, hb, hE⟩ := h
  have hu := Tryz.underlying62
  refine ⟨.map #[] clock, ?_, fun R' n => ⟨#[], clock, setBlock_same hb, stamped_empty _, ?_, ?_, ?_⟩⟩
  · simp [Builtin.clear_, run_underlying hu, MapKept.run_getObj_map hb, MapKept.run_setObj_map _ hb, Result.andThen, setBlock]
  · simp [List.countP_replicate]
  · intro e he; simp at he
  · intro i x hx
    rw [List.getElem?_replicate] at hx; split at hx <;> simp at hx
theorem MapIs.made (R : Nat → Prop) (w : World) (n : Nat) : MapIs R (w.alloc (.map #[] 0)) w.heap.size (List.replicate n none) :=
  ⟨#[], 0, (MapKept.heap_alloc w _).1, stamped_empty _, by simp [List.countP_replicate], fun e he => by simp at he, fun i x hx => by rw [List.getElem?_replicate] at hx; split at hx <;> simp at hx⟩

theorem wpList_clear {R : Nat → Prop} {w : World} {ops : Array Oper} {rest : List Oper} {o : Oper} {a : Act} {Q : Exit → Act → World → Prop} (hgd : o.guard = none) (x : Operand)
    (ho : o.op = .call { callee := .builtin .clear, args := #[x], argTypes := #[62] }) {m : Nat} {ca : List (Option (List UInt8))} (hx : a.eval x = .map (some m)) (h : MapIs R w m ca)
    (hK : ∀ o', (∀ R' n, MapIs R' (setBlock w m o') m (List.replicate n none)) → wpList Tryz.prog ops Q rest (a.put o.dst (.tuple #[])) (setBlock w m o')) : wpList Tryz.prog ops Q (o :: rest) a w := by
  refine wpList_plain hgd fun K hK' => ?_
  obtain ⟨o', hrun, hM⟩ := h.clear o.type
  unfold Oper.wp
  simp [execOp, ho, resolve, invoke, builtin, hx, hrun, Result.andThen]
  exact hK' _ _ (hK o' hM)

theorem wpList_mapStore {R : Nat → Prop} {w : World} {ops : Array Oper} {rest : List Oper} {o : Oper} {a : Act} {Q : Exit → Act → World → Prop} (hgd : o.guard = none) (p q r : Operand)
    (ho : o.op = Op.mapUpdate 62 p q r) {m : Nat} {ca : List (Option (List UInt8))} (hp : a.eval p = .map (some m)) (h : MapIs R w m ca) (i : Nat) (hi : i < ca.length) (z : Int) (hz : z = (i : Int)) (hq : a.eval q = .int .i64 z)
    (x : List UInt8) (ad : Addr) (n c : Nat) (hn : n = x.length) (hr : a.eval r = .slice (some ad) n c) (hs : SlB w (some ad) n c x) (hR : R ad.block) (hx : x ≠ []) (hm : ¬ R m)
    (hK : ∀ o', MapIs R (setBlock w m o') m (ca.set i (some x)) → wpList Tryz.prog ops Q rest (a.put o.dst undef) (setBlock w m o')) : wpList Tryz.prog ops Q (o :: rest) a w := by
  subst hn; subst hz
  refine wpList_plain hgd fun K hK' => ?_
  obtain ⟨o', hrun, hM⟩ := h.update i hi x ad c hs hR hx hm
  unfold Oper.wp
  simp [execOp, ho, hp, hq, hr, hrun, Result.andThen]
  exact hK' _ _ (hK o' hM)

/-! ### range -/
/-- A loop over the cache: done says which sectors have come; cnt how many are still to come. -/
def MRange (R : Nat → Prop) (w : World) (m r : Nat) (ca : List (Option (List UInt8))) (done : Nat → Bool) (cnt : Nat) : Prop :=
  ∃ es clock since seen c0, w.heap[m]? = some (.map es clock) ∧ EsIs R w ca es clock ∧ w.heap[r]? = some (.mapIter (some m) since seen c0) ∧ (∀ x ∈ es.toList, x.born < since) ∧ (leftOf es seen).size = cnt ∧ since ≤ c0 ∧ since ≤ clock ∧
    ∀ e ∈ es.toList, ∀ i : Nat, e.key = .int .i64 (i : Int) → done i = seen.contains e.born

theorem MRange.map {R : Nat → Prop} {w : World} {m r : Nat} {ca : List (Option (List UInt8))} {done : Nat → Bool} {cnt : Nat} (h : MRange R w m r ca done cnt) : MapIs R w m ca := by
  obtain ⟨es, clock, _, _, _, hb, hE, _⟩ := h; exact ⟨es, clock, hb, hE⟩
theorem MRange.ne {R : Nat → Prop} {w : World} {m r : Nat} {ca : List (Option (List UInt8))} {done : Nat → Bool} {cnt : Nat} (h : MRange R w m r ca done cnt) : r ≠ m := by
  obtain ⟨es, clock, since, seen, c0, hb, _, hr, _⟩ := h
  intro e; rw [e, hb] at hr; cases hr
theorem MRange.lt {R : Nat → Prop} {w : World} {m r : Nat} {ca : List (Option (List UInt8))} {done : Nat → Bool} {cnt : Nat} (h : MRange R w m r ca done cnt) : r < w.heap.size := by
  obtain ⟨es, clock, since, seen, c0, hb, _, hr, _⟩ := h; exact heap_lt hr
theorem MRange.stay {R : Nat → Prop} {w w' : World} {m r : Nat} {ca : List (Option (List UInt8))} {done : Nat → Bool} {cnt : Nat} (h : MRange R w m r ca done cnt) (k : ∀ b, R b → b < w.heap.size → w'.heap[b]? = w.heap[b]?) (hm : w'.heap[m]? = w.heap[m]?) (hr : w'.heap[r]? = w.heap[r]?) (hz : w.heap.size ≤ w'.heap.size) : MRange R w' m r ca done cnt := by
  obtain ⟨es, clock, since, seen, c0, hb, hE, h2, rest⟩ := h
  exact ⟨es, clock, since, seen, c0, hm.trans hb, hE.stay k hz, hr.trans h2, rest⟩
theorem MRange.left_eq {R : Nat → Prop} {w : World} {m r : Nat} {ca : List (Option (List UInt8))} {done : Nat → Bool} {cnt : Nat} (h : MRange R w m r ca done cnt) : w.rangeLeft m r = cnt := by
  obtain ⟨es, clock, since, seen, c0, hb, _, hr, _, hc, _⟩ := h
  simp only [World.rangeLeft, hb, hr]
  exact hc

theorem wpList_range_cache {R : Nat → Prop} {w : World} {ops : Array Oper} {rest : List Oper} {o : Oper} {a : Act} {Q : Exit → Act → World → Prop} (hgd : o.guard = none) (p : Operand)
    (ho : o.op = Op.range 62 p) {m : Nat} {ca : List (Option (List UInt8))} (hp : a.eval p = .map (some m)) (h : MapIs R w m ca) (hR : ∀ b, R b → b < w.heap.size)
    (hK : ∀ o' cnt, MRange R (w.alloc o') m w.heap.size ca (fun _ => false) cnt → wpList Tryz.prog ops Q rest (a.put o.dst (.pointer (some ⟨w.heap.size, 0, none⟩))) (w.alloc o')) : wpList Tryz.prog ops Q (o :: rest) a w := by
  have hlt := h.lt
  obtain ⟨es, clock, hb, hE⟩ := h
  have hrun := run_range_map (P := Tryz.prog) w _ _ _ m es clock Tryz.underlying62 hb
  have hM : MRange R (w.alloc (.mapIter (some m) clock #[] clock)) m w.heap.size ca (fun _ => false) (leftOf es #[]).size :=
    ⟨es, clock, clock, #[], clock, ((MapKept.heap_alloc w _).2 m hlt).trans hb, hE.stay (fun b hb' _ => (MapKept.heap_alloc w _).2 b (hR b hb')) (by simp), (MapKept.heap_alloc w _).1, hE.stamped.1, rfl, Nat.le_refl _, Nat.le_refl _, fun e _ i _ => by simp⟩
  refine wpList_plain hgd fun K hK' => ?_
  unfold Oper.wp
  simp [execOp, ho, hp, hrun, Result.andThen]
  exact hK' _ _ (hK _ _ hM)

/-- The step of such a loop. -/
theorem wpList_next_cache {R : Nat → Prop} {w : World} {ops : Array Oper} {rest : List Oper} {o : Oper} {a : Act} {Q : Exit → Act → World → Prop} (hgd : o.guard = none) (p : Operand)
    (ho : o.op = Op.next p false) {m r : Nat} {ca : List (Option (List UInt8))} {done : Nat → Bool} {cnt : Nat} (hp : a.eval p = .pointer (some ⟨r, 0, none⟩)) (h : MRange R w m r ca done cnt) (hR : ∀ b, R b → b ≠ r)
    (hDone : (∀ (i : Nat) (x : List UInt8), ca[i]? = some (some x) → done i = true) → wpList Tryz.prog ops Q rest (a.put o.dst (.tuple #[.bool false])) w)
    (hMore : ∀ (i : Nat) (x : List UInt8) (b : Addr) (c : Nat) (w1 : World) (o' : Obj) (cnt' : Nat), ca[i]? = some (some x) → i < ca.length → done i = false → (w1 = w ∨ w1 = w.drew) → SlB (setBlock w1 r o') (some b) x.length c x → R b.block →
      MRange R (setBlock w1 r o') m r ca (fun k => done k || k == i) cnt' → cnt' < cnt → (Instr.entry (.pointer (some ⟨r, 0, none⟩))).run Tryz.prog (setBlock w1 r o') = .ok (.tuple #[.int .i64 (i : Int), .slice (some b) x.length c]) (setBlock w1 r o') →
      wpList Tryz.prog ops Q rest (a.put o.dst (.tuple #[.bool true, .int .i64 (i : Int), .slice (some b) x.length c])) (setBlock w1 r o')) : wpList Tryz.prog ops Q (o :: rest) a w := by
  have hne := h.ne
  obtain ⟨es, clock, since, seen, c0, hb, hE, hr, hold, hcnt, hsc, hsk, hdn⟩ := h
  refine wpList_plain hgd fun K hK' => ?_
  unfold Oper.wp
  have hst := (MapKept.stamped_iff es clock).1 hE.stamped
  rcases run_next_at (P := Tryz.prog) w o.type r m since c0 seen es clock hr hb hold hsc with ⟨h0, hrun⟩ | ⟨e, he, w1, hal, hrun⟩
  · simp [execOp, ho, hp, hrun, Result.andThen]
    refine hK' _ _ (hDone fun i x hx => ?_)
    obtain ⟨e, he, hek⟩ := hE.all i x hx
    rw [hdn e he i hek]
    exact all_seen es seen h0 e he
  · have hem : e ∈ es.toList ∧ seen.contains e.born = false := by
      unfold leftOf at he
      simp at he
      exact ⟨by simpa using he.1, by simpa using he.2⟩
    obtain ⟨i, x, b, c, q1, q2, q3, q4, q5, q6⟩ := hE.mem e hem.1
    have hr1 : w1.heap[r]? = some (.mapIter (some m) since seen c0) := by rcases hal with rfl | rfl <;> exact hr
    have hb1 : w1.heap[m]? = some (.map es clock) := by rcases hal with rfl | rfl <;> exact hb
    have hz1 : w.heap.size ≤ w1.heap.size := by rcases hal with rfl | rfl <;> exact Nat.le_refl _
    have hkeep : ∀ k, R k → k < w.heap.size → (setBlock w1 r (.mapIter (some m) since (seen.push e.born) clock)).heap[k]? = w.heap[k]? := fun k hk _ => (setBlock_other _ _ (hR k hk)).trans (by rcases hal with rfl | rfl <;> rfl)
    have hsz : w.heap.size ≤ (setBlock w1 r (.mapIter (some m) since (seen.push e.born) clock)).heap.size := by rw [setBlock_size]; exact hz1
    have hb2 : (setBlock w1 r (.mapIter (some m) since (seen.push e.born) clock)).heap[m]? = some (.map es clock) := (setBlock_other _ _ (Ne.symm hne)).trans hb1
    have hen := run_entry_at (P := Tryz.prog) (setBlock w1 r (.mapIter (some m) since (seen.push e.born) clock)) r m since seen es clock e (setBlock_same hr1) hb2 hem.1 hst.2.1
    rw [q2, q3] at hen hrun
    simp [execOp, ho, hp, hrun, Result.andThen]
    refine hK' _ _ (hMore i x b c w1 _ (leftOf es (seen.push e.born)).size q1 (List.getElem?_eq_some_iff.1 q1).1 ?_ hal (q4.stay (fun y hy _ => by cases hy; exact hkeep _ q5 (q4.blt q6)) hsz) q5 ?_ ?_ hen)
    · rw [hdn e hem.1 i q2]; exact hem.2
    · refine ⟨es, clock, since, seen.push e.born, clock, hb2, hE.stay hkeep hsz, setBlock_same hr1, hold, rfl, hsk, hsk, fun e' he' k hk => ?_⟩
      show (done k || k == i) = _
      rw [hdn e' he' k hk]
      have : (k == i) = (e'.born == e.born) := by
        by_cases hbe : e'.born = e.born
        · have := born_inj hst.2.1 he' hem.1 hbe
          subst this
          rw [q2] at hk; injection hk with _ hk
          simp; omega
        · have h1 : (e'.born == e.born) = false := by simp [hbe]
          rw [h1]
          apply beq_eq_false_iff_ne.2
          rintro rfl
          exact hbe (congrArg MapEntry.born (entry_eq_of_key hst.2.2 he' hem.1 (by rw [hk, q2])))
      rw [this, contains_push]
    · rw [← hcnt]; exact left_shrinks es seen e he

end Go.Proofs.YtabeelcidlhniaaGreat
