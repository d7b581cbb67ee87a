/-
  Texts in one: Base, WirePlain, Keep.
-/
import Derived.Test.YtjfflnnepndlkaaDoorRows
import Derived.WalkKit
import Derived.WalkLawsBesides
import Derived.WalkSpells
import Derived.Outline
import Derived.Below
import Derived.Lib.Hide
import Derived.Laws.BitsAllLaws
import Derived.Laws.Rows
import Derived.Laws.Tables
import Derived.DeepKeys
import Derived.Laws.AppendOwnNone
import Derived.Laws.BytesArg
import Derived.Laws.CopyOwn
import Derived.Lib.SlBytesConst
/-
  General facts for the walks: what a slice of bytes reads as; how it is kept when the world grows. They hold for every world.
-/
namespace Go.Proofs.YtjfflnnepndlkaaDoor
open Go.RowKit

@[go_sem] theorem u32_signed : IntKind.u32.signed = false := rfl
@[go_sem] theorem u32_max : IntKind.u32.max = 4294967295 := rfl

/-- The slice reads as the bytes l. -/
def SlB (w : World) (a : Option Addr) (n c : Nat) (l : List UInt8) : Prop :=
  l.length = n ∧ n ≤ c ∧ c ≤ maxLen ∧ (a = none → l = [] ∧ c = 0) ∧
    ∀ x, a = some x → ∀ i (h : i < l.length), x.spot = none ∧ x.block < w.heap.size ∧ w.cell? ⟨x.block, x.off + i, none⟩ = some (.int .u8 (l[i].toNat : Int))

theorem SlB.len {w : World} {a : Option Addr} {n c : Nat} {l : List UInt8} (h : SlB w a n c l) : l.length = n := h.1
theorem SlB.le {w : World} {a : Option Addr} {n c : Nat} {l : List UInt8} (h : SlB w a n c l) : n ≤ 9223372036854775807 := by
  have := h.2.1; have := h.2.2.1; unfold maxLen at *; omega

theorem SlB.at {w : World} {a : Option Addr} {n c : Nat} {l : List UInt8} (h : SlB w a n c l) {k : Nat} (hk : k < n) :
    ∃ b o, a = some ⟨b, o, none⟩ ∧ b < w.heap.size ∧ k < l.length ∧ w.cell? ⟨b, o + k, none⟩ = some (.int .u8 ((l[k]?.getD 0).toNat : Int)) := by
  obtain ⟨hl, hn, hc, h0, h1⟩ := h
  cases a with
  | none => have := (h0 rfl).1; subst this; simp at hl; omega
  | some x =>
    obtain ⟨b, o, sp⟩ := x
    have hk' : k < l.length := by omega
    obtain ⟨hs, hb, hi⟩ := h1 _ rfl k hk'
    simp only at hs; subst hs
    refine ⟨b, o, rfl, hb, hk', ?_⟩
    rw [List.getElem?_eq_getElem hk']
    exact hi

theorem SlB.ext {w w' : World} {a : Option Addr} {n c : Nat} {l : List UInt8} (h : SlB w a n c l) (e : Below w.heap.size w w') : SlB w' a n c l := by
  obtain ⟨hl, hn, hc, h0, h1⟩ := h
  refine ⟨hl, hn, hc, h0, fun x hx i hi => ?_⟩
  obtain ⟨hs, hb, hi⟩ := h1 x hx i hi
  exact ⟨hs, Nat.lt_of_lt_of_le hb e.size, (e.cell (p := ⟨x.block, x.off + i, none⟩) hb).trans hi⟩

/-! ### Laws on whole arrays, over any program -/
section
variable {P : Program}

theorem heap_alloc_if (w : World) (o : Obj) (k : Nat) : (w.alloc o).heap[k]? = if k = w.heap.size then some o else w.heap[k]? := by
  show (w.heap.push o)[k]? = _
  rw [Array.getElem?_push]

theorem heap_alloc_lt (w : World) (o : Obj) (k : Nat) (h : k < w.heap.size) : (w.alloc o).heap[k]? = w.heap[k]? := by
  rw [heap_alloc_if, if_neg (by omega)]

theorem heap_lt {w : World} {k : Nat} {o : Obj} (h : w.heap[k]? = some o) : k < w.heap.size := (Array.getElem?_eq_some_iff.1 h).1

theorem heap_alloc_eq (w : World) (o : Obj) (k : Nat) (h : k = w.heap.size) : (w.alloc o).heap[k]? = some o := by
  rw [heap_alloc_if, if_pos h]

/-- An element of an array that is a value. -/
theorem run_index_arr {t e : TypeId} {len : Nat} (hu : P.underlying t = some (.array len e)) (hp : P.plainKey e = true) (hs : (P.info? e).map (·.size) = some 1)
    {cs : Array Value} {k : Nat} (hk : k < len) {v : Value} (hv : cs[k]? = some v) (w : World) : (Instr.index t (.agg cs) (.int .i64 k)).run P w = .ok v w := by
  cases hq : P.info? e with
  | none => simp [hq] at hs
  | some i =>
    have hsz : i.size = 1 := by simpa [hq] using hs
    simp [Instr.index, asIntOf, run_underlying hu, hk, sizeOf, typeInfo, hq, hsz, run_part_plain w hp hv]

/-- A whole array into a block. -/
theorem wp_store_row {o : Oper} {a : Act} {w : World} {K : Act → World → Prop} {Q : Exit → Act → World → Prop} (ty : TypeId) (x y : Operand) (ho : o.op = .store ty x y)
    (g : Nat) (hx : a.eval x = .pointer (some ⟨g, 0, none⟩)) (t : TypeId) (old cs : Array Value) (hy : a.eval y = .agg cs) (hg : w.heap[g]? = some (.cells old t (0, 0)))
    (hi : (P.info? ty).map (·.size) = some cs.size) (hos : old.size = cs.size) (h1 : cs.all (·.oneCell') = true)
    (h : K (a.put o.dst undef) (w.setRow g cs)) : o.wp P a w K Q := by
  unfold Oper.wp execOp
  simp only [ho, hx, hy, Instr.storeAt, Instr.sureAddr, Sem.run_bind, Sem.run_pure, Result.andThen_ok, run_storeVar_row w g t ty old cs hg hi hos h1]
  exact h
theorem wpList_store_row {ops : Array Oper} {rest : List Oper} {o : Oper} {a : Act} {w : World} {Q : Exit → Act → World → Prop} (hgd : o.guard = none) (ty : TypeId) (x y : Operand) (ho : o.op = .store ty x y)
    (g : Nat) (hx : a.eval x = .pointer (some ⟨g, 0, none⟩)) (t : TypeId) (old cs : Array Value) (hy : a.eval y = .agg cs) (hg : w.heap[g]? = some (.cells old t (0, 0)))
    (hi : (P.info? ty).map (·.size) = some cs.size) (hos : old.size = cs.size) (h1 : cs.all (·.oneCell') = true)
    (h : wpList P ops Q rest (a.put o.dst undef) (w.setRow g cs)) : wpList P ops Q (o :: rest) a w :=
  wpList_plain hgd fun _ hK => wp_store_row ty x y ho g hx t old cs hy hg hi hos h1 (hK _ _ h)

theorem below_row {B g : Nat} {w0 w : World} (hb : Below B w0 w) (hBg : B ≤ g) (cs : Array Value) : Below B w0 (w.setRow g cs) :=
  hb.trans ⟨rfl, rfl, rfl, by simp, fun k hk => setRow_other w g k cs (by omega)⟩
end

/-! ### Slices of bytes that the call itself made -/
/-- The cell of a byte. -/
def bv (b : UInt8) : Value := .int .u8 (b.toNat : Int)

/-- The slice value v is the call's own, in a block from base on, and holds the bytes l. -/
def OwnB (base : Nat) (w : World) (v : Value) (l : List UInt8) : Prop := w.ownsRow base 5 1 v l.length (l.map bv)

theorem OwnB.sl {base : Nat} {w : World} {v : Value} {l : List UInt8} (h : OwnB base w v l) :
    ∃ a c, v = .slice a l.length c ∧ SlB w a l.length c l ∧ ∀ x, a = some x → x = ⟨x.block, 0, none⟩ ∧ base ≤ x.block ∧ ∀ i, w.frozen? ⟨x.block, i, none⟩ = false := by
  rcases id h.2 with ⟨hv, hn⟩ | ⟨g, cap, cur, hv, hg, hc, hnc, hcm, hcs, htake⟩
  · have hl : l = [] := List.eq_nil_of_length_eq_zero hn
    subst hl
    exact ⟨none, 0, hv, ⟨rfl, Nat.le_refl _, by unfold maxLen; omega, fun _ => ⟨rfl, rfl⟩, fun x hx => by cases hx⟩, fun x hx => by cases hx⟩
  · refine ⟨some ⟨g, 0, none⟩, cap, hv, ⟨rfl, hnc, hcm, (fun h => by cases h), fun x hx i hi => ?_⟩, fun x hx => ?_⟩
    · cases hx
      refine ⟨rfl, (Array.getElem?_eq_some_iff.1 hc).1, ?_⟩
      have := World.ownsRow.cellAt (g := g) (cap := cap) (by rw [← hv]; exact h) i (by simpa using hi)
      simp only [Nat.zero_add]
      rw [this]; simp [bv, hi]
    · cases hx
      exact ⟨rfl, hg, fun i => frozen_of_row _ _ _ _ _ hc⟩

theorem OwnB.lt {base : Nat} {w : World} {v : Value} {l : List UInt8} (h : OwnB base w v l) : ∀ k, v.ownBlock = some k → base ≤ k ∧ k < w.heap.size := World.ownsRow.lt h

theorem OwnB.ext {base : Nat} {w w' : World} {v : Value} {l : List UInt8} (h : OwnB base w v l) (e : Below w.heap.size w w') : OwnB base w' v l := by
  refine ⟨h.1, ?_⟩
  rcases h.2 with hn | ⟨g, cap, cur, rfl, hb, hgg, rest⟩
  · exact .inl hn
  · exact .inr ⟨g, cap, cur, rfl, hb, (e.block g (Array.getElem?_eq_some_iff.1 hgg).1).trans hgg, rest⟩

theorem OwnB.alloc {base : Nat} {w : World} {v : Value} {l : List UInt8} (h : OwnB base w v l) (o : Obj) : OwnB base (w.alloc o) v l := World.ownsRow.alloc h o

theorem OwnB.mono {b b' : Nat} {w : World} {v : Value} {l : List UInt8} (h : OwnB b w v l) (hb : b' ≤ b) : OwnB b' w v l := by
  refine ⟨h.1, ?_⟩
  rcases h.2 with hn | ⟨g, cap, cur, rfl, hbg, rest⟩
  · exact .inl hn
  · exact .inr ⟨g, cap, cur, rfl, Nat.le_trans hb hbg, rest⟩

theorem OwnB.nil (base : Nat) (w : World) : OwnB base w (.slice none 0 0) [] := World.ownsRow_nil w base _ _
theorem OwnB.empty {base : Nat} (w : World) (hb : base ≤ w.heap.size) : OwnB base (w.alloc (.cells #[] 5)) (.slice (some ⟨w.heap.size, 0, none⟩) 0 0) [] :=
  World.ownsRow_made w #[] 0 hb (by unfold maxLen; omega) rfl

theorem OwnB.set {base : Nat} {w : World} {g n c : Nat} {l : List UInt8} (h : OwnB base w (.slice (some ⟨g, 0, none⟩) n c) l) (j : Nat) (b : UInt8) :
    OwnB base (w.setCell ⟨g, j, none⟩ (bv b)) (.slice (some ⟨g, 0, none⟩) n c) (l.set j b) := by
  have hn : n = l.length := by
    obtain ⟨a, c', e, -, -⟩ := h.sl
    injection e
  subst hn
  have := (World.ownsRow.stored h j (bv b)).1
  unfold OwnB
  rw [List.length_set, List.map_set]; exact this

theorem OwnB.row {base : Nat} {w : World} {g n c : Nat} {l : List UInt8} (h : OwnB base w (.slice (some ⟨g, 0, none⟩) n c) l) (k : Nat) (hk : k < l.length) :
    w.cell? ⟨g, k, none⟩ = some (bv (l[k]?.getD 0)) := by
  have hn : n = l.length := by
    obtain ⟨a, c', e, -, -⟩ := h.sl
    injection e
  subst hn
  rw [World.ownsRow.cellAt h k (by simpa using hk)]; simp [hk]
theorem OwnB.free {base : Nat} {w : World} {g n c : Nat} {l : List UInt8} (h : OwnB base w (.slice (some ⟨g, 0, none⟩) n c) l) (k : Nat) : w.frozen? ⟨g, k, none⟩ = false := by
  have hn : n = l.length := by
    obtain ⟨a, c', e, -, -⟩ := h.sl
    injection e
  subst hn
  exact World.ownsRow.frozenAt h k

theorem SlB.one (w : World) (b : UInt8) (t : TypeId) : SlB (w.alloc (.cells #[bv b] t)) (some ⟨w.heap.size, 0, none⟩) 1 1 [b] := by
  refine ⟨rfl, Nat.le_refl _, by unfold maxLen; omega, (fun h => by cases h), fun x hx i hi => ?_⟩
  cases hx
  refine ⟨rfl, by simp, ?_⟩
  obtain rfl : i = 0 := by simpa using hi
  rw [World.cell?_alloc_at _ _ _ _ rfl]; rfl

/-- A slice that was just built of the bytes l. -/
theorem SlB.built (w : World) (A : Array Value) (l : List UInt8) (n k : Nat) (t : TypeId) (fr : Nat × Nat) (hA : A = (l.map bv).toArray) (hn : l.length = n) (hm : n ≤ maxLen) (hk : k = w.heap.size) :
    SlB (w.alloc (.cells A t fr)) (some ⟨k, 0, none⟩) n n l := by
  subst hA; subst hk
  refine ⟨hn, Nat.le_refl _, hm, (fun h => by cases h), fun x hx i hi => ?_⟩
  cases hx
  refine ⟨rfl, by simp, ?_⟩
  rw [cell_of_row _ _ _ _ _ _ (heap_alloc_eq w _ _ rfl)]; simp [bv, hi]

theorem OwnB.built {base : Nat} (w : World) (l : List UInt8) (hb : base ≤ w.heap.size) (hm : l.length ≤ maxLen) :
    OwnB base (w.alloc (.cells (l.map bv).toArray 5)) (.slice (some ⟨w.heap.size, 0, none⟩) l.length l.length) l := by
  refine ⟨by simp, .inr ⟨w.heap.size, l.length, (l.map bv).toArray, rfl, hb, heap_alloc_eq _ _ _ rfl, Nat.le_refl _, hm, by simp, by simp [List.take_of_length_le]⟩⟩

theorem info5 : (Tryd.prog.info? 5).map (fun i => (i.zero, i.size, i.bytes)) = some (some (.int .u8 0), 1, 1) := by kernel_rfl

/-- append of a slice of bytes, whatever it is, onto a slice that is nil or the call's own. -/
theorem wpList_append_bytes {w : World} {ops : Array Oper} {rest : List Oper} {o : Oper} {a : Act} {Q : Exit → Act → World → Prop} (hgd : o.guard = none) (s x : Operand)
    (ho : o.op = .call { callee := .builtin .append, args := #[s, x], argTypes := #[39, 39] })
    (base : Nat) (v : Value) (l : List UInt8) (hs : a.eval s = v) (hown : OwnB base w v l) (b : Option Addr) (m c : Nat) (l2 : List UInt8) (hx : a.eval x = .slice b m c) (hsl : SlB w b m c l2)
    (hlen : l.length + m ≤ 140737488355328) (hbase : base ≤ w.heap.size)
    (h : ∀ v' w', OwnB base w' v' (l ++ l2) → w.grownBy w' v.ownBlock → (v' = .slice none 0 0 ↔ v = .slice none 0 0 ∧ l2 = []) → wpList Tryd.prog ops Q rest (a.put o.dst v') w') : wpList Tryd.prog ops Q (o :: rest) a w := by
  obtain ⟨i0, hi, hz0, hz1, hz2⟩ := info_parts info5
  cases b with
  | none =>
    obtain ⟨rfl, rfl⟩ := hsl.2.2.2.1 rfl
    obtain rfl : m = 0 := hsl.1.symm
    refine wpList_append_own_none hgd s x 39 ho base 5 i0 1 Tryd.underlying39 hi v l.length _ hs hown hx ?_
    exact h v w (by simpa using hown) ⟨rfl, rfl, rfl, Nat.le_refl _, fun _ _ _ => rfl⟩ (by simp)
  | some ad =>
    have hl2 := hsl.len
    refine wpList_append_own w hgd s x 39 ho base 5 i0 (.int .u8 0) 1 1 Tryd.underlying39 hi hz0 hz1 hz2 rfl (by decide) v l.length _ hs hown ad m c (l2.map bv) hx (by simp [hl2]) ?_ ?_ ?_ ?_ hbase ?_
    · intro j u hj
      have hjl : j < l2.length := by
        have := (List.getElem?_eq_some_iff.1 hj).1; simpa using this
      obtain ⟨hsp, hb, this⟩ := hsl.2.2.2.2 ad rfl j hjl
      have hadd : ad.add j = ⟨ad.block, ad.off + j, none⟩ := by
        obtain ⟨b, o, sp⟩ := ad; simp only at hsp; subst hsp; unfold Addr.add; split <;> simp_all
      rw [hadd, this]; rw [← hj]; simp [bv, hjl]
    · intro u hu
      obtain ⟨b, _, rfl⟩ := List.mem_map.1 hu; rfl
    · unfold maxLen; omega
    · omega
    · intro v' w' h1 h2 h3
      refine h v' w' ?_ h2 ?_
      · unfold OwnB; rw [List.length_append, List.map_append, hl2]; exact h1
      · rw [h3]; constructor
        · rintro ⟨h4, h5⟩; exact ⟨h4, List.eq_nil_of_length_eq_zero (hl2.trans h5)⟩
        · rintro ⟨h4, h5⟩; subst h5; exact ⟨h4, hl2.symm⟩

/-- A conversion of a slice that was just built. -/
@[go_sem] theorem run_conv_const (w : World) (k : Nat) (C : Array Value) (n c : Nat) (hk : k = w.heap.size) :
    (convert 39 39 (.slice (some ⟨k, 0, none⟩) n c)).run Tryd.prog (w.alloc (.cells C 5)) = .ok (.slice (some ⟨k, 0, none⟩) n c) (w.alloc (.cells C 5 (C.size, C.size + 1))) := by
  subst hk
  exact Go.Lib.run_convert_bytes_const w _ _ C n c Tryd.underlying39 Tryd.underlying5

/-- A string of the bytes l. -/
def str (l : List UInt8) : ByteArray := ⟨l.toArray⟩
@[simp] theorem str_toList (l : List UInt8) : (str l).toList = l := ByteArray.toList_mk l

theorem run_conv_bytes {w : World} {a : Option Addr} {n c : Nat} {l : List UInt8} (h : SlB w a n c l) :
    (convert 39 9 (.slice a n c)).run Tryd.prog w = .ok (.string (str l)) w := by
  cases a with
  | none =>
    obtain ⟨rfl, rfl⟩ := h.2.2.2.1 rfl
    exact run_convert_bytes_nil w _ _ Tryd.underlying39 Tryd.underlying5 _ _ _ Tryd.underlying9
  | some x =>
    by_cases hl0 : l = []
    · subst hl0
      obtain rfl : n = 0 := h.1.symm
      rw [run_convert_bytes_string w _ _ _ _ 0 c Tryd.underlying39 Tryd.underlying5 Tryd.underlying9, run_bytesToString w x 0 c [] (by simp [loadCells, loadCellsFrom])]
      rfl
    have h0l : 0 < l.length := List.length_pos_iff.2 hl0
    obtain ⟨b, o, sp⟩ := x
    have hs := (h.2.2.2.2 _ rfl 0 h0l).1
    have hi : ∀ i (h : i < l.length), _ := fun i hil => (h.2.2.2.2 _ rfl i hil).2.2
    simp only at hs; subst hs
    rw [run_convert_bytes_arg w _ _ Tryd.underlying39 Tryd.underlying5 b o n c (l.map fun b => (b.toNat : Int)) (by simp [h.len]) (fun i hin => ?_) _ Tryd.underlying9]
    · congr 2
      simp only [strOfNums, str, List.map_map]
      congr 1
      rw [show ((fun n : Int => UInt8.ofNat n.toNat) ∘ fun b : UInt8 => (b.toNat : Int)) = id from funext fun b => by simp]
      simp
    · have hil : i < l.length := by rw [h.len]; exact hin
      rw [hi i hil]; simp [hil]

/-- What the form hands over of a slice of bytes. -/
theorem SlB.of_row {w : World} {x : Addr} {n c : Nat} {zs : List Int} (hl : n ≤ c) (hm : c ≤ maxLen) (hz : zs.length = c) (hcell : ∀ i, i < zs.length → w.cell? (x.add i) = some (.int .u8 (zs.getD i 0)))
    (hw : ∀ z ∈ zs, (Lit.int .u8 z).wf = true) : SlB w (some x) n c ((zs.take n).map fun z => UInt8.ofNat z.toNat) := by
  refine ⟨by simp; omega, hl, hm, (fun h => by cases h), fun y hy i hi => ?_⟩
  cases hy
  simp at hi
  have hc := hcell i (by omega)
  obtain ⟨b, o, sp⟩ := x
  have hsp : sp = none := by
    have := World.cell?_spot (hcell 0 (by omega))
    simpa [Addr.add] using this
  subst hsp
  have hadd : (⟨b, o, none⟩ : Addr).add i = ⟨b, o + i, none⟩ := by unfold Addr.add; split <;> simp_all
  rw [hadd] at hc
  refine ⟨rfl, World.block_lt_of_cell? w ⟨b, o + i, none⟩ hc, ?_⟩
  rw [hc]
  have hiz : i < zs.length := by omega
  have hwi := hw zs[i] (List.getElem_mem hiz)
  simp [Lit.wf, IntKind.min, IntKind.max, IntKind.signed, IntKind.bits] at hwi
  simp only [List.getD_eq_getElem?_getD, List.getElem?_eq_getElem hiz, Option.getD_some, List.getElem_map, List.getElem_take]
  congr 2
  have : (UInt8.ofNat zs[i].toNat).toNat = zs[i].toNat := by simp; omega
  rw [this]; omega

theorem SlB.take {w : World} {a : Option Addr} {n c : Nat} {l : List UInt8} (h : SlB w a n c l) {k : Nat} (hk : k ≤ n) : SlB w a k c (l.take k) := by
  obtain ⟨hl, hn, hc, h0, h1⟩ := h
  refine ⟨by simp; omega, by omega, hc, fun e => by simp [h0 e], fun x hx i hi => ?_⟩
  have hi' : i < l.length := by simp at hi; omega
  obtain ⟨hs, hb, hcl⟩ := h1 x hx i hi'
  exact ⟨hs, hb, by rw [hcl]; simp⟩
theorem SlB.drop {w : World} {b o n c : Nat} {l : List UInt8} (h : SlB w (some ⟨b, o, none⟩) n c l) {k : Nat} (hk : k ≤ n) : SlB w (some ⟨b, o + k, none⟩) (n - k) (c - k) (l.drop k) := by
  obtain ⟨hl, hn, hc, h0, h1⟩ := h
  refine ⟨by simp; omega, by omega, by omega, (fun e => by cases e), fun x hx i hi => ?_⟩
  cases hx
  have hi' : k + i < l.length := by simp at hi; omega
  obtain ⟨hs, hb, hcl⟩ := h1 _ rfl (k + i) hi'
  refine ⟨rfl, hb, ?_⟩
  simp only [Nat.add_assoc] at hcl ⊢
  rw [hcl]; simp

/-- All that w had is there in w'. -/
def Ext (w w' : World) : Prop := Below w.heap.size w w'
theorem Ext.refl (w : World) : Ext w w := Below.refl _ _
theorem Ext.step {w w1 w2 : World} (h2 : Below w1.heap.size w1 w2) (h : Ext w w1) : Ext w w2 := Below.trans h (h2.mono (Below.size h))
theorem Ext.drew {w w1 : World} (h : Ext w w1) : Ext w w1.drew := Below.drew h
theorem Ext.alloc {w w1 : World} (h : Ext w w1) (o : Obj) : Ext w (w1.alloc o) := Below.alloc h (Below.size h) o
theorem SlB.ext' {w w' : World} {a : Option Addr} {n c : Nat} {l : List UInt8} (h : SlB w a n c l) (e : Ext w w') : SlB w' a n c l := h.ext e

/-! ### A block that holds bytes -/
/-- Block g is a row of the bytes l. -/
def RowIs (w : World) (g : Nat) (t : TypeId) (l : List UInt8) : Prop := w.heap[g]? = some (.cells (l.map bv).toArray t (0, 0))

theorem RowIs.slb {w : World} {g : Nat} {t : TypeId} {l : List UInt8} (h : RowIs w g t l) (o n c : Nat) (hn : o + n ≤ l.length) (hc : n ≤ c) (hm : c ≤ maxLen) : SlB w (some ⟨g, o, none⟩) n c ((l.drop o).take n) := by
  refine ⟨by simp; omega, hc, hm, (fun h => by cases h), fun x hx i hi => ?_⟩
  cases hx
  simp at hi
  refine ⟨rfl, (Array.getElem?_eq_some_iff.1 h).1, ?_⟩
  rw [cell_of_row _ _ _ _ _ _ h]
  simp [bv, show o + i < l.length by omega]
theorem RowIs.cell {w : World} {g : Nat} {t : TypeId} {l : List UInt8} (h : RowIs w g t l) (k : Nat) (hk : k < l.length) : w.cell? ⟨g, k, none⟩ = some (bv (l[k]?.getD 0)) := by
  rw [cell_of_row _ _ _ _ _ _ h]; simp [hk]
theorem RowIs.free {w : World} {g : Nat} {t : TypeId} {l : List UInt8} (h : RowIs w g t l) (k : Nat) : w.frozen? ⟨g, k, none⟩ = false := frozen_of_row _ _ _ _ _ h
theorem RowIs.set {w : World} {g : Nat} {t : TypeId} {l : List UInt8} (h : RowIs w g t l) (k : Nat) (b : UInt8) : RowIs (w.setCell ⟨g, k, none⟩ (bv b)) g t (l.set k b) := by
  unfold RowIs
  rw [heap_setCell_same _ _ _ _ _ _ h, List.map_set]; simp
theorem RowIs.keep {w w' : World} {g : Nat} {t : TypeId} {l : List UInt8} (h : RowIs w g t l) (hb : w'.heap[g]? = w.heap[g]?) : RowIs w' g t l := hb.trans h

/-- w' is w but for block g (and new blocks). -/
structure But (g : Nat) (w w' : World) : Prop where
  os : w'.os = w.os
  tape : w'.tape = w.tape
  output : w'.output = w.output
  size : w.heap.size ≤ w'.heap.size
  block : ∀ k, k < w.heap.size → k ≠ g → w'.heap[k]? = w.heap[k]?
theorem But.refl (g : Nat) (w : World) : But g w w := ⟨rfl, rfl, rfl, Nat.le_refl _, fun _ _ _ => rfl⟩
theorem But.trans {g : Nat} {a b c : World} (h : But g a b) (k : But g b c) : But g a c :=
  ⟨k.os.trans h.os, k.tape.trans h.tape, k.output.trans h.output, Nat.le_trans h.size k.size, fun i hi hg => (k.block i (Nat.lt_of_lt_of_le hi h.size) hg).trans (h.block i hi hg)⟩
theorem But.setCell {g : Nat} {a w : World} (h : But g a w) (o : Nat) (v : Value) : But g a (w.setCell ⟨g, o, none⟩ v) :=
  h.trans ⟨rfl, rfl, rfl, by simp, fun k _ hk => heap_setCell_other _ _ _ _ hk⟩
theorem But.drew {g : Nat} {a w : World} (h : But g a w) : But g a w.drew := ⟨h.os, h.tape, h.output, h.size, h.block⟩
theorem But.setRow {g : Nat} {a w : World} (h : But g a w) (cs : Array Value) : But g a (w.setRow g cs) :=
  h.trans ⟨rfl, rfl, rfl, by simp, fun k _ hk => setRow_other w g k cs hk⟩
theorem But.of_ext {g : Nat} {w w' : World} (h : Below w.heap.size w w') : But g w w' := ⟨h.os, h.tape, h.output, h.size, fun k hk _ => h.block k hk⟩
theorem But.below {g B : Nat} {w0 w w' : World} (h0 : Below B w0 w) (h : But g w w') (hg : B ≤ g) (hB : B ≤ w.heap.size) : Below B w0 w' :=
  h0.trans ⟨h.os, h.tape, h.output, h.size, fun k hk => h.block k (by omega) (by omega)⟩
theorem SlB.but {w w' : World} {g : Nat} {x : Addr} {n c : Nat} {l : List UInt8} (h : SlB w (some x) n c l) (e : But g w w') (hx : x.block ≠ g) : SlB w' (some x) n c l := by
  obtain ⟨hl, hn, hc, h0, h1⟩ := h
  refine ⟨hl, hn, hc, h0, fun y hy i hi => ?_⟩
  cases hy
  obtain ⟨hs, hb, hi⟩ := h1 x rfl i hi
  exact ⟨hs, Nat.lt_of_lt_of_le hb e.size, (World.cell?_of_block (a := ⟨x.block, x.off + i, none⟩) (e.block _ hb hx)).trans hi⟩

/-- copy of a string into a row. -/
theorem wpList_copy_str {P : Program} {w : World} {ops : Array Oper} {rest : List Oper} {o : Oper} {a : Act} {Q : Exit → Act → World → Prop} (hgd : o.guard = none) (d s : Operand) (dT sT : TypeId)
    (ho : o.op = .call { callee := .builtin .copy, args := #[d, s], argTypes := #[dT, sT] }) (elem : TypeId) (hu : P.underlying dT = some (.slice elem)) (hsz : (P.info? elem).map (·.size) = some 1)
    (g off dLen dCap : Nat) (x : ByteArray) (hd : a.eval d = .slice (some ⟨g, off, none⟩) dLen dCap) (hs : a.eval s = .string x) (hn : x.size ≤ dLen)
    (t : TypeId) (l : List UInt8) (hr : RowIs w g t l) (hfit : off + x.size ≤ l.length)
    (h : ∀ w', RowIs w' g t (l.take off ++ x.data.toList ++ l.drop (off + x.size)) → But g w w' → wpList P ops Q rest (a.put o.dst (goInt x.size)) w') : wpList P ops Q (o :: rest) a w := by
  refine wpList_plain hgd fun K hK => ?_
  have hst := run_storeCells_at P g off t (x.data.toList.map bv) 0 _ w hr (by simp; exact hfit) (fun v hv => by obtain ⟨b, _, rfl⟩ := List.mem_map.1 hv; rfl)
  unfold Oper.wp
  cases hq : P.info? elem with
  | none => simp [hq] at hsz
  | some i =>
    have hmin : Nat.min x.size dLen = x.size := Nat.min_eq_left hn
    have htk : List.take x.size (List.map (fun b : UInt8 => Value.int .u8 (b.toNat : Int)) x.data.toList) = x.data.toList.map bv := by
      rw [List.take_of_length_le (by simp)]; rfl
    simp [execOp, ho, resolve, invoke, builtin, hd, hs, Builtin.copy_, run_underlying hu, Builtin.lenOf, Builtin.firstCells, sizeOf, typeInfo, hq, hmin, Result.andThen]
    rw [htk, hst]
    refine hK _ _ (h _ ?_ ((But.refl _ _).setRow _))
    unfold RowIs
    rw [setRow_heap w g _ _ t _ hr]
    simp

end Go.Proofs.YtjfflnnepndlkaaDoor

/-
  The wire encodings of numbers and texts as plain functions. No program stands in this text.
-/
namespace Go.Proofs.YtjfflnnepndlkaaDoor.Wire

/-- The encoding of a number. -/
def enc (v : Nat) : List UInt8 := if v < 128 then [UInt8.ofNat v] else UInt8.ofNat (v % 128 + 128) :: enc (v / 128)
termination_by v
decreasing_by omega
theorem enc_last {v : Nat} (h : v < 128) : enc v = [UInt8.ofNat v] := by rw [enc, if_pos h]
theorem enc_step {v : Nat} (h : ¬ v < 128) : enc v = UInt8.ofNat (v % 128 + 128) :: enc (v / 128) := by rw [enc, if_neg h]
/-- The number of bytes of a number. -/
theorem enc_len_bound : ∀ (k v : Nat), v < 128 ^ (k + 1) → 1 ≤ (enc v).length ∧ (enc v).length ≤ k + 1
  | 0, v, h => by rw [enc_last (by omega)]; simp
  | k + 1, v, h => by
    by_cases hv : v < 128
    · rw [enc_last hv]; simp
    · rw [enc_step hv]
      have h2 : v / 128 < 128 ^ (k + 1) := by
        rw [Nat.div_lt_iff_lt_mul (by omega)]; rw [Nat.pow_succ] at h; exact h
      have := enc_len_bound k (v / 128) h2
      simp only [List.length_cons]; omega
theorem enc_len {v : Nat} (h : v < 18446744073709551616) : 1 ≤ (enc v).length ∧ (enc v).length ≤ 10 := enc_len_bound 9 v (by omega)
theorem enc_ne (v : Nat) : enc v ≠ [] := by
  by_cases hv : v < 128
  · rw [enc_last hv]; simp
  · rw [enc_step hv]; simp

def big (x : UInt8) : Bool := decide (128 ≤ x.toNat)
/-- The number that bytes denote, the first one the least. -/
def val : List UInt8 → Nat
  | [] => 0
  | x :: l => x.toNat % 128 + 128 * val l
/-- The number of continued bytes at the beginning. -/
def run (b : List UInt8) : Nat := (b.takeWhile big).length

/-- The number at the beginning of bytes, how many bytes it has, an error. -/
def dec (b : List UInt8) : Nat × Nat × Int :=
  if 10 ≤ run b then (0, 0, 19) else if run b = b.length then (0, 0, 5) else if run b = 9 ∧ 1 < (b.getD 9 0).toNat then (0, 0, 19) else
    if 0 < run b ∧ b.getD (run b) 0 = 0 then (0, 0, 6) else (val (b.take (run b + 1)), run b + 1, 0)

theorem run_le (b : List UInt8) : run b ≤ b.length := (List.takeWhile_sublist big).length_le
theorem run_cons_big {x : UInt8} {b : List UInt8} (h : 128 ≤ x.toNat) : run (x :: b) = run b + 1 := by
  unfold run; rw [List.takeWhile_cons_of_pos (by simpa [big] using h)]; rfl
theorem run_cons_last {x : UInt8} {b : List UInt8} (h : x.toNat < 128) : run (x :: b) = 0 := by
  unfold run; rw [List.takeWhile_cons_of_neg (by simp [big]; omega)]; rfl
theorem run_big : ∀ (b : List UInt8) (k : Nat), k < run b → ∃ h : k < b.length, 128 ≤ (b[k]).toNat
  | [], k, hk => by simp [run] at hk
  | x :: b, k, hk => by
    by_cases h : 128 ≤ x.toNat
    · rw [run_cons_big h] at hk
      cases k with
      | zero => exact ⟨by simp, h⟩
      | succ k =>
        obtain ⟨h1, h2⟩ := run_big b k (by omega)
        exact ⟨by simp; omega, h2⟩
    · rw [run_cons_last (by omega)] at hk; omega
theorem run_stop : ∀ (b : List UInt8) (h : run b < b.length), (b[run b]).toNat < 128
  | [], h => by simp at h
  | x :: b, h => by
    by_cases hx : 128 ≤ x.toNat
    · have e := run_cons_big (b := b) hx
      have h' : run b < b.length := by rw [e] at h; simpa using h
      have := run_stop b h'
      simp only [e, List.getElem_cons_succ]; exact this
    · have e := run_cons_last (b := b) (show x.toNat < 128 by omega)
      simp only [e, List.getElem_cons_zero]; omega
theorem run_eq {b : List UInt8} {k : Nat} (h : ∀ i (hi : i < b.length), i < k → 128 ≤ (b[i]).toNat) (hk : k ≤ b.length) (hs : ∀ h : k < b.length, (b[k]).toNat < 128) : run b = k := by
  rcases Nat.lt_trichotomy (run b) k with h1 | h1 | h1
  · have hl : run b < b.length := by omega
    have := run_stop b hl
    have := h _ hl h1
    omega
  · exact h1
  · obtain ⟨hl, h2⟩ := run_big b k h1
    have := hs hl
    omega
theorem run_ge {b : List UInt8} {k : Nat} (h : ∀ i (hi : i < b.length), i < k → 128 ≤ (b[i]).toNat) (hk : k ≤ b.length) : k ≤ run b := by
  rcases Nat.lt_or_ge (run b) k with h1 | h1
  · have hl : run b < b.length := by omega
    have := run_stop b hl
    have := h _ hl h1
    omega
  · exact h1

theorem val_snoc : ∀ (l : List UInt8) (x : UInt8), val (l ++ [x]) = val l + 128 ^ l.length * (x.toNat % 128)
  | [], x => by simp [val]
  | y :: l, x => by
    have := val_snoc l x
    simp only [List.cons_append, val, this, List.length_cons, Nat.pow_succ]
    rw [Nat.mul_add, Nat.mul_comm (128 ^ l.length) 128, Nat.mul_assoc, Nat.add_assoc]
theorem val_lt : ∀ (l : List UInt8), val l < 128 ^ l.length
  | [] => by simp [val]
  | y :: l => by
    have := val_lt l
    simp only [val, List.length_cons, Nat.pow_succ]
    have h2 : y.toNat % 128 < 128 := Nat.mod_lt _ (by omega)
    omega

theorem ofNat_toNat {n : Nat} (h : n < 256) : (UInt8.ofNat n).toNat = n := by simp; omega

/-- Encodings are read back. -/
theorem run_enc : ∀ (n v : Nat) (t : List UInt8), v ≤ n → run (enc v ++ t) + 1 = (enc v).length
  | 0, v, t, h => by
    rw [enc_last (by omega)]
    simp only [List.cons_append, List.nil_append]
    rw [run_cons_last (by rw [ofNat_toNat (by omega)]; omega)]; rfl
  | n + 1, v, t, h => by
    by_cases hv : v < 128
    · rw [enc_last hv]
      simp only [List.cons_append, List.nil_append]
      rw [run_cons_last (by rw [ofNat_toNat (by omega)]; omega)]; rfl
    · rw [enc_step hv]
      simp only [List.cons_append]
      rw [run_cons_big (by rw [ofNat_toNat (by omega)]; omega), run_enc n (v / 128) t (by omega)]; rfl
theorem val_enc : ∀ (n v : Nat), v ≤ n → val (enc v) = v
  | 0, v, h => by
    rw [enc_last (by omega)]
    simp only [val, ofNat_toNat (show v < 256 by omega)]; omega
  | n + 1, v, h => by
    by_cases hv : v < 128
    · rw [enc_last hv]
      simp only [val, ofNat_toNat (show v < 256 by omega)]; omega
    · rw [enc_step hv]
      simp only [val, ofNat_toNat (show v % 128 + 128 < 256 by omega), val_enc n (v / 128) (by omega)]; omega
theorem last_enc : ∀ (n v : Nat), v ≤ n → 128 ≤ v → ∀ h : (enc v).length - 1 < (enc v).length, ((enc v)[(enc v).length - 1]).toNat ≠ 0
  | 0, v, h, h1 => by omega
  | n + 1, v, h, h1 => by
    intro hl
    have e := enc_step (show ¬ v < 128 by omega)
    have hne := List.length_pos_iff.2 (enc_ne (v / 128))
    have e2 : (enc v)[(enc v).length - 1] = (enc (v / 128))[(enc (v / 128)).length - 1]'(by omega) := by
      simp only [e, List.length_cons]
      rw [List.getElem_cons]
      rw [dif_neg (by omega)]
      congr 1
    rw [e2]
    by_cases h2 : 128 ≤ v / 128
    · exact last_enc n (v / 128) (by omega) h2 _
    · have e3 := enc_last (show v / 128 < 128 by omega)
      simp only [e3, List.length_singleton, Nat.sub_self, List.getElem_cons_zero]
      rw [ofNat_toNat (by omega)]; omega
theorem val_bound {b : List UInt8} (h : b.length ≤ 9) : val b < 9223372036854775808 := by
  have h1 := val_lt b
  have h2 : 128 ^ b.length ≤ 128 ^ 9 := Nat.pow_le_pow_right (by omega) h
  omega

theorem enc_top : ∀ (k v : Nat), v < 2 * 128 ^ k → ∀ h : k < (enc v).length, ((enc v)[k]).toNat ≤ 1
  | 0, v, hv, h => by
    have e := enc_last (show v < 128 by omega)
    simp only [e, List.getElem_cons_zero]
    rw [ofNat_toNat (by omega)]; omega
  | k + 1, v, hv, h => by
    by_cases hs : v < 128
    · rw [enc_last hs] at h; simp at h
    · have e := enc_step hs
      have hl : k < (enc (v / 128)).length := by rw [e] at h; simpa using h
      have := enc_top k (v / 128) (by rw [Nat.div_lt_iff_lt_mul (by omega)]; rw [Nat.pow_succ] at hv; omega) hl
      simp only [e, List.getElem_cons_succ]; exact this

theorem dec_enc {v : Nat} (hv : v < 18446744073709551616) (t : List UInt8) : dec (enc v ++ t) = (v, (enc v).length, 0) := by
  have hr := run_enc v v t (Nat.le_refl _)
  have hl := enc_len hv
  unfold dec
  rw [if_neg (by omega), if_neg (by rw [List.length_append]; omega)]
  have hpos := hl.1
  rw [if_neg, if_neg]
  · rw [hr, List.take_left, val_enc v v (Nat.le_refl _)]
  · rintro ⟨h1, h2⟩
    have hk : (enc v).length - 1 < (enc v).length := by omega
    have h128 : 128 ≤ v := by
      rcases Nat.lt_or_ge v 128 with h | h
      · have e := congrArg List.length (enc_last h); rw [List.length_singleton] at e; omega
      · exact h
    have := last_enc v v (Nat.le_refl _) h128 hk
    rw [show run (enc v ++ t) = (enc v).length - 1 by omega, List.getD_eq_getElem?_getD, List.getElem?_append_left hk, List.getElem?_eq_getElem hk, Option.getD_some] at h2
    rw [h2] at this; exact this rfl
  · rintro ⟨h1, h2⟩
    have hk : 9 < (enc v).length := by omega
    have := enc_top 9 v (by omega) hk
    rw [List.getD_eq_getElem?_getD, List.getElem?_append_left hk, List.getElem?_eq_getElem hk, Option.getD_some] at h2
    omega

theorem enc_val : ∀ (l : List UInt8) (x : UInt8), (∀ y ∈ l, 128 ≤ y.toNat) → x.toNat < 128 → (l = [] ∨ x ≠ 0) → enc (val (l ++ [x])) = l ++ [x] ∧ (x ≠ 0 → 0 < val (l ++ [x]))
  | [], x, _, hx, _ => by
    have e : val ([] ++ [x]) = x.toNat := by simp [val]; omega
    rw [e, enc_last hx]
    refine ⟨by simp, fun h => ?_⟩
    rcases Nat.eq_zero_or_pos x.toNat with h0 | h0
    · exact absurd (UInt8.toNat_inj.1 (by rw [h0]; rfl)) h
    · exact h0
  | y :: l, x, hl, hx, h0 => by
    have hx0 : x ≠ 0 := by
      rcases h0 with h | h
      · cases h
      · exact h
    obtain ⟨h1, h2⟩ := enc_val l x (fun z hz => hl z (List.mem_cons_of_mem _ hz)) hx (.inr hx0)
    have hp := h2 hx0
    have hy := hl y List.mem_cons_self
    have hy2 := y.toNat_lt
    have e : val (y :: l ++ [x]) = y.toNat % 128 + 128 * val (l ++ [x]) := rfl
    have hge : ¬ val (y :: l ++ [x]) < 128 := by rw [e]; omega
    refine ⟨?_, fun _ => by omega⟩
    rw [enc_step hge, e]
    rw [show (y.toNat % 128 + 128 * val (l ++ [x])) / 128 = val (l ++ [x]) by omega, h1]
    rw [show (y.toNat % 128 + 128 * val (l ++ [x])) % 128 + 128 = y.toNat by omega]
    simp

theorem take_run (b : List UInt8) : b.take (run b) = b.takeWhile big := by
  unfold run
  conv => lhs; rw [← List.takeWhile_append_dropWhile (p := big) (l := b)]
  rw [List.take_left']
  rw [List.takeWhile_append_dropWhile]
theorem all_takeWhile : ∀ (b : List UInt8) (y : UInt8), y ∈ b.takeWhile big → big y = true
  | [], y, h => by simp at h
  | x :: b, y, h => by
    by_cases hx : big x = true
    · rw [List.takeWhile_cons_of_pos hx] at h
      rcases List.mem_cons.1 h with e | e
      · rw [e]; exact hx
      · exact all_takeWhile b y e
    · rw [List.takeWhile_cons_of_neg hx] at h; cases h
/-- What is decoded has this encoding. -/
theorem enc_dec {b : List UInt8} {v n : Nat} (h : dec b = (v, n, 0)) : b.take n = enc v ∧ n ≤ b.length ∧ 1 ≤ n ∧ n ≤ 10 ∧ v < 18446744073709551616 := by
  unfold dec at h
  by_cases c1 : 10 ≤ run b
  · rw [if_pos c1] at h; cases h
  rw [if_neg c1] at h
  by_cases c2 : run b = b.length
  · rw [if_pos c2] at h; cases h
  rw [if_neg c2] at h
  by_cases c3 : run b = 9 ∧ 1 < (b.getD 9 0).toNat
  · rw [if_pos c3] at h; cases h
  rw [if_neg c3] at h
  by_cases c4 : 0 < run b ∧ b.getD (run b) 0 = 0
  · rw [if_pos c4] at h; cases h
  rw [if_neg c4] at h
  injection h with e1 e2
  injection e2 with e2 _
  subst e1; subst e2
  have hle := run_le b
  have hlt : run b < b.length := by omega
  have hst := run_stop b hlt
  have hget : b.getD (run b) 0 = b[run b] := by rw [List.getD_eq_getElem?_getD, List.getElem?_eq_getElem hlt, Option.getD_some]
  have hsn : b.take (run b + 1) = b.take (run b) ++ [b[run b]] := (List.take_append_getElem hlt).symm
  have hall : ∀ y ∈ b.take (run b), 128 ≤ y.toNat := by
    intro y hy
    rw [take_run] at hy
    have := all_takeWhile b y hy
    simpa [big] using this
  refine ⟨?_, by omega, by omega, by omega, ?_⟩
  · rw [hsn]
    refine (enc_val _ _ hall hst ?_).1.symm
    by_cases h0 : run b = 0
    · left; rw [h0]; rfl
    · right; intro hx; exact c4 ⟨by omega, by rw [hget]; exact hx⟩
  · rw [hsn, val_snoc]
    have h1 := val_lt (b.take (run b))
    have hlen : (b.take (run b)).length = run b := by rw [List.length_take]; omega
    rw [hlen] at h1 ⊢
    by_cases h9 : run b = 9
    · have hb9 : (b[run b]).toNat ≤ 1 := by
        have : b.getD 9 0 = b[run b] := by rw [← h9]; exact hget
        rcases Nat.lt_or_ge 1 (b.getD 9 0).toNat with h | h
        · exact absurd ⟨h9, h⟩ c3
        · rw [this] at h; exact h
      have hz : (b[run b]).toNat % 128 ≤ 1 := by omega
      generalize (b[run b]).toNat % 128 = z at *
      have h5 : 128 ^ run b = 9223372036854775808 := by rw [h9]
      rw [h5] at h1 ⊢
      omega
    · have h3 : 128 ^ (run b + 1) ≤ 128 ^ 9 := Nat.pow_le_pow_right (by omega) (by omega)
      have hz : (b[run b]).toNat % 128 ≤ 127 := by omega
      have h4 : 128 ^ run b * ((b[run b]).toNat % 128) ≤ 128 ^ run b * 127 := Nat.mul_le_mul_left _ hz
      rw [Nat.pow_succ] at h3
      omega

/-- The encoding of a text. -/
def txt (s : List UInt8) : List UInt8 := enc s.length ++ s
def decT (b : List UInt8) : List UInt8 × Nat × Int :=
  if (dec b).2.2 ≠ 0 then ([], 0, (dec b).2.2) else if 4096 < (dec b).1 then ([], 0, 3) else if b.length - (dec b).2.1 < (dec b).1 then ([], 0, 5) else
    ((b.drop (dec b).2.1).take (dec b).1, (dec b).2.1 + (dec b).1, 0)
theorem decT_txt {s : List UInt8} (h : s.length ≤ 4096) (t : List UInt8) : decT (txt s ++ t) = (s, (txt s).length, 0) := by
  have hd : dec (txt s ++ t) = (s.length, (enc s.length).length, 0) := by
    unfold txt; rw [List.append_assoc]; exact dec_enc (by omega) _
  unfold decT
  rw [hd]
  rw [if_neg (by simp), if_neg (by simp only; omega), if_neg (by simp only [txt, List.length_append]; omega)]
  simp only [txt, List.append_assoc, List.drop_left, List.take_left, List.length_append]
theorem txt_decT {b s : List UInt8} {n : Nat} (h : decT b = (s, n, 0)) : b.take n = txt s ∧ n ≤ b.length ∧ s.length ≤ 4096 ∧ 1 ≤ n ∧ n ≤ s.length + 10 := by
  unfold decT at h
  by_cases c1 : (dec b).2.2 ≠ 0
  · rw [if_pos c1] at h
    injection h with _ h; injection h with _ h
    exact absurd h c1
  rw [if_neg c1] at h
  by_cases c2 : 4096 < (dec b).1
  · rw [if_pos c2] at h; cases h
  rw [if_neg c2] at h
  by_cases c3 : b.length - (dec b).2.1 < (dec b).1
  · rw [if_pos c3] at h; cases h
  rw [if_neg c3] at h
  injection h with e1 h; injection h with e2 _
  have hd : dec b = ((dec b).1, (dec b).2.1, 0) := by
    have : (dec b).2.2 = 0 := by simpa using c1
    rw [← this]
  obtain ⟨h1, h2, h3, h4, h5⟩ := enc_dec hd
  have hl : s.length = (dec b).1 := by rw [← e1, List.length_take, List.length_drop]; omega
  refine ⟨?_, by omega, by omega, by omega, by omega⟩
  unfold txt
  rw [hl, ← h1, ← e1, ← e2, List.take_add]

end Go.Proofs.YtjfflnnepndlkaaDoor.Wire

/-
  The walks through the statements' helpers (package hstsstorekeep) that deal with bytes and numbers.
-/
namespace Go.Proofs.YtjfflnnepndlkaaDoor
open Go.RowKit


theorem keep_bytes (a b : Option Addr) (n m c d : Nat) (l k : List UInt8) (w : World) (h : SlB w a n c l) (h' : SlB w b m d k) :
    Calls Tryd.prog 19 #[.slice a n c, .slice b m d] w fun e w' => e = .returned (.bool (l == k)) ∧ w = w' := by
  have h1 := run_conv_bytes h
  have h2 := run_conv_bytes h'
  clear h h'
  go_enter Tryd.func19, Tryd.ntmps19
  go_wp2
  go_ret
  exact ⟨by simp, rfl⟩

theorem tmod_pos (n m : Int) (hm : 0 < m) : (if n.tmod m < 0 then n.tmod m + m else n.tmod m) = n % m := by
  have h1 := Int.emod_nonneg n (show m ≠ 0 by omega)
  have h2 := Int.emod_lt_of_pos n hm
  have h3 := Int.tmod_eq_emod (a := n) (b := m)
  by_cases hc : 0 ≤ n ∨ m ∣ n
  · rw [if_pos hc] at h3
    rw [h3]; split <;> omega
  · rw [if_neg hc] at h3
    rw [h3]; split <;> omega

theorem keep_mod (n m : Int) (w : World) (hm : 0 < m) (hm2 : m ≤ 9223372036854775807) :
    Calls Tryd.prog 25 #[.int .i64 n, .int .i64 m] w fun e w' => e = .returned (.int .i64 (n % m)) ∧ w = w' := by
  have h0 := tmod_pos n m hm
  have h1 := Int.lt_tmod_of_pos n hm
  have h2 := Int.tmod_lt_of_pos n hm
  by_cases h : n.tmod m < 0
  · rw [if_pos h] at h0; have H := Lib.hid h0; clear h0
    go_enter Tryd.func25, Tryd.ntmps25
    go_wp2
    go_ret
    exact ⟨by rw [← H.out]; rfl, rfl⟩
  · rw [if_neg h] at h0; have H := Lib.hid h0; clear h0
    go_enter Tryd.func25, Tryd.ntmps25
    go_wp2
    go_ret
    exact ⟨by rw [← H.out]; rfl, rfl⟩

end Go.Proofs.YtjfflnnepndlkaaDoor
