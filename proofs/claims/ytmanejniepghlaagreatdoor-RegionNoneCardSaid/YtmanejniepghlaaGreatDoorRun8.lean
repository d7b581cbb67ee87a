/-
  The walk through extent.Write.
-/
import Derived.Test.YtmanejniepghlaaGreatDoorRun7
namespace Go.Proofs.YtmanejniepghlaaGreatDoor
open Go.RowKit Go.Shelf

attribute [local go_sem] Oper.semAt_some

/-- A block of cells. -/
def IsCells (w : World) (b : Nat) : Prop := ∃ cs t fr, w.heap[b]? = some (.cells cs t fr)
theorem cells_of_at {w : World} {b o : Nat} {v : Value} (h : w.cell? ⟨b, o, none⟩ = some v) : IsCells w b := by
  obtain ⟨o', ho', hc⟩ := cells_of_cell h
  cases o' with
  | cells cs t fr => exact ⟨_, _, _, ho'⟩
  | _ => cases hc
theorem slb_cells {w : World} {x : Addr} {n c : Nat} {l : List UInt8} (h : SlB w (some x) n c l) (hl : l ≠ []) : IsCells w x.block := by
  exact cells_of_at (h.2.2.2.2 x rfl 0 (List.length_pos_iff.2 hl)).2.2
/-- Beside its map the disk needs blocks of cells alone. -/
theorem PD.tight {F : Nat → Prop} {w : World} {g s m : Nat} {fa : Option Addr} {fn fc : Nat} {d : Disk.Dk} (h : PD F w g s m fa fn fc d) : PD (fun b => F b ∧ (b = m ∨ IsCells w b)) w g s m fa fn fc d := by
  refine ⟨h.ok, h.box, h.row, ?_, h.flt, fun x hx hl => ?_, fun k hk => h.lt k hk.1, ⟨h.Fg, .inr ⟨_, _, _, h.box⟩⟩, ⟨h.Fs, .inr ⟨_, _, _, h.row⟩⟩, ⟨h.Fm, .inl rfl⟩⟩
  · obtain ⟨es, clock, hb, hE⟩ := h.map
    refine ⟨es, clock, hb, hE.stamped, hE.size, fun e he => ?_, hE.all⟩
    obtain ⟨i, x, a, c, h1, h2, h3, h4, h5, h6⟩ := hE.mem e he
    exact ⟨i, x, a, c, h1, h2, h3, h4, ⟨⟨h5.1, .inr (slb_cells h4 h6)⟩, h5.2⟩, h6⟩
  · have h1 := h.fltF x hx hl
    refine ⟨⟨h1.1, .inr ?_⟩, h1.2⟩
    exact cells_of_at (h.flt.2.2.2.2 x hx 0 (List.length_pos_iff.2 hl)).2.2.1

def ExWritePost (F : Nat → Prop) (w : World) (g s m : Nat) (fa : Option Addr) (fn fc : Nat) (r : Int × Disk.Dk) (e : Ending) (w' : World) : Prop :=
  e = .returned (.int .i64 r.1) ∧ ∃ F', PD F' w' g s m fa fn fc r.2 ∧ Upd F w F' w'

theorem OwnB.row64 {base : Nat} {w : World} {v : Value} {l : List UInt8} (h : OwnB base w v l) (hl : l.length = 64) : ∃ bb cc, v = .slice (some ⟨bb, 0, none⟩) 64 cc ∧ 64 ≤ cc ∧ base ≤ bb := by
  rcases h.2 with ⟨hv, hn⟩ | ⟨bb, cap, cur, hv, hb5, hc5, hn5, hm5, hs5, ht5⟩
  · omega
  · rw [hl] at hv hn5
    exact ⟨bb, cap, hv, hn5, hb5⟩
/-- The frame of extent.Write at its loop. -/
def exTW (b g f0 : Nat) (c : Int) (o0 : Nat) (a : Option Addr) (n ca X : Nat) (x10 x30 : Value) : Array Value := #[Value.pointer (some ⟨g, 0, none⟩), Value.agg #[Value.int IntKind.i64 (f0 : Int), Value.int IntKind.i64 c], Value.int IntKind.i64 (o0 : Int), Value.slice a n ca, Value.pointer (some ⟨b, 0, none⟩), Value.pointer (some ⟨b + 1, 0, none⟩), undef, Value.pointer (some ⟨b + 1 + 1, 0, none⟩), Value.pointer (some ⟨b + 1 + 1 + 1, 0, none⟩), Value.int IntKind.i64 0, x10, undef, undef, undef, undef, undef, Value.pointer (some ⟨g, 0, none⟩), Value.agg #[Value.int IntKind.i64 (f0 : Int), Value.int IntKind.i64 c], Value.int IntKind.i64 (o0 : Int), Value.slice a n ca, Value.int IntKind.i64 (n : Int), Value.int IntKind.i64 0, Value.int IntKind.i64 0, Value.bool false, undef, Value.agg #[Value.int IntKind.i64 (f0 : Int), Value.int IntKind.i64 c], Value.int IntKind.i64 (o0 : Int), Value.slice a n ca, Value.int IntKind.i64 (n : Int), Value.func (Fn.func 183) #[] #[Value.pointer (some ⟨X + 1, 0, none⟩), Value.pointer (some ⟨X + 2, 0, none⟩), Value.pointer (some ⟨X, 0, none⟩)], x30, undef, undef, undef, undef, undef, undef, undef, undef, undef, undef, undef, undef, undef, undef, undef, undef, undef, undef, undef, undef, undef, undef, undef, undef, undef, undef, undef, undef, undef, undef, undef, undef, undef, undef, undef, undef, undef, undef, undef, undef]

theorem IsCells.putO {W : World} {b l : Nat} (h : IsCells W b) {o o' : Obj} (h1 : W.heap[l]? = some o) (h2 : o.isCells = false) : IsCells (W.putObj l o') b := by
  obtain ⟨cs, t, fr, h⟩ := h; exact ⟨cs, t, fr, (World.putObj_heap_other (cells_ne h h1 h2)).trans h⟩
theorem IsCells.not {W : World} {l : Nat} {o : Obj} (h1 : W.heap[l]? = some o) (h2 : o.isCells = false) : ¬ IsCells W l := by
  rintro ⟨cs, t, fr, h⟩; rw [h1] at h; cases h; cases h2
theorem IsCells.same {W W' : World} {b : Nat} (h : IsCells W b) (e : W'.heap[b]? = W.heap[b]?) : IsCells W' b := by
  obtain ⟨cs, t, fr, h⟩ := h; exact ⟨cs, t, fr, e.trans h⟩
theorem Upd.keepsT {F F' : Nat → Prop} {B m : Nat} {W W' : World} (h : Upd F W F' W') (hF : ∀ k, F k → k = m ∨ IsCells W k) (hm : m < B) : KeepsFrom B W W' :=
  ⟨h.size, fun k o hk ho hc => (h.block k (heap_lt ho) (fun e => by
    rcases hF k e with e | e
    · omega
    · exact IsCells.not ho hc e)).trans ho⟩
theorem SlB.putO {W : World} {a : Option Addr} {n c : Nat} {l : List UInt8} (h : SlB W a n c l) {r : Nat} {o o' : Obj} (h1 : W.heap[r]? = some o) (h2 : o.isCells = false) : SlB (W.putObj r o') a n c l :=
  h.stay (fun x hx hl => by subst hx; exact World.putObj_heap_other (slb_ne h hl h1 h2)) (by simp)

theorem Disk.write_st (d : Disk.Dk) (i : Int) (x : List UInt8) : (Disk.write d i x).2.st = d.st := by
  rcases hb : Disk.begin d (Disk.fits d i && decide (x.length = 64)) with ⟨b, e, d'⟩
  have h := (Disk.begin_st d (Disk.fits d i && decide (x.length = 64))).1
  rw [hb] at h
  cases b
  · by_cases he : e = 0
    · subst he; rw [write_ok hb]; exact h
    · rw [write_err hb he]; exact h
  · rw [write_off hb]; exact h
theorem Extent.wr_full {first off e m k : Nat} {data : List UInt8} {d d2 : Disk.Dk} {z2 : Int} (hs : ¬ Extent.step e (Extent.pos off e k) < 64) (hw : Disk.write d ((first + Extent.pos off e k / 64 : Nat) : Int) (data.take (Extent.step e (Extent.pos off e k))) = (z2, d2)) :
    Extent.wr first off e (m + 1) k data d = if z2 = 0 then Extent.wr first off e m (k + 1) (data.drop (Extent.step e (Extent.pos off e k))) d2 else (z2, d2) := by
  rw [Extent.wr, if_neg hs, hw]
theorem Extent.wr_rerr {first off e m k : Nat} {data b : List UInt8} {d d1 : Disk.Dk} {z : Int} (hs : Extent.step e (Extent.pos off e k) < 64) (hr : Disk.read d ((first + Extent.pos off e k / 64 : Nat) : Int) = (b, z, d1)) (hz : ¬ z = 0) :
    Extent.wr first off e (m + 1) k data d = (z, d1) := by
  rw [Extent.wr, if_pos hs, hr]; exact if_neg hz
theorem Extent.wr_part {first off e m k : Nat} {data b : List UInt8} {d d1 d2 : Disk.Dk} {z2 : Int} (hs : Extent.step e (Extent.pos off e k) < 64) (hr : Disk.read d ((first + Extent.pos off e k / 64 : Nat) : Int) = (b, 0, d1))
    (hw : Disk.write d1 ((first + Extent.pos off e k / 64 : Nat) : Int) (b.take (Extent.pos off e k % 64) ++ data.take (Extent.step e (Extent.pos off e k)) ++ b.drop (Extent.pos off e k % 64 + Extent.step e (Extent.pos off e k))) = (z2, d2)) :
    Extent.wr first off e (m + 1) k data d = if z2 = 0 then Extent.wr first off e m (k + 1) (data.drop (Extent.step e (Extent.pos off e k))) d2 else (z2, d2) := by
  rw [Extent.wr, if_pos hs, hr]
  show (if (0 : Int) = 0 then _ else _) = _
  rw [if_pos rfl, hw]

/-- Where the loop of extent.Write stands. -/
structure WrI (F : Nat → Prop) (w : World) (g s m : Nat) (fa : Option Addr) (fn fc : Nat) (f0 : Nat) (c : Int) (o0 e N : Nat) (X B n : Nat) (R : Int × Disk.Dk) (F' : Nat → Prop) (k : Nat) (W : World) : Prop where
  acc : ∃ l d' a' n' c', Hid (R = Extent.wr f0 o0 e (N - k) k l d') ∧ PD F' W g s m fa fn fc d' ∧ d'.st.length = n ∧ Boxed W (w.heap.size + 1 + 1) 70 (.slice a' n' c') ∧ SlB W a' n' c' l ∧ l.length = e - Extent.pos o0 e k ∧ (∀ y, a' = some y → l ≠ [] → y.block < w.heap.size ∧ ¬ F y.block)
  upd : Upd F w F' W
  tight : ∀ b, F' b → b = m ∨ IsCells W b
  lo : ∀ b, F' b → F b ∨ B ≤ b
  big : B ≤ W.heap.size
  args : ExArgs W w.heap.size g (f0 : Int) c
  err : Boxed W (w.heap.size + 1 + 1 + 1) 27 (.int .i64 0)

/-- Where extent.Write stands when the loop was left by an error. -/
def WrX (F : Nat → Prop) (w : World) (g s m : Nat) (fa : Option Addr) (fn fc : Nat) (R : Int × Disk.Dk) (cd : Code) (_k : Nat) (W : World) : Prop :=
  cd = .ret ∧ ∃ z d' F', Hid (R = (z, d')) ∧ PD F' W g s m fa fn fc d' ∧ Upd F w F' W ∧ (∀ b, F' b → b = m ∨ IsCells W b) ∧ Boxed W (w.heap.size + 1 + 1 + 1) 27 (.int .i64 z)

theorem WrI.putO {F F' : Nat → Prop} {w : World} {g s m : Nat} {fa : Option Addr} {fn fc : Nat} {f0 : Nat} {c : Int} {o0 e N X B n : Nat} {R : Int × Disk.Dk} {k : Nat} {W : World} (h : WrI F w g s m fa fn fc f0 c o0 e N X B n R F' k W) (hm : m < w.heap.size) {l : Nat} (hl : w.heap.size ≤ l) {o o' : Obj} (h1 : W.heap[l]? = some o) (h2 : o.isCells = false) : WrI F w g s m fa fn fc f0 c o0 e N X B n R F' k (W.putObj l o') := by
  have hnF : ¬ F' l := fun e => by
    rcases h.tight l e with e | e
    · omega
    · exact IsCells.not h1 h2 e
  obtain ⟨l', d', a', n', c', q1, q2, q3, q4, q5, q6, q7⟩ := h.acc
  exact ⟨⟨l', d', a', n', c', q1, q2.putO hnF _, q3, boxed_block q4 (World.putObj_heap_other (cells_ne q4 h1 h2)), q5.putO h1 h2, q6, q7⟩, h.upd.putO (.inr hl) _, fun b hb => (h.tight b hb).imp id (·.putO h1 h2), h.lo, by simpa using h.big,
    h.args.stay (World.putObj_heap_other (cells_ne h.args.ptr h1 h2)) (World.putObj_heap_other (cells_ne h.args.ext h1 h2)), boxed_block h.err (World.putObj_heap_other (cells_ne h.err h1 h2))⟩
theorem WrI.ext {F F' : Nat → Prop} {w : World} {g s m : Nat} {fa : Option Addr} {fn fc : Nat} {f0 : Nat} {c : Int} {o0 e N X B n : Nat} {R : Int × Disk.Dk} {k : Nat} {W W' : World} (h : WrI F w g s m fa fn fc f0 c o0 e N X B n R F' k W) (hb : Below W.heap.size W W') : WrI F w g s m fa fn fc f0 c o0 e N X B n R F' k W' := by
  obtain ⟨l', d', a', n', c', q1, q2, q3, q4, q5, q6, q7⟩ := h.acc
  exact ⟨⟨l', d', a', n', c', q1, q2.ext hb, q3, boxed_ext q4 hb, q5.ext hb, q6, q7⟩, h.upd.ext hb, fun b hB => (h.tight b hB).imp id (fun e => e.same (hb.block b (q2.lt b hB))), h.lo, Nat.le_trans h.big hb.size, h.args.ext' hb, boxed_ext h.err hb⟩
theorem WrX.putO {F : Nat → Prop} {w : World} {g s m : Nat} {fa : Option Addr} {fn fc : Nat} {R : Int × Disk.Dk} {cd : Code} {k : Nat} {W : World} (h : WrX F w g s m fa fn fc R cd k W) (hm : m < w.heap.size) {l : Nat} (hl : w.heap.size ≤ l) {o o' : Obj} (h1 : W.heap[l]? = some o) (h2 : o.isCells = false) : WrX F w g s m fa fn fc R cd k (W.putObj l o') := by
  obtain ⟨rfl, z, d', F', q1, q2, q3, q4, q5⟩ := h
  have hnF : ¬ F' l := fun e => by
    rcases q4 l e with e | e
    · omega
    · exact IsCells.not h1 h2 e
  exact ⟨rfl, z, d', F', q1, q2.putO hnF _, q3.putO (.inr hl) _, fun b hb => (q4 b hb).imp id (·.putO h1 h2), boxed_block q5 (World.putObj_heap_other (cells_ne q5 h1 h2))⟩

set_option maxRecDepth 100000 in
set_option maxHeartbeats 2000000 in
theorem ex_write_in {F : Nat → Prop} {w : World} {g s m : Nat} {fa : Option Addr} {fn fc : Nat} {d : Disk.Dk} (h : PD F w g s m fa fn fc d) (f c off : Int) (hf : ib f) (hc : ib c) (ho : ib off) (a : Option Addr) (n ca : Nat) (x : List UInt8) (hx : SlB w a n ca x) (hF : ∀ y, a = some y → x ≠ [] → ¬ F y.block) :
    CallsIn Fence.wide 4 Tryz.prog 108 #[.pointer (some ⟨g, 0, none⟩), .agg #[.int .i64 f, .int .i64 c], .int .i64 off, .slice a n ca] w (ExWritePost F w g s m fa fn fc (Extent.write d f c off x)) := by
  obtain ⟨W0, hW0⟩ : ∃ W0, W0 = ((((w.alloc (.cells #[.pointer (some ⟨g, 0, none⟩)] 37)).alloc (.cells #[.int .i64 f, .int .i64 c] 23)).alloc (.cells #[.slice a n ca] 70)).alloc (.cells #[.int .i64 0] 27)) := ⟨_, rfl⟩
  have hB0 : Below w.heap.size w W0 := by
    rw [hW0]; exact (((((Below.refl _ w).alloc (Nat.le_refl _) _).alloc (by simp) _).alloc (by simp; omega) _).alloc (by simp; omega) _)
  have hz0 : W0.heap.size = w.heap.size + 4 := by rw [hW0]; simp
  have hA0 : ExArgs W0 w.heap.size g f c := by
    rw [hW0]
    refine ⟨?_, ?_⟩
    · exact ((((Boxed.new w _ _).alloc _).alloc _).alloc _)
    · rw [heap_alloc_lt _ _ _ (by simp), heap_alloc_lt _ _ _ (by simp), heap_alloc_eq _ _ _ (by simp)]
  have hR0 : Boxed W0 (w.heap.size + 1 + 1) 70 (.slice a n ca) := by
    rw [hW0]; unfold Boxed; rw [heap_alloc_lt _ _ _ (by simp), heap_alloc_eq _ _ _ (by simp)]
  have hE0 : Boxed W0 (w.heap.size + 1 + 1 + 1) 27 (.int .i64 0) := by
    rw [hW0]; unfold Boxed; rw [heap_alloc_eq _ _ _ (by simp)]
  have HW0 := Lib.hid hW0
  have hnl := hx.len
  have hle := hx.le
  have hn63 : ib (n : Int) := by unfold ib; omega
  have HCK := Lib.hid (ex_check (h.ext hB0) f c off n hc ho hn63)
  have hP0 := h.ext hB0
  have hx0 := hx.ext hB0
  obtain ⟨r, hr⟩ : ∃ r, r = Extent.write d f c off x := ⟨_, rfl⟩
  rw [← hr]
  unfold Extent.write at hr
  rw [hnl] at hr
  clear hW0
  have hRc := hR0.cell
  refine callsIn_of_wp_marks Tryz.func108 rfl trivial ?_ rfl
  simp only [Tryz.ntmps108, List.size_toArray, List.length_cons, List.length_nil, Nat.reduceAdd, Nat.reduceSub, Array.replicate_succ, Array.replicate_zero, List.push_toArray, List.append_toArray, List.nil_append, List.cons_append]
  refine wpIn_wide.2 ?_
  by_cases hck : Extent.check d.st.length f c off n = 0
  · rw [if_pos hck] at hr
    obtain ⟨q1, q2, q3, q4, q5, q6, q7⟩ := Extent.check_ok hck
    have hszc : Extent.size c = c * 64 := by unfold Extent.size; rw [if_neg (by have := h.ok.max; omega)]
    have hmx := h.ok.max
    obtain ⟨f0, rfl⟩ := Int.eq_ofNat_of_zero_le q1
    obtain ⟨o0, rfl⟩ := Int.eq_ofNat_of_zero_le q5
    rw [hck] at HCK
    have HR := Lib.hid hr
    rw [hszc] at q7
    have hon : o0 + n ≤ 262144 := by omega
    have hf0 : f0 ≤ 4096 := by omega
    clear hr hszc hck
    go_wp2_with fail
    rw [← HW0.out]
    refine HCK.out.mono ?_; rintro e w1 ⟨rfl, hb1⟩
    have hP1 := hP0.ext hb1
    have hA1 := hA0.ext' hb1
    have hR1 := boxed_ext hR0 hb1
    have hE1 := boxed_ext hE0 hb1
    have hx1 := hx0.ext hb1
    obtain ⟨x0, x1, x2⟩ := hA1.cells
    have HX := Lib.hid hA1.cells
    have hRc1 := hR1.cell
    have hsz1 : w.heap.size + 4 ≤ w1.heap.size := by have := hb1.size; omega
    go_wp2_with (go_at_call 155; refine (callsIn_wide.1 (ex_parts_in Fence.wide 3 trivial rfl (f0 : Int) c (o0 : Int) (n : Int) _)).mono ?_; rintro e w3 ⟨rfl, rfl⟩)
    have hb3 := (((Below.refl _ w1).alloc (Nat.le_refl _) (.cells #[.int .i64 (f0 : Int), .int .i64 c] 23)).alloc (by simp) (.cells #[.int .i64 (o0 : Int)] 3)).alloc (by simp; omega) (.cells #[.int .i64 (n : Int)] 3)
    have hbo3 : Boxed (((w1.alloc (.cells #[.int .i64 (f0 : Int), .int .i64 c] 23)).alloc (.cells #[.int .i64 (o0 : Int)] 3)).alloc (.cells #[.int .i64 (n : Int)] 3)) (w1.heap.size + 1) 3 (.int .i64 (o0 : Int)) := by
      unfold Boxed; rw [heap_alloc_lt _ _ _ (by simp), heap_alloc_eq _ _ _ (by simp)]
    have hbn3 : Boxed (((w1.alloc (.cells #[.int .i64 (f0 : Int), .int .i64 c] 23)).alloc (.cells #[.int .i64 (o0 : Int)] 3)).alloc (.cells #[.int .i64 (n : Int)] 3)) (w1.heap.size + 2) 3 (.int .i64 (n : Int)) := by
      unfold Boxed; rw [heap_alloc_eq _ _ _ (by simp)]
    have hbe3 : (((w1.alloc (.cells #[.int .i64 (f0 : Int), .int .i64 c] 23)).alloc (.cells #[.int .i64 (o0 : Int)] 3)).alloc (.cells #[.int .i64 (n : Int)] 3)).heap[w1.heap.size]? = some (.cells #[.int .i64 (f0 : Int), .int .i64 c] 23 (0, 0)) := by
      rw [heap_alloc_lt _ _ _ (by simp; omega), heap_alloc_lt _ _ _ (by simp), heap_alloc_eq _ _ _ (by simp)]
    have hz3 : (((w1.alloc (.cells #[.int .i64 (f0 : Int), .int .i64 c] 23)).alloc (.cells #[.int .i64 (o0 : Int)] 3)).alloc (.cells #[.int .i64 (n : Int)] 3)).heap.size = w1.heap.size + 3 := by simp
    generalize ((w1.alloc (.cells #[.int .i64 (f0 : Int), .int .i64 c] 23)).alloc (.cells #[.int .i64 (o0 : Int)] 3)).alloc (.cells #[.int .i64 (n : Int)] 3) = w3 at *
    have hP3 := (hP1.ext hb3).tight
    have hA3 := hA1.ext' hb3
    have hR3 := boxed_ext hR1 hb3
    have hE3 := boxed_ext hE1 hb3
    have hx3 := hx1.ext hb3
    have hU3 : Upd F w F w3 := ((Upd.of_ext hB0).ext hb1).ext hb3
    have hnF : ∀ k, F k → k < w.heap.size := h.lt
    have hmw : m < w.heap.size := hnF m h.Fm
    have hxb : ∀ y, a = some y → x ≠ [] → y.block < w.heap.size ∧ ¬ F y.block := fun y h1 h2 => by subst h1; exact ⟨hx.blt h2, hF y rfl h2⟩
    obtain ⟨N, hN⟩ : ∃ N, N = Extent.cnt o0 (o0 + n) := ⟨_, rfl⟩
    have hrd : r = Extent.wr f0 o0 (o0 + n) (N - 0) 0 x d := by
      rw [HR.out, hN]
      have e1 : ((o0 : Int) + (n : Int)).toNat = o0 + n := by omega
      rw [e1]; rfl
    have HRD := Lib.hid hrd
    have hseq := ex_seq Fence.wide 3 trivial rfl (by omega) (w1.heap.size + 1) (w1.heap.size + 2) w1.heap.size f0 o0 n c (by omega) (by omega) w3 (by omega) (by omega) (by omega) hbo3.cell hbn3.cell (by rw [cell_of_row _ _ _ _ _ _ hbe3]; rfl) (by rw [cell_of_row _ _ _ _ _ _ hbe3]; rfl)
    rw [← hN] at hseq
    have HSEQ := Lib.hid hseq
    have HN := Lib.hid hN
    have hXw := hsz1
    clear HR hrd hseq hN HX x0 x1 x2 hb3 hP1 hA1 hR1 hE1 hP0 hR0 hE0 hb1 hB0 hz0 hA0 HCK HW0 hsz1 hRc hRc1 hx0 hx1 hbo3 hbn3 hbe3
    generalize w1.heap.size = X at *
    clear w1
    refine (wpIn_wide (n := 4)).1 ?_
    refine wpIn_rangeIx (Kp := KpE (X + 1) (X + 2) X) rfl (by omega) (gf := 183) (lb := #[.pointer (some ⟨X + 1, 0, none⟩), .pointer (some ⟨X + 2, 0, none⟩), .pointer (some ⟨X, 0, none⟩)]) rfl trivial (enters_of Tryz.func183 (by kernel_rfl) rfl) HSEQ.out kpE_t
      (fun W l o o' hl h1 h2 => ⟨World.putObj_heap_other (by omega), World.putObj_heap_other (by omega), World.putObj_heap_other (by omega)⟩) (Below.refl _ _) (fun _ => rfl)
      (fun k W => ∃ F', WrI F w g s m fa fn fc f0 c o0 (o0 + n) N X (X + 3) d.st.length r F' k W) (WrX F w g s m fa fn fc r) (fun k W l o o' hI hl h1 h2 => hI.imp fun F' hI => hI.putO hmw (by omega) h1 h2) (fun cd k W l o o' hI hl h1 h2 => hI.putO hmw (by omega) h1 h2)
      ?h0 (fun k a1 W => ∃ pb F', a1 = { tmps := exTW w.heap.size g f0 c o0 a n ca X (.pointer (some ⟨pb, 0, none⟩)) ((exEnc f0 o0 (o0 + n) k).getD 0 undef), defers := [] } ∧ W.heap[pb]? = some (.cells #[.int .i64 ((f0 : Int) + (Extent.pos o0 (o0 + n) k : Int) / 64), .int .i64 ((Extent.pos o0 (o0 + n) k : Int) % 64), .int .i64 ((Extent.pos o0 (o0 + n) k : Int) % 64 + (Extent.step (o0 + n) (Extent.pos o0 (o0 + n) k) : Int))] 194 (0, 0)) ∧ w3.heap.size ≤ pb ∧ ¬ F' pb ∧ WrI F w g s m fa fn fc f0 c o0 (o0 + n) N X (X + 3) d.st.length r F' k W)
      (fun a1 k W l o o' hI hl h1 h2 => by
        obtain ⟨pb, F', e1, e2, e3, e4, e5⟩ := hI
        exact ⟨pb, F', e1, (World.putObj_heap_other (cells_ne e2 h1 h2)).trans e2, e3, e4, e5.putO hmw (by omega) h1 h2⟩)
      ?assign ?body ?done ?stop
    case h0 =>
      intro o o'
      have hbe := ((Below.refl _ w3).alloc (Nat.le_refl _) o).alloc (by simp) o'
      exact ⟨_, ⟨x, d, _, _, _, HRD, hP3.ext hbe, rfl, boxed_ext hR3 hbe, hx3.ext hbe, by rw [Extent.pos_zero]; omega, hxb⟩, (hU3.ext hbe).grow (fun k hk => .inl hk.1), fun b hb => hb.2.imp id (fun e => e.same (hbe.block b (hP3.lt b hb))), fun b hb => .inl hb.1, by have := hbe.size; omega, hA3.ext' hbe, boxed_ext hE3 hbe⟩
    case assign =>
      rintro l k W ⟨F', hI⟩ hk
      have hbk := (Below.refl W.heap.size W).alloc (Nat.le_refl _) (.cells #[.int .i64 ((f0 : Int) + (Extent.pos o0 (o0 + n) k : Int) / 64), .int .i64 ((Extent.pos o0 (o0 + n) k : Int) % 64), .int .i64 ((Extent.pos o0 (o0 + n) k : Int) % 64 + (Extent.step (o0 + n) (Extent.pos o0 (o0 + n) k) : Int))] 194)
      have HBK := Lib.hid hbk
      clear hbk
      unfold exEnc
      gi_wp2
      have hbk := HBK.out
      have hnc : ∀ (k : Nat) (o : Obj) (v : Obj), W.heap[k]? = some o → (W.alloc v).heap[k]? = some o := fun k o v hk => (heap_alloc_lt _ _ _ (heap_lt hk)).trans hk
      have hbig := hI.big
      obtain ⟨_, _, _, _, _, _, hPl, _⟩ := hI.acc
      refine ⟨⟨hbk.size, fun k o _ hk _ => hnc k o _ hk⟩, ⟨heap_alloc_lt _ _ _ (by omega), heap_alloc_lt _ _ _ (by omega), heap_alloc_lt _ _ _ (by omega)⟩, W.heap.size, F', rfl, heap_alloc_eq _ _ _ rfl, by omega, fun e => by have := hPl.lt _ e; omega, hI.ext hbk⟩
    case body =>
      rintro l k a1 W ⟨pb, F', rfl, hpb, hpl, hnpb, hI⟩ hk
      obtain ⟨l', d1, a', n', c', HA, hP, hlen, hX, hS, hl', hb⟩ := hI.acc
      have hpos := (Extent.pos_lt o0 (o0 + n) k (by omega)).2 (by rw [← HN.out]; exact hk)
      obtain ⟨hs1, hs2, hs3, hs4⟩ := Extent.step_pos hpos
      have hsucc := Extent.pos_succ o0 (o0 + n) k (by rw [← HN.out]; exact hk)
      obtain ⟨p, hp⟩ : ∃ p, p = Extent.pos o0 (o0 + n) k := ⟨_, rfl⟩
      obtain ⟨t, ht⟩ : ∃ t, t = Extent.step (o0 + n) p := ⟨_, rfl⟩
      have HP := Lib.hid hp
      have HT := Lib.hid ht
      rw [← hp] at hpos hs1 hs2 hs3 hs4 hpb hl' hsucc
      rw [← ht] at hs1 hs2 hs3 hs4 hpb hsucc
      obtain ⟨iz, hiz⟩ : ∃ iz : Int, iz = ((f0 + p / 64 : Nat) : Int) := ⟨_, rfl⟩
      obtain ⟨q, hq⟩ : ∃ q, q = p % 64 := ⟨_, rfl⟩
      obtain ⟨u, hu⟩ : ∃ u, u = q + t := ⟨_, rfl⟩
      have hidx : ((f0 : Int) + (p : Int) / 64) = iz := by omega
      have hmod : ((p : Int) % 64) = (q : Int) := by omega
      have hmt : ((q : Int) + (t : Int)) = (u : Int) := by omega
      rw [hmod, hmt, hidx] at hpb
      have HQ := Lib.hid hq
      have HU := Lib.hid hu
      have HIZ := Lib.hid hiz
      have hqu : q ≤ u ∧ u ≤ 64 ∧ q < 64 := by omega
      have hqt : q + t ≤ 64 := by omega
      clear hq hu hiz
      clear hp ht
      have hbig := hI.big
      have hnl' := hS.len
      have hne' : l' ≠ [] := by rintro rfl; simp at hl'; omega
      obtain ⟨db, dd, rfl⟩ : ∃ db dd, a' = some ⟨db, dd, none⟩ := by
        cases a' with
        | none => exact absurd (hS.2.2.2.1 rfl).1 hne'
        | some y =>
          obtain ⟨yb, yo, ys⟩ := y
          have := (hS.2.2.2.2 _ rfl 0 (List.length_pos_iff.2 hne')).1
          simp only at this; subst this; exact ⟨_, _, rfl⟩
      obtain ⟨hdb, hdF⟩ := hb _ rfl hne'
      simp only at hdb hdF
      have htn : t ≤ n' := by omega
      have hnc' : n' ≤ c' := hS.2.1
      have hcm : c' ≤ maxLen := hS.2.2.1
      have nF' : ∀ q, w.heap.size ≤ q → q < X + 3 → ¬ F' q := fun q h1 h2 e => by
        rcases hI.lo q e with e | e
        · have := hnF q e; omega
        · omega
      have hdF' : ¬ F' db := fun e => by
        rcases hI.lo db e with e | e
        · exact hdF e
        · omega
      have hok : ∀ (w6 : World) (F6 : Nat → Prop) (d3 : Disk.Dk), PD F6 w6 g s m fa fn fc d3 → Upd F' W F6 w6 → KeepsFrom w3.heap.size W w6 → d3.st.length = d.st.length → Hid (r = Extent.wr f0 o0 (o0 + n) (N - (k + 1)) (k + 1) (l'.drop t) d3) →
          KeepsFrom w3.heap.size W (w6.setCell ⟨w.heap.size + 1 + 1, 0, none⟩ (.slice (if c' = t then some ⟨db, dd, none⟩ else some ⟨db, dd + t, none⟩) (n' - t) (c' - t))) ∧ KpE (X + 1) (X + 2) X W (w6.setCell ⟨w.heap.size + 1 + 1, 0, none⟩ (.slice (if c' = t then some ⟨db, dd, none⟩ else some ⟨db, dd + t, none⟩) (n' - t) (c' - t))) ∧
            ∃ F', WrI F w g s m fa fn fc f0 c o0 (o0 + n) N X (X + 3) d.st.length r F' (k + 1) (w6.setCell ⟨w.heap.size + 1 + 1, 0, none⟩ (.slice (if c' = t then some ⟨db, dd, none⟩ else some ⟨db, dd + t, none⟩) (n' - t) (c' - t))) := by
        intro w6 F6 d3 hP6 hU6 hK6 hst6 HR6
        have nF6 : ∀ q, w.heap.size ≤ q → q < X + 3 → ¬ F6 q := fun q h1 h2 e => by
          rcases hU6.new q e with e | e
          · exact nF' q h1 h2 e
          · omega
        have hbl : ∀ q, w.heap.size ≤ q → q < X + 3 → w6.heap[q]? = W.heap[q]? := fun q h1 h2 => hU6.block q (by omega) (nF' q h1 h2)
        have hbs : ∀ v q, w.heap.size ≤ q → q < X + 3 → q ≠ w.heap.size + 1 + 1 → (w6.setCell ⟨w.heap.size + 1 + 1, 0, none⟩ v).heap[q]? = W.heap[q]? := fun v q h1 h2 h3 => (heap_setCell_other _ _ _ _ h3).trans (hbl q h1 h2)
        have hS6 := hS.upd hU6 (fun y hy _ => by cases hy; exact hdF')
        have hz6 : W.heap.size ≤ w6.heap.size := hU6.size
        have hS7 : SlB (w6.setCell ⟨w.heap.size + 1 + 1, 0, none⟩ (.slice (if c' = t then some ⟨db, dd, none⟩ else some ⟨db, dd + t, none⟩) (n' - t) (c' - t))) (if c' = t then some ⟨db, dd, none⟩ else some ⟨db, dd + t, none⟩) (n' - t) (c' - t) (l'.drop t) := by
          refine SlB.stay (w := w6) ?_ (fun y hy _ => heap_setCell_other _ _ _ _ ?_) (by simp)
          · by_cases h8 : c' = t
            · rw [if_pos h8]
              exact ⟨by simp; omega, by omega, by omega, (fun e => by cases e), fun x hx i hi => by simp at hi; omega⟩
            · rw [if_neg h8]; exact hS6.drop htn
          · split at hy <;> (cases hy; simp only; omega)
        refine ⟨hK6.trans ((KeepsOthers.setCell _ _ _).from _), ⟨hbs _ _ (by omega) (by omega) (by omega), hbs _ _ (by omega) (by omega) (by omega), hbs _ _ (by omega) (by omega) (by omega)⟩, fun b => F6 b ∧ (b = m ∨ IsCells w6 b), ⟨_, d3, _, _, _, HR6, hP6.tight.other (fun e => nF6 _ (by omega) (by omega) e.1) _ _, hst6, (boxed_block hX (hbl _ (by omega) (by omega))).set _, hS7, ?_, ?_⟩,
          ((hI.upd.trans hU6).setCell (.inr (by omega)) _ _).grow (fun b hb => (hI.upd.trans hU6).new b hb.1), ?_, fun b hb => ?_, by simp; omega, hI.args.stay (hbs _ _ (by omega) (by omega) (by omega)) (hbs _ _ (by omega) (by omega) (by omega)), boxed_block hI.err (hbs _ _ (by omega) (by omega) (by omega))⟩
        · rw [List.length_drop, hl', hsucc]; omega
        · intro y hy _
          split at hy <;> (cases hy; exact ⟨hdb, hdF⟩)
        · intro b hb
          refine hb.2.imp id (fun e => e.same (heap_setCell_other _ _ _ _ ?_))
          rintro rfl; exact nF6 (w.heap.size + 1 + 1) (by omega) (by omega) hb.1
        · rcases hU6.new b hb.1 with e | e
          · exact hI.lo b e
          · exact .inr (by omega)
      have herr : ∀ (w6 : World) (F6 : Nat → Prop) (d3 : Disk.Dk) (z : Int), PD F6 w6 g s m fa fn fc d3 → Upd F' W F6 w6 → KeepsFrom w3.heap.size W w6 → Hid (r = (z, d3)) →
          KeepsFrom w3.heap.size W (w6.setCell ⟨w.heap.size + 1 + 1 + 1, 0, none⟩ (.int .i64 z)) ∧ WrX F w g s m fa fn fc r .ret (k + 1) (w6.setCell ⟨w.heap.size + 1 + 1 + 1, 0, none⟩ (.int .i64 z)) := by
        intro w6 F6 d3 z hP6 hU6 hK6 HR6
        have nF6 : ∀ q, w.heap.size ≤ q → q < X + 3 → ¬ F6 q := fun q h1 h2 e => by
          rcases hU6.new q e with e | e
          · exact nF' q h1 h2 e
          · omega
        have hbl : ∀ q, w.heap.size ≤ q → q < X + 3 → w6.heap[q]? = W.heap[q]? := fun q h1 h2 => hU6.block q (by omega) (nF' q h1 h2)
        refine ⟨hK6.trans ((KeepsOthers.setCell _ _ _).from _), rfl, z, d3, fun b => F6 b ∧ (b = m ∨ IsCells w6 b), HR6, hP6.tight.other (fun e => nF6 _ (by omega) (by omega) e.1) _ _,
          ((hI.upd.trans hU6).setCell (.inr (by omega)) _ _).grow (fun b hb => (hI.upd.trans hU6).new b hb.1), ?_, (boxed_block hI.err (hbl _ (by omega) (by omega))).set _⟩
        intro b hb
        refine hb.2.imp id (fun e => e.same (heap_setCell_other _ _ _ _ ?_))
        rintro rfl; exact nF6 (w.heap.size + 1 + 1 + 1) (by omega) (by omega) hb.1
      have HOK := Lib.hid hok
      have HERR := Lib.hid herr
      clear hok herr
      obtain ⟨x0, x1, x2⟩ := hI.args.cells
      have y0 := cell_of_row _ _ 0 _ _ _ hpb
      have y1 := cell_of_row _ _ 1 _ _ _ hpb
      have y2 := cell_of_row _ _ 2 _ _ _ hpb
      simp only [List.getElem?_toArray, List.getElem?_cons_zero, List.getElem?_cons_succ] at y0 y1 y2
      have HPB := Lib.hid hpb
      clear hpb hidx hmod hmt
      have xX := hX.cell
      have xXf := hX.frozen
      have hNk : N - k = (N - (k + 1)) + 1 := by omega
      have HNK := Lib.hid hNk
      clear hNk
      have hw15 : Fence.wide.fn 53 := trivial
      have hw17 : Fence.wide.fn 112 := trivial
      have hsub : ((u : Int) - (q : Int)) = (t : Int) := by have := HU.out; omega
      have htc : t ≤ c' := by omega
      by_cases ht64 : t < 64
      · have k1 : decide ((t : Int) < 64) = true := by simp; omega
        rcases hrd : Disk.read d1 iz with ⟨bs, z, d2⟩
        have HC := Lib.hid ((callsIn_wide (n := 1)).2 (sd_read_at hP _ hrd))
        have HRD1 := Lib.hid hrd
        clear hrd
        have hK4 : ∀ w4 : World, Upd F' W F' w4 → KeepsFrom w3.heap.size W w4 := fun w4 hU => hU.keepsT hI.tight (by omega)
        have hbl4 : ∀ w4 : World, Upd F' W F' w4 → ∀ q, w.heap.size ≤ q → q < X + 3 → w4.heap[q]? = W.heap[q]? := fun w4 hU q h1 h2 => hU.block q (by omega) (nF' q h1 h2)
        have HK4 := Lib.hid hK4
        have HBL4 := Lib.hid hbl4
        clear hK4 hbl4
        by_cases hz : z = 0
        · subst hz
          have h64 := Disk.read_len hP.ok HRD1.out
          rcases hwr : Disk.write d2 iz (bs.take q ++ l'.take t ++ bs.drop (q + t)) with ⟨z2, d3⟩
          have HWR := Lib.hid hwr
          clear hwr
          have HRR : Hid (r = if z2 = 0 then Extent.wr f0 o0 (o0 + n) (N - (k + 1)) (k + 1) (l'.drop t) d3 else (z2, d3)) := by
            refine Lib.hid ?_
            rw [HA.out, HNK.out]
            have e1 := HRD1.out
            have e2 := HWR.out
            rw [HIZ.out, HP.out] at e1 e2
            rw [HQ.out, HT.out, HP.out] at e2
            rw [HT.out, HP.out] at ht64 ⊢
            exact Extent.wr_part ht64 e1 e2
          have h64' := Lib.hid h64
          clear h64
          have hbl6 : ∀ (w6 : World) (F6 : Nat → Prop), Upd F' W F6 w6 → ∀ q, w.heap.size ≤ q → q < X + 3 → w6.heap[q]? = W.heap[q]? := fun w6 F6 hU q h1 h2 => hU.block q (by omega) (nF' q h1 h2)
          have HBL6 := Lib.hid hbl6
          have hut : u - q = t := by omega
          have hwq : Disk.write d2 iz (bs.take q ++ l'.take t ++ bs.drop (q + t)) = (z2, d3) := HWR.out
          have HWQ := Lib.hid hwq
          have hmid : ∀ (w4 w5 : World) (bb cc : Nat) (y : List UInt8), PD F' w4 g s m fa fn fc d2 → Upd F' W F' w4 → OwnB W.heap.size w4 (.slice (some ⟨bb, 0, none⟩) 64 cc) y → W.heap.size ≤ bb → But bb w4 w5 →
              PD (fun b => F' b ∧ (b = m ∨ IsCells w4 b)) w5 g s m fa fn fc d2 ∧ KeepsFrom w3.heap.size W w5 ∧ (∀ b, (F' b ∧ (b = m ∨ IsCells w4 b)) → b = m ∨ IsCells w5 b) ∧ Upd F' W (fun b => F' b ∧ (b = m ∨ IsCells w4 b)) w5 := by
            intro w4 w5 bb cc y hP4 hU4 hO4 hbb hb5
            have nb : ∀ b, F' b → b ≠ bb := fun b e e2 => by subst e2; have := hP.lt _ e; omega
            obtain ⟨cs, hcs⟩ := hO4.cells (k := bb) rfl
            refine ⟨hP4.tight.stay (fun b hb => hb5.block b (hP4.lt b hb.1) (nb b hb.1)) hb5.size, (HK4.out _ hU4).trans ⟨hb5.size, fun k o _ hk ho => (hb5.block k (heap_lt hk) (fun e => ?_)).trans hk⟩, fun b hb => hb.2.imp id (fun e => e.same (hb5.block b (hP4.lt b hb.1) (nb b hb.1))), (hU4.but (.inr hbb) hb5).grow (fun b hb => .inl hb.1)⟩
            subst e; rw [hcs] at hk; cases hk; cases ho
          have HMID := Lib.hid hmid
          have hnb : ∀ (bb : Nat), W.heap.size ≤ bb → ∀ (w4 : World) (y : Addr), some (⟨bb, 0, none⟩ : Addr) = some y → (bs.take q ++ l'.take t ++ bs.drop (q + t)) ≠ [] → ¬ (F' y.block ∧ (y.block = m ∨ IsCells w4 y.block)) := fun bb hbb w4 y hy _ e => by
            cases hy; have := hP.lt bb e.1; omega
          have HNB := Lib.hid hnb
          have hk6 : ∀ (w5 w6 : World) (F5 F6 : Nat → Prop), KeepsFrom w3.heap.size W w5 → (∀ b, F5 b → b = m ∨ IsCells w5 b) → Upd F5 w5 F6 w6 → KeepsFrom w3.heap.size W w6 := fun w5 w6 F5 F6 h1 h2 h3 => h1.trans (h3.keepsT h2 (by omega))
          have HK6 := Lib.hid hk6
          have hst : d3.st.length = d.st.length := by
            have e1 := (Disk.read_st d1 iz).1
            have e2 := Disk.write_st d2 iz (bs.take q ++ l'.take t ++ bs.drop (q + t))
            rw [HRD1.out] at e1; rw [HWR.out] at e2
            simp only at e1 e2
            rw [e2, e1]; exact hlen
          have HST := Lib.hid hst
          clear hbl6 hwq hmid hk6 hst hnb
          by_cases hz2 : z2 = 0
          · subst hz2
            have HRR0 : Hid (r = Extent.wr f0 o0 (o0 + n) (N - (k + 1)) (k + 1) (l'.drop t) d3) := Lib.hid (HRR.out.trans (if_pos rfl))
            unfold exTW
            gi_wp2_with (first
              | (gi_at_call 112; go_must (refine (HC.out.inRound l).mono ?_); rintro e w4 ⟨v4, rfl, hO4, hP4, hU4⟩; obtain ⟨bb, cc, rfl, hcc, hbb⟩ := hO4.row64 h64'.out; have hqcc : ¬ cc = q := (by omega); have hucc : u ≤ cc := (by omega); have z0 := (boxed_block hI.args.ptr (HBL4.out _ hU4 _ (by omega) (by omega))).cell; have hpb4 := (hU4.block pb (heap_lt HPB.out) hnpb).trans HPB.out; have y14 := cell_of_row _ _ 1 _ _ _ hpb4; have y24 := cell_of_row _ _ 2 _ _ _ hpb4; simp only [List.getElem?_toArray, List.getElem?_cons_zero, List.getElem?_cons_succ] at y14 y24; have HPB4 := Lib.hid hpb4; clear hpb4)
              | ((show wpListIn _ _ _ _ _ (Oper.mk (some 58) _ _ _ _ _ :: _) _ _); go_must (refine wpListIn_copy_ownb rfl _ _ rfl hO4 q t (cc - q) (some ⟨db, dd, none⟩) t c' (l'.take t) rfl rfl ((hS.upd hU4 (fun y hy _ => by cases hy; exact hdF')).take htn) rfl (by have := h64'.out; omega) ?_); intro w5 hO5 hb5; obtain ⟨ab, cb, eb, hS5, -⟩ := id hO5.sl; injection eb with eb1 eb2 eb3; subst eb1 eb3; rw [← eb2] at hS5; clear eb2; have hz4 : W.heap.size ≤ w4.heap.size := hU4.size; have hpbl := heap_lt HPB.out; have hptr5 : w5.heap[w.heap.size]? = W.heap[w.heap.size]? := (hb5.block _ (by omega) (by omega)).trans (HBL4.out _ hU4 _ (by omega) (by omega)); have z05 := (boxed_block hI.args.ptr hptr5).cell; have hpb5 := (hb5.block pb (by omega) (by omega)).trans HPB4.out; have y05 := cell_of_row _ _ 0 _ _ _ hpb5; simp only [List.getElem?_toArray, List.getElem?_cons_zero] at y05; clear hpb5)
              | (gi_at_call 53; obtain ⟨hP5, hK5, hT5, hU5⟩ := HMID.out w4 w5 bb cc _ hP4 hU4 hO4 hbb hb5; have hcall := CallsIn.inRound l ((callsIn_wide (n := 1)).2 (sd_write_at hP5 iz hS5 (HNB.out bb hbb w4) HWQ.out)); go_must (refine hcall.mono ?_); rintro e w6 ⟨rfl, F6, hP6, hU6⟩; have hU56 := hU5.trans hU6; have hK56 := HK6.out _ _ _ _ hK5 hT5 hU6; have hXB6 := boxed_block hX (HBL6.out _ _ hU56 _ (by omega) (by omega)); have xX6 := hXB6.cell; have xXf6 := hXB6.frozen))
            all_goals
              have h9 := HOK.out w6 F6 d3 hP6 hU56 hK56 HST.out HRR0
            · have hct : c' = t := by assumption
              rw [if_pos hct, show c' - t = 0 by omega] at h9
              rw [hz3] at h9; exact h9
            · have hct : ¬ c' = t := by assumption
              rw [if_neg hct] at h9
              rw [hz3] at h9; exact h9
          · have t2 : (z2 != 0) = true := by simpa using hz2
            have HRR0 : Hid (r = (z2, d3)) := Lib.hid (HRR.out.trans (if_neg hz2))
            unfold exTW
            gi_wp2_with (first
              | (gi_at_call 112; go_must (refine (HC.out.inRound l).mono ?_); rintro e w4 ⟨v4, rfl, hO4, hP4, hU4⟩; obtain ⟨bb, cc, rfl, hcc, hbb⟩ := hO4.row64 h64'.out; have hqcc : ¬ cc = q := (by omega); have hucc : u ≤ cc := (by omega); have z0 := (boxed_block hI.args.ptr (HBL4.out _ hU4 _ (by omega) (by omega))).cell; have hpb4 := (hU4.block pb (heap_lt HPB.out) hnpb).trans HPB.out; have y14 := cell_of_row _ _ 1 _ _ _ hpb4; have y24 := cell_of_row _ _ 2 _ _ _ hpb4; simp only [List.getElem?_toArray, List.getElem?_cons_zero, List.getElem?_cons_succ] at y14 y24; have HPB4 := Lib.hid hpb4; clear hpb4)
              | ((show wpListIn _ _ _ _ _ (Oper.mk (some 58) _ _ _ _ _ :: _) _ _); go_must (refine wpListIn_copy_ownb rfl _ _ rfl hO4 q t (cc - q) (some ⟨db, dd, none⟩) t c' (l'.take t) rfl rfl ((hS.upd hU4 (fun y hy _ => by cases hy; exact hdF')).take htn) rfl (by have := h64'.out; omega) ?_); intro w5 hO5 hb5; obtain ⟨ab, cb, eb, hS5, -⟩ := id hO5.sl; injection eb with eb1 eb2 eb3; subst eb1 eb3; rw [← eb2] at hS5; clear eb2; have hz4 : W.heap.size ≤ w4.heap.size := hU4.size; have hpbl := heap_lt HPB.out; have hptr5 : w5.heap[w.heap.size]? = W.heap[w.heap.size]? := (hb5.block _ (by omega) (by omega)).trans (HBL4.out _ hU4 _ (by omega) (by omega)); have z05 := (boxed_block hI.args.ptr hptr5).cell; have hpb5 := (hb5.block pb (by omega) (by omega)).trans HPB4.out; have y05 := cell_of_row _ _ 0 _ _ _ hpb5; simp only [List.getElem?_toArray, List.getElem?_cons_zero] at y05; clear hpb5)
              | (gi_at_call 53; obtain ⟨hP5, hK5, hT5, hU5⟩ := HMID.out w4 w5 bb cc _ hP4 hU4 hO4 hbb hb5; have hcall := CallsIn.inRound l ((callsIn_wide (n := 1)).2 (sd_write_at hP5 iz hS5 (HNB.out bb hbb w4) HWQ.out)); go_must (refine hcall.mono ?_); rintro e w6 ⟨rfl, F6, hP6, hU6⟩; have hU56 := hU5.trans hU6; have hK56 := HK6.out _ _ _ _ hK5 hT5 hU6; have hE6 := boxed_block hI.err (HBL6.out _ _ hU56 _ (by omega) (by omega)); have c3 := hE6.cell; have f3 := hE6.frozen))
            exact HERR.out w6 F6 d3 z2 hP6 hU56 hK56 HRR0
        · have t1 : (z != 0) = true := by simpa using hz
          have HRZ : Hid (r = (z, d2)) := by
            refine Lib.hid ?_
            rw [HA.out, HNK.out]
            have e1 := HRD1.out
            rw [HIZ.out, HP.out] at e1
            rw [HT.out, HP.out] at ht64
            exact Extent.wr_rerr ht64 e1 hz
          unfold exTW
          gi_wp2_with (gi_at_call 112; go_must (refine (HC.out.inRound l).mono ?_); rintro e w4 ⟨v4, rfl, hO4, hP4, hU4⟩; have hE4 := boxed_block hI.err (HBL4.out _ hU4 _ (by omega) (by omega)); have c3 := hE4.cell; have f3 := hE4.frozen)
          exact HERR.out w4 _ d2 z hP4 hU4 (HK4.out _ hU4) HRZ
      · have k1 : decide ((t : Int) < 64) = false := by simp; omega
        rcases hwr : Disk.write d1 iz (l'.take t) with ⟨z2, d3⟩
        have HWR := Lib.hid hwr
        clear hwr
        have HRR : Hid (r = if z2 = 0 then Extent.wr f0 o0 (o0 + n) (N - (k + 1)) (k + 1) (l'.drop t) d3 else (z2, d3)) := by
          refine Lib.hid ?_
          rw [HA.out, HNK.out]
          have e2 := HWR.out
          rw [HIZ.out, HP.out] at e2
          rw [HT.out, HP.out] at e2 ht64 ⊢
          exact Extent.wr_full ht64 e2
        have hst : d3.st.length = d.st.length := by
          have e2 := Disk.write_st d1 iz (l'.take t)
          rw [HWR.out] at e2
          simp only at e2
          rw [e2]; exact hlen
        have hbl6 : ∀ (w6 : World) (F6 : Nat → Prop), Upd F' W F6 w6 → ∀ q, w.heap.size ≤ q → q < X + 3 → w6.heap[q]? = W.heap[q]? := fun w6 F6 hU q h1 h2 => hU.block q (by omega) (nF' q h1 h2)
        have hk6 : ∀ (w6 : World) (F6 : Nat → Prop), Upd F' W F6 w6 → KeepsFrom w3.heap.size W w6 := fun w6 F6 h3 => h3.keepsT hI.tight (by omega)
        have HBL6 := Lib.hid hbl6
        have HK6 := Lib.hid hk6
        have HST := Lib.hid hst
        have HC := Lib.hid ((callsIn_wide (n := 1)).2 (sd_write_at hP iz (hS.take htn) (fun y hy _ => by cases hy; exact hdF') HWR.out))
        clear hst hbl6 hk6
        by_cases hz2 : z2 = 0
        · subst hz2
          have HRR0 : Hid (r = Extent.wr f0 o0 (o0 + n) (N - (k + 1)) (k + 1) (l'.drop t) d3) := Lib.hid (HRR.out.trans (if_pos rfl))
          unfold exTW
          gi_wp2_with (gi_at_call 53; go_must (refine (HC.out.inRound l).mono ?_); rintro e w6 ⟨rfl, F6, hP6, hU6⟩; have hXB6 := boxed_block hX (HBL6.out _ _ hU6 _ (by omega) (by omega)); have xX6 := hXB6.cell; have xXf6 := hXB6.frozen)
          all_goals
            have h9 := HOK.out w6 F6 d3 hP6 hU6 (HK6.out _ _ hU6) HST.out HRR0
          · have hct : c' = t := by assumption
            rw [if_pos hct, show c' - t = 0 by omega] at h9
            rw [hz3] at h9; exact h9
          · have hct : ¬ c' = t := by assumption
            rw [if_neg hct] at h9
            rw [hz3] at h9; exact h9
        · have t2 : (z2 != 0) = true := by simpa using hz2
          have HRR0 : Hid (r = (z2, d3)) := Lib.hid (HRR.out.trans (if_neg hz2))
          unfold exTW
          gi_wp2_with (gi_at_call 53; go_must (refine (HC.out.inRound l).mono ?_); rintro e w6 ⟨rfl, F6, hP6, hU6⟩; have hE6 := boxed_block hI.err (HBL6.out _ _ hU6 _ (by omega) (by omega)); have c3 := hE6.cell; have f3 := hE6.frozen)
          exact HERR.out w6 F6 d3 z2 hP6 hU6 (HK6.out _ _ hU6) HRR0
    case done =>
      rintro D W hD ⟨F', hI⟩ hK
      obtain ⟨l', d1, a', n', c', HA, hP, hlen, hX, hS, hl', hb⟩ := hI.acc
      have hRA : r = (0, d1) := by rw [HA.out, Nat.sub_self]; rfl
      have f3 := hI.err.frozen
      have c3 := hI.err.cell
      have HF := Lib.hid (hI.err.set (.int .i64 0))
      have HRA := Lib.hid hRA
      clear hRA
      gi_wp2
      go_wp2
      have hE2 := HF.out
      have hbig := hI.big
      have hD2 : (W.setCell ⟨w.heap.size + 1 + 1 + 1, 0, none⟩ (.int .i64 0)).heap[D]? = some (.deferred (some [])) :=
        (heap_setCell_other _ _ _ _ (show D ≠ w.heap.size + 1 + 1 + 1 by omega)).trans hK
      have d3 := (boxed_block hE2 (World.putObj_heap_other (o := .deferred none) (cells_ne hE2 hD2 rfl))).cell
      refine ⟨by simp, .inl ⟨_, _, rfl, run_takeDeferred hD2, ⟨.int .i64 0, by simp [results, Tryz.results108, go_sem, d3], ?_⟩⟩⟩
      rw [HRA.out]
      have n3 : ¬ F' (w.heap.size + 1 + 1 + 1) := fun e => by
        rcases hI.lo _ e with e | e
        · have := hnF _ e; omega
        · omega
      have nD : ¬ F' D := fun e => by
        rcases hI.tight D e with e | e
        · omega
        · exact IsCells.not hK rfl e
      exact ⟨rfl, F', (hP.other n3 _ _).putO nD _, (hI.upd.setCell (.inr (by omega)) _ _).putO (.inr (by omega)) _⟩
    case stop =>
      rintro D cd k W hD hk hI hK
      have hI2 := hI.putO hmw (o' := .deferred none) (by omega : w.heap.size ≤ D) hK rfl
      obtain ⟨rfl, z, d1, F', HA, hP, hU, hT, hE⟩ := hI2
      have d3 := hE.cell
      gi_wp2
      refine ⟨by simp, .inl ⟨_, _, rfl, run_takeDeferred hK, ⟨.int .i64 z, by simp [results, Tryz.results108, go_sem, d3], ?_⟩⟩⟩
      rw [HA.out]
      exact ⟨rfl, F', hP, hU⟩
  · rw [if_neg hck] at hr
    have HR := Lib.hid hr
    have t1 : (Extent.check d.st.length f c off n != 0) = true := by simpa using hck
    generalize Extent.check d.st.length f c off n = z at *
    clear hr hck
    go_wp2_with fail
    rw [← HW0.out]
    refine HCK.out.mono ?_; rintro e w1 ⟨rfl, hb1⟩
    have hP1 := hP0.ext hb1
    have hE1 := boxed_ext hE0 hb1
    have c3 := hE1.cell
    have f3 := hE1.frozen
    have HF := Lib.hid (hE1.set (.int .i64 z))
    go_wp2
    have d3 := HF.out.cell
    refine ⟨.int .i64 z, by simp [results, Tryz.results108, go_sem, d3], ?_⟩
    have hnF : ∀ k, w.heap.size ≤ k → ¬ F k := fun k hk e => by have := h.lt k e; omega
    rw [HR.out]
    exact ⟨rfl, F, hP1.other (hnF _ (by omega)) _ _, ((Upd.of_ext hB0).ext hb1).setCell (.inr (by omega)) _ _⟩

theorem ex_write {F : Nat → Prop} {w : World} {g s m : Nat} {fa : Option Addr} {fn fc : Nat} {d : Disk.Dk} (h : PD F w g s m fa fn fc d) (f c off : Int) (hf : ib f) (hc : ib c) (ho : ib off) (a : Option Addr) (n ca : Nat) (x : List UInt8) (hx : SlB w a n ca x) (hF : ∀ y, a = some y → x ≠ [] → ¬ F y.block) :
    Calls Tryz.prog 108 #[.pointer (some ⟨g, 0, none⟩), .agg #[.int .i64 f, .int .i64 c], .int .i64 off, .slice a n ca] w (ExWritePost F w g s m fa fn fc (Extent.write d f c off x)) :=
  callsIn_wide.1 (ex_write_in h f c off hf hc ho a n ca x hx hF)

end Go.Proofs.YtmanejniepghlaaGreatDoor
