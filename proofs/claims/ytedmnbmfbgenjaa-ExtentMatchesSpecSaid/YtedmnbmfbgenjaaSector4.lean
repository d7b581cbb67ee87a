/-
  The walks through Image, Arm, New, Load of the package sector.
-/
import Derived.Test.YtedmnbmfbgenjaaSector3
namespace Go.Proofs.Ytedmnbmfbgenjaa
open Go.RowKit

theorem sd_image_nil (w : World) : Calls Try.prog 19 #[.pointer none] w fun e w' => e = .returned (.slice none 0 0) ∧ w = w' := by
  go_enter Try.func19, Try.ntmps19
  go_wp2
  go_ret
  exact ⟨rfl, rfl⟩
theorem sd_image {F : Nat → Prop} {w : World} {g s m : Nat} {fa : Option Addr} {fn fc : Nat} {d : Disk.Dk} (h : PD F w g s m fa fn fc d) :
    Calls Try.prog 19 #[.pointer (some ⟨g, 0, none⟩)] w fun e w' => ∃ v, e = .returned v ∧ OwnB w.heap.size w' v d.st.flatten ∧ Below w.heap.size w w' := by
  have q0 := h.cells.1
  have hfl := Disk.flat_length _ h.ok.st64
  have hmx := h.ok.max
  have hs : SlB w (some ⟨s, 0, none⟩) (64 * d.st.length) (64 * d.st.length) d.st.flatten := by
    have := h.row.slb 0 (64 * d.st.length) (64 * d.st.length) (by omega) (Nat.le_refl _) (by unfold maxLen; omega)
    rwa [List.drop_zero, List.take_of_length_le (by omega)] at this
  have HC := Lib.hid (sl_clone _ _ _ _ w hs (by omega))
  clear hfl hs
  generalize d.st.length = n at *
  go_enter Try.func19, Try.ntmps19
  go_wp2_with (go_at_call 64; refine HC.out.mono ?_; rintro e w1 ⟨v, rfl, hO, hB⟩)
  go_ret
  exact ⟨v, rfl, hO, hB⟩

/-! ### Arm -/
theorem sd_bad (p : Int × Int) (w : World) : Calls Try.prog 73 #[.agg #[.int .i64 p.1, .int .i64 p.2]] w fun e w' => e = .returned (.bool (Disk.badf p)) ∧ Below w.heap.size w w' := by
  obtain ⟨a, k⟩ := p
  obtain ⟨r, hr⟩ : ∃ r, r = Disk.badf (a, k) := ⟨_, rfl⟩
  rw [← hr]
  unfold Disk.badf at hr
  simp only at hr ⊢
  by_cases h1 : k = 1
  · subst h1
    by_cases ha : a < 0
    all_goals
      have hr2 : r = decide (a < 0) := by rw [hr]; simp
      have HR := Lib.hid hr2
      clear hr hr2
      go_enter Try.func73, Try.ntmps73
      go_wp2
      go_ret
      exact ⟨by rw [HR.out]; simp [ha], (Below.refl _ _).alloc (Nat.le_refl _) _⟩
  by_cases h2 : k = 2
  · subst h2
    by_cases ha : a < 0
    all_goals
      have hr2 : r = decide (a < 0) := by rw [hr]; simp
      have HR := Lib.hid hr2
      clear hr hr2
      go_enter Try.func73, Try.ntmps73
      go_wp2
      go_ret
      exact ⟨by rw [HR.out]; simp [ha], (Below.refl _ _).alloc (Nat.le_refl _) _⟩
  · have t1 : (k != 1) = true := by simpa using h1
    have t2 : (k != 2) = true := by simpa using h2
    have hr2 : r = true := by rw [hr, t1, t2]; rfl
    subst hr2
    clear hr h1 h2
    go_enter Try.func73, Try.ntmps73
    go_wp2
    go_ret
    exact ⟨rfl, (Below.refl _ _).alloc (Nat.le_refl _) _⟩

theorem any_take (l : List (Int × Int)) (k : Nat) (hk : k < l.length) (h : (l.take k).any Disk.badf = false) (h2 : Disk.badf (l[k]?.getD (0, 0)) = false) : (l.take (k + 1)).any Disk.badf = false := by
  rw [List.take_succ_eq_append_getElem hk, List.any_append, h]
  rw [List.getElem?_eq_getElem hk] at h2
  simpa using h2
theorem any_hit (l : List (Int × Int)) (k : Nat) (hk : k < l.length) (h2 : Disk.badf (l[k]?.getD (0, 0)) = true) : l.any Disk.badf = true := by
  rw [List.getElem?_eq_getElem hk] at h2
  exact List.any_eq_true.2 ⟨_, List.getElem_mem hk, h2⟩

def IdxPost (l : List (Int × Int)) (w : World) (e : Ending) (w' : World) : Prop := ∃ z : Int, e = .returned (.int .i64 z) ∧ decide (0 ≤ z) = l.any Disk.badf ∧ Below w.heap.size w w'

set_option maxRecDepth 100000 in
set_option maxHeartbeats 1000000 in
theorem sd_index (a : Option Addr) (n c : Nat) (l : List (Int × Int)) (w : World) (h : SlP w a n c l) :
    Calls Try.prog 88 #[.slice a n c, .func (.func 73) #[] #[]] w (IdxPost l w) := by
  have HLN := Lib.hid h.len
  have hle := h.le
  go_enter Try.func88, Try.ntmps88
  go_wp2
  go_loopw [8] (fun i wr => ∃ k : Nat, k ≤ n ∧ i = .int .i64 k ∧ Hid ((l.take k).any Disk.badf = false) ∧ Below w.heap.size w wr) (fun i _ => n - (intOf i).toNat)
  case atStart => exact ⟨0, Nat.zero_le _, rfl, Lib.hid rfl, Below.refl _ _⟩
  case round =>
    obtain ⟨k, hk, rfl, HA, hB⟩ := hrel
    by_cases hlt : k < n
    · obtain ⟨b, o, rfl, hb, y1, y2⟩ := (h.ext hB).at hlt
      have HT := Lib.hid (any_take l k (by rw [HLN.out]; exact hlt) HA.out)
      have HH := Lib.hid (any_hit l k (by rw [HLN.out]; exact hlt))
      generalize l[k]?.getD (0, 0) = pr at *
      obtain ⟨z1, z2⟩ := pr
      simp only at y1 y2
      have HC := Lib.hid (fun W => sd_bad (z1, z2) W)
      generalize Disk.badf (z1, z2) = bb at *
      have hsz := hB.size
      have b0 : (0 : Int) ≤ (k : Int) := by omega
      cases bb with
      | true =>
        go_wp2_with (go_at_call 73; refine (HC.out _).mono ?_; rintro e w1 ⟨rfl, hb1⟩)
        go_ret
        exact ⟨k, rfl, by rw [HH.out trivial]; simp, hB.trans (Below.mono hb1 hsz)⟩
      | false =>
        go_wp2_with (go_at_call 73; refine (HC.out _).mono ?_; rintro e w1 ⟨rfl, hb1⟩)
        go_roundw
        case rel => exact ⟨k + 1, by omega, by go_num, Lib.hid (HT.out trivial), hB.trans (Below.mono hb1 hsz)⟩
        case measure => simp [intOf]; omega
    · obtain rfl : k = n := by omega
      go_wp2
      go_ret
      refine ⟨-1, rfl, ?_, hB⟩
      have := HA.out
      rw [List.take_of_length_le (by rw [HLN.out]; exact Nat.le_refl _)] at this
      rw [this]; rfl

theorem sd_contains (a : Option Addr) (n c : Nat) (l : List (Int × Int)) (w : World) (h : SlP w a n c l) :
    Calls Try.prog 74 #[.slice a n c, .func (.func 73) #[] #[]] w fun e w' => e = .returned (.bool (l.any Disk.badf)) ∧ Below w.heap.size w w' := by
  have HC := Lib.hid (sd_index a n c l w h)
  go_enter Try.func74, Try.ntmps74
  go_wp2_with (go_at_call 88; refine HC.out.mono ?_; rintro e w1 ⟨z, rfl, hz, hb⟩; have HZ := Lib.hid hz; clear hz)
  go_ret
  exact ⟨by rw [← HZ.out]; rfl, hb⟩

theorem PD.grow {F F' : Nat → Prop} {w : World} {g s m : Nat} {fa : Option Addr} {fn fc : Nat} {d : Disk.Dk} (h : PD F w g s m fa fn fc d) (h1 : ∀ k, F k → F' k) (h2 : ∀ k, F' k → k < w.heap.size) : PD F' w g s m fa fn fc d :=
  ⟨h.ok, h.box, h.row, h.map.mono (fun _ hk => ⟨h1 _ hk.1, hk.2⟩), h.flt, fun x hx hl => ⟨h1 _ (h.fltF x hx hl).1, (h.fltF x hx hl).2⟩, h2, h1 _ h.Fg, h1 _ h.Fs, h1 _ h.Fm⟩

def ArmPost (F : Nat → Prop) (w : World) (g s m : Nat) (r : Int × Disk.Dk) (e : Ending) (w' : World) : Prop :=
  e = .returned (.int .i64 r.1) ∧ ∃ F' fa fn fc, PD F' w' g s m fa fn fc r.2 ∧ Upd F w F' w'

theorem sd_arm_nil (a : Option Addr) (n c : Nat) (w : World) : Calls Try.prog 36 #[.pointer none, .slice a n c] w fun e w' => e = .returned (.int .i64 1) ∧ w = w' := by
  go_enter Try.func36, Try.ntmps36
  go_wp2
  go_ret
  exact ⟨rfl, rfl⟩

set_option maxRecDepth 100000 in
set_option maxHeartbeats 1000000 in
theorem sd_arm {F : Nat → Prop} {w : World} {g s m : Nat} {fa : Option Addr} {fn fc : Nat} {d : Disk.Dk} (h : PD F w g s m fa fn fc d) (a : Option Addr) (n c : Nat) (l : List (Int × Int)) (hl : SlP w a n c l) :
    Calls Try.prog 36 #[.pointer (some ⟨g, 0, none⟩), .slice a n c] w (ArmPost F w g s m (Disk.arm d l)) := by
  have hle := hl.le
  have HLN := Lib.hid hl.len
  obtain ⟨r, hr⟩ : ∃ r, r = Disk.arm d l := ⟨_, rfl⟩
  rw [← hr]
  unfold Disk.arm Disk.validFaults at hr
  rw [HLN.out] at hr
  by_cases hn : n ≤ 64
  · rw [decide_eq_true hn, Bool.true_and] at hr
    have HC := Lib.hid (sd_contains a n c l w hl)
    cases hany : l.any Disk.badf with
    | true =>
      rw [hany] at hr HC
      rw [if_neg (by decide)] at hr
      have HR := Lib.hid hr
      clear hr hany
      go_enter Try.func36, Try.ntmps36
      go_wp2_with (go_at_call 74; refine HC.out.mono ?_; rintro e w1 ⟨rfl, hb⟩)
      go_ret
      rw [HR.out]; exact ⟨rfl, F, fa, fn, fc, h.ext hb, Upd.of_ext hb⟩
    | false =>
      rw [hany] at hr HC
      rw [if_pos (by decide)] at hr
      have HR := Lib.hid hr
      clear hr hany
      go_enter Try.func36, Try.ntmps36
      go_wp2_with fail
      refine HC.out.mono ?_; rintro e w1 ⟨rfl, hb1⟩
      go_wp2_with fail
      refine (sl_clone_faults a n c l w1 (hl.ext hb1) (by omega)).mono ?_; rintro e w2 ⟨v, rfl, hO, hb2⟩
      have hb := hb1.trans (Below.mono hb2 hb1.size)
      obtain ⟨a2, c2, rfl, hs2, hbl⟩ := hO.sl
      have hP := (h.ext hb).grow (F' := fun k => F k ∨ ∃ x, a2 = some x ∧ k = x.block) (fun k hk => .inl hk) (fun k hk => by
        rcases hk with hk | ⟨x, hx, rfl⟩
        · exact Nat.lt_of_lt_of_le (h.lt k hk) hb.size
        · exact (hbl x hx).2)
      have hU : Upd F w (fun k => F k ∨ ∃ x, a2 = some x ∧ k = x.block) w2 := (Upd.of_ext hb).grow (fun k hk => by
        rcases hk with hk | ⟨x, hx, rfl⟩
        · exact .inl hk
        · exact .inr (Nat.le_trans hb1.size (hbl x hx).1))
      have hP2 := (hP.setFs a2 l.length c2 l hs2 (fun y hy _ => by
        have h1 := (hbl y hy).1
        have h2 := hb1.size
        exact ⟨.inr ⟨y, hy, rfl⟩, by have := h.lt g h.Fg; omega, by have := h.lt s h.Fs; omega, by have := h.lt m h.Fm; omega⟩)).setCnt 0
      have q2 := hP.cells.2.2.1
      have q3 := hP.cells.2.2.2.1
      have f2 := hP.free 2
      have f3 := hP.free 3
      go_wp2_with fail
      go_ret
      rw [HR.out]; exact ⟨rfl, _, _, _, _, hP2, (hU.setCell (.inl h.Fg) _ _).setCell (.inl h.Fg) _ _⟩
  · rw [decide_eq_false hn, Bool.false_and, if_neg (by decide)] at hr
    have HR := Lib.hid hr
    have hn' : 64 < n := by omega
    clear hr hn
    go_enter Try.func36, Try.ntmps36
    go_wp2_with fail
    go_ret
    rw [HR.out]; exact ⟨rfl, F, fa, fn, fc, h, Upd.refl _ _⟩

/-! ### New, Load -/
/-- Blocks of a disk that was just made. -/
def Three (a b c : Nat) (k : Nat) : Prop := k = a ∨ k = b ∨ k = c

theorem PD.made (n : Nat) (h1 : 1 ≤ n) (h2 : n ≤ 4096) {w w1 : World} (hO : OwnB w.heap.size w1 (.slice (some ⟨w.heap.size, 0, none⟩) (64 * n) (64 * n)) (List.replicate (64 * n) 0)) :
    PD (Three (w1.heap.size + 1) w.heap.size w1.heap.size) ((w1.alloc (.map #[] 0)).alloc (.cells #[.slice (some ⟨w.heap.size, 0, none⟩) (64 * n) (64 * n), .map (some w1.heap.size), .slice none 0 0, .int .i64 0, .bool false] 92 (0, 0)))
      (w1.heap.size + 1) w.heap.size w1.heap.size none 0 0 (Disk.new n) := by
  obtain ⟨_, hrow⟩ := hO.isRow
  have hlt := heap_lt hrow
  refine ⟨Disk.new_ok n h1 h2, ?_, ?_, ?_, SlP.nil _, (fun x hx => by cases hx), fun k hk => ?_, .inl rfl, .inr (.inl rfl), .inr (.inr rfl)⟩
  · rw [heap_alloc_eq _ _ _ (by simp)]; simp [Disk.new]
  · unfold RowIs
    rw [heap_alloc_lt _ _ _ (by simp; omega), heap_alloc_lt _ _ _ hlt, Disk.new_flat]; exact hrow
  · have := MapIs.made (Rw (Three (w1.heap.size + 1) w.heap.size w1.heap.size) (w1.heap.size + 1) w.heap.size w1.heap.size) w1 n
    refine this.stay (fun b _ hb => heap_alloc_lt _ _ _ hb) (heap_alloc_lt _ _ _ (by simp)) (by simp)
  · rcases hk with rfl | rfl | rfl <;> simp <;> omega

theorem info5' : (Try.prog.info? 5).map (fun i => (i.zero, i.size, i.bytes)) = some (some (.int .u8 0), 1, 1) := by kernel_rfl
theorem madeB (n : Nat) : (madeCells (Value.int .u8 0).cells (n * 1)).toList = (List.replicate n (0 : UInt8)).map bv := by
  rw [Nat.mul_one, show madeCells (Value.int .u8 0).cells n = madeCells #[.int .u8 0] n from rfl, toList_madeCells_one]; simp [bv]

def NewPost (w : World) (d : Disk.Dk) (e : Ending) (w' : World) : Prop :=
  ∃ F g s m fa fn fc, e = .returned (.tuple #[.pointer (some ⟨g, 0, none⟩), .int .i64 0]) ∧ PD F w' g s m fa fn fc d ∧ (∀ k, F k → w.heap.size ≤ k) ∧ Below w.heap.size w w'

theorem sd_new_bad (z : Int) (h : z < 1 ∨ 4096 < z) (w : World) : Calls Try.prog 13 #[.int .i64 z] w fun e w' => e = .returned (.tuple #[.pointer none, .int .i64 2]) ∧ w = w' := by
  by_cases h1 : z < 1
  · clear h
    go_enter Try.func13, Try.ntmps13
    go_wp2
    go_ret2
    exact ⟨rfl, rfl⟩
  · have h2 : 4096 < z := by omega
    clear h
    go_enter Try.func13, Try.ntmps13
    go_wp2
    go_ret2
    exact ⟨rfl, rfl⟩

set_option maxRecDepth 100000 in
theorem sd_new (n : Nat) (h1 : 1 ≤ n) (h2 : n ≤ 4096) (w : World) (z : Int) (hz : z = (n : Int)) : Calls Try.prog 13 #[.int .i64 z] w (NewPost w (Disk.new n)) := by
  subst hz
  obtain ⟨i0, hi, hz0, hz1, hz2⟩ := info_parts info5'
  have HI := Lib.hid (And.intro hi (And.intro hz0 (And.intro hz1 hz2)))
  have HM := Lib.hid (madeB (64 * n))
  have hmm := @run_makeMap Try.prog
  clear hi hz0 hz1 hz2
  go_enter Try.func13, Try.ntmps13
  go_wp2_with (refine wpList_make_full _ rfl _ _ 26 rfl w.heap.size 5 i0 (.int .u8 0) 1 Try.underlying26 HI.out.1 HI.out.2.1 HI.out.2.2.1 .i64 .i64 _ _ (64 * n) rfl rfl (by omega) (by omega) (by rw [HI.out.2.2.2]; omega) (by unfold maxLen; omega) (Nat.le_refl _) ?_; intro w1 hown hg1; rw [HM.out] at hown; have hO : OwnB w.heap.size w1 (.slice (some ⟨w.heap.size, 0, none⟩) (64 * n) (64 * n)) (List.replicate (64 * n) 0) := (by unfold OwnB; rw [List.length_replicate]; exact hown); have hb1 := (Below.refl w.heap.size w).grown hg1 (Nat.le_refl _) (fun k hk => by cases hk); have HP := Lib.hid (PD.made n h1 h2 hO))
  go_ret2
  have hz1 := hb1.size
  have hlt1 : w.heap.size < w1.heap.size := heap_lt hO.isRow.2
  exact ⟨_, _, _, _, _, _, _, rfl, HP.out, (fun k hk => by rcases hk with rfl | rfl | rfl <;> omega), (hb1.alloc (by omega) _).alloc (by simp; omega) _⟩

theorem chunks_none (n : Nat) (l : List UInt8) : Disk.load n l = { Disk.new n with st := Disk.chunks n l } := rfl

theorem sd_load_bad (a : Option Addr) (n c : Nat) (hc : n ≤ 9223372036854775807) (h : n % 64 ≠ 0 ∨ n / 64 < 1 ∨ 4096 < n / 64) (w : World) : Calls Try.prog 47 #[.slice a n c] w fun e w' => e = .returned (.tuple #[.pointer none, .int .i64 2]) ∧ w = w' := by
  by_cases h1 : n % 64 = 0
  · have HN := Lib.hid (sd_new_bad ((n / 64 : Nat) : Int) (by omega) w)
    obtain ⟨k, hk⟩ : ∃ k, k = n / 64 := ⟨_, rfl⟩
    have hn : n = 64 * k := by omega
    subst hn
    have e1 : 64 * k / 64 = k := by omega
    rw [e1] at HN h
    clear h1 hk e1
    go_enter Try.func47, Try.ntmps47
    go_wp2_with fail
    refine HN.out.mono ?_; rintro e w1 ⟨rfl, rfl⟩
    go_wp2_with fail
    go_ret2
    exact ⟨rfl, rfl⟩
  · have t1 : ((n : Int) % 64 != 0) = true := by simp; omega
    have t2 : ((n : Int) % 64 == 0) = false := by simp; omega
    clear h h1
    go_enter Try.func47, Try.ntmps47
    go_wp2_with fail
    go_ret2
    exact ⟨rfl, rfl⟩

set_option maxRecDepth 100000 in
theorem sd_load (a : Option Addr) (k c : Nat) (l : List UInt8) (w : World) (h1 : 1 ≤ k) (h2 : k ≤ 4096) (n : Nat) (hn : n = 64 * k) (h : SlB w a n c l) : Calls Try.prog 47 #[.slice a n c] w (NewPost w (Disk.load k l)) := by
  subst hn
  have HLN := Lib.hid h.len
  have HN := Lib.hid (sd_new k h1 h2 w k rfl)
  go_enter Try.func47, Try.ntmps47
  go_wp2_with fail
  refine HN.out.mono ?_; rintro e w1 ⟨F, g, s, m, fa, fn, fc, rfl, hP, hF, hB⟩
  have q0 := hP.cells.1
  have h1' := h.ext hB
  have e1 : (Disk.new k).st.length = k := by simp [Disk.new]
  rw [e1] at q0
  have hok := hP.ok
  have hfl := Disk.flat_length _ hok.st64
  rw [e1] at hfl
  have HFL := Lib.hid hfl
  clear e1 hfl
  go_wp2_with ((show wpList _ _ _ (Oper.mk (some 25) _ _ _ _ _ :: _) _ _); go_must (refine wpList_copy_bytes rfl _ _ rfl s 0 (64 * k) _ a (64 * k) c l rfl rfl 5 _ hP.row h1' (by rw [HFL.out]; omega) ?_); intro w2 hr2 hb2)
  go_ret2
  have hr3 : RowIs w2 s 5 (Disk.chunks k l).flatten := by
    rw [Disk.chunks_flat k l HLN.out]
    rw [List.take_zero, List.nil_append, List.take_of_length_le (by rw [HLN.out]; exact Nat.le_refl _), List.drop_of_length_le (by rw [HFL.out]; omega), List.append_nil] at hr2
    exact hr2
  have hP2 := hP.setSt hb2 (Disk.chunks k l) (by rw [Disk.chunks_length]; simp [Disk.new]) (Disk.chunks_mem k l HLN.out) hr3
  exact ⟨F, g, s, m, fa, fn, fc, rfl, hP2, hF, But.below hB hb2 (hF s hP.Fs) hB.size⟩

end Go.Proofs.Ytedmnbmfbgenjaa
