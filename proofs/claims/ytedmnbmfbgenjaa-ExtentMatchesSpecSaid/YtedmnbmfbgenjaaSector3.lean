/-
  The walks through Sync, Restart, Image of the package sector.
-/
import Derived.Test.YtedmnbmfbgenjaaSector2
namespace Go.Proofs.Ytedmnbmfbgenjaa
open Go.RowKit

namespace Disk
/-- The stored sectors when those of done have come. -/
def stAt (d : Dk) (done : Nat → Bool) : List (List UInt8) := (List.range d.st.length).map fun i => if done i then content d i else d.st[i]?.getD []
theorem stAt_length (d : Dk) (done : Nat → Bool) : (stAt d done).length = d.st.length := by simp [stAt]
theorem stAt_none (d : Dk) : stAt d (fun _ => false) = d.st := by
  unfold stAt
  apply List.ext_getElem
  · simp
  · intro i h1 h2
    simp [h2]
theorem stAt_all (d : Dk) (done : Nat → Bool) (h : ∀ (i : Nat) (x : List UInt8), d.ca[i]? = some (some x) → done i = true) : stAt d done = (List.range d.st.length).map (content d) := by
  unfold stAt
  refine List.map_congr_left fun i _ => ?_
  split
  · rfl
  · rename_i hd
    unfold content
    cases hc : d.ca[i]? with
    | none => rfl
    | some o =>
      cases o with
      | none => rfl
      | some x => exact absurd (h i x hc) hd
theorem stAt_step (d : Dk) (done : Nat → Bool) (i : Nat) (_hi : i < d.st.length) (x : List UInt8) (hx : d.ca[i]? = some (some x)) : stAt d (fun k => done k || k == i) = (stAt d done).set i x := by
  unfold stAt
  apply List.ext_getElem
  · simp
  · intro k h1 h2
    simp only [List.getElem_map, List.getElem_range, List.getElem_set]
    by_cases hki : i = k
    · subst hki
      simp [content, hx]
    · have : (k == i) = false := by simp; omega
      simp [hki, this]
theorem stAt_64 {d : Dk} (h : d.Ok) (done : Nat → Bool) : ∀ x ∈ stAt d done, x.length = 64 := by
  intro x hx
  obtain ⟨i, hi, rfl⟩ := List.mem_map.1 hx
  have hi' := List.mem_range.1 hi
  split
  · exact content64 h i hi'
  · rw [List.getElem?_eq_getElem hi']; exact h.st64 _ (List.getElem_mem hi')
end Disk

/-- The stored sectors alone turn. -/
theorem PD.setSt {F : Nat → Prop} {w w' : World} {g s m : Nat} {fa : Option Addr} {fn fc : Nat} {d : Disk.Dk} (h : PD F w g s m fa fn fc d) (k : But s w w') (st' : List (List UInt8)) (hl : st'.length = d.st.length) (h64 : ∀ x ∈ st', x.length = 64)
    (hr : RowIs w' s 5 st'.flatten) : PD F w' g s m fa fn fc { d with st := st' } :=
  ⟨⟨by rw [hl]; exact h.ok.len, by rw [hl]; exact h.ok.pos, by rw [hl]; exact h.ok.max, h64, h.ok.ca64⟩, by rw [hl]; exact (k.block g (h.lt g h.Fg) h.gs).trans h.box, hr, h.map.stay (fun b hb hlt => k.block b hlt hb.2.2.1) (k.block m (h.lt m h.Fm) (Ne.symm h.sm)) k.size, h.flt.stay (fun x hx hl => k.block _ (h.lt _ (h.fltF x hx hl).1) (h.fltF x hx hl).2.2.1) k.size, h.fltF, fun b hb => Nat.lt_of_lt_of_le (h.lt b hb) k.size, h.Fg, h.Fs, h.Fm⟩

/-- The cache is cleared. -/
theorem PD.clear {F : Nat → Prop} {w : World} {g s m : Nat} {fa : Option Addr} {fn fc : Nat} {d : Disk.Dk} (h : PD F w g s m fa fn fc d) (o : Obj) (hM : ∀ R' n, MapIs R' (ChangeMaps.setBlock w m o) m (List.replicate n none)) :
    PD F (ChangeMaps.setBlock w m o) g s m fa fn fc { d with ca := List.replicate d.ca.length none } :=
  ⟨⟨by rw [List.length_replicate]; exact h.ok.len, h.ok.pos, h.ok.max, h.ok.st64, fun x hx => by simp at hx⟩, (setBlock_other _ _ h.gm).trans h.box, h.row.keep (setBlock_other _ _ h.sm), hM _ _, h.flt.stay (fun y hy hl => setBlock_other _ _ (h.fltF y hy hl).2.2.2) (by rw [setBlock_size]; exact Nat.le_refl _), h.fltF, fun b hb => by rw [setBlock_size]; exact h.lt b hb, h.Fg, h.Fs, h.Fm⟩

/-- Where the loop of Sync stands. -/
def SyncRel (F : Nat → Prop) (w : World) (g s m : Nat) (fa : Option Addr) (fn fc : Nat) (d : Disk.Dk) (ri : Nat) (wr : World) : Prop :=
  ∃ (done : Nat → Bool) (cnt : Nat), MRange (Rw F g s m) wr m ri d.ca done cnt ∧ PD F wr g s m fa fn fc { d with st := Disk.stAt d done } ∧ Upd F w F wr

theorem sync_err {d d' : Disk.Dk} {e : Int} (hb : Disk.begin d true = (false, e, d')) (he : e ≠ 0) : Disk.sync d = (e, d') := by
  unfold Disk.sync; rw [hb]; exact if_neg he
theorem sync_off {d d' : Disk.Dk} {e : Int} (hb : Disk.begin d true = (true, e, d')) : Disk.sync d = (10, Disk.cut d') := by
  unfold Disk.sync; rw [hb]
theorem sync_ok {d d' : Disk.Dk} (hb : Disk.begin d true = (false, 0, d')) : Disk.sync d = (0, Disk.flush d') := by
  unfold Disk.sync; rw [hb]; exact if_pos rfl

theorem sd_sync_nil (w : World) : Calls Try.prog 34 #[.pointer none] w fun e w' => e = .returned (.int .i64 10) ∧ w = w' := by
  go_enter Try.func34, Try.ntmps34
  go_wp2_with (go_at_call 63; refine (sd_begin_nil _ _).mono ?_; rintro e w' ⟨rfl, rfl⟩)
  go_ret
  exact ⟨rfl, rfl⟩

set_option maxRecDepth 100000 in
set_option maxHeartbeats 2000000 in
theorem sd_sync {F : Nat → Prop} {w : World} {g s m : Nat} {fa : Option Addr} {fn fc : Nat} {d : Disk.Dk} (h : PD F w g s m fa fn fc d) :
    Calls Try.prog 34 #[.pointer (some ⟨g, 0, none⟩)] w fun e w' => e = .returned (.int .i64 (Disk.sync d).1) ∧ PD F w' g s m fa fn fc (Disk.sync d).2 ∧ Upd F w F w' := by
  have HB := Lib.hid (sd_begin h)
  rcases begin_true d with ⟨e, d', he, hb⟩ | ⟨d', hb, hst, hca⟩ | ⟨d', hb, hst, hca⟩
  · have HR := Lib.hid (sync_err hb he)
    have HC := HB.out true
    rw [hb] at HC
    have HC := Lib.hid HC
    have t1 : (e != 0) = true := by simpa using he
    clear hb he HB
    generalize Disk.sync d = r at *
    go_enter Try.func34, Try.ntmps34
    go_wp2_with (first | (go_at_call 63; refine HC.out.mono ?_; rintro e1 w1 ⟨rfl, hP, hU⟩))
    go_ret
    rw [HR.out]; exact ⟨rfl, hP, hU⟩
  · have HR := Lib.hid (sync_off hb)
    have HC := HB.out true
    rw [hb] at HC
    have HC := Lib.hid HC
    clear hb HB hst hca
    generalize Disk.sync d = r at *
    go_enter Try.func34, Try.ntmps34
    go_wp2_with (first | (go_at_call 63; refine HC.out.mono ?_; rintro e1 w1 ⟨rfl, hP, hU⟩; have q4 := hP.cells.2.2.2.2; have f4 := hP.free 4; have HO := Lib.hid (hP.setOff true)))
    go_ret
    rw [HR.out]; exact ⟨rfl, HO.out, hU.setCell (.inl h.Fg) _ _⟩
  · have HR := Lib.hid (sync_ok hb)
    have HC := HB.out true
    rw [hb] at HC
    have HC := Lib.hid HC
    clear hb HB hst hca
    generalize Disk.sync d = r at *
    go_enter Try.func34, Try.ntmps34
    go_wp2_with fail
    refine HC.out.mono ?_; rintro e1 w1 ⟨rfl, hP, hU⟩
    change PD F w1 g s m fa fn fc d' at hP
    have q1 := hP.cells.2.1
    go_wp2_with (at_range; refine wpList_range_cache rfl _ rfl rfl hP.map (fun b hb => hP.lt b hb.1) ?_; intro o' cnt hM)
    go_frame
    have hFr : ¬ F w1.heap.size := fun e => Nat.lt_irrefl _ (hP.lt _ e)
    have hrw : F w1.heap.size ∨ w.heap.size ≤ w1.heap.size := .inr hU.size
    have hP0 := hP.alloc o'
    have hok0 := hP.ok
    have hU0 := hU.alloc o'
    have hsz0 : w1.heap.size < (w1.alloc o').heap.size := by simp
    clear q1 hP hU
    generalize w1.alloc o' = w2 at *
    generalize w1.heap.size = ri at *
    go_loopw [5] (fun _ wr => SyncRel F w g s m fa fn fc d' ri wr) (fun _ wr => wr.rangeLeft m ri)
    case atStart => exact ⟨_, cnt, hM, by rw [Disk.stAt_none]; exact hP0, hU0⟩
    case round =>
      obtain ⟨done, cnt, hM, hP, hU⟩ := hrel
      have hok := hP.ok
      have hlen := Disk.stAt_length d' done
      have HLEN := Lib.hid hlen
      have HCL := Lib.hid hok.len
      clear hlen
      go_wp2_with (at_next; refine wpList_next_cache rfl _ rfl rfl hM (fun b hb e => hFr (by rw [← e]; exact hb.1)) ?_ ?_)
      · intro hall
        have q1 := hP.cells.2.1
        go_wp2_with ((show wpList _ _ _ (Oper.mk none _ _ _ _ _ :: _) _ _); go_must (refine wpList_clear rfl (.tmp 37) rfl rfl hP.map ?_); intro o2 hM2)
        go_ret
        rw [HR.out]
        refine ⟨rfl, ?_, hU.setBlock (.inl h.Fm) _⟩
        have := hP.clear o2 hM2
        rw [Disk.stAt_all d' done hall] at this; exact this
      · intro i x b c W o' cnt' hci hil hdn hal hsx hRb hM' hlt hen
        have hW : ∀ k, F k → (ChangeMaps.setBlock W ri o').heap[k]? = wr.heap[k]? := fun k hk => (setBlock_other _ _ (by intro e; subst e; exact hFr hk)).trans (by rcases hal with rfl | rfl <;> rfl)
        have hWz : (ChangeMaps.setBlock W ri o').heap.size = wr.heap.size := by rw [setBlock_size]; rcases hal with rfl | rfl <;> rfl
        have hP' := hP.stay hW (Nat.le_of_eq hWz.symm)
        have hU' : Upd F w F (ChangeMaps.setBlock W ri o') := by
          rcases hal with rfl | rfl
          · exact hU.setBlock hrw o'
          · exact hU.drew.setBlock hrw o'
        have hi64 := hok.ca64 x (List.mem_of_getElem? hci)
        rw [hi64] at hsx hen ⊢
        have H64 := Lib.hid hi64
        clear hal hW hWz hi64
        generalize ChangeMaps.setBlock W ri o' = W2 at *
        have hi : i < d'.st.length := by rw [← HLEN.out]; have := HCL.out; change d'.ca.length = (Disk.stAt d' done).length at this; omega
        have HSL := Lib.hid (sd_slot hP' i (by rw [HLEN.out]; exact hi) i rfl)
        go_wp2_with (first | (go_at_call 65; refine HSL.out.mono ?_; rintro e2 w3 ⟨rfl, rfl⟩) | ((show wpList _ _ _ (Oper.mk (some 33) _ _ _ _ _ :: _) _ _); go_must (refine wpList_copy_bytes rfl _ _ rfl s (64 * i) 64 _ _ _ _ x rfl rfl 5 _ hP'.row hsx (by rw [Disk.flat_length _ hP'.ok.st64]; change 64 * i + min 64 64 ≤ 64 * (Disk.stAt d' done).length; rw [HLEN.out]; omega) ?_); intro w3 hr3 hb3))
        have hne : ri ≠ s := by rintro rfl; exact hFr h.Fs
        have hM3 := hM'.stay (fun b hb hlt => hb3.block b hlt hb.2.2.1) (hb3.block m hM'.map.lt (Ne.symm hP'.sm)) (hb3.block ri hM'.lt hne) hb3.size
        have hst : Disk.stAt d' (fun k => done k || k == i) = (Disk.stAt d' done).set i x := Disk.stAt_step d' done i hi x hci
        have hok' := Disk.stAt_64 (d := { d' with st := d'.st }) hok0 (fun k => done k || k == i)
        have hr4 : RowIs w3 s 5 (Disk.stAt d' (fun k => done k || k == i)).flatten := by
          have h1 := Disk.flat_set (Disk.stAt d' done) hok.st64 i (by rw [HLEN.out]; exact hi) x 64 H64.out (Nat.le_refl _)
          have h2 : ((Disk.stAt d' done)[i]?.getD []).drop 64 = [] := by
            have hi2 : i < (Disk.stAt d' done).length := by rw [HLEN.out]; exact hi
            rw [List.getElem?_eq_getElem hi2, Option.getD_some]
            exact List.drop_eq_nil_of_le (by have := hok.st64 _ (List.getElem_mem hi2); omega)
          rw [h2, List.append_nil] at h1
          rw [List.take_of_length_le (l := x) (i := 64) (by have := H64.out; omega)] at hr3
          change RowIs w3 s 5 ((Disk.stAt d' done).flatten.take (64 * i) ++ x ++ (Disk.stAt d' done).flatten.drop (64 * i + 64)) at hr3
          rw [h1, ← hst] at hr3; exact hr3
        have hP3 := hP'.setSt hb3 (Disk.stAt d' (fun k => done k || k == i)) (by simp only [Disk.stAt_length]) hok' hr4
        go_roundw
        case rel => exact ⟨_, _, hM3, hP3, hU'.but (.inl h.Fs) hb3⟩
        case measure => rw [hM3.left_eq, hM.left_eq]; exact hlt

/-- Other faults. -/
theorem PD.setFs {F : Nat → Prop} {w : World} {g s m : Nat} {fa : Option Addr} {fn fc : Nat} {d : Disk.Dk} (h : PD F w g s m fa fn fc d) (a : Option Addr) (n c : Nat) (fs : List (Int × Int)) (hf : SlP w a n c fs) (hF : ∀ y, a = some y → fs ≠ [] → Rw F g s m y.block) :
    PD F (w.setCell ⟨g, 2, none⟩ (.slice a n c)) g s m a n c { d with fs := fs } := by
  have k : ∀ b, b ≠ g → (w.setCell ⟨g, 2, none⟩ (.slice a n c)).heap[b]? = w.heap[b]? := fun b hb => heap_setCell_other _ _ _ _ hb
  have hz : (w.setCell ⟨g, 2, none⟩ (.slice a n c)).heap.size = w.heap.size := by simp
  exact ⟨⟨h.ok.len, h.ok.pos, h.ok.max, h.ok.st64, h.ok.ca64⟩, by rw [heap_setCell_same _ _ _ _ _ _ h.box]; rfl, h.row.keep (k s (Ne.symm h.gs)), h.map.stay (fun b hb _ => k b hb.2.1) (k m (Ne.symm h.gm)) (Nat.le_of_eq hz.symm), hf.stay (fun x hx hl => k _ (hF x hx hl).2.1) (Nat.le_of_eq hz.symm), hF, fun b hb => by rw [hz]; exact h.lt b hb, h.Fg, h.Fs, h.Fm⟩

/-- The disk behind the first keeps of a list, before the cache is lost. -/
theorem tears_snoc (d : Disk.Dk) (ks : List (Int × Int)) (k : Nat) (hk : k < ks.length) : (ks.take (k + 1)).foldl Disk.tear d = Disk.tear ((ks.take k).foldl Disk.tear d) (ks[k]?.getD (0, 0)) := by
  rw [List.take_succ_eq_append_getElem hk, List.foldl_append, List.getElem?_eq_getElem hk]; rfl

theorem sd_restart_nil (a : Option Addr) (n c : Nat) (w : World) : Calls Try.prog 40 #[.pointer none, .slice a n c] w fun e w' => e = .returned (.tuple #[]) ∧ w = w' := by
  go_enter Try.func40, Try.ntmps40
  go_wp2
  refine bodyPost_ret (results_none rfl _ _ _) rfl ?_
  exact ⟨rfl, rfl⟩

set_option maxRecDepth 100000 in
set_option maxHeartbeats 2000000 in
theorem sd_restart {F : Nat → Prop} {w : World} {g s m : Nat} {fa : Option Addr} {fn fc : Nat} {d : Disk.Dk} (h : PD F w g s m fa fn fc d) (a : Option Addr) (n c : Nat) (ks : List (Int × Int)) (hk : SlP w a n c ks) (hF : ∀ y, a = some y → ks ≠ [] → ¬ F y.block) :
    Calls Try.prog 40 #[.pointer (some ⟨g, 0, none⟩), .slice a n c] w fun e w' => e = .returned (.tuple #[]) ∧ PD F w' g s m none 0 0 (Disk.restart d ks) ∧ Upd F w F w' := by
  have HLN := Lib.hid hk.len
  have hle := hk.le
  have H0 := Lib.hid h
  go_enter Try.func40, Try.ntmps40
  go_wp2
  go_loopw [12] (fun i wr => ∃ k : Nat, k ≤ n ∧ i = .int .i64 k ∧ PD F wr g s m fa fn fc ((ks.take k).foldl Disk.tear d) ∧ Upd F w F wr) (fun i _ => n - (intOf i).toNat)
  case atStart => exact ⟨0, Nat.zero_le _, rfl, h, Upd.refl _ _⟩
  case round =>
    obtain ⟨k, hkn, rfl, hP, hU⟩ := hrel
    by_cases hlt : k < n
    · have hk1 := hk.upd hU hF
      obtain ⟨b, o, rfl, hb, y1, y2⟩ := hk1.at hlt
      have HT := Lib.hid (tears_snoc d ks k (by rw [HLN.out]; exact hlt))
      generalize List.foldl Disk.tear d (List.take k ks) = dk at *
      generalize hpr : ks[k]?.getD (0, 0) = pr at *
      obtain ⟨z1, z2⟩ := pr
      change _ = some (Value.int IntKind.i64 z1) at y1
      change _ = some (Value.int IntKind.i64 z2) at y2
      clear hpr
      go_wp2_with fail
      have hP2 := hP.alloc (.cells #[Value.int IntKind.i64 z1, Value.int IntKind.i64 z2] 67)
      have hU2 := hU.alloc (.cells #[Value.int IntKind.i64 z1, Value.int IntKind.i64 z2] 67)
      have x0 : (wr.alloc (.cells #[Value.int IntKind.i64 z1, Value.int IntKind.i64 z2] 67)).cell? ⟨wr.heap.size, 0, none⟩ = some (.int .i64 z1) := by rw [World.cell?_alloc_at _ _ _ _ rfl]; rfl
      have x1 : (wr.alloc (.cells #[Value.int IntKind.i64 z1, Value.int IntKind.i64 z2] 67)).cell? ⟨wr.heap.size, 1, none⟩ = some (.int .i64 z2) := by rw [World.cell?_alloc_at _ _ _ _ rfl]; rfl
      have hbF : ¬ F wr.heap.size := fun e => Nat.lt_irrefl _ (hP.lt _ e)
      generalize wr.alloc (.cells #[Value.int IntKind.i64 z1, Value.int IntKind.i64 z2] 67) = W at *
      generalize wr.heap.size = bx at *
      have q1 := hP2.cells.2.1
      clear hb y1 y2
      rcases hP2.map.look z1 with ⟨i, x, ad, cc, rfl, hci, hs, hR, hx, hrun⟩ | ⟨hno, hrun⟩
      · have hlk := fun nq => hrun (W.drewN nq) rfl
        have hi64 := hP2.ok.ca64 x (List.mem_of_getElem? hci)
        rw [hi64] at hlk hs
        have H64 := Lib.hid hi64
        clear hrun hi64
        go_quiet (fail)
        go_wp2_with fail
        have hP3 : PD F (W.drewN nq) g s m fa fn fc dk := hP2.stay (fun _ _ => rfl) (Nat.le_refl _)
        have hU3 := hU2.drewN nq
        have x0' : (W.drewN nq).cell? ⟨bx, 0, none⟩ = some (.int .i64 (i : Int)) := x0
        have x1' : (W.drewN nq).cell? ⟨bx, 1, none⟩ = some (.int .i64 z2) := x1
        have hs3 : SlB (W.drewN nq) (some ad) 64 cc x := hs.stay (fun _ _ _ => rfl) (Nat.le_refl _)
        clear hP2 hU2 x0 x1 hs hlk q1
        generalize W.drewN nq = W3 at *
        have hi : i < dk.st.length := by rw [← hP3.ok.len]; exact (List.getElem?_eq_some_iff.1 hci).1
        have HSL := Lib.hid ((sd_slot hP3.drew i hi i rfl).mono (R' := fun e w' => e = .returned (.slice (some ⟨s, 64 * i, none⟩) 64 (64 * dk.st.length - 64 * i)) ∧ w' = W3.drew) (by rintro e w' ⟨h1, h2⟩; exact ⟨h1, h2.symm⟩))
        obtain ⟨mm, hmm⟩ : ∃ mm : Nat, (mm : Int) = min (max z2 0) 64 := ⟨(min (max z2 0) 64).toNat, by omega⟩
        have hm64 : mm ≤ 64 := by omega
        have hmi : (if 64 < (if z2 < 0 then 0 else z2) then 64 else if z2 < 0 then 0 else z2) = (mm : Int) := by omega
        have HMM := Lib.hid hmm
        clear hmm
        have hcc := hs3.2.1
        obtain ⟨ab, ao, asp⟩ := ad
        obtain rfl : asp = none := (hs3.2.2.2.2 _ rfl 0 (by have := H64.out; omega)).1
        have hmc : mm ≤ cc := by omega
        have hmc' : (mm : Int) ≤ (cc : Int) := by omega
        have hm0 : (0 : Int) ≤ (mm : Int) := by omega
        refine wp_region_still_tail 10 (by kernel_rfl) (by kernel_rfl) ?_
        simp only [List.take_succ_cons, List.take_zero, List.drop_succ_cons, List.drop_zero]
        repeat still_step
        still_call HSL.out
        repeat still_step
        refine wpStill_nil ?_
        change wpList _ _ _ _ _ W3.drew
        have hs4 : SlB W3.drew (some ⟨ab, ao, none⟩) mm cc (x.take mm) := (hs3.stay (w' := W3.drew) (fun _ _ _ => rfl) (Nat.le_refl _)).take hm64
        have hP4 := hP3.drew
        have hU4 := hU3.drew
        generalize W3.drew = W4 at *
        have hok := hP4.ok
        go_wp2_with ((show wpList _ _ _ (Oper.mk (some 37) _ _ _ _ _ :: _) _ _); go_must (refine wpList_copy_bytes rfl _ _ rfl s (64 * i) 64 _ _ _ _ (x.take mm) rfl rfl 5 _ hP4.row hs4 (by rw [Disk.flat_length _ hok.st64]; omega) ?_); intro w3 hr3 hb3)
        have hr4 : RowIs w3 s 5 (dk.st.set i (x.take mm ++ (dk.st[i]?.getD []).drop mm)).flatten := by
          rw [← Disk.flat_set dk.st hok.st64 i hi (x.take mm) mm (by rw [List.length_take]; have := H64.out; omega) hm64]
          rw [List.take_of_length_le (l := x.take mm) (i := 64) (by rw [List.length_take]; omega), show min mm 64 = mm by omega] at hr3
          exact hr3
        have htear : Disk.tear dk ((i : Int), z2) = { dk with st := dk.st.set i (x.take mm ++ (dk.st[i]?.getD []).drop mm) } := by
          unfold Disk.tear
          rw [if_pos (show (0 : Int) ≤ ((i : Int), z2).1 from Int.natCast_nonneg _)]
          have e1 : ((i : Int), z2).1.toNat = i := rfl
          have e2 : (min (max ((i : Int), z2).2 0) 64).toNat = mm := by show (min (max z2 0) 64).toNat = mm; have := HMM.out; omega
          rw [e1, e2, hci]
        have h64 := hok.tear ((i : Int), z2)
        rw [htear] at h64
        have hP5 := hP4.setSt hb3 (dk.st.set i (x.take mm ++ (dk.st[i]?.getD []).drop mm)) (by simp) h64.st64 hr4
        rw [← htear, ← HT.out] at hP5
        go_roundw
        case rel => exact ⟨k + 1, by omega, by go_num, hP5, hU4.but (.inl h.Fs) hb3⟩
        case measure => simp [intOf]; omega
      · have hlk := fun nq => hrun (W.drewN nq) rfl
        clear hrun
        have HT2 : Disk.tear dk (z1, z2) = dk := by
          unfold Disk.tear
          split
          · rename_i h0
            obtain ⟨i, rfl⟩ := Int.eq_ofNat_of_zero_le h0
            have := hno i rfl
            have e : ((i : Int), z2).1.toNat = i := rfl
            rw [e]
            cases hc : dk.ca[i]? with
            | none => rfl
            | some oo =>
              rw [hc] at this
              simp only [Option.getD_some] at this
              subst this; rfl
          · rfl
        have HT2 := Lib.hid HT2
        go_quiet (fail)
        go_wp2_with fail
        go_roundw
        case rel => exact ⟨k + 1, by omega, by go_num, by rw [HT.out, HT2.out]; exact hP2.stay (fun _ _ => rfl) (Nat.le_refl _), hU2.drewN _⟩
        case measure => simp [intOf]; omega
    · obtain rfl : k = n := by omega
      have hks : ks.take k = ks := List.take_of_length_le (by rw [HLN.out]; exact Nat.le_refl _)
      rw [hks] at hP
      have HR : Disk.restart d ks = { ks.foldl Disk.tear d with ca := List.replicate (ks.foldl Disk.tear d).ca.length none, fs := [], cnt := 0, off := false } := by
        have h2 := (h.ok.tears ks).2.1
        unfold Disk.restart; rw [h2]
      have HR := Lib.hid HR
      clear hks hk
      generalize ks.foldl Disk.tear d = dk at *
      have q1 := hP.cells.2.1
      go_wp2_with ((show wpList _ _ _ (Oper.mk none (Op.call _) _ _ _ _ :: _) _ _); go_must (refine wpList_clear rfl (.tmp 42) rfl rfl hP.map ?_); intro o2 hM2; have hP2 := hP.clear o2 hM2; have hU2 := hU.setBlock (.inl h.Fm) o2; have p2 := hP2.cells.2.2.1; have p3 := hP2.cells.2.2.2.1; have p4 := hP2.cells.2.2.2.2; have f2 := hP2.free 2; have f3 := hP2.free 3; have f4 := hP2.free 4; generalize ChangeMaps.setBlock wr m o2 = w2 at *)
      go_end0
      refine ⟨rfl, ?_, ((hU2.setCell (.inl h.Fg) _ _).setCell (.inl h.Fg) _ _).setCell (.inl h.Fg) _ _⟩
      exact ((hP2.setFs none 0 0 [] (SlP.nil _) (fun y hy => by cases hy)).setCnt 0).setOff false

end Go.Proofs.Ytedmnbmfbgenjaa
