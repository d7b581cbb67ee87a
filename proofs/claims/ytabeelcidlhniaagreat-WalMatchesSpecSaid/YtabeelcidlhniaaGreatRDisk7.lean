/-
  The reference's disk: Load, New.
-/
import Derived.Test.YtabeelcidlhniaaGreatRDisk6
import Derived.Test.YtabeelcidlhniaaGreatStepL
namespace Go.Proofs.YtabeelcidlhniaaGreat
open Go.RowKit

theorem Disk.chunks_succ (n : Nat) (l : List UInt8) : Disk.chunks (n + 1) l = Disk.chunks n l ++ [(l.drop (64 * n)).take 64] := by
  unfold Disk.chunks
  rw [List.range_succ, List.map_append]; rfl

/-- A row of sectors that the call made. -/
theorem OwnL.rowS {base : Nat} {w : World} {v : Value} {ls : List (List UInt8)} (h : OwnL base w v ls) (h64 : ∀ x ∈ ls, x.length = 64) (hne : 0 < ls.length) :
    ∃ sb sc, v = .slice (some ⟨sb, 0, none⟩) ls.length sc ∧ base ≤ sb ∧ sb < w.heap.size ∧ ls.length ≤ sc ∧ RowS (fun k => base ≤ k ∧ k < w.heap.size ∧ k ≠ sb) w sb (ls.map some) := by
  obtain ⟨vs, h1, h2⟩ := h
  have hvl : vs.length = ls.length := by rw [h1.1]; simp
  rcases id h1.2 with ⟨hv, hn⟩ | ⟨g, cap, cur, hv, hg, hc, hnc, hcm, hcs, htake⟩
  · omega
  · refine ⟨g, cap, hv, hg, heap_lt hc, hnc, cur, hc, by simp; omega, fun i x hx => ?_⟩
    rw [List.getElem?_map] at hx
    have hi : i < ls.length := by
      rcases Nat.lt_or_ge i ls.length with h | h
      · exact h
      · rw [List.getElem?_eq_none h] at hx; cases hx
    rw [List.getElem?_eq_getElem hi] at hx
    cases hx
    obtain ⟨u, h3, h4⟩ := h2 i hi
    have e : ls[i]?.getD [] = ls[i] := by simp [hi]
    rw [e] at h4
    obtain ⟨b, c, rfl, hb, hbl, hs⟩ := h4.at0 (h64 _ (List.getElem_mem hi))
    refine ⟨_, ?_, b, c, rfl, ⟨hb, hbl, fun e => ?_⟩, hs⟩
    · have := World.ownsRow.cellAt (g := g) (cap := cap) (by rw [← hv]; exact h1) i (by omega)
      rw [cell_of_row _ _ _ _ _ _ hc] at this
      rw [this]; simpa using h3
    · subst e
      rcases h4.2 with ⟨hv2, _⟩ | ⟨g2, cap2, cur2, hv2, _, hc2, _⟩
      · cases hv2
      · injection hv2 with e1
        cases e1
        rw [hc] at hc2
        cases hc2

/-- Kept where the blocks from base on are. -/
theorem OwnB.keep {base : Nat} {w w' : World} {v : Value} {l : List UInt8} (h : OwnB base w v l) (k : ∀ b, base ≤ b → b < w.heap.size → w'.heap[b]? = w.heap[b]?) : OwnB base w' v l := by
  refine ⟨h.1, ?_⟩
  rcases h.2 with hn | ⟨g, cap, cur, rfl, hb, hgg, rest⟩
  · exact .inl hn
  · exact .inr ⟨g, cap, cur, rfl, hb, (k g hb (heap_lt hgg)).trans hgg, rest⟩
theorem OwnL.keep {base : Nat} {w w' : World} {v : Value} {ls : List (List UInt8)} (h : OwnL base w v ls) (k : ∀ b, base ≤ b → b < w.heap.size → w'.heap[b]? = w.heap[b]?) : OwnL base w' v ls := by
  obtain ⟨vs, h1, h2⟩ := h
  refine ⟨vs, ⟨h1.1, ?_⟩, fun i hi => ?_⟩
  · rcases h1.2 with hn | ⟨g, cap, cur, rfl, hb, hgg, rest⟩
    · exact .inl hn
    · exact .inr ⟨g, cap, cur, rfl, hb, (k g hb (heap_lt hgg)).trans hgg, rest⟩
  · obtain ⟨u, h3, h4⟩ := h2 i hi
    exact ⟨u, h3, h4.keep k⟩

/-- Where the loop of Load stands. -/
def LRel (W0 : World) (g cb n : Nat) (l : List UInt8) (k : Nat) (wr : World) : Prop :=
  ∃ v, wr.heap[g]? = some (.cells #[v, .slice (some ⟨cb, 0, none⟩) n n, .slice none 0 0, .int .i64 0, .bool false] 82 (0, 0)) ∧ OwnL W0.heap.size wr v (Disk.chunks k l) ∧ Upd (fun b => b = g) W0 (fun b => b = g) wr

def RNewPost (w : World) (d : Disk.Dk) (e : Ending) (w' : World) : Prop :=
  ∃ F g sb cb sc, e = .returned (.tuple #[.pointer (some ⟨g, 0, none⟩), .int .i64 0]) ∧ RD F w' g sb cb sc none 0 0 d ∧ (∀ k, F k → w.heap.size ≤ k) ∧ Below w.heap.size w w'

theorem LRel.done {w W0 wr : World} {g cb n : Nat} {l : List UInt8} (h : LRel W0 g cb n l n wr) (h1 : 1 ≤ n) (h2 : n ≤ 4096) (hl : l.length = 64 * n) (hb : Below w.heap.size w W0) (hg : w.heap.size ≤ g) (hgl : g < W0.heap.size) (hcb : w.heap.size ≤ cb) (hcl : cb < W0.heap.size) (hgc : g ≠ cb)
    {cs : Array Value} (hrow : W0.heap[cb]? = some (.cells cs 37 (0, 0))) (hn : n ≤ cs.size) (hcs : ∀ i, i < n → cs[i]? = some (.slice none 0 0)) : RNewPost w (Disk.load n l) (.returned (.tuple #[.pointer (some ⟨g, 0, none⟩), .int .i64 0])) wr := by
  obtain ⟨v, hbox, hO, hU⟩ := h
  have hlen := Disk.chunks_length n l
  have h64 := Disk.chunks_mem n l hl
  obtain ⟨sb, sc, rfl, hsb, hsl, hcap, hR⟩ := hO.rowS h64 (by omega)
  have hz := hU.size
  have hbz := hb.size
  have hRF : ∀ k, (W0.heap.size ≤ k ∧ k < wr.heap.size ∧ k ≠ sb) → Rw (fun k => k = g ∨ k = cb ∨ (W0.heap.size ≤ k ∧ k < wr.heap.size)) g sb cb k := fun k hk => ⟨.inr (.inr ⟨hk.1, hk.2.1⟩), by omega, hk.2.2, by omega⟩
  refine ⟨fun k => k = g ∨ k = cb ∨ (W0.heap.size ≤ k ∧ k < wr.heap.size), g, sb, cb, sc, rfl, ⟨⟨?_, ?_, ?_, h64, ?_⟩, ?_, hR.stay rfl (fun _ _ => rfl) (Nat.le_refl _) hRF, ⟨cs, ?_, ?_, fun i x hx => ?_⟩, SlP.nil _, (fun x hx => by cases hx), fun k hk => ?_, .inl rfl, .inr (.inr ⟨hsb, hsl⟩), .inr (.inl rfl), by omega, hgc, by omega, ?_⟩, fun k hk => ?_, hU.below hb (fun k hk => by omega) hbz⟩
  · show (List.replicate n (none : Option (List UInt8))).length = (Disk.chunks n l).length
    simp [hlen]
  · show 1 ≤ (Disk.chunks n l).length
    omega
  · show (Disk.chunks n l).length ≤ 4096
    omega
  · intro x hx
    have : some x ∈ List.replicate n (none : Option (List UInt8)) := hx
    simp at this
  · show wr.heap[g]? = some (.cells #[.slice (some ⟨sb, 0, none⟩) (Disk.chunks n l).length sc, .slice (some ⟨cb, 0, none⟩) (Disk.chunks n l).length (Disk.chunks n l).length, _, _, _] _ _)
    rw [hlen] at hbox ⊢
    exact hbox
  · exact (hU.block cb hcl (by omega)).trans hrow
  · show (List.replicate n (none : Option (List UInt8))).length ≤ cs.size
    simpa using hn
  · have hx : (List.replicate n (none : Option (List UInt8)))[i]? = some x := hx
    have hi := (List.getElem?_eq_some_iff.1 hx).1
    simp at hi
    rw [List.getElem?_replicate, if_pos hi] at hx
    cases hx
    exact ⟨_, hcs i hi, rfl⟩
  · rcases hk with rfl | rfl | hk <;> omega
  · exact hcap
  · rcases hk with rfl | rfl | hk <;> omega

set_option maxRecDepth 100000 in
theorem rd_load_bad (a : Option Addr) (n c : Nat) (hc : n ≤ 9223372036854775807) (h : n % 64 ≠ 0 ∨ n / 64 < 1 ∨ 4096 < n / 64) (w : World) : Calls Tryz.prog 33 #[.slice a n c] w fun e w' => e = .returned (.tuple #[.pointer none, .int .i64 2]) ∧ w = w' := by
  by_cases h1 : n % 64 = 0
  · obtain ⟨k, hk⟩ : ∃ k, k = n / 64 := ⟨_, rfl⟩
    have hn : n = 64 * k := by omega
    subst hn
    have hk2 : k < 1 ∨ 4096 < k := by omega
    clear h h1 hk
    by_cases h3 : k < 1
    · obtain rfl : k = 0 := by omega
      clear hk2
      go_enter Tryz.func33, Tryz.ntmps33
      go_wp2
      go_ret2
      exact ⟨rfl, rfl⟩
    · have h4 : 4096 < k := by omega
      clear hk2
      go_enter Tryz.func33, Tryz.ntmps33
      go_wp2
      go_ret2
      exact ⟨rfl, rfl⟩
  · have t1 : ((n : Int) % 64 != 0) = true := by simp; omega
    have t2 : ((n : Int) % 64 == 0) = false := by simp; omega
    clear h h1
    go_enter Tryz.func33, Tryz.ntmps33
    go_wp2
    go_ret2
    exact ⟨rfl, rfl⟩

set_option maxRecDepth 100000 in
set_option maxHeartbeats 4000000 in
theorem rd_load (a : Option Addr) (n c : Nat) (l : List UInt8) (w : World) (h1 : 1 ≤ n) (h2 : n ≤ 4096) (h : SlB w a (64 * n) c l) : Calls Tryz.prog 33 #[.slice a (64 * n) c] w (RNewPost w (Disk.load n l)) := by
  obtain ⟨ab, ao, rfl, -⟩ := h.at (show 0 < 64 * n by omega)
  have HLN := Lib.hid h.len
  have HS := Lib.hid h
  have hcap := h.2.1
  clear h
  go_enter Tryz.func33, Tryz.ntmps33
  go_wp2_with ((show wpList _ _ _ (Oper.mk (some 23) _ _ _ _ _ :: _) _ _); go_must (refine wpList_make_lists rfl (.tmp 22) (.tmp 22) rfl n (n : Int) (n : Int) rfl rfl rfl rfl (by omega) ?_); intro w1 cs hB1 hc1 hcsz hcs)
  have hz1 := hB1.size
  have hcl1 := heap_lt hc1
  obtain ⟨g, hg⟩ : ∃ g, g = w1.heap.size := ⟨_, rfl⟩
  obtain ⟨cb, hcb⟩ : ∃ cb, cb = w.heap.size := ⟨_, rfl⟩
  have HC := Lib.hid hcb
  have hb0 : Below w.heap.size w (w1.alloc (.cells #[.slice none 0 0, .slice (some ⟨w.heap.size, 0, none⟩) n n, .slice none 0 0, .int .i64 0, .bool false] 82)) := hB1.alloc hz1 _
  have hbox0 : (w1.alloc (.cells #[.slice none 0 0, .slice (some ⟨w.heap.size, 0, none⟩) n n, .slice none 0 0, .int .i64 0, .bool false] 82)).heap[g]? = some (.cells #[.slice none 0 0, .slice (some ⟨w.heap.size, 0, none⟩) n n, .slice none 0 0, .int .i64 0, .bool false] 82 (0, 0)) := heap_alloc_eq _ _ _ hg
  have hrow0 : (w1.alloc (.cells #[.slice none 0 0, .slice (some ⟨w.heap.size, 0, none⟩) n n, .slice none 0 0, .int .i64 0, .bool false] 82)).heap[w.heap.size]? = some (.cells cs 37 (0, 0)) := (heap_alloc_lt _ _ _ hcl1).trans hc1
  have hsz0 : (w1.alloc (.cells #[.slice none 0 0, .slice (some ⟨w.heap.size, 0, none⟩) n n, .slice none 0 0, .int .i64 0, .bool false] 82)).heap.size = g + 1 := by simp [hg]
  generalize (w1.alloc (.cells #[.slice none 0 0, .slice (some ⟨w.heap.size, 0, none⟩) n n, .slice none 0 0, .int .i64 0, .bool false] 82)) = W0 at *
  rw [← hcb] at hbox0 hrow0
  have hwg : cb ≤ g := by omega
  have hcg : cb < g := by omega
  rw [← hg, ← hcb]
  have HL0 : LRel W0 g cb n l 0 W0 := ⟨_, hbox0, OwnL.nil _ _, Upd.refl _ _⟩
  have HN := Lib.hid hcs
  clear hbox0 hc1 hB1 hcs hg hcb hz1 hcl1
  go_loopw [6] (fun i wr => ∃ k : Nat, k ≤ n ∧ i = .int .i64 k ∧ LRel W0 g cb n l k wr) (fun i _ => n - (intOf i).toNat)
  case atStart => exact ⟨0, by omega, rfl, HL0⟩
  case round =>
    obtain ⟨k, hk, rfl, hL⟩ := hrel
    clear HL0
    by_cases hlt : k < n
    · obtain ⟨v, hbox, hO, hU⟩ := hL
      have hUz := hU.size
      have bg := heap_lt hbox
      have HB0 := Lib.hid hb0
      have S0 : SlB wr (some ⟨ab, ao, none⟩) (64 * n) c l := (HS.out.ext (hb0.mono (Nat.le_of_eq rfl))).upd hU (fun x hx hl e => by
        cases hx
        have h1 : ab < w.heap.size := HS.out.blt hl
        have h2 := HC.out
        have h3 : ab = g := e
        omega)
      obtain ⟨p, hp⟩ : ∃ p, p = 64 * k := ⟨_, rfl⟩
      have e1 : (k : Int) * 64 = (p : Int) := by omega
      obtain ⟨q, hq⟩ : ∃ q, q = p + 64 := ⟨_, rfl⟩
      have e2 : ((k : Int) + 1) * 64 = (q : Int) := by omega
      have hpq : q - p = 64 := by omega
      have hpqi : (p : Int) ≤ (q : Int) := by omega
      have b0 : (0 : Int) ≤ (k : Int) := by omega
      have b1 : (k : Int) < (n : Int) := by omega
      have b3 : (0 : Int) ≤ (p : Int) := by omega
      have hqN : q ≤ 64 * n := by omega
      have hqc : (q : Int) ≤ (c : Int) := by omega
      have hqc2 : q ≤ c := by omega
      have hpc : ¬ c = p := by omega
      have hw1 : IntKind.i64.wrap (p : Int) = (p : Int) := by rw [IntKind.wrap_i64]; omega
      have hw2 : IntKind.i64.wrap ((k : Int) + 1) = (k : Int) + 1 := by rw [IntKind.wrap_i64]; omega
      have hw3 : IntKind.i64.wrap (q : Int) = (q : Int) := by rw [IntKind.wrap_i64]; omega
      have S1 : SlB (wr.drew.alloc (.cells #[] 5)) (some ⟨ab, ao + p, none⟩) 64 (c - p) ((l.drop p).take 64) :=
        (((S0.stay (w' := wr.drew) (fun _ _ _ => rfl) (Nat.le_refl _)).ext ((Below.refl _ _).alloc (Nat.le_refl _) _)).drop (k := p) (by omega)).take (k := 64) (by omega)
      have hch := Disk.chunks_succ k l
      rw [← hp] at hch
      have HCH := Lib.hid hch
      have hx64 : ((l.drop p).take 64).length = 64 := by rw [List.length_take, List.length_drop, HLN.out]; omega
      obtain ⟨x, hx⟩ : ∃ x, (l.drop p).take 64 = x := ⟨_, rfl⟩
      rw [hx] at S1 hx64
      rw [hx] at HCH
      have HX := Lib.hid hx64
      have hcll : (Disk.chunks k l).length ≤ 1000000000 := by rw [Disk.chunks_length]; omega
      have HCL := Lib.hid hcll
      have y0 : wr.cell? ⟨g, 0, none⟩ = some v := by rw [cell_of_row _ _ _ _ _ _ hbox]; rfl
      have hOd : OwnL W0.heap.size wr.drew v (Disk.chunks k l) := hO.ext (Below.drew (Below.refl _ _))
      clear hx hx64 hch hp hq hcll
      go_wp2
      go_region_law (first
        | (refine step_app_b rfl (.tmp 36) (.tmp 43) rfl W0.heap.size _ [] (by simp [Act.eval]) (OwnB.empty wr.drew hUz) (some ⟨ab, ao + p, none⟩) 64 (c - p) x (by simp [Act.eval]) S1 (by simp) (by simpa using Nat.le_succ_of_le hUz) ?_; intro v3 w3 hO3 hg3; obtain ⟨b3, c3, rfl, hb3, hbl3, hs3⟩ := OwnB.at0 (l := x) hO3 HX.out; have hB3 := ((Below.refl wr.drew.heap.size wr.drew).alloc (Nat.le_refl _) (.cells #[] 5)).grown hg3 (by simp) (fun k hk => by cases hk; exact Nat.le_refl _); have hbox3 : w3.heap[g]? = some _ := (hB3.block g bg).trans hbox; have z3 : w3.cell? ⟨g, 0, none⟩ = some v := (hB3.cell (p := ⟨g, 0, none⟩) bg).trans y0; have z4 : ∀ o, (w3.alloc o).cell? ⟨g, 0, none⟩ = some v := fun o => (((Below.refl w3.heap.size w3).alloc (Nat.le_refl _) o).cell (p := ⟨g, 0, none⟩) (heap_lt hbox3)).trans z3)
        | (refine step_app_l rfl (.tmp 35) (.tmp 45) rfl W0.heap.size v (Disk.chunks k l) (by simp [Act.eval]) ((hOd.ext hB3).ext ((Below.refl _ _).alloc (Nat.le_refl _) _)) (.slice (some ⟨b3, 0, none⟩) 64 c3) x (OwnB.alloc (l := x) hO3 _) w3.heap.size (by simp [Act.eval]) (by rw [World.cell?_alloc_at _ _ _ _ rfl]; rfl) HCL.out (by have := hB3.size; have : wr.drew.heap.size = wr.heap.size := rfl; simp; omega) ?_; intro v5 w5 hO5 hg5; obtain ⟨a5, c5, rfl, -⟩ := hO5.sl; have hbox5 : w5.heap[g]? = some _ := (hg5.block g (by have := heap_lt hbox3; simp; omega) (fun e => by have := (hO.lt g e.symm).1; omega)).trans ((heap_alloc_lt _ _ _ (heap_lt hbox3)).trans hbox3); have z5 : w5.cell? ⟨g, 0, none⟩ = some v := (by rw [cell_of_row _ _ _ _ _ _ hbox5]; rfl); have f5 : w5.frozen? ⟨g, 0, none⟩ = false := frozen_of_row _ _ _ _ _ hbox5))
      all_goals
        have hO6 := hO5.keep (w' := w5.setCell ⟨g, 0, none⟩ (.slice a5 ((Disk.chunks k l).length + 1) c5)) (fun b hb hbl => heap_setCell_other _ _ _ _ (show b ≠ g by rw [hsz0] at hb; omega))
        have hbox6 : (w5.setCell ⟨g, 0, none⟩ (.slice a5 ((Disk.chunks k l).length + 1) c5)).heap[g]? = some (.cells #[.slice a5 ((Disk.chunks k l).length + 1) c5, .slice (some ⟨cb, 0, none⟩) n n, .slice none 0 0, .int .i64 0, .bool false] 82 (0, 0)) := by rw [heap_setCell_same _ _ _ _ _ _ hbox5]; rfl
        have hU6 : Upd (fun b => b = g) W0 (fun b => b = g) (w5.setCell ⟨g, 0, none⟩ (.slice a5 ((Disk.chunks k l).length + 1) c5)) := ((((hU.drew).ext hB3).alloc _).grown (fun b hb => .inr (hO.lt b hb).1) hg5).setCell (.inl rfl) _ _
        have hO7 : OwnL W0.heap.size (w5.setCell ⟨g, 0, none⟩ (.slice a5 ((Disk.chunks k l).length + 1) c5)) (.slice a5 ((Disk.chunks k l).length + 1) c5) (Disk.chunks (k + 1) l) := by rw [HCH.out]; simpa using hO6
        clear hO5 hO6 hg5 hbox5 z5 f5 hbox3 z3 z4 hO3 hg3 hB3 hs3 hbox y0 S1 hO hU hOd
        generalize w5.setCell ⟨g, 0, none⟩ (.slice a5 ((Disk.chunks k l).length + 1) c5) = W6 at *
        go_wp2
        exact ⟨⟨k + 1, by omega, by go_num, ⟨_, hbox6, hO7, hU6⟩⟩, by simp [intOf]; omega⟩
    · obtain rfl : k = n := by omega
      go_wp2
      go_ret2
      exact hL.done h1 h2 HLN.out hb0 (by rw [← HC.out]; exact hwg) (by omega) (by rw [← HC.out]; exact Nat.le_refl _) (by omega) (by omega) hrow0 hcsz HN.out

set_option maxRecDepth 100000 in
theorem rd_new_bad (z : Int) (h : z < 1 ∨ 4096 < z) (w : World) : Calls Tryz.prog 7 #[.int .i64 z] w fun e w' => e = .returned (.tuple #[.pointer none, .int .i64 2]) ∧ w = w' := by
  by_cases h1 : z < 1
  · clear h
    go_enter Tryz.func7, Tryz.ntmps7
    go_wp2
    go_ret2
    exact ⟨rfl, rfl⟩
  · have h2 : 4096 < z := by omega
    clear h
    go_enter Tryz.func7, Tryz.ntmps7
    go_wp2
    go_ret2
    exact ⟨rfl, rfl⟩

set_option maxRecDepth 100000 in
theorem rd_new (n : Nat) (h1 : 1 ≤ n) (h2 : n ≤ 4096) (w : World) (z : Int) (hz : z = (n : Int)) : Calls Tryz.prog 7 #[.int .i64 z] w (RNewPost w (Disk.new n)) := by
  subst hz
  obtain ⟨i0, hi, hz0, hz1, hz2⟩ := info_parts info5'
  have HI := Lib.hid (And.intro hi (And.intro hz0 (And.intro hz1 hz2)))
  have HM := Lib.hid (madeB (64 * n))
  have HLD := Lib.hid (fun a c W h => rd_load a n c (List.replicate (64 * n) 0) W h1 h2 h)
  have hnw : Disk.load n (List.replicate (64 * n) 0) = Disk.new n := by
    unfold Disk.load Disk.new
    congr 1
    unfold Disk.chunks
    apply List.ext_getElem
    · simp
    · intro i hi1 hi2
      simp at hi1
      simp only [List.getElem_map, List.getElem_range, List.getElem_replicate, List.drop_replicate, List.take_replicate]
      congr 1
      omega
  rw [hnw] at HLD
  clear hi hz0 hz1 hz2 hnw
  go_enter Tryz.func7, Tryz.ntmps7
  go_wp2_with (first
    | ((show wpList _ _ _ (Oper.mk (some 12) _ _ _ _ _ :: _) _ _); go_must (refine wpList_make_full _ rfl (.tmp 11) (.tmp 11) 37 rfl w.heap.size 5 i0 (.int .u8 0) 1 Tryz.underlying37 HI.out.1 HI.out.2.1 HI.out.2.2.1 .i64 .i64 _ _ (64 * n) rfl rfl (by omega) (by omega) (by rw [HI.out.2.2.2]; omega) (by unfold maxLen; omega) (Nat.le_refl _) ?_); intro w1 hown hg1; rw [HM.out] at hown; have hO : OwnB w.heap.size w1 (.slice (some ⟨w.heap.size, 0, none⟩) (64 * n) (64 * n)) (List.replicate (64 * n) 0) := (by unfold OwnB; rw [List.length_replicate]; exact hown); have hb1 := (Below.refl w.heap.size w).grown hg1 (Nat.le_refl _) (fun k hk => by cases hk); obtain ⟨a1, c1, e1, hs1, -⟩ := hO.sl; rw [List.length_replicate] at e1 hs1; cases e1)
    | (go_at_call 33; go_must (refine (HLD.out _ _ _ hs1).mono ?_); rintro e w2 ⟨F, g, sb, cb, sc, rfl, hR, hF, hB⟩))
  go_ret2
  have hz1 := hb1.size
  exact ⟨F, g, sb, cb, sc, rfl, hR, fun k hk => Nat.le_trans hz1 (hF k hk), hb1.trans (hB.mono hz1)⟩

end Go.Proofs.YtabeelcidlhniaaGreat
