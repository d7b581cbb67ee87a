/-
  The reference's disk: Restart.
-/
import Derived.Test.YtabeelcidlhniaaGreatRun35
import Derived.Test.YtabeelcidlhniaaGreatRegionT
namespace Go.Proofs.YtabeelcidlhniaaGreat
open Go.RowKit

theorem madeL (n : Nat) : (madeCells (Value.slice none 0 0).cells (n * 1)).toList = List.replicate n (.slice none 0 0) := by
  rw [Nat.mul_one, show madeCells (Value.slice none 0 0).cells n = madeCells #[.slice none 0 0] n from rfl, toList_madeCells_one]

/-- makeSlice of n slices of bytes: all of them nil. -/
theorem wpList_make_lists {w : World} {ops : Array Oper} {rest : List Oper} {o : Oper} {a : Act} {Q : Exit → Act → World → Prop} (hg : o.guard = none) (l c : Operand) (hop : o.op = Op.makeSlice 48 l c)
    (n : Nat) (L C : Int) (hl : a.eval l = .int .i64 L) (hc : a.eval c = .int .i64 C) (hL : L = (n : Int)) (hC : C = (n : Int)) (b2 : n ≤ 1000000)
    (hK : ∀ w1 cs, Below w.heap.size w w1 → w1.heap[w.heap.size]? = some (.cells cs 37 (0, 0)) → n ≤ cs.size → (∀ i, i < n → cs[i]? = some (.slice none 0 0)) → wpList Tryz.prog ops Q rest (a.put o.dst (.slice (some ⟨w.heap.size, 0, none⟩) n n)) w1) : wpList Tryz.prog ops Q (o :: rest) a w := by
  obtain ⟨i0, hi, hz0, hz1, hz2⟩ := info_parts info26
  refine wpList_make_full w hg l c 48 hop w.heap.size 37 i0 (.slice none 0 0) 1 Tryz.underlying48 hi hz0 hz1 .i64 .i64 L C n hl hc hL hC (by rw [hz2]; omega) (by unfold maxLen; omega) (Nat.le_refl _) ?_
  intro w1 hown hg1
  rw [madeL] at hown
  have hB := (Below.refl w.heap.size w).grown hg1 (Nat.le_refl _) (fun k hk => by cases hk)
  rcases hown.2 with ⟨e, -⟩ | ⟨g, cap, cur, hv, -, hcell, hcap, -, hsz, htake⟩
  · cases e
  · cases hv
    refine hK w1 cur hB hcell (by omega) fun i hi' => ?_
    have h1 : (cur.toList.take (n * 1))[i]? = some (.slice none 0 0) := by rw [htake]; simp [hi']
    rw [List.getElem?_take_of_lt (by omega)] at h1
    simpa using h1

section
variable {F : Nat → Prop} {w w' : World} {g sb cb sc : Nat} {fa : Option Addr} {fn fc : Nat} {d d' : Disk.Dk}

/-- A sector that the call made is stored. -/
theorem RD.store (h : RD F w g sb cb sc fa fn fc d) {i b c : Nat} (hi : i < d.st.length) {x : List UInt8} (hx : x.length = 64) (hb : w.heap.size ≤ b) {w1 : World} (hB : Below w.heap.size w w1) (hs : SlB w1 (some ⟨b, 0, none⟩) 64 c x) (hbl : b < w1.heap.size) :
    RD (fun k => F k ∨ k = b) (w1.setCell ⟨sb, i, none⟩ (.slice (some ⟨b, 0, none⟩) 64 c)) g sb cb sc fa fn fc { d with st := d.st.set i x } ∧ Upd F w (fun k => F k ∨ k = b) (w1.setCell ⟨sb, i, none⟩ (.slice (some ⟨b, 0, none⟩) 64 c)) := by
  have ne : ∀ k, F k → k ≠ b := fun k hk e => by have := h.lt k hk; omega
  have h1 := (h.ext hB).widen (F' := fun k => F k ∨ k = b) (fun k hk => .inl hk) (fun k hk => by
    rcases hk with e | rfl
    · have := h.lt k e; have := hB.size; omega
    · exact hbl)
  refine ⟨h1.setSto hi ⟨b, c, rfl, ⟨.inr rfl, fun e => ne g h.Fg e.symm, fun e => ne sb h.Fs e.symm, fun e => ne cb h.Fc e.symm⟩, hs⟩ hx, ?_⟩
  exact ((Upd.of_ext hB).setCell (.inl h.Fs) _ _).grow fun k hk => by
    rcases hk with e | e
    · exact .inl e
    · exact .inr (by omega)

/-- Where the loop of Restart stands. -/
def RRel (F : Nat → Prop) (w : World) (g sb cb sc : Nat) (fa : Option Addr) (fn fc : Nat) (d : Disk.Dk) (wr : World) : Prop :=
  ∃ F', RD F' wr g sb cb sc fa fn fc d ∧ Upd F w F' wr

def RRestartPost (F : Nat → Prop) (w : World) (g sb sc : Nat) (d : Disk.Dk) (e : Ending) (w' : World) : Prop :=
  e = .returned (.tuple #[]) ∧ ∃ F' cb, RD F' w' g sb cb sc none 0 0 d ∧ Upd F w F' w'

set_option maxRecDepth 100000 in
set_option maxHeartbeats 8000000 in
theorem rd_restart (h : RD F w g sb cb sc fa fn fc d) (a : Option Addr) (n c : Nat) (ks : List (Int × Int)) (hk : SlP w a n c ks) (hF : ∀ y, a = some y → ks ≠ [] → ¬ F y.block) :
    Calls Tryz.prog 17 #[.pointer (some ⟨g, 0, none⟩), .slice a n c] w (RRestartPost F w g sb sc (Disk.restart d ks)) := by
  have HLN := Lib.hid hk.len
  have hle := hk.le
  have hmx := h.ok.max
  obtain ⟨N, hN⟩ : ∃ N, N = d.st.length := ⟨_, rfl⟩
  rw [← hN] at hmx
  have hst : ∀ k, ((ks.take k).foldl Disk.tear d).st.length = N := fun k => by rw [(h.ok.tears _).2.2]; exact hN.symm
  have hca : ∀ k, ((ks.take k).foldl Disk.tear d).ca = d.ca := fun k => (h.ok.tears _).2.1
  have hcl : d.ca.length = N := by rw [hN]; exact h.ok.len
  have HST := Lib.hid hst
  have HCA := Lib.hid hca
  have HCL := Lib.hid hcl
  have HR0 := Lib.hid (⟨F, h, Upd.refl _ _⟩ : RRel F w g sb cb sc fa fn fc d w)
  clear hN hst hca hcl
  go_enter Tryz.func17, Tryz.ntmps17
  go_wp2
  go_loopw [4, 5, 6] (fun i _ _ wr => ∃ k : Nat, k ≤ n ∧ i = .int .i64 k ∧ RRel F w g sb cb sc fa fn fc ((ks.take k).foldl Disk.tear d) wr) (fun i _ _ _ => n - (intOf i).toNat)
  case atStart => exact ⟨0, Nat.zero_le _, rfl, HR0.out⟩
  case round =>
    obtain ⟨k, hkn, rfl, F1, hP, hU⟩ := hrel
    by_cases hlt : k < n
    · have hk1 := hk.upd hU hF
      obtain ⟨b, o, rfl, hb, p1, p2⟩ := hk1.at hlt
      have HT := Lib.hid (tears_snoc d ks k (by rw [HLN.out]; exact hlt))
      have hst := HST.out k
      have hca := HCA.out k
      obtain ⟨dk, hdk⟩ : ∃ dk, List.foldl Disk.tear d (List.take k ks) = dk := ⟨_, rfl⟩
      rw [hdk] at HT hP hst hca
      clear hdk
      obtain ⟨pr, hpr⟩ : ∃ pr, ks[k]?.getD (0, 0) = pr := ⟨_, rfl⟩
      rw [hpr] at HT p1 p2
      obtain ⟨z1, z2⟩ := pr
      change _ = some (Value.int IntKind.i64 z1) at p1
      change _ = some (Value.int IntKind.i64 z2) at p2
      clear hpr
      obtain ⟨y0, y1, -⟩ := hP.cells
      rw [hst] at y0 y1
      have i0 : (0 : Int) ≤ (k : Int) := by omega
      have i1 : (k : Int) < (n : Int) := by omega
      by_cases hz : z1 < 0
      · have HT2 : Disk.tear dk (z1, z2) = dk := by unfold Disk.tear; rw [if_neg (by simpa using hz)]
        have HT2 := Lib.hid HT2
        clear hst hca
        go_wp2
        exact ⟨⟨k + 1, by omega, by go_num, ⟨F1, by rw [HT.out, HT2.out]; exact hP, hU⟩⟩, by simp [intOf]; omega⟩
      obtain ⟨q, rfl⟩ : ∃ q : Nat, z1 = (q : Int) := ⟨z1.toNat, by omega⟩
      by_cases hq : N ≤ q
      · have HT2 : Disk.tear dk ((q : Int), z2) = dk := by
          unfold Disk.tear
          rw [if_pos (by simp)]
          have : dk.ca[Int.toNat ((q : Int), z2).1]? = none := by rw [hca]; exact List.getElem?_eq_none (by show d.ca.length ≤ q; rw [HCL.out]; exact hq)
          rw [this]
        have HT2 := Lib.hid HT2
        have hq' : (N : Int) ≤ (q : Int) := by omega
        clear hst hca
        go_wp2
        exact ⟨⟨k + 1, by omega, by go_num, ⟨F1, by rw [HT.out, HT2.out]; exact hP, hU⟩⟩, by simp [intOf]; omega⟩
      have hqc : q < d.ca.length := by rw [HCL.out]; omega
      have hdq : dk.ca[q]? = some (d.ca[q]'hqc) := by rw [hca]; exact List.getElem?_eq_getElem hqc
      have hqs : q < dk.st.length := by rw [hst]; omega
      obtain ⟨v, cv, sv⟩ := hP.cac.cell hdq
      obtain ⟨x, hx⟩ : ∃ x, d.ca[q]'hqc = x := ⟨_, rfl⟩
      rw [hx] at sv hdq
      clear hx hqc
      have j0 : (0 : Int) ≤ (q : Int) := by omega
      have j1 : (q : Int) < (N : Int) := by omega
      cases x with
      | none =>
        have sv : v = .slice none 0 0 := sv
        subst sv
        have hnil := fun (w : World) => Lib.run_eql_slice_nil (P := Tryz.prog) w 37 5 none 0 0 0 0 Tryz.underlying37
        have HT2 : Disk.tear dk ((q : Int), z2) = dk := by
          unfold Disk.tear
          rw [if_pos (by simp)]
          have : dk.ca[Int.toNat ((q : Int), z2).1]? = some none := hdq
          rw [this]
        have HT2 := Lib.hid HT2
        clear hst hca hdq
        go_wp2
        exact ⟨⟨k + 1, by omega, by go_num, ⟨F1, by rw [HT.out, HT2.out]; exact hP, hU⟩⟩, by simp [intOf]; omega⟩
      | some x =>
        have h64 := hP.ok.ca64 x (List.mem_of_getElem? hdq)
        obtain ⟨b1, c1, rfl, r1, l1⟩ := sv
        obtain ⟨vs, cvs, svs⟩ := hP.sto.cell (i := q) (x := some (dk.st[q]'hqs)) (by rw [List.getElem?_map, List.getElem?_eq_getElem]; rfl)
        obtain ⟨b2, c2, rfl, r2, l2⟩ := svs
        have hy64 := hP.ok.st64 _ (List.getElem_mem hqs)
        have hyd : dk.st[q]?.getD [] = dk.st[q]'hqs := by simp [hqs]
        obtain ⟨y, hy⟩ : ∃ y, dk.st[q]'hqs = y := ⟨_, rfl⟩
        rw [hy] at l2 hy64 hyd
        clear hy
        have fs := hP.sto.free q
        obtain ⟨mm, hmm⟩ : ∃ mm : Nat, (mm : Int) = min (max z2 0) 64 := ⟨(min (max z2 0) 64).toNat, by omega⟩
        have hm64 : mm ≤ 64 := by omega
        have HT2 : Disk.tear dk ((q : Int), z2) = { dk with st := dk.st.set q (x.take mm ++ y.drop mm) } := by
          unfold Disk.tear
          rw [if_pos (by simp)]
          have e1 : Int.toNat ((q : Int), z2).1 = q := rfl
          have e2 : (min (max ((q : Int), z2).2 0) 64).toNat = mm := by show (min (max z2 0) 64).toNat = mm; omega
          rw [e1, e2, hdq, hyd]
        have hlen : (x.take mm ++ y.drop mm).length = 64 := by rw [List.length_append, List.length_take, List.length_drop]; omega
        have HT2 := Lib.hid HT2
        have HLEN := Lib.hid hlen
        have HMM := Lib.hid hmm
        have HQS := Lib.hid hqs
        have hk1 := l1.2.1
        have hk2 := l2.2.1
        have hnil := fun (w : World) => Lib.run_eql_slice_nil (P := Tryz.prog) w 37 5 (some ⟨b1, 0, none⟩) 64 c1 0 0 Tryz.underlying37
        have hmi : max 0 (min z2 64) = (mm : Int) := by omega
        obtain ⟨M, hM⟩ : ∃ M : Int, (if 64 < z2 then 64 else z2) = M := ⟨_, rfl⟩
        have hmi2 : (if 0 < M then M else 0) = (mm : Int) := by omega
        clear hst hca hdq hmm hlen hyd hqs
        have n0 : (0 : Int) ≤ (mm : Int) := by omega
        have n1 : (mm : Int) ≤ (c1 : Int) := by omega
        have n2 : (mm : Int) ≤ 64 := by omega
        have n3 : mm ≤ c1 := by omega
        have bg := heap_lt hP.box
        have bcb := hP.cac.lt
        have bsb := hP.sto.lt
        have hPd := hP.stay (w' := wr.drew) (fun _ _ => rfl) (Nat.le_refl _)
        have S1 : SlB (wr.drew.alloc (.cells #[] 5)) (some ⟨b1, 0, none⟩) mm c1 (x.take mm) := ((l1.stay (w' := wr.drew) (fun _ _ _ => rfl) (Nat.le_refl _)).ext ((Below.refl _ _).alloc (Nat.le_refl _) _)).take hm64
        have nsg : sb ≠ g := Ne.symm hP.gs
        have nsc : sb ≠ cb := hP.sc'
        have al0 : ∀ o, (wr.drew.alloc o).cell? ⟨g, 0, none⟩ = _ := fun o => (((Below.refl wr.drew.heap.size wr.drew).alloc (Nat.le_refl _) o).cell (p := ⟨g, 0, none⟩) bg).trans y0
        have al1 : ∀ o, (wr.drew.alloc o).cell? ⟨g, 1, none⟩ = _ := fun o => (((Below.refl wr.drew.heap.size wr.drew).alloc (Nat.le_refl _) o).cell (p := ⟨g, 1, none⟩) bg).trans y1
        have al2 : ∀ o, (wr.drew.alloc o).cell? ⟨cb, q, none⟩ = _ := fun o => (((Below.refl wr.drew.heap.size wr.drew).alloc (Nat.le_refl _) o).cell (p := ⟨cb, q, none⟩) bcb).trans cv
        have al3 : ∀ o, (wr.drew.alloc o).cell? ⟨sb, q, none⟩ = _ := fun o => (((Below.refl wr.drew.heap.size wr.drew).alloc (Nat.le_refl _) o).cell (p := ⟨sb, q, none⟩) bsb).trans cvs
        obtain ⟨ad2, had2, S2⟩ : ∃ ad2, (if c2 = mm then some (⟨b2, 0, none⟩ : Addr) else some ⟨b2, mm, none⟩) = ad2 ∧ SlB wr.drew ad2 (64 - mm) (c2 - mm) (y.drop mm) := by
          refine ⟨_, rfl, ?_⟩
          by_cases hce : c2 = mm
          · have hm2 : mm = 64 := by omega
            rw [if_pos hce, hce, hm2, List.drop_of_length_le (by omega)]; exact SlB.void _ _ _
          · rw [if_neg hce]
            simpa using (l2.stay (w' := wr.drew) (fun _ _ _ => rfl) (Nat.le_refl _)).drop hm64
        go_wp2
        refine wp_region_T (by kernel_rfl) 27 (fun w' => w'.cell? ⟨g, 0, none⟩ = some (.slice (some ⟨sb, 0, none⟩) N sc) ∧ w'.cell? ⟨g, 1, none⟩ = some (.slice (some ⟨cb, 0, none⟩) N N) ∧ w'.cell? ⟨cb, q, none⟩ = some (.slice (some ⟨b1, 0, none⟩) 64 c1) ∧ w'.cell? ⟨sb, q, none⟩ = some (.slice (some ⟨b2, 0, none⟩) 64 c2)) ?_
        have hHeld : wr.drew.cell? ⟨g, 0, none⟩ = some (.slice (some ⟨sb, 0, none⟩) N sc) ∧ wr.drew.cell? ⟨g, 1, none⟩ = some (.slice (some ⟨cb, 0, none⟩) N N) ∧ wr.drew.cell? ⟨cb, q, none⟩ = some (.slice (some ⟨b1, 0, none⟩) 64 c1) ∧ wr.drew.cell? ⟨sb, q, none⟩ = some (.slice (some ⟨b2, 0, none⟩) 64 c2) := ⟨y0, y1, cv, cvs⟩
        refine wpAnyT_take (i := 0) (v := ?_) rfl (by kernel_rfl) (by kernel_rfl) (by kernel_rfl) (by kernel_rfl) (by kernel_rfl) (fun _ _ _ h => h) (Or.inl ⟨by rfl, ?_⟩) (by assumption) ?_
        rotate_left
        · intro w hSw; (try dsimp only at hSw); go_simp; try (with_reducible rfl)
        try simp only [Act.put]
        refine wpAnyT_take (i := 1) (v := ?_) rfl (by kernel_rfl) (by kernel_rfl) (by kernel_rfl) (by kernel_rfl) (by kernel_rfl) (fun _ _ _ h => h) (Or.inl ⟨by rfl, ?_⟩) (by assumption) ?_
        rotate_left
        · intro w hSw; (try dsimp only at hSw); go_simp; try (with_reducible rfl)
        try simp only [Act.put]
        refine wpAnyT_take (i := 2) (v := ?_) rfl (by kernel_rfl) (by kernel_rfl) (by kernel_rfl) (by kernel_rfl) (by kernel_rfl) (fun _ _ _ h => h) (Or.inl ⟨by rfl, ?_⟩) (by assumption) ?_
        rotate_left
        · intro w hSw; (try dsimp only at hSw); go_simp; try (with_reducible rfl)
        try simp only [Act.put]
        refine wpAnyT_take (i := 3) (v := ?_) rfl (by kernel_rfl) (by kernel_rfl) (by kernel_rfl) (by kernel_rfl) (by kernel_rfl) (fun _ _ _ h => h) (Or.inl ⟨by rfl, ?_⟩) (by assumption) ?_
        rotate_left
        · intro w hSw; (try dsimp only at hSw); go_simp; try (with_reducible rfl)
        try simp only [Act.put]
        refine wpAnyT_take (i := 4) (v := ?_) rfl (by kernel_rfl) (by kernel_rfl) (by kernel_rfl) (by kernel_rfl) (by kernel_rfl) (fun _ _ _ h => h) (Or.inl ⟨by rfl, ?_⟩) (by assumption) ?_
        rotate_left
        · intro w hSw; (try dsimp only at hSw); go_simp; try (with_reducible rfl)
        try simp only [Act.put]
        refine wpAnyT_take (i := 6) (v := ?_) rfl (by kernel_rfl) (by kernel_rfl) (by kernel_rfl) (by kernel_rfl) (by kernel_rfl) (fun _ _ _ h => h) (Or.inl ⟨by rfl, ?_⟩) (by assumption) ?_
        rotate_left
        · intro w hSw; (try dsimp only at hSw); go_simp; try (with_reducible rfl)
        try simp only [Act.put]
        refine wpAnyT_take (i := 7) (v := ?_) rfl (by kernel_rfl) (by kernel_rfl) (by kernel_rfl) (by kernel_rfl) (by kernel_rfl) (fun _ _ _ h => h) (Or.inl ⟨by rfl, ?_⟩) (by assumption) ?_
        rotate_left
        · intro w hSw; (try dsimp only at hSw); go_simp; try (with_reducible rfl)
        try simp only [Act.put]
        refine wpAnyT_take (i := 8) (v := ?_) rfl (by kernel_rfl) (by kernel_rfl) (by kernel_rfl) (by kernel_rfl) (by kernel_rfl) (fun _ _ _ h => h) (Or.inl ⟨by rfl, ?_⟩) (by assumption) ?_
        rotate_left
        · intro w hSw; (try dsimp only at hSw); go_simp; try (with_reducible rfl)
        try simp only [Act.put]
        refine wpAnyT_take (i := 9) (v := ?_) rfl (by kernel_rfl) (by kernel_rfl) (by kernel_rfl) (by kernel_rfl) (by kernel_rfl) (fun _ _ _ h => h) (Or.inl ⟨by rfl, ?_⟩) (by assumption) ?_
        rotate_left
        · intro w hSw; (try dsimp only at hSw); go_simp; try (with_reducible rfl)
        try simp only [Act.put]
        refine wpAnyT_take (i := 10) (v := ?_) rfl (by kernel_rfl) (by kernel_rfl) (by kernel_rfl) (by kernel_rfl) (by kernel_rfl) (fun _ _ _ h => h) (Or.inl ⟨by rfl, ?_⟩) (by assumption) ?_
        rotate_left
        · intro w hSw; (try dsimp only at hSw); go_simp; try (with_reducible rfl)
        try simp only [Act.put]
        refine wpAnyT_take (i := 11) (v := ?_) rfl (by kernel_rfl) (by kernel_rfl) (by kernel_rfl) (by kernel_rfl) (by kernel_rfl) (fun _ _ _ h => h) (Or.inl ⟨by rfl, ?_⟩) (by assumption) ?_
        rotate_left
        · intro w hSw; (try dsimp only at hSw); go_simp; try (with_reducible rfl)
        try simp only [Act.put]
        refine wpAnyT_take (i := 12) (v := ?_) rfl (by kernel_rfl) (by kernel_rfl) (by kernel_rfl) (by kernel_rfl) (by kernel_rfl) (fun _ _ _ h => h) (Or.inl ⟨by rfl, ?_⟩) (by assumption) ?_
        rotate_left
        · intro w hSw; (try dsimp only at hSw); go_simp; try (with_reducible rfl)
        try simp only [Act.put]
        refine wpAnyT_take (i := 13) (v := ?_) rfl (by kernel_rfl) (by kernel_rfl) (by kernel_rfl) (by kernel_rfl) (by kernel_rfl) (fun _ _ _ h => h) (Or.inl ⟨by rfl, ?_⟩) (by assumption) ?_
        rotate_left
        · intro w hSw; (try dsimp only at hSw); go_simp; try (with_reducible rfl)
        try simp only [Act.put]
        refine wpAnyT_take (i := 14) (v := ?_) rfl (by kernel_rfl) (by kernel_rfl) (by kernel_rfl) (by kernel_rfl) (by kernel_rfl) (fun _ _ _ h => h) (Or.inl ⟨by rfl, ?_⟩) (by assumption) ?_
        rotate_left
        · intro w hSw; (try dsimp only at hSw); go_simp; try (with_reducible rfl)
        try simp only [Act.put]
        refine wpAnyT_take (i := 16) (v := ?_) rfl (by kernel_rfl) (by kernel_rfl) (by kernel_rfl) (by kernel_rfl) (by kernel_rfl) (fun _ _ _ h => h) (Or.inl ⟨by rfl, ?_⟩) (by assumption) ?_
        rotate_left
        · intro w hSw; (try dsimp only at hSw); go_simp; try (with_reducible rfl)
        try simp only [Act.put]
        refine wpAnyT_take (i := 17) (v := ?_) rfl (by kernel_rfl) (by kernel_rfl) (by kernel_rfl) (by kernel_rfl) (by kernel_rfl) (fun _ _ _ h => h) (Or.inl ⟨by rfl, ?_⟩) (by assumption) ?_
        rotate_left
        · intro w hSw; (try dsimp only at hSw); go_simp; try (with_reducible rfl)
        try simp only [Act.put]
        refine wpAnyT_take (i := 18) (v := ?_) rfl (by kernel_rfl) (by kernel_rfl) (by kernel_rfl) (by kernel_rfl) (by kernel_rfl) (fun _ _ _ h => h) (Or.inl ⟨by rfl, ?_⟩) (by assumption) ?_
        rotate_left
        · intro w hSw; (try dsimp only at hSw); go_simp; try (with_reducible rfl)
        try simp only [Act.put]
        refine wpAnyT_take (i := 19) (v := ?_) rfl (by kernel_rfl) (by kernel_rfl) (by kernel_rfl) (by kernel_rfl) (by kernel_rfl) (fun _ _ _ h => h) (Or.inl ⟨by rfl, ?_⟩) (by assumption) ?_
        rotate_left
        · intro w hSw; (try dsimp only at hSw); go_simp; try (with_reducible rfl)
        try simp only [Act.put]
        refine wpAnyT_take (i := 20) (v := ?_) rfl (by kernel_rfl) (by kernel_rfl) (by kernel_rfl) (by kernel_rfl) (by kernel_rfl) (fun _ _ _ h => h) (Or.inl ⟨by rfl, ?_⟩) (by assumption) ?_
        rotate_left
        · intro w hSw; (try dsimp only at hSw); go_simp; try (with_reducible rfl)
        try simp only [Act.put]
        refine wpAnyT_take (i := 21) (v := ?_) rfl (by kernel_rfl) (by kernel_rfl) (by kernel_rfl) (by kernel_rfl) (by kernel_rfl) (fun _ _ _ h => h) (Or.inl ⟨by rfl, ?_⟩) (by assumption) ?_
        rotate_left
        · intro w hSw; (try dsimp only at hSw); go_simp; try (with_reducible rfl)
        try simp only [Act.put]
        refine wpAnyT_take (i := 22) (v := ?_) rfl (by kernel_rfl) (by kernel_rfl) (by kernel_rfl) (by kernel_rfl) (by kernel_rfl) (fun _ _ _ h => h) (Or.inl ⟨by rfl, ?_⟩) (by assumption) ?_
        rotate_left
        · intro w hSw; (try dsimp only at hSw); go_simp; try (with_reducible rfl)
        try simp only [Act.put]
        refine wpAnyT_take (i := 23) (v := ?_) rfl (by kernel_rfl) (by kernel_rfl) (by kernel_rfl) (by kernel_rfl) (by kernel_rfl) (fun _ _ _ h => h) (Or.inl ⟨by rfl, ?_⟩) (by assumption) ?_
        rotate_left
        · intro w hSw; (try dsimp only at hSw); go_simp; try (with_reducible rfl)
        try simp only [Act.put]
        refine wpAnyT_take (i := 24) (v := ?_) rfl (by kernel_rfl) (by kernel_rfl) (by kernel_rfl) (by kernel_rfl) (by kernel_rfl) (fun _ _ _ h => h) (Or.inl ⟨by rfl, ?_⟩) (by assumption) ?_
        rotate_left
        · intro w hSw; (try dsimp only at hSw); go_simp; try (with_reducible rfl)
        try simp only [Act.put]
        refine wpAnyT_one (i := 5) rfl (by kernel_rfl) (fun K hK => ?_)
        go_simp
        refine hK.out _ _ (fun _ => ⟨al0 _, al1 _, al2 _, al3 _⟩) ?_; clear hK K
        try simp only [Act.put]
        refine wpAnyT_one (i := 15) rfl (by kernel_rfl) (fun K hK => ?_)
        refine step_app_b rfl (.tmp 53) (.tmp 62) rfl wr.drew.heap.size _ [] (by simp [Act.eval]) (OwnB.empty wr.drew (Nat.le_refl _)) (some ⟨b1, 0, none⟩) mm c1 (x.take mm) (by simp [Act.eval]) S1 (by simp; omega) (by simp) ?_
        intro v3 w3 hO3 hg3
        have hB3 := ((Below.refl wr.drew.heap.size wr.drew).alloc (Nat.le_refl _) (.cells #[] 5)).grown hg3 (by simp) (fun k hk => by cases hk; exact Nat.le_refl _)
        have a0 := (hB3.cell (p := ⟨g, 0, none⟩) bg).trans y0
        have a1 := (hB3.cell (p := ⟨g, 1, none⟩) bg).trans y1
        have a2 := (hB3.cell (p := ⟨cb, q, none⟩) bcb).trans cv
        have a3 := (hB3.cell (p := ⟨sb, q, none⟩) bsb).trans cvs
        refine hK.out _ _ (fun _ => ⟨a0, a1, a2, a3⟩) ?_; clear hK K
        try simp only [Act.put]
        refine wpAnyT_one (i := 25) rfl (by kernel_rfl) (fun K hK => ?_)
        refine step_app_b rfl (.tmp 63) (.tmp 72) rfl wr.drew.heap.size v3 _ (by simp [Act.eval]) hO3 ad2 (64 - mm) (c2 - mm) (y.drop mm) (by simp [Act.eval]) (S2.ext hB3) (by simp; omega) hB3.size ?_
        intro v5 w5 hO5 hg5
        obtain ⟨b5, c5, rfl, hb5, hbl5, hs5⟩ := OwnB.at0 (l := x.take mm ++ y.drop mm) hO5 HLEN.out
        have hB5 := hB3.grown hg5 hB3.size (fun k hk => (hO3.lt k hk).1)
        have e0 := (hB5.cell (p := ⟨g, 0, none⟩) bg).trans y0
        have e1 := (hB5.cell (p := ⟨g, 1, none⟩) bg).trans y1
        have e2 := (hB5.cell (p := ⟨cb, q, none⟩) bcb).trans cv
        have e3 := (hB5.cell (p := ⟨sb, q, none⟩) bsb).trans cvs
        have e4 : w5.frozen? ⟨sb, q, none⟩ = false := ((hPd.ext hB5).sto.free q)
        refine hK.out _ _ (fun _ => ⟨e0, e1, e2, e3⟩) ?_; clear hK K
        try simp only [Act.put]
        have hH5 : w5.cell? ⟨g, 0, none⟩ = some (.slice (some ⟨sb, 0, none⟩) N sc) ∧ w5.cell? ⟨g, 1, none⟩ = some (.slice (some ⟨cb, 0, none⟩) N N) ∧ w5.cell? ⟨cb, q, none⟩ = some (.slice (some ⟨b1, 0, none⟩) 64 c1) ∧ w5.cell? ⟨sb, q, none⟩ = some (.slice (some ⟨b2, 0, none⟩) 64 c2) := ⟨e0, e1, e2, e3⟩
        refine wpAnyT_take (i := 26) (v := ?_) rfl (by kernel_rfl) (by kernel_rfl) (by kernel_rfl) (by kernel_rfl) (by kernel_rfl) (fun _ _ _ h => h) (Or.inl ⟨by rfl, ?_⟩) (by assumption) ?_
        rotate_left
        · intro w hSw; (try dsimp only at hSw); go_simp; try (with_reducible rfl)
        try simp only [Act.put]
        refine wpAnyT_one (i := 27) rfl (by kernel_rfl) (fun K hK => ?_)
        go_simp
        refine hK.out _ _ (fun e => absurd rfl e) ?_; clear hK K
        try simp only [Act.put]
        refine wpAnyT_done (by kernel_rfl) ?_ _
        obtain ⟨hP6, hU6⟩ := hPd.store HQS.out HLEN.out hb5 hB5 hs5 hbl5
        clear e0 e1 e2 e3 e4 y0 y1 cv cvs hs5 hO5 hg5 hB5 hHeld hH5
        generalize w5.setCell ⟨sb, q, none⟩ (.slice (some ⟨b5, 0, none⟩) 64 c5) = W6 at *
        have hU7 := (hU.drew).trans hU6
        clear hU6 hPd hU
        go_wp2
        exact ⟨⟨k + 1, by omega, by go_num, ⟨_, by rw [HT.out, HT2.out]; exact hP6, hU7⟩⟩, by simp [intOf]; omega⟩
    · obtain rfl : k = n := by omega
      have hall : ks.take k = ks := List.take_of_length_le (by rw [HLN.out]; exact Nat.le_refl _)
      have hst := HST.out k
      have hcal := HCA.out k
      rw [hall] at hP hst hcal
      have hdr : Disk.restart d ks = { ks.foldl Disk.tear d with ca := List.replicate d.ca.length none, fs := [], cnt := 0, off := false } := rfl
      have hle2 : (ks.foldl Disk.tear d).ca.length = d.ca.length := by rw [hcal]
      obtain ⟨dk, hdk⟩ : ∃ dk, List.foldl Disk.tear d ks = dk := ⟨_, rfl⟩
      rw [hdk] at hP hst hdr hle2
      have HDR := Lib.hid hdr
      have HLE := Lib.hid hle2
      have HN2 := Lib.hid hst
      obtain ⟨y0, y1, -⟩ := hP.cells
      rw [hst] at y0 y1
      have bg := heap_lt hP.box
      clear hdk hdr hle2 hcal hall
      have hfg := hP.free 1
      have t8 : (N : Int) ≤ 1000000 := by omega
      go_wp2_with ((show wpList _ _ _ (Oper.mk (some 81) _ _ _ _ _ :: _) _ _); go_must (refine wpList_make_lists rfl (.tmp 80) (.tmp 80) rfl N (N : Int) (N : Int) rfl rfl rfl rfl (by omega) ?_); intro w1 cs hB1 hc1 hcsz hcs; have hP1 := hP.ext hB1; have x1 := (hB1.cell (p := ⟨g, 1, none⟩) bg).trans y1; obtain ⟨-, -, x2, x3, x4⟩ := hP1.cells; have f1 := hP1.free 1; have f2 := hP1.free 2; have f3 := hP1.free 3; have f4 := hP1.free 4)
      go_end0
      have hC := hP1.setCb hc1 (by rw [HN2.out]; exact hcsz) (by rw [HN2.out]; exact hcs) (fun e => Nat.lt_irrefl _ (hP.lt _ e))
      rw [HN2.out, HLE.out] at hC
      have hD := ((hC.setFs none 0 0 [] (SlP.nil _) (fun y hy => by cases hy)).setCnt 0).setOff false
      have hg := h.Fg
      have hU1 := ((((hU.ext hB1).setCell (.inl hg) 1 (.slice (some ⟨wr.heap.size, 0, none⟩) N N)).setCell (.inl hg) 2 (.slice none 0 0)).setCell (.inl hg) 3 (.int .i64 0)).setCell (.inl hg) 4 (.bool false)
      refine ⟨rfl, _, _, by rw [HDR.out]; exact hD, hU1.grow (fun j hj => ?_)⟩
      rcases hj with e | rfl
      · exact hU.new j e
      · exact .inr hU.size
end

end Go.Proofs.YtabeelcidlhniaaGreat
