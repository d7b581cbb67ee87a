/-
  Texts in one: RExt, RExt2.
-/
import Derived.Test.YtabeelcidlhniaaGreatRun33
import Derived.Test.YtabeelcidlhniaaGreatExtent
import Derived.Test.YtabeelcidlhniaaGreatRun35
import Derived.Test.YtabeelcidlhniaaGreatRun19
/-
  The reference's extents: Valid, Size, check.
-/
namespace Go.Proofs.YtabeelcidlhniaaGreat
open Go.RowKit

theorem re_size (f c : Int) (hc : -9223372036854775808 ≤ c ∧ c ≤ 9223372036854775807) (w : World) : Calls Tryz.prog 39 #[.agg #[.int .i64 f, .int .i64 c]] w fun e w' => e = .returned (.int .i64 (Extent.size c)) ∧ Below w.heap.size w w' := by
  have hb := (Below.refl _ w).alloc (Nat.le_refl _) (.cells #[.int .i64 f, .int .i64 c] 23)
  obtain ⟨h1, h2⟩ := hc
  unfold Extent.size
  by_cases h : c < 0
  · rw [if_pos (.inl h)]
    go_enter Tryz.func39, Tryz.ntmps39
    go_wp2
    go_ret
    exact ⟨rfl, hb⟩
  by_cases h' : 4096 < c
  · rw [if_pos (.inr h')]
    go_enter Tryz.func39, Tryz.ntmps39
    go_wp2
    go_ret
    exact ⟨rfl, hb⟩
  · rw [if_neg (by omega)]
    go_enter Tryz.func39, Tryz.ntmps39
    go_wp2
    go_ret
    exact ⟨rfl, hb⟩

section
variable {F : Nat → Prop} {w w' : World} {g sb cb sc : Nat} {fa : Option Addr} {fn fc : Nat} {d d' : Disk.Dk}

set_option maxRecDepth 100000 in
set_option maxHeartbeats 2000000 in
theorem re_valid (h : RD F w g sb cb sc fa fn fc d) (f c : Int) :
    Calls Tryz.prog 52 #[.pointer (some ⟨g, 0, none⟩), .agg #[.int .i64 f, .int .i64 c]] w fun e w' => e = .returned (.bool (Extent.valid d.st.length f c)) ∧ Below w.heap.size w w' := by
  have hb := (Below.refl _ w).alloc (Nat.le_refl _) (.cells #[.int .i64 f, .int .i64 c] 23)
  have hn := h.ok.max
  have hP := h.ext hb
  have HQ : ∀ q, Calls Tryz.prog 61 #[.pointer (some ⟨g, 0, none⟩)] ((w.alloc (.cells #[.int .i64 f, .int .i64 c] 23)).drewN q) fun e w' => e = .returned (.int .i64 (d.st.length : Nat)) ∧ w' = (w.alloc (.cells #[.int .i64 f, .int .i64 c] 23)).drewN q := fun q => (rd_sectors (hP.drewN q)).mono (by rintro e w' ⟨rfl, rfl⟩; exact ⟨rfl, rfl⟩)
  have hbq : ∀ q, Below w.heap.size w ((w.alloc (.cells #[.int .i64 f, .int .i64 c] 23)).drewN q) := fun q => hb.trans (below_drewQ _ _ _)
  generalize d.st.length = n at *
  clear hP h
  have HC := Lib.hid HQ
  clear HQ
  have z0 : (w.alloc (.cells #[.int .i64 f, .int .i64 c] 23)).cell? ⟨w.heap.size, 0, none⟩ = some (.int .i64 f) := by rw [World.cell?_alloc_at _ _ _ _ rfl]; rfl
  have z1 : (w.alloc (.cells #[.int .i64 f, .int .i64 c] 23)).cell? ⟨w.heap.size, 1, none⟩ = some (.int .i64 c) := by rw [World.cell?_alloc_at _ _ _ _ rfl]; rfl
  obtain ⟨r, hr⟩ : ∃ r, r = Extent.valid n f c := ⟨_, rfl⟩
  rw [← hr]
  unfold Extent.valid at hr
  by_cases h1 : 0 ≤ f
  · have t1 : decide (0 ≤ f) = true := decide_eq_true h1
    by_cases h2 : 1 ≤ c
    · have t2 : decide (1 ≤ c) = true := decide_eq_true h2
      by_cases h3 : c ≤ (n : Int)
      · have t3 : decide (c ≤ (n : Int)) = true := decide_eq_true h3
        have hr2 : r = decide (f ≤ (n : Int) - c) := by rw [hr, t1, t2, t3]; rfl
        have HR := Lib.hid hr2
        clear hr hr2
        by_cases h4 : f ≤ (n : Int) - c
        · have t4 : decide (f ≤ (n : Int) - c) = true := decide_eq_true h4
          go_enter Tryz.func52, Tryz.ntmps52
          go_wp2
          go_quiet (first | (go_at_call 61; with_reducible exact Calls.quiet_of_same (HC.out _)))
          go_wp2
          go_ret
          exact ⟨by rw [HR.out, t4]; rfl, hbq _⟩
        · have t4 : decide (f ≤ (n : Int) - c) = false := decide_eq_false h4
          go_enter Tryz.func52, Tryz.ntmps52
          go_wp2
          go_quiet (first | (go_at_call 61; with_reducible exact Calls.quiet_of_same (HC.out _)))
          go_wp2
          go_ret
          exact ⟨by rw [HR.out, t4]; rfl, hbq _⟩
      · have t3 : decide (c ≤ (n : Int)) = false := decide_eq_false h3
        have hr2 : r = false := by rw [hr, t1, t2, t3]; rfl
        subst hr2; clear hr
        go_enter Tryz.func52, Tryz.ntmps52
        go_wp2
        go_quiet (first | (go_at_call 61; with_reducible exact Calls.quiet_of_same (HC.out _)))
        go_wp2
        go_ret
        exact ⟨rfl, hbq _⟩
    · have t2 : decide (1 ≤ c) = false := decide_eq_false h2
      have hr2 : r = false := by rw [hr, t1, t2]; rfl
      subst hr2; clear hr
      go_enter Tryz.func52, Tryz.ntmps52
      go_wp2
      go_quiet (fail)
      go_wp2
      go_ret
      exact ⟨rfl, hbq _⟩
  · have t1 : decide (0 ≤ f) = false := decide_eq_false h1
    have hr2 : r = false := by rw [hr, t1]; rfl
    subst hr2; clear hr
    go_enter Tryz.func52, Tryz.ntmps52
    go_wp2
    go_quiet (fail)
    go_wp2
    go_ret
    exact ⟨rfl, hbq _⟩

set_option maxHeartbeats 1000000 in
theorem re_check (h : RD F w g sb cb sc fa fn fc d) (f c off len : Int) (hc : ib c) (ho : ib off) (hl : ib len) :
    Calls Tryz.prog 72 #[.pointer (some ⟨g, 0, none⟩), .agg #[.int .i64 f, .int .i64 c], .int .i64 off, .int .i64 len] w fun e w' => e = .returned (.int .i64 (Extent.check d.st.length f c off len)) ∧ Below w.heap.size w w' := by
  have hb := (Below.refl _ w).alloc (Nat.le_refl _) (.cells #[.int .i64 f, .int .i64 c] 23)
  have hV := Lib.hid (re_valid (h.ext ((Below.refl _ w).alloc (Nat.le_refl _) (.cells #[.int .i64 f, .int .i64 c] 23))) f c)
  have hS := Lib.hid (re_size f c hc)
  obtain ⟨r, hr⟩ : ∃ r, r = Extent.check d.st.length f c off len := ⟨_, rfl⟩
  rw [← hr]
  unfold Extent.check at hr
  have hsw : ∀ sz : Int, (if off < 0 ∨ len < 0 ∨ sz < off ∨ sz - off < len then (2 : Int) else 0) = if off < 0 ∨ len < 0 ∨ sz < len ∨ sz - len < off then 2 else 0 := fun sz => by
    by_cases hq : off < 0 ∨ len < 0 ∨ sz < off ∨ sz - off < len
    · rw [if_pos hq, if_pos (by omega)]
    · rw [if_neg hq, if_neg (by omega)]
  rw [hsw] at hr
  clear hsw
  obtain ⟨ho1, ho2⟩ := ho
  obtain ⟨hl1, hl2⟩ := hl
  have hsz : 0 ≤ Extent.size c ∧ Extent.size c ≤ 262144 := by unfold Extent.size; split <;> omega
  generalize Extent.valid d.st.length f c = v at *
  generalize Extent.size c = sz at *
  obtain ⟨hs0, hs1⟩ := hsz
  cases v with
  | false =>
    rw [if_neg (by decide)] at hr
    have HR := Lib.hid hr; clear hr
    go_enter Tryz.func72, Tryz.ntmps72
    go_wp2_with (go_at_call 52; refine hV.out.mono ?_; rintro e w1 ⟨rfl, hb1⟩)
    go_ret
    exact ⟨by rw [HR.out]; rfl, hb.trans (Below.mono hb1 (by simp))⟩
  | true =>
    rw [if_pos rfl] at hr
    have hkeep : ∀ W : World, Below (w.heap.size + 1) (w.alloc (.cells #[.int .i64 f, .int .i64 c] 23)) W → W.cell? ⟨w.heap.size, 0, none⟩ = some (.int .i64 f) ∧ W.cell? ⟨w.heap.size, 1, none⟩ = some (.int .i64 c) ∧ Below w.heap.size w W ∧ w.heap.size + 1 ≤ W.heap.size := by
      intro W hW
      refine ⟨(hW.cell (p := ⟨w.heap.size, 0, none⟩) (by simp)).trans ?_, (hW.cell (p := ⟨w.heap.size, 1, none⟩) (by simp)).trans ?_, hb.trans (hW.mono (by omega)), by have := hW.size; simpa using this⟩
      · rw [World.cell?_alloc_at _ _ _ _ rfl]; rfl
      · rw [World.cell?_alloc_at _ _ _ _ rfl]; rfl
    have HK := Lib.hid hkeep
    clear hkeep
    have hz : (w.alloc (.cells #[.int .i64 f, .int .i64 c] 23)).heap.size = w.heap.size + 1 := by simp
    have HZ := Lib.hid hz
    clear hz
    by_cases h1 : off < 0
    · rw [if_pos (.inl h1)] at hr
      have HR := Lib.hid hr; clear hr
      go_enter Tryz.func72, Tryz.ntmps72
      go_wp2_with (go_at_call 52; refine hV.out.mono ?_; rintro e w1 ⟨rfl, hb1⟩; rw [HZ.out] at hb1; obtain ⟨x0, x1, hb2, hz2⟩ := HK.out _ hb1)
      go_ret
      exact ⟨by rw [HR.out]; rfl, hb2⟩
    by_cases h2 : len < 0
    · rw [if_pos (.inr (.inl h2))] at hr
      have HR := Lib.hid hr; clear hr
      have t1 : decide (off < 0) = false := decide_eq_false h1
      go_enter Tryz.func72, Tryz.ntmps72
      go_wp2_with (go_at_call 52; refine hV.out.mono ?_; rintro e w1 ⟨rfl, hb1⟩; rw [HZ.out] at hb1; obtain ⟨x0, x1, hb2, hz2⟩ := HK.out _ hb1)
      go_ret
      exact ⟨by rw [HR.out]; rfl, hb2⟩
    have t1 : decide (off < 0) = false := decide_eq_false h1
    have t2 : decide (len < 0) = false := decide_eq_false h2
    have b1 : 0 ≤ off := by omega
    have b2 : 0 ≤ len := by omega
    by_cases h3 : sz < len
    · rw [if_pos (.inr (.inr (.inl h3)))] at hr
      have HR := Lib.hid hr; clear hr
      go_enter Tryz.func72, Tryz.ntmps72
      go_wp2_with (first | (go_at_call 52; refine hV.out.mono ?_; rintro e w1 ⟨rfl, hb1⟩; rw [HZ.out] at hb1; obtain ⟨x0, x1, hb2, hz2⟩ := HK.out _ hb1) | (go_at_call 39; refine (hS.out _).mono ?_; rintro e w3 ⟨rfl, hb3⟩; have hb4 := hb1.trans (Below.mono hb3 hz2); obtain ⟨y0, y1, hb5, hz5⟩ := HK.out _ hb4))
      go_ret
      exact ⟨by rw [HR.out]; rfl, hb5⟩
    have t3 : decide (sz < len) = false := decide_eq_false h3
    have b3 : 0 ≤ sz - len := by omega
    by_cases h4 : sz - len < off
    · rw [if_pos (.inr (.inr (.inr h4)))] at hr
      have HR := Lib.hid hr; clear hr
      go_enter Tryz.func72, Tryz.ntmps72
      go_wp2_with fail
      refine hV.out.mono ?_; rintro e w1 ⟨rfl, hb1⟩; rw [HZ.out] at hb1; obtain ⟨x0, x1, hb2, hz2⟩ := HK.out _ hb1
      go_wp2_with fail
      refine (hS.out _).mono ?_; rintro e w3 ⟨rfl, hb3⟩; have hb4 := hb1.trans (Below.mono hb3 hz2); obtain ⟨y0, y1, hb5, hz5⟩ := HK.out _ hb4
      go_wp2_with fail
      refine (hS.out _).mono ?_; rintro e w6 ⟨rfl, hb6⟩; have hb7 := hb4.trans (Below.mono hb6 hz5); obtain ⟨z0, z1, hb8, hz8⟩ := HK.out _ hb7
      go_wp2_with fail
      go_ret
      exact ⟨by rw [HR.out]; rfl, hb8⟩
    · rw [if_neg (by omega)] at hr
      have HR := Lib.hid hr; clear hr
      go_enter Tryz.func72, Tryz.ntmps72
      go_wp2_with fail
      refine hV.out.mono ?_; rintro e w1 ⟨rfl, hb1⟩; rw [HZ.out] at hb1; obtain ⟨x0, x1, hb2, hz2⟩ := HK.out _ hb1
      go_wp2_with fail
      refine (hS.out _).mono ?_; rintro e w3 ⟨rfl, hb3⟩; have hb4 := hb1.trans (Below.mono hb3 hz2); obtain ⟨y0, y1, hb5, hz5⟩ := HK.out _ hb4
      go_wp2_with fail
      refine (hS.out _).mono ?_; rintro e w6 ⟨rfl, hb6⟩; have hb7 := hb4.trans (Below.mono hb6 hz5); obtain ⟨z0, z1, hb8, hz8⟩ := HK.out _ hb7
      go_wp2_with fail
      go_ret
      exact ⟨by rw [HR.out]; rfl, hb8⟩
end

end Go.Proofs.YtabeelcidlhniaaGreat

/-
  The reference's extents: Read.
-/
namespace Go.Proofs.YtabeelcidlhniaaGreat
open Go.RowKit

section
variable {F : Nat → Prop} {w w' : World} {g sb cb sc : Nat} {fa : Option Addr} {fn fc : Nat} {d d' : Disk.Dk}

/-- The box of the extent at block eb. -/
def XBox (w : World) (eb : Nat) (f c : Int) : Prop := w.heap[eb]? = some (.cells #[.int .i64 f, .int .i64 c] 23 (0, 0))
theorem XBox.cells {w : World} {eb : Nat} {f c : Int} (h : XBox w eb f c) : w.cell? ⟨eb, 0, none⟩ = some (.int .i64 f) ∧ w.cell? ⟨eb, 1, none⟩ = some (.int .i64 c) :=
  ⟨by rw [cell_of_row _ _ _ _ _ _ h]; rfl, by rw [cell_of_row _ _ _ _ _ _ h]; rfl⟩

/-- Where the loop of Read stands. -/
def XRd (F : Nat → Prop) (W : World) (g sb cb sc : Nat) (fa : Option Addr) (fn fc : Nat) (f0 o0 e N n : Nat) (R : List UInt8 × Int × Disk.Dk) (k : Nat) (v : Value) (wr : World) : Prop :=
  ∃ acc d', Extent.rd f0 o0 e (N - k) k acc d' = R ∧ RD F wr g sb cb sc fa fn fc d' ∧ d'.st.length = n ∧ OwnB W.heap.size wr v acc ∧ acc.length ≤ 64 * k ∧ Upd F W F wr

theorem XRd.ext {W wr w' : World} {f0 o0 e N n : Nat} {R : List UInt8 × Int × Disk.Dk} {k : Nat} {v : Value} (h : XRd F W g sb cb sc fa fn fc f0 o0 e N n R k v wr) (hB : Below wr.heap.size wr w') : XRd F W g sb cb sc fa fn fc f0 o0 e N n R k v w' := by
  obtain ⟨acc, d', h1, h2, h3, h4, h5, h6⟩ := h
  exact ⟨acc, d', h1, h2.ext hB, h3, h4.ext hB, h5, h6.ext hB⟩

theorem rd_read_at (h : RD F w g sb cb sc fa fn fc d) (i : Int) {b : List UInt8} {z : Int} (hr : Disk.read d i = (b, z, d')) :
    Calls Tryz.prog 73 #[.pointer (some ⟨g, 0, none⟩), .int .i64 i] w fun e w' => ∃ v, e = .returned (.tuple #[v, .int .i64 z]) ∧ OwnB w.heap.size w' v b ∧ RD F w' g sb cb sc fa fn fc d' ∧ Upd F w F w' := by
  have := rd_read h i
  unfold RReadPost at this; rw [hr] at this; exact this
theorem rd_write_at (h : RD F w g sb cb sc fa fn fc d) (i : Int) {a : Option Addr} {n c : Nat} {x : List UInt8} (hx : SlB w a n c x) (hF : ∀ y, a = some y → x ≠ [] → ¬ F y.block) {z : Int} (hr : Disk.write d i x = (z, d')) :
    Calls Tryz.prog 74 #[.pointer (some ⟨g, 0, none⟩), .int .i64 i, .slice a n c] w fun e w' => e = .returned (.int .i64 z) ∧ ∃ F', RD F' w' g sb cb sc fa fn fc d' ∧ Upd F w F' w' := by
  have := rd_write h i a n c x hx hF
  unfold RWritePost at this; rw [hr] at this; exact this

def RExReadPost (F : Nat → Prop) (w : World) (g sb cb sc : Nat) (fa : Option Addr) (fn fc : Nat) (r : List UInt8 × Int × Disk.Dk) (e : Ending) (w' : World) : Prop :=
  ∃ v, e = .returned (.tuple #[v, .int .i64 r.2.1]) ∧ OwnB w.heap.size w' v r.1 ∧ RD F w' g sb cb sc fa fn fc r.2.2 ∧ Upd F w F w'

set_option maxRecDepth 100000 in
set_option maxHeartbeats 4000000 in
theorem re_read (h : RD F w g sb cb sc fa fn fc d) (f c off len : Int) (hf : ib f) (hc : ib c) (ho : ib off) (hl : ib len) :
    Calls Tryz.prog 53 #[.pointer (some ⟨g, 0, none⟩), .agg #[.int .i64 f, .int .i64 c], .int .i64 off, .int .i64 len] w (RExReadPost F w g sb cb sc fa fn fc (Extent.read d f c off len)) := by
  have hb := (Below.refl _ w).alloc (Nat.le_refl _) (.cells #[.int .i64 f, .int .i64 c] 23)
  have HCK := Lib.hid (re_check (h.ext ((Below.refl _ w).alloc (Nat.le_refl _) (.cells #[.int .i64 f, .int .i64 c] 23))) f c off len hc ho hl)
  have hbox : XBox (w.alloc (.cells #[.int .i64 f, .int .i64 c] 23)) w.heap.size f c := heap_alloc_eq _ _ _ rfl
  have z0 : (w.alloc (.cells #[.int .i64 f, .int .i64 c] 23)).cell? ⟨w.heap.size, 0, none⟩ = some (.int .i64 f) := hbox.cells.1
  have z1 : (w.alloc (.cells #[.int .i64 f, .int .i64 c] 23)).cell? ⟨w.heap.size, 1, none⟩ = some (.int .i64 c) := hbox.cells.2
  obtain ⟨R, hR⟩ : ∃ R, Extent.read d f c off len = R := ⟨_, rfl⟩
  rw [hR]
  unfold Extent.read at hR
  obtain ⟨ck, hck⟩ : ∃ ck, Extent.check d.st.length f c off len = ck := ⟨_, rfl⟩
  rw [hck] at hR HCK
  by_cases h0 : ck = 0
  · subst h0
    rw [if_pos rfl] at hR
    obtain ⟨k1, k2, k3, k4, k5, k6, k7⟩ := Extent.check_ok hck
    have hmx := h.ok.max
    have hsz : Extent.size c ≤ 262144 := by unfold Extent.size; split <;> omega
    have hsz2 : Extent.size c = c * 64 := by unfold Extent.size; rw [if_neg (by omega)]
    obtain ⟨f0, rfl⟩ : ∃ f0 : Nat, f = (f0 : Int) := ⟨f.toNat, by omega⟩
    obtain ⟨o0, rfl⟩ : ∃ o0 : Nat, off = (o0 : Int) := ⟨off.toNat, by omega⟩
    obtain ⟨l0, rfl⟩ : ∃ l0 : Nat, len = (l0 : Int) := ⟨len.toNat, by omega⟩
    have ee : ((o0 : Int) + (l0 : Int)).toNat = o0 + l0 := by omega
    rw [ee] at hR
    simp only [Int.toNat_natCast] at hR
    obtain ⟨e, he⟩ : ∃ e, e = o0 + l0 := ⟨_, rfl⟩
    rw [← he] at hR
    have hl0 : l0 = e - o0 := by omega
    have hoe : o0 ≤ e := by omega
    have heb : e ≤ 262144 := by omega
    have hfb : f0 ≤ 4096 := by omega
    have hcn : ∀ p, p < e → f0 + p / 64 < d.st.length := fun p hp => by omega
    obtain ⟨n, hn⟩ : ∃ n, d.st.length = n := ⟨_, rfl⟩
    rw [hn] at hcn
    have HCN := Lib.hid hcn
    obtain ⟨N, hN⟩ : ∃ N, N = Extent.cnt o0 e := ⟨_, rfl⟩
    rw [← hN] at hR
    have HN := Lib.hid hN
    have hNb : N ≤ 5000 := by rw [hN]; unfold Extent.cnt; split <;> omega
    have HR0 : XRd F (w.alloc (.cells #[.int .i64 (f0 : Int), .int .i64 c] 23)) g sb cb sc fa fn fc f0 o0 e N n R 0 (.slice none 0 0) (w.alloc (.cells #[.int .i64 (f0 : Int), .int .i64 c] 23)) :=
      ⟨[], d, hR, h.ext hb, hn, OwnB.nil _ _, Nat.zero_le _, Upd.refl _ _⟩
    have HX := Lib.hid HR0
    have hlt := h.lt
    clear HR0 hR hck k1 k2 k3 k4 k5 k6 k7 hsz hsz2 ee he hn hcn hN hf hc ho hl hmx
    subst hl0
    go_enter Tryz.func53, Tryz.ntmps53
    go_wp2_with (go_at_call 72; go_must (refine HCK.out.mono ?_); rintro e1 w1 ⟨rfl, hb1⟩)
    have hbz : (w.alloc (.cells #[.int .i64 (f0 : Int), .int .i64 c] 23)).heap.size = w.heap.size + 1 := by simp
    have hX0 := HX.out.ext hb1
    generalize (w.alloc (.cells #[.int .i64 (f0 : Int), .int .i64 c] 23)) = W0 at *
    clear HCK HX z0 z1
    go_loopw [2, 3, 11, 12, 13, 14] (fun i2 i3 v _ _ _ wr => ∃ k : Nat, k ≤ N ∧ i2 = .int .i64 (Extent.pos o0 e k : Nat) ∧ i3 = .int .i64 ((e - Extent.pos o0 e k : Nat) : Int) ∧ XRd F W0 g sb cb sc fa fn fc f0 o0 e N n R k v wr) (fun i2 _ _ _ _ _ _ => e - (intOf i2).toNat)
    case atStart => exact ⟨0, Nat.zero_le _, by rw [Extent.pos_zero], by rw [Extent.pos_zero], hX0⟩
    case round =>
      obtain ⟨k, hk, rfl, rfl, hX⟩ := hrel
      clear hX0
      by_cases hlk : k < N
      · have hpl := (Extent.pos_lt o0 e k hoe).2 (by rw [← HN.out]; exact hlk)
        have hsu := Extent.pos_succ o0 e k (by rw [← HN.out]; exact hlk)
        have hst := Extent.step_pos hpl
        obtain ⟨acc, d', hRd, hP, hn', hO, hal, hU⟩ := hX
        have hN1 : N - k = (N - (k + 1)) + 1 := by omega
        rw [hN1] at hRd
        obtain ⟨b, z, d2, hr⟩ : ∃ b z d2, Disk.read d' ((f0 + Extent.pos o0 e k / 64 : Nat) : Int) = (b, z, d2) := ⟨_, _, _, rfl⟩
        have hd2 : d2.st.length = n := by have := (Disk.read_st d' ((f0 + Extent.pos o0 e k / 64 : Nat) : Int)).1; rw [hr] at this; rw [this]; exact hn'
        have hxb : XBox wr w.heap.size (f0 : Int) c := (hU.block w.heap.size (by omega) (fun e => Nat.lt_irrefl _ (hlt _ e))).trans hbox
        obtain ⟨x0, x1⟩ := hxb.cells
        have HP := Lib.hid hP
        by_cases hz : z = 0
        · subst hz
          have h64 := Disk.read_len hP.ok hr
          rw [Extent.rd_ok hr] at hRd
          obtain ⟨p, hp⟩ : ∃ p, p = Extent.pos o0 e k := ⟨_, rfl⟩
          rw [← hp] at hRd hr hpl hst hsu
          obtain ⟨u, hu⟩ : ∃ u, u = Extent.step e p := ⟨_, rfl⟩
          rw [← hu] at hRd hst hsu
          have hsu2 : Extent.pos o0 e (k + 1) = p + u := hsu
          have hue : min ((e - p : Nat) : Int) (64 - ((p % 64 : Nat) : Int)) = (u : Int) := by rw [hu]; unfold Extent.step; omega
          rw [← hp]
          obtain ⟨q, hq⟩ : ∃ q, q = p % 64 := ⟨_, rfl⟩
          obtain ⟨ix, hix⟩ : ∃ ix, ix = f0 + p / 64 := ⟨_, rfl⟩
          obtain ⟨nn, hnn⟩ : ∃ nn, nn = e - p := ⟨_, rfl⟩
          rw [← hnn, ← hq] at hue
          rw [← hnn]
          rw [← hix] at hr
          rw [← hq] at hst hRd
          obtain ⟨tt, ht⟩ : ∃ tt, tt = q + u := ⟨_, rfl⟩
          have hue2 : (if 64 - (q : Int) < (nn : Int) then 64 - (q : Int) else (nn : Int)) = (u : Int) := by omega
          have m1 : (0 : Int) < (nn : Int) := by omega
          have m2 : (p : Int) % 64 = (q : Int) := by omega
          have m3 : (f0 : Int) + (p : Int) / 64 = (ix : Int) := by omega
          have m4 : (q : Int) + (u : Int) = (tt : Int) := by omega
          have m5 : (q : Int) ≤ (tt : Int) := by omega
          have m6 : (p : Int) ≤ 262144 := by omega
          have m7 : (f0 : Int) ≤ 4096 := by omega
          have m8 : (tt : Int) ≤ 64 := by omega
          have m9 : (u : Int) ≤ (nn : Int) := by omega
          have m10 : (nn : Int) ≤ 262144 := by omega
          have m11 : tt - q = u := by omega
          have m12 : (0 : Int) ≤ (q : Int) := by omega
          have m13 : q < 64 := by omega
          have HR := Lib.hid hr
          have H64 := Lib.hid h64
          have HRd := Lib.hid hRd
          have HF := Lib.hid (And.intro hsu2 (And.intro hst (And.intro hp (And.intro hnn ht))))
          clear hr h64 hRd hsu hsu2 hst hp hu hq hix hnn ht hn' hP
          go_wp2_with (first
            | (go_at_call 73; go_must (refine (rd_read_at HP.out _ HR.out).mono ?_); rintro e5 w5 ⟨v5, rfl, hO5, hP5, hU5⟩; obtain ⟨b5, c5, rfl, hbb5, hbl5, hs5⟩ := hO5.at0 H64.out; have hc5 : (tt : Int) ≤ (c5 : Int) := (by have := hs5.2.1; omega); have hc6 : ¬ c5 = q := (by have := hs5.2.1; omega); have hc7 : tt ≤ c5 := (by have := hs5.2.1; omega))
            | ((show wpList _ _ _ (Oper.mk (some 52) _ _ _ _ _ :: _) _ _); go_must (refine wpList_append_bytes rfl _ _ rfl W0.heap.size _ acc rfl (hO.upd hU5 (fun b hb e => by have := (hO.lt b hb).1; have := hlt b e; omega)) (some ⟨b5, q, none⟩) u (c5 - q) ((b.drop q).take u) rfl (by simpa using (hs5.drop (k := q) (by omega)).take (k := u) (by have := HF.out.2.1; omega)) (by omega) (Nat.le_trans hU.size hU5.size) ?_); intro v6 w6 hO6 hg6 _))
          obtain ⟨g1, g2, g3, g4, g5⟩ := HF.out
          refine ⟨⟨k + 1, by omega, by rw [g1]; go_num, by rw [g1]; congr 1; omega, ⟨acc ++ (b.drop q).take u, d2, HRd.out, hP5.stay (fun b hb => hg6.block b (hP5.lt b hb) (fun e => by have := (hO.lt b e.symm).1; have := hlt b hb; omega)) hg6.size, hd2, hO6, ?_, ?_⟩⟩, ?_⟩
          · rw [List.length_append, List.length_take]; omega
          · exact (hU.trans hU5).grown (fun b hb => .inr (hO.lt b hb).1) hg6
          · simp [intOf]; omega
        · have t1 : (z != 0) = true := by simpa using hz
          rw [Extent.rd_err hr hz] at hRd
          have HR := Lib.hid hr
          have HRd := Lib.hid hRd
          have hpn : 0 < e - Extent.pos o0 e k := by omega
          obtain ⟨p, hp⟩ : ∃ p, p = Extent.pos o0 e k := ⟨_, rfl⟩
          rw [← hp] at HR hpl
          rw [← hp]
          obtain ⟨ix, hix⟩ : ∃ ix, ix = f0 + p / 64 := ⟨_, rfl⟩
          obtain ⟨nn, hnn⟩ : ∃ nn, nn = e - p := ⟨_, rfl⟩
          rw [← hnn]
          rw [← hix] at HR
          have m1 : (0 : Int) < (nn : Int) := by omega
          have m3 : (f0 : Int) + (p : Int) / 64 = (ix : Int) := by omega
          have m6 : (p : Int) ≤ 262144 := by omega
          have m7 : (f0 : Int) ≤ 4096 := by omega
          clear hr hRd hz hsu hst hpl hp hix hnn hpn hP
          go_wp2_with (go_at_call 73; go_must (refine (rd_read_at HP.out _ HR.out).mono ?_); rintro e5 w5 ⟨v5, rfl, hO5, hP5, hU5⟩)
          go_ret2
          rw [← HRd.out]
          exact ⟨_, rfl, OwnB.nil _ _, hP5, (Upd.of_ext hb).trans (hU.trans hU5)⟩
      · obtain rfl : k = N := by omega
        have hpc := Extent.pos_cnt o0 e hoe
        rw [← HN.out] at hpc
        obtain ⟨acc, d', hRd, hP, hn', hO, hal, hU⟩ := hX
        rw [hpc, Nat.sub_self]
        rw [Nat.sub_self] at hRd
        have HRd := Lib.hid hRd
        clear hRd hpc
        go_wp2
        go_ret2
        rw [← HRd.out]
        exact ⟨_, rfl, hO.mono (by omega), hP, (Upd.of_ext hb).trans hU⟩
  · rw [if_neg h0] at hR
    have hRR := Lib.hid hR
    have t0 : (ck != 0) = true := by simpa using h0
    clear hR hck h0
    go_enter Tryz.func53, Tryz.ntmps53
    go_wp2_with (go_at_call 72; go_must (refine HCK.out.mono ?_); rintro e1 w1 ⟨rfl, hb1⟩)
    go_ret2
    have hB := hb.trans (hb1.mono (by simp))
    rw [← hRR.out]
    exact ⟨_, rfl, OwnB.nil _ _, h.ext hB, Upd.of_ext hB⟩
end

end Go.Proofs.YtabeelcidlhniaaGreat
