/-
  The walks through superblock.Decode and Choose.
-/
import Derived.Test.YtolagcnndepjbaaSuperRef
import Derived.IntWalk
import Derived.Laws.ResultCell
namespace Go.Proofs.Ytolagcnndepjbaa
open Go.RowKit

set_option maxRecDepth 100000 in
theorem sb_encode_bad (s : Super.S) (hv : Super.valid s = false) (w : World) :
    Calls Try.prog 14 #[sv s] w fun e w' => e = .returned (.tuple #[.slice none 0 0, .int .i64 1]) ∧ Below w.heap.size w w' := by
  have hV := sb_valid s
  rw [hv] at hV
  have HV := Lib.hid hV; clear hV hv
  go_enter Try.func14, Try.ntmps14
  unfold sv at *
  go_wp2_with (go_at_call 18; refine (HV.out _).mono ?_; rintro e w1 ⟨rfl, hb1⟩)
  go_ret2
  exact ⟨rfl, ((Below.refl _ _).alloc (Nat.le_refl _) _).trans (hb1.mono (by simp))⟩

set_option maxRecDepth 100000 in
theorem sref_encode_bad (s : Super.S) (hv : Super.valid s = false) (w : World) :
    Calls Try.prog 15 #[sv s] w fun e w' => e = .returned (.tuple #[.slice none 0 0, .int .i64 1]) ∧ Below w.heap.size w w' := by
  have hV := sref_valid s
  rw [hv] at hV
  have HV := Lib.hid hV; clear hV hv
  go_enter Try.func15, Try.ntmps15
  unfold sv at *
  go_wp2_with (go_at_call 19; refine (HV.out _).mono ?_; rintro e w1 ⟨rfl, hb1⟩)
  go_ret2
  exact ⟨rfl, ((Below.refl _ _).alloc (Nat.le_refl _) _).trans (hb1.mono (by simp))⟩

/-- One contract for all superblocks: what it encodes, or ErrInvalid. -/
def EncPost (s : Super.S) (w : World) (e : Ending) (w' : World) : Prop :=
  ∃ a n c, e = .returned (.tuple #[.slice a n c, .int .i64 (if Super.valid s then 0 else 1)]) ∧ SlB w' a n c (if Super.valid s then Super.enc s else []) ∧ Below w.heap.size w w' ∧ (Super.valid s = true → ∃ K, a = some ⟨K, 0, none⟩)

theorem sb_encode (s : Super.S) (hf : s.fits) (w : World) : Calls Try.prog 14 #[sv s] w (EncPost s w) := by
  by_cases hv : Super.valid s = true
  · obtain ⟨gen, act, epoch, len, sum, rfl, h1, h2, h3, h4, h5⟩ := Super.valid_cases hv hf
    refine (sb_encode0 gen act epoch len sum h1 h2 h3 h4 h5 hv w).mono ?_
    rintro e w' ⟨K, rfl, hr, hK, hb⟩
    refine ⟨some ⟨K, 0, none⟩, 64, 64, by rw [if_pos hv], ?_, hb, fun _ => ⟨K, rfl⟩⟩
    rw [if_pos hv]
    have hl := Super.enc_length ⟨gen, act, epoch, len, sum⟩
    have := hr.slb 0 64 64 (by omega) (Nat.le_refl _) (by decide)
    rw [List.drop_zero, List.take_of_length_le (by omega)] at this
    exact this
  · have hv' : Super.valid s = false := by simpa using hv
    refine (sb_encode_bad s hv' w).mono ?_
    rintro e w' ⟨rfl, hb⟩
    refine ⟨none, 0, 0, by rw [if_neg hv], ?_, hb, fun h => absurd h hv⟩
    rw [if_neg hv]
    exact ⟨rfl, Nat.le_refl _, by unfold maxLen; omega, fun _ => ⟨rfl, rfl⟩, fun x hx => by cases hx⟩

theorem sref_encode (s : Super.S) (hf : s.fits) (w : World) : Calls Try.prog 15 #[sv s] w (fun e w' => ∃ a n c, e = .returned (.tuple #[.slice a n c, .int .i64 (if Super.valid s then 0 else 1)]) ∧ SlB w' a n c (if Super.valid s then Super.enc s else []) ∧ Below w.heap.size w w') := by
  by_cases hv : Super.valid s = true
  · obtain ⟨gen, act, epoch, len, sum, rfl, h1, h2, h3, h4, h5⟩ := Super.valid_cases hv hf
    refine (sref_encode0 gen act epoch len sum h1 h2 h3 h4 h5 hv w).mono ?_
    rintro e w' ⟨v, rfl, hr, hb⟩
    obtain ⟨a, c, rfl, hsl, -⟩ := hr.sl
    exact ⟨a, _, c, by rw [if_pos hv], by rw [if_pos hv]; exact hsl, hb⟩
  · have hv' : Super.valid s = false := by simpa using hv
    refine (sref_encode_bad s hv' w).mono ?_
    rintro e w' ⟨rfl, hb⟩
    refine ⟨none, 0, 0, by rw [if_neg hv], ?_, hb⟩
    rw [if_neg hv]
    exact ⟨rfl, Nat.le_refl _, by unfold maxLen; omega, fun _ => ⟨rfl, rfl⟩, fun x hx => by cases hx⟩

/-- The cells of a superblock. -/
def scells (s : Super.S) : Array Value := #[.int .u64 s.gen, .int .i64 s.act, .int .u32 s.epoch, .int .i64 s.len, .int .u32 s.sum]
theorem scells_size (s : Super.S) : (Try.prog.info? 25).map (·.size) = some (scells s).size := by kernel_rfl
theorem scells_one (s : Super.S) : (scells s).all (·.oneCell') = true := by
  rw [Array.all_eq_true_iff_forall_mem]
  intro x hx
  simp only [scells, List.mem_toArray, List.mem_cons, List.not_mem_nil, or_false] at hx
  rcases hx with rfl | rfl | rfl | rfl | rfl <;> rfl
theorem SBox.setRow {w : World} {H : Nat} {s : Super.S} (h : SBox w H s) (s' : Super.S) : SBox (w.setRow H (scells s')) H s' := setRow_heap w H _ _ _ _ h
theorem sb_result {fn : Func} {p u : Tmp} (h : fn.results = #[.cell p 25, .tmp u]) (tmps : Array Value) {w : World} {H : Nat} {s : Super.S} (hb : SBox w H s) (hp : tmps.getD p undef = .pointer (some ⟨H, 0, none⟩)) :
    (results fn tmps).run Try.prog w = .ok (.tuple #[sv s, tmps.getD u undef]) w := by
  have hl := run_loadVar_row (P := Try.prog) w H _ 25 (scells s) _ _ hb Try.underlying25 rfl (scells_size s)
  rw [results_cell_tmp h, hp]
  simp [asAddr, Result.andThen, hl]
  rfl

/-- The post of Decode. -/
def DecPost (l : List UInt8) (w : World) (e : Ending) (w' : World) : Prop :=
  e = .returned (.tuple #[sv (Super.dec l).1, .int .i64 (Super.dec l).2]) ∧ Below w.heap.size w w'

set_option maxHeartbeats 2000000 in
set_option maxRecDepth 100000 in
theorem sb_decode (a : Option Addr) (n c : Nat) (l : List UInt8) (w : World) (h : SlB w a n c l) : Calls Try.prog 16 #[.slice a n c] w (DecPost l w) := by
  obtain rfl := h.len
  by_cases h64 : l.length = 64
  · have t0 : ((l.length : Int) != 64) = false := by rw [h64]; rfl
    obtain ⟨g, o, rfl, hg, _, _⟩ := h.at (show 0 < l.length by omega)
    have hc1 := h.2.1
    have hc2 : c ≤ 9223372036854775807 := by have := h.2.2.1; unfold maxLen at this; omega
    rw [h64] at hc1
    have i1 : (60 : Int) ≤ (l.length : Int) := by omega
    have i2 : (l.length : Int) ≤ (c : Int) := by omega
    have i3 : (60 : Int) ≤ (c : Int) := by omega
    have i4 : l.length ≤ 64 := by omega
    have n60 : ¬ c = 60 := by omega
    have n6 : ¬ c = 6 := by omega
    have n14 : ¬ c = 14 := by omega
    have n18 : ¬ c = 18 := by omega
    have n22 : ¬ c = 22 := by omega
    have i5 : 64 ≤ l.length := by omega
    have H64 := Lib.hid h64; clear h64
    go_enter Try.func16, Try.ntmps16
    go_wp2
    obtain ⟨W1, hW1⟩ : ∃ W1, W1 = w.alloc (.cells #[.int .u64 0, .int .i64 0, .int .u32 0, .int .i64 0, .int .u32 0] 25) := ⟨_, rfl⟩
    have hbW : Below w.heap.size w W1 := by rw [hW1]; exact (Below.refl _ _).alloc (Nat.le_refl _) _
    have hZ : SBox W1 w.heap.size Super.zero := by rw [hW1]; exact heap_alloc_eq _ _ _ rfl
    rw [← hW1]
    have hs1 := h.ext hbW
    clear hW1 h hg
    have hs60 := hs1.drop (show 60 ≤ l.length by omega)
    have hst := hs1.take (show 60 ≤ l.length by omega)
    obtain ⟨x, hx⟩ : ∃ x, x = Super.unle ((l.drop 60).take 4) := ⟨_, rfl⟩
    have hx2 : x = Crc.unfix4 (l.drop 60) := by
      rw [hx, List.take_of_length_le (by simp; omega), Super.unle_four _ (by simp; omega)]
    have hxl : x < 4294967296 := by
      have := Super.unle_lt ((l.drop 60).take 4)
      rw [← hx] at this
      exact Nat.lt_of_lt_of_le this (Nat.le_trans (Nat.pow_le_pow_right (n := 256) (by decide) (List.length_take_le _ _)) (by decide))
    have wx : IntKind.u32.wrap (x : Int) = (x : Int) := by simp [IntKind.wrap, IntKind.bits, IntKind.signed]; omega
    have hget := sb_get (some ⟨g, o + 60, none⟩) (l.length - 60) (c - 60) 4 (l.drop 60)
    rw [← hx] at hget
    have HGET := Lib.hid hget
    clear hget
    have HX := Lib.hid hx
    clear hx
    by_cases hcrc : Crc.unfix4 (l.drop 60) = Crc.update 0 (l.take 60)
    · have t1 : ((x : Int) != ((Crc.update 0 (l.take 60) : Nat) : Int)) = false := by rw [hx2, hcrc]; simp
      have HCRC := Lib.hid hcrc; have HX2 := Lib.hid hx2
      clear hcrc hx2
      go_region_held3 (fun w' => Ext W1 w') (first | assumption | exact Ext.drew (Ext.refl _) | exact Ext.step (by assumption) (by assumption)) (first | (go_at_call 39; go_must (refine (HGET.out _ (hs60.ext' (by assumption)) (by omega) (by omega) _ rfl).mono ?_); rintro e w9 ⟨rfl, rfl⟩) | (go_at_call 38; go_must (refine (crc_sum _ _ _ _ _ (hst.ext' (by assumption))).mono ?_); rintro e w9 ⟨rfl, rfl⟩))
      go_wp2
      have hbW2 := hbW.drew
      have hZ2 := hZ.drew
      have hs2 := hs1.ext' (Ext.drew (Ext.refl W1))
      clear HGET HX wx hs60 hst hs1 hZ hbW t0 t1
      generalize W1.drew = W2 at *
      have hs_g6 := hs2.drop (show 6 ≤ l.length by omega)
      have hget_g6 := sb_get (some ⟨g, o + 6, none⟩) (l.length - 6) (c - 6) 8 (l.drop 6)
      obtain ⟨g6, hg6⟩ : ∃ x, x = Super.field l 6 8 := ⟨_, rfl⟩
      have hlg6 : g6 < 256 ^ 8 := by
        rw [hg6]; exact Nat.lt_of_lt_of_le (Super.unle_lt _) (Nat.pow_le_pow_right (n := 256) (by decide) (List.length_take_le _ _))
      rw [show Super.unle ((l.drop 6).take 8) = g6 from hg6.symm] at hget_g6
      have HG_g6 := Lib.hid hget_g6; have Hg6 := Lib.hid hg6
      clear hget_g6 hg6
      have hs_g14 := hs2.drop (show 14 ≤ l.length by omega)
      have hget_g14 := sb_get (some ⟨g, o + 14, none⟩) (l.length - 14) (c - 14) 4 (l.drop 14)
      obtain ⟨g14, hg14⟩ : ∃ x, x = Super.field l 14 4 := ⟨_, rfl⟩
      have hlg14 : g14 < 256 ^ 4 := by
        rw [hg14]; exact Nat.lt_of_lt_of_le (Super.unle_lt _) (Nat.pow_le_pow_right (n := 256) (by decide) (List.length_take_le _ _))
      rw [show Super.unle ((l.drop 14).take 4) = g14 from hg14.symm] at hget_g14
      have HG_g14 := Lib.hid hget_g14; have Hg14 := Lib.hid hg14
      clear hget_g14 hg14
      have hs_g18 := hs2.drop (show 18 ≤ l.length by omega)
      have hget_g18 := sb_get (some ⟨g, o + 18, none⟩) (l.length - 18) (c - 18) 4 (l.drop 18)
      obtain ⟨g18, hg18⟩ : ∃ x, x = Super.field l 18 4 := ⟨_, rfl⟩
      have hlg18 : g18 < 256 ^ 4 := by
        rw [hg18]; exact Nat.lt_of_lt_of_le (Super.unle_lt _) (Nat.pow_le_pow_right (n := 256) (by decide) (List.length_take_le _ _))
      rw [show Super.unle ((l.drop 18).take 4) = g18 from hg18.symm] at hget_g18
      have HG_g18 := Lib.hid hget_g18; have Hg18 := Lib.hid hg18
      clear hget_g18 hg18
      have hs_g22 := hs2.drop (show 22 ≤ l.length by omega)
      have hget_g22 := sb_get (some ⟨g, o + 22, none⟩) (l.length - 22) (c - 22) 4 (l.drop 22)
      obtain ⟨g22, hg22⟩ : ∃ x, x = Super.field l 22 4 := ⟨_, rfl⟩
      have hlg22 : g22 < 256 ^ 4 := by
        rw [hg22]; exact Nat.lt_of_lt_of_le (Super.unle_lt _) (Nat.pow_le_pow_right (n := 256) (by decide) (List.length_take_le _ _))
      rw [show Super.unle ((l.drop 22).take 4) = g22 from hg22.symm] at hget_g22
      have HG_g22 := Lib.hid hget_g22; have Hg22 := Lib.hid hg22
      clear hget_g22 hg22
      have w14 : IntKind.u32.wrap (g14 : Int) = (g14 : Int) := by simp [IntKind.wrap, IntKind.bits, IntKind.signed]; omega
      have w18 : IntKind.i64.wrap (g18 : Int) = (g18 : Int) := IntWalk.i64_in _ (by omega)
      have w22 : IntKind.u32.wrap (g22 : Int) = (g22 : Int) := by simp [IntKind.wrap, IntKind.bits, IntKind.signed]; omega
      obtain ⟨_, _, e5, hg5, k5, hc5⟩ := hs2.at (show 5 < l.length by omega)
      injection e5 with e5; injection e5 with e5 e6; subst e5; subst e6
      obtain ⟨q, hq⟩ : ∃ q, q = l[5]?.getD 0 := ⟨_, rfl⟩
      rw [← hq] at hc5
      have HQ := Lib.hid hq
      have hq8 : q.toNat < 256 := q.toNat_lt
      have wq : IntKind.i64.wrap (q.toNat : Int) = (q.toNat : Int) := IntWalk.i64_in _ (by omega)
      clear hq k5
      have j6 : (6 : Int) ≤ (l.length : Int) := by omega
      have j14 : (14 : Int) ≤ (l.length : Int) := by omega
      have j18 : (18 : Int) ≤ (l.length : Int) := by omega
      have j22 : (22 : Int) ≤ (l.length : Int) := by omega
      have j5 : (5 : Int) < (l.length : Int) := by omega
      have KS : ∀ w', Ext W2 w' → Ext W2 w' ∧ w'.cell? ⟨g, o + 5, none⟩ = some (.int .u8 (q.toNat : Int)) := fun w' he => ⟨he, (Below.cell he (p := ⟨g, o + 5, none⟩) hg5).trans hc5⟩
      have HKS := Lib.hid KS
      clear KS
      go_region_held3 (fun w' => Ext W2 w' ∧ w'.cell? ⟨g, o + 5, none⟩ = some (.int .u8 (q.toNat : Int))) (first | assumption | exact HKS.out _ (Ext.drew (Ext.refl _)) | exact HKS.out _ (And.left (by assumption)) | exact HKS.out _ (Ext.drew (Ext.alloc (Ext.refl _) _))) (first | (go_at_call 39; ((with_reducible refine (HG_g6.out _ (hs_g6.ext' (And.left (by assumption))) (by omega) (by omega) 8 rfl).mono ?_)); rintro e w9 ⟨rfl, rfl⟩) | (go_at_call 39; ((with_reducible refine (HG_g14.out _ (hs_g14.ext' (And.left (by assumption))) (by omega) (by omega) 4 rfl).mono ?_)); rintro e w9 ⟨rfl, rfl⟩) | (go_at_call 39; ((with_reducible refine (HG_g18.out _ (hs_g18.ext' (And.left (by assumption))) (by omega) (by omega) 4 rfl).mono ?_)); rintro e w9 ⟨rfl, rfl⟩) | (go_at_call 39; ((with_reducible refine (HG_g22.out _ (hs_g22.ext' (And.left (by assumption))) (by omega) (by omega) 4 rfl).mono ?_)); rintro e w9 ⟨rfl, rfl⟩))
      all_goals
        go_wp2_with fail
        refine (sb_encode ⟨g6, q.toNat, g14, g18, g22⟩ ⟨hlg6, hlg14, hlg22⟩ _).mono ?_; rintro e w5 ⟨a5, n5, c5, rfl, hsl5, hb5, -⟩
        have hZ5 : SBox w5 w.heap.size Super.zero := (hb5.block _ (by have := heap_lt hZ2; simp; omega)).trans ((heap_alloc_lt _ _ _ (heap_lt hZ2)).trans hZ2)
        have hF5 : SBox w5 W2.heap.size ⟨g6, q.toNat, g14, g18, g22⟩ := (hb5.block _ (by simp)).trans (heap_alloc_eq _ _ _ rfl)
        have hb25 : Below W2.heap.size W2 w5 := ((Below.refl _ _).alloc (Nat.le_refl _) _).drew.trans (hb5.mono (by simp))
        have hbw5 : Below w.heap.size w w5 := hbW2.trans (hb25.mono hbW2.size)
        have hs5 := hs2.ext hb25
        have hfl : Super.fields l = ⟨g6, q.toNat, g14, g18, g22⟩ := by unfold Super.fields; rw [← Hg6.out, ← Hg14.out, ← Hg18.out, ← Hg22.out, ← HQ.out]
        have hdd : Super.dec l = if Super.valid (Super.fields l) = true ∧ Super.enc (Super.fields l) = l then (Super.fields l, 0) else (Super.zero, 6) := by
          unfold Super.dec; rw [if_neg (by rw [H64.out]; simp), if_neg (by rw [HCRC.out]; simp)]
        rw [hfl] at hdd
        obtain ⟨sf, hsf⟩ : ∃ sf : Super.S, sf = ⟨g6, q.toNat, g14, g18, g22⟩ := ⟨_, rfl⟩
        rw [← hsf] at hdd hsl5 hF5 ⊢
        clear hsf hfl
        have k1 := run_conv_bytes hsl5
        have k2 := run_conv_bytes hs5
        by_cases hv : Super.valid sf = true
        · rw [if_pos hv] at k1 hsl5 ⊢
          by_cases he : Super.enc sf = l
          · rw [if_pos ⟨hv, he⟩] at hdd
            have t2 : (!(Super.enc sf == l)) = false := by simp [he]
            have HD := Lib.hid hdd
            have hlf := scells_size sf
            clear he hdd hsl5 hs5 hv
            go_wp2_with (first | (refine wpList_load_row rfl 25 _ rfl W2.heap.size rfl 25 (scells sf) (0, 0) _ hF5 Try.underlying25 rfl hlf ?_) | (refine wpList_store_row rfl 25 _ _ rfl w.heap.size rfl 25 (scells Super.zero) (scells sf) rfl hZ5 hlf rfl (scells_one _) ?_))
            refine bodyPost_ret (v := .tuple #[sv sf, .int .i64 0]) (sb_result (p := 2) (u := 3) rfl _ (hZ5.setRow sf) rfl) rfl ⟨by rw [HD.out], ?_⟩
            exact below_row hbw5 (Nat.le_refl _) _
          · rw [if_neg (fun h => he h.2)] at hdd
            have t2 : (!(Super.enc sf == l)) = true := by simp [he]
            have HD := Lib.hid hdd
            clear he hdd hsl5 hs5 hv
            go_wp2_with (refine wpList_store_row rfl 25 _ _ rfl w.heap.size rfl 25 (scells Super.zero) (scells Super.zero) rfl hZ5 (scells_size _) rfl (scells_one _) ?_)
            refine bodyPost_ret (v := .tuple #[sv Super.zero, .int .i64 6]) (sb_result (p := 2) (u := 3) rfl _ (hZ5.setRow Super.zero) rfl) rfl ⟨by rw [HD.out], ?_⟩
            exact below_row hbw5 (Nat.le_refl _) _
        · rw [if_neg (fun h => hv h.1)] at hdd
          rw [if_neg hv] at k1 hsl5 ⊢
          have HD := Lib.hid hdd
          clear hdd hsl5 hs5 hv
          go_wp2_with (refine wpList_store_row rfl 25 _ _ rfl w.heap.size rfl 25 (scells Super.zero) (scells Super.zero) rfl hZ5 (scells_size _) rfl (scells_one _) ?_)
          refine bodyPost_ret (v := .tuple #[sv Super.zero, .int .i64 6]) (sb_result (p := 2) (u := 3) rfl _ (hZ5.setRow Super.zero) rfl) rfl ⟨by rw [HD.out], ?_⟩
          exact below_row hbw5 (Nat.le_refl _) _
    · have t1 : ((x : Int) != ((Crc.update 0 (l.take 60) : Nat) : Int)) = true := by rw [bne_iff_ne, hx2]; omega
      have hd : Super.dec l = (Super.zero, 7) := by unfold Super.dec; rw [if_neg (by rw [H64.out]; simp), if_pos hcrc]
      have HD := Lib.hid hd
      clear hcrc hx2 hd
      go_region_held3 (fun w' => Ext W1 w') (first | assumption | exact Ext.drew (Ext.refl _) | exact Ext.step (by assumption) (by assumption)) (first | (go_at_call 39; go_must (refine (HGET.out _ (hs60.ext' (by assumption)) (by omega) (by omega) _ rfl).mono ?_); rintro e w9 ⟨rfl, rfl⟩) | (go_at_call 38; go_must (refine (crc_sum _ _ _ _ _ (hst.ext' (by assumption))).mono ?_); rintro e w9 ⟨rfl, rfl⟩))
      have hZ2 := hZ.drew
      have hbW2 := hbW.drew
      generalize W1.drew = W2 at *
      go_wp2_with (refine wpList_store_row rfl 25 _ _ rfl w.heap.size rfl 25 (scells Super.zero) (scells Super.zero) rfl hZ2 (scells_size _) rfl (scells_one _) ?_)
      refine bodyPost_ret (v := .tuple #[sv Super.zero, .int .i64 7]) (sb_result (p := 2) (u := 3) rfl _ (hZ2.setRow Super.zero) rfl) rfl ⟨by rw [HD.out], ?_⟩
      exact below_row hbW2 (Nat.le_refl _) _
  · have t0 : ((l.length : Int) != 64) = true := by rw [bne_iff_ne]; omega
    have hd : Super.dec l = (Super.zero, 5) := by unfold Super.dec; rw [if_pos h64]
    have HD := Lib.hid hd; clear hd h64
    go_enter Try.func16, Try.ntmps16
    go_wp2
    refine bodyPost_ret (v := .tuple #[sv Super.zero, .int .i64 5]) ?_ rfl ⟨by rw [HD.out], ?_⟩
    · simp [results, Try.results16, go_sem, sv, Super.zero]
    · exact (Below.refl _ _).alloc (Nat.le_refl _) _

end Go.Proofs.Ytolagcnndepjbaa
