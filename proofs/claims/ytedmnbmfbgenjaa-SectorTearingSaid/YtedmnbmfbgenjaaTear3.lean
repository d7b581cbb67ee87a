/-
  The law SectorTearing walked.
-/
import Derived.Test.YtedmnbmfbgenjaaTear2
namespace Go.Proofs.Ytedmnbmfbgenjaa
open Go.RowKit

/-- What the script leaves. -/
def TRel (w : World) (N g s m : Nat) (fa : Option Addr) (fn fc : Nat) (wr : World) : Prop :=
  ∃ F d, PD F wr g s m fa fn fc d ∧ Extent.Quiet N d ∧ Below w.heap.size w wr ∧ ∀ k, F k → w.heap.size ≤ k
theorem TRel.below {w : World} {N g s m : Nat} {fa : Option Addr} {fn fc : Nat} {wr : World} (h : TRel w N g s m fa fn fc wr) : Below w.heap.size w wr := by
  obtain ⟨F, d, -, -, hB, -⟩ := h; exact hB
theorem TRel.ext {w : World} {N g s m : Nat} {fa : Option Addr} {fn fc : Nat} {wr w' : World} (h : TRel w N g s m fa fn fc wr) (e : Below wr.heap.size wr w') : TRel w N g s m fa fn fc w' := by
  obtain ⟨F, d, h1, h2, h3, h4⟩ := h
  exact ⟨F, d, h1.ext e, h2, h3.trans (e.mono h3.size), h4⟩
theorem TRel.write {w : World} {N g s m : Nat} {fa : Option Addr} {fn fc : Nat} {wr : World} (h : TRel w N g s m fa fn fc wr) (i : Int) (a : Option Addr) (n c : Nat) (x : List UInt8) (hx : SlB wr a n c x) (hlt : ∀ y, a = some y → x ≠ [] → y.block < w.heap.size) :
    Calls Try.prog 15 #[.pointer (some ⟨g, 0, none⟩), .int .i64 i, .slice a n c] wr fun e w' => (∃ z, e = .returned (.int .i64 z)) ∧ TRel w N g s m fa fn fc w' := by
  obtain ⟨F, d, h1, h2, h3, h4⟩ := h
  have hq := h2.write_any i x
  rcases hr : Disk.write d i x with ⟨z, d'⟩
  rw [hr] at hq
  refine (sd_write_at h1 i hx (fun y hy hne e => by have := hlt y hy hne; have := h4 _ e; omega) hr).mono ?_
  rintro e w' ⟨rfl, F', hP, hU⟩
  exact ⟨⟨z, rfl⟩, F', d', hP, hq, hU.below h3 h4 h3.size, hU.lo h4 h3.size⟩
theorem TRel.sync {w : World} {N g s m : Nat} {fa : Option Addr} {fn fc : Nat} {wr : World} (h : TRel w N g s m fa fn fc wr) :
    Calls Try.prog 34 #[.pointer (some ⟨g, 0, none⟩)] wr fun e w' => (∃ z, e = .returned (.int .i64 z)) ∧ TRel w N g s m fa fn fc w' := by
  obtain ⟨F, d, h1, h2, h3, h4⟩ := h
  have hq := h2.sync_any
  rcases hr : Disk.sync d with ⟨z, d'⟩
  rw [hr] at hq
  refine (sd_sync_at h1 hr).mono ?_
  rintro e w' ⟨rfl, hP, hU⟩
  exact ⟨⟨z, rfl⟩, F, d', hP, hq, hU.below h3 h4 h3.size, h4⟩

/-- What was read of the disk so far. -/
def CRel (W5 : World) (F : Nat → Prop) (N g s m : Nat) (fa : Option Addr) (fn fc : Nat) (d : Disk.Dk) (v : Value) (k : Nat) (wr : World) : Prop :=
  OwnB W5.heap.size wr v ((Extent.V d).take (64 * k)) ∧ Upd F W5 F wr ∧ ∃ d', PD F wr g s m fa fn fc d' ∧ Extent.Quiet N d' ∧ Extent.V d' = Extent.V d ∧ d'.st = d.st
theorem CRel.read {W5 : World} {F : Nat → Prop} {N g s m : Nat} {fa : Option Addr} {fn fc : Nat} {d : Disk.Dk} {v : Value} {k : Nat} {wr : World} (h : CRel W5 F N g s m fa fn fc d v k wr) (hk : k < N) (hlt : ∀ b, F b → b < W5.heap.size) {x : List UInt8} (hx : ((Extent.V d).drop (64 * k)).take 64 = x) :
    Calls Try.prog 17 #[.pointer (some ⟨g, 0, none⟩), .int .i64 (k : Nat)] wr fun e w' => ∃ v', e = .returned (.tuple #[v', .int .i64 0]) ∧ OwnB wr.heap.size w' v' x ∧ CRel W5 F N g s m fa fn fc d v k w' := by
  obtain ⟨h1, h2, d', h3, h4, h5, h6⟩ := h
  have hr := h4.read k hk
  rw [h5, hx] at hr
  refine (sd_read_at h3 k hr).mono ?_
  rintro e w' ⟨v', rfl, hO, hP, hU⟩
  refine ⟨v', rfl, hO, h1.upd hU (fun b hb e => ?_), h2.trans hU, _, hP, h4.tick, h5, h6⟩
  have := (h1.lt b hb).1; have := hlt b e; omega
theorem CRel.grown {W5 : World} {F : Nat → Prop} {N g s m : Nat} {fa : Option Addr} {fn fc : Nat} {d : Disk.Dk} {v v' : Value} {k : Nat} {wr w' : World} (h : CRel W5 F N g s m fa fn fc d v k wr) (hlt : ∀ b, F b → b < W5.heap.size) {x : List UInt8} (hx : ((Extent.V d).drop (64 * k)).take 64 = x) (hO : OwnB W5.heap.size w' v' ((Extent.V d).take (64 * k) ++ x)) (hg : wr.grownBy w' v.ownBlock) :
    CRel W5 F N g s m fa fn fc d v' (k + 1) w' := by
  obtain ⟨h1, h2, d', h3, h4, h5, h6⟩ := h
  refine ⟨?_, h2.grown (fun b hb => .inr (h1.lt b hb).1) hg, d', h3.stay (fun b hb => hg.block b (h3.lt b hb) (fun e => ?_)) hg.size, h4, h5, h6⟩
  · rw [← hx, ← List.take_add] at hO
    exact hO
  · have := (h1.lt b e.symm).1; have := hlt b hb; omega

theorem sect_byte (l : List UInt8) (p k : Nat) (h1 : p ≤ k) (h2 : k < p + 64) : ((l.drop p).take 64)[k - p]?.getD 0 = l[k]?.getD 0 := by
  rw [List.getElem?_take_of_lt (by omega), List.getElem?_drop, show p + (k - p) = k by omega]
/-- A torn sector that is not the whole new content was torn before its end. -/
theorem torn_lt {A C S : List UInt8} {p k : Nat} (h : ∃ t, t ≤ 64 ∧ (A.drop p).take 64 = ((C.drop p).take 64).take t ++ ((S.drop p).take 64).drop t) (h1 : p ≤ k) (h2 : k < p + 64) (hne : A[k]?.getD 0 ≠ C[k]?.getD 0) :
    ∃ t, t < 64 ∧ (A.drop p).take 64 = ((C.drop p).take 64).take t ++ ((S.drop p).take 64).drop t := by
  obtain ⟨t, ht, e⟩ := h
  rcases Nat.lt_or_ge t 64 with h | h
  · exact ⟨t, h, e⟩
  · obtain rfl : t = 64 := by omega
    exfalso
    have e0 : List.drop 64 (List.take 64 (List.drop p S)) = [] := List.drop_of_length_le (by rw [List.length_take]; omega)
    rw [e0, List.append_nil, List.take_take, Nat.min_self] at e
    apply hne
    rw [← sect_byte A p k h1 h2, ← sect_byte C p k h1 h2, e]

set_option maxRecDepth 100000 in
set_option maxHeartbeats 8000000 in
theorem tear5_law (cnt : Int) (a : Option Addr) (n c : Nat) (l : List O5) (ka : Option Addr) (kn kc : Nat) (ks : List (Int × Int)) (w : World) (_hi : (Lit.int .i64 cnt).wf = true) (h : SlO w a n c l) (hk : SlP w ka kn kc ks) :
    Calls Try.prog 7 #[.int .i64 cnt, .slice a n c, .slice ka kn kc] w fun e w' => e = .returned (.bool true) ∧ Below w.heap.size w w' := by
  have hle := h.le
  have hkle := hk.le
  have HA := Lib.hid (fun W => law5_awake W)
  have HSM := Lib.hid (law5_small a n c l w h)
  by_cases h1 : cnt < 1
  · clear h hk
    go_enter Try.func7, Try.ntmps7
    go_wp2_with fail
    refine (HA.out _).mono ?_; rintro e w1 ⟨rfl, hB⟩
    go_wp2_with fail
    go_ret
    exact ⟨rfl, hB⟩
  by_cases h2 : 60 < cnt
  · clear h hk
    go_enter Try.func7, Try.ntmps7
    go_wp2_with fail
    refine (HA.out _).mono ?_; rintro e w1 ⟨rfl, hB⟩
    go_wp2_with fail
    go_ret
    exact ⟨rfl, hB⟩
  obtain ⟨N, rfl⟩ : ∃ N : Nat, cnt = (N : Int) := ⟨cnt.toNat, by omega⟩
  have hN : 1 ≤ N := by omega
  have hN2 : N ≤ 60 := by omega
  go_enter Try.func7, Try.ntmps7
  go_wp2_with fail
  refine HSM.out.mono ?_; rintro e w0 ⟨r, rfl, hr, rfl⟩
  cases r
  · clear h hk hr
    go_wp2_with fail
    refine (HA.out _).mono ?_; rintro e w1 ⟨rfl, hB⟩
    go_wp2_with fail
    go_ret
    exact ⟨rfl, hB⟩
  obtain ⟨hn80, hsm⟩ := hr rfl
  by_cases h4 : 80 < kn
  · clear h hk
    go_wp2_with fail
    refine (HA.out _).mono ?_; rintro e w1 ⟨rfl, hB⟩
    go_wp2_with fail
    go_ret
    exact ⟨rfl, hB⟩
  go_wp2_with fail
  refine (sd_new N hN (by omega) _ N rfl).mono ?_; rintro e w1 ⟨F, g, s, m, fa, fn, fc, rfl, hP1, hF1, hB1⟩
  have hR0 : TRel w0 N g s m fa fn fc w1 := ⟨F, Disk.new N, hP1, ⟨hP1.ok, by simp [Disk.new], rfl, rfl⟩, hB1, hF1⟩
  clear hP1 hF1 hB1
  go_wp2_with fail
  go_loopw [9, 10] (fun i q wr => ∃ k : Nat, k ≤ n ∧ i = .int .i64 k ∧ TRel w0 N g s m fa fn fc wr) (fun i _ _ => n - (intOf i).toNat)
  case atStart => exact ⟨0, by omega, rfl, hR0⟩
  case round =>
    obtain ⟨k, hkk, rfl, hR⟩ := hrel
    clear hR0
    by_cases hlt : k < n
    · obtain ⟨b, o, x, rfl, hb, hx, hi⟩ := h.at hlt
      obtain ⟨-, -, c0, c1, ⟨p, m1, d1, c2, s2⟩, ⟨p1, m2, d2, c3, s3⟩, ⟨p2, m3, d3, c4, s4⟩⟩ := hi
      have hbl : ∀ y, p = some y → x.data ≠ [] → y.block < w0.heap.size := fun y hy hne => by subst hy; exact s2.blt hne
      have HBL := Lib.hid hbl
      replace c0 := (hR.below.cell (p := ⟨b, o + k * 5, none⟩) hb).trans c0
      replace c1 := (hR.below.cell (p := ⟨b, o + k * 5 + 1, none⟩) hb).trans c1
      replace c2 := (hR.below.cell (p := ⟨b, o + k * 5 + 2, none⟩) hb).trans c2
      replace c3 := (hR.below.cell (p := ⟨b, o + k * 5 + 3, none⟩) hb).trans c3
      replace c4 := (hR.below.cell (p := ⟨b, o + k * 5 + 4, none⟩) hb).trans c4
      have i0 : (0 : Int) ≤ (k : Int) := by omega
      have i1 : (k : Int) < (n : Int) := by omega
      have HS2 := Lib.hid (s2.ext hR.below)
      clear s2 s3 s4 hx hbl
      have hRA : ∀ o, TRel w0 N g s m fa fn fc (wr.alloc o) := fun o => hR.ext ((Below.refl _ _).alloc (Nat.le_refl _) o)
      have HRA := Lib.hid hRA
      clear hRA
      go_wp2_with (first
        | (go_at_call 15; go_must (refine ((HRA.out _).write _ _ _ _ _ (HS2.out.ext ((Below.refl _ _).alloc (Nat.le_refl _) _)) HBL.out).mono ?_); rintro e w5 ⟨⟨z, rfl⟩, hR5⟩)
        | (go_at_call 34; go_must (refine (HRA.out _).sync.mono ?_); rintro e w5 ⟨⟨z, rfl⟩, hR5⟩))
      all_goals exact ⟨⟨k + 1, by omega, by go_num, by first | exact hR5 | exact HRA.out _⟩, by simp [intOf]; omega⟩
    · obtain rfl : n = k := by omega
      clear h
      obtain ⟨F2, d, hP, hQ, hB, hF⟩ := hR
      have hlen := Disk.flat_length _ hP.ok.st64
      rw [hQ.len] at hlen
      have hvl := Extent.V_length hQ.ok
      rw [hQ.len] at hvl
      obtain ⟨V, hV⟩ : ∃ V, V = Extent.V d := ⟨_, rfl⟩
      have HI := Lib.hid (sd_image hP)
      have HLEN := Lib.hid hlen
      have HVL := Lib.hid hvl
      clear hlen hvl
      have t64 : (64 * (N : Int) != (N : Int) * 64) = false := by simp; omega
      go_wp2_with (go_at_call 19; go_must (refine HI.out.mono ?_); rintro e w5 ⟨v5, rfl, hO5, hB5⟩; obtain ⟨a5, c5, rfl, hs5, -⟩ := hO5.sl; rw [HLEN.out] at hs5 ⊢)
      have hF5 : ∀ b, F2 b → b < w5.heap.size := fun b hb => by have := hP.lt b hb; have := hB5.size; omega
      have hC0 : CRel w5 F2 N g s m fa fn fc d (.slice none 0 0) 0 w5 := ⟨by rw [Nat.mul_zero, List.take_zero]; exact OwnB.nil _ _, Upd.refl _ _, d, hP.ext hB5, hQ, rfl, rfl⟩
      clear hV V
      go_loopw [12, 13, 14, 15] (fun v i b2 e2 wr => ∃ k : Nat, k ≤ N ∧ i = .int .i64 k ∧ CRel w5 F2 N g s m fa fn fc d v k wr) (fun _ i _ _ _ => N - (intOf i).toNat)
      case atStart => exact ⟨0, by omega, rfl, hC0⟩
      case round =>
        obtain ⟨k, hkN, rfl, hC⟩ := hrel
        clear hC0
        by_cases hlt : k < N
        · obtain ⟨x, hx⟩ : ∃ x, ((Extent.V d).drop (64 * k)).take 64 = x := ⟨_, rfl⟩
          have hxl : x.length = 64 := by rw [← hx, List.length_take, List.length_drop, HVL.out]; omega
          have HX := Lib.hid hx
          have HXL := Lib.hid hxl
          have HRD := Lib.hid (hC.read hlt hF5 hx)
          have HTL : Hid (((Extent.V d).take (64 * k)).length ≤ 4000) := Lib.hid (by rw [List.length_take]; omega)
          clear hx hxl
          go_wp2_with (first
            | (go_at_call 17; go_must (refine HRD.out.mono ?_); rintro e w6 ⟨v6, rfl, hO6, hC6⟩; obtain ⟨a6, c6, rfl, hs6, -⟩ := hO6.sl; rw [HXL.out] at hs6 ⊢)
            | (refine wpList_append_bytes rfl _ _ rfl w5.heap.size _ _ rfl hC6.1 _ _ _ _ rfl hs6 (by have := HTL.out; omega) hC6.2.1.size ?_; intro v7 w7 hO7 hg7 _; have hC7 := hC6.grown hF5 HX.out hO7 hg7))
          exact ⟨⟨k + 1, by omega, by go_num, hC7⟩, by simp [intOf]; omega⟩
        · obtain rfl : N = k := by omega
          obtain ⟨hOC, hU5, d6, hP6, hQ6, hV6, hst6⟩ := hC
          rw [List.take_of_length_le (by rw [HVL.out]; omega)] at hOC
          obtain ⟨a6, c6, rfl, hs6, -⟩ := hOC.sl
          rw [HVL.out] at hs6 ⊢
          obtain ⟨hst7, hsec⟩ : (Disk.restart (Disk.cut d6) ks).st.length = N ∧ ∀ i, i < N → ∃ t, t ≤ 64 ∧
              ((Disk.restart (Disk.cut d6) ks).st.flatten.drop (64 * i)).take 64 = (((Extent.V d).drop (64 * i)).take 64).take t ++ ((d.st.flatten.drop (64 * i)).take 64).drop t := by
            have h64 : ∀ x ∈ (Disk.restart (Disk.cut d6) ks).st, x.length = 64 := (hP6.ok.cut.restart ks).st64
            have := tear_facts hQ6 ks h64
            rw [hV6, hst6] at this
            exact this
          obtain ⟨d8, hd8⟩ : ∃ d8, Disk.restart (Disk.cut d6) ks = d8 := ⟨_, rfl⟩
          have hoff8 : d8.off = false := by rw [← hd8]; rfl
          have hca8 : Disk.dirty d8 = [] := by rw [← hd8]; exact dirty_restart _ _
          rw [hd8] at hst7 hsec
          have HSEC := Lib.hid hsec
          have HST7 := Lib.hid hst7
          have HD8 := Lib.hid hd8
          clear hsec hst7 hd8
          have hblk : ∀ y, ka = some y → ks ≠ [] → ¬ F2 y.block := fun y hy hne e => by subst hy; have := hk.blt hne; have := hF _ e; omega
          have hB05 : Below w0.heap.size w0 w5 := hB.trans (hB5.mono hB.size)
          have hU57 : ∀ w7, Upd F2 wr F2 w7 → Upd F2 w5 F2 w7 := fun w7 h => hU5.trans h
          have hB0 : ∀ w7, Upd F2 w5 F2 w7 → Below w0.heap.size w0 w7 := fun w7 h => h.below hB05 hF hB05.size
          have hlenT := Disk.flat_length d8.st
          rw [HST7.out] at hlenT
          have HLT := Lib.hid hlenT
          clear hlenT
          go_wp2_with (first
            | (go_at_call 38; go_must (refine (sd_cut hP6).mono ?_); rintro e w7 ⟨rfl, hP7, hU7⟩; have hk7 := hk.ext (hB0 _ (hU57 _ hU7)))
            | (go_at_call 40; go_must (refine (sd_restart_at hP7 hk7 hblk HD8.out).mono ?_); rintro e w8 ⟨rfl, hP8, hU8⟩; have HL8 := Lib.hid (HLT.out hP8.ok.st64))
            | (go_at_call 19; go_must (refine (sd_image hP8).mono ?_); rintro e w9 ⟨v9, rfl, hO9, hB9⟩; obtain ⟨a9, c9, rfl, hs9, -⟩ := hO9.sl; rw [HL8.out] at hs9 ⊢)
            | (go_at_call 43; go_must (refine (sd_dirty (hP8.ext hB9)).mono ?_); rintro e w10 ⟨v10, rfl, hO10, hB10⟩; rw [hca8] at hO10; obtain ⟨a10, c10, rfl, hs10⟩ := hO10.sl)
            | (go_at_call 44; go_must (refine (sd_off ((hP8.ext hB9).ext hB10)).mono ?_); rintro e w11 ⟨rfl, rfl⟩; rw [hoff8]))
          obtain ⟨W, hW⟩ : ∃ W, W = w10 := ⟨_, rfl⟩
          have hBW : Below w0.heap.size w0 W := by
            have e9 : Below w0.heap.size w0 w9 := (hB0 w8 ((hU57 _ hU7).trans hU8)).trans (hB9.mono (hB0 w8 ((hU57 _ hU7).trans hU8)).size)
            rw [hW]; exact e9.trans (hB10.mono e9.size)
          have hsA : SlB W a9 (64 * N) c9 d8.st.flatten := by rw [hW]; exact hs9.ext hB10
          have hsC : SlB W a6 (64 * N) c6 (Extent.V d) := by
            rw [hW]
            refine ((hs6.upd (hU7.trans hU8) fun x hx _ e => ?_).ext hB9).ext hB10
            subst hx
            have := (hOC.lt x.block rfl).1; have := hF5 _ e; omega
          have hsS : SlB W a5 (64 * N) c5 d.st.flatten := by
            rw [hW]
            refine ((hs5.upd ((hU5.trans hU7).trans hU8) fun x hx _ e => ?_).ext hB9).ext hB10
            subst hx
            have := (hO5.lt x.block rfl).1; have := hP.lt _ e; omega
          rw [← hW]
          clear hs9 hs6 hs5 hO9 hOC hO5 hO10 hs10 hP8 hP7 hP6 hP hU5 hU7 hU8 hU57 hB0 hB05 hB5 hB9 hB10 hW hk7 hblk hca8 hoff8 hst6 hV6 hQ6 hF5 hF hB hk HD8 HLT HST7 hsm hr hQ HSM HI HVL HLEN
          have hcA := hsA.2.1; have hcC := hsC.2.1; have hcS := hsS.2.1
          have hmA := hsA.2.2.1; have hmC := hsC.2.2.1; have hmS := hsS.2.2.1
          unfold maxLen at hmA hmC hmS
          go_loopw [17, 18, 19, 20] (fun i at' e' kv wr => ∃ j : Nat, j ≤ N ∧ i = .int .i64 j ∧ Below W.heap.size W wr) (fun i _ _ _ _ => N - (intOf i).toNat)
          case atStart => exact ⟨0, by omega, rfl, Below.refl _ _⟩
          case round =>
            obtain ⟨j, hjN, rfl, hBj⟩ := hrel
            by_cases hlt : j < N
            · obtain ⟨p, hp⟩ : ∃ p, p = 64 * j := ⟨_, rfl⟩
              have e1 : (j : Int) * 64 = (p : Int) := by omega
              obtain ⟨q, hq⟩ : ∃ q, q = p + 64 := ⟨_, rfl⟩
              have e2 : ((j : Int) + 1) * 64 = (q : Int) := by omega
              have hpq : q - p = 64 := by omega
              have hpqi : (p : Int) ≤ (q : Int) := by omega
              have b1 : (j : Int) < (N : Int) := by omega
              have b2 : (p : Int) ≤ 3840 := by omega
              have hqN : q ≤ 64 * N := by omega
              have HP := Lib.hid hp
              have HQ := Lib.hid hq
              clear hp hq
              go_wp2
              obtain ⟨W2, hW2⟩ : ∃ W2, W2 = wr := ⟨_, rfl⟩
              have hA2 := hsA.ext hBj
              have hC2 := hsC.ext hBj
              have hS2 := hsS.ext hBj
              rw [← hW2] at hA2 hC2 hS2 hBj
              rw [← hW2]
              clear hW2
              obtain ⟨bA, oA, rfl, -⟩ := hA2.at (show 0 < 64 * N by omega)
              obtain ⟨bC, oC, rfl, -⟩ := hC2.at (show 0 < 64 * N by omega)
              obtain ⟨bS, oS, rfl, -⟩ := hS2.at (show 0 < 64 * N by omega)
              have hNI : (N : Int) ≤ 60 := by omega
              go_loopw [20] (fun kv wr => ∃ k : Nat, p ≤ k ∧ k ≤ q ∧ kv = .int .i64 k ∧ Hid (∃ m, wr = W2.drewN m)) (fun kv _ => q - (intOf kv).toNat)
              case atStart => exact ⟨p, by omega, by omega, rfl, Lib.hid ⟨0, rfl⟩⟩
              case round =>
                obtain ⟨k, hpk, hkq, rfl, HM⟩ := hrel
                have hMB : Below W2.heap.size W2 wr := by
                  obtain ⟨m, rfl⟩ := HM.out
                  exact ⟨rfl, rfl, rfl, Nat.le_refl _, fun _ _ => rfl⟩
                by_cases hk : k < q
                · obtain ⟨_, _, e, -, -, cA⟩ := (hA2.ext hMB).at (show k < 64 * N by omega)
                  cases e
                  obtain ⟨_, _, e, -, -, cC⟩ := (hC2.ext hMB).at (show k < 64 * N by omega)
                  cases e
                  obtain ⟨x, hx⟩ : ∃ x, x = d8.st.flatten[k]?.getD 0 := ⟨_, rfl⟩
                  obtain ⟨y, hy⟩ : ∃ y, y = (Extent.V d)[k]?.getD 0 := ⟨_, rfl⟩
                  rw [← hx] at cA
                  rw [← hy] at cC
                  have k1 : (k : Int) < (q : Int) := by omega
                  have k2 : (0 : Int) ≤ (k : Int) := by omega
                  have k3 : (k : Int) < 64 * (N : Int) := by omega
                  by_cases hxy : x = y
                  · have t1 : ((x.toNat : Int) == (y.toNat : Int)) = true := by rw [hxy]; simp
                    have HXY := Lib.hid (And.intro hx hy)
                    clear hx hy hxy
                    go_wp2
                    go_quiet (fail)
                    go_wp2
                    exact ⟨⟨k + 1, by omega, by omega, by go_num, Lib.hid (by obtain ⟨m, rfl⟩ := HM.out; exact ⟨m + nq, World.drewN_drewN ..⟩)⟩, by simp [intOf]; omega⟩
                  · have t1 : ((x.toNat : Int) == (y.toNat : Int)) = false := by
                      apply beq_eq_false_iff_ne.2
                      intro e; exact hxy (UInt8.toNat_inj.1 (by omega))
                    have HNE : Hid (k < q → d8.st.flatten[k]?.getD 0 ≠ (Extent.V d)[k]?.getD 0) := Lib.hid (fun _ => by rw [← hx, ← hy]; exact hxy)
                    clear hx hy hxy
                    go_wp2
                    go_quiet (fail)
                    have HMN : Hid (∃ m, wr.drewN nq = W2.drewN m) := Lib.hid (by obtain ⟨m, rfl⟩ := HM.out; exact ⟨m + nq, World.drewN_drewN ..⟩)
                    clear HM
                    go_wp2
                    go_loopw [20] (fun kv wr' => ∃ k2 : Nat, k ≤ k2 ∧ k2 ≤ q ∧ kv = .int .i64 k2 ∧ Hid (∃ m, wr' = W2.drewN m)) (fun kv _ => q - (intOf kv).toNat)
                    case atStart => exact ⟨k, by omega, by omega, rfl, HMN⟩
                    case round =>
                      obtain ⟨k2, hkk2, hkq2, rfl, HM2⟩ := hrel
                      have hMB2 : ∀ q, Below W2.heap.size W2 (wr.drewN q) := fun q => by
                        obtain ⟨m, rfl⟩ := HM2.out
                        exact ⟨rfl, rfl, rfl, Nat.le_refl _, fun _ _ => rfl⟩
                      by_cases hk2 : k2 < q
                      · obtain ⟨_, _, e, -, -, cA2⟩ := (hA2.ext (hMB2 0)).at (show k2 < 64 * N by omega)
                        cases e
                        obtain ⟨_, _, e, -, -, cS2⟩ := (hS2.ext (hMB2 0)).at (show k2 < 64 * N by omega)
                        cases e
                        obtain ⟨x2, hx2⟩ : ∃ x2, x2 = d8.st.flatten[k2]?.getD 0 := ⟨_, rfl⟩
                        obtain ⟨y2, hy2⟩ : ∃ y2, y2 = d.st.flatten[k2]?.getD 0 := ⟨_, rfl⟩
                        rw [← hx2] at cA2
                        rw [← hy2] at cS2
                        change wr.cell? _ = _ at cA2
                        change wr.cell? _ = _ at cS2
                        have k21 : (k2 : Int) < (q : Int) := by omega
                        have k22 : (0 : Int) ≤ (k2 : Int) := by omega
                        have k23 : (k2 : Int) < 64 * (N : Int) := by omega
                        have hkp : k < q := by omega
                        have hex : ∃ m, wr.drewN 0 = W2.drewN m := HM2.out
                        by_cases hxy2 : x2 = y2
                        · have t2 : ((x2.toNat : Int) == (y2.toNat : Int)) = true := by rw [hxy2]; simp
                          clear hx2 hy2 hxy2 hex
                          go_wp2
                          go_quiet (fail)
                          go_wp2
                          exact ⟨⟨k2 + 1, by omega, by omega, by go_num, Lib.hid (by obtain ⟨m, rfl⟩ := HM2.out; exact ⟨m + nq, World.drewN_drewN ..⟩)⟩, by simp [intOf]; omega⟩
                        · have t2 : ((x2.toNat : Int) == (y2.toNat : Int)) = false := by
                            apply beq_eq_false_iff_ne.2
                            intro e; exact hxy2 (UInt8.toNat_inj.1 (by omega))
                          clear hx2 hy2 hxy2 hex
                          obtain ⟨t, ht, heq⟩ := torn_lt (p := p) (k := k) (by rw [HP.out]; exact HSEC.out j hlt) hpk (by have := HQ.out; omega) (HNE.out hkp)
                          have HTN : Hid (∀ u v, Calls Try.prog 45 #[.slice (some ⟨bC, oC + p, none⟩) 64 (c6 - p), .slice (some ⟨bS, oS + p, none⟩) 64 (c5 - p), .slice (some ⟨bA, oA + p, none⟩) 64 (c9 - p)] (wr.drewN (u + v)) fun e w' => e = .returned (.bool true) ∧ ∃ m, w' = wr.drewN (u + m)) := Lib.hid (fun u v => by
                            have hB : Below W2.heap.size W2 (wr.drewN (u + v)) := hMB2 (u + v)
                            have sC := ((hC2.ext hB).drop (k := p) (by omega)).take (k := 64) (by omega)
                            have sS := ((hS2.ext hB).drop (k := p) (by omega)).take (k := 64) (by omega)
                            have sA := ((hA2.ext hB).drop (k := p) (by omega)).take (k := 64) (by omega)
                            refine (law5_torn _ _ _ _ _ _ _ _ _ _ sC sS sA t ht heq).mono ?_
                            rintro e w' ⟨rfl, m, rfl⟩
                            exact ⟨rfl, v + m, by rw [World.drewN_drewN, Nat.add_assoc]⟩)
                          clear heq
                          have q1 : (q : Int) ≤ (c6 : Int) := by omega
                          have q2 : (q : Int) ≤ (c5 : Int) := by omega
                          have q3 : (q : Int) ≤ (c9 : Int) := by omega
                          have q4 : (0 : Int) ≤ (p : Int) := by omega
                          have q5 : ¬ c6 = p := by omega
                          have q6 : ¬ c5 = p := by omega
                          have q7 : ¬ c9 = p := by omega
                          have q9 : q ≤ c6 := by omega
                          have q10 : q ≤ c5 := by omega
                          have q11 : q ≤ c9 := by omega
                          go_wp2
                          go_quiet (fail)
                          go_wp2
                          go_quiet (first | (go_at_call 45; with_reducible exact HTN.out _ _))
                          go_wp2
                          refine ⟨⟨j + 1, by omega, by go_num, hBj.trans ?_⟩, by simp [intOf]; omega⟩
                          obtain ⟨m, rfl⟩ := HM2.out
                          exact ⟨rfl, rfl, rfl, Nat.le_refl _, fun _ _ => rfl⟩
                      · obtain rfl : k2 = q := by omega
                        have kf : decide ((k2 : Int) < (k2 : Int)) = false := by simp
                        go_wp2
                        go_quiet (fail)
                        go_wp2
                        go_quiet (fail)
                        go_wp2
                        refine ⟨⟨j + 1, by omega, by go_num, hBj.trans ?_⟩, by simp [intOf]; omega⟩
                        obtain ⟨m, rfl⟩ := HM2.out
                        exact ⟨rfl, rfl, rfl, Nat.le_refl _, fun _ _ => rfl⟩
                · obtain rfl : k = q := by omega
                  have kf1 : decide ((k : Int) < (k : Int)) = false := by simp
                  have HNE : Hid (k < k → d8.st.flatten[k]?.getD 0 ≠ (Extent.V d)[k]?.getD 0) := Lib.hid (fun h => absurd h (by omega))
                  go_wp2
                  go_quiet (fail)
                  have HMN : Hid (∃ m, wr.drewN nq = W2.drewN m) := Lib.hid (by obtain ⟨m, rfl⟩ := HM.out; exact ⟨m + nq, World.drewN_drewN ..⟩)
                  clear HM
                  go_wp2
                  go_loopw [20] (fun kv wr' => kv = .int .i64 k ∧ Hid (∃ m, wr' = W2.drewN m)) (fun _ _ => 0)
                  case atStart => exact ⟨rfl, HMN⟩
                  case round =>
                    obtain ⟨rfl, HM2⟩ := hrel
                    go_wp2
                    go_quiet (fail)
                    go_wp2
                    go_quiet (fail)
                    go_wp2
                    refine ⟨⟨j + 1, by omega, by go_num, hBj.trans ?_⟩, by simp [intOf]; omega⟩
                    obtain ⟨m, rfl⟩ := HM2.out
                    exact ⟨rfl, rfl, rfl, Nat.le_refl _, fun _ _ => rfl⟩
            · obtain rfl : N = j := by omega
              go_wp2_with (go_at_call 20; refine (HA.out _).mono ?_; rintro e w12 ⟨rfl, hB12⟩)
              go_ret
              have := hBW.trans (hBj.mono hBW.size)
              exact ⟨rfl, this.trans (hB12.mono this.size)⟩

end Go.Proofs.Ytedmnbmfbgenjaa
