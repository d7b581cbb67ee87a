/-
  Texts in one: PairW, WalM, ExtArg.
-/
import Derived.Test.YtabeelcidlhniaaGreatPairX
import Derived.Test.YtabeelcidlhniaaGreatRun45
import Derived.Test.YtabeelcidlhniaaGreatWalPlain2
import Derived.Test.YtabeelcidlhniaaGreatOps8
import Derived.Deep.RegionHeld3
import Derived.ProofKit
import Derived.OpenShut
import Derived.ShutString
import Derived.ChangeOld
/-
  The pair of disks, each with a log.
-/
namespace Go.Proofs.YtabeelcidlhniaaGreat
open Go.RowKit

/-- A set of blocks and one more. -/
abbrev Pl (F : Nat → Prop) (q : Nat) : Nat → Prop := fun k => F k ∨ k = q
/-- The program's log q on its disk, the reference's log p on its disk, apart, all made behind W. -/
def Pw (W : World) (F G : Nat → Prop) (g r q p : Nat) (L M : Wal.L) (d e : Disk.Dk) (w : World) : Prop :=
  ∃ s m fa fn fc sb cb sc ga gn gc, WD F w q g s m fa fn fc L d ∧ RW G w p r sb cb sc ga gn gc M e ∧ (∀ k, Pl F q k → ¬ Pl G p k) ∧ (∀ k, Pl F q k → W.heap.size ≤ k) ∧ (∀ k, Pl G p k → W.heap.size ≤ k) ∧ Below W.heap.size W w

theorem RW.ext {F : Nat → Prop} {w w' : World} {q g sb cb sc : Nat} {fa : Option Addr} {fn fc : Nat} {L : Wal.L} {d : Disk.Dk} (h : RW F w q g sb cb sc fa fn fc L d) (e : Below w.heap.size w w') : RW F w' q g sb cb sc fa fn fc L d := ⟨h.disk.ext e, h.log.ext e, h.apart⟩
theorem WD.lt {F : Nat → Prop} {w : World} {q g s m : Nat} {fa : Option Addr} {fn fc : Nat} {L : Wal.L} {d : Disk.Dk} (h : WD F w q g s m fa fn fc L d) : ∀ k, Pl F q k → k < w.heap.size := by
  intro k hk
  rcases hk with hk | rfl
  · exact h.disk.lt k hk
  · exact h.log.lt
theorem RW.lt {F : Nat → Prop} {w : World} {q g sb cb sc : Nat} {fa : Option Addr} {fn fc : Nat} {L : Wal.L} {d : Disk.Dk} (h : RW F w q g sb cb sc fa fn fc L d) : ∀ k, Pl F q k → k < w.heap.size := by
  intro k hk
  rcases hk with hk | rfl
  · exact h.disk.lt k hk
  · exact h.log.lt
theorem WD.stay {F : Nat → Prop} {w w' : World} {q g s m : Nat} {fa : Option Addr} {fn fc : Nat} {L : Wal.L} {d : Disk.Dk} (h : WD F w q g s m fa fn fc L d) (k : ∀ b, Pl F q b → w'.heap[b]? = w.heap[b]?) (hz : w.heap.size ≤ w'.heap.size) : WD F w' q g s m fa fn fc L d :=
  ⟨h.disk.stay (fun b hb => k b (.inl hb)) hz, h.log.same (k q (.inr rfl)), h.apart⟩
theorem RW.stay {F : Nat → Prop} {w w' : World} {q g sb cb sc : Nat} {fa : Option Addr} {fn fc : Nat} {L : Wal.L} {d : Disk.Dk} (h : RW F w q g sb cb sc fa fn fc L d) (k : ∀ b, Pl F q b → w'.heap[b]? = w.heap[b]?) (hz : w.heap.size ≤ w'.heap.size) : RW F w' q g sb cb sc fa fn fc L d :=
  ⟨h.disk.stay (fun b hb => k b (.inl hb)) hz, h.log.same (k q (.inr rfl)), h.apart⟩

section
variable {W : World} {A A' B B' : Nat → Prop} {w w' : World}
theorem K2.ofL (hU : Upd A w A' w') : K2 W A B w A' B w' := by
  refine ⟨fun v l hv => ⟨hv.1.upd hU (fun k hk => (hv.2 k hk).1), fun k hk => ⟨fun e => ?_, (hv.2 k hk).2⟩⟩, fun b A t ha => ⟨Nat.lt_of_lt_of_le ha.1 hU.size, fun e => ?_, ha.2.2.1, (hU.block b ha.1 ha.2.1).trans ha.2.2.2⟩⟩
  · rcases hU.new k e with e | e
    · exact (hv.2 k hk).1 e
    · have := (hv.1.lt k hk).2; omega
  · rcases hU.new b e with e | e
    · exact ha.2.1 e
    · have := ha.1; omega
theorem K2.ofR (hU : Upd B w B' w') : K2 W A B w A B' w' := by
  refine ⟨fun v l hv => ⟨hv.1.upd hU (fun k hk => (hv.2 k hk).2), fun k hk => ⟨(hv.2 k hk).1, fun e => ?_⟩⟩, fun b A t ha => ⟨Nat.lt_of_lt_of_le ha.1 hU.size, ha.2.1, fun e => ?_, (hU.block b ha.1 ha.2.2.1).trans ha.2.2.2⟩⟩
  · rcases hU.new k e with e | e
    · exact (hv.2 k hk).2 e
    · have := (hv.1.lt k hk).2; omega
  · rcases hU.new b e with e | e
    · exact ha.2.2.1 e
    · have := ha.1; omega
end

section
variable {W : World} {F G F' G' : Nat → Prop} {g r q p : Nat} {L M L' M' : Wal.L} {d e d' e' : Disk.Dk} {w w' : World}

theorem Pw.below (h : Pw W F G g r q p L M d e w) : Below W.heap.size W w := by
  obtain ⟨_, _, _, _, _, _, _, _, _, _, _, _, _, _, _, _, hB⟩ := h; exact hB
theorem Pw.forget (h : Pw W F G g r q p L M d e w) : Pr W F G g r d e w := by
  obtain ⟨s, m, fa, fn, fc, sb, cb, sc, ga, gn, gc, hP, hR, hd, hF, hG, hB⟩ := h
  exact ⟨s, m, fa, fn, fc, sb, cb, sc, ga, gn, gc, hP.disk, hR.disk, fun k hk hg => hd k (.inl hk) (.inl hg), fun k hk => hF k (.inl hk), fun k hk => hG k (.inl hk), hB⟩
theorem Pw.stepL (h : Pw W F G g r q p L M d e w) {s m : Nat} {fa : Option Addr} {fn fc : Nat} (hP' : WD F' w' q g s m fa fn fc L' d') (hU : Upd (Pl F q) w (Pl F' q) w') : Pw W F' G g r q p L' M d' e w' ∧ K2 W (Pl F q) (Pl G p) w (Pl F' q) (Pl G p) w' := by
  obtain ⟨_, _, _, _, _, sb, cb, sc, ga, gn, gc, hP, hR, hd, hF, hG, hB⟩ := h
  exact ⟨⟨s, m, fa, fn, fc, sb, cb, sc, ga, gn, gc, hP', hR.stay (hU.stays hd hR.lt) hU.size, hU.apart hd hR.lt, hU.lo hF hB.size, hG, hU.below hB hF hB.size⟩, K2.ofL hU⟩
theorem Pw.stepR (h : Pw W F G g r q p L M d e w) {sb cb sc : Nat} {ga : Option Addr} {gn gc : Nat} (hR' : RW G' w' p r sb cb sc ga gn gc M' e') (hU : Upd (Pl G p) w (Pl G' p) w') : Pw W F G' g r q p L M' d e' w' ∧ K2 W (Pl F q) (Pl G p) w (Pl F q) (Pl G' p) w' := by
  obtain ⟨s, m, fa, fn, fc, _, _, _, _, _, _, hP, hR, hd, hF, hG, hB⟩ := h
  have hd' : ∀ k, Pl G p k → ¬ Pl F q k := fun k a b => hd k b a
  exact ⟨⟨s, m, fa, fn, fc, sb, cb, sc, ga, gn, gc, hP.stay (hU.stays hd' hP.lt) hU.size, hR', fun k a b => hU.apart hd' hP.lt k b a, hF, hU.lo hG hB.size, hU.below hB hG hB.size⟩, K2.ofR hU⟩
theorem Pw.ext (h : Pw W F G g r q p L M d e w) (k : Below w.heap.size w w') : Pw W F G g r q p L M d e w' := by
  obtain ⟨s, m, fa, fn, fc, sb, cb, sc, ga, gn, gc, hP, hR, hd, hF, hG, hB⟩ := h
  exact ⟨s, m, fa, fn, fc, sb, cb, sc, ga, gn, gc, hP.ext k, hR.ext k, hd, hF, hG, hB.trans (k.mono hB.size)⟩
theorem Pw.drew (h : Pw W F G g r q p L M d e w) : Pw W F G g r q p L M d e w.drew := h.ext ((Below.refl _ _).drew)
theorem Pw.alloc (h : Pw W F G g r q p L M d e w) (o : Obj) : Pw W F G g r q p L M d e (w.alloc o) := h.ext ((Below.refl _ _).alloc (Nat.le_refl _) o)
theorem Pw.own (h : Pw W F G g r q p L M d e w) {a : Option Addr} {n c : Nat} {x : List UInt8} (hs : SlB W a n c x) (hn : n ≤ 140737488355328) :
    Calls Tryz.prog 8 #[.slice a n c] w fun z w' => ∃ v, z = .returned v ∧ Val W (Pl F q) (Pl G p) w' v x ∧ Below w.heap.size w w' := by
  obtain ⟨s, m, fa, fn, fc, sb, cb, sc, ga, gn, gc, hP, hR, hd, hF, hG, hB⟩ := h
  refine (keep_own a n c x w (hs.ext hB) hn).mono ?_
  rintro z w1 ⟨v, rfl, hO, hb⟩
  exact ⟨v, rfl, ⟨hO.mono hB.size, fun k hk => ⟨fun e => by have := (hO.lt k hk).1; have := hP.lt k e; omega, fun e => by have := (hO.lt k hk).1; have := hR.lt k e; omega⟩⟩, hb⟩
theorem Pw.append (h : Pw W F G g r q p L M d e w) (hfit : Wal.Fits L) {v : Value} {x : List UInt8} (hv : Val W (Pl F q) (Pl G p) w v x) {z : Int} (hr : Wal.append L d x = (z, L', d')) :
    Calls Tryz.prog 9 #[.pointer (some ⟨q, 0, none⟩), v] w fun y w' => y = .returned (.int .i64 z) ∧ ∃ F', Pw W F' G g r q p L' M d' e w' ∧ K2 W (Pl F q) (Pl G p) w (Pl F' q) (Pl G p) w' := by
  obtain ⟨s, m, fa, fn, fc, sb, cb, sc, ga, gn, gc, hP, -⟩ := id h
  obtain ⟨a, c, rfl, hs, hf⟩ := hv.sl
  refine (wl_append hP hfit a _ c x hs hr).mono ?_
  rintro y w1 ⟨rfl, F', hP', hU⟩
  exact ⟨rfl, F', h.stepL hP' hU⟩
theorem Pw.rappend (h : Pw W F G g r q p L M d e w) (hfit : Wal.Fits M) {a : Option Addr} {n c : Nat} {x : List UInt8} (hs : SlB W a n c x) {z : Int} (hr : Wal.append M e x = (z, M', e')) :
    Calls Tryz.prog 10 #[.pointer (some ⟨p, 0, none⟩), .slice a n c] w fun y w' => y = .returned (.int .i64 z) ∧ ∃ G', Pw W F G' g r q p L M' d e' w' ∧ K2 W (Pl F q) (Pl G p) w (Pl F q) (Pl G' p) w' := by
  obtain ⟨s, m, fa, fn, fc, sb, cb, sc, ga, gn, gc, hP, hR, hd, hF, hG, hB⟩ := id h
  refine (rl_append hR hfit a n c x (hs.ext hB) hr).mono ?_
  rintro y w1 ⟨rfl, G', hR', hU⟩
  exact ⟨rfl, G', h.stepR hR' hU⟩
theorem Pw.sync (h : Pw W F G g r q p L M d e w) {z : Int} (hr : Wal.sync L d = (z, L', d')) :
    Calls Tryz.prog 12 #[.pointer (some ⟨q, 0, none⟩)] w fun y w' => y = .returned (.int .i64 z) ∧ Pw W F G g r q p L' M d' e w' ∧ K2 W (Pl F q) (Pl G p) w (Pl F q) (Pl G p) w' := by
  obtain ⟨s, m, fa, fn, fc, sb, cb, sc, ga, gn, gc, hP, -⟩ := id h
  refine (wl_sync hP hr).mono ?_
  rintro y w1 ⟨rfl, hP', hU⟩
  exact ⟨rfl, h.stepL hP' hU⟩
theorem Pw.rsync (h : Pw W F G g r q p L M d e w) {z : Int} (hr : Wal.sync M e = (z, M', e')) :
    Calls Tryz.prog 13 #[.pointer (some ⟨p, 0, none⟩)] w fun y w' => y = .returned (.int .i64 z) ∧ Pw W F G g r q p L M' d e' w' ∧ K2 W (Pl F q) (Pl G p) w (Pl F q) (Pl G p) w' := by
  obtain ⟨s, m, fa, fn, fc, sb, cb, sc, ga, gn, gc, hP, hR, -⟩ := id h
  refine (rl_sync hR hr).mono ?_
  rintro y w1 ⟨rfl, hR', hU⟩
  exact ⟨rfl, h.stepR hR' hU⟩
theorem Pw.arm (h : Pw W F G g r q p L M d e w) {a : Option Addr} {n c : Nat} {l : List (Int × Int)} (hs : SlP W a n c l) {z : Int} (hr : Disk.arm d l = (z, d')) :
    Calls Tryz.prog 14 #[.pointer (some ⟨g, 0, none⟩), .slice a n c] w fun y w' => y = .returned (.int .i64 z) ∧ ∃ F', Pw W F' G g r q p L M d' e w' ∧ K2 W (Pl F q) (Pl G p) w (Pl F' q) (Pl G p) w' := by
  obtain ⟨s, m, fa, fn, fc, sb, cb, sc, ga, gn, gc, hP, hR, hd, hF, hG, hB⟩ := id h
  refine (sd_arm_at hP.disk (hs.ext hB) hr).mono ?_
  rintro y w1 ⟨rfl, F', _, _, _, hP', hU⟩
  have hq : ¬ F' q := fun e => by rcases hU.new q e with e | e; exact hP.apart e; have := hP.log.lt; omega
  exact ⟨rfl, F', h.stepL ⟨hP', hP.log.same (hU.block q hP.log.lt hP.apart), hq⟩ (hU.beside q)⟩
theorem Pw.rarm (h : Pw W F G g r q p L M d e w) {a : Option Addr} {n c : Nat} {l : List (Int × Int)} (hs : SlP W a n c l) {z : Int} (hr : Disk.arm e l = (z, e')) :
    Calls Tryz.prog 15 #[.pointer (some ⟨r, 0, none⟩), .slice a n c] w fun y w' => y = .returned (.int .i64 z) ∧ ∃ G', Pw W F G' g r q p L M d e' w' ∧ K2 W (Pl F q) (Pl G p) w (Pl F q) (Pl G' p) w' := by
  obtain ⟨s, m, fa, fn, fc, sb, cb, sc, ga, gn, gc, hP, hR, hd, hF, hG, hB⟩ := id h
  have := rd_arm hR.disk a n c l (hs.ext hB)
  unfold RArmPost at this; rw [hr] at this
  refine this.mono ?_
  rintro y w1 ⟨rfl, G', _, _, _, hR', hU⟩
  have hq : ¬ G' p := fun e => by rcases hU.new p e with e | e; exact hR.apart e; have := hR.log.lt; omega
  exact ⟨rfl, G', h.stepR ⟨hR', hR.log.same (hU.block p hR.log.lt hR.apart), hq⟩ (hU.beside p)⟩
end

/-- Where the two logs stand: both nil, or both the same log. -/
def LogS (W : World) (g r : Nat) (lv mv : Value) (d : Disk.Dk) (w : World) : Prop :=
  d.st.length = 30 ∧ ((lv = .pointer none ∧ mv = .pointer none ∧ ∃ F G, Pr W F G g r d d w) ∨ ∃ F G q p L, lv = .pointer (some ⟨q, 0, none⟩) ∧ mv = .pointer (some ⟨p, 0, none⟩) ∧ GoodL L ∧ Pw W F G g r q p L L d d w)
theorem LogS.below {W : World} {g r : Nat} {lv mv : Value} {d : Disk.Dk} {w : World} (h : LogS W g r lv mv d w) : Below W.heap.size W w := by
  rcases h with ⟨-, ⟨-, -, F, G, h⟩ | ⟨F, G, q, p, L, -, -, -, h⟩⟩ <;> exact h.below
theorem LogS.pr {W : World} {g r : Nat} {lv mv : Value} {d : Disk.Dk} {w : World} (h : LogS W g r lv mv d w) : ∃ F G, Pr W F G g r d d w := by
  rcases h with ⟨-, ⟨-, -, F, G, h⟩ | ⟨F, G, q, p, L, -, -, -, h⟩⟩
  · exact ⟨F, G, h⟩
  · exact ⟨F, G, h.forget⟩
theorem LogS.ext {W : World} {g r : Nat} {lv mv : Value} {d : Disk.Dk} {w w' : World} (h : LogS W g r lv mv d w) (e : Below w.heap.size w w') : LogS W g r lv mv d w' := by
  rcases h with ⟨hn, ⟨h1, h2, F, G, h⟩ | ⟨F, G, q, p, L, h1, h2, h3, h⟩⟩
  · exact ⟨hn, .inl ⟨h1, h2, F, G, (h.ext e).1⟩⟩
  · exact ⟨hn, .inr ⟨F, G, q, p, L, h1, h2, h3, h.ext e⟩⟩

/-- Between the two calls of Open: the program has opened its log, the reference has not. -/
def MidS (W : World) (F G : Nat → Prop) (g r : Nat) (lv : Value) (lo : Option Wal.L) (d e : Disk.Dk) (w : World) : Prop :=
  Pr W F G g r d e w ∧ ((lo = none ∧ lv = .pointer none) ∨ ∃ q L, lo = some L ∧ lv = .pointer (some ⟨q, 0, none⟩) ∧ LB w q g L ∧ ¬ F q ∧ ¬ G q ∧ W.heap.size ≤ q)

theorem Pr.wopen {W : World} {F G : Nat → Prop} {g r : Nat} {d e : Disk.Dk} {w : World} (h : Pr W F G g r d e w) (f c : Int) (hf : ib f) (hc : ib c) (ep : Nat) (hep : ep < 4294967296) (hn : d.st.length ≤ 1000) {lo : Option Wal.L} {ps : List (List UInt8)} {z : Int} {d' : Disk.Dk} (hr : Wal.open d f c ep = (lo, ps, z, d')) :
    Calls Tryz.prog 18 #[.pointer (some ⟨g, 0, none⟩), .agg #[.int .i64 f, .int .i64 c], .int .u32 (ep : Nat)] w fun y w' => ∃ lv v F', y = .returned (.tuple #[lv, v, .int .i64 z]) ∧ OwnL w.heap.size w' v ps ∧ MidS W F' G g r lv lo d' e w' ∧ (∀ k, G k → k < w.heap.size) ∧ K2 W F G w F' G w' := by
  obtain ⟨s, m, fa, fn, fc, sb, cb, sc, ga, gn, gc, hP, hR, hd, hF, hG, hB⟩ := id h
  have hno := Wal.open_none (d := d) (f := f) (c := c) (ep := ep)
  rw [hr] at hno
  have h0 := wl_open hP f c hf hc ep hep hn
  rw [hr] at h0
  unfold WalOpenPost at h0
  refine h0.mono ?_
  cases lo with
  | none =>
    rintro y w1 ⟨rfl, F', hP', hU⟩
    have e0 : ps = [] := hno rfl
    subst e0
    obtain ⟨h1, h2⟩ := h.stepL hP' hU
    exact ⟨_, _, F', rfl, OwnL.nil _ _, ⟨h1, .inl ⟨rfl, rfl⟩⟩, hR.lt, h2⟩
  | some L =>
    rintro y w1 ⟨F', q, v, rfl, hq, hO, hP', hU⟩
    obtain ⟨h1, h2⟩ := h.stepL hP'.disk hU
    exact ⟨_, _, F', rfl, hO, ⟨h1, .inr ⟨q, L, rfl, rfl, hP'.log, hP'.apart, fun e => by have := hR.lt q e; omega, Nat.le_trans hB.size hq⟩⟩, hR.lt, h2⟩

theorem MidS.ropen {W : World} {F G : Nat → Prop} {g r : Nat} {lv : Value} {lo : Option Wal.L} {d e : Disk.Dk} {w : World} (h : MidS W F G g r lv lo d e w) (f c : Int) (hf : ib f) (hc : ib c) (ep : Nat) (hep : ep < 4294967296) (hn : e.st.length = 30) {ps : List (List UInt8)} {z : Int} (hr : Wal.open e f c ep = (lo, ps, z, d)) {bs : Nat} {v : Value} (hbs : ∀ k, G k → k < bs) (hv : OwnL bs w v ps) :
    Calls Tryz.prog 19 #[.pointer (some ⟨r, 0, none⟩), .agg #[.int .i64 f, .int .i64 c], .int .u32 (ep : Nat)] w fun y w' => ∃ mv u, y = .returned (.tuple #[mv, u, .int .i64 z]) ∧ OwnL bs w' v ps ∧ OwnL w.heap.size w' u ps ∧ LogS W g r lv mv d w' := by
  obtain ⟨hPr, hl⟩ := h
  obtain ⟨s, m, fa, fn, fc, sb, cb, sc, ga, gn, gc, hP, hR, hd, hF, hG, hB⟩ := id hPr
  have hno := Wal.open_none (d := e) (f := f) (c := c) (ep := ep)
  have hst := Wal.open_st e f c ep
  have hgd := GoodL.opened (d := e) hR.ok (by omega) hf hc hep (L := lo.getD ⟨0, 0, 0, 0, 0, 0, false⟩)
  rw [hr] at hno hst hgd
  have hst30 : d.st.length = 30 := hst.trans hn
  have h0 := rl_open hR f c hf hc ep hep (by omega)
  rw [hr] at h0
  unfold RWOpenPost at h0
  refine h0.mono ?_
  cases lo with
  | none =>
    rintro y w1 ⟨rfl, G', hR', hU⟩
    have e0 : ps = [] := hno rfl
    subst e0
    obtain ⟨h1, h2⟩ := hPr.stepR hR' hU
    rcases hl with ⟨-, rfl⟩ | ⟨q, L, hx, -⟩
    · exact ⟨_, _, rfl, hv.keep (fun k k1 k2 => hU.block k k2 (fun a => by have := hbs k a; omega)), OwnL.nil _ _, hst30, .inl ⟨rfl, rfl, F, G', h1⟩⟩
    · cases hx
  | some L =>
    rintro y w1 ⟨G', p, u, rfl, hp, hO, hR', hU⟩
    obtain ⟨h1, h2⟩ := hPr.stepR hR'.disk hU
    rcases hl with ⟨hx, -⟩ | ⟨q, L', hx, rfl, hL, hqF, hqG, hqW⟩
    · cases hx
    · cases hx
      have hql := hL.lt
      refine ⟨_, _, rfl, hv.keep (fun k k1 k2 => hU.block k k2 (fun a => by have := hbs k a; omega)), hO, hst30, .inr ⟨F, G', q, p, L, rfl, rfl, hgd rfl, ?_⟩⟩
      have hd' : ∀ k, F k → ¬ G' k := fun k a b => hU.apart (fun x y z => hd x z y) hP.lt k b a
      refine ⟨s, m, fa, fn, fc, _, _, _, _, _, _, ⟨hP.apart hU (fun b hb hf => hd b hf hb), hL.same (hU.block q hql hqG), hqF⟩, hR', ?_, ?_, ?_, hU.below hB hG hB.size⟩
      · rintro k (a | rfl) (b | rfl)
        · exact hd' k a b
        · have := hP.lt k a; omega
        · rcases hU.new k b with x | x
          · exact hqG x
          · omega
        · omega
      · rintro k (a | rfl)
        · exact hF k a
        · exact hqW
      · rintro k (a | rfl)
        · exact hU.lo hG hB.size k a
        · exact Nat.le_trans hB.size hp

end Go.Proofs.YtabeelcidlhniaaGreat

/-
  The law WalMatchesSpec walked.
-/
namespace Go.Proofs.YtabeelcidlhniaaGreat
open Go.RowKit

/-- Where the two logs stand, on some disk. -/
def LogE (W : World) (g r : Nat) (lv mv : Value) (w : World) : Prop := ∃ d, LogS W g r lv mv d w

set_option maxRecDepth 100000 in
set_option maxHeartbeats 2000000 in
theorem LogS.same {W : World} {g r : Nat} {lv mv : Value} {d : Disk.Dk} {w : World} (h : LogS W g r lv mv d w) : Calls Tryz.prog 21 #[lv, mv] w fun y w' => y = .returned (.bool true) ∧ Below w.heap.size w w' := by
  rcases h with ⟨-, ⟨rfl, rfl, -⟩ | ⟨F, G, q, p, L, rfl, rfl, hg, hw⟩⟩
  · go_enter Tryz.func21, Tryz.ntmps21
    go_wp2_with (first
      | (go_at_call 34; go_must (refine (wl_failed_nil _).mono ?_); rintro e w1 ⟨rfl, rfl⟩)
      | (go_at_call 31; go_must (refine (wl_records_nil _).mono ?_); rintro e w1 ⟨rfl, rfl⟩)
      | (go_at_call 32; go_must (refine (wl_synced_nil _).mono ?_); rintro e w1 ⟨rfl, rfl⟩)
      | (go_at_call 30; go_must (refine (wl_free_nil _).mono ?_); rintro e w1 ⟨rfl, rfl⟩)
      | (go_at_call 55; go_must (refine (rl_failed_nil _).mono ?_); rintro e w1 ⟨rfl, rfl⟩)
      | (go_at_call 56; go_must (refine (rl_records_nil _).mono ?_); rintro e w1 ⟨rfl, rfl⟩)
      | (go_at_call 57; go_must (refine (rl_synced_nil _).mono ?_); rintro e w1 ⟨rfl, rfl⟩)
      | (go_at_call 58; go_must (refine (rl_free_nil _).mono ?_); rintro e w1 ⟨rfl, rfl⟩))
    go_ret
    exact ⟨rfl, Below.refl _ _⟩
  · obtain ⟨s, m, fa, fn, fc, sb, cb, sc, ga, gn, gc, hP, hR, -⟩ := hw
    have hft := hg.fits
    have H1 := Lib.hid (wl_failed hP.log)
    have H2 := Lib.hid (rl_failed hR.log)
    have H3 := Lib.hid (wl_records hP.log)
    have H4 := Lib.hid (rl_records hR.log)
    have H5 := Lib.hid (wl_synced hP.log)
    have H6 := Lib.hid (rl_synced hR.log)
    have H7 := Lib.hid (wl_free_at hP.log hft _ rfl)
    have H8 := Lib.hid (fun w' (e : Below w.heap.size w w') => rl_free (hR.log.ext e) hft)
    obtain ⟨fl, hfl⟩ : ∃ fl, L.fl = fl := ⟨_, rfl⟩
    obtain ⟨rc, hrc⟩ : ∃ rc, L.rc = rc := ⟨_, rfl⟩
    obtain ⟨sy, hsy⟩ : ∃ sy, L.sy = sy := ⟨_, rfl⟩
    obtain ⟨fr, hfr⟩ : ∃ fr, Extent.size L.c - (L.en : Int) = fr := ⟨_, rfl⟩
    rw [hfl] at H1 H2; rw [hrc] at H3 H4; rw [hsy] at H5 H6; rw [hfr] at H7 H8
    clear hP hR hg hft hfl hrc hsy hfr
    have tfl : (fl == fl) = true := by simp
    go_enter Tryz.func21, Tryz.ntmps21
    go_wp2_with (first
      | (go_at_call 34; go_must (refine H1.out.mono ?_); rintro e w1 ⟨rfl, rfl⟩)
      | (go_at_call 31; go_must (refine H3.out.mono ?_); rintro e w1 ⟨rfl, rfl⟩)
      | (go_at_call 32; go_must (refine H5.out.mono ?_); rintro e w1 ⟨rfl, rfl⟩)
      | (go_at_call 30; go_must (refine H7.out.mono ?_); rintro e w2 ⟨rfl, hb2⟩)
      | (go_at_call 55; go_must (refine H2.out.mono ?_); rintro e w1 ⟨rfl, rfl⟩)
      | (go_at_call 56; go_must (refine H4.out.mono ?_); rintro e w1 ⟨rfl, rfl⟩)
      | (go_at_call 57; go_must (refine H6.out.mono ?_); rintro e w1 ⟨rfl, rfl⟩)
      | (go_at_call 58; go_must (refine (H8.out _ hb2).mono ?_); rintro e w3 ⟨rfl, hb3⟩))
    go_ret
    exact ⟨by simp, hb2.trans (hb3.mono hb2.size)⟩

set_option maxRecDepth 100000 in
set_option maxHeartbeats 16000000 in
theorem walm_law (fst cnt : Int) (ep : Nat) (hfst : ib fst) (hcnt : ib cnt) (hep : ep < 4294967296) (a : Option Addr) (n c : Nat) (l : List O8) (w : World) (h : SlO8 w a n c l) :
    Calls Tryz.prog 3 #[.agg #[.int .i64 fst, .int .i64 cnt], .int .u32 (ep : Nat), .slice a n c] w fun e w' => e = .returned (.bool true) ∧ Below w.heap.size w w' := by
  have HB := Lib.hid (And.intro hfst (And.intro hcnt hep))
  clear hfst hcnt hep
  have hE := (Below.refl w.heap.size w).alloc (Nat.le_refl _) (.cells #[.int .i64 fst, .int .i64 cnt] 23)
  have h := h.ext hE
  have hle := h.le
  have HA := Lib.hid (fun W => law8_awake W)
  go_enter Tryz.func3, Tryz.ntmps3
  go_wp2_with fail
  obtain ⟨w0, hw0⟩ : ∃ w0, w.alloc (.cells #[.int .i64 fst, .int .i64 cnt] 23) = w0 := ⟨_, rfl⟩
  rw [hw0] at hE h ⊢
  have hbx : w0.heap[w.heap.size]? = some (.cells #[.int .i64 fst, .int .i64 cnt] 23 (0, 0)) := by rw [← hw0]; exact heap_alloc_eq _ _ _ rfl
  have e0 : w0.cell? ⟨w.heap.size, 0, none⟩ = some (.int .i64 fst) := (cell_of_row _ _ _ _ _ _ hbx).trans rfl
  have e1 : w0.cell? ⟨w.heap.size, 1, none⟩ = some (.int .i64 cnt) := (cell_of_row _ _ _ _ _ _ hbx).trans rfl
  have hBlt : w.heap.size < w0.heap.size := by rw [← hw0]; simp
  have HE := Lib.hid (And.intro e0 e1)
  clear hw0 hbx
  have HSM := Lib.hid (law8_small a n c l w0 h)
  refine HSM.out.mono ?_; rintro e w0' ⟨rr, rfl, hr, rfl⟩
  cases rr
  · clear h hr
    go_wp2_with fail
    refine (HA.out _).mono ?_; rintro e w1 ⟨rfl, hB⟩
    go_wp2_with fail
    go_ret
    exact ⟨rfl, hE.trans (hB.mono hE.size)⟩
  obtain ⟨hn80, hsm⟩ := hr rfl
  have HSL := Lib.hid hsm
  clear hsm hr
  go_wp2_with fail
  refine (sd_new 30 (by omega) (by omega) _ 30 rfl).mono ?_; rintro e w1 ⟨F, g, s, m, fa, fn, fc, rfl, hP1, hF1, hB1⟩
  go_wp2_with fail
  refine (rd_new 30 (by omega) (by omega) _ 30 rfl).mono ?_; rintro e w2 ⟨G, r, sb, cb, sc, rfl, hR2, hG2, hB2⟩
  have hM0 : LogE w0' g r (.pointer none) (.pointer none) w2 := ⟨_, by simp [Disk.new], .inl ⟨rfl, rfl, F, G, s, m, fa, fn, fc, sb, cb, sc, none, 0, 0, hP1.ext hB2, hR2, fun k hf hg => by have := hP1.lt k hf; have := hG2 k hg; omega, hF1, fun k hk => Nat.le_trans hB1.size (hG2 k hk), hB1.trans (hB2.mono hB1.size)⟩⟩
  clear hP1 hF1 hB1 hR2 hG2 hB2
  go_wp2_with fail
  go_loopw [11, 12, 13, 14, 15, 16, 17, 18, 19, 20, 21] (fun lv mv i _ _ _ _ _ _ _ _ wr => ∃ k : Int, -1 ≤ k ∧ k ≤ n ∧ i = .int .i64 k ∧ LogE w0' g r lv mv wr) (fun _ _ i _ _ _ _ _ _ _ _ _ => ((n : Int) - intOf i).toNat)
  case atStart => exact ⟨-1, by omega, by omega, rfl, hM0⟩
  case round =>
    obtain ⟨k, hk0, hkk, rfl, d, hL⟩ := hrel
    clear hM0
    have H30 := Lib.hid hL.1
    have HL := Lib.hid hL
    obtain ⟨F, G, hPr⟩ := hL.pr
    have hbl := hPr.below
    replace e0 := (hbl.cell (p := ⟨w.heap.size, 0, none⟩) hBlt).trans e0
    replace e1 := (hbl.cell (p := ⟨w.heap.size, 1, none⟩) hBlt).trans e1
    have hBlr : w.heap.size < wr.heap.size := Nat.lt_of_lt_of_le hBlt hbl.size
    by_cases hneg : k < 0
    · obtain rfl : k = -1 := by omega
      clear hL hk0 hneg
      have tn : (-1 : Int) < (n : Int) := by omega
      have HPA := Lib.hid (fun o => hPr.alloc o)
      obtain ⟨lo, ps, z, d', hr0⟩ : ∃ lo ps z d', Wal.open d fst cnt ep = (lo, ps, z, d') := ⟨_, _, _, _, rfl⟩
      have HR0 := Lib.hid hr0
      clear hr0
      go_wp2_with (first
        | (go_at_call 18; go_must (refine ((HPA.out _).wopen fst cnt HB.out.1 HB.out.2.1 ep HB.out.2.2 (by have := H30.out; omega) HR0.out).mono ?_); rintro e w3 ⟨lv3, v3, F3, rfl, hO3, hM3, hG3, hK3⟩; have z0 := (hM3.1.below.cell (p := ⟨w.heap.size, 0, none⟩) hBlt).trans HE.out.1; have z1 := (hM3.1.below.cell (p := ⟨w.heap.size, 1, none⟩) hBlt).trans HE.out.2)
        | (go_at_call 19; go_must (refine (hM3.ropen fst cnt HB.out.1 HB.out.2.1 ep HB.out.2.2 H30.out HR0.out hG3 hO3).mono ?_); rintro e w4 ⟨mv4, u4, rfl, hO5, hO4, hL4⟩; obtain ⟨a3, c3, rfl, hs3⟩ := hO5.sl; obtain ⟨a4, c4, rfl, hs4⟩ := hO4.sl)
        | (go_at_call 20; go_must (refine (keep_lists _ _ _ _ _ _ _ _ _ hs3 hs4).mono ?_); rintro e w5 ⟨rfl, hb5⟩; rw [show (ps == ps) = true by simp]; have hL5 := hL4.ext hb5)
        | (go_at_call 21; go_must (refine hL5.same.mono ?_); rintro e w9 ⟨rfl, hB9⟩))
      exact ⟨⟨0, by omega, by omega, by go_num, _, hL5.ext hB9⟩, by first | (simp [intOf]; done) | (simp [intOf]; omega)⟩
    obtain ⟨j, rfl⟩ : ∃ j : Nat, k = (j : Int) := ⟨k.toNat, by omega⟩
    clear hk0 hneg
    by_cases hlt : (j : Int) < (n : Int)
    · obtain ⟨b, o, x, rfl, hb, hx, hi⟩ := h.at (show j < n by omega)
      obtain ⟨ib5, c0, ⟨p, m1, d1, c1, s5⟩, ⟨p1, m2, d2, c2, s6⟩, ⟨p2, m3, d3, c3, s7⟩⟩ := hi
      replace c0 := (hbl.cell (p := ⟨b, o + j * 4, none⟩) hb).trans c0
      replace c1 := (hbl.cell (p := ⟨b, o + j * 4 + 1, none⟩) hb).trans c1
      replace c2 := (hbl.cell (p := ⟨b, o + j * 4 + 2, none⟩) hb).trans c2
      replace c3 := (hbl.cell (p := ⟨b, o + j * 4 + 3, none⟩) hb).trans c3
      have i0 : (0 : Int) ≤ (j : Int) := by omega
      have i1 : j < n := by omega
      have hbr : b < wr.heap.size := Nat.lt_of_lt_of_le hb hbl.size
      have hx100 : m1 ≤ 1026 := by
        have := (HSL.out x (List.mem_of_getElem? hx)).1
        have := s5.len
        omega
      have HX := Lib.hid (And.intro hx100 (And.intro s5 (And.intro s6 s7)))
      obtain ⟨kind, data, fs, ks⟩ := x
      clear s5 s6 s7 hx hx100 ib5 HSL
      simp only at c0 c1 c2 c3 HX
      have HPA := Lib.hid (fun o => hPr.alloc o)
      by_cases k0 : kind = 0
      · subst k0
        clear hPr HPA hL
        rcases HL.out with ⟨-, ⟨rfl, rfl, F0, G0, hQ⟩ | ⟨F0, G0, q, p0, L, rfl, rfl, hgl, hQ⟩⟩
        · have hAT : ∀ A t, At5 F0 G0 (wr.alloc (.cells A t)) wr.heap.size A t := fun A t => by
            obtain ⟨_, _, _, _, _, _, _, _, _, _, _, hP, hR, -⟩ := id hQ
            exact ⟨by simp, fun e => Nat.lt_irrefl _ (hP.lt _ e), fun e => Nat.lt_irrefl _ (hR.lt _ e), heap_alloc_eq _ _ _ rfl⟩
          have HAT := Lib.hid hAT
          clear hAT
          have HQA := Lib.hid (fun o => hQ.alloc o)
          go_wp2_with (go_at_call 8; go_must (refine ((HQA.out _).own HX.out.2.1 (by have := HX.out.1; omega)).mono ?_); rintro e w3 ⟨v3, rfl, hV3, hP3, hK3⟩; have hT3 := hK3.2 _ _ _ (HAT.out _ _))
          obtain ⟨a3, e3, rfl, hs3, -⟩ := hV3.sl
          have hs4 := HX.out.2.1.ext hP3.below
          have q1 : w3.drew.cell? ⟨wr.heap.size, 1, none⟩ = some (.slice p m1 d1) := hT3.cell 1
          have hs3d : SlB w3.drew _ _ _ data := hs3.ext (Below.drew (Below.refl _ _))
          have hs4d : SlB w3.drew _ _ _ data := hs4.ext (Below.drew (Below.refl _ _))
          go_wp2_with fail
          go_region_held3 (fun w' => w'.cell? ⟨wr.heap.size, 1, none⟩ = some (.slice p m1 d1)) (first | exact q1) (first
            | (go_at_call 9; go_must (refine (wl_append_nil _ _).mono ?_); rintro e w1 ⟨rfl, rfl⟩)
            | (go_at_call 10; go_must (refine (rl_append_nil _ _).mono ?_); rintro e w1 ⟨rfl, rfl⟩)
            | (go_at_call 11; go_must (refine (keep_bytes _ _ _ _ _ _ _ _ _ hs3d hs4d).mono ?_); rintro e w6 ⟨rfl, rfl⟩; rw [show (data == data) = true by simp]))
          have hLE : LogS w0' g r (.pointer none) (.pointer none) d w3 := ⟨H30.out, .inl ⟨rfl, rfl, _, _, hP3⟩⟩
          have HSA := Lib.hid (fun w' (e : Below w3.heap.size w3 w') => (hLE.ext e).same)
          have hB0 : Below w3.heap.size w3 w3 := Below.refl _ _
          have hB0d : Below w3.heap.size w3 w3.drew := Below.drew (Below.refl _ _)
          go_wp2_with (go_at_call 21; go_must (first | refine (HSA.out _ hB0).mono ?_ | refine (HSA.out _ hB0d).mono ?_); rintro e w9 ⟨rfl, hB9⟩)
          have hB9' : Below w3.heap.size w3 w9 := by first | exact hB9 | exact hB0d.trans hB9
          exact ⟨⟨(j : Int) + 1, by omega, by omega, by go_num, _, hLE.ext hB9'⟩, by first | (simp [intOf]; done) | (simp [intOf]; omega)⟩
        · have hAT : ∀ A t, At5 (Pl F0 q) (Pl G0 p0) (wr.alloc (.cells A t)) wr.heap.size A t := fun A t => by
            obtain ⟨_, _, _, _, _, _, _, _, _, _, _, hP, hR, -⟩ := id hQ
            exact ⟨by simp, fun e => Nat.lt_irrefl _ (hP.lt _ e), fun e => Nat.lt_irrefl _ (hR.lt _ e), heap_alloc_eq _ _ _ rfl⟩
          have HAT := Lib.hid hAT
          clear hAT
          have HQA := Lib.hid (fun o => hQ.alloc o)
          have HFT := Lib.hid hgl.fits
          obtain ⟨z, L', d', hr0⟩ : ∃ z L' d', Wal.append L d data = (z, L', d') := ⟨_, _, _, rfl⟩
          have HR0 := Lib.hid hr0
          have HG0 := Lib.hid (show GoodL L' from by have := hgl.append d data; rw [hr0] at this; exact this)
          have H31 := Lib.hid (show d'.st.length = 30 from by have := Wal.append_st L d data; rw [hr0] at this; exact this.trans H30.out)
          clear hr0
          go_wp2_with (go_at_call 8; go_must (refine ((HQA.out _).own HX.out.2.1 (by have := HX.out.1; omega)).mono ?_); rintro e w3 ⟨v3, rfl, hV3, hb3⟩)
          have hT3d : At5 (Pl F0 q) (Pl G0 p0) w3.drew wr.heap.size #[.int .i64 0, .slice p m1 d1, .slice p1 m2 d2, .slice p2 m3 d3] 41 := (HAT.out _ _).ext (Below.drew hb3)
          have hP3d := (HQA.out _).ext (Below.drew hb3)
          have hV3d : Val w0' (Pl F0 q) (Pl G0 p0) w3.drew v3 data := ⟨hV3.1.ext (Below.drew (Below.refl _ _)), hV3.2⟩
          have HP3 := Lib.hid hP3d
          have HV3 := Lib.hid hV3d
          clear hP3d hV3d
          have hSX : ∀ (F' G' : Nat → Prop) (w' : World), At5 F' G' w' wr.heap.size #[.int .i64 0, .slice p m1 d1, .slice p1 m2 d2, .slice p2 m3 d3] 41 → w'.cell? ⟨wr.heap.size, 1, none⟩ = some (.slice p m1 d1) := fun F' G' w' e => e.cell 1
          go_wp2_with fail
          go_region_held3 (fun w' => w'.cell? ⟨wr.heap.size, 1, none⟩ = some (.slice p m1 d1)) (first | exact hSX _ _ _ (by assumption)) (first
            | (go_at_call 9; go_must (refine (HP3.out.append HFT.out HV3.out HR0.out).mono ?_); rintro e w4 ⟨rfl, F4, hP4, hK4⟩; have hT4 := hK4.2 _ _ _ hT3d)
            | (go_at_call 10; go_must (refine (hP4.rappend HFT.out HX.out.2.1 HR0.out).mono ?_); rintro e w5 ⟨rfl, G5, hP5, hK5⟩; have hT5 := hK5.2 _ _ _ hT4; obtain ⟨a3, e3, e3', hs3, -⟩ := (hK5.1 _ _ (hK4.1 _ _ HV3.out)).sl; have hs4 := HX.out.2.1.ext hP5.below)
            | (go_at_call 11; go_must (refine (keep_bytes _ _ _ _ _ _ _ _ _ hs3 hs4).mono ?_); rintro e w6 ⟨rfl, rfl⟩; rw [show (data == data) = true by simp]))
          have hLE : LogS w0' g r (.pointer (some ⟨q, 0, none⟩)) (.pointer (some ⟨p0, 0, none⟩)) d' w5 := ⟨H31.out, .inr ⟨_, _, _, _, _, rfl, rfl, HG0.out, hP5⟩⟩
          have HSA := Lib.hid (fun w' (e : Below w5.heap.size w5 w') => (hLE.ext e).same)
          have hB0 : Below w5.heap.size w5 w5 := Below.refl _ _
          have hB0d : Below w5.heap.size w5 w5.drew := Below.drew (Below.refl _ _)
          go_wp2_with (go_at_call 21; go_must (first | refine (HSA.out _ hB0).mono ?_ | refine (HSA.out _ hB0d).mono ?_); rintro e w9 ⟨rfl, hB9⟩)
          have hB9' : Below w5.heap.size w5 w9 := by first | exact hB9 | exact hB0d.trans hB9
          exact ⟨⟨(j : Int) + 1, by omega, by omega, by go_num, _, hLE.ext hB9'⟩, by first | (simp [intOf]; done) | (simp [intOf]; omega)⟩
      by_cases k1 : kind = 1
      · subst k1
        clear k0 hPr HPA hL
        rcases HL.out with ⟨-, ⟨rfl, rfl, F0, G0, hQ⟩ | ⟨F0, G0, q, p0, L, rfl, rfl, hgl, hQ⟩⟩
        · have HQA := Lib.hid (fun o => hQ.alloc o)
          go_wp2_with (first
            | (go_at_call 12; go_must (refine (wl_sync_nil _).mono ?_); rintro e w1 ⟨rfl, rfl⟩)
            | (go_at_call 13; go_must (refine (rl_sync_nil _).mono ?_); rintro e w1 ⟨rfl, rfl⟩)
            | (go_at_call 21; go_must (refine (LogS.same (W := w0') (g := g) (r := r) (d := d) ⟨H30.out, .inl ⟨rfl, rfl, _, _, HQA.out _⟩⟩).mono ?_); rintro e w9 ⟨rfl, hB9⟩))
          exact ⟨⟨(j : Int) + 1, by omega, by omega, by go_num, d, H30.out, .inl ⟨rfl, rfl, _, _, ((HQA.out _).ext hB9).1⟩⟩, by first | (simp [intOf]; done) | (simp [intOf]; omega)⟩
        · have HQA := Lib.hid (fun o => hQ.alloc o)
          obtain ⟨z, L', d', hr0⟩ : ∃ z L' d', Wal.sync L d = (z, L', d') := ⟨_, _, _, rfl⟩
          have HR0 := Lib.hid hr0
          have HG0 := Lib.hid (show GoodL L' from by have := hgl.sync d; rw [hr0] at this; exact this)
          have H31 := Lib.hid (show d'.st.length = 30 from by have := Wal.sync_st L d; rw [hr0] at this; exact this.trans H30.out)
          clear hr0
          go_wp2_with (first
            | (go_at_call 12; go_must (refine ((HQA.out _).sync HR0.out).mono ?_); rintro e w3 ⟨rfl, hP3, hK3⟩)
            | (go_at_call 13; go_must (refine (hP3.rsync HR0.out).mono ?_); rintro e w4 ⟨rfl, hP4, hK4⟩; have hLE : LogS w0' g r (.pointer (some ⟨q, 0, none⟩)) (.pointer (some ⟨p0, 0, none⟩)) d' w4 := ⟨H31.out, .inr ⟨_, _, _, _, _, rfl, rfl, HG0.out, hP4⟩⟩)
            | (go_at_call 21; go_must (refine hLE.same.mono ?_); rintro e w9 ⟨rfl, hB9⟩))
          exact ⟨⟨(j : Int) + 1, by omega, by omega, by go_num, _, hLE.ext hB9⟩, by first | (simp [intOf]; done) | (simp [intOf]; omega)⟩
      by_cases k2 : kind = 2
      · subst k2
        clear k0 k1 hPr HPA hL
        rcases HL.out with ⟨-, ⟨rfl, rfl, F0, G0, hQ⟩ | ⟨F0, G0, q, p0, L, rfl, rfl, hgl, hQ⟩⟩
        · have hAT : ∀ A t, At5 F0 G0 (wr.alloc (.cells A t)) wr.heap.size A t := fun A t => by
            obtain ⟨_, _, _, _, _, _, _, _, _, _, _, hP, hR, -⟩ := id hQ
            exact ⟨by simp, fun e => Nat.lt_irrefl _ (hP.lt _ e), fun e => Nat.lt_irrefl _ (hR.lt _ e), heap_alloc_eq _ _ _ rfl⟩
          have HAT := Lib.hid hAT
          clear hAT
          have HQA := Lib.hid (fun o => hQ.alloc o)
          obtain ⟨z, d', hr0⟩ : ∃ z d', Disk.arm d fs = (z, d') := ⟨_, _, rfl⟩
          have HR0 := Lib.hid hr0
          have H31 := Lib.hid (show d'.st.length = 30 from by have := Disk.arm_len d fs; rw [hr0] at this; exact this.trans H30.out)
          clear hr0
          have hATd : At5 F0 G0 (wr.alloc (.cells #[.int .i64 2, .slice p m1 d1, .slice p1 m2 d2, .slice p2 m3 d3] 41)).drew wr.heap.size #[.int .i64 2, .slice p m1 d1, .slice p1 m2 d2, .slice p2 m3 d3] 41 := HAT.out _ _
          have q0 : (wr.alloc (.cells #[.int .i64 2, .slice p m1 d1, .slice p1 m2 d2, .slice p2 m3 d3] 41)).drew.cell? ⟨wr.heap.size, 2, none⟩ = some (.slice p1 m2 d2) := hATd.cell 2
          have HATD := Lib.hid hATd
          clear hATd
          go_wp2_with fail
          go_region_held3 (fun w' => w'.cell? ⟨wr.heap.size, 2, none⟩ = some (.slice p1 m2 d2)) (first | exact q0 | exact t41 | exact t51) (first
            | (go_at_call 14; go_must (refine ((HQA.out _).drew.sarm HX.out.2.2.1 HR0.out).mono ?_); rintro e w4 ⟨rfl, F4, hP4, hK4⟩; have hT4 := hK4.2 _ _ _ HATD.out; have t41 : w4.cell? ⟨wr.heap.size, 2, none⟩ = some (.slice p1 m2 d2) := hT4.cell 2)
            | (go_at_call 15; go_must (refine (hP4.rarm HX.out.2.2.1 HR0.out).mono ?_); rintro e w5 ⟨rfl, G5, hP5, hK5⟩; have hT5 := hK5.2 _ _ _ hT4; have t51 : w5.cell? ⟨wr.heap.size, 2, none⟩ = some (.slice p1 m2 d2) := hT5.cell 2))
          have hLE : LogS w0' g r (.pointer none) (.pointer none) d' w5 := ⟨H31.out, .inl ⟨rfl, rfl, _, _, hP5⟩⟩
          have HSA := Lib.hid (fun w' (e : Below w5.heap.size w5 w') => (hLE.ext e).same)
          have hB0 : Below w5.heap.size w5 w5 := Below.refl _ _
          have hB0d : Below w5.heap.size w5 w5.drew := Below.drew (Below.refl _ _)
          go_wp2_with (go_at_call 21; go_must (first | refine (HSA.out _ hB0).mono ?_ | refine (HSA.out _ hB0d).mono ?_); rintro e w9 ⟨rfl, hB9⟩)
          have hB9' : Below w5.heap.size w5 w9 := by first | exact hB9 | exact hB0d.trans hB9
          exact ⟨⟨(j : Int) + 1, by omega, by omega, by go_num, _, hLE.ext hB9'⟩, by first | (simp [intOf]; done) | (simp [intOf]; omega)⟩
        · have hAT : ∀ A t, At5 (Pl F0 q) (Pl G0 p0) (wr.alloc (.cells A t)) wr.heap.size A t := fun A t => by
            obtain ⟨_, _, _, _, _, _, _, _, _, _, _, hP, hR, -⟩ := id hQ
            exact ⟨by simp, fun e => Nat.lt_irrefl _ (hP.lt _ e), fun e => Nat.lt_irrefl _ (hR.lt _ e), heap_alloc_eq _ _ _ rfl⟩
          have HAT := Lib.hid hAT
          clear hAT
          have HQA := Lib.hid (fun o => hQ.alloc o)
          have HFT := Lib.hid hgl.fits
          obtain ⟨z, d', hr0⟩ : ∃ z d', Disk.arm d fs = (z, d') := ⟨_, _, rfl⟩
          have HR0 := Lib.hid hr0
          have H31 := Lib.hid (show d'.st.length = 30 from by have := Disk.arm_len d fs; rw [hr0] at this; exact this.trans H30.out)
          clear hr0
          have hATd : At5 (Pl F0 q) (Pl G0 p0) (wr.alloc (.cells #[.int .i64 2, .slice p m1 d1, .slice p1 m2 d2, .slice p2 m3 d3] 41)).drew wr.heap.size #[.int .i64 2, .slice p m1 d1, .slice p1 m2 d2, .slice p2 m3 d3] 41 := HAT.out _ _
          have q0 : (wr.alloc (.cells #[.int .i64 2, .slice p m1 d1, .slice p1 m2 d2, .slice p2 m3 d3] 41)).drew.cell? ⟨wr.heap.size, 2, none⟩ = some (.slice p1 m2 d2) := hATd.cell 2
          have HATD := Lib.hid hATd
          clear hATd
          go_wp2_with fail
          go_region_held3 (fun w' => w'.cell? ⟨wr.heap.size, 2, none⟩ = some (.slice p1 m2 d2)) (first | exact q0 | exact t41 | exact t51) (first
            | (go_at_call 14; go_must (refine ((HQA.out _).drew.arm HX.out.2.2.1 HR0.out).mono ?_); rintro e w4 ⟨rfl, F4, hP4, hK4⟩; have hT4 := hK4.2 _ _ _ HATD.out; have t41 : w4.cell? ⟨wr.heap.size, 2, none⟩ = some (.slice p1 m2 d2) := hT4.cell 2)
            | (go_at_call 15; go_must (refine (hP4.rarm HX.out.2.2.1 HR0.out).mono ?_); rintro e w5 ⟨rfl, G5, hP5, hK5⟩; have hT5 := hK5.2 _ _ _ hT4; have t51 : w5.cell? ⟨wr.heap.size, 2, none⟩ = some (.slice p1 m2 d2) := hT5.cell 2))
          have hLE : LogS w0' g r (.pointer (some ⟨q, 0, none⟩)) (.pointer (some ⟨p0, 0, none⟩)) d' w5 := ⟨H31.out, .inr ⟨_, _, _, _, _, rfl, rfl, hgl, hP5⟩⟩
          have HSA := Lib.hid (fun w' (e : Below w5.heap.size w5 w') => (hLE.ext e).same)
          have hB0 : Below w5.heap.size w5 w5 := Below.refl _ _
          have hB0d : Below w5.heap.size w5 w5.drew := Below.drew (Below.refl _ _)
          go_wp2_with (go_at_call 21; go_must (first | refine (HSA.out _ hB0).mono ?_ | refine (HSA.out _ hB0d).mono ?_); rintro e w9 ⟨rfl, hB9⟩)
          have hB9' : Below w5.heap.size w5 w9 := by first | exact hB9 | exact hB0d.trans hB9
          exact ⟨⟨(j : Int) + 1, by omega, by omega, by go_num, _, hLE.ext hB9'⟩, by first | (simp [intOf]; done) | (simp [intOf]; omega)⟩
      by_cases k3 : kind = 3
      · subst k3
        clear k0 k1 k2 hL
        obtain ⟨lo, ps, z, d', hr0⟩ : ∃ lo ps z d', Wal.open d fst cnt ep = (lo, ps, z, d') := ⟨_, _, _, _, rfl⟩
        have HR0 := Lib.hid hr0
        clear hr0
        go_wp2_with (first
          | (go_at_call 18; go_must (refine ((HPA.out _).wopen fst cnt HB.out.1 HB.out.2.1 ep HB.out.2.2 (by have := H30.out; omega) HR0.out).mono ?_); rintro e w3 ⟨lv3, v3, F3, rfl, hO3, hM3, hG3, hK3⟩; have z0 := (hM3.1.below.cell (p := ⟨w.heap.size, 0, none⟩) hBlt).trans HE.out.1; have z1 := (hM3.1.below.cell (p := ⟨w.heap.size, 1, none⟩) hBlt).trans HE.out.2)
          | (go_at_call 19; go_must (refine (hM3.ropen fst cnt HB.out.1 HB.out.2.1 ep HB.out.2.2 H30.out HR0.out hG3 hO3).mono ?_); rintro e w4 ⟨mv4, u4, rfl, hO5, hO4, hL4⟩; obtain ⟨a3, c3, rfl, hs3⟩ := hO5.sl; obtain ⟨a4, c4, rfl, hs4⟩ := hO4.sl)
          | (go_at_call 20; go_must (refine (keep_lists _ _ _ _ _ _ _ _ _ hs3 hs4).mono ?_); rintro e w5 ⟨rfl, hb5⟩; rw [show (ps == ps) = true by simp]; have hL5 := hL4.ext hb5)
          | (go_at_call 21; go_must (refine hL5.same.mono ?_); rintro e w9 ⟨rfl, hB9⟩))
        exact ⟨⟨(j : Int) + 1, by omega, by omega, by go_num, _, hL5.ext hB9⟩, by first | (simp [intOf]; done) | (simp [intOf]; omega)⟩
      have hd0 : (kind == 0) = false := by simpa using k0
      have hd1 : (kind == 1) = false := by simpa using k1
      have hd2 : (kind == 2) = false := by simpa using k2
      have hd3 : (kind != 3) = true := by simpa using k3
      clear k0 k1 k2 k3 hL
      have hAT : ∀ A t, At5 F G (wr.alloc (.cells A t)) wr.heap.size A t := fun A t => by
        obtain ⟨_, _, _, _, _, _, _, _, _, _, _, hP, hR, -⟩ := id hPr
        exact ⟨by simp, fun e => Nat.lt_irrefl _ (hP.lt _ e), fun e => Nat.lt_irrefl _ (hR.lt _ e), heap_alloc_eq _ _ _ rfl⟩
      have HAT := Lib.hid hAT
      clear hAT
      obtain ⟨d0, hr1⟩ : ∃ d0, Disk.restart d ks = d0 := ⟨_, rfl⟩
      have HR1 := Lib.hid hr1
      replace H30 := Lib.hid (show d0.st.length = 30 from by have := Disk.restart_len d ks; rw [hr1] at this; exact this.trans H30.out)
      clear hr1
      go_wp2_with (first
        | (go_at_call 16; go_must (refine ((HPA.out _).srestart HX.out.2.2.2 HR1.out).mono ?_); rintro e y3 ⟨rfl, hQ3, hJ3⟩; have hT3 := hJ3.2 _ _ _ (HAT.out _ _); have t1 : y3.cell? ⟨wr.heap.size, 3, none⟩ = some (.slice p2 m3 d3) := hT3.cell 3)
        | (go_at_call 17; go_must (refine (hQ3.rrestart HX.out.2.2.2 HR1.out).mono ?_); rintro e y4 ⟨rfl, G4, hQ4, hJ4⟩; have z2 := (hQ4.below.cell (p := ⟨w.heap.size, 0, none⟩) hBlt).trans HE.out.1; have z3 := (hQ4.below.cell (p := ⟨w.heap.size, 1, none⟩) hBlt).trans HE.out.2))
      obtain ⟨lo, ps, z, d', hr0⟩ : ∃ lo ps z d', Wal.open d0 fst cnt ep = (lo, ps, z, d') := ⟨_, _, _, _, rfl⟩
      have HR0 := Lib.hid hr0
      clear hr0
      go_wp2_with (first
        | (go_at_call 18; go_must (refine (hQ4.wopen fst cnt HB.out.1 HB.out.2.1 ep HB.out.2.2 (by have := H30.out; omega) HR0.out).mono ?_); rintro e w3 ⟨lv3, v3, F3, rfl, hO3, hM3, hG3, hK3⟩; have z0 := (hM3.1.below.cell (p := ⟨w.heap.size, 0, none⟩) hBlt).trans HE.out.1; have z1 := (hM3.1.below.cell (p := ⟨w.heap.size, 1, none⟩) hBlt).trans HE.out.2)
        | (go_at_call 19; go_must (refine (hM3.ropen fst cnt HB.out.1 HB.out.2.1 ep HB.out.2.2 H30.out HR0.out hG3 hO3).mono ?_); rintro e w4 ⟨mv4, u4, rfl, hO5, hO4, hL4⟩; obtain ⟨a3, c3, rfl, hs3⟩ := hO5.sl; obtain ⟨a4, c4, rfl, hs4⟩ := hO4.sl)
        | (go_at_call 20; go_must (refine (keep_lists _ _ _ _ _ _ _ _ _ hs3 hs4).mono ?_); rintro e w5 ⟨rfl, hb5⟩; rw [show (ps == ps) = true by simp]; have hL5 := hL4.ext hb5)
        | (go_at_call 21; go_must (refine hL5.same.mono ?_); rintro e w9 ⟨rfl, hB9⟩))
      exact ⟨⟨(j : Int) + 1, by omega, by omega, by go_num, _, hL5.ext hB9⟩, by first | (simp [intOf]; done) | (simp [intOf]; omega)⟩
    · obtain rfl : j = n := by omega
      have hB := hPr.below
      have HOF1 := Lib.hid hPr.soff
      have HOF2 := Lib.hid hPr.roff
      have HDI1 := Lib.hid hPr.sdirty
      have HDI2 := Lib.hid (fun w' (e : Below wr.heap.size wr w') => (hPr.ext e).1.rdirty)
      have HI1 := Lib.hid (fun w' (e : Below wr.heap.size wr w') => (hPr.ext e).1.simage)
      have HI2 := Lib.hid (fun w' (e : Below wr.heap.size wr w') => (hPr.ext e).1.rimage)
      obtain ⟨fl, hfl⟩ : ∃ fl, d.st.flatten = fl := ⟨_, rfl⟩
      rw [hfl] at HI1 HI2
      obtain ⟨ob, hob⟩ : ∃ ob, d.off = ob := ⟨_, rfl⟩
      rw [hob] at HOF1 HOF2
      obtain ⟨dd, hdd⟩ : ∃ dd, Disk.dirty d = dd := ⟨_, rfl⟩
      rw [hdd] at HDI1 HDI2
      clear h hfl hob hdd hL
      go_wp2_with (first
        | (go_at_call 22; go_must (refine HOF1.out.mono ?_); rintro e y5 ⟨rfl, rfl⟩)
        | (go_at_call 23; go_must (refine HOF2.out.mono ?_); rintro e y5 ⟨rfl, rfl⟩)
        | (go_at_call 25; go_must (refine HDI1.out.mono ?_); rintro e y7 ⟨v7, rfl, hO7, hb7⟩)
        | (go_at_call 26; go_must (refine (HDI2.out _ hb7).mono ?_); rintro e y8 ⟨v8, rfl, hO8, hb8⟩; obtain ⟨a7, c7, rfl, hs7⟩ := (hO7.ext hb8).sl; obtain ⟨a8, c8, rfl, hs8⟩ := hO8.sl)
        | (go_at_call 24; go_must (refine (keep_ints _ _ _ _ _ _ _ _ _ hs7 hs8).mono ?_); rintro e y9 ⟨rfl, hb9⟩; rw [show (dd == dd) = true by simp]; have hb89 := hb7.trans ((hb8.trans (hb9.mono hb8.size)).mono hb7.size))
        | (go_at_call 27; go_must (refine (HI1.out _ hb89).mono ?_); rintro e w5 ⟨v5, rfl, hO5, hB5⟩; have hb5 := hb89.trans (hB5.mono hb89.size))
        | (go_at_call 28; go_must (refine (HI2.out _ hb5).mono ?_); rintro e w6 ⟨v6, rfl, hO6, hB6⟩; have hb6 := hb5.trans (hB6.mono hb5.size); obtain ⟨a5, c5, rfl, hs5, -⟩ := (hO5.ext hB6).sl; obtain ⟨a6, c6, rfl, hs6, -⟩ := hO6.sl)
        | (go_at_call 11; go_must (refine (keep_bytes _ _ _ _ _ _ _ _ _ hs5 hs6).mono ?_); rintro e w7 ⟨rfl, rfl⟩; rw [show (fl == fl) = true by simp])
        | (go_at_call 5; go_must (refine (HA.out _).mono ?_); rintro e w8 ⟨rfl, hB8⟩))
      go_ret
      have hA8 := hb6.trans (hB8.mono hb6.size)
      have hA9 := hB.trans (hA8.mono hB.size)
      exact ⟨rfl, hE.trans (hA9.mono hE.size)⟩

end Go.Proofs.YtabeelcidlhniaaGreat

/-
  How an argument of type api.Extent is opened.
-/
namespace Go.Proofs.YtabeelcidlhniaaGreat
open Go.RowKit

section
open Go.ChangeShapes Go.WideShapes Go.ChangeAt
variable {H : Type} {enc : TypeId × Value → H} {P : Program} {w : World} {base : Nat} {spare : Nat → Bool} {held : Bool}
theorem fieldI {fs : Array Field} {xs : List (DataW H × List MemPlace)} {cs : List Value} {n : Nat} (hg : ∀ (i : Nat) (f : Field), fs[i]? = some f → DataW.trod enc P w base spare held n f.type ((cs.drop f.offset).take (P.cellsOf f.type)) = xs[i]?)
    (hl : xs.length = fs.size) (i : Nat) (f : Field) (hf : fs[i]? = some f) (k : IntKind) (hu : P.underlying f.type = some (.int k)) (o : Nat) (ho : f.offset = o) (hk : P.cellsOf f.type = 1) : ∃ m, cs[o]? = some (.int k m) ∧ (Lit.int k m).wf = true := by
  have hi : i < fs.size := (Array.getElem?_eq_some_iff.1 hf).1
  have h := hg i f hf
  rw [List.getElem?_eq_getElem (by omega)] at h
  obtain ⟨m, h1, _, h3⟩ := DataW.trod_int hu h
  rw [ho, hk] at h1
  refine ⟨m, ?_, h3⟩
  have := congrArg (fun l : List Value => l[0]?) h1
  simpa using this

set_option maxRecDepth 100000 in
theorem open_ext {r : Reach} {b0 : Nat} {v : Value} {d : DataW H} {p : List MemPlace} (hv : Value.okWide Tryz.prog w r b0 23 v) (h : DataW.Trod enc Tryz.prog w base spare held 23 v d p) :
    ∃ f c : Int, v = .agg #[.int .i64 f, .int .i64 c] ∧ (Lit.int .i64 f).wf = true ∧ (Lit.int .i64 c).wf = true := by
  obtain ⟨cs, rfl, hsz⟩ := okWide_struct Tryz.underlying23 hv
  obtain ⟨fuel, hf⟩ := h
  obtain ⟨xs, n, _, hx, hcl, hlen, hg⟩ := DataW.trod_struct Tryz.underlying23 hf
  have h2 : cs.size = 2 := hsz.trans (by kernel_rfl)
  obtain ⟨l⟩ := cs
  match l, h2 with
  | [c0, c1], _ =>
    obtain ⟨m0, e0, w0⟩ := fieldI hg hlen 0 _ rfl .i64 (by kernel_rfl) 0 rfl (by kernel_rfl)
    obtain ⟨m1, e1, w1⟩ := fieldI hg hlen 1 _ rfl .i64 (by kernel_rfl) 1 rfl (by kernel_rfl)
    have f0 : c0 = .int .i64 m0 := Option.some.inj e0
    have f1 : c1 = .int .i64 m1 := Option.some.inj e1
    subst f0; subst f1
    exact ⟨m0, m1, rfl, w0, w1⟩
end

theorem walm_row (fst cnt ep : Int) (a : Option Addr) (n c : Nat) (l : List O8) (w : World) (h0 : (Lit.int .i64 fst).wf = true) (h1 : (Lit.int .i64 cnt).wf = true) (h2 : (Lit.int .u32 ep).wf = true) (h : SlO8 w a n c l) :
    Calls Tryz.prog 3 #[.agg #[.int .i64 fst, .int .i64 cnt], .int .u32 ep, .slice a n c] w fun e w' => e = .returned (.bool true) ∧ Below w.heap.size w w' := by
  simp [Lit.wf, IntKind.min, IntKind.max, IntKind.signed, IntKind.bits] at h2
  obtain ⟨ep, rfl⟩ := Int.eq_ofNat_of_zero_le (show 0 ≤ ep by omega)
  exact walm_law fst cnt ep (i64b_of h0) (i64b_of h1) (by omega) a n c l w h

end Go.Proofs.YtabeelcidlhniaaGreat
