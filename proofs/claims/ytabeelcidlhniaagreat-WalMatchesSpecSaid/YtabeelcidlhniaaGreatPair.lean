/-
  Two disks in memory, the program's and the reference's, that are one plain disk each: what each operation does to the pair.
-/
import Derived.Test.YtabeelcidlhniaaGreatRDisk7
import Derived.Test.YtabeelcidlhniaaGreatDirty
import Derived.Test.YtabeelcidlhniaaGreatKeepI
namespace Go.Proofs.YtabeelcidlhniaaGreat
open Go.RowKit

/-- The program's disk d and the reference's disk e, apart, both made behind W. -/
def Pr (W : World) (F G : Nat → Prop) (g r : Nat) (d e : Disk.Dk) (w : World) : Prop :=
  ∃ s m fa fn fc sb cb sc ga gn gc, PD F w g s m fa fn fc d ∧ RD G w r sb cb sc ga gn gc e ∧ (∀ k, F k → ¬ G k) ∧ (∀ k, F k → W.heap.size ≤ k) ∧ (∀ k, G k → W.heap.size ≤ k) ∧ Below W.heap.size W w
/-- A slice of bytes that was made behind W and is no part of the disks. -/
def Val (W : World) (F G : Nat → Prop) (w : World) (v : Value) (l : List UInt8) : Prop := OwnB W.heap.size w v l ∧ ∀ k, v.ownBlock = some k → ¬ F k ∧ ¬ G k
/-- Block b holds these cells and is no part of the disks. -/
def At5 (F G : Nat → Prop) (w : World) (b : Nat) (A : Array Value) (t : TypeId) : Prop := b < w.heap.size ∧ ¬ F b ∧ ¬ G b ∧ w.heap[b]? = some (.cells A t (0, 0))
theorem At5.cell {F G : Nat → Prop} {w : World} {b : Nat} {A : Array Value} {t : TypeId} (h : At5 F G w b A t) (k : Nat) : w.cell? ⟨b, k, none⟩ = A[k]? := cell_of_row _ _ _ _ _ _ h.2.2.2
/-- What was apart from the disks is kept, and apart. -/
def K2 (W : World) (F G : Nat → Prop) (w : World) (F' G' : Nat → Prop) (w' : World) : Prop := (∀ v l, Val W F G w v l → Val W F' G' w' v l) ∧ ∀ b A t, At5 F G w b A t → At5 F' G' w' b A t

section
variable {W : World} {F G F' G' : Nat → Prop} {g r : Nat} {d e d' e' : Disk.Dk} {w w' : World}

theorem Pr.below (h : Pr W F G g r d e w) : Below W.heap.size W w := by
  obtain ⟨s, m, fa, fn, fc, sb, cb, sc, ga, gn, gc, hP, hR, hd, hF, hG, hB⟩ := h; exact hB
theorem Pr.stepL (h : Pr W F G g r d e w) {s m : Nat} {fa : Option Addr} {fn fc : Nat} (hP' : PD F' w' g s m fa fn fc d') (hU : Upd F w F' w') : Pr W F' G g r d' e w' ∧ K2 W F G w F' G w' := by
  obtain ⟨_, _, _, _, _, sb, cb, sc, ga, gn, gc, hP, hR, hd, hF, hG, hB⟩ := h
  refine ⟨⟨s, m, fa, fn, fc, sb, cb, sc, ga, gn, gc, hP', hR.apart hU hd, hU.apart hd hR.lt, hU.lo hF hB.size, hG, hU.below hB hF hB.size⟩, ⟨fun v l hv => ⟨hv.1.upd hU (fun k hk => (hv.2 k hk).1), fun k hk => ⟨fun e => ?_, (hv.2 k hk).2⟩⟩, fun b A t ha => ⟨Nat.lt_of_lt_of_le ha.1 hU.size, fun e => ?_, ha.2.2.1, (hU.block b ha.1 ha.2.1).trans ha.2.2.2⟩⟩⟩
  · rcases hU.new k e with e | e
    · exact (hv.2 k hk).1 e
    · have := (hv.1.lt k hk).2; omega
  · rcases hU.new b e with e | e
    · exact ha.2.1 e
    · have := ha.1; omega
theorem Pr.stepR (h : Pr W F G g r d e w) {sb cb sc : Nat} {ga : Option Addr} {gn gc : Nat} (hR' : RD G' w' r sb cb sc ga gn gc e') (hU : Upd G w G' w') : Pr W F G' g r d e' w' ∧ K2 W F G w F G' w' := by
  obtain ⟨s, m, fa, fn, fc, _, _, _, _, _, _, hP, hR, hd, hF, hG, hB⟩ := h
  refine ⟨⟨s, m, fa, fn, fc, sb, cb, sc, ga, gn, gc, hP.apart hU (fun b hb hf => hd b hf hb), hR', fun k hf hg => hU.apart (fun b hb hf => hd b hf hb) hP.lt k hg hf, hF, hU.lo hG hB.size, hU.below hB hG hB.size⟩, ⟨fun v l hv => ⟨hv.1.upd hU (fun k hk => (hv.2 k hk).2), fun k hk => ⟨(hv.2 k hk).1, fun e => ?_⟩⟩, fun b A t ha => ⟨Nat.lt_of_lt_of_le ha.1 hU.size, ha.2.1, fun e => ?_, (hU.block b ha.1 ha.2.2.1).trans ha.2.2.2⟩⟩⟩
  · rcases hU.new k e with e | e
    · exact (hv.2 k hk).2 e
    · have := (hv.1.lt k hk).2; omega
  · rcases hU.new b e with e | e
    · exact ha.2.2.1 e
    · have := ha.1; omega
theorem Pr.ext (h : Pr W F G g r d e w) (k : Below w.heap.size w w') : Pr W F G g r d e w' ∧ K2 W F G w F G w' := by
  obtain ⟨s, m, fa, fn, fc, sb, cb, sc, ga, gn, gc, hP, hR, hd, hF, hG, hB⟩ := h
  exact ⟨⟨s, m, fa, fn, fc, sb, cb, sc, ga, gn, gc, hP.ext k, hR.ext k, hd, hF, hG, hB.trans (k.mono hB.size)⟩, fun v l hv => ⟨hv.1.ext k, hv.2⟩, fun b A t ha => ⟨Nat.lt_of_lt_of_le ha.1 k.size, ha.2.1, ha.2.2.1, (k.block b ha.1).trans ha.2.2.2⟩⟩
theorem Pr.drew (h : Pr W F G g r d e w) : Pr W F G g r d e w.drew := (h.ext ((Below.refl _ _).drew)).1
theorem Pr.alloc (h : Pr W F G g r d e w) (o : Obj) : Pr W F G g r d e (w.alloc o) := (h.ext ((Below.refl _ _).alloc (Nat.le_refl _) o)).1
theorem Pr.fresh (h : Pr W F G g r d e w) {v : Value} {l : List UInt8} (hO : OwnB w.heap.size w' v l) : OwnB W.heap.size w' v l ∧ ∀ k, v.ownBlock = some k → ¬ F k ∧ ¬ G k := by
  obtain ⟨s, m, fa, fn, fc, sb, cb, sc, ga, gn, gc, hP, hR, hd, hF, hG, hB⟩ := h
  refine ⟨hO.mono hB.size, fun k hk => ?_⟩
  have := (hO.lt k hk).1
  exact ⟨fun e => by have := hP.lt k e; omega, fun e => by have := hR.lt k e; omega⟩
theorem Val.sl {v : Value} {l : List UInt8} (h : Val W F G w v l) : ∃ a c, v = .slice a l.length c ∧ SlB w a l.length c l ∧ ∀ x, a = some x → ¬ F x.block ∧ ¬ G x.block := by
  obtain ⟨a, c, rfl, hs, -⟩ := h.1.sl
  exact ⟨a, c, rfl, hs, fun x hx => h.2 x.block (by rw [hx]; rfl)⟩

theorem Pr.own (h : Pr W F G g r d e w) {p : Option Addr} {n c : Nat} {x : List UInt8} (hs : SlB W p n c x) (hn : n ≤ 140737488355328) :
    Calls Tryz.prog 8 #[.slice p n c] w fun q w' => ∃ v, q = .returned v ∧ Val W F G w' v x ∧ Pr W F G g r d e w' ∧ K2 W F G w F G w' := by
  refine (keep_own p n c x w (hs.ext h.below) hn).mono ?_
  rintro q w1 ⟨v, rfl, hO, hB⟩
  exact ⟨v, rfl, h.fresh hO, h.ext hB⟩
theorem Pr.sread (h : Pr W F G g r d e w) (i : Int) {b : List UInt8} {z : Int} (hr : Disk.read d i = (b, z, d')) :
    Calls Tryz.prog 68 #[.pointer (some ⟨g, 0, none⟩), .int .i64 i] w fun q w' => ∃ v, q = .returned (.tuple #[v, .int .i64 z]) ∧ Val W F G w' v b ∧ Pr W F G g r d' e w' ∧ K2 W F G w F G w' := by
  obtain ⟨s, m, fa, fn, fc, sb, cb, sc, ga, gn, gc, hP, hR, hd, hF, hG, hB⟩ := id h
  refine (sd_read_at hP i hr).mono ?_
  rintro q w1 ⟨v, rfl, hO, hP', hU⟩
  exact ⟨v, rfl, h.fresh hO, h.stepL hP' hU⟩
theorem Pr.rread (h : Pr W F G g r d e w) (i : Int) {b : List UInt8} {z : Int} (hr : Disk.read e i = (b, z, e')) :
    Calls Tryz.prog 73 #[.pointer (some ⟨r, 0, none⟩), .int .i64 i] w fun q w' => ∃ v, q = .returned (.tuple #[v, .int .i64 z]) ∧ Val W F G w' v b ∧ Pr W F G g r d e' w' ∧ K2 W F G w F G w' := by
  obtain ⟨s, m, fa, fn, fc, sb, cb, sc, ga, gn, gc, hP, hR, hd, hF, hG, hB⟩ := id h
  have := rd_read hR i
  unfold RReadPost at this; rw [hr] at this
  refine this.mono ?_
  rintro q w1 ⟨v, rfl, hO, hR', hU⟩
  exact ⟨v, rfl, h.fresh hO, h.stepR hR' hU⟩
theorem Pr.swrite (h : Pr W F G g r d e w) (i : Int) {v : Value} {x : List UInt8} (hv : Val W F G w v x) {z : Int} (hr : Disk.write d i x = (z, d')) :
    Calls Tryz.prog 69 #[.pointer (some ⟨g, 0, none⟩), .int .i64 i, v] w fun q w' => q = .returned (.int .i64 z) ∧ ∃ F', Pr W F' G g r d' e w' ∧ K2 W F G w F' G w' := by
  obtain ⟨s, m, fa, fn, fc, sb, cb, sc, ga, gn, gc, hP, hR, hd, hF, hG, hB⟩ := id h
  obtain ⟨a, c, rfl, hs, hf⟩ := hv.sl
  refine (sd_write_at hP i hs (fun y hy _ => (hf y hy).1) hr).mono ?_
  rintro q w1 ⟨rfl, F', hP', hU⟩
  exact ⟨rfl, F', h.stepL hP' hU⟩
theorem Pr.rwrite (h : Pr W F G g r d e w) (i : Int) {p : Option Addr} {n c : Nat} {x : List UInt8} (hs : SlB W p n c x) {z : Int} (hr : Disk.write e i x = (z, e')) :
    Calls Tryz.prog 74 #[.pointer (some ⟨r, 0, none⟩), .int .i64 i, .slice p n c] w fun q w' => q = .returned (.int .i64 z) ∧ ∃ G', Pr W F G' g r d e' w' ∧ K2 W F G w F G' w' := by
  obtain ⟨s, m, fa, fn, fc, sb, cb, sc, ga, gn, gc, hP, hR, hd, hF, hG, hB⟩ := id h
  have := rd_write hR i p n c x (hs.ext hB) (fun y hy hne hg => by subst hy; have := hs.blt hne; have := hG _ hg; omega)
  unfold RWritePost at this; rw [hr] at this
  refine this.mono ?_
  rintro q w1 ⟨rfl, G', hR', hU⟩
  exact ⟨rfl, G', h.stepR hR' hU⟩
theorem Pr.ssync (h : Pr W F G g r d e w) {z : Int} (hr : Disk.sync d = (z, d')) :
    Calls Tryz.prog 41 #[.pointer (some ⟨g, 0, none⟩)] w fun q w' => q = .returned (.int .i64 z) ∧ Pr W F G g r d' e w' ∧ K2 W F G w F G w' := by
  obtain ⟨s, m, fa, fn, fc, sb, cb, sc, ga, gn, gc, hP, hR, hd, hF, hG, hB⟩ := id h
  refine (sd_sync_at hP hr).mono ?_
  rintro q w1 ⟨rfl, hP', hU⟩
  exact ⟨rfl, h.stepL hP' hU⟩
theorem Pr.rsync (h : Pr W F G g r d e w) {z : Int} (hr : Disk.sync e = (z, e')) :
    Calls Tryz.prog 42 #[.pointer (some ⟨r, 0, none⟩)] w fun q w' => q = .returned (.int .i64 z) ∧ Pr W F G g r d e' w' ∧ K2 W F G w F G w' := by
  obtain ⟨s, m, fa, fn, fc, sb, cb, sc, ga, gn, gc, hP, hR, hd, hF, hG, hB⟩ := id h
  have := rd_sync hR
  rw [hr] at this
  refine this.mono ?_
  rintro q w1 ⟨rfl, hR', hU⟩
  exact ⟨rfl, h.stepR hR' hU⟩
theorem Pr.sarm (h : Pr W F G g r d e w) {p : Option Addr} {n c : Nat} {l : List (Int × Int)} (hs : SlP W p n c l) {z : Int} (hr : Disk.arm d l = (z, d')) :
    Calls Tryz.prog 14 #[.pointer (some ⟨g, 0, none⟩), .slice p n c] w fun q w' => q = .returned (.int .i64 z) ∧ ∃ F', Pr W F' G g r d' e w' ∧ K2 W F G w F' G w' := by
  obtain ⟨s, m, fa, fn, fc, sb, cb, sc, ga, gn, gc, hP, hR, hd, hF, hG, hB⟩ := id h
  refine (sd_arm_at hP (hs.ext hB) hr).mono ?_
  rintro q w1 ⟨rfl, F', _, _, _, hP', hU⟩
  exact ⟨rfl, F', h.stepL hP' hU⟩
theorem Pr.rarm (h : Pr W F G g r d e w) {p : Option Addr} {n c : Nat} {l : List (Int × Int)} (hs : SlP W p n c l) {z : Int} (hr : Disk.arm e l = (z, e')) :
    Calls Tryz.prog 15 #[.pointer (some ⟨r, 0, none⟩), .slice p n c] w fun q w' => q = .returned (.int .i64 z) ∧ ∃ G', Pr W F G' g r d e' w' ∧ K2 W F G w F G' w' := by
  obtain ⟨s, m, fa, fn, fc, sb, cb, sc, ga, gn, gc, hP, hR, hd, hF, hG, hB⟩ := id h
  have := rd_arm hR p n c l (hs.ext hB)
  unfold RArmPost at this; rw [hr] at this
  refine this.mono ?_
  rintro q w1 ⟨rfl, G', _, _, _, hR', hU⟩
  exact ⟨rfl, G', h.stepR hR' hU⟩
theorem Pr.srestart (h : Pr W F G g r d e w) {p : Option Addr} {n c : Nat} {l : List (Int × Int)} (hs : SlP W p n c l) (hr : Disk.restart d l = d') :
    Calls Tryz.prog 16 #[.pointer (some ⟨g, 0, none⟩), .slice p n c] w fun q w' => q = .returned (.tuple #[]) ∧ Pr W F G g r d' e w' ∧ K2 W F G w F G w' := by
  obtain ⟨s, m, fa, fn, fc, sb, cb, sc, ga, gn, gc, hP, hR, hd, hF, hG, hB⟩ := id h
  refine (sd_restart_at hP (hs.ext hB) (fun y hy hne hg => by subst hy; have := hs.blt hne; have := hF _ hg; omega) hr).mono ?_
  rintro q w1 ⟨rfl, hP', hU⟩
  exact ⟨rfl, h.stepL hP' hU⟩
theorem Pr.rrestart (h : Pr W F G g r d e w) {p : Option Addr} {n c : Nat} {l : List (Int × Int)} (hs : SlP W p n c l) (hr : Disk.restart e l = e') :
    Calls Tryz.prog 17 #[.pointer (some ⟨r, 0, none⟩), .slice p n c] w fun q w' => q = .returned (.tuple #[]) ∧ ∃ G', Pr W F G' g r d e' w' ∧ K2 W F G w F G' w' := by
  obtain ⟨s, m, fa, fn, fc, sb, cb, sc, ga, gn, gc, hP, hR, hd, hF, hG, hB⟩ := id h
  have := rd_restart hR p n c l (hs.ext hB) (fun y hy hne hg => by subst hy; have := hs.blt hne; have := hG _ hg; omega)
  unfold RRestartPost at this; rw [hr] at this
  refine this.mono ?_
  rintro q w1 ⟨rfl, G', _, hR', hU⟩
  exact ⟨rfl, G', h.stepR hR' hU⟩

end

end Go.Proofs.YtabeelcidlhniaaGreat
