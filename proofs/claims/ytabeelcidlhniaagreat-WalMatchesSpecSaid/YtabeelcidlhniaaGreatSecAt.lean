/-
  The contracts of the package sector at operations whose result is known; block and awake of the statements on sectors.
-/
import Derived.Test.YtabeelcidlhniaaGreatRun8
import Derived.Test.YtabeelcidlhniaaGreatKeep
namespace Go.Proofs.YtabeelcidlhniaaGreat
open Go.RowKit

section
variable {F : Nat → Prop} {w : World} {g s m : Nat} {fa : Option Addr} {fn fc : Nat} {d d' : Disk.Dk}

theorem sd_write_at (h : PD F w g s m fa fn fc d) (i : Int) {a : Option Addr} {n c : Nat} {x : List UInt8} (hx : SlB w a n c x) (hF : ∀ y, a = some y → x ≠ [] → ¬ F y.block) {z : Int} (hr : Disk.write d i x = (z, d')) :
    Calls Tryz.prog 69 #[.pointer (some ⟨g, 0, none⟩), .int .i64 i, .slice a n c] w fun e w' => e = .returned (.int .i64 z) ∧ ∃ F', PD F' w' g s m fa fn fc d' ∧ Upd F w F' w' := by
  have := sd_write h i a n c x hx hF
  unfold WritePost at this; rw [hr] at this; exact this
theorem sd_read_at (h : PD F w g s m fa fn fc d) (i : Int) {b : List UInt8} {z : Int} (hr : Disk.read d i = (b, z, d')) :
    Calls Tryz.prog 68 #[.pointer (some ⟨g, 0, none⟩), .int .i64 i] w fun e w' => ∃ v, e = .returned (.tuple #[v, .int .i64 z]) ∧ OwnB w.heap.size w' v b ∧ PD F w' g s m fa fn fc d' ∧ Upd F w F w' := by
  have := sd_read h i
  unfold ReadPost at this; rw [hr] at this; exact this
theorem sd_sync_at (h : PD F w g s m fa fn fc d) {z : Int} (hr : Disk.sync d = (z, d')) :
    Calls Tryz.prog 41 #[.pointer (some ⟨g, 0, none⟩)] w fun e w' => e = .returned (.int .i64 z) ∧ PD F w' g s m fa fn fc d' ∧ Upd F w F w' := by
  have := sd_sync h
  rw [hr] at this; exact this
theorem sd_arm_at (h : PD F w g s m fa fn fc d) {a : Option Addr} {n c : Nat} {l : List (Int × Int)} (hl : SlP w a n c l) {z : Int} (hr : Disk.arm d l = (z, d')) :
    Calls Tryz.prog 14 #[.pointer (some ⟨g, 0, none⟩), .slice a n c] w fun e w' => e = .returned (.int .i64 z) ∧ ∃ F' fa fn fc, PD F' w' g s m fa fn fc d' ∧ Upd F w F' w' := by
  have := sd_arm h a n c l hl
  unfold ArmPost at this; rw [hr] at this; exact this
theorem sd_restart_at (h : PD F w g s m fa fn fc d) {a : Option Addr} {n c : Nat} {ks : List (Int × Int)} (hk : SlP w a n c ks) (hF : ∀ y, a = some y → ks ≠ [] → ¬ F y.block) (hr : Disk.restart d ks = d') :
    Calls Tryz.prog 16 #[.pointer (some ⟨g, 0, none⟩), .slice a n c] w fun e w' => e = .returned (.tuple #[]) ∧ PD F w' g s m none 0 0 d' ∧ Upd F w F w' := by
  have := sd_restart h a n c ks hk hF
  rw [hr] at this; exact this
end

theorem SlP.one (w : World) (z y : Int) (t : TypeId) : SlP (w.alloc (.cells #[.int .i64 z, .int .i64 y] t)) (some ⟨w.heap.size, 0, none⟩) 1 1 [(z, y)] := by
  refine ⟨rfl, Nat.le_refl _, by unfold maxLen; omega, (fun h => by cases h), fun x hx i hi => ?_⟩
  cases hx
  refine ⟨rfl, by simp, ?_, ?_⟩
  · obtain rfl : i = 0 := by simpa using hi
    rw [World.cell?_alloc_at _ _ _ _ rfl]; rfl
  · obtain rfl : i = 0 := by simpa using hi
    rw [World.cell?_alloc_at _ _ _ _ rfl]; rfl


theorem aw5_facts : ∃ d1 d2 d3 d4 d5 d6 d7 b, Disk.write (Disk.new 2) 0 (List.replicate 64 1) = (0, d1) ∧ Disk.sync d1 = (0, d2) ∧ Disk.write d2 0 (List.replicate 64 2) = (0, d3) ∧ Disk.restart d3 [(0, 10)] = d4 ∧ Disk.read d4 0 = (b, 0, d5) ∧
    b.length = 64 ∧ b[9]?.getD 0 = 2 ∧ b[10]?.getD 0 = 1 ∧ Disk.arm d5 [(0, 1)] = (0, d6) ∧ Disk.sync d6 = (9, d7) := by
  refine ⟨_, _, _, _, _, _, _, _, Prod.ext (?_ : _ = (0 : Int)) rfl, Prod.ext (?_ : _ = (0 : Int)) rfl, Prod.ext (?_ : _ = (0 : Int)) rfl, rfl, Prod.ext rfl (Prod.ext (?_ : _ = (0 : Int)) rfl), ?_, ?_, ?_, Prod.ext (?_ : _ = (0 : Int)) rfl, Prod.ext (?_ : _ = (9 : Int)) rfl⟩ <;> decide +kernel


end Go.Proofs.YtabeelcidlhniaaGreat
