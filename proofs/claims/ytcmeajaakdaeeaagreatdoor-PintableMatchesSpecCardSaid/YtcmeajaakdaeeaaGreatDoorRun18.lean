/-
  A function value compared with nil.
-/
import Derived.Test.YtcmeajaakdaeeaaGreatDoorRun1
import Derived.Lib.BufferMore
namespace Go.Proofs.YtcmeajaakdaeeaaGreatDoor
open Go.RowKit Go.Lib Op

theorem run_eql_func_nil {P : Program} (w : World) {t : TypeId} {ps rs : Array TypeId} {vd : Bool} (ht : P.underlying t = some (.func ps rs vd)) (f : Fn) (fi ca : Array Value) :
    (binOp .eql t (.func f fi ca) .nilFunc).run P w = .ok (.bool false) w := by
  have h : ∀ d : Nat, (Op.equalIn (d + 1) t (.func f fi ca) .nilFunc).run P w = .ok false w := fun d => by
    simp [Op.equalIn, run_underlying ht]
  simp only [binOp]
  simp [Op.equal, Op.maxDepth, h 9999]

end Go.Proofs.YtcmeajaakdaeeaaGreatDoor
