import Derived.Test.YtmanejniepghlaaGreatDoorRun0
import Derived.OwnWalk
import Derived.Lib.SlBytesConst
import Derived.RangeFuncBox
import Derived.Shelf.Abstract
namespace Go.Proofs.YtmanejniepghlaaGreatDoor
open Go.RowKit
theorem ze_z (a:Option Addr) (n c:Nat) (l:List UInt8) (w:World) (h:SlB w a n c l) (hn:n<=140737488355328) :
 Calls Tryz.prog 75 #[.slice a n c] w fun e w'=>∃ v,e=.returned v/\OwnB w.heap.size w' v l/\Below w.heap.size w w':=by
 cases a with
|none =>
  obtain⟨rfl,rfl⟩:=h.2.2.2.1 rfl
  obtain rfl:n=0:=h.1.symm
  have hnil:=fun (w:World)=>Lib.run_eql_slice_nil (P:=Tryz.prog) w 70 5 none 0 0 0 0 Tryz.underlying70
  go_enter Tryz.func75,Tryz.ntmps75
  go_wp2
  go_ret
  exact⟨_,rfl,OwnB.nil _ _,Below.refl _ _⟩
|some ad =>
  have h2:SlB (w.alloc (.cells #[] 5)) (some ad) n c l:=h.ext ((Below.refl _ _).alloc (zN _) _)
  have hnil:=fun (w:World)=>Lib.run_eql_slice_nil (P:=Tryz.prog) w 70 5 (some ad) n c 0 0 Tryz.underlying70
  go_enter Tryz.func75,Tryz.ntmps75
  go_wp2_with (at_builtin;refine za_e rfl _ _ rfl w.heap.size _ [] rfl (OwnB.empty w (zN _)) (some ad) n c l rfl h2 (by simpa using hn) (by simp) ?_;intro v w1 hown hg _)
  go_ret
  exact⟨v,rfl,hown,((Below.refl _ _).alloc (zN _) _).grown hg (by simp) (fun k hk=>by cases hk;exact zN _)⟩
end Go.Proofs.YtmanejniepghlaaGreatDoor
