import Derived.Test.YtmanejniepghlaaGreatDoorRun27
import Derived.Test.YtmanejniepghlaaGreatDoorRun30
import Derived.Test.YtmanejniepghlaaGreatDoorRun26
namespace Go.Proofs.YtmanejniepghlaaGreatDoor
section
open Go.RowKit
variable {z:Int}
section
variable {F:Nat->Prop} {w:World} {g s m:Nat} {fa:Option Addr} {fn fc:Nat} {d d':Dd.Dk}
theorem Zi (h:PD F w g s m fa fn fc d) (f c off len:Int) (j:ib f) (i:ib c) (ho:ib off) (k:ib len) {b:List UInt8} (hr:Ex.read d f c off len=(b,z,d')) :
 Calls Tryz.prog 127 #[.pointer g,.agg #[f,c],off,len] w fun e a=>∃ v,e=.returned (.tuple #[v,z])/\AC w.heap.size a v b/\PD F a g s m fa fn fc d'/\AD F w F a:=by
 have:=Io h f c off len j i ho k
 unfold GL at this;rw [hr] at this;exact this
theorem Yk (h:PD F w g s m fa fn fc d) (f c off:Int) (k:ib f) (j:ib c) (ho:ib off) {a:Option Addr} {n ca:Nat} {x:List UInt8} (l:AM w a n ca x) (hF:∀ y,a=some y->x ≠ []->¬ F y.block) (hr:Ex.write d f c off x=(z,d')) :
 Calls Tryz.prog 108 #[.pointer g,.agg #[f,c],off,.slice a n ca] w fun e i=>e=.returned (z:Value)/\∃ b,PD b i g s m fa fn fc d'/\AD F w b i:=by
 have:=Du h f c off k j ho a n ca x l hF
 unfold FJ at this;rw [hr] at this;exact this
end
end
section
variable {d:Dd.Dk} {e first n off:Nat}
namespace Ex
open Dd (Dk)
def rows (d:Dk):List (List UInt8):=(List.range d.st.length).map (Dd.content d)
def V (d:Dk):List UInt8:=(rows d).flatten
structure VP (n:Nat) (d:Dk):Prop where
 ok:d.Ok
 len:d.st.length=n
 on:d.off=false
 fs:d.fs=[]
end Ex
end
end Go.Proofs.YtmanejniepghlaaGreatDoor
