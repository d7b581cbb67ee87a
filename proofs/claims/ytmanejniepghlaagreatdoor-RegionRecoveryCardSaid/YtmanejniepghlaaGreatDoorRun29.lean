import Derived.Test.YtmanejniepghlaaGreatDoorRun28
import Derived.Test.YtmanejniepghlaaGreatDoorRun27
import Derived.Shelf.SlIterI.Nil
import Derived.Shelf.SlIterI.Sorted
import Derived.Shelf.SortM.Plain
import Derived.Shelf.SortM.SortNone
namespace Go.Proofs.YtmanejniepghlaaGreatDoor
section
open Go.RowKit
variable {z:Int}
section
variable {F:Nat->Prop} {w:World} {g s m:Nat} {fa:Option Addr} {fn fc:Nat} {d d':Disk.Dk}
theorem zd_v (h:PD F w g s m fa fn fc d) (f c off len:Int) (hf:ib f) (hc:ib c) (ho:ib off) (hl:ib len) {b:List UInt8} (hr:Extent.read d f c off len=(b,z,d')) :
 Calls Tryz.prog 127 #[.pointer g,.agg #[f,c],off,len] w fun e w'=>∃ v,e=.returned (.tuple #[v,z])/\OwnB w.heap.size w' v b/\PD F w' g s m fa fn fc d'/\Upd F w F w':=by
 have:=zr_s h f c off len hf hc ho hl
 unfold ExReadPost at this;rw [hr] at this;exact this
theorem zc_x (h:PD F w g s m fa fn fc d) (f c off:Int) (hf:ib f) (hc:ib c) (ho:ib off) {a:Option Addr} {n ca:Nat} {x:List UInt8} (hx:SlB w a n ca x) (hF:∀ y,a=some y->x ≠ []->¬ F y.block) (hr:Extent.write d f c off x=(z,d')) :
 Calls Tryz.prog 108 #[.pointer g,.agg #[f,c],off,.slice a n ca] w fun e w'=>e=.returned (z:Value)/\∃ F',PD F' w' g s m fa fn fc d'/\Upd F w F' w':=by
 have:=zp_o h f c off hf hc ho a n ca x hx hF
 unfold ExWritePost at this;rw [hr] at this;exact this
end
end
section
variable {d:Disk.Dk} {e first n off:Nat}
namespace Extent
open Disk (Dk)
def rows (d:Dk):List (List UInt8):=(List.range d.st.length).map (Disk.content d)
def V (d:Dk):List UInt8:=(rows d).flatten
structure Quiet (n:Nat) (d:Dk):Prop where
 ok:d.Ok
 len:d.st.length=n
 on:d.off=false
 fs:d.fs=[]
end Extent
end
end Go.Proofs.YtmanejniepghlaaGreatDoor
