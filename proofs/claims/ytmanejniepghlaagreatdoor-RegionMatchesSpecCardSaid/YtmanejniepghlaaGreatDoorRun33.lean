import Derived.Test.YtmanejniepghlaaGreatDoorRun0
import Derived.Test.YtmanejniepghlaaGreatDoorRun1
import Derived.Deep.QuietTactic
import Derived.BigQuiet
namespace Go.Proofs.YtmanejniepghlaaGreatDoor
open Go.RowKit
theorem Jh (v:Nat) (f:v < 4294967296) (w:World):Calls Tryz.prog 146 #[.int .u32 v] w fun e c =>
 ∃ a,e=.returned (.slice (some a) 4 4)/\AM c (some a) 4 4 (AX.CC v)/\Below w.heap.size w c:=by
 have b:#[Value.int .u8 ((v:Int) % 256),.int .u8 ((v:Int) / 256 % 256),.int .u8 ((v:Int) / 65536 % 256),.int .u8 ((v:Int) / 16777216)]=((AX.CC v).map bv).toArray:=by
  simp only [AX.CC,bv,List.map_cons,List.map_nil]
  rw [AX.BJ (by omega),AX.BJ (by omega),AX.BJ (by omega),AX.BJ (by omega)];simp
 have d:=zH b;clear b
 go_in
 go_wp2
 go_ret
 exact⟨_,rfl,AM.built _ _ _ _ _ _ _ d.out rfl (by unfold maxLen;omega) rfl,(Below.refl _ _).alloc (zN _) _⟩
theorem Qo (a:Option Addr) (n c:Nat) (l:List UInt8) (w:World) (h:AM w a n c l) (hn:4<=n):Calls Tryz.prog 173 #[.slice a n c] w fun e r =>
 e=.returned (.tuple #[.int .u32 (AX.BP l:Nat),.int .i64 0])/\∃ k,r=w.drewN k:=by
 obtain⟨b,o,rfl,f,C,q⟩:=h.at (show 0 < n by omega)
 obtain⟨b,o,d,f,F,z⟩:=h.at (show 1 < n by omega)
 cases d
 obtain⟨b,o,d,f,G,A⟩:=h.at (show 2 < n by omega)
 cases d
 obtain⟨b,o,d,f,H,B⟩:=h.at (show 3 < n by omega)
 cases d
 rw [Nat.add_zero] at q
 have s:=h.le
 have t:(0:Int) < (n:Int):=by omega
 have u:(1:Int) < (n:Int):=by omega
 have x:(2:Int) < (n:Int):=by omega
 have y:(3:Int) < (n:Int):=by omega
 have p:=zH (show AX.BP l=(l[0]?.getD 0).toNat+(l[1]?.getD 0).toNat * 256+(l[2]?.getD 0).toNat * 65536+(l[3]?.getD 0).toNat * 16777216 from rfl)
 generalize l[0]?.getD 0=g at *
 generalize l[1]?.getD 0=i at *
 generalize l[2]?.getD 0=j at *
 generalize l[3]?.getD 0=m at *
 have I:g.toNat < 256:=g.toNat_lt
 have J:i.toNat < 256:=i.toNat_lt
 have K:j.toNat < 256:=j.toNat_lt
 have M:m.toNat < 256:=m.toNat_lt
 go_in
 go_wp2
 go_quiet (fail)
 go_wp2
 go_ret2
 refine⟨?_,nq,rfl⟩
 rw [p.out];simp only [Int.natCast_add,Int.natCast_mul];rfl
end Go.Proofs.YtmanejniepghlaaGreatDoor
