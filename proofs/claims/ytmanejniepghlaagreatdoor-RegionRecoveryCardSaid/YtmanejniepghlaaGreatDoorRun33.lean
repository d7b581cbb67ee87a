import Derived.Test.YtmanejniepghlaaGreatDoorRun0
import Derived.Test.YtmanejniepghlaaGreatDoorRun1
import Derived.Deep.QuietTactic
import Derived.BigQuiet
namespace Go.Proofs.YtmanejniepghlaaGreatDoor
open Go.RowKit
theorem zb_w (v:Nat) (hv:v < 4294967296) (w:World):Calls Tryz.prog 146 #[.int .u32 v] w fun e w' =>
 ∃ a,e=.returned (.slice (some a) 4 4)/\SlB w' (some a) 4 4 (Crc.fix4 v)/\Below w.heap.size w w':=by
 have hA:#[Value.int .u8 ((v:Int) % 256),.int .u8 ((v:Int) / 256 % 256),.int .u8 ((v:Int) / 65536 % 256),.int .u8 ((v:Int) / 16777216)]=((Crc.fix4 v).map bv).toArray:=by
  simp only [Crc.fix4,bv,List.map_cons,List.map_nil]
  rw [Crc.toNat_ofNat8 (by omega),Crc.toNat_ofNat8 (by omega),Crc.toNat_ofNat8 (by omega),Crc.toNat_ofNat8 (by omega)];simp
 have HA:=zH hA;clear hA
 go_enter Tryz.func146,Tryz.ntmps146
 go_wp2
 go_ret
 exact⟨_,rfl,SlB.built _ _ _ _ _ _ _ HA.out rfl (by unfold maxLen;omega) rfl,(Below.refl _ _).alloc (zN _) _⟩
theorem za_o (a:Option Addr) (n c:Nat) (l:List UInt8) (w:World) (h:SlB w a n c l) (hn:4<=n):Calls Tryz.prog 173 #[.slice a n c] w fun e w' =>
 e=.returned (.tuple #[.int .u32 (Crc.unfix4 l:Nat),.int .i64 0])/\∃ k,w'=w.drewN k:=by
 obtain⟨b,o,rfl,hb,k0,c0⟩:=h.at (show 0 < n by omega)
 obtain⟨b,o,e1,hb,k1,c1⟩:=h.at (show 1 < n by omega)
 cases e1
 obtain⟨b,o,e1,hb,k2,c2⟩:=h.at (show 2 < n by omega)
 cases e1
 obtain⟨b,o,e1,hb,k3,c3⟩:=h.at (show 3 < n by omega)
 cases e1
 rw [Nat.add_zero] at c0
 have hle:=h.le
 have b0:(0:Int) < (n:Int):=by omega
 have b1:(1:Int) < (n:Int):=by omega
 have b2:(2:Int) < (n:Int):=by omega
 have b3:(3:Int) < (n:Int):=by omega
 have hun:=zH (show Crc.unfix4 l=(l[0]?.getD 0).toNat+(l[1]?.getD 0).toNat * 256+(l[2]?.getD 0).toNat * 65536+(l[3]?.getD 0).toNat * 16777216 from rfl)
 generalize l[0]?.getD 0=x0 at *
 generalize l[1]?.getD 0=x1 at *
 generalize l[2]?.getD 0=x2 at *
 generalize l[3]?.getD 0=x3 at *
 have y0:x0.toNat < 256:=x0.toNat_lt
 have y1:x1.toNat < 256:=x1.toNat_lt
 have y2:x2.toNat < 256:=x2.toNat_lt
 have y3:x3.toNat < 256:=x3.toNat_lt
 go_enter Tryz.func173,Tryz.ntmps173
 go_wp2
 go_quiet (fail)
 go_wp2
 go_ret2
 refine⟨?_,nq,rfl⟩
 rw [hun.out];simp only [Int.natCast_add,Int.natCast_mul];rfl
end Go.Proofs.YtmanejniepghlaaGreatDoor
