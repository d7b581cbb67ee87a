import Derived.Test.YtmanejniepghlaaGreatDoorRun0
namespace Go.Proofs.YtmanejniepghlaaGreatDoor
section
open Go.RowKit
theorem zp_m (c:Nat) (hc:c < 4294967296) (w:World) :
 Calls Tryz.prog 153 #[.int .u32 c] w fun e w'=>e=.returned (.int .u32 (Crc.step c))/\w=w':=by
 have hb:bits BinOp.and IntKind.u32 (c:Int) 1=((c % 2:Nat):Int):=by
  have:=u32_and_nat c 1 hc (by decide);rw [nat_mask1] at this;exact this
 by_cases h:c % 2=0
 ·have hb2:(bits BinOp.and IntKind.u32 (c:Int) 1 == 0)=true:=by rw [hb,h];rfl
  have hs:Crc.step c=c / 2:=by simp [Crc.step,h]
  rw [hs];clear hs h hb
  go_enter Tryz.func153,Tryz.ntmps153
  go_wp2
  go_ret
  exact⟨by simp,rfl⟩
 ·have hb2:(bits BinOp.and IntKind.u32 (c:Int) 1 == 0)=false:=by rw [hb];simp;omega
  have hx:bits BinOp.xor IntKind.u32 ((c:Int) / 2) 3988292384=((c / 2 ^^^ 3988292384:Nat):Int):=by
   have:=u32_xor_nat (c / 2) 3988292384 (by omega) (by decide);simpa using this
  have hs:Crc.step c=c / 2 ^^^ 3988292384:=by simp [Crc.step,h]
  rw [hs];have Hx:=zH hx;clear hs h hb hx
  go_enter Tryz.func153,Tryz.ntmps153
  go_wp2
  go_ret
  exact⟨by rw [Hx.out];rfl,rfl⟩
theorem not32 (s:Nat) (hs:s < 4294967296):bits BinOp.xor IntKind.u32 4294967295 (s:Int)=((4294967295 - s:Nat):Int):=by
 have h1:=u32_xor_nat 4294967295 s (by decide) hs
 have h2:(4294967295 ^^^ s)=4294967295 - s:=by
  apply Nat.eq_of_testBit_eq
  intro i
  rw [Nat.testBit_xor,show (4294967295:Nat) - s=2 ^ 32 - (s+1) by omega,Nat.testBit_two_pow_sub_succ (by omega),show (4294967295:Nat)=2 ^ 32 - 1 by rfl,Nat.testBit_two_pow_sub_one]
  by_cases hi:i < 32
  ·simp [hi]
  ·have:s.testBit i=false:=Nat.testBit_lt_two_pow (Nat.lt_of_lt_of_le hs (Nat.pow_le_pow_right (n:=2) (by decide) (show 32<=i by omega)))
   simp [hi,this]
 rw [h2] at h1;exact h1
theorem zg_q (k x:Nat):Crc.step (Crc.steps k x)=Crc.steps (k+1) x:=(Crc.steps_succ' k x).symm
theorem zi_d (l:List UInt8) (c:Nat) {k:Nat} (h:k < l.length) :
 (l.take (k+1)).foldl Crc.byte c=Crc.byte ((l.take k).foldl Crc.byte c) (l[k]?.getD 0):=by
 rw [List.take_succ_eq_append_getElem h,List.foldl_append,List.getElem?_eq_getElem h];rfl
theorem zl_p (s:Nat) (hs:s < 4294967296) (a:Option Addr) (n c:Nat) (l:List UInt8) (w:World) (h:SlB w a n c l) :
 Calls Tryz.prog 106 #[.int .u32 s,.slice a n c] w fun e w'=>e=.returned (.int .u32 (Crc.update s l))/\w=w':=by
 have hle:=h.le
 have hn:=not32 s hs
 have hfin:∀ x:Nat,x < 4294967296->x=l.foldl Crc.byte (4294967295 - s)->bits BinOp.xor IntKind.u32 4294967295 (x:Int)=((Crc.update s l:Nat):Int):=by
  intro x hx e;rw [not32 x hx,Crc.update,e]
 have Hfin:=zH hfin;clear hfin
 go_enter Tryz.func106,Tryz.ntmps106
 go_wp2
 go_loop [5,12] (fun x i=>∃ k:Nat,k<=n/\i=.int .i64 k/\x=.int .u32 ((l.take k).foldl Crc.byte (4294967295 - s):Nat)) (fun _ i=>n - (intOf i).toNat)
 case atStart=>exact⟨0,Nat.zero_le _,rfl,by simp⟩
 case round =>
  obtain⟨k,hk,rfl,rfl⟩:=hrel
  by_cases hlt:k < n
  ·obtain⟨b,o,rfl,hb,hkl,hcell⟩:=h.at hlt
   have HS:=zH (zi_d l (4294967295 - s) hkl)
   have hy:(l.take k).foldl Crc.byte (4294967295 - s) < 4294967296:=Crc.fold_lt _ (by omega)
   generalize (l.take k).foldl Crc.byte (4294967295 - s)=y at *
   generalize l[k]?.getD 0=q at *
   have hbb:q.toNat < 256:=UInt8.toNat_lt _
   have hmod:(q.toNat:Int) % 4294967296=q.toNat:=by omega
   have hxor:=u32_xor_nat y q.toNat hy (by omega)
   have hxl:=Crc.xor_lt hy (show q.toNat < 4294967296 by omega)
   go_wp2
   go_loop [5,20] (fun x i=>∃ j:Nat,j<=8/\i=.int .i64 j/\x=.int .u32 (Crc.steps j (y ^^^ q.toNat):Nat)) (fun _ i=>8 - (intOf i).toNat)
   case atStart=>exact⟨0,Nat.zero_le _,rfl,rfl⟩
   case round =>
    obtain⟨j,hj,rfl,rfl⟩:=hrel
    by_cases hj8:j < 8
    ·go_wp2_with (go_at_call 153;refine (zp_m _ (Crc.steps_lt j hxl) _).mono ?_;rintro e w' ⟨rfl,rfl⟩)
     go_round
     case rel=>exact⟨j+1,by omega,by go_num,by rw [<-zg_q]⟩
     case measure=>simp [intOf];omega
    ·obtain rfl:j=8:=by omega
     go_wp2
     go_round
     case rel=>exact⟨k+1,by omega,by go_num,by rw [HS.out];rfl⟩
     case measure=>simp [intOf];omega
  ·go_wp2
   go_ret
   have:k=n:=by omega
   subst this
   refine⟨?_,rfl⟩
   rw [<-Hfin.out _ (Crc.fold_lt l (by omega)) rfl,List.take_of_length_le (by rw [h.len];exact zN _)]
   rfl
end
section
open Go.RowKit
theorem zc_g (a:Option Addr) (n c:Nat) (l:List UInt8) (w:World) (h:SlB w a n c l) :
 Calls Tryz.prog 48 #[.slice a n c] w fun e w'=>e=.returned (.int .u32 (Crc.update 0 l))/\w=w':=by
 go_enter Tryz.func48,Tryz.ntmps48
 go_wp2_with (go_at_call 106;refine (zl_p 0 (by decide) a n c l _ h).mono ?_;rintro e w' ⟨rfl,rfl⟩)
 go_ret
 exact⟨rfl,rfl⟩
theorem zq_l (c:Nat) (hc:c < 4294967296) (w:World) :
 Calls Tryz.prog 174 #[.int .u32 c] w fun e w'=>e=.returned (.int .u32 (Crc.step c))/\w=w':=by
 by_cases h:c % 2=0
 ·have hb2:((c:Int) % 2 == 0)=true:=by simp;omega
  have hs:Crc.step c=c / 2:=by simp [Crc.step,h]
  rw [hs];clear hs h
  go_enter Tryz.func174,Tryz.ntmps174
  go_wp2
  go_ret
  exact⟨by simp,rfl⟩
 ·have hb2:((c:Int) % 2 == 0)=false:=by simp;omega
  have hx:bits BinOp.xor IntKind.u32 ((c:Int) / 2) 3988292384=((c / 2 ^^^ 3988292384:Nat):Int):=by
   have:=u32_xor_nat (c / 2) 3988292384 (by omega) (by decide);simpa using this
  have hs:Crc.step c=c / 2 ^^^ 3988292384:=by simp [Crc.step,h]
  rw [hs];have Hx:=zH hx;clear hs h hx
  go_enter Tryz.func174,Tryz.ntmps174
  go_wp2
  go_ret
  exact⟨by rw [Hx.out];rfl,rfl⟩
theorem zm_d (s:Nat) (hs:s < 4294967296) (a:Option Addr) (n c:Nat) (l:List UInt8) (w:World) (h:SlB w a n c l) :
 Calls Tryz.prog 137 #[.int .u32 s,.slice a n c] w fun e w'=>e=.returned (.int .u32 (Crc.update s l))/\w=w':=by
 have hle:=h.le
 have hn:=not32 s hs
 have hfin:∀ x:Nat,x < 4294967296->x=l.foldl Crc.byte (4294967295 - s)->bits BinOp.xor IntKind.u32 4294967295 (x:Int)=((Crc.update s l:Nat):Int):=by
  intro x hx e;rw [not32 x hx,Crc.update,e]
 have Hfin:=zH hfin;clear hfin
 go_enter Tryz.func137,Tryz.ntmps137
 go_wp2
 go_loop [5,6] (fun x i=>∃ k:Nat,k<=n/\i=.int .i64 k/\x=.int .u32 ((l.take k).foldl Crc.byte (4294967295 - s):Nat)) (fun _ i=>n - (intOf i).toNat)
 case atStart=>exact⟨0,Nat.zero_le _,rfl,by simp⟩
 case round =>
  obtain⟨k,hk,rfl,rfl⟩:=hrel
  by_cases hlt:k < n
  ·obtain⟨b,o,rfl,hb,hkl,hcell⟩:=h.at hlt
   have HS:=zH (zi_d l (4294967295 - s) hkl)
   have hy:(l.take k).foldl Crc.byte (4294967295 - s) < 4294967296:=Crc.fold_lt _ (by omega)
   generalize (l.take k).foldl Crc.byte (4294967295 - s)=y at *
   generalize l[k]?.getD 0=q at *
   have hbb:q.toNat < 256:=UInt8.toNat_lt _
   have hmod:(q.toNat:Int) % 4294967296=q.toNat:=by omega
   have hxor:=u32_xor_nat y q.toNat hy (by omega)
   have hxl:=Crc.xor_lt hy (show q.toNat < 4294967296 by omega)
   go_wp2
   go_loop [5,7] (fun x i=>∃ j:Nat,j<=8/\i=.int .i64 j/\x=.int .u32 (Crc.steps j (y ^^^ q.toNat):Nat)) (fun _ i=>8 - (intOf i).toNat)
   case atStart=>exact⟨0,Nat.zero_le _,rfl,rfl⟩
   case round =>
    obtain⟨j,hj,rfl,rfl⟩:=hrel
    by_cases hj8:j < 8
    ·go_wp2_with (go_at_call 174;refine (zq_l _ (Crc.steps_lt j hxl) _).mono ?_;rintro e w' ⟨rfl,rfl⟩)
     go_round
     case rel=>exact⟨j+1,by omega,by go_num,by rw [<-zg_q]⟩
     case measure=>simp [intOf];omega
    ·obtain rfl:j=8:=by omega
     go_wp2
     go_round
     case rel=>exact⟨k+1,by omega,by go_num,by rw [HS.out];rfl⟩
     case measure=>simp [intOf];omega
  ·go_wp2
   go_ret
   have:k=n:=by omega
   subst this
   refine⟨?_,rfl⟩
   rw [<-Hfin.out _ (Crc.fold_lt l (by omega)) rfl,List.take_of_length_le (by rw [h.len];exact zN _)]
   rfl
theorem zh_f (a:Option Addr) (n c:Nat) (l:List UInt8) (w:World) (h:SlB w a n c l) :
 Calls Tryz.prog 82 #[.slice a n c] w fun e w'=>e=.returned (.int .u32 (Crc.update 0 l))/\w=w':=by
 go_enter Tryz.func82,Tryz.ntmps82
 go_wp2_with (go_at_call 137;refine (zm_d 0 (by decide) a n c l _ h).mono ?_;rintro e w' ⟨rfl,rfl⟩)
 go_ret
 exact⟨rfl,rfl⟩
end
end Go.Proofs.YtmanejniepghlaaGreatDoor
