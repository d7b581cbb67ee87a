import Derived.Test.YtmanejniepghlaaGreatDoorRun0
import Derived.Test.YtmanejniepghlaaGreatDoorRun1
namespace Go.Proofs.YtmanejniepghlaaGreatDoor
section
open Go.RowKit
theorem Rn (a b:Option Addr) (n m c d:Nat) (l k:List UInt8) (w:World) (h:AM w a n c l) (f:AM w b m d k) :
 Calls Tryz.prog 43 #[.slice a n c,.slice b m d] w fun e g=>e=.returned (.bool (l == k))/\w=g:=by
 have i:=Qs h
 have j:=Qs f
 clear h f
 go_in
 go_wp2
 go_ret
 exact⟨by simp,rfl⟩
end
section
open Go.RowKit
theorem Ds (c:Nat) (g:c < 4294967296) (w:World) :
 Calls Tryz.prog 153 #[.int .u32 c] w fun e i=>e=.returned (.int .u32 (AX.step c))/\w=i:=by
 have a:bits BinOp.and IntKind.u32 (c:Int) 1=((c % 2:Nat):Int):=by
  have:=u32_and_nat c 1 g (by decide);rw [nat_mask1] at this;exact this
 by_cases h:c % 2=0
 ·have d:(bits BinOp.and IntKind.u32 (c:Int) 1 == 0)=true:=by rw [a,h];rfl
  have hs:AX.step c=c / 2:=by simp [AX.step,h]
  rw [hs];clear hs h a
  go_in
  go_wp2
  go_ret
  exact⟨by simp,rfl⟩
 ·have d:(bits BinOp.and IntKind.u32 (c:Int) 1 == 0)=false:=by rw [a];simp;omega
  have b:bits BinOp.xor IntKind.u32 ((c:Int) / 2) 3988292384=((c / 2 ^^^ 3988292384:Nat):Int):=by
   have:=u32_xor_nat (c / 2) 3988292384 (by omega) (by decide);simpa using this
  have hs:AX.step c=c / 2 ^^^ 3988292384:=by simp [AX.step,h]
  rw [hs];have f:=zH b;clear hs h a b
  go_in
  go_wp2
  go_ret
  exact⟨by rw [f.out];rfl,rfl⟩
theorem QJ (s:Nat) (hs:s < 4294967296):bits BinOp.xor IntKind.u32 4294967295 (s:Int)=((4294967295 - s:Nat):Int):=by
 have a:=u32_xor_nat 4294967295 s (by decide) hs
 have c:(4294967295 ^^^ s)=4294967295 - s:=by
  apply Nat.eq_of_testBit_eq
  intro i
  rw [Nat.testBit_xor,show (4294967295:Nat) - s=2 ^ 32 - (s+1) by omega,Nat.testBit_two_pow_sub_succ (by omega),show (4294967295:Nat)=2 ^ 32 - 1 by rfl,Nat.testBit_two_pow_sub_one]
  by_cases b:i < 32
  ·simp [b]
  ·have:s.testBit i=false:=Nat.testBit_lt_two_pow (Nat.lt_of_lt_of_le hs (Nat.pow_le_pow_right (n:=2) (by decide) (show 32<=i by omega)))
   simp [b,this]
 rw [c] at a;exact a
theorem Hj (k x:Nat):AX.step (AX.steps k x)=AX.steps (k+1) x:=(AX.OP k x).symm
theorem Uh (l:List UInt8) (c:Nat) {k:Nat} (h:k < l.length) :
 (l.take (k+1)).foldl AX.byte c=AX.byte ((l.take k).foldl AX.byte c) (l[k]?.getD 0):=by
 rw [List.take_succ_eq_append_getElem h,List.foldl_append,List.getElem?_eq_getElem h];rfl
theorem Rf (s:Nat) (hs:s < 4294967296) (a:Option Addr) (n c:Nat) (l:List UInt8) (w:World) (h:AM w a n c l) :
 Calls Tryz.prog 106 #[.int .u32 s,.slice a n c] w fun e g=>e=.returned (.int .u32 (AX.update s l))/\w=g:=by
 have H:=h.le
 have hn:=QJ s hs
 have d:∀ x:Nat,x < 4294967296->x=l.foldl AX.byte (4294967295 - s)->bits BinOp.xor IntKind.u32 4294967295 (x:Int)=((AX.update s l:Nat):Int):=by
  intro x z e;rw [QJ x z,AX.update,e]
 have m:=zH d;clear d
 go_in
 go_wp2
 go_loop [5,12] (fun x i=>∃ k:Nat,k<=n/\i=.int .i64 k/\x=.int .u32 ((l.take k).foldl AX.byte (4294967295 - s):Nat)) (fun _ i=>n - (intOf i).toNat)
 case atStart=>exact⟨0,Nat.zero_le _,rfl,by simp⟩
 case round =>
  obtain⟨k,K,rfl,rfl⟩:=hrel
  by_cases r:k < n
  ·obtain⟨b,o,rfl,I,p,A⟩:=h.at r
   have u:=zH (Uh l (4294967295 - s) p)
   have f:(l.take k).foldl AX.byte (4294967295 - s) < 4294967296:=AX.JG _ (by omega)
   generalize (l.take k).foldl AX.byte (4294967295 - s)=y at *
   generalize l[k]?.getD 0=q at *
   have F:q.toNat < 256:=UInt8.toNat_lt _
   have B:(q.toNat:Int) % 4294967296=q.toNat:=by omega
   have C:=u32_xor_nat y q.toNat f (by omega)
   have t:=AX.NA f (show q.toNat < 4294967296 by omega)
   go_wp2
   go_loop [5,20] (fun x i=>∃ j:Nat,j<=8/\i=.int .i64 j/\x=.int .u32 (AX.steps j (y ^^^ q.toNat):Nat)) (fun _ i=>8 - (intOf i).toNat)
   case atStart=>exact⟨0,Nat.zero_le _,rfl,rfl⟩
   case round =>
    obtain⟨j,J,rfl,rfl⟩:=hrel
    by_cases G:j < 8
    ·go_wp2_with (go_at_call 153;refine (Ds _ (AX.KP j t) _).mono ?_;rintro e g ⟨rfl,rfl⟩)
     go_round
     case rel=>exact⟨j+1,by omega,by go_num,by rw [<-Hj]⟩
     case measure=>simp [intOf];omega
    ·obtain rfl:j=8:=by omega
     go_wp2
     go_round
     case rel=>exact⟨k+1,by omega,by go_num,by rw [u.out];rfl⟩
     case measure=>simp [intOf];omega
  ·go_wp2
   go_ret
   have:k=n:=by omega
   subst this
   refine⟨?_,rfl⟩
   rw [<-m.out _ (AX.JG l (by omega)) rfl,List.take_of_length_le (by rw [h.len];exact zN _)]
   rfl
end
section
open Go.RowKit
theorem Xr (a:Option Addr) (n c:Nat) (l:List UInt8) (w:World) (h:AM w a n c l) :
 Calls Tryz.prog 48 #[.slice a n c] w fun e b=>e=.returned (.int .u32 (AX.update 0 l))/\w=b:=by
 go_in
 go_wp2_with (go_at_call 106;refine (Rf 0 (by decide) a n c l _ h).mono ?_;rintro e b ⟨rfl,rfl⟩)
 go_ret
 exact⟨rfl,rfl⟩
theorem Eu (c:Nat) (g:c < 4294967296) (w:World) :
 Calls Tryz.prog 174 #[.int .u32 c] w fun e f=>e=.returned (.int .u32 (AX.step c))/\w=f:=by
 by_cases h:c % 2=0
 ·have b:((c:Int) % 2 == 0)=true:=by simp;omega
  have hs:AX.step c=c / 2:=by simp [AX.step,h]
  rw [hs];clear hs h
  go_in
  go_wp2
  go_ret
  exact⟨by simp,rfl⟩
 ·have b:((c:Int) % 2 == 0)=false:=by simp;omega
  have a:bits BinOp.xor IntKind.u32 ((c:Int) / 2) 3988292384=((c / 2 ^^^ 3988292384:Nat):Int):=by
   have:=u32_xor_nat (c / 2) 3988292384 (by omega) (by decide);simpa using this
  have hs:AX.step c=c / 2 ^^^ 3988292384:=by simp [AX.step,h]
  rw [hs];have d:=zH a;clear hs h a
  go_in
  go_wp2
  go_ret
  exact⟨by rw [d.out];rfl,rfl⟩
theorem Ru (s:Nat) (hs:s < 4294967296) (a:Option Addr) (n c:Nat) (l:List UInt8) (w:World) (h:AM w a n c l) :
 Calls Tryz.prog 137 #[.int .u32 s,.slice a n c] w fun e g=>e=.returned (.int .u32 (AX.update s l))/\w=g:=by
 have H:=h.le
 have hn:=QJ s hs
 have d:∀ x:Nat,x < 4294967296->x=l.foldl AX.byte (4294967295 - s)->bits BinOp.xor IntKind.u32 4294967295 (x:Int)=((AX.update s l:Nat):Int):=by
  intro x z e;rw [QJ x z,AX.update,e]
 have m:=zH d;clear d
 go_in
 go_wp2
 go_loop [5,6] (fun x i=>∃ k:Nat,k<=n/\i=.int .i64 k/\x=.int .u32 ((l.take k).foldl AX.byte (4294967295 - s):Nat)) (fun _ i=>n - (intOf i).toNat)
 case atStart=>exact⟨0,Nat.zero_le _,rfl,by simp⟩
 case round =>
  obtain⟨k,K,rfl,rfl⟩:=hrel
  by_cases r:k < n
  ·obtain⟨b,o,rfl,I,p,A⟩:=h.at r
   have u:=zH (Uh l (4294967295 - s) p)
   have f:(l.take k).foldl AX.byte (4294967295 - s) < 4294967296:=AX.JG _ (by omega)
   generalize (l.take k).foldl AX.byte (4294967295 - s)=y at *
   generalize l[k]?.getD 0=q at *
   have F:q.toNat < 256:=UInt8.toNat_lt _
   have B:(q.toNat:Int) % 4294967296=q.toNat:=by omega
   have C:=u32_xor_nat y q.toNat f (by omega)
   have t:=AX.NA f (show q.toNat < 4294967296 by omega)
   go_wp2
   go_loop [5,7] (fun x i=>∃ j:Nat,j<=8/\i=.int .i64 j/\x=.int .u32 (AX.steps j (y ^^^ q.toNat):Nat)) (fun _ i=>8 - (intOf i).toNat)
   case atStart=>exact⟨0,Nat.zero_le _,rfl,rfl⟩
   case round =>
    obtain⟨j,J,rfl,rfl⟩:=hrel
    by_cases G:j < 8
    ·go_wp2_with (go_at_call 174;refine (Eu _ (AX.KP j t) _).mono ?_;rintro e g ⟨rfl,rfl⟩)
     go_round
     case rel=>exact⟨j+1,by omega,by go_num,by rw [<-Hj]⟩
     case measure=>simp [intOf];omega
    ·obtain rfl:j=8:=by omega
     go_wp2
     go_round
     case rel=>exact⟨k+1,by omega,by go_num,by rw [u.out];rfl⟩
     case measure=>simp [intOf];omega
  ·go_wp2
   go_ret
   have:k=n:=by omega
   subst this
   refine⟨?_,rfl⟩
   rw [<-m.out _ (AX.JG l (by omega)) rfl,List.take_of_length_le (by rw [h.len];exact zN _)]
   rfl
theorem Yo (a:Option Addr) (n c:Nat) (l:List UInt8) (w:World) (h:AM w a n c l) :
 Calls Tryz.prog 82 #[.slice a n c] w fun e b=>e=.returned (.int .u32 (AX.update 0 l))/\w=b:=by
 go_in
 go_wp2_with (go_at_call 137;refine (Ru 0 (by decide) a n c l _ h).mono ?_;rintro e b ⟨rfl,rfl⟩)
 go_ret
 exact⟨rfl,rfl⟩
end
end Go.Proofs.YtmanejniepghlaaGreatDoor
