import Derived.Test.YtmanejniepghlaaGreatDoorRun15
import Derived.Test.YtmanejniepghlaaGreatDoorRun13
import Derived.Deep.RegionHeld3
import Derived.Test.YtmanejniepghlaaGreatDoorRun0
import Derived.Test.YtmanejniepghlaaGreatDoorRun8
import Derived.Test.YtmanejniepghlaaGreatDoorRun11
set_option maxHeartbeats 8000000
set_option maxRecDepth 100000
namespace Go.Proofs.YtmanejniepghlaaGreatDoor
open _root_.Go.Proofs.Tryz
section
open Go.RowKit
variable {b:UInt8}
namespace Ho
theorem YO (h:48<=b.toNat/\b.toNat<=57):dg b=(b.toNat:Int) - 48:=if_pos h
theorem YP (h:97<=b.toNat/\b.toNat<=102):dg b=(b.toNat:Int) - 97+10:=by
 unfold dg;rw [if_neg (by omega),if_pos h];omega
theorem YQ (h:65<=b.toNat/\b.toNat<=70):dg b=(b.toNat:Int) - 65+10:=by
 unfold dg;rw [if_neg (by omega),if_neg (by omega),if_pos h];omega
theorem YR (a:¬ (48<=b.toNat/\b.toNat<=57)) (c:¬ (97<=b.toNat/\b.toNat<=102)) (d:¬ (65<=b.toNat/\b.toNat<=70)):dg b=99:=by
 unfold dg;rw [if_neg a,if_neg c,if_neg d]
end Ho
theorem Uj (t:List UInt8) (ht:t.length<=1000000) (base:Int) (zf:2<=base) (J:base<=16) (w:World) :
 Calls prog 217 #[.string (str t),base] w fun e w'=>(∃ z:Int,e=.returned (.tuple #[z,.bool (t.all fun b=>decide (Ho.dg b < base))]))/\w=w':=by
 have hsz:=AZ t
 have I:∀ k (h:k < t.length) (q:k < (str t).size),(str t)[k]'q=t[k]'h:=fun k h q=>FV _ _ _
 obtain⟨sv,W⟩:∃ sv,sv=str t:=⟨_,rfl⟩
 rw [<-W] at hsz I ⊢
 have zc:=zH I
 clear I W
 obtain⟨ok,M⟩:∃ ok,(t.all fun b=>decide (Ho.dg b < base))=ok:=⟨_,rfl⟩
 have U:=zH M.symm
 rw [M]
 clear M
 go_in
 go_wp2_with fail
 go_loop [6,12] (fun v i=>∃ (k:Nat) (z:Int),k<=t.length/\i=.int .i64 k/\v=.int .i64 z/\0<=z/\z<=1099511627776/\Hid (∀ x ∈ t.take k,Ho.dg x < base)) (fun _ i=>t.length - (intOf i).toNat)
 case atStart=>exact⟨0,0,Nat.zero_le _,rfl,rfl,by decide,by decide,zH (by simp)⟩
 case round =>
  obtain⟨k,z,hk,rfl,rfl,z0,Q,N⟩:=hrel
  have i0:(0:Int)<=(k:Int):=by omega
  by_cases K:k < t.length
  ·have i1:(k:Int) < (t.length:Int):=by omega
   have hg:=zc.out k K
   have ze:=zH (List.take_succ_eq_append_getElem K)
   have zd:=zH (List.getElem_mem K)
   generalize t[k]=b at *
   have za:=b.toNat_lt
   have X:=zH (Ho.YO (b:=b))
   have Y:=zH (Ho.YP (b:=b))
   have R:=zH (Ho.YQ (b:=b))
   have Z:=zH (Ho.YR (b:=b))
   have O:=zH (fun (h:Ho.dg b < base)=>(show ∀ x ∈ t.take (k+1),Ho.dg x < base by
    rw [ze.out];intro x c
    rcases List.mem_append.1 c with c|c
    ·exact N.out x c
    ·simp at c;subst c;exact h))
   have p:=zH (fun (h:¬ Ho.dg b < base)=>(show ok=false by rw [U.out,List.all_eq_false];exact⟨b,zd.out,by simpa using h⟩))
   obtain⟨x,c⟩:∃ x,b.toNat=x:=⟨_,rfl⟩
   have zg:∀ (q:k < sv.size),((sv[k]'q).toNat:Int)=(x:Int):=fun q=>by rw [hg q,c]
   rw [c] at X Y R Z za
   clear c hg
   by_cases l:48<=x/\x<=57
   ·have f:=zH (X.out l)
    obtain⟨l,m⟩:=l
    have F:(48:Int)<=(x:Int):=by omega
    have P:(x:Int)<=57:=by omega
    obtain⟨d,hd⟩:∃ d:Int,(x:Int) - 48=d:=⟨_,rfl⟩
    rw [hd] at f
    have d0:0<=d:=by omega
    have d1:d<=15:=by omega
    have T:=zH hd
    by_cases g:d < base
    ·have n:=zH (O.out (by rw [f.out];exact g))
     have y:¬ base<=d:=by omega
     have A:0<=z * base:=Int.mul_nonneg z0 (by omega)
     have B:z * base<=1099511627776 * 16:=Int.mul_le_mul Q J (by omega) (by omega)
     obtain⟨a,s⟩:∃ a,z * base=a:=⟨_,rfl⟩
     rw [s] at A B
     have C:0<=a+d:=by omega
     have m3:a+d<=17592186044431:=by omega
     by_cases u:a+d<=1099511627776
     ·have r:min (a+d) 1099511627776=a+d:=by omega
      go_wp2_with fail
      go_round
      case rel=>exact⟨k+1,a+d,by omega,by go_num,rfl,C,u,n⟩
      case measure=>simp [intOf];omega
     ·have r:min (a+d) 1099511627776=1099511627776:=by omega
      go_wp2_with fail
      go_round
      case rel=>exact⟨k+1,1099511627776,by omega,by go_num,rfl,by omega,by omega,n⟩
      case measure=>simp [intOf];omega
    ·have j:=zH (p.out (by rw [f.out];exact g))
     have y:base<=d:=by omega
     clear g
     go_wp2_with fail
     go_ret2
     exact⟨⟨0,by rw [j.out];rfl⟩,rfl⟩
   by_cases m:97<=x/\x<=102
   ·have f:=zH (Y.out m)
    obtain⟨o,c4⟩:=m
    have F:(48:Int)<=(x:Int):=by omega
    have P:¬ (x:Int)<=57:=by omega
    have G:(97:Int)<=(x:Int):=by omega
    have p4:(x:Int)<=102:=by omega
    clear l
    obtain⟨d,hd⟩:∃ d:Int,(x:Int) - 97+10=d:=⟨_,rfl⟩
    rw [hd] at f
    have d0:0<=d:=by omega
    have d1:d<=15:=by omega
    have T:=zH hd
    by_cases g:d < base
    ·have n:=zH (O.out (by rw [f.out];exact g))
     have y:¬ base<=d:=by omega
     have A:0<=z * base:=Int.mul_nonneg z0 (by omega)
     have B:z * base<=1099511627776 * 16:=Int.mul_le_mul Q J (by omega) (by omega)
     obtain⟨a,s⟩:∃ a,z * base=a:=⟨_,rfl⟩
     rw [s] at A B
     have C:0<=a+d:=by omega
     have m3:a+d<=17592186044431:=by omega
     by_cases u:a+d<=1099511627776
     ·have r:min (a+d) 1099511627776=a+d:=by omega
      go_wp2_with fail
      go_round
      case rel=>exact⟨k+1,a+d,by omega,by go_num,rfl,C,u,n⟩
      case measure=>simp [intOf];omega
     ·have r:min (a+d) 1099511627776=1099511627776:=by omega
      go_wp2_with fail
      go_round
      case rel=>exact⟨k+1,1099511627776,by omega,by go_num,rfl,by omega,by omega,n⟩
      case measure=>simp [intOf];omega
    ·have j:=zH (p.out (by rw [f.out];exact g))
     have y:base<=d:=by omega
     clear g
     go_wp2_with fail
     go_ret2
     exact⟨⟨0,by rw [j.out];rfl⟩,rfl⟩
   by_cases o:65<=x/\x<=70
   ·have f:=zH (R.out o)
    obtain⟨c4,c5⟩:=o
    have F:(48:Int)<=(x:Int):=by omega
    have P:¬ (x:Int)<=57:=by omega
    have G:¬ (97:Int)<=(x:Int):=by omega
    have p4:(65:Int)<=(x:Int):=by omega
    have H:(x:Int)<=70:=by omega
    clear l m
    obtain⟨d,hd⟩:∃ d:Int,(x:Int) - 65+10=d:=⟨_,rfl⟩
    rw [hd] at f
    have d0:0<=d:=by omega
    have d1:d<=15:=by omega
    have T:=zH hd
    by_cases g:d < base
    ·have n:=zH (O.out (by rw [f.out];exact g))
     have y:¬ base<=d:=by omega
     have A:0<=z * base:=Int.mul_nonneg z0 (by omega)
     have B:z * base<=1099511627776 * 16:=Int.mul_le_mul Q J (by omega) (by omega)
     obtain⟨a,s⟩:∃ a,z * base=a:=⟨_,rfl⟩
     rw [s] at A B
     have C:0<=a+d:=by omega
     have m3:a+d<=17592186044431:=by omega
     by_cases u:a+d<=1099511627776
     ·have r:min (a+d) 1099511627776=a+d:=by omega
      go_wp2_with fail
      go_round
      case rel=>exact⟨k+1,a+d,by omega,by go_num,rfl,C,u,n⟩
      case measure=>simp [intOf];omega
     ·have r:min (a+d) 1099511627776=1099511627776:=by omega
      go_wp2_with fail
      go_round
      case rel=>exact⟨k+1,1099511627776,by omega,by go_num,rfl,by omega,by omega,n⟩
      case measure=>simp [intOf];omega
    ·have j:=zH (p.out (by rw [f.out];exact g))
     have y:base<=d:=by omega
     clear g
     go_wp2_with fail
     go_ret2
     exact⟨⟨0,by rw [j.out];rfl⟩,rfl⟩
   ·have j:=zH (p.out (by rw [Z.out l m o];omega))
    by_cases f1:48<=x
    ·have F:(48:Int)<=(x:Int):=by omega
     have P:¬ (x:Int)<=57:=by omega
     by_cases f2:97<=x
     ·have G:(97:Int)<=(x:Int):=by omega
      have p4:¬ (x:Int)<=102:=by omega
      have H:(65:Int)<=(x:Int):=by omega
      have p6:¬ (x:Int)<=70:=by omega
      clear l m o
      go_wp2_with fail
      go_ret2
      exact⟨⟨0,by rw [j.out];rfl⟩,rfl⟩
     ·have G:¬ (97:Int)<=(x:Int):=by omega
      by_cases f3:65<=x
      ·have H:(65:Int)<=(x:Int):=by omega
       have p6:¬ (x:Int)<=70:=by omega
       clear l m o
       go_wp2_with fail
       go_ret2
       exact⟨⟨0,by rw [j.out];rfl⟩,rfl⟩
      ·have H:¬ (65:Int)<=(x:Int):=by omega
       clear l m o
       go_wp2_with fail
       go_ret2
       exact⟨⟨0,by rw [j.out];rfl⟩,rfl⟩
    ·have F:¬ (48:Int)<=(x:Int):=by omega
     have G:¬ (97:Int)<=(x:Int):=by omega
     have H:¬ (65:Int)<=(x:Int):=by omega
     clear l m o
     go_wp2_with fail
     go_ret2
     exact⟨⟨0,by rw [j.out];rfl⟩,rfl⟩
  ·obtain rfl:k=t.length:=by omega
   rw [List.take_length] at N
   have p:=zH (show ok=true by rw [U.out,List.all_eq_true];intro x c;simpa using N.out x c)
   go_wp2_with fail
   go_ret2
   exact⟨⟨z,by rw [p.out];rfl⟩,rfl⟩
namespace Ho
theorem RM {t:List UInt8} (h:t.length < 2):pre t=false:=by
 cases a:pre t with
|false=>rfl
|true=>have:=((IF t).1 a).1;omega
theorem YF (t:List UInt8):(t.take 2 == [48,120])=decide (t.take 2=[48,120]):=by rw [Bool.eq_iff_iff];simp
theorem XC (t:List UInt8):(t.take 2 == [48,88])=decide (t.take 2=[48,88]):=by rw [Bool.eq_iff_iff];simp
end Ho
theorem Fy (t:List UInt8) (w:World) :
 Calls prog 215 #[.string (str t)] w fun e o=>e=.returned (.bool (Ho.pre t))/\w=o:=by
 have hsz:=AZ t
 have hcut:=EL t 0 2
 rw [List.drop_zero] at hcut
 by_cases m:t.length < 2
 ·have j:=zH (Ho.RM m)
  obtain⟨sv,a⟩:∃ sv,str t=sv:=⟨_,rfl⟩
  rw [a] at hsz ⊢
  have n:¬ (2:Int)<=(t.length:Int):=by omega
  clear hcut a
  go_in
  go_wp2
  go_ret
  exact⟨by rw [j.out];rfl,rfl⟩
 ·have n:(2:Int)<=(t.length:Int):=by omega
  have c:=zH (show Ho.pre t=((t.take 2 == [48,120]) || (t.take 2 == [48,88])) by rw [Ho.YF,Ho.XC];rfl)
  have f:(str (t.take 2)).toList=t.take 2:=AQ _
  obtain⟨sv,a⟩:∃ sv,str t=sv:=⟨_,rfl⟩
  obtain⟨d,g⟩:∃ d,str (t.take 2)=d:=⟨_,rfl⟩
  rw [a] at hsz hcut ⊢
  rw [g] at hcut f
  rw [<-f] at c
  obtain⟨k,h⟩:∃ b,(d.toList == [48,120])=b:=⟨_,rfl⟩
  obtain⟨l,i⟩:∃ b,(d.toList == [48,88])=b:=⟨_,rfl⟩
  rw [h,i] at c
  clear f a g
  cases k
  ·cases l
   ·go_in
    go_wp2
    go_ret
    exact⟨by rw [c.out];rfl,rfl⟩
   ·go_in
    go_wp2
    go_ret
    exact⟨by rw [c.out];rfl,rfl⟩
  ·go_in
   go_wp2
   go_ret
   exact⟨by rw [c.out];rfl,rfl⟩
theorem Bf (t:List UInt8) (p:t.length<=1000000) (c:Ho.pre t=true) (w:World) :
 Calls prog 216 #[.string (str t)] w fun e n=>(∃ z:Int,e=.returned (.tuple #[z,.bool ((t.drop 2).all Ho.hexd)]))/\w=n:=by
 have m:=((Ho.IF t).1 c).1
 have hsz:=AZ t
 have j:(str t).toList.isEmpty=false:=by
  rw [AQ]
  cases t with
 |nil=>simp at m
 |cons _ _=>rfl
 have hcut:=EL t 2 t.length
 rw [List.take_length] at hcut
 have hd:=fun W=>Uj (t.drop 2) (by rw [List.length_drop];omega) 16 (by decide) (by decide) W
 have a:=fun W=>Fy t W
 rw [c] at a
 have d:(fun b=>decide (Ho.dg b < 16))=Ho.hexd:=funext Ho.XR
 rw [d] at hd
 obtain⟨ok,f⟩:∃ ok,(t.drop 2).all Ho.hexd=ok:=⟨_,rfl⟩
 rw [f] at hd ⊢
 have q:(2:Int)<=(t.length:Int):=by omega
 obtain⟨sv,h⟩:∃ sv,str t=sv:=⟨_,rfl⟩
 obtain⟨i,g⟩:∃ i,str (t.drop 2)=i:=⟨_,rfl⟩
 rw [h] at hsz hcut j a ⊢
 rw [g] at hcut hd
 have k:=zH hd
 have l:=zH a
 clear hd a h g f c d
 go_in
 go_wp2_with (first
 |(go_at_call 215;go_must (refine (l.out _).mono ?_);rintro e o ⟨rfl,rfl⟩)
 |(go_at_call 217;go_must (refine (k.out _).mono ?_);rintro e o ⟨⟨z,rfl⟩,rfl⟩))
 go_ret2
 exact⟨⟨z,rfl⟩,rfl⟩
theorem Ed (l:List UInt8) (O:l.length<=1000000) (w:World) :
 Calls prog 214 #[.string (str l)] w (FX l w):=by
 have o:=zH (Ff l O w)
 have H:=List.length_pos_iff.2 (Ho.BH l)
 have B:=Ho.DD l
 obtain⟨u,F⟩:∃ u,Ho.split l=u:=⟨_,rfl⟩
 have z:=zH (Ho.IU (l:=l))
 have r:=zH (Ho.LN (l:=l))
 have s:=zH (Ho.KF (l:=l))
 rw [F] at o H B z r s
 clear F
 obtain⟨sv,G⟩:∃ sv,str l=sv:=⟨_,rfl⟩
 rw [G] at o ⊢
 clear G
 obtain⟨n,hn⟩:∃ n,u.length=n:=⟨_,rfl⟩
 rw [hn] at H B z r s
 have a:=zH hn
 clear hn
 by_cases P:n<=1
 ·obtain rfl:n=1:=by omega
  have f:=zH (z.out (zN _))
  go_in
  go_wp2_with fail
  refine o.out.mono ?_;rintro e J ⟨I,rfl,m,j⟩
  obtain⟨g,c,rfl,t,C,d⟩:=m.RO (by rw [a.out];omega)
  rw [a.out] at d ⊢
  go_wp2_with fail
  go_ret
  exact⟨g,c,by rw [f.out,a.out];rfl,by rw [f.out,a.out];exact d,j⟩
 ·have Q:(0:Int) < (n:Int) - 1:=by omega
  have R:(0:Int)<=(n:Int) - 1:=by omega
  have i3:(n:Int) - 1 < (n:Int):=by omega
  have T:((n:Int) - 1).toNat=n - 1:=by omega
  obtain⟨q,p⟩:∃ q,u[n - 1]?.getD []=q:=⟨_,rfl⟩
  rw [p] at r s
  obtain⟨x,i⟩:∃ x,str q=x:=⟨_,rfl⟩
  by_cases h:q=[]
  ·have f:=zH (r.out (by omega) h)
   have N:x.toList.isEmpty=true:=by rw [<-i,h,AQ];rfl
   go_in
   go_wp2_with fail
   refine o.out.mono ?_;rintro e J ⟨I,rfl,m,j⟩
   obtain⟨g,c,rfl,t,C,d⟩:=m.RO (by rw [a.out];omega)
   rw [a.out] at d t ⊢
   obtain⟨_,_,A,K,M,y⟩:=d.at (k:=n - 1) (by omega)
   cases A
   rw [p,tv,i,Nat.zero_add] at y
   have U:(n:Int) - 1<=(c:Int):=by omega
   have W:n - 1<=c:=by omega
   clear h p i
   go_wp2_with fail
   go_ret
   exact⟨g,c,by rw [f.out,List.length_take,a.out,Nat.min_eq_left (Nat.sub_le _ _)];rfl,by rw [f.out,List.length_take,a.out,Nat.min_eq_left (Nat.sub_le _ _)];exact d.take (Nat.sub_le _ _),j⟩
  ·have f:=zH (s.out h)
   have N:x.toList.isEmpty=false:=by rw [<-i,AQ];simpa using h
   go_in
   go_wp2_with fail
   refine o.out.mono ?_;rintro e J ⟨I,rfl,m,j⟩
   obtain⟨g,c,rfl,t,C,d⟩:=m.RO (by rw [a.out];omega)
   rw [a.out] at d t ⊢
   obtain⟨_,_,A,K,M,y⟩:=d.at (k:=n - 1) (by omega)
   cases A
   rw [p,tv,i,Nat.zero_add] at y
   clear h p i
   go_wp2_with fail
   go_ret
   exact⟨g,c,by rw [f.out,a.out];rfl,by rw [f.out,a.out];exact d,j⟩
theorem Rm (l:List UInt8) (Y:l.length<=1000000) (w:World) :
 Calls prog 192 #[.string (str l)] w fun e w'=>e=.returned (.bool (Ho.numeric l))/\Below w.heap.size w w':=by
 have d:=zH (Ed l Y w)
 have j:=Ho.MQ l
 have X:=Ho.NX l
 have Q:=List.length_pos_iff.2 (Ho.IC l)
 have N:=Ho.LO l
 have u:=zH (show Ho.numeric l=Ho.num (Ho.last l) from rfl)
 obtain⟨t,R⟩:∃ t,Ho.last l=t:=⟨_,rfl⟩
 obtain⟨F,O⟩:∃ F,Ho.parts l=F:=⟨_,rfl⟩
 unfold FX at d
 rw [O] at d Q j N
 rw [R] at j X u
 clear R O
 have I:(fun b=>decide (Ho.dg b < 10))=Ho.decd:=funext Ho.XQ
 have hd:=fun W=>Uj t (by omega) 10 (by decide) (by decide) W
 rw [I] at hd
 have s:=fun W=>Fy t W
 have r:=zH (fun h W=>Bf t (by omega) h W)
 have B:Hid (Ho.num t=if Ho.pre t then (t.drop 2).all Ho.hexd else t.all Ho.decd && !t.isEmpty):=zH rfl
 have x:(str t).toList.isEmpty=t.isEmpty:=by rw [AQ]
 obtain⟨n,hn⟩:∃ n,F.length=n:=⟨_,rfl⟩
 rw [hn] at d Q j N
 obtain⟨sv,P⟩:∃ sv,str l=sv:=⟨_,rfl⟩
 rw [P] at d ⊢
 obtain⟨G,y⟩:∃ G,str t=G:=⟨_,rfl⟩
 rw [y] at hd s r x
 have f:=zH (And.intro j y)
 obtain⟨Z,M⟩:∃ b,Ho.pre t=b:=⟨_,rfl⟩
 rw [M] at s B r
 have C:=zH s
 have A:=zH hd
 clear hn P y j s hd I M
 have i0:(0:Int)<=(n:Int) - 1:=by omega
 have i1:(n:Int) - 1 < (n:Int):=by omega
 have i2:((n:Int) - 1).toNat=n - 1:=by omega
 cases Z with
|true =>
  have H:=zH (r.out rfl)
  have a:=zH (show Ho.numeric l=(t.drop 2).all Ho.hexd by rw [u.out,B.out,if_pos rfl])
  obtain⟨ok,m⟩:∃ ok,(t.drop 2).all Ho.hexd=ok:=⟨_,rfl⟩
  rw [m] at H a
  clear m
  go_in
  go_wp2_with fail
  refine d.out.mono ?_;rintro e T ⟨b,c,rfl,o,i⟩
  obtain⟨_,_,p,J,K,g⟩:=o.at (k:=n - 1) (by omega)
  cases p
  rw [f.out.1,tv,f.out.2,Nat.zero_add] at g
  go_wp2_with (first
  |(go_at_call 215;go_must (refine (C.out _).mono ?_);rintro e q ⟨rfl,rfl⟩)
  |(go_at_call 216;go_must (refine (H.out _).mono ?_);rintro e q ⟨⟨z,rfl⟩,rfl⟩))
  go_ret
  exact⟨by rw [a.out];rfl,i⟩
|false =>
  have a:=zH (show Ho.numeric l=(t.all Ho.decd && !t.isEmpty) by rw [u.out,B.out,if_neg (by decide)])
  obtain⟨ok,m⟩:∃ ok,t.all Ho.decd=ok:=⟨_,rfl⟩
  rw [m] at A a
  rw [<-x] at a
  obtain⟨em,U⟩:∃ b,G.toList.isEmpty=b:=⟨_,rfl⟩
  rw [U] at a
  clear m x r
  cases ok
  ·go_in
   go_wp2_with fail
   refine d.out.mono ?_;rintro e T ⟨b,c,rfl,o,i⟩
   obtain⟨_,_,p,J,K,g⟩:=o.at (k:=n - 1) (by omega)
   cases p
   rw [f.out.1,tv,f.out.2,Nat.zero_add] at g
   go_wp2_with (first
   |(go_at_call 215;go_must (refine (C.out _).mono ?_);rintro e q ⟨rfl,rfl⟩)
   |(go_at_call 217;go_must (refine (A.out _).mono ?_);rintro e q ⟨⟨z,rfl⟩,rfl⟩))
   go_ret
   exact⟨by rw [a.out];rfl,i⟩
  ·cases em
   all_goals
    go_in
    go_wp2_with fail
    refine d.out.mono ?_;rintro e T ⟨b,c,rfl,o,i⟩
    obtain⟨_,_,p,J,K,g⟩:=o.at (k:=n - 1) (by omega)
    cases p
    rw [f.out.1,tv,f.out.2,Nat.zero_add] at g
    go_wp2_with (first
    |(go_at_call 215;go_must (refine (C.out _).mono ?_);rintro e q ⟨rfl,rfl⟩)
    |(go_at_call 217;go_must (refine (A.out _).mono ?_);rintro e q ⟨⟨z,rfl⟩,rfl⟩))
    go_ret
    exact⟨by rw [a.out];rfl,i⟩
end
section
open Go.RowKit Go.Shelf
variable {W w:World} {B M b k:Nat} {o:Obj} {l:List UInt8}
attribute [local go_sem] Oper.semAt_some
theorem Sb (s a:ByteArray) (w:World) :
 Calls prog 193 #[.string s,.string a] w fun e d=>e=.returned (.func (.func 235) #[] #[.pointer (w.heap.size+1:Nat),.pointer w.heap.size,.pointer (w.heap.size+2:Nat)]) ∧
  d=((w.alloc (.cells #[.string s] 9)).alloc (.cells #[.string a] 9)).alloc (.cells #[.int .i64 0] 3):=by
 have c:=zH (fun W=>callsIn_wide.1 (Kr Fence.wide 3 trivial rfl s a 0 W))
 go_in
 go_wp2_with fail
 refine (c.out _).mono ?_;rintro e f ⟨rfl,rfl⟩
 go_wp2_with fail
 go_ret
 exact⟨rfl,rfl⟩
def VV (w:World) (l:List UInt8) (M k:Nat) (W:World):Prop:=Below w.heap.size w W/\Boxed W w.heap.size 4 (.bool false)/\M<=W.heap.size/\Hid (∀ j,j < k->BL.AB ((Ho.split l)[j]?.getD [])=true)
def YI (w:World) (l:List UInt8) (c:Code) (_k:Nat) (W:World):Prop:=c=.ret/\Below w.heap.size w W/\Boxed W w.heap.size 4 (.bool false)/\Hid (Ho.name l=false)
theorem Yr {l:Nat} {t:TypeId} {v:Value} {o':Obj} (h:Boxed W b t v) (a:W.heap[l]?=some o) (d:o.isCells=false):Boxed (W.putObj l o') b t v:=by
 refine (World.putObj_heap_other ?_).trans h
 intro e
 subst e
 have c:W.heap[b]?=some (.cells #[v] t (0,0)):=h
 rw [c] at a;cases a;cases d
theorem Yq (h:Below B w W) {l:Nat} (c:B<=l) (_hlo:W.heap[l]?=some o) (_hc:o.isCells=false) (a:B<=W.heap.size) (o':Obj):Below B w (W.putObj l o'):=by
 refine h.trans ((Below.refl B W).grown (grownBy_putObj' W l o') a (fun k e=>by cases e;exact c))
theorem Yj {a:World} (h:Below W.heap.size W a):KeepsFrom B W a:=⟨h.size,fun _ _ _ c _=>(h.block _ (Qa c)).trans c⟩
theorem VV.put (h:VV w l M k W) (g:w.heap.size<=M) (i:w.heap.size+1<=b) (ho:W.heap[b]?=some o) (a:o.isCells=false) (o':Obj):VV w l M k (W.putObj b o'):=by
 obtain⟨c,d,e,f⟩:=h
 exact⟨Yq c (by omega) ho a (by omega) o',Yr d ho a,by simpa using e,f⟩
theorem VV.set (h:VV w l M k W) (f:w.heap.size+1<=b) (v:Value):VV w l M k (W.setCell b v):=by
 obtain⟨a,c,d,e⟩:=h
 exact⟨a.setCell (p:=b) (by show w.heap.size<=b;omega) v,(heap_setCell_other _ _ _ _ (by show w.heap.size ≠ b;omega)).trans c,by simpa using d,e⟩
theorem YI.put {c:Code} (h:YI w l c k W) (g:w.heap.size<=W.heap.size) (i:w.heap.size+1<=b) (ho:W.heap[b]?=some o) (a:o.isCells=false) (o':Obj):YI w l c k (W.putObj b o'):=by
 obtain⟨h0,d,e,f⟩:=h
 exact⟨h0,Yq d (by omega) ho a g o',Yr e ho a,f⟩
theorem Xt (l:List UInt8) (q:l.length<=1000000) (w:World) :
 Calls prog 169 #[.string (str l)] w fun e w'=>e=.returned (.bool (Ho.name l))/\Below w.heap.size w w':=by
 have hsz:=AZ l
 have z:=zH (fun W=>Rm l q W)
 have G:=zH (fun W=>Sb (str l) ⟨#[46]⟩ W)
 have zj:=Boxed.new w 4 (.bool false)
 have zi:=(Below.refl w.heap.size w).alloc (zN _) (.cells #[.bool false] 4)
 have y:=zH (And.intro zj zi)
 clear zj zi
 obtain⟨sv,U⟩:∃ sv,str l=sv:=⟨_,rfl⟩
 have zs:=zH U
 rw [U] at hsz z G ⊢
 clear U
 by_cases i:253 < l.length
 ·have s:=zH (Ho.LK i)
  have i1:(253:Int) < (l.length:Int):=by omega
  clear z G
  go_in
  go_wp2_with fail
  refine bodyPost_ret (v:=.bool false) (by simp [results,results169,go_sem]) rfl ⟨by rw [s.out],?_⟩
  exact (y.out.2)
 have i1:¬ (253:Int) < (l.length:Int):=by omega
 have zd:=zH (fun h=>Ho.OG (l:=l) h)
 have ze:=zH (fun h=>Ho.KA (l:=l) (by omega) h)
 obtain⟨nu,zk⟩:∃ nu,Ho.numeric l=nu:=⟨_,rfl⟩
 rw [zk] at z zd ze
 clear zk
 have zo:(w.alloc (.cells #[.bool false] 4)).heap.size=w.heap.size+1:=by simp
 have O:=zH zo
 clear zo
 cases nu with
|true =>
  have s:=zH (zd.out rfl)
  clear G
  go_in
  go_wp2_with fail
  refine (z.out _).mono ?_;rintro e c ⟨rfl,g⟩
  rw [O.out] at g
  have r:Boxed c w.heap.size 4 (.bool false):=(g.block _ (Nat.lt_succ_self _)).trans y.out.1
  have c1:=r.cell
  have f1:=r.frozen
  have c2:=(r.set (.bool false)).cell
  go_wp2_with fail
  refine bodyPost_ret (v:=.bool false) (by simp [results,results169,go_sem,c2]) rfl ⟨by rw [s.out],?_⟩
  exact (y.out.2.trans (g.mono (Nat.le_succ _))).setCell (zN _) _
|false =>
  have s:=zH (ze.out rfl)
  refine (callsIn_wide (n:=6)).1 ?_
  refine callsIn_of_wp_marks func169 rfl trivial ?_ rfl
  simp only [ntmps169,List.size_toArray,List.length_cons,List.length_nil,Nat.reduceAdd,Nat.reduceSub,Array.replicate_succ,Array.replicate_zero,List.push_toArray,List.append_toArray,List.nil_append,List.cons_append]
  refine wpIn_wide.2 ?_
  go_wp2_with fail
  refine (z.out _).mono ?_;rintro e c ⟨rfl,g⟩
  rw [O.out] at g
  have r:Boxed c w.heap.size 4 (.bool false):=(g.block _ (Nat.lt_succ_self _)).trans y.out.1
  go_wp2_with fail
  refine (G.out _).mono ?_;rintro e w2 ⟨rfl,rfl⟩
  go_wp2_with fail
  obtain⟨X,hX⟩:∃ X,c.heap.size=X:=⟨_,rfl⟩
  have zt:w.heap.size+1<=X:=by rw [<-hX];have:=g.size;rw [O.out] at this;exact this
  have R:=(((Below.refl c.heap.size c).alloc (zN _) (.cells #[.string sv] 9)).alloc (by simp) (.cells #[.string ⟨#[46]⟩] 9)).alloc (by simp;omega) (.cells #[.int .i64 0] 3)
  have za:Boxed (((c.alloc (.cells #[.string sv] 9)).alloc (.cells #[.string ⟨#[46]⟩] 9)).alloc (.cells #[.int .i64 0] 3)) c.heap.size 9 (.string sv):=((Boxed.new c _ _).alloc _).alloc _
  have Z:Boxed (((c.alloc (.cells #[.string sv] 9)).alloc (.cells #[.string ⟨#[46]⟩] 9)).alloc (.cells #[.int .i64 0] 3)) (c.heap.size+1) 9 (.string ⟨#[46]⟩):=by
   unfold Boxed;rw [Qd _ _ _ (by simp),Qb _ _ _ (by simp)]
  have zb:Boxed (((c.alloc (.cells #[.string sv] 9)).alloc (.cells #[.string ⟨#[46]⟩] 9)).alloc (.cells #[.int .i64 0] 3)) (c.heap.size+2) 3 (.int .i64 0):=by
   unfold Boxed;rw [Qb _ _ _ (by simp)]
  have zu:(((c.alloc (.cells #[.string sv] 9)).alloc (.cells #[.string ⟨#[46]⟩] 9)).alloc (.cells #[.int .i64 0] 3)).heap.size=c.heap.size+3:=by simp
  generalize (((c.alloc (.cells #[.string sv] 9)).alloc (.cells #[.string ⟨#[46]⟩] 9)).alloc (.cells #[.int .i64 0] 3))=J at *
  rw [hX] at R Z za zb zu ⊢
  have zc:Boxed J w.heap.size 4 (.bool false):=(R.block _ (by omega)).trans r
  have zh:Below w.heap.size w J:=(y.out.2.trans (g.mono (Nat.le_succ _))).trans (R.mono (by omega))
  have K:=My 3 (by omega) (X+1) X (X+2) l q J (by omega) (by omega) (by omega) (by omega) (by omega) Z.cell (by rw [zs.out];exact za) zb.cell
  obtain⟨N,hN⟩:∃ N,(Ho.split l).length=N:=⟨_,rfl⟩
  rw [hN] at K
  have HN:=zH hN
  have zp:=zH K
  have zr:=zH (fun k (u:k < N)=>show ((Ho.split l)[k]?.getD []).length<=1000000 from by
   have A:k < (Ho.split l).length:=by rw [HN.out];exact u
   rw [List.getElem?_eq_getElem A,Option.getD_some]
   exact Nat.le_trans (Ho.BW l _ (List.getElem_mem A)) q)
  clear K hN Z za zb g r hX
  refine (wpIn_wide (n:=4)).1 ?_
  refine Wu (Kp:=XF (X+1) X (X+2)) rfl (by omega) (gf:=235) (lb:=#[.pointer (X+1:Nat),.pointer X,.pointer (X+2:Nat)]) rfl trivial (enters_of func235 (by kernel_rfl) rfl) (by omega) zp.out Sa
   (fun W l o m q i t=>⟨World.putObj_heap_other (by omega),World.putObj_heap_other (by omega),World.putObj_heap_other (by omega)⟩) (Below.refl _ _) (fun _=>rfl)
   (VV w l (X+3)) (YI w l) (fun k W l o m a q i t=>a.put (by omega) (by omega) i t m) (fun cd k W l o m a q i t=>a.put a.2.1.size (by omega) i t m) (fun k W v a=>a.set zt v)
   ?h0 (fun k a1 W=>a1={ tmps:=#[.string sv,undef,.pointer w.heap.size,.string (str ((Ho.split l)[k]?.getD [])),.string sv,l.length,.bool false,.bool false,.string sv,.bool false,.bool false,.string sv,.func (.func 235) #[] #[.pointer (X+1:Nat),.pointer X,.pointer (X+2:Nat)],.string (str ((Ho.split l)[k]?.getD [])),undef,undef,undef],defers:=[] }/\VV w l (X+3) k W)
   (fun a1 k W l o m a q i t=>⟨a.1,a.2.put (by omega) (by omega) i t m⟩)
   ?assign ?body ?done ?stop
  case h0 =>
   intro o m
   have T:=((Below.refl _ J).alloc (zN _) o).alloc (by simp) m
   exact⟨zh.trans (T.mono zh.size),(T.block _ (Qa zc)).trans zc,by have:=T.size;omega,zH (fun j I=>by omega)⟩
  case assign =>
   intro lp k W a u
   unfold TZ
   gi_wp2
   exact⟨Yj (Below.refl _ _),⟨rfl,rfl,rfl⟩,by trivial,a⟩
  case body =>
   rintro lp k a1 W ⟨rfl,a⟩ u
   obtain⟨g1,f,g3,C⟩:=a
   obtain⟨p,hp⟩:∃ p,(Ho.split l)[k]?.getD []=p:=⟨_,rfl⟩
   have zl:=zr.out k u
   rw [hp] at zl ⊢
   have H:=zH ((callsIn_wide (n:=1)).2 (Bi p W zl))
   have zf:=zH hp
   obtain⟨vb,Y⟩:∃ vb,BL.AB p=vb:=⟨_,rfl⟩
   rw [Y] at H
   have zg:=zH Y
   obtain⟨sp,zn⟩:∃ sp,str p=sp:=⟨_,rfl⟩
   rw [zn] at H ⊢
   clear hp Y zn
   have zv:Fence.wide.fn 194:=trivial
   cases vb with
  |true =>
    gi_wp2_with (gi_at_call 194;go_must (refine (H.out.inRound lp).mono ?_);rintro e w4 ⟨rfl,d⟩)
    refine⟨Yj d,⟨d.block _ (by omega),d.block _ (by omega),d.block _ (by omega)⟩,g1.trans (d.mono g1.size),(d.block _ (Qa f)).trans f,by have:=d.size;omega,zH (fun j I=>?_)⟩
    rcases Nat.lt_or_ge j k with e|e
    ·exact C.out j e
    ·obtain rfl:j=k:=by omega
     rw [zf.out];exact zg.out
  |false =>
    gi_wp2_with (gi_at_call 194;go_must (refine (H.out.inRound lp).mono ?_);rintro e w4 ⟨rfl,d⟩;have P:Boxed w4 w.heap.size 4 (.bool false):=(d.block _ (Qa f)).trans f;have c4:=P.cell;have f4:=P.frozen)
    refine⟨(Yj d).trans ((KeepsOthers.setCell _ _ _).from _),rfl,(g1.trans (d.mono g1.size)).setCell (zN _) _,P.set _,zH ?_⟩
    rw [s.out,List.all_eq_false]
    have A:k < (Ho.split l).length:=by rw [HN.out];exact u
    have zm:=zf.out
    rw [List.getElem?_eq_getElem A,Option.getD_some] at zm
    exact⟨_,List.getElem_mem A,by rw [zm,zg.out];decide⟩
  case done =>
   intro D W hD a F
   obtain⟨g1,f,g3,C⟩:=a
   have c4:=f.cell
   have f4:=f.frozen
   have zq:=zH (show Ho.name l=true by
    rw [s.out,List.all_eq_true]
    intro x hx
    obtain⟨j,I,rfl⟩:=List.mem_iff_getElem.1 hx
    have:=C.out j (by rw [<-HN.out];exact I)
    rw [List.getElem?_eq_getElem I,Option.getD_some] at this
    exact this)
   gi_wp2
   go_wp2
   have Q:(W.setCell w.heap.size (.bool true)).heap[D]?=some (.deferred (some [])):=(heap_setCell_other _ _ _ _ (show D ≠ w.heap.size by omega)).trans F
   have d2:=(Yr (f.set (.bool true)) (o':=.deferred none) Q rfl).cell
   refine⟨by simp,.inl ⟨_,_,rfl,run_takeDeferred Q,⟨.bool true,by simp [results,results169,go_sem,d2],?_⟩⟩⟩
   exact⟨by rw [zq.out],Yq (g1.setCell (zN _) _) (by omega) Q rfl (by simp;omega) _⟩
  case stop =>
   rintro D cd k W hD u a F
   obtain⟨rfl,g1,f,C⟩:=a
   have d2:=(Yr f (o':=.deferred none) F rfl).cell
   gi_wp2
   refine⟨by simp,.inl ⟨_,_,rfl,run_takeDeferred F,⟨.bool false,by simp [results,results169,go_sem,d2],?_⟩⟩⟩
   exact⟨by rw [C.out],Yq g1 (by omega) F rfl g1.size _⟩
end
section
open Go.RowKit
variable {x y:List UInt8}
def JB (x y:List UInt8):Int:=if Ho.lb x y then -1 else if Ho.lb y x then 1 else 0
def SE (x y:Int):Int:=if x < y then -1 else if y < x then 1 else 0
theorem Mf (x y:List UInt8) (w:World):Calls prog 180 #[.string (str x),.string (str y)] w fun e r=>e=.returned (.int .i64 (JB x y))/\w=r:=by
 have f:=zH (show JB x y=if Ho.lb x y then -1 else if Ho.lb y x then 1 else 0 from rfl)
 obtain⟨g,a⟩:∃ b,Ho.lb x y=b:=⟨_,rfl⟩
 obtain⟨h,c⟩:∃ b,Ho.lb y x=b:=⟨_,rfl⟩
 rw [a,c] at f
 have i:(str x).toList=x:=AQ x
 have j:(str y).toList=y:=AQ y
 have p:Op.bytesLess (str x).toList (str y).toList=g:=by rw [i,j];exact a
 have q:Op.bytesLess (str y).toList (str x).toList=h:=by rw [i,j];exact c
 obtain⟨n,l⟩:∃ n,str x=n:=⟨_,rfl⟩
 obtain⟨o,m⟩:∃ o,str y=o:=⟨_,rfl⟩
 have k:=zH (show ((str x).toList == (str y).toList)=(!g && !h) by
  rw [i,j]
  cases g with
 |true =>
   have:x ≠ y:=by intro e;subst e;rw [Ho.DC] at a;cases a
   simpa using this
 |false =>
   cases h with
  |true =>
    have:x ≠ y:=by intro e;subst e;rw [Ho.DC] at c;cases c
    simpa using this
  |false=>have:=Ho.ES x y a c;subst this;simp)
 rw [l,m] at p q k ⊢
 clear a c i j l m
 have t3:=k.out
 cases g
 ·cases h
  ·have d:=zH (show JB x y=0 by rw [f.out];rfl)
   go_in
   go_wp2
   go_ret
   exact⟨by rw [d.out];rfl,rfl⟩
  ·have d:=zH (show JB x y=1 by rw [f.out];rfl)
   go_in
   go_wp2
   go_ret
   exact⟨by rw [d.out];rfl,rfl⟩
 ·have d:=zH (show JB x y=-1 by rw [f.out];rfl)
  go_in
  go_wp2
  go_ret
  exact⟨by rw [d.out];rfl,rfl⟩
theorem Pn (x y:Int) (w:World):Calls prog 181 #[x,y] w fun e f=>e=.returned (.int .i64 (SE x y))/\w=f:=by
 have b:=zH (show SE x y=if x < y then -1 else if y < x then 1 else 0 from rfl)
 by_cases c:x < y
 ·have a:=zH (show SE x y=-1 by rw [b.out,if_pos c])
  go_in
  go_wp2
  go_ret
  exact⟨by rw [a.out];rfl,rfl⟩
 ·by_cases d:y < x
  ·have a:=zH (show SE x y=1 by rw [b.out,if_neg c,if_pos d])
   go_in
   go_wp2
   go_ret
   exact⟨by rw [a.out];rfl,rfl⟩
  ·have a:=zH (show SE x y=0 by rw [b.out,if_neg c,if_neg d])
   go_in
   go_wp2
   go_ret
   exact⟨by rw [a.out];rfl,rfl⟩
namespace Ho
theorem lastdot (a:List UInt8):∃ (i:Int) (m:Nat) (x:List UInt8),Lib.lastIndexByte (str a) 46=i/\i+1=(m:Int)/\m<=a.length/\a.drop m=x/\(∀ c ∈ x,c ≠ 46) ∧
 ((i=-1/\a=x)\/∃ n:Nat,i=(n:Int)/\n < a.length/\a=a.take n ++ 46 :: x):=by
 have hs:=Lib.lastIndexByte_spec (str a) 46
 have l:(str a).size=a.length:=AZ a
 have o:∀ j (h:j < a.length),(((str a).data[j]!).toNat:Int) ≠ 46->a[j] ≠ 46:=by
  intro j h b e
  rw [Of a j h,e] at b;exact b rfl
 rcases hs with⟨b,f⟩|⟨k,b,f,p,r⟩
 ·refine⟨-1,0,a,b,rfl,Nat.zero_le _,rfl,?_,.inl ⟨rfl,rfl⟩⟩
  intro c g
  obtain⟨j,d,rfl⟩:=List.mem_iff_getElem.1 g
  exact o j d (f j (by rw [l];exact d))
 ·rw [l] at b
  have q:a[k]=46:=by
   rw [Of a k b] at p;apply UInt8.toNat_inj.1;exact Int.ofNat.inj p
  refine⟨k,k+1,a.drop (k+1),f,by omega,by omega,rfl,?_,.inr ⟨k,rfl,b,?_⟩⟩
  ·intro c g
   obtain⟨j,d,rfl⟩:=List.mem_iff_getElem.1 g
   rw [List.length_drop] at d
   rw [List.getElem_drop]
   exact o _ (by omega) (r _ (by omega) (by rw [l];omega))
  ·conv=>lhs;rw [<-List.take_append_drop k a]
   rw [List.drop_eq_getElem_cons b,q]
theorem WL {a b:List UInt8} (f:∀ c ∈ x,c ≠ 46) (g:∀ c ∈ y,c ≠ 46) (l:a=x\/∃ j,a=j ++ 46 :: x) (k:b=y\/∃ i,b=i ++ 46 :: y) (h:JB x y ≠ 0):cmp a b=JB x y:=by
 unfold JB at h ⊢
 rcases l with rfl|⟨j,rfl⟩
 ·rcases k with rfl|⟨i,rfl⟩
  ·rw [Nj f g]
  ·rw [Ni f g]
   by_cases d:lb a y=true
   ·rw [if_pos d,if_pos d]
   ·rw [if_neg d,if_neg d] at *
    by_cases e:lb y a=true
    ·rw [if_pos e,if_pos e]
    ·rw [if_neg e] at h;exact absurd rfl h
 ·rcases k with rfl|⟨i,rfl⟩
  ·rw [Ub f g]
   by_cases d:lb x b=true
   ·rw [if_pos d,if_pos d]
   ·rw [if_neg d,if_neg d] at *
    by_cases e:lb b x=true
    ·rw [if_pos e,if_pos e]
    ·rw [if_neg e] at h;exact absurd rfl h
  ·rw [Nh f g]
   by_cases d:lb x y=true
   ·rw [if_pos d,if_pos d]
   ·rw [if_neg d,if_neg d] at *
    by_cases e:lb y x=true
    ·rw [if_pos e,if_pos e]
    ·rw [if_neg e] at h;exact absurd rfl h
theorem Pp (h:JB x y=0):lb x y=false/\lb y x=false:=by
 unfold JB at h
 cases a:lb x y with
|true=>rw [a,if_pos rfl] at h;cases h
|false =>
  cases b:lb y x with
 |true=>rw [a,b,if_neg (by decide),if_pos rfl] at h;cases h
 |false=>exact⟨rfl,rfl⟩
theorem XN (f:∀ c ∈ x,c ≠ 46) (g:∀ c ∈ y,c ≠ 46) (h:JB x y=0):cmp x y=0/\(∀ b,cmp x (b ++ 46 :: y)=-1)/\(∀ a,cmp (a ++ 46 :: x) y=1)/\∀ a b,cmp (a ++ 46 :: x) (b ++ 46 :: y)=cmp a b:=by
 obtain⟨d,e⟩:=Pp h
 refine⟨?_,fun b=>?_,fun a=>?_,fun a b=>?_⟩
 ·rw [Nj f g,d,e];rfl
 ·rw [Ni f g,d,e];rfl
 ·rw [Ub f g,d,e];rfl
 ·rw [Nh f g,d,e];rfl
end Ho
def VK (a0 c:List UInt8) (w:World) (d e:Value) (wr:World):Prop:=∃ a b:List UInt8,a.length<=1000000/\b.length<=1000000/\d=.string (str a)/\e=.string (str b)/\Hid (Ho.cmp a0 c=Ho.cmp a b)/\Below w.heap.size w wr
def slen (v:Value):Nat:=match v with
|.string s=>s.size
|_=>0
theorem Nw (l:List UInt8):slen (.string (str l))=l.length:=AZ l
theorem Hc (a0 o:List UInt8) (zn:a0.length<=1000000) (zo:o.length<=1000000) (w:World) :
 Calls prog 152 #[.string (str a0),.string (str o)] w fun e w'=>e=.returned (.int .i64 (Ho.cmp a0 o))/\Below w.heap.size w w':=by
 have G:VK a0 o w (.string (str a0)) (.string (str o)) w:=⟨a0,o,zn,zo,rfl,rfl,zH rfl,Below.refl _ _⟩
 have G:=zH G
 obtain⟨s1,zh⟩:∃ s,str a0=s:=⟨_,rfl⟩
 obtain⟨s2,zi⟩:∃ s,str o=s:=⟨_,rfl⟩
 rw [zh,zi] at G ⊢
 clear zh zi
 go_in
 go_wp2_with fail
 go_step3
 go_wp2_with fail
 go_step3
 go_wp2_with fail
 go_loopw [0,1,5,6,7] (fun P sb _ _ _ wr=>VK a0 o w P sb wr) (fun P _ _ _ _ _=>slen P)
 case atStart=>exact G.out
 case round =>
  obtain⟨a,b,ha,hb,rfl,rfl,A,c⟩:=hrel
  obtain⟨i,C,x,l1,l2,l3,l4,l5,l6⟩:=Ho.lastdot a
  obtain⟨j,F,y,m1,m2,m3,m4,m5,m6⟩:=Ho.lastdot b
  have J:=fun W=>Js (str a) 46 (by rw [AZ];omega) W
  have K:=fun W=>Js (str b) 46 (by rw [AZ];omega) W
  rw [l1] at J
  rw [m1] at K
  have U:=EL a C a.length
  have X:=EL b F b.length
  rw [List.take_length,l4] at U
  rw [List.take_length,m4] at X
  have zp:=AZ a
  have zq:=AZ b
  have ze:=zH (fun n=>EL a 0 n)
  have zf:=zH (fun n=>EL b 0 n)
  have R:=zH (Ho.WL (a:=a) (b:=b) l5 m5 (by rcases l6 with⟨_,e⟩|⟨n,_,_,e⟩;exact .inl e;exact .inr ⟨_,e⟩) (by rcases m6 with⟨_,e⟩|⟨n,_,_,e⟩;exact .inl e;exact .inr ⟨_,e⟩))
  have HZ:=zH (Ho.XN l5 m5)
  have k:=zH (fun W=>Mf x y W)
  obtain⟨B,zg⟩:∃ B,JB x y=B:=⟨_,rfl⟩
  rw [zg] at R HZ k
  have zw:(C:Int)<=(a.length:Int):=by omega
  have ya:(F:Int)<=(b.length:Int):=by omega
  have zt:(0:Int)<=(C:Int):=by omega
  have zx:(0:Int)<=(F:Int):=by omega
  have yb:IntKind.i64.wrap (C:Int)=(C:Int):=by rw [IntKind.wrap_i64];omega
  have yc:IntKind.i64.wrap (F:Int)=(F:Int):=by rw [IntKind.wrap_i64];omega
  have zl:=zH l6
  have zd:=zH m6
  have zu:-1<=i:=by omega
  have zy:-1<=j:=by omega
  have zv:i<=1000000:=by omega
  have zz:j<=1000000:=by omega
  obtain⟨P,Q⟩:∃ s,str a=s:=⟨_,rfl⟩
  obtain⟨sb,za⟩:∃ s,str b=s:=⟨_,rfl⟩
  obtain⟨sx,zb⟩:∃ s,str x=s:=⟨_,rfl⟩
  obtain⟨sy,zc⟩:∃ s,str y=s:=⟨_,rfl⟩
  rw [Q] at J U zp ze ⊢
  rw [za] at K X zq zf ⊢
  rw [zb] at U k
  rw [zc] at X k
  have zm:=zH Q
  have u:=zH J
  have z:=zH K
  clear l1 m1 l4 m4 l5 m5 l6 m6 zg J K Q za zb zc
  by_cases I:B ≠ 0
  ·have HR:=zH (R.out I)
   have t1:(B != 0)=true:=by simpa using I
   clear I
   go_wp2_with fail
   refine (u.out _).mono ?_;rintro e M ⟨rfl,rfl⟩
   go_wp2_with fail
   refine (z.out _).mono ?_;rintro e N ⟨rfl,rfl⟩
   go_wp2_with fail
   go_quiet ((go_at_call 180;exact Calls.quiet_of_same ((k.out _).mono fun _ _ ⟨g,h⟩=>⟨g,h.symm⟩)))
   have f:=c.trans ((Je _ nq).mono c.size)
   go_wp2_with fail
   first|go_ret|(rw [Exit.noGoto_ret];go_ret)
   exact⟨by rw [A.out,HR.out];rfl,f⟩
  obtain rfl:B=0:=by omega
  obtain⟨z0,z1,z2,z3⟩:=HZ.out rfl
  have H:=zH (And.intro z0 (And.intro z1 (And.intro z2 z3)))
  clear z0 z1 z2 z3 R HZ I
  rcases zl.out with⟨O,r⟩|⟨n,O,n2,r⟩
  ·have q:=zH r
   have g1:i < 0:=by omega
   have g2:min i 0=-1:=by omega
   clear r O
   rcases zd.out with⟨p,d⟩|⟨m,p,zr,d⟩
   ·have l:=zH d
    have g3:j < 0:=by omega
    have g4:min j 0=-1:=by omega
    clear d p
    have t:=zH (fun W=>Pn (-1) (-1) W)
    go_wp2_with fail
    refine (u.out _).mono ?_;rintro e M ⟨rfl,rfl⟩
    go_wp2_with fail
    refine (z.out _).mono ?_;rintro e N ⟨rfl,rfl⟩
    go_wp2_with fail
    go_quiet ((go_at_call 180;exact Calls.quiet_of_same ((k.out _).mono fun _ _ ⟨g,h⟩=>⟨g,h.symm⟩)))
    have f:=c.trans ((Je _ nq).mono c.size)
    go_wp2_with fail
    refine (t.out _).mono ?_;rintro e W3 ⟨rfl,rfl⟩
    go_wp2_with fail
    first|go_ret|(rw [Exit.noGoto_ret];go_ret)
    exact⟨by rw [A.out,q.out,l.out,H.out.1];rfl,f⟩
   ·have l:=zH d
    have g3:¬ j < 0:=by omega
    have g4:min j 0=0:=by omega
    clear d p
    have t:=zH (fun W=>Pn (-1) 0 W)
    go_wp2_with fail
    refine (u.out _).mono ?_;rintro e M ⟨rfl,rfl⟩
    go_wp2_with fail
    refine (z.out _).mono ?_;rintro e N ⟨rfl,rfl⟩
    go_wp2_with fail
    go_quiet ((go_at_call 180;exact Calls.quiet_of_same ((k.out _).mono fun _ _ ⟨g,h⟩=>⟨g,h.symm⟩)))
    have f:=c.trans ((Je _ nq).mono c.size)
    go_wp2_with fail
    refine (t.out _).mono ?_;rintro e W3 ⟨rfl,rfl⟩
    go_wp2_with fail
    first|go_ret|(rw [Exit.noGoto_ret];go_ret)
    exact⟨by rw [A.out,q.out,l.out,H.out.2.1];rfl,f⟩
  ·have q:=zH r
   have g1:¬ i < 0:=by omega
   have g2:min i 0=0:=by omega
   rcases zd.out with⟨p,d⟩|⟨m,p,zr,d⟩
   ·have l:=zH d
    have g3:j < 0:=by omega
    have g4:min j 0=-1:=by omega
    clear r O d p
    have t:=zH (fun W=>Pn 0 (-1) W)
    go_wp2_with fail
    refine (u.out _).mono ?_;rintro e M ⟨rfl,rfl⟩
    go_wp2_with fail
    refine (z.out _).mono ?_;rintro e N ⟨rfl,rfl⟩
    go_wp2_with fail
    go_quiet ((go_at_call 180;exact Calls.quiet_of_same ((k.out _).mono fun _ _ ⟨g,h⟩=>⟨g,h.symm⟩)))
    have f:=c.trans ((Je _ nq).mono c.size)
    go_wp2_with fail
    refine (t.out _).mono ?_;rintro e W3 ⟨rfl,rfl⟩
    go_wp2_with fail
    first|go_ret|(rw [Exit.noGoto_ret];go_ret)
    exact⟨by rw [A.out,q.out,l.out,H.out.2.2.1];rfl,f⟩
   ·have l:=zH d
    have g3:¬ j < 0:=by omega
    have g5:0<=i:=by omega
    have g6:0<=j:=by omega
    have g7:i.toNat=n:=by omega
    have g8:j.toNat=m:=by omega
    have g9:i<=(a.length:Int):=by omega
    have zs:j<=(b.length:Int):=by omega
    have zj:=ze.out n
    have zk:=zf.out m
    rw [List.drop_zero] at zj zk
    obtain⟨sn,Z⟩:∃ s,str (a.take n)=s:=⟨_,rfl⟩
    obtain⟨sm,Y⟩:∃ s,str (b.take m)=s:=⟨_,rfl⟩
    rw [Z] at zj
    rw [Y] at zk
    have T:=zH (And.intro Z Y)
    clear Z Y r O d p g2
    go_wp2_with fail
    refine (u.out _).mono ?_;rintro e M ⟨rfl,rfl⟩
    go_wp2_with fail
    refine (z.out _).mono ?_;rintro e N ⟨rfl,rfl⟩
    go_wp2_with fail
    go_quiet ((go_at_call 180;exact Calls.quiet_of_same ((k.out _).mono fun _ _ ⟨g,h⟩=>⟨g,h.symm⟩)))
    have f:=c.trans ((Je _ nq).mono c.size)
    go_wp2_with fail
    go_quiet (fail)
    go_wp2_with fail
    go_roundw
    case rel=>exact⟨a.take n,b.take m,by rw [List.length_take];omega,by rw [List.length_take];omega,by rw [T.out.1],by rw [T.out.2],zH (by rw [A.out,q.out,l.out,H.out.2.2.2,<-q.out,<-l.out]),by first|exact f.trans ((Je _ _).mono f.size)|exact c.trans ((Je _ _).mono c.size)⟩
    case measure=>rw [<-T.out.1,<-zm.out,Nw,Nw,List.length_take];omega
end
section
open Go.RowKit
variable {x y:List UInt8} {k:Nat}
namespace Ho
theorem MW (l:List (List UInt8)) (b:1<=k) (c:k<=l.length):l.reverse.drop (k - 1)=l[l.length - k]?.getD [] :: l.reverse.drop k:=by
 have a:k - 1 < l.reverse.length:=by rw [List.length_reverse];omega
 rw [List.drop_eq_getElem_cons a,show k - 1+1=k by omega]
 congr 1
 rw [List.getElem_reverse,List.getElem?_eq_getElem (by omega),Option.getD_some]
 congr 1;omega
theorem JI (l:List (List UInt8)) (a:l.length < k):l.reverse.drop (k - 1)=[]:=List.drop_of_length_le (by rw [List.length_reverse];omega)
theorem MG (a b:List (List UInt8)) (h:lb x y=true):CJ (x :: a) (y :: b)=-1:=by rw [CJ,if_pos h]
theorem MF (b c:List (List UInt8)) (h:lb x y=false) (a:lb y x=true):CJ (x :: b) (y :: c)=1:=by rw [CJ,if_neg (by simp [h]),if_pos a]
theorem ME (a b:List (List UInt8)) (h:lb x y=false) (c:lb y x=false):CJ (x :: a) (y :: b)=CJ a b:=by rw [CJ,if_neg (by simp [h]),if_neg (by simp [c])]
end Ho
theorem Hg (a b:List UInt8) (ha:a.length<=1000000) (hb:b.length<=1000000) (w:World) :
 Calls prog 121 #[.string (str a),.string (str b)] w fun e w'=>e=.returned (.int .i64 (Ho.cmp a b))/\Below w.heap.size w w':=by
 have F:=zH (fun W=>Ve a ha W)
 have G:=zH (fun W=>Ve b hb W)
 have T:=Ho.DD a
 have U:=Ho.DD b
 obtain⟨r,hr⟩:∃ r,Ho.cmp a b=r:=⟨_,rfl⟩
 have z:r=Ho.CJ (Ho.split a).reverse (Ho.split b).reverse:=hr.symm
 rw [hr]
 clear hr
 obtain⟨X,hX⟩:∃ X,Ho.split a=X:=⟨_,rfl⟩
 obtain⟨Y,hY⟩:∃ Y,Ho.split b=Y:=⟨_,rfl⟩
 rw [hX] at F T z
 rw [hY] at G U z
 have HR:=zH z
 clear z hX hY
 obtain⟨n,hn⟩:∃ n,X.length=n:=⟨_,rfl⟩
 obtain⟨m,M⟩:∃ m,Y.length=m:=⟨_,rfl⟩
 rw [hn] at T
 rw [M] at U
 have j:=zH hn
 have h:=zH M
 clear hn M
 obtain⟨sa,zc⟩:∃ s,str a=s:=⟨_,rfl⟩
 obtain⟨sb,zd⟩:∃ s,str b=s:=⟨_,rfl⟩
 rw [zc] at F ⊢
 rw [zd] at G ⊢
 clear zc zd
 go_in
 go_wp2_with fail
 refine (F.out _).mono ?_;rintro e w1 ⟨v1,rfl,zm,Q⟩
 obtain⟨p1,c1,rfl,A⟩:=zm.sl
 rw [j.out] at A ⊢
 go_wp2_with fail
 refine (G.out _).mono ?_;rintro e w2 ⟨v2,rfl,zn,R⟩
 obtain⟨p2,c2,rfl,zb⟩:=zn.sl
 rw [h.out] at zb ⊢
 have A:=A.ext R
 have d:=Q.trans (R.mono Q.size)
 go_wp2_with fail
 go_loopw [7,8,9] (fun i _ _ wr=>∃ k:Nat,1<=k/\k<=n+1/\k<=m+1/\i=.int .i64 k/\Hid (r=Ho.CJ (X.reverse.drop (k - 1)) (Y.reverse.drop (k - 1)))/\Below w2.heap.size w2 wr) (fun i _ _ _=>n+1 - (intOf i).toNat)
 case atStart=>exact⟨1,by omega,by omega,by omega,rfl,zH (by rw [HR.out];rfl),Below.refl _ _⟩
 case round =>
  obtain⟨k,B,kn,km,rfl,g,c⟩:=hrel
  have i0:(0:Int)<=(k:Int):=by omega
  by_cases h1:k<=n
  ·have i1:(k:Int)<=(n:Int):=by omega
   by_cases K:k<=m
   ·have i2:(k:Int)<=(m:Int):=by omega
    obtain⟨b1,o1,rfl,zp,zg,Z⟩:=(A.ext c).at (k:=n - k) (by omega)
    obtain⟨b2,o2,rfl,zo,zh,za⟩:=(zb.ext c).at (k:=m - k) (by omega)
    have p:=zH (Ho.MW X B (by rw [j.out];exact h1))
    have t:=zH (Ho.MW Y B (by rw [h.out];exact K))
    rw [j.out] at p
    rw [h.out] at t
    obtain⟨x,N⟩:∃ x,X[n - k]?.getD []=x:=⟨_,rfl⟩
    obtain⟨y,O⟩:∃ y,Y[m - k]?.getD []=y:=⟨_,rfl⟩
    rw [N,tv] at Z
    rw [O,tv] at za
    rw [N] at p
    rw [O] at t
    have j1:(0:Int)<=(n:Int) - (k:Int):=by omega
    have j2:(0:Int)<=(m:Int) - (k:Int):=by omega
    have j3:(n:Int) - (k:Int) < (n:Int):=by omega
    have j4:(m:Int) - (k:Int) < (m:Int):=by omega
    have j5:((n:Int) - (k:Int)).toNat=n - k:=by omega
    have j6:((m:Int) - (k:Int)).toNat=m - k:=by omega
    have j7:IntKind.i64.wrap ((n:Int) - (k:Int))=(n:Int) - (k:Int):=by rw [IntKind.wrap_i64];omega
    have j8:IntKind.i64.wrap ((m:Int) - (k:Int))=(m:Int) - (k:Int):=by rw [IntKind.wrap_i64];omega
    have H:(str x).toList=x:=AQ x
    have I:(str y).toList=y:=AQ y
    have zk:=zH (Ho.MG (x:=x) (y:=y) (X.reverse.drop k) (Y.reverse.drop k))
    have zj:=zH (Ho.MF (x:=x) (y:=y) (X.reverse.drop k) (Y.reverse.drop k))
    have zi:=zH (Ho.ME (x:=x) (y:=y) (X.reverse.drop k) (Y.reverse.drop k))
    obtain⟨C,g1⟩:∃ q,Ho.lb x y=q:=⟨_,rfl⟩
    obtain⟨P,u⟩:∃ q,Ho.lb y x=q:=⟨_,rfl⟩
    have t1:Op.bytesLess (str x).toList (str y).toList=C:=by rw [H,I];exact g1
    have J:=zH (show ((str x).toList == (str y).toList)=(!C && !P) by
     rw [H,I]
     cases C with
    |true =>
      have:x ≠ y:=by intro e;subst e;rw [Ho.DC] at g1;cases g1
      simpa using this
    |false =>
      cases P with
     |true =>
       have:x ≠ y:=by intro e;subst e;rw [Ho.DC] at u;cases u
       simpa using this
     |false=>have:=Ho.ES x y g1 u;subst this;simp)
    have o:=zH (And.intro g1 u)
    obtain⟨sx,ze⟩:∃ s,str x=s:=⟨_,rfl⟩
    obtain⟨sy,zf⟩:∃ s,str y=s:=⟨_,rfl⟩
    rw [ze] at Z t1 J
    rw [zf] at za t1 J
    have t3:=J.out
    clear N O H I g1 u ze zf zg zh
    cases C
    ·cases P
     ·have zl:=zH (show r=Ho.CJ (X.reverse.drop k) (Y.reverse.drop k) by rw [g.out,p.out,t.out,zi.out o.out.1 o.out.2])
      go_wp2_with fail
      go_quiet (fail)
      have l:=c.trans ((Je _ nq).mono c.size)
      go_wp2_with fail
      go_roundw
      case rel=>exact⟨k+1,by omega,by omega,by omega,by go_num,zl,l⟩
      case measure=>simp [intOf];omega
     ·have f:=zH (show r=1 by rw [g.out,p.out,t.out,zj.out o.out.1 o.out.2])
      go_wp2_with fail
      go_quiet (fail)
      have l:=c.trans ((Je _ nq).mono c.size)
      go_wp2_with fail
      go_ret
      exact⟨by rw [f.out];rfl,d.trans (l.mono d.size)⟩
    ·have f:=zH (show r=-1 by rw [g.out,p.out,t.out,zk.out o.out.1])
     go_wp2_with fail
     go_quiet (fail)
     have l:=c.trans ((Je _ nq).mono c.size)
     go_wp2_with fail
     go_ret
     exact⟨by rw [f.out];rfl,d.trans (l.mono d.size)⟩
   ·obtain rfl:k=m+1:=by omega
    have i2:¬ ((m+1:Nat):Int)<=(m:Int):=by omega
    have f:=zH (show r=1 by
     rw [g.out,Ho.JI Y (by rw [h.out];omega),Ho.MW X B (by rw [j.out];exact h1)];rfl)
    have i3:(m:Int) < (n:Int):=by omega
    go_wp2_with fail
    go_ret
    exact⟨by rw [f.out];rfl,d.trans (c.mono d.size)⟩
  ·obtain rfl:k=n+1:=by omega
   have i1:¬ ((n+1:Nat):Int)<=(n:Int):=by omega
   by_cases K:n+1<=m
   ·have f:=zH (show r=-1 by
     rw [g.out,Ho.JI X (by rw [j.out];omega),Ho.MW Y B (by rw [h.out];exact K)];rfl)
    have i3:(n:Int) < (m:Int):=by omega
    go_wp2_with fail
    go_ret
    exact⟨by rw [f.out];rfl,d.trans (c.mono d.size)⟩
   ·obtain rfl:n=m:=by omega
    have f:=zH (show r=0 by
     rw [g.out,Ho.JI X (by rw [j.out];omega),Ho.JI Y (by rw [h.out];omega)];rfl)
    go_wp2_with fail
    go_ret
    exact⟨by rw [f.out];rfl,d.trans (c.mono d.size)⟩
end
end Go.Proofs.YtmanejniepghlaaGreatDoor
