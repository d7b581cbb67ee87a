import Derived.Test.YtmanejniepghlaaGreatDoorRun0
import Derived.OwnWalk
import Derived.IntWalk
import Derived.Deep.DeepMust
import Derived.Deep.QuietTactic
import Derived.BigQuiet
import Derived.Lib.AppendStr
set_option maxHeartbeats 4000000
set_option maxRecDepth 100000
namespace Go.Proofs.YtmanejniepghlaaGreatDoor
open _root_.Go.Proofs.Tryz
section
open Go.RowKit
variable {b:List UInt8} {k:Nat}
theorem Dr (a:Option Addr) (n c:Nat) (l:List UInt8) (w:World) (h:AM w a n c l) (hn:n<=140737488355328) :
 Calls prog 75 #[.slice a n c] w fun e f=>∃ v,e=.returned v/\AC w.heap.size f v l/\Below w.heap.size w f:=by
 cases a with
|none =>
  obtain⟨rfl,rfl⟩:=h.2.2.2.1 rfl
  obtain rfl:n=0:=h.1.symm
  have g:=fun (w:World)=>Lib.run_eql_slice_nil (P:=prog) w 70 5 none 0 0 0 0 underlying70
  go_in
  go_wp2
  go_ret
  exact⟨_,rfl,AC.nil _ _,Below.refl _ _⟩
|some d =>
  have j:AM (w.alloc (.cells #[] 5)) (some d) n c l:=h.ext ((Below.refl _ _).alloc (zN _) _)
  have g:=fun (w:World)=>Lib.run_eql_slice_nil (P:=prog) w 70 5 (some d) n c 0 0 underlying70
  go_in
  go_wp2_with (at_builtin;refine Qc rfl _ _ rfl w.heap.size _ [] rfl (AC.empty w (zN _)) (some d) n c l rfl j (by simpa using hn) (by simp) ?_;intro v p i m _)
  go_ret
  exact⟨v,rfl,i,((Below.refl _ _).alloc (zN _) _).grown m (by simp) (fun k o=>by cases o;exact zN _)⟩
theorem AM.RJ (w:World) (z:Int) (b:UInt8) (h:z=(b.toNat:Int)) (t:TypeId):AM (w.alloc (.cells #[.int .u8 z] t)) w.heap.size 1 1 [b]:=by subst h;exact AM.one w b t
theorem Ze (a:Option Addr) (n c:Nat) (l:List UInt8) (x:Nat) (P:x < 18446744073709551616) (w:World) (h:AM w a n c l) (hn:n<=1000000) :
 Calls prog 102 #[.slice a n c,.int .u64 (x:Nat)] w fun e H=>∃ v,e=.returned v/\AC w.heap.size H v (l ++ Wi.enc x)/\Below w.heap.size w H:=by
 have K:=h.len
 have M:=zH (Dr a n c l w h (by omega))
 have N:=zH (show l.length<=1000000 by omega)
 have O:=zH (Wi.BG P)
 clear K h
 go_in
 go_wp2_with fail
 refine M.out.mono ?_;rintro e Z ⟨Y,rfl,J,I⟩
 go_wp2_with fail
 go_loopw [1,5] (fun y u wr=>∃ (z:Nat) (p:List UInt8),z < 18446744073709551616/\y=.int .u64 (z:Nat)/\AC w.heap.size wr u (l ++ p)/\Hid (p ++ Wi.enc z=Wi.enc x)/\Below w.heap.size w wr) (fun y _ _=>(intOf y).toNat)
 case atStart=>exact⟨x,[],by omega,rfl,by simpa using J,zH rfl,I⟩
 case round =>
  obtain⟨z,p,T,rfl,i,r,A⟩:=hrel
  have U:(0:Int)<=(z:Int):=Int.natCast_nonneg _
  have X:(z:Int)<=18446744073709551615:=by omega
  have hsz:=A.size
  have R:(l ++ p).length<=1000010:=by
   have s:=N.out;have G:=O.out;have f:=congrArg List.length r.out
   rw [List.length_append] at f ⊢;omega
  by_cases C:z < 128
  ·have q:=zH (show p ++ [UInt8.ofNat z]=Wi.enc x by rw [<-r.out,Wi.FO C])
   have m:=zH (fun W t=>AM.RJ W (z:Int) (UInt8.ofNat z) (by rw [Wi.EF (by omega)]) t)
   go_wp2_with (at_builtin;refine Qc rfl _ _ rfl w.heap.size _ (l ++ p) rfl (i.alloc _) wr.heap.size 1 1 [UInt8.ofNat z] rfl (m.out _ _) (by omega) (by simp;omega) ?_;intro Q B j d _)
   have o:Below w.heap.size w B:=(A.alloc (by omega) _).grown d (by simp;omega) (fun g d=>(i.lt g d).1)
   clear d
   go_wp2_with fail
   go_ret
   exact⟨_,rfl,by rw [<-q.out,<-List.append_assoc];exact j,o⟩
  ·have q:=zH (show (p ++ [UInt8.ofNat (z % 128+128)]) ++ Wi.enc (z / 128)=Wi.enc x by rw [<-r.out,Wi.GZ C,List.append_assoc];rfl)
   have F:bits BinOp.or IntKind.u8 ((z:Int) % 256) 128=((z % 128+128:Nat):Int):=by
    have s:=u8_or_nat (z % 256) 128 (Nat.mod_lt _ (by decide)) (by decide)
    have G:∀ y:Fin 256,(y.val ||| 128)=y.val % 128+128:=by decide
    have f:=G ⟨z % 256,Nat.mod_lt _ (by decide)⟩
    simp only at f
    rw [f,Nat.mod_mod_of_dvd _ (by decide)] at s
    simpa using s
   have m:=zH (fun W t=>AM.RJ W (bits BinOp.or IntKind.u8 ((z:Int) % 256) 128) (UInt8.ofNat (z % 128+128)) (by rw [F,Wi.EF (by omega)]) t)
   clear F
   go_wp2_with (at_builtin;refine Qc rfl _ _ rfl w.heap.size _ (l ++ p) rfl (i.alloc _) wr.heap.size 1 1 [UInt8.ofNat (z % 128+128)] rfl (m.out _ _) (by omega) (by simp;omega) ?_;intro Q B j d _)
   have o:Below w.heap.size w B:=(A.alloc (by omega) _).grown d (by simp;omega) (fun g d=>(i.lt g d).1)
   clear d
   go_wp2_with fail
   go_roundw
   case rel=>exact⟨z / 128,p ++ [UInt8.ofNat (z % 128+128)],by omega,by go_num,by rw [<-List.append_assoc];exact j,q,o⟩
   case measure=>simp [intOf];omega
theorem Xh {w:World} {e:Array Oper} {rest:List Oper} {o:Oper} {a:Act} {Q:Exit->Act->World->Prop} (hgd:o.guard=none) (s x:Operand)
 (ho:o.op=.call { callee:=.builtin .append,args:=#[s,x],argTypes:=#[70,9] })
 (base:Nat) (v:Value) (l:List UInt8) (hs:a.eval s=v) (i:AC base w v l) (t:List UInt8) (r:a.eval x=.string (str t))
 (y:l.length+t.length<=140737488355328) (g:base<=w.heap.size)
 (h:∀ d c,AC base c d (l ++ t)->w.grownBy c v.ownBlock->wpList prog e Q rest (a.put o.dst d) c):wpList prog e Q (o :: rest) a w:=by
 obtain⟨u,q,j,m,n⟩:=info_parts JX
 have hsz:(str t).size=t.length:=by simp [str,ByteArray.size]
 refine Lib.wpList_append_own_string w hgd s x 70 9 ho base 5 u underlying70 underlying9 q j m n v l.length (l.map bv) hs i (str t) r (by rw [hsz];unfold maxLen;omega) (by rw [hsz];omega) g ?_
 intro d c f p _
 refine h d c ?_ p
 unfold AC
 rw [List.length_append,List.map_append]
 rw [hsz] at f
 exact f
theorem Zd (a:Option Addr) (n c:Nat) (l:List UInt8) (t:List UInt8) (o:t.length<=1000000) (w:World) (h:AM w a n c l) (hn:n<=1000000) :
 Calls prog 123 #[.slice a n c,.string (str t)] w fun e q=>∃ v,e=.returned v/\AC w.heap.size q v (l ++ Wi.txt t)/\Below w.heap.size w q:=by
 have hsz:(str t).size=t.length:=by simp [str,ByteArray.size]
 have u:=zH (Ze a n c l t.length (by omega) w h hn)
 have x:=zH (show (l ++ Wi.enc t.length).length<=1000010 by
  have:=h.len;have:=Wi.BG (v:=t.length) (by omega);rw [List.length_append];omega)
 have m:=zH hsz
 have z:(str t).size<=1000000:=by omega
 have y:=zH o
 clear hsz h o
 obtain⟨p,f⟩:∃ p,str t=p:=⟨_,rfl⟩
 rw [f] at z m ⊢
 have s:=zH f
 clear f
 go_in
 go_wp2_with fail
 rw [m.out]
 refine u.out.mono ?_;rintro e C ⟨B,rfl,j,d⟩
 go_wp2_with (at_builtin;refine Xh rfl _ _ rfl w.heap.size _ _ rfl j t (by rw [s.out];rfl) (by have:=x.out;have:=y.out;omega) d.size ?_;intro A F r i)
 go_ret
 exact⟨A,rfl,by rw [Wi.txt,<-List.append_assoc];exact r,d.grown i d.size (fun g i=>(j.lt g i).1)⟩
namespace Wi
theorem Cn (c:∀ j (e:j < b.length),j < k->128<=(b[j]).toNat) (d:k < b.length) (a:(b[k]?.getD 0).toNat < 128):run b=k :=
 Ic c (Nat.le_of_lt d) (fun h=>by rw [List.getElem?_eq_getElem h] at a;exact a)
theorem LE (a:∀ j (e:j < b.length),j < k->128<=(b[j]).toNat) (c:k=b.length) (d:k < 10):dec b=(0,0,5):=by
 have hr:run b=k:=Ic a (by omega) (fun h=>by omega)
 unfold dec;rw [hr,if_neg (by omega),if_pos c]
theorem JV (a:∀ j (d:j < b.length),j < 10->128<=(b[j]).toNat) (c:10<=b.length):dec b=(0,0,19):=by
 have hr:10<=run b:=Mr a c
 unfold dec;rw [if_pos hr]
theorem JR (d:∀ j (a:j < b.length),j < k->128<=(b[j]).toNat) (c:128<=(b[k]?.getD 0).toNat):∀ j (a:j < b.length),j < k+1->128<=(b[j]).toNat:=by
 intro j a e
 rcases Nat.lt_or_ge j k with h|h
 ·exact d j a h
 ·obtain rfl:j=k:=by omega
  rw [List.getElem?_eq_getElem a] at c;exact c
theorem PX (c:∀ j (f:j < b.length),j < 9->128<=(b[j]).toNat) (d:9 < b.length) (e:(b[9]?.getD 0).toNat < 128) (a:1 < (b[9]?.getD 0).toNat):dec b=(0,0,19):=by
 have hr:=Cn c d e
 unfold dec;rw [hr,if_neg (by omega),if_neg (by omega),if_pos ⟨rfl,by rw [List.getD_eq_getElem?_getD];exact a⟩]
theorem JU (c:∀ j (g:j < b.length),j < k->128<=(b[j]).toNat) (d:k < b.length) (f:k < 10) (e:(b[k]?.getD 0).toNat=0) (h0:0 < k):dec b=(0,0,6):=by
 have hr:=Cn c d (by omega)
 have a:b.getD k 0=0:=UInt8.toNat_inj.1 (by rw [List.getD_eq_getElem?_getD];exact e)
 unfold dec
 rw [hr,if_neg (by omega),if_neg (by omega),if_neg (by rintro⟨rfl,h⟩;rw [a] at h;exact absurd h (by decide)),if_pos ⟨h0,a⟩]
theorem NR (f:∀ j (l:j < b.length),j < k->128<=(b[j]).toNat) (a:k < b.length) (i:k < 10) (g:(b[k]?.getD 0).toNat < 128) (h0:0 < k->(b[k]?.getD 0).toNat ≠ 0) (d:k=9->(b[k]?.getD 0).toNat<=1) :
 dec b=(val (b.take k)+128 ^ k * ((b[k]?.getD 0).toNat % 128),k+1,0):=by
 have hr:=Cn f a g
 have hd:b.getD k 0=b[k]?.getD 0:=List.getD_eq_getElem?_getD
 unfold dec
 rw [hr,if_neg (by omega),if_neg (by omega),if_neg (by rintro⟨rfl,h⟩;rw [hd] at h;have:=d rfl;omega),if_neg (by rintro⟨h,e⟩;rw [hd] at e;exact h0 h (by rw [e];rfl))]
 have c:b.take (k+1)=b.take k ++ [b[k]]:=(List.take_append_getElem a).symm
 rw [c,Vj,List.length_take,Nat.min_eq_left (Nat.le_of_lt a),List.getElem?_eq_getElem a];rfl
theorem OQ (a:k<=b.length):val (b.take k) < 128 ^ k:=by
 have:=De (b.take k);rwa [List.length_take,Nat.min_eq_left a] at this
theorem DJ (a:k < b.length):val (b.take (k+1))=val (b.take k)+128 ^ k * ((b[k]?.getD 0).toNat % 128):=by
 have c:b.take (k+1)=b.take k ++ [b[k]]:=(List.take_append_getElem a).symm
 rw [c,Vj,List.length_take,Nat.min_eq_left (Nat.le_of_lt a),List.getElem?_eq_getElem a];rfl
end Wi
theorem Ek (V m Y:Nat) (h:bits BinOp.or IntKind.u64 (V:Int) (IntKind.u64.wrap ((m:Int) * 2 ^ (7 * 9)))=(Y:Int)) (a:m<=1):bits BinOp.or IntKind.u64 (V:Int) ((m:Int) * 9223372036854775808)=(Y:Int):=by
 have e:IntKind.u64.wrap ((m:Int) * 2 ^ (7 * 9))=(m:Int) * 9223372036854775808:=by
  unfold IntKind.wrap;simp only [IntKind.bits,IntKind.signed];simp;omega
 rwa [e] at h
theorem Bp (V m k:Nat) (n:k < 10) (g:V < 128 ^ k) (o:m < 128) (f:k=9->m<=1):bits BinOp.or IntKind.u64 (V:Int) (IntKind.u64.wrap ((m:Int) * 2 ^ (7 * k)))=((V+128 ^ k * m:Nat):Int):=by
 have a:(2:Nat) ^ (7 * k)=128 ^ k:=by rw [Nat.pow_mul]
 have i:128 ^ k * m < 18446744073709551616:=by
  rcases Nat.lt_or_ge k 9 with h|h
  ·have c:128 ^ k<=128 ^ 8:=Nat.pow_le_pow_right (by decide) (by omega)
   have l:128 ^ k * m<=128 ^ 8 * 127:=Nat.mul_le_mul c (by omega)
   omega
  ·obtain rfl:k=9:=by omega
   have:=f rfl;omega
 have d:V < 18446744073709551616:=by
  have c:128 ^ k<=128 ^ 9:=Nat.pow_le_pow_right (by decide) (by omega)
  omega
 have j:IntKind.u64.wrap ((m:Int) * 2 ^ (7 * k))=((128 ^ k * m:Nat):Int):=by
  have e:((m:Int) * 2 ^ (7 * k))=((128 ^ k * m:Nat):Int):=by
   rw [<-a];push_cast;exact Int.mul_comm _ _
  rw [e];generalize 128 ^ k * m=q at *
  unfold IntKind.wrap;simp only [IntKind.bits,IntKind.signed];simp;omega
 rw [j,u64_or_nat _ _ d i,Nat.add_comm,<-a,Nat.two_pow_add_eq_or_of_lt (by rw [a];exact g),Nat.or_comm]
theorem Kd (a:Option Addr) (n c:Nat) (b:List UInt8) (w:World) (h:AM w a n c b) (hn:n<=1000000) :
 Calls prog 185 #[.slice a n c] w fun e w'=>e=.returned (.tuple #[.int .u64 ((Wi.dec b).1:Nat),.int .i64 ((Wi.dec b).2.1:Nat),.int .i64 (Wi.dec b).2.2])/\w=w':=by
 have H:=zH h.len
 obtain⟨O,M,J,hd⟩:∃ O M J,Wi.dec b=(O,M,J):=⟨_,_,_,rfl⟩
 rw [hd]
 dsimp only
 have HD:=zH hd
 clear hd
 have g:Hid (∀ v k e,Wi.dec b=(v,k,e)->O=v/\M=k/\J=e):=zH (fun v k e hh=>by rw [HD.out] at hh;cases hh;exact⟨rfl,rfl,rfl⟩)
 go_in
 go_wp2_with fail
 go_loop [5,8] (fun v i=>∃ k:Nat,k<=10/\k<=n/\i=.int .i64 k/\v=.int .u64 (Wi.val (b.take k):Nat)/\Hid (∀ j (hj:j < b.length),j < k->128<=(b[j]).toNat)) (fun _ i=>10 - (intOf i).toNat)
 case atStart=>exact⟨0,by omega,by omega,rfl,by simp [Wi.val],zH (fun j _ hj=>by omega)⟩
 case round =>
  obtain⟨k,hk,R,rfl,rfl,l⟩:=hrel
  obtain⟨V,G⟩:∃ V,Wi.val (b.take k)=V:=⟨_,rfl⟩
  have Q:=zH (show V < 128 ^ k by rw [<-G];exact Wi.OQ (by rw [H.out];exact R))
  rw [G]
  have U:=zH G
  clear G
  by_cases B:k < 10
  ·have i2:(k:Int) < 10:=by omega
   have i0:(0:Int)<=(k:Int):=by omega
   by_cases zd:k < n
   ·obtain⟨bb,o,rfl,ze,t,Z⟩:=h.at zd
    obtain⟨x,u⟩:∃ x,b[k]?.getD 0=x:=⟨_,rfl⟩
    rw [u] at Z
    have r:=zH u
    have A:=zH (Wi.DJ t)
    rw [u,U.out] at A
    have p:=zH (Wi.NR l.out t B)
    rw [u,U.out] at p
    clear u
    have za:bits BinOp.and IntKind.u8 (x.toNat:Int) 127=((x.toNat % 128:Nat):Int):=by
     have W:=u8_and_nat x.toNat 127 x.toNat_lt (by decide)
     have h2:∀ y:Fin 256,(y.val &&& 127)=y.val % 128:=by decide
     have X:=h2 ⟨x.toNat,x.toNat_lt⟩
     simp only at X
     rw [X] at W
     simpa using W
    obtain⟨m,K⟩:∃ m,x.toNat % 128=m:=⟨_,rfl⟩
    rw [K] at za A p
    have P:m < 128:=by omega
    have HM:=zH K
    clear K
    have i1:(k:Int) < (n:Int):=by omega
    have i3:((k:Int) == (n:Int))=false:=by simp;omega
    have m0:(0:Int)<=(m:Int):=by omega
    have m1:(m:Int) < 128:=by omega
    by_cases F:k=9
    ·subst F
     by_cases C:128<=x.toNat
     ·have N:(128:Int)<=(x.toNat:Int):=by omega
      have d:=zH (g.out _ _ _ (Wi.JV (Wi.JR l.out (by rw [r.out];exact C)) (by omega)))
      go_wp2_with fail
      go_ret3
      obtain⟨rfl,rfl,rfl⟩:=d.out
      exact⟨rfl,rfl⟩
     ·have N:¬ (128:Int)<=(x.toNat:Int):=by omega
      have I:x.toNat=m:=by have:=HM.out;omega
      by_cases zf:1 < m
      ·have t2:(1:Int) < (m:Int):=by omega
       have d:=zH (g.out _ _ _ (Wi.PX l.out t (by rw [r.out];omega) (by rw [r.out];omega)))
       clear I
       go_wp2_with fail
       go_ret3
       obtain⟨rfl,rfl,rfl⟩:=d.out
       exact⟨rfl,rfl⟩
      ·have t2:¬ (1:Int) < (m:Int):=by omega
       have t3:(x.toNat:Int) < 128:=by omega
       have q:=Bp V m 9 (by decide) Q.out P (fun _=>by omega)
       obtain⟨Y,s⟩:∃ Y,V+128 ^ 9 * m=Y:=⟨_,rfl⟩
       rw [s] at q p
       have zb:=zH (Ek V m Y q (by omega))
       clear q
       by_cases f:x.toNat=0
       ·have t4:((x.toNat:Int) == 0)=true:=by simp;omega
        have d:=zH (g.out _ _ _ (Wi.JU l.out t (by decide) (by rw [r.out];exact f) (by decide)))
        clear I f s
        go_wp2_with fail
        go_ret3
        obtain⟨rfl,rfl,rfl⟩:=d.out
        exact⟨rfl,rfl⟩
       ·have t4:((x.toNat:Int) == 0)=false:=by simp;omega
        have d:=zH (g.out _ _ _ (p.out (by omega) (fun _=>f) (fun _=>by omega)))
        clear I f s
        go_wp2_with fail
        go_ret3
        obtain⟨rfl,rfl,rfl⟩:=d.out
        exact⟨congrArg (fun z=>Ending.returned (.tuple #[.int .u64 z,.int .i64 10,.int .i64 0])) zb.out,rfl⟩
    have t9:((k:Int) == 9)=false:=by simp;omega
    have q:=Bp V m k B Q.out P (fun e=>absurd e F)
    obtain⟨Y,s⟩:∃ Y,V+128 ^ k * m=Y:=⟨_,rfl⟩
    rw [s] at q p A
    clear s
    by_cases C:x.toNat < 128
    ·have N:(x.toNat:Int) < 128:=by omega
     by_cases zc:0 < k
     ·have t2:(0:Int) < (k:Int):=by omega
      by_cases f:x.toNat=0
      ·have t3:((x.toNat:Int) == 0)=true:=by simp;omega
       have d:=zH (g.out _ _ _ (Wi.JU l.out t B (by rw [r.out];exact f) zc))
       clear f
       go_wp2_with fail
       go_ret3
       obtain⟨rfl,rfl,rfl⟩:=d.out
       exact⟨rfl,rfl⟩
      ·have t3:((x.toNat:Int) == 0)=false:=by simp;omega
       have d:=zH (g.out _ _ _ (p.out C (fun _=>f) (fun e=>absurd e F)))
       clear f
       go_wp2_with fail
       go_ret3
       obtain⟨rfl,rfl,rfl⟩:=d.out
       exact⟨rfl,rfl⟩
     ·obtain rfl:k=0:=by omega
      have d:=zH (g.out _ _ _ (p.out C (fun e=>by omega) (fun e=>absurd e F)))
      have T:IntKind.u64.wrap ((m:Int) * 2 ^ (7 * 0))=(m:Int):=by unfold IntKind.wrap;simp only [IntKind.bits,IntKind.signed];simp;omega
      rw [T] at q
      clear T
      rw [Nat.add_zero] at Z
      have t3:((0:Int) == (n:Int))=false:=by simp;omega
      have t4:(0:Int) < (n:Int):=by omega
      go_wp2_with fail
      go_ret3
      obtain⟨rfl,rfl,rfl⟩:=d.out
      exact⟨rfl,rfl⟩
    ·have N:¬ (x.toNat:Int) < 128:=by omega
     have HN:=zH (Wi.JR l.out (k:=k) (by rw [r.out];omega))
     go_wp2_with fail
     go_round
     case rel=>exact⟨k+1,by omega,by omega,by go_num,by rw [A.out],HN⟩
     case measure=>simp [intOf];omega
   ·obtain rfl:k=n:=by omega
    have d:=zH (g.out _ _ _ (Wi.LE l.out H.out.symm B))
    go_wp2_with fail
    go_ret3
    obtain⟨rfl,rfl,rfl⟩:=d.out
    exact⟨rfl,rfl⟩
  ·obtain rfl:k=10:=by omega
   have d:=zH (g.out _ _ _ (Wi.JV l.out (by rw [H.out];exact R)))
   go_wp2_with fail
   go_ret3
   obtain⟨rfl,rfl,rfl⟩:=d.out
   exact⟨rfl,rfl⟩
theorem Wi.WO {v n:Nat} (h:Wi.dec b=(v,n,0)):n<=b.length/\n<=10:=by
 obtain⟨_,a,_,c,_⟩:=Wi.AY h;exact⟨a,c⟩
end
section
open Go.RowKit
theorem Wj (x:Nat) (q:x < 18446744073709551616) (w:World) :
 Calls prog 144 #[.int .u64 (x:Nat)] w fun e m=>∃ v,e=.returned v/\AC w.heap.size m v (Wi.enc x)/\Below w.heap.size w m:=by
 have n:=zH (Wi.BG q)
 go_in
 go_wp2_with fail
 go_loopw [0,3] (fun y u wr=>∃ (z:Nat) (p:List UInt8),z < 18446744073709551616/\y=.int .u64 (z:Nat)/\AC w.heap.size wr u p/\Hid (p ++ Wi.enc z=Wi.enc x)/\Below w.heap.size w wr) (fun y _ _=>(intOf y).toNat)
 case atStart=>exact⟨x,[],by omega,rfl,AC.nil _ _,zH rfl,Below.refl _ _⟩
 case round =>
  obtain⟨z,p,B,rfl,b,i,j⟩:=hrel
  have C:(0:Int)<=(z:Int):=Int.natCast_nonneg _
  have F:(z:Int)<=18446744073709551615:=by omega
  have hsz:=j.size
  have s:p.length<=10:=by
   have A:=n.out;have o:=congrArg List.length i.out
   rw [List.length_append] at o;omega
  by_cases l:z < 128
  ·have h:=zH (show p ++ [UInt8.ofNat z]=Wi.enc x by rw [<-i.out,Wi.FO l])
   have d:=zH (fun W t=>AM.RJ W (z:Int) (UInt8.ofNat z) (by rw [Wi.EF (by omega)]) t)
   go_wp2_with (at_builtin;refine Qc rfl _ _ rfl w.heap.size _ p rfl (b.alloc _) wr.heap.size 1 1 [UInt8.ofNat z] rfl (d.out _ _) (by omega) (by simp;omega) ?_;intro r k c a _)
   have f:Below w.heap.size w k:=(j.alloc (by omega) _).grown a (by simp;omega) (fun g a=>(b.lt g a).1)
   clear a
   go_wp2_with fail
   go_ret
   exact⟨_,rfl,by rw [<-h.out];exact c,f⟩
  ·have h:=zH (show (p ++ [UInt8.ofNat (z % 128+128)]) ++ Wi.enc (z / 128)=Wi.enc x by rw [<-i.out,Wi.GZ l,List.append_assoc];rfl)
   have d:=zH (fun W t=>AM.RJ W ((z:Int) % 128+128) (UInt8.ofNat (z % 128+128)) (by rw [Wi.EF (by omega)];simp) t)
   go_wp2_with (at_builtin;refine Qc rfl _ _ rfl w.heap.size _ p rfl (b.alloc _) wr.heap.size 1 1 [UInt8.ofNat (z % 128+128)] rfl (d.out _ _) (by omega) (by simp;omega) ?_;intro r k c a _)
   have f:Below w.heap.size w k:=(j.alloc (by omega) _).grown a (by simp;omega) (fun g a=>(b.lt g a).1)
   clear a
   go_wp2_with fail
   go_roundw
   case rel=>exact⟨z / 128,p ++ [UInt8.ofNat (z % 128+128)],by omega,by go_num,c,h,f⟩
   case measure=>simp [intOf];omega
theorem Cr (t:List UInt8) (h:t.length<=1000000) (w:World) :
 Calls prog 141 #[.string (str t)] w fun e j=>∃ v,e=.returned v/\AC w.heap.size j v (Wi.txt t)/\Below w.heap.size w j:=by
 have hsz:(str t).size=t.length:=by simp [str,ByteArray.size]
 have m:=zH (Wj t.length (by omega) w)
 have n:=zH (show (Wi.enc t.length).length<=10 from (Wi.BG (v:=t.length) (by omega)).2)
 have f:=zH hsz
 have p:(str t).size<=1000000:=by omega
 have o:=zH h
 clear hsz h
 obtain⟨i,b⟩:∃ i,str t=i:=⟨_,rfl⟩
 rw [b] at p f ⊢
 have l:=zH b
 clear b
 go_in
 go_wp2_with fail
 rw [f.out]
 refine m.out.mono ?_;rintro e s ⟨r,rfl,d,a⟩
 go_wp2_with (at_builtin;refine Xh rfl _ _ rfl w.heap.size _ _ rfl d t (by rw [l.out];rfl) (by have:=n.out;have:=o.out;omega) a.size ?_;intro q u k c)
 go_ret
 exact⟨q,rfl,k,a.grown c a.size (fun g c=>(d.lt g c).1)⟩
namespace Wi
theorem IY:∀ (l:List UInt8) (j:Nat),val (l.drop j)<=val l
|[],j=>by simp
|x :: l,0=>zN _
|x :: l,j+1=>by
  have:=IY l j
  simp only [List.drop_succ_cons,val];omega
theorem KT {l:List UInt8} {j:Nat} (h:j < l.length):val (l.drop j)=(l[j]).toNat % 128+128 * val (l.drop (j+1)):=by
 rw [List.drop_eq_getElem_cons h];rfl
end Wi
theorem Xk (a:Option Addr) (n c:Nat) (b:List UInt8) (w:World) (h:AM w a n c b) (hn:n<=1000000) :
 Calls prog 135 #[.slice a n c] w fun e w'=>e=.returned (.tuple #[.int .u64 ((Wi.dec b).1:Nat),.int .i64 ((Wi.dec b).2.1:Nat),.int .i64 (Wi.dec b).2.2])/\w=w':=by
 have R:=zH h.len
 obtain⟨N,M,G,hd⟩:∃ N M G,Wi.dec b=(N,M,G):=⟨_,_,_,rfl⟩
 rw [hd]
 dsimp only
 have HD:=zH hd
 clear hd
 have s:Hid (∀ v k e,Wi.dec b=(v,k,e)->N=v/\M=k/\G=e):=zH (fun v k e hh=>by rw [HD.out] at hh;cases hh;exact⟨rfl,rfl,rfl⟩)
 go_in
 go_wp2_with fail
 go_loop [6] (fun i=>∃ k:Nat,k<=10/\k<=n/\i=.int .i64 k/\Hid (∀ j (A:j < b.length),j < k->128<=(b[j]).toNat)) (fun i=>10 - (intOf i).toNat)
 case atStart=>exact⟨0,by omega,by omega,rfl,zH (fun j _ A=>by omega)⟩
 case round =>
  obtain⟨k,hk,zh,rfl,p⟩:=hrel
  have i0:(0:Int)<=(k:Int):=by omega
  by_cases O:k < 10
  ·have i2:(k:Int) < 10:=by omega
   have i4:((k:Int) == 10)=false:=by simp;omega
   by_cases zi:k < n
   ·obtain⟨bb,o,rfl,zn,m,hc⟩:=h.at zi
    obtain⟨x,B⟩:∃ x,b[k]?.getD 0=x:=⟨_,rfl⟩
    rw [B] at hc
    have q:=zH B
    have C:=zH (Wi.NR p.out m O)
    rw [B] at C
    have T:=zH (Wi.DJ m)
    rw [B] at T
    clear B
    have i1:(k:Int) < (n:Int):=by omega
    have i3:((k:Int) == (n:Int))=false:=by simp;omega
    by_cases zr:128<=x.toNat
    ·have t1:(128:Int)<=(x.toNat:Int):=by omega
     have HN:=zH (Wi.JR p.out (k:=k) (by rw [q.out];omega))
     go_wp2_with fail
     go_round
     case rel=>exact⟨k+1,by omega,by omega,by go_num,HN⟩
     case measure=>simp [intOf];omega
    ·have t1:¬ (128:Int)<=(x.toNat:Int):=by omega
     by_cases K:k=9/\1 < x.toNat
     ·obtain⟨rfl,d⟩:=K
      have t2:(1:Int) < (x.toNat:Int):=by omega
      have f:=zH (s.out _ _ _ (Wi.PX p.out m (by rw [q.out];omega) (by rw [q.out];exact d)))
      go_wp2_with fail
      go_ret3
      obtain⟨rfl,rfl,rfl⟩:=f.out
      exact⟨rfl,rfl⟩
     by_cases g:0 < k/\x.toNat=0
     ·have f:=zH (s.out _ _ _ (Wi.JU p.out m O (by rw [q.out];exact g.2) g.1))
      obtain⟨zo,g⟩:=g
      have t3:((x.toNat:Int) == 0)=true:=by simp;omega
      have t2:(0:Int) < (k:Int):=by omega
      by_cases e9:k=9
      ·subst e9
       have t4:¬ (1:Int) < (x.toNat:Int):=by omega
       clear g K
       go_wp2_with fail
       go_ret3
       obtain⟨rfl,rfl,rfl⟩:=f.out
       exact⟨rfl,rfl⟩
      ·have t4:((k:Int) == 9)=false:=by simp;omega
       clear g K
       go_wp2_with fail
       go_ret3
       obtain⟨rfl,rfl,rfl⟩:=f.out
       exact⟨rfl,rfl⟩
     have f:=zH (s.out _ _ _ (C.out (by omega) (fun d P=>g ⟨d,P⟩) (fun d=>by omega)))
     obtain⟨L,z⟩:∃ L,b.take (k+1)=L:=⟨_,rfl⟩
     have X:L.length=k+1:=by rw [<-z,List.length_take];omega
     have U:∀ j (A:j < k+1),L[j]?=b[j]?:=by intro j A;rw [<-z,List.getElem?_take_of_lt A]
     have zb:=zH (show Wi.val L < 18446744073709551616 by
      rw [<-z,Wi.DJ m,q.out]
      have d:=C.out (by omega) (fun d P=>g ⟨d,P⟩) (fun d=>by omega)
      exact (Wi.AY d).2.2.2.2)
     have zc:=zH (show N=Wi.val L/\M=k+1/\G=0 by
      rw [<-z,Wi.DJ m,q.out];exact f.out)
     have r:=zH (And.intro X U)
     clear z X U C T f
     have zp:n<=1000000:=hn
     have zq:=h
     have za:(k=0)\/(k=9/\¬ x.toNat=0)\/(0 < k/\¬ k=9/\¬ x.toNat=0):=by omega
     have H:k=0->¬ (0:Int) < (k:Int)/\((k:Int) == 9)=false:=fun e=>⟨by omega,by simp;omega⟩
     have J:k=9->((k:Int) == 9)=true/\w.cell? (bb (o+9))=some (.int .u8 (x.toNat:Int))/\(9:Int) < (n:Int)/\¬ (1:Int) < (x.toNat:Int)/\(0:Int) < (k:Int):=fun e=>⟨by simp;omega,by rw [<-e];exact hc,by omega,by omega,by omega⟩
     have g1:0 < k->(0:Int) < (k:Int):=fun e=>by omega
     have I:¬ k=9->((k:Int) == 9)=false:=fun e=>by simp;omega
     have u:¬ x.toNat=0->((x.toNat:Int) == 0)=false:=fun e=>by simp;omega
     clear g K
     rcases za with e|⟨e,t⟩|⟨e,t,e3⟩
     case' _=>
      obtain⟨f1,f2⟩:=H e
      clear e H J g1 I u
     rotate_left
     case' _=>
      obtain⟨f1,f2,f3,f4,f5⟩:=J e
      have f6:=u t
      clear e t H J g1 I u
     rotate_left
     case' _=>
      have f1:=g1 e
      have f2:=I t
      have f3:=u e3
      clear e t e3 H J g1 I u
     all_goals
      go_wp2_with fail
      go_loop [5,7] (fun v i=>∃ j:Nat,j<=k+1/\i=.int .i64 ((j:Int) - 1)/\v=.int .u64 (Wi.val (L.drop j):Nat)) (fun _ i=>(intOf i+1).toNat)
      case atStart=>exact⟨k+1,by omega,by go_num,by rw [List.drop_of_length_le (by rw [r.out.1];exact zN _)];rfl⟩
      case round =>
       obtain⟨j,A,rfl,rfl⟩:=hrel
       by_cases Y:1<=j
       ·obtain⟨j,rfl⟩:∃ i,j=i+1:=⟨j - 1,by omega⟩
        have zg:j < n:=by omega
        obtain⟨zm,o2,e5,zk,zl,zf⟩:=h.at zg
        cases e5
        obtain⟨y,Q⟩:∃ y,b[j]?.getD 0=y:=⟨_,rfl⟩
        rw [Q] at zf
        have F:=Wi.KT (l:=L) (j:=j) (by rw [r.out.1];omega)
        have W:L[j]'(by rw [r.out.1];omega)=y:=by
         have d:=r.out.2 j (by omega)
         rw [List.getElem?_eq_getElem (by rw [r.out.1];omega)] at d
         rw [<-Q,<-d];rfl
        rw [W] at F
        have ze:=Wi.IY L j
        have zj:=zb.out
        obtain⟨V,hV⟩:∃ V,Wi.val (L.drop (j+1))=V:=⟨_,rfl⟩
        rw [hV] at F ⊢
        have zd:=zH F
        have b1:128 * V < 18446744073709551616:=by omega
        have b2:(0:Int)<=(V:Int):=by omega
        have b3:(V:Int) * 128<=18446744073709551488:=by omega
        have b4:0<=(y.toNat:Int):=by omega
        have b5:(y.toNat:Int) < 256:=by have:=y.toNat_lt;omega
        have b6:V * 128+y.toNat % 128 < 18446744073709551616:=by omega
        have b7:(V:Int) * 128+(y.toNat:Int) % 128<=18446744073709551615:=by omega
        have Z:((((j+1:Nat):Int)) - 1)=(j:Int):=by omega
        rw [Z]
        have j0:(0:Int)<=(j:Int):=by omega
        have j1:(j:Int) < (n:Int):=by omega
        clear F ze zj hV W Q Z Y
        go_wp2_with fail
        go_round
        case rel=>exact⟨j,by omega,by go_num,by rw [zd.out];go_num⟩
        case measure=>simp [intOf]
       ·obtain rfl:j=0:=by omega
        rw [List.drop_zero]
        obtain⟨r1,r2,r3⟩:=zc.out
        rw [<-r1]
        have RK:=zH (And.intro r2 r3)
        clear r1 r2 r3 Y
        go_wp2_with fail
        go_ret3
        obtain⟨rfl,rfl⟩:=RK.out
        exact⟨rfl,rfl⟩
   ·obtain rfl:k=n:=by omega
    have f:=zH (s.out _ _ _ (Wi.LE p.out R.out.symm O))
    go_wp2_with fail
    go_ret3
    obtain⟨rfl,rfl,rfl⟩:=f.out
    exact⟨rfl,rfl⟩
  ·obtain rfl:k=10:=by omega
   have f:=zH (s.out _ _ _ (Wi.JV p.out (by rw [R.out];exact zh)))
   go_wp2_with fail
   go_ret3
   obtain⟨rfl,rfl,rfl⟩:=f.out
   exact⟨rfl,rfl⟩
theorem Nb (β:Bool) (a:Option Addr) (n c:Nat) (b:List UInt8) (w:World) (h:AM w a n c b) (hn:n<=1000000) :
 Calls prog (cond β 160 140) #[.slice a n c] w fun e O=>e=.returned (.tuple #[.string (str (Wi.CB b).1),.int .i64 ((Wi.CB b).2.1:Nat),.int .i64 (Wi.CB b).2.2])/\w=O:=by
 have A:=Mk.mk β
 cases β <;> dsimp only [cond]
 all_goals
  first|(replace A:Mk true:=A;have j:=Kd a n c b w h hn)|have j:=Xk a n c b w h hn
  obtain⟨v,k,z,hd⟩:∃ v k z,Wi.dec b=(v,k,z):=⟨_,_,_,rfl⟩
  rw [hd] at j
  dsimp only at j
  have p:=zH j
  have m:Hid (Wi.CB b=if z ≠ 0 then ([],0,z) else if 4096 < v then ([],0,3) else if b.length - k < v then ([],0,5) else ((b.drop k).take v,k+v,0)):=zH (by unfold Wi.CB;rw [hd])
  have d:=h.len
  clear j
  by_cases q:z=0
  ·subst q
   obtain⟨N,k2⟩:=Wi.WO hd
   rw [d] at N
   have K:=zH hd
   clear hd
   have k3:(0:Int)<=(k:Int):=by omega
   have k4:(0:Int)<=(v:Int):=by omega
   by_cases u:4096 < v
   ·have f:=zH (show Wi.CB b=([],0,3) by rw [m.out,if_neg (by simp),if_pos u])
    have I:(4096:Int) < (v:Int):=by omega
    clear d
    go_in
    go_wp2_with fail
    refine p.out.mono ?_;rintro e y ⟨rfl,rfl⟩
    go_wp2_with fail
    go_ret3
    rw [f.out]
    exact⟨rfl,rfl⟩
   have I:¬ (4096:Int) < (v:Int):=by omega
   have hw:IntKind.i64.wrap (v:Int)=(v:Int):=by rw [IntKind.wrap_i64];omega
   by_cases hs:n - k < v
   ·have f:=zH (show Wi.CB b=([],0,5) by rw [m.out,if_neg (by simp),if_neg u,if_pos (by rw [d];exact hs)])
    have H:(n:Int) - (k:Int) < (v:Int):=by omega
    clear d
    go_in
    go_wp2_with fail
    refine p.out.mono ?_;rintro e y ⟨rfl,rfl⟩
    go_wp2_with fail
    go_ret3
    rw [f.out]
    exact⟨rfl,rfl⟩
   have f:=zH (show Wi.CB b=((b.drop k).take v,k+v,0) by rw [m.out,if_neg (by simp),if_neg u,if_neg (by rw [d];exact hs)])
   have H:¬ (n:Int) - (k:Int) < (v:Int):=by omega
   have T:k+v<=n:=by omega
   have X:(k:Int)+(v:Int)<=(n:Int):=by omega
   have U:=h.le
   have W:n<=c:=h.2.1
   have F:=h.2.2.1
   unfold maxLen at F
   have R:=(Wi.AY K.out).2.2.1
   obtain⟨M,o,rfl,P,-,-⟩:=h.at (show 0 < n by omega)
   have C:=zH (show ∃ r,(b.drop k).take v=r from ⟨_,rfl⟩)
   obtain⟨r,g⟩:=C.out
   rw [g] at f
   have Y:IntKind.i64.wrap ((k:Int)+(v:Int))=(k:Int)+(v:Int):=by rw [IntKind.wrap_i64];omega
   by_cases Q:c=k
   case' pos=>
    have J:v=0:=by omega
    subst J
    have t:r=[]:=by rw [<-g];simp
    have G:=Qs (w:=w) (a:=some (M o)) (n:=0) (c:=0) (l:=r) ⟨by rw [t];rfl,Nat.zero_le _,by unfold maxLen;omega,(fun e=>by cases e),fun x _ i B=>by rw [t] at B;simp at B⟩
    clear t g d
    obtain rfl:n=k:=by omega
    obtain rfl:n=c:=by omega
   case' neg=>
    have s:=(h.drop (k:=k) (by omega)).take (k:=v) (by omega)
    rw [g] at s
    have G:=Qs s
    have Z:¬ (c:Int)=(k:Int):=by omega
    have h4:(k:Int)+(v:Int)<=(c:Int):=by omega
    have h5:((k:Int)+(v:Int)).toNat=k+v:=by omega
    clear s g d
   all_goals
    go_in
    go_wp2_with fail
    refine p.out.mono ?_;rintro e y ⟨rfl,rfl⟩
    go_wp2_with fail
    go_ret3
    rw [f.out]
    exact⟨rfl,rfl⟩
  ·have f:=zH (show Wi.CB b=([],0,z) by rw [m.out,if_pos q])
   have t1:(z != 0)=true:=by simpa using q
   clear q d hd
   go_in
   go_wp2_with fail
   refine p.out.mono ?_;rintro e y ⟨rfl,rfl⟩
   go_wp2_with fail
   go_ret3
   rw [f.out]
   exact⟨rfl,rfl⟩
end
end Go.Proofs.YtmanejniepghlaaGreatDoor
