import Derived.Test.YtmanejniepghlaaGreatDoorRun0
import Derived.OwnWalk
import Derived.IntWalk
import Derived.Lib.Strings
set_option maxHeartbeats 4000000
namespace Go.Proofs.YtmanejniepghlaaGreatDoor
open Go.RowKit
set_option maxRecDepth 100000
variable {l:List UInt8} {f i:Nat} {ps:List (List UInt8)}
theorem AZ (l:List UInt8):(str l).size=l.length:=by simp [str,ByteArray.size]
theorem FV (l:List UInt8) (i:Nat) (h:i < (str l).size):(str l)[i]=l[i]'(by rw [AZ] at h;exact h):=by simp [str];rfl
theorem EL (l:List UInt8) (i j:Nat):(str l).extract i j=str ((l.take j).drop i):=by
 rw [Lib.extract_eq,List.drop_take];rfl
namespace Ho
def Part (l:List UInt8) (i a:Nat) (ps:List (List UInt8)):Prop :=
 a<=i/\i<=l.length/\(∀ j (h:j < l.length),a<=j->j < i->l[j] ≠ 46)/\split l=ps ++ split (l.drop a)
theorem Part.start (l:List UInt8):Part l 0 0 []:=⟨zN _,Nat.zero_le _,fun j _ _ h=>by omega,rfl⟩
theorem Part.step (h:Part l i f ps) (n:i < l.length) (g:l[i] ≠ 46):Part l (i+1) f ps:=by
 obtain⟨k,m,a,b⟩:=h
 refine⟨by omega,by omega,fun j d c o=>?_,b⟩
 rcases Nat.lt_or_ge j i with e|e
 ·exact a j d c e
 ·obtain rfl:j=i:=by omega
  exact g
theorem Part.nodot (h:Part l i f ps):∀ x ∈ (l.take i).drop f,x ≠ 46:=by
 obtain⟨d,e,a,-⟩:=h
 intro x c
 obtain⟨j,b,rfl⟩:=List.mem_iff_getElem.1 c
 rw [List.length_drop,List.length_take] at b
 rw [List.getElem_drop,List.getElem_take]
 exact a _ (by omega) (by omega) (by omega)
theorem Part.cut (h:Part l i f ps) (d:i < l.length) (g:l[i]=46):Part l (i+1) (i+1) (ps ++ [(l.take i).drop f]):=by
 have hn:=h.nodot
 obtain⟨a,b,k,c⟩:=h
 refine⟨zN _,by omega,fun j _ m n=>by omega,?_⟩
 have e:l.drop f=(l.take i).drop f ++ 46 :: l.drop (i+1):=by
  conv=>lhs;rw [<-List.take_append_drop i l]
  rw [List.drop_append,List.length_take,Nat.min_eq_left b,Nat.sub_eq_zero_of_le a,List.drop_zero,List.drop_eq_getElem_cons d,g]
 rw [c,e,Vx _ _ hn];simp
theorem Part.done (h:Part l l.length f ps):split l=ps ++ [(l.take l.length).drop f]:=by
 have hn:=h.nodot
 obtain⟨b,c,d,a⟩:=h
 rw [a]
 rw [List.take_length] at hn ⊢
 rw [Qx _ hn]
end Ho
def WI (l:List UInt8) (a:World) (v f i:Value) (wr:World):Prop:=∃ (k m:Nat) (ps:List (List UInt8)),i=.int .i64 (k:Nat)/\f=.int .i64 (m:Nat)/\CW a.heap.size wr v ps/\ps.length<=k/\Below a.heap.size a wr ∧
 ((k<=l.length/\m<=k/\Hid (Ho.Part l k m ps))\/(k=l.length+1/\Hid (Ho.split l=ps)))
theorem Ve (l:List UInt8) (R:l.length<=1000000) (w:World) :
 Calls Tryz.prog 167 #[.string (str l),.int .u8 46] w fun e I=>∃ v,e=.returned v/\CW w.heap.size I v (Ho.split l)/\Below w.heap.size w I:=by
 have hsz:=AZ l
 have s:∀ k (h:k < l.length) (H:k < (str l).size),(str l)[k]'H=l[k]'h:=fun k h H=>FV _ _ _
 have hcut:=EL l
 obtain⟨sv,G⟩:∃ sv,sv=str l:=⟨_,rfl⟩
 rw [<-G] at hsz s hcut ⊢
 have r:=zH s
 have C:=zH hcut
 clear s hcut G
 go_in
 go_wp2_with fail
 go_loopw [5,6,7] (fun v f i wr=>WI l w v f i wr) (fun _ _ i _=>l.length+1 - (intOf i).toNat)
 case atStart=>exact⟨0,0,[],rfl,rfl,CW.nil _ _,zN _,Below.refl _ _,.inl ⟨Nat.zero_le _,zN _,zH (Ho.Part.start l)⟩⟩
 case round =>
  obtain⟨k,m,ps,rfl,rfl,d,P,o,J⟩:=hrel
  have T:(0:Int)<=(k:Int):=by omega
  have Z:(0:Int)<=(m:Int):=by omega
  have N:=o.size
  rcases J with⟨Q,O,n⟩|⟨rfl,n⟩
  ·have U:(k:Int)<=(l.length:Int):=by omega
   have X:(m:Int)<=(k:Int):=by omega
   have K:=C.out m k
   obtain⟨q,j⟩:∃ q,(l.take k).drop m=q:=⟨_,rfl⟩
   rw [j] at K
   have F:=zH (fun W t=>KW.one W q t)
   by_cases z:k < l.length
   ·have i3:(k:Int) < (l.length:Int):=by omega
    have Y:((k:Int) == (l.length:Int))=false:=by simp;omega
    have a:=r.out k z
    obtain⟨x,p⟩:∃ x,l[k]=x:=⟨_,rfl⟩
    rw [p] at a
    by_cases c:x=46
    ·have b:=zH (n.out.cut z (p.trans c))
     rw [j] at b
     have A:((x.toNat:Int) == 46)=true:=by rw [c];rfl
     clear j p c
     go_wp2_with (at_builtin;refine Xb rfl _ _ rfl w.heap.size _ ps rfl (d.alloc _) wr.heap.size 1 1 [q] rfl (F.out _ _) (by omega) (by simp;omega) ?_;intro M B u a)
     have y:Below w.heap.size w B:=(o.alloc (by omega) _).grown a (by simp;omega) (fun g a=>(d.lt g a).1)
     clear a
     go_wp2_with fail
     go_roundw
     case rel=>exact⟨k+1,k+1,ps ++ [q],by go_num,by go_num,u,by rw [List.length_append];simp;omega,y,.inl ⟨by omega,by omega,b⟩⟩
     case measure=>simp [intOf];omega
    ·have A:((x.toNat:Int) == 46)=false:=by
      apply beq_eq_false_iff_ne.2;intro e;apply c;apply UInt8.toNat_inj.1;exact Int.ofNat.inj e
     have b:=zH (n.out.step z (by rw [p];exact c))
     clear j p c
     go_wp2_with fail
     go_roundw
     case rel=>exact⟨k+1,m,ps,by go_num,rfl,d,by omega,o,.inl ⟨by omega,by omega,b⟩⟩
     case measure=>simp [intOf];omega
   ·obtain rfl:k=l.length:=by omega
    have b:=zH n.out.done
    rw [j] at b
    clear j r
    have A:((l.length:Int) == (l.length:Int))=true:=by simp
    go_wp2_with (at_builtin;refine Xb rfl _ _ rfl w.heap.size _ ps rfl (d.alloc _) wr.heap.size 1 1 [q] rfl (F.out _ _) (by omega) (by simp;omega) ?_;intro M B u a)
    have y:Below w.heap.size w B:=(o.alloc (by omega) _).grown a (by simp;omega) (fun g a=>(d.lt g a).1)
    clear a
    go_wp2_with fail
    go_roundw
    case rel=>exact⟨l.length+1,l.length+1,ps ++ [q],by go_num,by go_num,u,by rw [List.length_append];simp;omega,y,.inr ⟨rfl,b⟩⟩
    case measure=>simp [intOf]
  ·have A:¬ ((l.length+1:Nat):Int)<=(l.length:Int):=by omega
   clear r C
   go_wp2_with fail
   go_ret
   exact⟨_,rfl,by rw [n.out];exact d,o⟩
namespace Ho
def dg (b:UInt8):Int:=if 48<=b.toNat/\b.toNat<=57 then b.toNat - 48 else if 97<=b.toNat/\b.toNat<=102 then b.toNat - 87 else if 65<=b.toNat/\b.toNat<=70 then b.toNat - 55 else 99
theorem WP (b:UInt8):0<=dg b/\dg b<=99:=by
 have:=b.toNat_lt;unfold dg;split
 ·omega
 ·split
  ·omega
  ·split <;> omega
end Ho
theorem Dz (b:UInt8) (w:World) :
 Calls Tryz.prog 211 #[.int .u8 (b.toNat:Int)] w fun e s=>e=.returned (.int .i64 (Ho.dg b))/\w=s:=by
 have hd:Ho.dg b=if 48<=b.toNat/\b.toNat<=57 then (b.toNat:Int) - 48 else if 97<=b.toNat/\b.toNat<=102 then (b.toNat:Int) - 87 else if 65<=b.toNat/\b.toNat<=70 then (b.toNat:Int) - 55 else 99:=rfl
 have q:=b.toNat_lt
 obtain⟨x,p⟩:∃ x,b.toNat=x:=⟨_,rfl⟩
 rw [p] at hd q ⊢
 have j:=zH hd
 clear hd p
 by_cases a:48<=x/\x<=57
 ·have d:=zH (j.out.trans (if_pos a))
  obtain⟨a,c⟩:=a
  have n:(48:Int)<=(x:Int):=by omega
  have h:(x:Int)<=57:=by omega
  go_in
  go_wp2_with fail
  go_ret
  exact⟨by rw [d.out];rfl,rfl⟩
 by_cases c:97<=x/\x<=102
 ·have d:=zH (j.out.trans ((if_neg a).trans (if_pos c)))
  obtain⟨c,g⟩:=c
  have m:(48:Int)<=(x:Int):=by omega
  have n:¬ (x:Int)<=57:=by omega
  have h:(97:Int)<=(x:Int):=by omega
  have o:(x:Int)<=102:=by omega
  clear a
  go_in
  go_wp2_with fail
  go_ret
  exact⟨by rw [d.out,show (x:Int) - 87=(x:Int) - 97+10 by omega];rfl,rfl⟩
 by_cases g:65<=x/\x<=70
 ·have d:=zH (j.out.trans ((if_neg a).trans ((if_neg c).trans (if_pos g))))
  obtain⟨g,t⟩:=g
  have m:(48:Int)<=(x:Int):=by omega
  have n:¬ (x:Int)<=57:=by omega
  have h:¬ (97:Int)<=(x:Int):=by omega
  have o:(65:Int)<=(x:Int):=by omega
  have k:(x:Int)<=70:=by omega
  clear a c
  go_in
  go_wp2_with fail
  go_ret
  exact⟨by rw [d.out,show (x:Int) - 55=(x:Int) - 65+10 by omega];rfl,rfl⟩
 ·have d:=zH (j.out.trans ((if_neg a).trans ((if_neg c).trans (if_neg g))))
  by_cases u:48<=x
  ·have m:(48:Int)<=(x:Int):=by omega
   have n:¬ (x:Int)<=57:=by omega
   by_cases y:97<=x
   ·have h:(97:Int)<=(x:Int):=by omega
    have o:¬ (x:Int)<=102:=by omega
    have k:(65:Int)<=(x:Int):=by omega
    have r:¬ (x:Int)<=70:=by omega
    clear a c g
    go_in
    go_wp2_with fail
    go_ret
    exact⟨by rw [d.out];rfl,rfl⟩
   ·have h:¬ (97:Int)<=(x:Int):=by omega
    by_cases z:65<=x
    case' pos=>
     have k:(65:Int)<=(x:Int):=by omega
     have r:¬ (x:Int)<=70:=by omega
    case' neg=>have k:¬ (65:Int)<=(x:Int):=by omega
    all_goals
     clear a c g
     go_in
     go_wp2_with fail
     go_ret
     exact⟨by rw [d.out];rfl,rfl⟩
  ·have m:¬ (48:Int)<=(x:Int):=by omega
   have h:¬ (97:Int)<=(x:Int):=by omega
   have k:¬ (65:Int)<=(x:Int):=by omega
   clear a c g
   go_in
   go_wp2_with fail
   go_ret
   exact⟨by rw [d.out];rfl,rfl⟩
theorem Bc (l:List UInt8) (G:l.length<=1000000) (w:World) :
 Calls Tryz.prog 189 #[.string (str l)] w fun e B=>e=.returned (.bool (l.all Ho.decd && !l.isEmpty))/\w=B:=by
 have hsz:=AZ l
 have g:∀ k (h:k < l.length) (q:k < (str l).size),(str l)[k]'q=l[k]'h:=fun k h q=>FV _ _ _
 have n:(str l).toList=l:=AQ l
 obtain⟨sv,o⟩:∃ sv,sv=str l:=⟨_,rfl⟩
 rw [<-o] at hsz g n ⊢
 have r:=zH g
 have u:=zH n
 clear g o n
 go_in
 go_wp2_with fail
 go_loop [3] (fun i=>∃ k:Nat,k<=l.length/\i=.int .i64 k/\Hid (∀ x ∈ l.take k,Ho.decd x=true)) (fun i=>l.length - (intOf i).toNat)
 case atStart=>exact⟨0,Nat.zero_le _,rfl,zH (by simp)⟩
 case round =>
  obtain⟨k,F,rfl,m⟩:=hrel
  have H:(0:Int)<=(k:Int):=by omega
  by_cases j:k < l.length
  ·have I:(k:Int) < (l.length:Int):=by omega
   have C:=r.out k j
   have t:=zH (List.take_succ_eq_append_getElem j)
   have s:=zH (List.getElem_mem j)
   generalize l[k]=b at *
   by_cases c:48<=b.toNat/\b.toNat<=57
   ·have y:=zH (show ∀ x ∈ l.take (k+1),Ho.decd x=true by
     rw [t.out];intro x a
     rcases List.mem_append.1 a with a|a
     ·exact m.out x a
     ·simp at a;subst a;simp [Ho.decd,c])
    obtain⟨c,z⟩:=c
    have p:¬ (b.toNat:Int) < 48:=by omega
    have A:¬ (57:Int) < (b.toNat:Int):=by omega
    go_wp2_with fail
    go_round
    case rel=>exact⟨k+1,by omega,by go_num,y⟩
    case measure=>simp [intOf];omega
   ·have d:=zH (show (l.all Ho.decd && !l.isEmpty)=false by
     have:l.all Ho.decd=false:=by rw [List.all_eq_false];exact⟨b,s.out,by simp [Ho.decd];omega⟩
     rw [this];rfl)
    by_cases z:b.toNat < 48
    ·have p:(b.toNat:Int) < 48:=by omega
     clear c
     go_wp2_with fail
     go_ret
     exact⟨by rw [d.out];rfl,rfl⟩
    ·have p:¬ (b.toNat:Int) < 48:=by omega
     have A:(57:Int) < (b.toNat:Int):=by omega
     clear c
     go_wp2_with fail
     go_ret
     exact⟨by rw [d.out];rfl,rfl⟩
  ·obtain rfl:k=l.length:=by omega
   rw [List.take_length] at m
   have d:=zH (show l.all Ho.decd=true by rw [List.all_eq_true];exact m.out)
   go_wp2_with fail
   go_ret
   refine⟨?_,rfl⟩
   rw [d.out]
   show Ending.returned (.bool (!sv.toList.isEmpty))=_
   rw [u.out];rfl
def FX (l:List UInt8) (w:World) (e:Ending) (w':World):Prop:=∃ b c,e=.returned (.slice (b:Nat) (Ho.parts l).length c)/\KW w' b (Ho.parts l).length c (Ho.parts l)/\Below w.heap.size w w'
theorem CW.RO {base:Nat} {w:World} {v:Value} {l:List (List UInt8)} (h:CW base w v l) (p:0 < l.length):∃ g c,v=.slice (g:Nat) l.length c/\l.length<=c/\c<=maxLen/\KW w g l.length c l:=by
 obtain⟨a,c,rfl,hs⟩:=h.sl
 rcases id h.2 with⟨b,hn⟩|⟨g,cap,k,b,o,n,e,d,m,j⟩
 ·omega
 ·cases b
  exact⟨g,c,rfl,e,d,hs⟩
namespace Ho
theorem Ym {l:List (List UInt8)} (_h:0 < l.length):l.getLastD []=l[l.length - 1]?.getD []:=by
 rw [List.getLastD_eq_getLast?,List.getLast?_eq_getElem?]
theorem IU (h:(split l).length<=1):parts l=split l:=by unfold parts;rw [if_neg (by omega)]
theorem LN (h:1 < (split l).length) (a:(split l)[(split l).length - 1]?.getD []=[]):parts l=(split l).take ((split l).length - 1):=by
 unfold parts;rw [if_pos ⟨h,by rw [Ym (by omega)];exact a⟩,List.dropLast_eq_take]
theorem KF (a:(split l)[(split l).length - 1]?.getD [] ≠ []):parts l=split l:=by
 have b:=List.length_pos_iff.2 (BH l)
 unfold parts;rw [if_neg (by rintro⟨h,e⟩;rw [Ym b] at e;exact a e)]
end Ho
theorem Ea (l:List UInt8) (O:l.length<=1000000) (w:World) :
 Calls Tryz.prog 188 #[.string (str l)] w (FX l w):=by
 have p:=zH (Ve l O w)
 have H:=List.length_pos_iff.2 (Ho.BH l)
 have B:=Ho.DD l
 obtain⟨ps,F⟩:∃ ps,Ho.split l=ps:=⟨_,rfl⟩
 have z:=zH (Ho.IU (l:=l))
 have s:=zH (Ho.LN (l:=l))
 have t:=zH (Ho.KF (l:=l))
 rw [F] at p H B z s t
 clear F
 obtain⟨sv,G⟩:∃ sv,str l=sv:=⟨_,rfl⟩
 rw [G] at p ⊢
 clear G
 obtain⟨n,hn⟩:∃ n,ps.length=n:=⟨_,rfl⟩
 rw [hn] at H B z s t
 have a:=zH hn
 clear hn
 by_cases P:n<=1
 ·obtain rfl:n=1:=by omega
  have d:=zH (z.out (zN _))
  go_in
  go_wp2_with fail
  refine p.out.mono ?_;rintro e J ⟨I,rfl,o,m⟩
  obtain⟨g,c,rfl,u,C,b⟩:=o.RO (by rw [a.out];omega)
  rw [a.out] at b ⊢
  go_wp2_with fail
  go_ret
  exact⟨g,c,by rw [d.out,a.out];rfl,by rw [d.out,a.out];exact b,m⟩
 ·have Q:(1:Int) < (n:Int):=by omega
  have R:(0:Int)<=(n:Int) - 1:=by omega
  have i3:(n:Int) - 1 < (n:Int):=by omega
  have T:((n:Int) - 1).toNat=n - 1:=by omega
  obtain⟨q,r⟩:∃ q,ps[n - 1]?.getD []=q:=⟨_,rfl⟩
  rw [r] at s t
  obtain⟨x,j⟩:∃ x,str q=x:=⟨_,rfl⟩
  by_cases h:q=[]
  ·have d:=zH (s.out (by omega) h)
   have N:x.toList.isEmpty=true:=by rw [<-j,h,AQ];rfl
   go_in
   go_wp2_with fail
   refine p.out.mono ?_;rintro e J ⟨I,rfl,o,m⟩
   obtain⟨g,c,rfl,u,C,b⟩:=o.RO (by rw [a.out];omega)
   rw [a.out] at b u ⊢
   obtain⟨_,_,A,K,M,y⟩:=b.at (k:=n - 1) (by omega)
   cases A
   rw [r,tv,j,Nat.zero_add] at y
   have U:(n:Int) - 1<=(c:Int):=by omega
   have W:n - 1<=c:=by omega
   clear h r j
   go_wp2_with fail
   go_ret
   exact⟨g,c,by rw [d.out,List.length_take,a.out,Nat.min_eq_left (Nat.sub_le _ _)];rfl,by rw [d.out,List.length_take,a.out,Nat.min_eq_left (Nat.sub_le _ _)];exact b.take (Nat.sub_le _ _),m⟩
  ·have d:=zH (t.out h)
   have N:x.toList.isEmpty=false:=by rw [<-j,AQ];simpa using h
   go_in
   go_wp2_with fail
   refine p.out.mono ?_;rintro e J ⟨I,rfl,o,m⟩
   obtain⟨g,c,rfl,u,C,b⟩:=o.RO (by rw [a.out];omega)
   rw [a.out] at b u ⊢
   obtain⟨_,_,A,K,M,y⟩:=b.at (k:=n - 1) (by omega)
   cases A
   rw [r,tv,j,Nat.zero_add] at y
   clear h r j
   go_wp2_with fail
   go_ret
   exact⟨g,c,by rw [d.out,a.out];rfl,by rw [d.out,a.out];exact b,m⟩
namespace Ho
def FS (t:List UInt8):Bool :=
 if t=[] then false else if pre t then (t.drop 2).all (fun b=>decide (dg b < 16)) else if 2<=t.length/\t.getD 0 0=48 then (t.drop 1).all (fun b=>decide (dg b < 8)) else t.all (fun b=>decide (dg b < 10))
theorem IF (t:List UInt8):pre t=true ↔ 2<=t.length/\t.getD 0 0=48/\(t.getD 1 0=120\/t.getD 1 0=88):=by
 unfold pre
 match t with
|[]=>simp
|[a]=>simp
 | a :: b :: r => simp; constructor
                  ·rintro (⟨d,c⟩|⟨d,c⟩)
                   ·exact⟨d,.inl c⟩
                   ·exact⟨d,.inr c⟩
                  ·rintro⟨d,c|c⟩
                   ·exact .inl ⟨d,c⟩
                   ·exact .inr ⟨d,c⟩
end Ho
theorem Je (w:World) (n:Nat):Below w.heap.size w (w.drewN n):=(Below.refl _ w).trans ⟨rfl,rfl,rfl,zN _,fun _ _=>rfl⟩
def PT (ok:Bool) (w:World) (e:Ending) (w':World):Prop:=(∃ z:Int,e=.returned (.tuple #[z,.bool ok]))/\Below w.heap.size w w'
theorem Bd (t:List UInt8) (ht:t.length<=1000000) (w:World) :
 Calls Tryz.prog 190 #[.string (str t)] w (PT (Ho.FS t) w):=by
 by_cases h0:t=[]
 ·have HR:=zH (show Ho.FS t=false by unfold Ho.FS;rw [if_pos h0])
  have e1:(str t).toList.isEmpty=true:=by rw [h0,AQ];rfl
  obtain⟨sv,s⟩:∃ sv,str t=sv:=⟨_,rfl⟩
  rw [s] at e1 ⊢
  clear h0 s
  go_in
  go_wp2_with fail
  go_ret2
  exact⟨⟨0,by rw [HR.out];rfl⟩,Below.refl _ _⟩
 have zk:1<=t.length:=List.length_pos_iff.2 h0
 have hsz:=AZ t
 have e1:(str t).toList.isEmpty=false:=by rw [AQ];simpa using h0
 have zd:∀ (g:0 < (str t).size),(str t)[0]'g=t.getD 0 0:=fun g=>by rw [FV,List.getD_eq_getElem?_getD,List.getElem?_eq_getElem (by rw [AZ] at g;exact g)];rfl
 have ze:∀ (g:1 < (str t).size),(str t)[1]'g=t.getD 1 0:=fun g=>by rw [FV,List.getD_eq_getElem?_getD,List.getElem?_eq_getElem (by rw [AZ] at g;exact g)];rfl
 have O:=zH (EL t)
 have zc:∀ k (h:k < t.length) (g:k < (str t).size),(str t)[k]'g=t[k]'h:=fun k h g=>FV _ _ _
 have zh:=zH (show Ho.FS t=_ from rfl)
 obtain⟨ok,T⟩:∃ ok,Ho.FS t=ok:=⟨_,rfl⟩
 have y:Hid (ok=if Ho.pre t then (t.drop 2).all (fun b=>decide (Ho.dg b < 16)) else if 2<=t.length/\t.getD 0 0=48 then (t.drop 1).all (fun b=>decide (Ho.dg b < 8)) else t.all (fun b=>decide (Ho.dg b < 10))):=zH (by rw [<-T];unfold Ho.FS;rw [if_neg h0])
 have r:=zH (Ho.IF t)
 rw [T]
 clear zh T h0
 obtain⟨M,n⟩:∃ x,t.getD 0 0=x:=⟨_,rfl⟩
 obtain⟨m,zf⟩:∃ x,t.getD 1 0=x:=⟨_,rfl⟩
 rw [n] at zd y r
 rw [zf] at ze r
 clear n zf
 obtain⟨sv,s⟩:∃ sv,str t=sv:=⟨_,rfl⟩
 rw [s] at hsz e1 zd ze O ⊢
 have N:Hid (∀ k (h:k < t.length) (g:k < sv.size),sv[k]'g=t[k]'h):=zH (by subst s;exact zc)
 clear zc s
 have tz:((M.toNat:Int) == 48)=decide (M=48):=by
  by_cases e:M=48
  ·subst e;rfl
  ·rw [decide_eq_false e];apply beq_eq_false_iff_ne.2;intro C;exact e (UInt8.toNat_inj.1 (Int.ofNat.inj C))
 have K:((m.toNat:Int) == 120)=decide (m=120):=by
  by_cases e:m=120
  ·subst e;rfl
  ·rw [decide_eq_false e];apply beq_eq_false_iff_ne.2;intro C;exact e (UInt8.toNat_inj.1 (Int.ofNat.inj C))
 have F:((m.toNat:Int) == 88)=decide (m=88):=by
  by_cases e:m=88
  ·subst e;rfl
  ·rw [decide_eq_false e];apply beq_eq_false_iff_ne.2;intro C;exact e (UInt8.toNat_inj.1 (Int.ofNat.inj C))
 by_cases I:2<=t.length
 case' neg=>
  have q:Hid (ok=t.all (fun b=>decide (Ho.dg b < 10))):=zH (by rw [y.out,if_neg (by rw [r.out];rintro⟨h,_⟩;exact I h),if_neg (by rintro⟨h,_⟩;exact I h)])
  have i2:¬ (2:Int)<=(t.length:Int):=by omega
  clear K F tz
 case' pos=>
  have i2:(2:Int)<=(t.length:Int):=by omega
  have i3:(0:Int) < (t.length:Int):=by omega
  have i4:(1:Int) < (t.length:Int):=by omega
  by_cases n:M=48
  case' neg=>
   have q:Hid (ok=t.all (fun b=>decide (Ho.dg b < 10))):=zH (by rw [y.out,if_neg (by rw [r.out];rintro⟨_,h,_⟩;exact n h),if_neg (by rintro⟨_,h⟩;exact n h)])
   rw [decide_eq_false n] at tz
   clear n K F
  case' pos=>
   rw [decide_eq_true n] at tz
   have hd:∃ (B:Int) (j:Nat),j<=2/\(j=2/\B=16/\(m=120\/m=88)\/j=1/\B=8/\¬(m=120\/m=88))/\Hid (ok=(t.drop j).all (fun b=>decide (Ho.dg b < B))):=by
    by_cases H:m=120\/m=88
    ·exact⟨16,2,by omega,.inl ⟨rfl,rfl,H⟩,zH (by rw [y.out,if_pos (r.out.2 ⟨I,n,H⟩)])⟩
    ·exact⟨8,1,by omega,.inr ⟨rfl,rfl,H⟩,zH (by rw [y.out,if_neg (by rw [r.out];rintro⟨_,_,h⟩;exact H h),if_pos ⟨I,n⟩])⟩
   obtain⟨B,j,hj,hd,q⟩:=hd
   have Q:=O.out j t.length
   rw [List.take_length] at Q
   obtain⟨c,A⟩:∃ c,t.drop j=c:=⟨_,rfl⟩
   rw [A] at Q q
   have zl:c.length<=1000000:=by rw [<-A,List.length_drop];omega
   have zi:=AZ c
   have za:∀ k (h:k < c.length) (g:k < (str c).size),(str c)[k]'g=c[k]'h:=fun k h g=>FV _ _ _
   obtain⟨J,U⟩:∃ J,str c=J:=⟨_,rfl⟩
   rw [U] at Q zi
   have zb:Hid (∀ k (h:k < c.length) (g:k < J.size),J[k]'g=c[k]'h):=zH (by subst U;exact za)
   clear za U A n N hj
   by_cases u:m=120
   case' pos=>
    rw [decide_eq_true u] at K
    obtain⟨rfl,o⟩:j=2/\B=16:=by rcases hd with⟨a,b,-⟩|⟨-,-,h⟩;exact⟨a,b⟩;exact absurd (.inl u) h
    clear u F hd
   case' neg=>
    rw [decide_eq_false u] at K
    rcases hd with⟨rfl,o,h⟩|⟨rfl,o,h⟩
    case' inl=>rw [decide_eq_true (show m=88 by rcases h with e|e;exact absurd e u;exact e)] at F
    case' inr=>rw [decide_eq_false (show ¬ m=88 from fun e=>h (.inr e))] at F
    all_goals clear u h
   all_goals
    go_in
    go_wp2_with fail
    go_quiet (fail)
    have P:=Je w nq
    go_wp2_with fail
 all_goals try
  have zb:=N
  clear O N
  obtain⟨B,o⟩:∃ B:Int,B=10:=⟨_,rfl⟩
  rw [<-o] at q
  obtain⟨c,A⟩:∃ c,c=t:=⟨_,rfl⟩
  subst A
  go_in
  go_wp2_with fail
  have P:=Below.refl w.heap.size w
 all_goals
  go_loop [5,6] (fun v i=>∃ (k:Nat) (z:Int),k<=c.length/\i=.int .i64 k/\v=.int .i64 z/\0<=z/\z<=1099511627776/\Hid (∀ x ∈ c.take k,Ho.dg x < B)) (fun _ i=>c.length - (intOf i).toNat)
  case atStart=>exact⟨0,0,Nat.zero_le _,rfl,rfl,by decide,by decide,zH (by simp)⟩
  case round =>
   obtain⟨k,z,hk,rfl,rfl,z0,z1,X⟩:=hrel
   have i0:(0:Int)<=(k:Int):=by omega
   by_cases R:k < c.length
   ·have i1:(k:Int) < (c.length:Int):=by omega
    have hg:=zb.out k R
    have zj:=zH (List.take_succ_eq_append_getElem R)
    have zg:=zH (List.getElem_mem R)
    generalize c[k]=b at *
    have G:=zH (fun W=>Dz b W)
    obtain⟨d0,d1⟩:=Ho.WP b
    obtain⟨d,hd⟩:∃ d,Ho.dg b=d:=⟨_,rfl⟩
    rw [hd] at G d0 d1
    have HD:=zH hd
    clear hd
    by_cases Z:d < B
    ·have HN:=zH (show ∀ x ∈ c.take (k+1),Ho.dg x < B by
      rw [zj.out];intro x p
      rcases List.mem_append.1 p with p|p
      ·exact X.out x p
      ·simp at p;subst p;rw [HD.out];exact Z)
     have c2:¬ B<=d:=by omega
     have c3:0<=z * B+d:=by subst o;omega
     have c4:z * B+d<=17592186044515:=by subst o;omega
     by_cases c5:z * B+d<=1099511627776
     ·subst o
      go_wp2_with (go_at_call 211;go_must (refine (G.out _).mono ?_);rintro e w1 ⟨rfl,rfl⟩)
      go_round
      case rel=>exact⟨k+1,_,by omega,by go_num,rfl,c3,c5,HN⟩
      case measure=>simp [intOf];omega
     ·subst o
      go_wp2_with (go_at_call 211;go_must (refine (G.out _).mono ?_);rintro e w1 ⟨rfl,rfl⟩)
      go_round
      case rel=>exact⟨k+1,1099511627776,by omega,by go_num,rfl,by omega,by omega,HN⟩
      case measure=>simp [intOf];omega
    ·have Y:=zH (show ok=false by
      rw [q.out,List.all_eq_false];exact⟨b,zg.out,by rw [HD.out];simpa using Z⟩)
     have c2:B<=d:=by omega
     clear Z
     subst o
     go_wp2_with (go_at_call 211;go_must (refine (G.out _).mono ?_);rintro e w1 ⟨rfl,rfl⟩)
     go_ret2
     exact⟨⟨0,by rw [Y.out];rfl⟩,P⟩
   ·obtain rfl:k=c.length:=by omega
    rw [List.take_length] at X
    have Y:=zH (show ok=true by rw [q.out,List.all_eq_true];intro x p;simpa using X.out x p)
    subst o
    go_wp2_with fail
    go_ret2
    exact⟨⟨z,by rw [Y.out];rfl⟩,P⟩
end Go.Proofs.YtmanejniepghlaaGreatDoor
