import Derived.Test.YtmanejniepghlaaGreatDoorRun40
import Derived.Test.YtmanejniepghlaaGreatDoorRun47
import Derived.Test.YtmanejniepghlaaGreatDoorRun29
import Derived.Test.YtmanejniepghlaaGreatDoorRun39
import Derived.Test.YtmanejniepghlaaGreatDoorRun17
namespace Go.Proofs.YtmanejniepghlaaGreatDoor
open _root_.Go.Proofs.Tryz
section
open Go.RowKit
open Dd (Dk)
variable {w w':World} {g n p q:Nat} {d:Dk} {F:Nat->Prop} {S:AH.St} {z:Int} {b x:List UInt8} {a:Option Addr}
abbrev RQ:=CP 142
theorem Yz (w:World):Calls prog 85 #[.pointer none] w fun e w'=>e=.returned (.bool true)/\w=w':=by
 go_in
 go_wp2
 go_ret
 exact⟨rfl,rfl⟩
theorem Vt (h:RQ w q g p S):Calls prog 85 #[.pointer q] w fun e w'=>e=.returned (.bool S.fl)/\w=w':=by
 have c:=h.fl
 clear h
 generalize S.fl=fl at *
 go_in
 go_wp2
 go_ret
 exact⟨rfl,rfl⟩
def BZ (g:Nat) (d:Dk) (F:Nat->Prop) (w:World):Prop:=∃ h c sc e fn f,RD F w g h c sc e fn f d
def GM (g q:Nat) (S:AH.St) (d:Dk) (F:Nat->Prop) (w:World):Prop:=∃ c p,F=P1 (P1 c p) q/\BZ g d c w/\EB w p g S.log/\¬ c p/\RQ w q g p S/\¬ c q/\q ≠ p
theorem BZ.fp (g:Nat) (d:Dk):Fp (BZ g d) where
 AI:=fun ⟨i,j,l,c,fn,e,h⟩ k f=>⟨i,j,l,c,fn,e,h.AI k f⟩
 lt:=fun ⟨_,_,_,_,_,_,h⟩=>h.lt
theorem BZ.ok (h:BZ g d F w):d.Ok:=by obtain⟨_,_,_,_,_,_,h⟩:=h;exact h.ok
theorem BZ.ext (h:BZ g d F w) (e:Below w.heap.size w w'):BZ g d F w':=(BZ.fp g d).ext h e
theorem BZ.AI (h:BZ g d F w) (k:∀ b,F b->w'.heap[b]?=w.heap[b]?) (c:w.heap.size<=w'.heap.size):BZ g d F w':=(BZ.fp g d).AI h k c
theorem BZ.lt (h:BZ g d F w):∀ k,F k->k < w.heap.size:=(BZ.fp g d).lt h
theorem GM.fp (g q:Nat) (S:AH.St) (d:Dk):Fp (GM g q S d) where
 AI:=fun ⟨i,p,e,c,f,j,h,l,m⟩ k s=>by
  subst e
  exact⟨i,p,rfl,c.AI (fun b o=>k b (.inl (.inl o))) s,f.same (k p (.inl (.inr rfl))),j,h.same (k q (.inr rfl)),l,m⟩
 lt:=fun ⟨i,p,e,c,f,j,h,l,m⟩=>by
  subst e
  rintro k ((r|rfl)|rfl)
  ·exact c.lt k r
  ·exact f.lt
  ·exact h.lt
theorem GM.ext (h:GM g q S d F w) (e:Below w.heap.size w w'):GM g q S d F w':=(GM.fp g q S d).ext h e
theorem GM.lt (h:GM g q S d F w):∀ k,F k->k < w.heap.size:=(GM.fp g q S d).lt h
theorem GM.forget (h:GM g q S d F w):∃ c,BZ g d c w/\AD F w c w:=by
 obtain⟨c,p,rfl,e,-⟩:=h
 exact⟨c,e,(AD.refl c w).more fun b f=>.inl (.inl f)⟩
theorem GM.turn {d':Dk} {f c:Nat->Prop} (h:EB w p g S.log) (j:¬ f p) (i:RQ w q g p S) (k:¬ f q) (m:q ≠ p) (l:BZ g d' c w') (u:AD f w c w') :
 GM g q S d' (P1 (P1 c p) q) w'/\AD (P1 (P1 f p) q) w (P1 (P1 c p) q) w':=by
 have o:¬ c p:=fun e=>by rcases u.new p e with e|e;exact j e;have:=h.lt;omega
 have n5:¬ c q:=fun e=>by rcases u.new q e with e|e;exact k e;have:=i.lt;omega
 exact⟨⟨c,p,rfl,l,h.same (u.block p h.lt j),o,i.same (u.block q i.lt k),n5,m⟩,(u.beside p).beside q⟩
section
variable {g:Nat} {d d':Dk} {F:Nat->Prop} {w:World}
theorem BZ.sectors (h:BZ g d F w):Calls prog 76 #[.pointer g] w fun e w'=>e=.returned (.int .i64 (d.st.length:Nat))/\w=w':=by
 obtain⟨i,j,k,c,fn,f,h⟩:=h;exact Ya h
theorem BZ.sync (h:BZ g d F w) (hr:Dd.sync d=(z,d')):Calls prog 92 #[.pointer g] w fun e w'=>e=.returned (z:Value)/\BZ g d' F w'/\AD F w F w':=by
 obtain⟨l,m,o,c,fn,f,h⟩:=h
 have h0:=Wc h
 rw [hr] at h0
 exact h0.mono fun e w' ⟨i,j,k⟩=>⟨i,⟨l,m,o,c,fn,f,j⟩,k⟩
theorem BZ.read (h:BZ g d F w) (i:Int) (hr:Dd.read d i=(b,z,d')):Calls prog 77 #[.pointer g,i] w fun e w'=>∃ v,e=.returned (.tuple #[v,z])/\AC w.heap.size w' v b/\BZ g d' F w'/\AD F w F w':=by
 obtain⟨r,s,t,c,fn,f,h⟩:=h
 refine (Xi h i hr).mono fun e w' j=>?_
 obtain⟨v,k,l,m,o⟩:=j
 exact⟨v,k,l,⟨r,s,t,c,fn,f,m⟩,o⟩
theorem BZ.write (h:BZ g d F w) (i:Int) {c:Nat} (s:AM w a n c x) (hF:∀ y,a=some y->x ≠ []->¬ F y.block) (hr:Dd.write d i x=(z,d')) :
 Calls prog 94 #[.pointer g,i,.slice a n c] w fun e w'=>e=.returned (z:Value)/\∃ f,BZ g d' f w'/\AD F w f w':=by
 obtain⟨t,u,A,j,fn,k,h⟩:=h
 refine (Jz h i s hF hr).mono fun e w' l=>?_
 obtain⟨m,f,o,r⟩:=l
 exact⟨m,f,⟨t,u,A,j,fn,k,o⟩,r⟩
theorem BZ.eread (h:BZ g d F w) (f c off len:Int) (t:ib f) (s:ib c) (ho:ib off) (u:ib len) (hr:Ex.read d f c off len=(b,z,d')) :
 Calls prog 80 #[.pointer g,.agg #[f,c],off,len] w fun e w'=>∃ v,e=.returned (.tuple #[v,z])/\AC w.heap.size w' v b/\BZ g d' F w'/\AD F w F w':=by
 obtain⟨y,A,B,i,fn,j,h⟩:=h
 have h0:=Cc h f c off len t s ho u
 unfold FM at h0
 rw [hr] at h0
 refine h0.mono fun e w' k=>?_
 obtain⟨v,l,m,o,r⟩:=k
 exact⟨v,l,m,⟨y,A,B,i,fn,j,o⟩,r⟩
theorem BZ.ewrite (h:BZ g d F w) (f c off:Int) (t:ib f) (s:ib c) (ho:ib off) {ca:Nat} (u:AM w a n ca x) (hF:∀ y,a=some y->x ≠ []->¬ F y.block) (hr:Ex.write d f c off x=(z,d')) :
 Calls prog 91 #[.pointer g,.agg #[f,c],off,.slice a n ca] w fun e w'=>e=.returned (z:Value)/\∃ i,BZ g d' i w'/\AD F w i w':=by
 obtain⟨A,B,C,j,fn,k,h⟩:=h
 have h0:=Wd h f c off t s ho a n ca x u hF
 unfold DS at h0
 rw [hr] at h0
 refine h0.mono fun e w' l=>?_
 obtain⟨m,i,o,r⟩:=l
 exact⟨m,i,⟨A,B,C,j,fn,k,o⟩,r⟩
def QX (g:Nat) (F:Nat->Prop) (w:World) (r:Option AO.L × List (List UInt8) × Int × Dk) (e:Ending) (w':World):Prop :=
 ∃ pv v c,e=.returned (.tuple #[pv,v,r.2.2.1])/\BR w.heap.size w' v r.2.1/\BZ g r.2.2.2 c w'/\AD F w c w' ∧
  ((r.1=none/\pv=.pointer none)\/∃ L p,r.1=some L/\pv=.pointer (p:Nat)/\w.heap.size<=p/\EB w' p g L/\¬ c p)
theorem BZ.wopen (h:BZ g d F w) (f c:Int) (H:ib f) (G:ib c) (ep:Nat) (A:ep < 4294967296) (hn:d.st.length<=1000) {r:Option AO.L × List (List UInt8) × Int × Dk} (hr:AO.open d f c ep=r) :
 Calls prog 83 #[.pointer g,.agg #[f,c],.int .u32 (ep:Nat)] w (QX g F w r):=by
 obtain⟨t,u,y,o,fn,s,h⟩:=h
 have m:=AO.LM (d:=d) (f:=f) (c:=c) (ep:=ep)
 have h0:=Ln h f c H G ep A hn
 rw [hr] at m h0
 obtain⟨lo,I,z,d'⟩:=r
 refine h0.mono ?_
 unfold JN QX
 cases lo with
|none =>
  rintro e w' ⟨rfl,i,j,k⟩
  have B:I=[]:=m rfl
  subst B
  exact⟨_,_,i,rfl,BR.nil _ _,⟨t,u,y,o,fn,s,j⟩,k,.inl ⟨rfl,rfl⟩⟩
|some L =>
  rintro e w' ⟨i,q,v,rfl,j,k,l,C⟩
  exact⟨_,v,i,rfl,k,⟨t,u,y,o,fn,s,l.disk⟩,C,.inr ⟨L,q,rfl,rfl,j,l.log,l.apart⟩⟩
end
end
section
open Go.RowKit
open Dd (Dk)
variable {a:Option Addr} {c n:Nat}
section
variable {g:Nat} {d d':Dk} {F:Nat->Prop} {w:World}
theorem BZ.restart (h:BZ g d F w) {f:List (Int × Int)} (p:CZ w a n c f) (hF:∀ y,a=some y->f ≠ []->¬ F y.block) (hr:Dd.restart d f=d') :
 Calls prog 36 #[.pointer g,.slice a n c] w fun e i=>e=.returned (.tuple #[])/\∃ b,BZ g d' b i/\AD F w b i:=by
 obtain⟨q,u,r,s,fn,t,h⟩:=h
 have h0:=Rt h a n c f p hF
 unfold GQ at h0;rw [hr] at h0
 refine h0.mono fun e i k=>?_
 obtain⟨l,b,j,m,o⟩:=k
 exact⟨l,b,⟨q,j,r,none,0,0,m⟩,o⟩
theorem BZ.arm (h:BZ g d F w) {l:List (Int × Int)} (r:CZ w a n c l) {z:Int} (hr:Dd.arm d l=(z,d')) :
 Calls prog 34 #[.pointer g,.slice a n c] w fun e f=>e=.returned (z:Value)/\∃ b,BZ g d' b f/\AD F w b f:=by
 obtain⟨s,t,u,x,fn,y,h⟩:=h
 have h0:=Ml h a n c l r
 unfold NE at h0;rw [hr] at h0
 refine h0.mono fun e f m=>?_
 obtain⟨o,b,i,k,j,p,q⟩:=m
 exact⟨o,b,⟨s,t,u,i,k,j,p⟩,q⟩
theorem BZ.off (h:BZ g d F w):Calls prog 39 #[.pointer g] w fun e b=>e=.returned (.bool d.off)/\w=b:=by
 obtain⟨j,k,l,f,fn,i,h⟩:=h;exact Mm h
theorem BZ.dirty (h:BZ g d F w):Calls prog 42 #[.pointer g] w fun e b=>∃ v,e=.returned v/\AS w.heap.size b v (Dd.dirty d)/\Below w.heap.size w b:=by
 obtain⟨j,k,l,f,fn,i,h⟩:=h;exact Ep h
theorem BZ.image (h:BZ g d F w):Calls prog 44 #[.pointer g] w fun e b=>∃ v,e=.returned v/\AC w.heap.size b v d.st.flatten/\Below w.heap.size w b:=by
 obtain⟨j,k,l,f,fn,i,h⟩:=h;exact Er h
theorem BZ.load (a:Option Addr) (k c:Nat) (l:List UInt8) (w:World) (j:1<=k) (m:k<=4096) (n:Nat) (hn:n=64 * k) (h:AM w a n c l):Calls prog 27 #[.slice a n c] w fun e b =>
 ∃ g F,e=.returned (.tuple #[.pointer (g:Nat),.int .i64 0])/\BZ g (Dd.load k l) F b/\(∀ k,F k->w.heap.size<=k)/\Below w.heap.size w b:=by
 subst hn
 refine (Lh a k c l w j m h).mono fun e b i=>?_
 obtain⟨F,g,s,f,sc,o,p,q,r⟩:=i
 exact⟨g,F,o,⟨s,f,sc,none,0,0,p⟩,q,r⟩
end
end
section
open Go.RowKit
open Dd (Dk)
variable {fc fn g q s1 s2 s3:Nat} {d:Dk} {w:World} {F:Nat->Prop} {S:AH.St} {fa:Option Addr} {L:AO.L}
theorem Wg (v:BS) (w:World):Calls prog 32 #[.pointer none,uv v] w fun e a=>e=.returned (.int .i64 12)/\Below w.heap.size w a:=by
 unfold uv uc
 go_in
 go_wp2_with fail
 refine (Yz _).mono ?_;rintro e b ⟨rfl,rfl⟩
 go_wp2_with fail
 go_ret
 exact⟨rfl,(Below.refl _ _).alloc (zN _) _⟩
theorem GM.open (h:GM g q S d F w):∃ a p s1 s2 s3 fa fn fc,F=P1 (P1 a p) q/\RW a w p g s1 s2 s3 fa fn fc S.log d/\RQ w q g p S/\¬ P1 a p q:=by
 obtain⟨a,p,rfl,⟨s1,s2,s3,fa,fn,fc,b⟩,c,f,i,j,k⟩:=h
 exact⟨a,p,s1,s2,s3,fa,fn,fc,rfl,⟨b,c,f⟩,i,fun e=>e.elim j k⟩
theorem GM.make {p:Nat} {a:Nat->Prop} (h:RW a w p g s1 s2 s3 fa fn fc L d) (hs:RQ w q g p S) (b:S.log=L) (hn:¬ P1 a p q):GM g q S d (P1 (P1 a p) q) w :=
 ⟨a,p,rfl,⟨s1,s2,s3,fa,fn,fc,h.disk⟩,b ▸ h.log,h.apart,hs,fun e=>hn (.inl e),fun e=>hn (.inr e)⟩
theorem RW.stay' {w':World} (h:RW F w q g s1 s2 s3 fa fn fc L d) (k:∀ b,P1 F q b->w'.heap[b]?=w.heap[b]?) (c:w.heap.size<=w'.heap.size):RW F w' q g s1 s2 s3 fa fn fc L d :=
 ⟨h.disk.AI (fun b a=>k b (.inl a)) c,h.log.same (k q (.inr rfl)),h.apart⟩
theorem RW.set (h:RW F w q g s1 s2 s3 fa fn fc L d) {b:Nat} (a:¬ P1 F q b) (o:Nat) (v:Value):RW F (w.setCell (b o) v) q g s1 s2 s3 fa fn fc L d :=
 h.stay' (fun k c=>heap_setCell_other _ _ _ _ (by rintro rfl;exact a c)) (by simp)
set_option maxRecDepth 100000 in
set_option maxHeartbeats 8000000 in
theorem Ci {n:Nat} {o:AH.St} {P:Dk} (h:GM g q S d F w) (za:AH.Ok n S) (u:BS) (hu:u.p.h.length<=900) {z:Int} (hr:AH.append S d u=(z,o,P)) :
 Calls prog 32 #[.pointer q,uv u] w fun e w'=>e=.returned (z:Value)/\∃ F',GM g q o P F' w'/\AD F w F' w':=by
 have c:=(Below.refl w.heap.size w).alloc (zN _) (.cells #[u.k,.string (str u.p.h),.bool u.p.s,u.p.x] 36)
 have U:=BV.new w u.k (str u.p.h) u.p.s u.p.x
 obtain⟨O,K⟩:∃ O,O=w.alloc (.cells #[u.k,.string (str u.p.h),.bool u.p.s,u.p.x] 36):=⟨_,rfl⟩
 have C:=zH K
 rw [<-K] at c U
 clear K
 have h0:=h.ext c
 obtain⟨F0,p,s1,s2,s3,fa,fn,fc,rfl,Q,hS,Z⟩:=h0.open
 have l:=zH (Vt hS)
 have zb:=hr
 unfold AH.append at hr
 unfold uv uc
 by_cases t:S.fl=true
 ·rw [if_pos t] at hr
  cases hr
  rw [t] at l
  go_in
  go_wp2_with fail
  rw [<-C.out]
  refine l.out.mono ?_;rintro e w1 ⟨rfl,rfl⟩
  go_wp2_with fail
  go_ret
  exact⟨rfl,_,h0,AD.AL c⟩
 ·rw [if_neg t] at hr
  have R:S.fl=false:=by simpa using t
  rw [R] at l
  have j:=zH (Cm u hu O)
  unfold KX uv uc at j
  obtain⟨y3,y4,y5,y6⟩:=U.cells
  by_cases y:AN.AB u=false
  ·rw [if_pos y] at hr
   cases hr
   rw [y] at j
   go_in
   go_wp2_with fail
   rw [<-C.out]
   refine l.out.mono ?_;rintro e w1 ⟨rfl,rfl⟩
   go_wp2_with fail
   refine j.out.mono ?_;rintro e w2 ⟨v2,rfl,T,f⟩
   go_wp2_with fail
   go_ret
   exact⟨rfl,_,h0.ext f,AD.AL (c.trans (f.mono c.size))⟩
  ·rw [if_neg y] at hr
   have zd:AN.AB u=true:=by simpa using y
   rw [zd] at j
   rcases ze:AO.append S.log d (AN.enc u) with⟨A,m,d1⟩
   rw [ze] at hr
   dsimp only at hr
   have zf:=za.log.fits
   have a:o.fl=o.log.fl:=by
    have:=(AH.GS za d u).2.2.1 R zd
    rw [zb] at this
    exact this
   clear zb
   go_in
   go_wp2_with fail
   rw [<-C.out]
   refine l.out.mono ?_;rintro e w1 ⟨rfl,rfl⟩
   go_wp2_with fail
   refine j.out.mono ?_;rintro e w2 ⟨v2,rfl,T,f⟩
   obtain⟨a2,c2,rfl,zo,-⟩:=T.sl
   have H:=hS.ext f
   have zr:=H.log
   have zn:RW F0 w2 p g s1 s2 s3 fa fn fc S.log d:=⟨Q.disk.ext f,Q.log.ext f,Q.apart⟩
   have zi:=zH (Ch zn zf a2 _ c2 (AN.enc u) zo ze)
   go_wp2_with fail
   refine zi.out.mono ?_;rintro e w3 ⟨rfl,F1,M,J⟩
   have zg:=H.lt
   have i:¬ P1 F1 p q:=fun e=>by
    rcases J.new q e with e|e
    ·exact Z e
    ·omega
   have b:=(H.same (J.block q zg Z)).QR m
   have X:AD (P1 (P1 F0 p) q) w (P1 (P1 F1 p) q) w3:=(AD.AL (c.trans (f.mono c.size))).trans (J.beside q)
   by_cases N:A=0
   ·subst N
    rw [if_neg (by decide),if_neg (by simp)] at hr
    rcases zc:AO.sync m d1 with⟨z2,L2,d2⟩
    rw [zc] at hr
    dsimp only at hr
    have zq:=b.log
    have zk:=zH (Lo M zc)
    go_wp2_with fail
    refine zk.out.mono ?_;rintro e w5 ⟨rfl,Y,W⟩
    have r:=(b.same (W.block q b.lt i)).QR L2
    have zm:=X.trans (W.beside q)
    have B:=zH (Ut Y.log)
    have zh:=r.log
    have zp:=r.fl
    have f17:=r.free 17
    cases hr
    dsimp only at a
    have I:=r.OL L2.fl
    have zj:=zH a
    clear a
    go_wp2_with fail
    refine B.out.mono ?_;rintro e w6 ⟨rfl,rfl⟩
    go_wp2_with fail
    go_ret
    rw [zj.out]
    exact⟨rfl,_,GM.make (Y.set i 17 _) I rfl i,zm.setCell (.inl (.inr rfl)) _ _⟩
   ·have t1:(A == 0)=false:=by simpa using N
    have zl:o={ S with log:=m,fl:=m.fl }/\z=A/\P=d1:=by
     by_cases G:A=11
     ·rw [if_pos G] at hr
      cases hr
      refine⟨?_,G.symm,rfl⟩
      dsimp only at a
      rw [<-a]
     ·rw [if_neg G,if_pos N] at hr
      cases hr
      refine⟨?_,rfl,rfl⟩
      dsimp only at a
      rw [<-a]
    obtain⟨rfl,rfl,rfl⟩:=zl
    have B:=zH (Ut M.log)
    have zh:=b.log
    have zp:=b.fl
    have f17:=b.free 17
    have I:=b.OL m.fl
    clear a hr
    go_wp2_with fail
    refine B.out.mono ?_;rintro e w6 ⟨rfl,rfl⟩
    go_wp2_with fail
    go_ret
    exact⟨rfl,_,GM.make (M.set i 17 _) I rfl i,X.setCell (.inl (.inr rfl)) _ _⟩
end
end Go.Proofs.YtmanejniepghlaaGreatDoor
