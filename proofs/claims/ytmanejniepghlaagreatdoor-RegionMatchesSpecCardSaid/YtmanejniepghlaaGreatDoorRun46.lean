import Derived.Test.YtmanejniepghlaaGreatDoorRun45
import Derived.Test.YtmanejniepghlaaGreatDoorRun27
import Derived.Test.YtmanejniepghlaaGreatDoorRun2
namespace Go.Proofs.YtmanejniepghlaaGreatDoor
open Go.RowKit
section
variable {F:Nat->Prop} {w w':World} {g sb cb sc:Nat} {fa:Option Addr} {fn fc:Nat} {d d':Dd.Dk}
def XM (F:Nat->Prop) (w W:World) (g sb cb sc:Nat) (fa:Option Addr) (fn fc:Nat) (i h e N n:Nat) (R:Int × Dd.Dk) (k:Nat) (v:Value) (wr:World):Prop :=
 ∃ c l d' a b f,Ex.wr i h e (N - k) k l d'=R/\RD c wr g sb cb sc fa fn fc d'/\d'.st.length=n/\v=.slice a b f/\AM wr a b f l/\b=e - Ex.pos h e k/\(∀ y,a=some y->l ≠ []->y.block < w.heap.size/\¬ F y.block)/\AD F W c wr
theorem XM.ext {W wr w':World} {b c e N n:Nat} {R:Int × Dd.Dk} {k:Nat} {v:Value} (h:XM F w W g sb cb sc fa fn fc b c e N n R k v wr) (a:Below wr.heap.size wr w'):XM F w W g sb cb sc fa fn fc b c e N n R k v w':=by
 obtain⟨f,l,d',i,x,j,m,o,p,q,r,s,t,u⟩:=h
 exact⟨f,l,d',i,x,j,m,o.ext a,p,q,r.ext a,s,t,u.ext a⟩
def DS (F:Nat->Prop) (w:World) (g sb cb sc:Nat) (fa:Option Addr) (fn fc:Nat) (r:Int × Dd.Dk) (e:Ending) (w':World):Prop :=
 e=.returned (r.1:Value)/\∃ a,RD a w' g sb cb sc fa fn fc r.2/\AD F w a w'
theorem AD.back {F F':Nat->Prop} {w a b:World} (c:Below w.heap.size w a) (h:AD F a F' b):AD F w F' b:=(AD.AL c).trans h
set_option maxRecDepth 100000 in
set_option maxHeartbeats 8000000 in
theorem Wd (h:RD F w g sb cb sc fa fn fc d) (f c off:Int) (hf:ib f) (hc:ib c) (ho:ib off) (ap:Option Addr) (T ca:Nat) (x:List UInt8) (hx:AM w ap T ca x) (hF:∀ y,ap=some y->x ≠ []->¬ F y.block) :
 Calls Tryz.prog 91 #[.pointer g,.agg #[f,c],off,.slice ap T ca] w (DS F w g sb cb sc fa fn fc (Ex.write d f c off x)):=by
 have hb:=(Below.refl _ w).alloc (zN _) (.cells #[f,c] 23)
 have xw:=hx.len
 have vz:=hx.le
 have hl:ib (T:Int):=⟨by omega,by omega⟩
 have zq:=zH (Nq (h.ext ((Below.refl _ w).alloc (zN _) (.cells #[f,c] 23))) f c off T hc ho hl)
 have ya:FC (w.alloc (.cells #[f,c] 23)) w.heap.size f c:=Qb _ _ _ rfl
 have z0:(w.alloc (.cells #[f,c] 23)).cell? w.heap.size=some (f:Value):=ya.cells.1
 have z1:(w.alloc (.cells #[f,c] 23)).cell? (w.heap.size 1)=some (c:Value):=ya.cells.2
 obtain⟨R,H⟩:∃ R,Ex.write d f c off x=R:=⟨_,rfl⟩
 rw [H]
 unfold Ex.write at H
 rw [xw] at H
 obtain⟨ck,zv⟩:∃ ck,Ex.check d.st.length f c off T=ck:=⟨_,rfl⟩
 rw [zv] at H zq
 by_cases h0:ck=0
 ·subst h0
  rw [if_pos rfl] at H
  obtain⟨k1,k2,k3,k4,k5,k6,k7⟩:=Ex.EQ zv
  have vj:=h.ok.max
  have hsz:Ex.size c<=262144:=by unfold Ex.size;split <;> omega
  have vc:Ex.size c=c * 64:=by unfold Ex.size;rw [if_neg (by omega)]
  obtain⟨G,rfl⟩:∃ G:Nat,f=(G:Int):=⟨f.toNat,by omega⟩
  obtain⟨m,rfl⟩:∃ m:Nat,off=(m:Int):=⟨off.toNat,by omega⟩
  have ee:((m:Int)+(T:Int)).toNat=m+T:=by omega
  rw [ee] at H
  simp only [Int.toNat_natCast] at H
  obtain⟨e,he⟩:∃ e,e=m+T:=⟨_,rfl⟩
  rw [<-he] at H
  have xo:T=e - m:=by omega
  have xs:m<=e:=by omega
  have vx:e<=262144:=by omega
  have vy:G<=4096:=by omega
  obtain⟨n,hn⟩:∃ n,d.st.length=n:=⟨_,rfl⟩
  obtain⟨N,hN⟩:∃ N,N=Ex.cnt m e:=⟨_,rfl⟩
  rw [<-hN] at H
  have HN:=zH hN
  have vu:N<=5000:=by rw [hN];unfold Ex.cnt;split <;> omega
  have xu:∀ y,ap=some y->x ≠ []->y.block < w.heap.size/\¬ F y.block:=fun y i xr=>⟨by subst i;exact hx.blt xr,hF y i xr⟩
  have xc:XM F w (w.alloc (.cells #[G,c] 23)) g sb cb sc fa fn fc G m e N n R 0 (.slice ap T ca) (w.alloc (.cells #[G,c] 23)) :=
   ⟨F,x,d,ap,T,ca,H,h.ext hb,hn,rfl,hx.ext hb,by rw [Ex.DZ];exact xo,xu,AD.refl _ _⟩
  have HX:=zH xc
  have vi:=h.lt
  clear xc H zv k1 k2 k3 k4 k5 k6 k7 hsz vc ee hn hN hf hc ho hl vj hx xu hF xw he
  subst xo
  go_in
  go_wp2_with (go_at_call 134;go_must (refine zq.out.mono ?_);rintro e1 w1 ⟨rfl,yl⟩)
  have vv:(w.alloc (.cells #[G,c] 23)).heap.size=w.heap.size+1:=by simp
  have xi:=HX.out.ext yl
  generalize (w.alloc (.cells #[G,c] 23))=W0 at *
  clear zq HX z0 z1
  go_loopw [2,3,10,11,12,13,14,15,16] (fun i2 v3 _ _ _ _ _ _ _ wr=>∃ k:Nat,k<=N/\i2=.int .i64 (Ex.pos m e k:Nat)/\XM F w W0 g sb cb sc fa fn fc G m e N n R k v3 wr) (fun i2 _ _ _ _ _ _ _ _ _=>e - (intOf i2).toNat)
  case atStart=>exact⟨0,Nat.zero_le _,by rw [Ex.DZ],xi⟩
  case round =>
   obtain⟨k,M,rfl,hX⟩:=hrel
   clear xi
   by_cases xp:k < N
   ·have yr:=(Ex.GN m e k xs).2 (by rw [<-HN.out];exact xp)
    have zx:=Ex.FT m e k (by rw [<-HN.out];exact xp)
    have zp:=Ex.EY yr
    obtain⟨F1,l,d',a',n',s,B,hP,zg,rfl,hs,zb,yn,hU⟩:=hX
    have vf:N - k=(N - (k+1))+1:=by omega
    rw [vf] at B
    have xv:FC wr w.heap.size (G:Int) c:=(hU.block w.heap.size (by omega) (fun e=>Nat.lt_irrefl _ (vi _ e))).trans ya
    obtain⟨x0,x1⟩:=xv.cells
    obtain⟨p,hp⟩:∃ p,p=Ex.pos m e k:=⟨_,rfl⟩
    rw [<-hp] at yr zp zx zb
    obtain⟨u,hu⟩:∃ u,u=Ex.step e p:=⟨_,rfl⟩
    rw [<-hu] at zp zx
    have xa:Ex.pos m e (k+1)=p+u:=zx
    have zi:=hs.len
    obtain⟨r,yo⟩:∃ r,r=n':=⟨_,rfl⟩
    rw [<-yo] at hs zb zi
    rw [<-yo]
    clear yo
    have vl:(if 64 - ((p % 64:Nat):Int) < (r:Int) then 64 - ((p % 64:Nat):Int) else (r:Int))=(u:Int):=by rw [hu,zb];unfold Ex.step;omega
    obtain⟨b,o,rfl,vh,-⟩:=hs.at (show 0 < r by omega)
    have zu:=yn _ rfl (by intro e;rw [e] at zi;simp at zi;omega)
    have zz:¬ F1 b:=fun e=>by
     rcases hU.new b e with e|e
     ·exact zu.2 e
     ·have:=zu.1;simp only at this;omega
    have vr:=hs.2.1
    rw [<-hp]
    obtain⟨q,hq⟩:∃ q,q=p % 64:=⟨_,rfl⟩
    obtain⟨ix,xn⟩:∃ ix,ix=G+p / 64:=⟨_,rfl⟩
    rw [<-hq] at vl zp
    have vt:min (r:Int) (64 - (q:Int))=(u:Int):=by omega
    obtain⟨a,ht⟩:∃ a,a=q+u:=⟨_,rfl⟩
    have m1:(0:Int) < (r:Int):=by omega
    have m2:(p:Int) % 64=(q:Int):=by omega
    have m3:(G:Int)+(p:Int) / 64=(ix:Int):=by omega
    have m4:(q:Int)+(u:Int)=(a:Int):=by omega
    have m5:(q:Int)<=(a:Int):=by omega
    have m6:(p:Int)<=262144:=by omega
    have m7:(G:Int)<=4096:=by omega
    have m8:(a:Int)<=64:=by omega
    have m9:(u:Int)<=(r:Int):=by omega
    have ka:(r:Int)<=262144:=by omega
    have kb:(0:Int)<=(q:Int):=by omega
    have kc:q < 64:=by omega
    have kd:(u:Int)<=(s:Int):=by omega
    have ke:u<=s:=by omega
    have xy:u<=r:=by omega
    have kf:(0:Int)<=(u:Int):=by omega
    have kg:(r:Int)<=(s:Int):=by omega
    have xt:(l.take u).length=u:=by rw [List.length_take];omega
    have zj:=zH xt
    have yz:Ex.step e (Ex.pos m e k)=u:=by rw [<-hp];exact hu.symm
    have zy:Ex.pos m e k=p:=hp.symm
    have A:=zH (And.intro xa (And.intro zp (And.intro zb (And.intro zi (And.intro xn (And.intro yz zy))))))
    have yw:Ex.pos m e k % 64=q:=by rw [zy];exact hq.symm
    have HQ:=zH yw
    clear zx xa zp hu hq ht zb zi hp yz zy xn yr xt yw
    go_wp2
    go_quiet (fail)
    have zt:=hP.drewN nq
    have ys:AM (wr.drewN nq) (b o) r s l:=hs.AI (fun _ _ _=>rfl) (zN _)
    have yk:=hU.drewN nq
    have yh:∀ k,F1 k->k < (wr.drewN nq).heap.size:=hP.lt
    clear hP hs hU xv x0 x1 vh
    generalize wr.drewN nq=C at *
    obtain⟨zf,vo,S2⟩:∃ zf,(if s=u then some ((b o):Addr) else some (b (o+u)))=zf/\(∀ W,AM W (b o) r s l->AM W zf (r - u) (s - u) (l.drop u))/\(∀ y,zf=some y->y.block=b):=by
     refine⟨_,rfl,fun W hW=>?_,fun y i=>?_⟩
     ·by_cases Y:s=u
      ·have yp:r=u:=by omega
       rw [if_pos Y,Y,yp,Nat.sub_self,List.drop_of_length_le (by have:=A.out.2.2.2.1;omega)];exact AM.void _ _ _
      ·rw [if_neg Y];exact hW.drop xy
     ·by_cases Y:s=u
      ·rw [if_pos Y] at i;cases i;rfl
      ·rw [if_neg Y] at i;cases i;rfl
    have S7:AM (C.alloc (.cells #[] 5)) (b o) u s (l.take u):=(ys.ext ((Below.refl _ _).alloc (zN _) _)).take xy
    by_cases vs:u < 64
    ·have zc:Ex.step e (Ex.pos m e k) < 64:=by rw [A.out.2.2.2.2.2.1];omega
     have vm:(u:Int) < 64:=by omega
     have vn:=zH zg
     obtain⟨j,z,d1,hr⟩:∃ j z d1,Dd.read d' ((ix:Nat):Int)=(j,z,d1):=⟨_,_,_,rfl⟩
     have zw:Dd.read d' ((G+Ex.pos m e k / 64:Nat):Int)=(j,z,d1):=by rw [A.out.2.2.2.2.2.2,<-A.out.2.2.2.2.1];exact hr
     have yy:d1.st.length=n:=by have:=(Dd.BM d' ((ix:Nat):Int)).1;rw [hr] at this;rw [this];exact zg
     by_cases hz:z=0
     ·subst hz
      have xd:=Dd.CS zt.ok hr
      obtain⟨U,Q,hw⟩:∃ U Q,Dd.write d1 ((ix:Nat):Int) (j.take q ++ l.take u ++ j.drop a)=(U,Q):=⟨_,_,rfl⟩
      have vk:q+u=a:=by omega
      rw [Ex.IM zc zw (z2:=U) (d2:=Q) (by rw [A.out.2.2.2.2.2.1,HQ.out,vk,A.out.2.2.2.2.2.2,<-A.out.2.2.2.2.1];exact hw),A.out.2.2.2.2.2.1] at B
      have HR:=zH hr
      have HW:=zH hw
      have I:=zH B
      have yd:=zH xd
      have ye:=zH yy
      have yv:(j.take q ++ l.take u ++ j.drop a).length=64:=by rw [List.length_append,List.length_append,zj.out,List.length_take,List.length_drop];omega
      have vd:=zH yv
      clear hr zw hw B xd zc zg yy yv
      go_wp2_with (first
      |((show wpList _ _ _ (Oper.mk (some 45) _ _ _ _ _ :: _) _ _);go_must (refine Qc rfl _ _ rfl C.heap.size _ [] rfl (AC.empty C (zN _)) (b o) u s (l.take u) rfl S7 (by simp;omega) (by simp) ?_);intro v3 w3 zm zn _;have P:=((Below.refl C.heap.size C).alloc (zN _) (.cells #[] 5)).grown zn (by simp) (fun k M=>by cases M;exact zN _);have ve:=zH zm;obtain⟨a3,c3,rfl,yt,xj⟩:=zm.sl;rw [List.nil_append,zj.out] at yt ve;simp only [List.nil_append];rw [zj.out])
      |(go_at_call 77;go_must (refine (Xi (zt.ext P) _ HR.out).mono ?_);rintro e4 O ⟨v4,rfl,xe,X,J⟩;obtain⟨b4,K,rfl,vp,vq,yu⟩:=xe.NB yd.out))
      have vw:=yu.2.1
      have n1:(q:Int)<=(K:Int):=by omega
      have n2:q<=K:=by omega
      have n3:(a:Int)<=(K:Int):=by omega
      have n4:a<=K:=by omega
      have n5:a<=64:=by omega
      have n6:q<=64:=by omega
      have n7:IntKind.i64.wrap (a:Int)=(a:Int):=by rw [IntKind.wrap_i64];omega
      obtain⟨zr,va,S4⟩:∃ zr,(if K=a then some (b4:Addr) else some (b4 a))=zr/\∀ W,AM W b4 64 K j->AM W zr (64 - a) (K - a) (j.drop a):=by
       refine⟨_,rfl,fun W hW=>?_⟩
       by_cases Y:K=a
       ·have yp:a=64:=by omega
        rw [if_pos Y,Y,yp,Nat.sub_self,List.drop_of_length_le (by rw [yd.out];exact zN _)];exact AM.void _ _ _
       ·rw [if_neg Y];simpa using hW.drop n5
      have yx:AM O.drew a3 u c3 (l.take u):=(yt.upd J (fun y i _ e=>by have:=(xj y i).2.1;have:=yh _ e;omega)).AI (fun _ _ _=>rfl) (zN _)
      have yb:AM O.drew b4 64 K j:=yu.AI (fun _ _ _=>rfl) (zN _)
      have SQ:AM (O.drew.alloc (.cells #[] 5)) b4 q K (j.take q):=(yb.ext ((Below.refl _ _).alloc (zN _) _)).take n6
      have xq:(j.take q).length=q:=by rw [List.length_take,yd.out];omega
      have xb:=zH xq
      clear yt xj yu xq
      go_region_law (first
      |(refine Jd rfl (.tmp 57) (.tmp 60) rfl O.drew.heap.size _ [] (by simp [Act.eval]) (AC.empty O.drew (zN _)) b4 q K (j.take q) (by simp [Act.eval]) SQ (by simp;omega) (by simp) ?_;intro v5 w5 yi xk;have zk:=((Below.refl O.drew.heap.size O.drew).alloc (zN _) (.cells #[] 5)).grown xk (by simp) (fun k M=>by cases M;exact zN _))
      |(refine Jd rfl (.tmp 61) (.tmp 62) rfl O.drew.heap.size v5 (j.take q) (by simp [Act.eval]) yi a3 u c3 (l.take u) (by simp [Act.eval]) (yx.ext zk) (by have:=xb.out;omega) zk.size ?_;intro v6 w6 yj xl;have zl:=zk.grown xl zk.size (fun k M=>(yi.lt k M).1))
      |(refine Jd rfl (.tmp 63) (.tmp 68) rfl O.drew.heap.size v6 (j.take q ++ l.take u) (by simp [Act.eval]) yj zr (64 - a) (K - a) (j.drop a) (by simp [Act.eval]) (S4 _ (yb.ext zl)) (by rw [List.length_append];have:=xb.out;have:=zj.out;omega) zl.size ?_;intro v7 w7 xf xm;have zs:=zl.grown xm zl.size (fun k M=>(yj.lt k M).1);obtain⟨b9,c9,rfl,ym,vb,zo⟩:=AC.NB (l:=j.take q ++ l.take u ++ j.drop a) xf vd.out))
      have xg:=(X.AI (w':=O.drew) (fun _ _=>rfl) (zN _)).ext zs
      have xh:=(((yk.ext P).trans J).drew).ext zs
      have yf:=(((ys.ext P).upd J (fun y i _=>by cases i;exact zz)).AI (w':=O.drew) (fun _ _ _=>rfl) (zN _)).ext zs
      have ym:C.heap.size<=b9:=Nat.le_trans (Nat.le_trans P.size J.size) ym
      clear X J xf xm zs yj xl zl yi xk zk SQ S4 va yx yb
      have X:=xg
      have J:=xh
      clear xg xh
      have zh:∀ y:Addr,some (b9:Addr)=some y->j.take q ++ l.take u ++ j.drop a ≠ []->¬ F1 y.block:=fun y i _ e=>by cases i;have:=yh _ e;simp only at this;omega
      by_cases za:U=0
      ·subst za
       have t:=I.out
       rw [if_pos rfl] at t
       have zd:=zH t
       clear t I
       go_wp2_with (go_at_call 94;go_must (refine (Jz X _ zo zh HW.out).mono ?_);rintro e5 w5 ⟨rfl,F5,ze,Z⟩)
       go_quiet (fail)
       go_wp2
       obtain⟨g1,g2,g3,g4,g5,g6,g7⟩:=A.out
       have yg:=yf.upd Z (fun y i _=>by cases i;exact zz)
       have yc:Q.st.length=n:=by have:=Dd.BI d1 ((ix:Nat):Int) (j.take q ++ l.take u ++ j.drop a);rw [HW.out] at this;exact (congrArg List.length this).trans ye.out
       refine⟨⟨k+1,by omega,by rw [g1];go_num,⟨F5,l.drop u,Q,zf,r - u,s - u,zd.out,ze.drewN _,yc,rfl,(S2.1 _ yg).AI (fun _ _ _=>rfl) (zN _),by rw [g1];omega,(fun y i _=>by rw [S2.2 y i];exact zu),(J.trans Z).drewN _⟩⟩,?_⟩
       simp [intOf];omega
      ·have t2:(U != 0)=true:=by simpa using za
       have t:=I.out
       rw [if_neg za] at t
       have zd:=zH t
       clear t I za
       go_wp2_with (go_at_call 94;go_must (refine (Jz X _ zo zh HW.out).mono ?_);rintro e5 w5 ⟨rfl,F5,ze,Z⟩)
       go_ret
       rw [<-zd.out]
       exact⟨rfl,F5,ze,(J.trans Z).back hb⟩
     ·have t1:(z != 0)=true:=by simpa using hz
      rw [Ex.IP zc zw hz] at B
      have HR:=zH hr
      have I:=zH B
      clear hr zw B zc hz
      go_wp2_with (first
      |((show wpList _ _ _ (Oper.mk (some 45) _ _ _ _ _ :: _) _ _);go_must (refine Qc rfl _ _ rfl C.heap.size _ [] rfl (AC.empty C (zN _)) (b o) u s (l.take u) rfl S7 (by simp;omega) (by simp) ?_);intro v3 w3 zm zn _;have P:=((Below.refl C.heap.size C).alloc (zN _) (.cells #[] 5)).grown zn (by simp) (fun k M=>by cases M;exact zN _);skip)
      |(go_at_call 77;go_must (refine (Xi (zt.ext P) _ HR.out).mono ?_);rintro e4 O ⟨v4,rfl,xe,X,J⟩))
      go_ret
      rw [<-I.out]
      exact⟨rfl,F1,X,((yk.ext P).trans J).back hb⟩
    ·have zc:¬ Ex.step e (Ex.pos m e k) < 64:=by rw [A.out.2.2.2.2.2.1];omega
     obtain⟨U,Q,hw⟩:∃ U Q,Dd.write d' ((ix:Nat):Int) (l.take u)=(U,Q):=⟨_,_,rfl⟩
     rw [Ex.IL zc (z2:=U) (d2:=Q) (by rw [A.out.2.2.2.2.2.1,A.out.2.2.2.2.2.2,<-A.out.2.2.2.2.1];exact hw),A.out.2.2.2.2.2.1] at B
     have HW:=zH hw
     have I:=zH B
     have ye:=zH zg
     have xz:Hid (u=64):=zH (by omega)
     have vm:¬ (u:Int) < 64:=by omega
     clear hw B zc zg
     go_wp2_with ((show wpList _ _ _ (Oper.mk (some 45) _ _ _ _ _ :: _) _ _);go_must (refine Qc rfl _ _ rfl C.heap.size _ [] rfl (AC.empty C (zN _)) (b o) u s (l.take u) rfl S7 (by simp;omega) (by simp) ?_);intro v3 w3 zm zn _;have P:=((Below.refl C.heap.size C).alloc (zN _) (.cells #[] 5)).grown zn (by simp) (fun k M=>by cases M;exact zN _);obtain⟨b9,c9,rfl,ym,vb,zo⟩:=AC.NB (l:=l.take u) zm (by rw [zj.out];exact xz.out);have X:=zt.ext P;have J:=yk.ext P;have yf:=ys.ext P)
     have zh:∀ y:Addr,some (b9:Addr)=some y->l.take u ≠ []->¬ F1 y.block:=fun y i _ e=>by cases i;have:=yh _ e;simp only at this;omega
     by_cases za:U=0
     ·subst za
      have t:=I.out
      rw [if_pos rfl] at t
      have zd:=zH t
      clear t I
      go_wp2_with (go_at_call 94;go_must (refine (Jz X _ zo zh HW.out).mono ?_);rintro e5 w5 ⟨rfl,F5,ze,Z⟩)
      go_quiet (fail)
      go_wp2
      obtain⟨g1,g2,g3,g4,g5,g6,g7⟩:=A.out
      have yg:=yf.upd Z (fun y i _=>by cases i;exact zz)
      have yc:Q.st.length=n:=by have:=Dd.BI d' ((ix:Nat):Int) (l.take u);rw [HW.out] at this;exact (congrArg List.length this).trans ye.out
      refine⟨⟨k+1,by omega,by rw [g1];go_num,⟨F5,l.drop u,Q,zf,r - u,s - u,zd.out,ze.drewN _,yc,rfl,(S2.1 _ yg).AI (fun _ _ _=>rfl) (zN _),by rw [g1];omega,(fun y i _=>by rw [S2.2 y i];exact zu),(J.trans Z).drewN _⟩⟩,?_⟩
      simp [intOf];omega
     ·have t2:(U != 0)=true:=by simpa using za
      have t:=I.out
      rw [if_neg za] at t
      have zd:=zH t
      clear t I za
      go_wp2_with (go_at_call 94;go_must (refine (Jz X _ zo zh HW.out).mono ?_);rintro e5 w5 ⟨rfl,F5,ze,Z⟩)
      go_ret
      rw [<-zd.out]
      exact⟨rfl,F5,ze,(J.trans Z).back hb⟩
   ·obtain rfl:k=N:=by omega
    have yq:=Ex.MV m e xs
    rw [<-HN.out] at yq
    obtain⟨F1,l,d',a',n',s,B,hP,zg,rfl,hs,zb,yn,hU⟩:=hX
    rw [yq,Nat.sub_self] at zb
    subst zb
    rw [Nat.sub_self] at B
    have I:=zH B
    clear B yq hs yn
    go_wp2
    go_ret
    rw [<-I.out]
    exact⟨rfl,F1,hP,hU.back hb⟩
 ·rw [if_neg h0] at H
  have vg:=zH H
  have t0:(ck != 0)=true:=by simpa using h0
  clear H zv h0
  go_in
  go_wp2_with (go_at_call 134;go_must (refine zq.out.mono ?_);rintro e1 w1 ⟨rfl,yl⟩)
  go_ret
  have hB:=hb.trans (yl.mono (by simp))
  rw [<-vg.out]
  exact⟨rfl,F,h.ext hB,AD.AL hB⟩
end
end Go.Proofs.YtmanejniepghlaaGreatDoor
