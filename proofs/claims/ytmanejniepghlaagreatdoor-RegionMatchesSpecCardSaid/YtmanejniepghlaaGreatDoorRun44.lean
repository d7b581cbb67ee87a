import Derived.Test.YtmanejniepghlaaGreatDoorRun43
import Derived.Test.YtmanejniepghlaaGreatDoorRun2
import Derived.Test.YtmanejniepghlaaGreatDoorRun40
set_option maxHeartbeats 64000000
set_option maxRecDepth 100000
namespace Go.Proofs.YtmanejniepghlaaGreatDoor
section
open Go.RowKit
open Dd (Dk)
variable {w:World} {g p q:Nat} {S:AH.St}
theorem AD.XS {c d:Nat->Prop} {w':World} {a:Nat} (u:AD (P1 c a) w (P1 d a) w') (h:w.heap.size<=a):AD c w d w' :=
 ⟨u.os,u.tape,u.output,u.size,fun k b hn=>u.block k b (fun e=>e.elim hn (fun e=>by omega)),fun k b=>by
  rcases u.new k (.inl b) with e|e
  ·rcases e with e|e
   ·exact .inl e
   ·exact .inr (by omega)
  ·exact .inr e⟩
theorem Ko (v:Int) (a:Option Addr) (n k:Nat) (w:World):Calls Tryz.prog 19 #[.pointer none,.agg #[v,.slice a n k]] w fun e b=>e=.returned (.int .i64 12)/\Below w.heap.size w b:=by
 go_in
 go_wp2_with fail
 refine (Yx _).mono ?_;rintro e c ⟨rfl,rfl⟩
 go_wp2_with fail
 go_ret
 exact⟨rfl,((Below.refl _ _).alloc (zN _) _).alloc (by simp) _⟩
theorem He {n:Nat} {S':AH.St} {d d':Dk} {F:Nat->Prop} (h:PS g q S d F w) (zf:AH.Ok n S) (kd:d.st.length<=1000) (c:Int) (a:Option Addr) (m k:Nat) (L:List AJ) (hs:AT w a m k L) (hL:∀ p ∈ L,p.h.length<=1000000) {z:Int} (hr:AH.compact S d c L=(z,S',d')) :
 Calls Tryz.prog 19 #[.pointer q,.agg #[c,.slice a m k]] w fun e w'=>e=.returned (z:Value)/\∃ F',PS g q S' d' F' w'/\AD F w F' w':=by
 have z0:(w.alloc (.cells #[.pointer q] 41)).heap.size=w.heap.size+1:=by simp
 obtain⟨u,zv⟩:∃ u,u=(w.alloc (.cells #[.pointer q] 41)).alloc (.cells #[c,.slice a m k] 44):=⟨_,rfl⟩
 have O:Below w.heap.size w u:=by rw [zv];exact ((Below.refl _ _).alloc (zN _) _).alloc (by omega) _
 have M:Bx u w.heap.size 41 (.pointer q):=by
  unfold Bx
  rw [zv,Qd _ _ _ (by omega),Qb _ _ _ rfl]
 have ya:AE u (w.heap.size+1) c (.slice a m k):=by
  unfold AE
  rw [zv,Qb _ _ _ z0.symm]
 have zp:=zH zv
 clear zv z0
 have h0:=h.ext O
 obtain⟨F0,p,s,mm,fa,fn,fc,rfl,hW,J,yy⟩:=h0.open
 have HF:=zH (Vs J)
 have y0:=M.cell
 obtain⟨y1,y2⟩:=ya.cells
 have xu:=hs.len
 unfold AH.compact at hr
 by_cases zz:S.fl=true
 ·rw [if_pos zz] at hr
  cases hr
  rw [zz] at HF
  go_in
  go_wp2_with fail
  rw [<-zp.out]
  go_wp2_with fail
  refine HF.out.mono ?_;rintro e w1 ⟨rfl,rfl⟩
  go_wp2_with fail
  go_ret
  exact⟨rfl,_,h0,AD.AL O⟩
 ·rw [if_neg zz] at hr
  have yf:S.fl=false:=by simpa using zz
  rw [yf] at HF
  have za:=zH (Oc c a m k L u (hs.ext O) hL)
  unfold DR at za
  rw [xu] at hr
  by_cases hv:AN.AK c L=false
  ·rw [if_pos (.inl hv)] at hr
   cases hr
   rw [hv] at za
   go_in
   go_wp2_with fail
   rw [<-zp.out]
   go_wp2_with fail
   refine HF.out.mono ?_;rintro e w1 ⟨rfl,rfl⟩
   go_wp2_with fail
   refine za.out.mono ?_;rintro e G ⟨v2,rfl,zu,X⟩
   go_wp2_with fail
   go_quiet (fail)
   go_wp2_with fail
   go_ret
   have I:Below u.heap.size u G:=X
   have ze:Below u.heap.size u (G.drewN nq):=I.trans ⟨rfl,rfl,rfl,zN _,fun _ _=>rfl⟩
   exact⟨rfl,_,h0.ext ze,AD.AL (O.trans (ze.mono O.size))⟩
  ·have yb:AN.AK c L=true:=by simpa using hv
   rw [yb,if_pos rfl,if_pos rfl] at za
   by_cases hc:S.lay.cap < m
   ·rw [if_pos (.inr hc)] at hr
    cases hr
    have t1:decide ((S.lay.cap:Int) < (m:Int))=true:=by simp;omega
    go_in
    go_wp2_with fail
    rw [<-zp.out]
    go_wp2_with fail
    refine HF.out.mono ?_;rintro e w1 ⟨rfl,rfl⟩
    go_wp2_with fail
    refine za.out.mono ?_;rintro e G ⟨v2,rfl,zu,X⟩
    have I:Below u.heap.size u G:=X
    have k0:G.cell? w.heap.size=some (.pointer q):=(M.same (I.block _ M.lt)).cell
    have k1:G.cell? ((w.heap.size+1) 1)=some (.slice a m k):=(AE.cells (ya.ext X)).2
    have k2:=(J.ext I).cap
    go_wp2_with fail
    go_quiet (fail)
    go_wp2_with fail
    go_ret
    have ze:Below u.heap.size u (G.drewN nq):=I.trans ⟨rfl,rfl,rfl,zN _,fun _ _=>rfl⟩
    exact⟨rfl,_,h0.ext ze,AD.AL (O.trans (ze.mono O.size))⟩
   ·rw [if_neg (by rw [yb];simp;omega)] at hr
    have t1:decide ((S.lay.cap:Int) < (m:Int))=false:=by simp;omega
    have r1:(m:Int)<=(S.lay.cap:Int):=by omega
    by_cases hg:S.sup.gen=18446744073709551615
    ·rw [if_pos hg] at hr
     cases hr
     go_in
     go_wp2_with fail
     rw [<-zp.out]
     go_wp2_with fail
     refine HF.out.mono ?_;rintro e w1 ⟨rfl,rfl⟩
     go_wp2_with fail
     refine za.out.mono ?_;rintro e G ⟨v2,rfl,zu,X⟩
     have I:Below u.heap.size u G:=X
     have k0:G.cell? w.heap.size=some (.pointer q):=(M.same (I.block _ M.lt)).cell
     have k1:G.cell? ((w.heap.size+1) 1)=some (.slice a m k):=(AE.cells (ya.ext X)).2
     have k2:=(J.ext I).cap
     have k3:G.cell? (q 11)=some (.int .u64 18446744073709551615):=by rw [(J.ext I).gen,hg];rfl
     go_wp2_with fail
     go_quiet (fail)
     go_wp2_with fail
     go_ret
     have ze:Below u.heap.size u (G.drewN nq):=I.trans ⟨rfl,rfl,rfl,zN _,fun _ _=>rfl⟩
     exact⟨rfl,_,h0.ext ze,AD.AL (O.trans (ze.mono O.size))⟩
    ·rw [if_neg hg] at hr
     obtain⟨b,yv⟩:∃ b,Sp.enc c L=b:=⟨_,rfl⟩
     rw [yv] at hr za
     obtain⟨l,zb⟩:∃ l,AH.next S b=l:=⟨_,rfl⟩
     obtain⟨ja,jb⟩:=AH.MB zf.val
     obtain⟨r,kn⟩:∃ r,(1 - S.sup.act).toNat=r:=⟨_,rfl⟩
     rw [kn] at hr
     have km:r < 2:=by omega
     have zc:l.act=(r:Int):=by rw [<-zb];show 1 - S.sup.act=_;omega
     have g1:IntKind.u64.wrap ((S.sup.gen:Int)+1)=(l.gen:Int):=by
      rw [<-zb]
      have:=zf.fits.1
      unfold IntKind.wrap
      simp [IntKind.bits,IntKind.signed,AH.next]
      omega
     have g2:IntKind.u32.wrap ((S.sup.AA:Int)+1)=(l.AA:Int):=by
      rw [<-zb]
      unfold IntKind.wrap
      simp [IntKind.bits,IntKind.signed,AH.next]
     have g3:(1:Int) - S.sup.act=(r:Int):=by rw [<-zb] at zc;exact zc
     have xb:b.length<=262144/\(b.length:Int)=l.len:=by
      rw [<-zb,<-yv]
      refine⟨?_,rfl⟩
      have:=(AH.KN zf.fit yb (by rw [xu];have:=zf.lay;rw [this] at hc;omega)).2
      exact this
     have vq:Su.AB l=true:=by
      unfold Su.AB
      rw [zc,<-xb.2]
      simp
      omega
     have xc:l.fits:=by
      rw [<-zb]
      refine⟨?_,Nat.mod_lt _ (by omega),AX.BX _ _⟩
      have:=zf.fits.1
      show S.sup.gen+1 < _
      omega
     have xk:=zH (fun a2 c2 W (hh:AM W a2 b.length c2 b)=>show Calls Tryz.prog 48 #[.slice a2 b.length c2] W fun e w'=>e=.returned (.int .u32 (l.sum:Nat))/\W=w' by rw [<-zb];exact Xr a2 b.length c2 b W hh)
     have zo:=zH zb
     have vt:=zH (show b ≠ [] by rw [<-yv];intro e;have:=(Sp.bound yb).2;rw [e] at this;simp at this)
     have zr:=zH xb
     have gG:((S.sup.gen:Int) == 18446744073709551615)=false:=by simp;omega
     obtain⟨H,kb⟩:∃ H,b.length=H:=⟨_,rfl⟩
     go_in
     go_wp2_with fail
     rw [<-zp.out]
     go_wp2_with fail
     refine HF.out.mono ?_;rintro e w1 ⟨rfl,rfl⟩
     go_wp2_with fail
     refine za.out.mono ?_;rintro e G ⟨v2,rfl,zu,X⟩
     have I:Below u.heap.size u G:=X
     obtain⟨a2,c2,rfl,xw,kh⟩:=zu.sl
     rw [kb] at xw xk zr ⊢
     have k0:G.cell? w.heap.size=some (.pointer q):=(M.same (I.block _ M.lt)).cell
     have k1:G.cell? ((w.heap.size+1) 1)=some (.slice a m k):=(AE.cells (ya.ext X)).2
     have k2:=(J.ext I).cap
     have k3:=(J.ext I).gen
     have jq:IntKind.i64.wrap (r:Int)=(r:Int):=by rw [IntKind.wrap_i64];omega
     clear kb zb ja jb kn yv hg hv hc
     go_wp2_with fail
     go_quiet (fail)
     go_wp2_with fail
     obtain⟨f,yr⟩:∃ f,f=G.drewN nq:=⟨_,rfl⟩
     have C:Below u.heap.size u f:=by rw [yr];exact I.trans ⟨rfl,rfl,rfl,zN _,fun _ _=>rfl⟩
     have xa:AM f a2 H c2 b:=by rw [yr];exact xw.AI (fun _ _ _=>rfl) (zN _)
     have vs:=zH (fun x hx=>(kh x hx).2.1)
     rw [<-yr]
     clear yr k0 k1 k2 k3
     have yi:=zH (fun (W:World) (e:Below f.heap.size f W)=>show W.cell? w.heap.size=some (.pointer q)/\W.cell? (q 11)=some (.int .u64 (S.sup.gen:Nat))/\W.cell? (q 12)=some (S.sup.act:Value)/\W.cell? (q 13)=some (.int .u32 (S.sup.AA:Nat)) from
      ⟨(M.same ((C.trans (e.mono C.size)).block _ M.lt)).cell,(J.ext (C.trans (e.mono C.size))).gen,(J.ext (C.trans (e.mono C.size))).act,(J.ext (C.trans (e.mono C.size))).AA⟩)
     have vu:=zH (fun (W:World) (e:Below f.heap.size f W)=>xa.ext e)
     have yh:=zH (fun (o:Obj)=>(Below.drew ((Below.refl f.heap.size f).alloc (zN _) o)))
     have xj:=zH (Below.drew (Below.refl f.heap.size f))
     have jo:=(J.ext C).lt
     have jr:w.heap.size < f.heap.size:=(M.same (C.block _ M.lt)).lt
     go_region_held3 (fun W=>W.cell? w.heap.size=some (.pointer q)/\W.cell? (q 11)=some (.int .u64 (S.sup.gen:Nat))/\W.cell? (q 12)=some (S.sup.act:Value)/\W.cell? (q 13)=some (.int .u32 (S.sup.AA:Nat))) (first|exact yi.out _ (Below.refl _ _)|exact yi.out _ xj.out|exact yi.out _ (yh.out _)) (first
     |(go_at_call 48;go_must (refine (xk.out _ _ _ (vu.out _ (by first|exact xj.out|exact yh.out _))).mono ?_);rintro e w4 ⟨rfl,rfl⟩))
     all_goals
      obtain⟨U,ys⟩:∃ U,U=(f.alloc (.cells #[.int .u64 (l.gen:Nat),r,.int .u32 (l.AA:Nat),H,.int .u32 (l.sum:Nat)] 94)).drew:=⟨_,rfl⟩
      have xt:Below f.heap.size f U:=by rw [ys];exact yh.out _
      have Z:U.heap[f.heap.size]?=some (.cells #[.int .u64 (l.gen:Nat),r,.int .u32 (l.AA:Nat),H,.int .u32 (l.sum:Nat)] 94 (0,0)):=by rw [ys];exact Qb _ _ _ rfl
      have ka:AF U f.heap.size l:=by
       unfold AF
       rw [zc,<-zr.out.2]
       exact Z
      rw [<-ys]
      have yk:=zH (Cg l vq xc)
      unfold supv at yk
      rw [zc,<-zr.out.2] at yk
      have c0:U.cell? f.heap.size=some (.int .u64 (l.gen:Nat)):=cell_of_row _ _ 0 _ _ _ Z
      have c1:U.cell? (f.heap.size 1)=some (r:Value):=cell_of_row _ _ 1 _ _ _ Z
      have jg:U.cell? (f.heap.size 2)=some (.int .u32 (l.AA:Nat)):=cell_of_row _ _ 2 _ _ _ Z
      have c3:U.cell? (f.heap.size 3)=some (H:Value):=cell_of_row _ _ 3 _ _ _ Z
      have c4:U.cell? (f.heap.size 4)=some (.int .u32 (l.sum:Nat)):=cell_of_row _ _ 4 _ _ _ Z
      clear ys
      go_wp2_with fail
      refine (yk.out _).mono ?_;rintro e t ⟨K,rfl,xy,jk,zj⟩
      go_wp2_with fail
      obtain⟨A,zw⟩:∃ A,A=(t.alloc (.cells #[.slice K 64 64] 70)).alloc (.cells #[.pointer none] 106):=⟨_,rfl⟩
      have z6:(t.alloc (.cells #[.slice K 64 64] 70)).heap.size=t.heap.size+1:=by simp
      have zx:Below t.heap.size t A:=by rw [zw];exact ((Below.refl _ _).alloc (zN _) _).alloc (by omega) _
      have xz:Bx A t.heap.size 70 (.slice K 64 64):=by unfold Bx;rw [zw,Qd _ _ _ (by omega),Qb _ _ _ rfl]
      have yx:Bx A (t.heap.size+1) 106 (.pointer none):=by unfold Bx;rw [zw,Qb _ _ _ z6.symm]
      rw [<-zw]
      clear zw z6 c0 c1 jg c3 c4
      have xq:Below f.heap.size f t:=xt.trans (zj.mono xt.size)
      have zt:Below f.heap.size f A:=xq.trans (zx.mono xq.size)
      have xs:A.heap[f.heap.size]?=some (.cells #[.int .u64 (l.gen:Nat),r,.int .u32 (l.AA:Nat),H,.int .u32 (l.sum:Nat)] 94 (0,0)):=((zj.trans (zx.mono zj.size)).block _ (Qa Z)).trans Z
      have Y:=J.ext (C.trans (zt.mono C.size))
      have zk:=M.same ((C.trans (zt.mono C.size)).block _ M.lt)
      have zs:=zH (fun (W:World) (e:Below A.heap.size A W)=>show W.cell? w.heap.size=some (.pointer q)/\W.cell? q=some (.pointer g)/\W.cell? (f.heap.size 1)=some (r:Value)/\W.cell? (q 1)=some (S.lay.cap:Value)/\W.cell? (q 2)=some (.int .i64 (S.lay.sf 0))/\W.cell? (q 3)=some (S.lay.sc:Value)/\W.cell? (q 4)=some (.int .i64 (S.lay.sf 1))/\W.cell? (q 5)=some (S.lay.sc:Value)/\W.cell? (q 6)=some (.int .i64 (S.lay.lf 0))/\W.cell? (q 7)=some (S.lay.lc:Value)/\W.cell? (q 8)=some (.int .i64 (S.lay.lf 1))/\W.cell? (q 9)=some (S.lay.lc:Value) from
       ⟨(zk.same (e.block _ zk.lt)).cell,(Y.ext e).disk,cell_of_row _ _ 1 _ _ _ ((e.block _ (Qa xs)).trans xs),(Y.ext e).at 1,(Y.ext e).at 2,(Y.ext e).at 3,(Y.ext e).at 4,(Y.ext e).at 5,(Y.ext e).at 6,(Y.ext e).at 7,(Y.ext e).at 8,(Y.ext e).at 9⟩)
      have yj:=zH (fun W=>Hf g S.lay (r:Int) a2 H c2 W)
      unfold layc EV EW at yj
      simp only [Iu,layc] at yj
      have xd:=zH (Below.drew (Below.refl A.heap.size A))
      go_region_held3 (fun W=>W.cell? w.heap.size=some (.pointer q)/\W.cell? q=some (.pointer g)/\W.cell? (f.heap.size 1)=some (r:Value)/\W.cell? (q 1)=some (S.lay.cap:Value)/\W.cell? (q 2)=some (.int .i64 (S.lay.sf 0))/\W.cell? (q 3)=some (S.lay.sc:Value)/\W.cell? (q 4)=some (.int .i64 (S.lay.sf 1))/\W.cell? (q 5)=some (S.lay.sc:Value)/\W.cell? (q 6)=some (.int .i64 (S.lay.lf 0))/\W.cell? (q 7)=some (S.lay.lc:Value)/\W.cell? (q 8)=some (.int .i64 (S.lay.lf 1))/\W.cell? (q 9)=some (S.lay.lc:Value)) (first|exact zs.out _ (Below.refl _ _)|exact zs.out _ xd.out|exact zs.out _ (by assumption)) (first
      |(go_at_call 49;go_must (refine (yj.out _).mono ?_);rintro e w8 ⟨rfl,vh,kj⟩;have zy:Below A.heap.size A w8:=xd.out.trans vh))
      obtain⟨q1,q2,-⟩:=zs.out w8 zy
      go_wp2_with fail
      refine wp_region_still_tail 14 (by kernel_rfl) (by kernel_rfl) ?_
      simp only [List.take_succ_cons,List.take_zero,List.drop_succ_cons,List.drop_zero]
      repeat still_step
      refine wpStill_nil ?_
      change wpList _ _ _ _ _ w8.drew
      go_wp2_with fail
      obtain⟨Q,yt⟩:∃ Q,Q=(w8.alloc (.cells #[EV A.heap.size,EW A.heap.size,syncv g,.func (.func 65) #[] #[.pointer w.heap.size,.pointer f.heap.size,.pointer (t.heap.size+1:Nat)],.func (.func 67) #[] #[.pointer w.heap.size,.pointer t.heap.size],syncv g] 95)).drew:=⟨_,rfl⟩
      have yu:Below w8.heap.size w8 Q:=by rw [yt];exact ((Below.refl _ _).alloc (zN _) _).drew
      have row:Q.heap[w8.heap.size]?=some (.cells #[EV A.heap.size,EW A.heap.size,syncv g,.func (.func 65) #[] #[.pointer w.heap.size,.pointer f.heap.size,.pointer (t.heap.size+1:Nat)],.func (.func 67) #[] #[.pointer w.heap.size,.pointer t.heap.size],syncv g] 95 (0,0)):=by rw [yt];exact Qb _ _ _ rfl
      have xm:=zH yt
      unfold EV EW syncv at xm
      rw [<-xm.out]
      clear yt
      have xh:PB w8 A.heap.size g S.lay (r:Int) (.slice a2 H c2):=kj
      have zh:Below A.heap.size A Q:=zy.trans (yu.mono zy.size)
      have xn:Below f.heap.size f Q:=zt.trans (zh.mono zt.size)
      have zd:Below u.heap.size u Q:=C.trans (xn.mono C.size)
      have va:Below w.heap.size w Q:=O.trans (zd.mono O.size)
      have xp:Below t.heap.size t Q:=zx.trans (zh.mono zx.size)
      have jm:=(h.open)
      have yl:∀ x,F0 x->x < w.heap.size:=fun x hx=>h.lt x (.inl (.inl hx))
      have jp:q < w.heap.size:=h.lt q (.inr rfl)
      have jn:p < w.heap.size:=h.lt p (.inl (.inr rfl))
      have ju:=C.size
      have jt:=O.size
      have jv:=M.lt
      have vc:=Qa Z
      have jw:=zj.size
      have jx:=yx.lt
      have jy:=zy.size
      have jz:=xh.lt
      have s9:=yu.size
      have kc:DP g d F0 Q:=DP.ext (show DP g d F0 u from ⟨s,mm,fa,fn,fc,hW.disk⟩) zd
      have xo:Below U.heap.size U Q:=zj.trans (xp.mono zj.size)
      have sK:K < t.heap.size:=xy.blt (by intro e;have:=Su.CK l;rw [e] at this;simp at this)
      have vi:b ≠ []:=vt.out
      have kp:∀ y,a2=some y->y.block < f.heap.size:=fun y hy=>by subst hy;exact xa.blt vi
      have vv:=zH (Ce (W:=Q) (B:=w.heap.size) (n:=n) (p:=p) (d:=d) zf yl kd (zN _) (by omega) (by omega) (by omega) (by omega) (by omega) (by omega) (fun y hy=>by have:=vs.out y hy;omega) (by omega) (by omega) (by omega) (by omega) (fun j hj=>by omega) (by omega) (fun y hy e=>by have:=kp y hy;omega) (by omega) row (xh.ext yu) (zk.same (zh.block _ zk.lt)) (J.ext zd) (fun e=>yy (.inl e)) (by rw [zo.out];exact (xo.block _ vc).trans ka) (yx.same (zh.block _ yx.lt)) (xz.same (zh.block _ xz.lt)) (xa.ext xn) (by rw [zo.out];exact xy.ext xp) kc km (by rw [zo.out];exact zc) (by rw [zo.out];exact xc.2.1) hr)
      refine vv.out.mono ?_;rintro e vd ⟨y,rfl,jh⟩
      obtain⟨kq,F1,lv,yw,u1,js,kf,ve⟩:=jh
      dsimp only at kq yw ve
      subst kq
      have xi:¬ F0 q:=fun e=>yy (.inl e)
      have xv:q ≠ p:=fun e=>yy (.inr e)
      have vo:=(J.ext zd).same (u1.side xi (by omega) (J.ext zd).lt).1
      have yc:=(u1.side xi (show q ≠ t.heap.size+1 by omega) (J.ext zd).lt).2
      have vb:=zk.same (zh.block _ zk.lt)
      have ko:¬ F0 w.heap.size:=fun e=>Nat.lt_irrefl _ (yl _ e)
      have yg:=vb.same (u1.side ko (by omega) vb.lt).1
      have qa:=yg.cell
      have yz:=hW.log.ext zd
      have vn:=yz.same (u1.side hW.apart (by omega) yz.lt).1
      have kx:=(u1.side hW.apart (show p ≠ t.heap.size+1 by omega) yz.lt).2
      have xf:AD F0 w F1 vd:=AD.XS ((AD.AL (F:=P1 F0 (t.heap.size+1)) va).trans u1) (by omega)
      have xl:=zH (Gl vo y)
      have qb:w.heap.size < vd.heap.size:=yg.lt
      have ky:q ≠ w.heap.size:=by omega
      rcases ve with⟨hz,yn⟩|⟨hz,L',R,kg,vz,ki,kk,yn⟩
      ·subst yn
       have t3:(y != 0)=true:=by simpa using hz
       have t4:(y == 0)=false:=by simpa using hz
       go_wp2_with fail
       refine xl.out.mono ?_;rintro e P ⟨rfl,T,zl⟩
       rw [t3,Bool.or_true] at zl
       have ye:DP g d' F1 P:=by rw [T];exact yw.set yc _ _
       have jc:LB P p g S.log:=by rw [T];exact vn.same (heap_setCell_other _ _ _ _ (Ne.symm xv))
       have yd:AD (P1 (P1 F0 p) q) w (P1 (P1 F1 p) q) P:=by rw [T];exact ((xf.beside p).beside q).setCell (.inl (.inr rfl)) _ _
       clear T
       go_wp2_with fail
       go_ret
       exact⟨rfl,P1 (P1 F1 p) q,⟨F1,p,rfl,ye,jc,kx,zl,yc,xv⟩,yd⟩
      ·subst hz
       go_wp2_with fail
       refine xl.out.mono ?_;rintro e P ⟨rfl,T,zl⟩
       have ye:DP g d' F1 P:=by rw [T];exact yw.set yc _ _
       have vg:LB P R g L':=by rw [T];exact vz.same (heap_setCell_other _ _ _ _ (by rintro rfl;omega))
       have yd:AD (P1 (P1 F0 p) q) w (P1 F1 q) P:=by
        rw [T]
        exact (((xf.beside q).setCell (.inl (.inr rfl)) _ _).more fun b hb=>by rcases hb with e|e;exact .inl (.inl e);exact .inr e)
       have vr:Bx P w.heap.size 41 (.pointer q):=by rw [T];exact yg.same (heap_setCell_other _ _ _ _ (Ne.symm ky))
       have vl:f.heap.size < Q.heap.size:=by omega
       have vf:f.heap.size ≠ t.heap.size+1:=by omega
       have vm:¬ F0 f.heap.size:=fun e=>by have:=yl _ e;omega
       have vk:vd.heap[f.heap.size]?=some (.cells #[.int .u64 (l.gen:Nat),r,.int .u32 (l.AA:Nat),H,.int .u32 (l.sum:Nat)] 94 (0,0)):=((u1.side vm vf vl).1).trans ((xo.block _ vc).trans Z)
       have zn:P.heap[f.heap.size]?=some (.cells #[.int .u64 (l.gen:Nat),r,.int .u32 (l.AA:Nat),H,.int .u32 (l.sum:Nat)] 94 (0,0)):=by rw [T];exact (heap_setCell_other _ _ _ _ (show f.heap.size ≠ q by omega)).trans vk
       have vj:Bx P (t.heap.size+1) 106 (.pointer R):=by rw [T];exact (kg ▸ kf).same (heap_setCell_other _ _ _ _ (show t.heap.size+1 ≠ q by omega))
       have ke:(S.fl || (0:Int) != 0)=false:=by rw [yf];rfl
       rw [ke] at zl
       clear T xl
       have g4:IntKind.i64.wrap (1 - (S.slot:Int))=((1 - S.slot:Nat):Int):=by have:=zf.slot;rw [IntKind.wrap_i64];omega
       have nw:w.heap.size ≠ q:=by omega
       have nN:f.heap.size ≠ q:=by omega
       have nl:t.heap.size+1 ≠ q:=by omega
       have kl:R ≠ q:=by omega
       have j0:=vr.cell
       have j7:=vj.cell
       obtain⟨V0,yo⟩:∃ V0,V0=P.drew:=⟨_,rfl⟩
       have zq:SB V0 q g p { S with fl:=false }:=by rw [yo];exact zl
       have ji:(fun W=>W.cell? w.heap.size=some (.pointer q)/\W.cell? f.heap.size=some (.int .u64 (l.gen:Nat))/\W.cell? (f.heap.size 1)=some (r:Value)/\W.cell? (f.heap.size 2)=some (.int .u32 (l.AA:Nat))/\W.cell? (f.heap.size 3)=some (H:Value)/\W.cell? (f.heap.size 4)=some (.int .u32 (l.sum:Nat))/\W.cell? (t.heap.size+1:Nat)=some (.pointer R)) V0:=by rw [yo];exact⟨j0,cell_of_row _ _ 0 _ _ _ zn,cell_of_row _ _ 1 _ _ _ zn,cell_of_row _ _ 2 _ _ _ zn,cell_of_row _ _ 3 _ _ _ zn,cell_of_row _ _ 4 _ _ _ zn,j7⟩
       have jl:(fun W=>W.cell? (q 10)=some (.int .i64 (S.slot:Nat))) V0:=zq.slot
       have zg:=zH (show ∀ (W:World) (k:Nat) (v:Value),(W.cell? w.heap.size=some (.pointer q)/\W.cell? f.heap.size=some (.int .u64 (l.gen:Nat))/\W.cell? (f.heap.size 1)=some (r:Value)/\W.cell? (f.heap.size 2)=some (.int .u32 (l.AA:Nat))/\W.cell? (f.heap.size 3)=some (H:Value)/\W.cell? (f.heap.size 4)=some (.int .u32 (l.sum:Nat))/\W.cell? (t.heap.size+1:Nat)=some (.pointer R))->(fun W=>W.cell? w.heap.size=some (.pointer q)/\W.cell? f.heap.size=some (.int .u64 (l.gen:Nat))/\W.cell? (f.heap.size 1)=some (r:Value)/\W.cell? (f.heap.size 2)=some (.int .u32 (l.AA:Nat))/\W.cell? (f.heap.size 3)=some (H:Value)/\W.cell? (f.heap.size 4)=some (.int .u32 (l.sum:Nat))/\W.cell? (t.heap.size+1:Nat)=some (.pointer R)) (W.setCell (q k) v) from fun W k v ⟨a0,a1,a2,a3,a4,a5,a6⟩=>by
        have ot:∀ (b o:Nat),b ≠ q->(W.setCell (q k) v).cell? (b o)=W.cell? (b o):=fun b o hb=>World.cell?_of_block (a:=(b o)) (heap_setCell_other _ _ _ _ hb)
        exact⟨(ot _ _ nw).trans a0,(ot _ _ nN).trans a1,(ot _ _ nN).trans a2,(ot _ _ nN).trans a3,(ot _ _ nN).trans a4,(ot _ _ nN).trans a5,(ot _ _ nl).trans a6⟩)
       have vw:=zH yo
       have xe:=zH (And.intro ye (And.intro vg (And.intro yd (And.intro yc (And.intro ki (And.intro zc (And.intro zo.out (And.intro zr.out.2 (And.intro kk (And.intro va.size (And.intro kl (And.intro yf yn))))))))))))
       clear yo j0 j7
       clear zl ye vg yd vr vk zn vj yn zc zo zr kk va xf kx vn yz qa yg vb vo kf yw u1 vv kc row zh xn zd xp jm yl kj xh zy vh yu Y zk xs zt xq yx xz zx xy zj ka Z xt xa C xw zu kh X I zs yj yk yi vu yh xj xd xm vs xk za HF zp vq xc kg zz yf hr vz xo vi kp vt vl vf vm xi ko xb J h0 h hW ya M O y0 y1 y2 yb t1 r1 g1 g2 g3 gG hs hL zf kd xu ki q1 q2 yy jq jo jr jk jp jn ju jt jv vc jw jx jy jz s9 sK qb ky js ke yc kl nw nN nl xv km
       have kr:=zq.slot
       have f10:=zq.free 10
       have qg:=zq.lt
       dsimp only at kr
       go_wp2_with fail
       refine Kh (by kernel_rfl) [12,15,18] (fun W=>W.cell? w.heap.size=some (.pointer q)/\W.cell? f.heap.size=some (.int .u64 (l.gen:Nat))/\W.cell? (f.heap.size 1)=some (r:Value)/\W.cell? (f.heap.size 2)=some (.int .u32 (l.AA:Nat))/\W.cell? (f.heap.size 3)=some (H:Value)/\W.cell? (f.heap.size 4)=some (.int .u32 (l.sum:Nat))/\W.cell? (t.heap.size+1:Nat)=some (.pointer R)) (fun W=>W.cell? (q 10)=some (.int .i64 (S.slot:Nat))) ?_
       rw [<-vw.out]
       refine LV [0,1,2,8,9,3,4,5,6,7,10,11] ?_
       repeat ((first|(refine Qy (v:=?_) rfl (by kernel_rfl) (by kernel_rfl) (by kernel_rfl) (by kernel_rfl) (fun _ _ _ h=>h) (Or.inl ⟨by rfl,?_⟩) (by assumption) ?_;rotate_left;·intro w zi;(try dsimp only at zi);go_simp;try with_reducible rfl)|(refine Zy (v:=?_) rfl (by kernel_rfl) (by kernel_rfl) (by kernel_rfl) (by kernel_rfl) (by kernel_rfl) (fun _ _ _ h=>h) (Or.inl ⟨by rfl,?_⟩) (by assumption) (by assumption) ?_;rotate_left;·intro w zi;(try dsimp only at zi);go_simp;try with_reducible rfl));try simp only [Act.put])
       refine LW ?_
       have ym:=zg.out V0 10 (.int .i64 ((1 - S.slot:Nat):Int)) ji
       refine Jn (i:=12) rfl (by kernel_rfl) (by simp) (fun K hK=>?_)
       go_simp
       refine hK.out _ _ (ym) ?_;clear hK K
       try simp only [Act.put]
       have N:=zq.QU (1 - S.slot)
       obtain⟨V1,yp⟩:∃ V1,V1=V0.setCell (q 10) (.int .i64 ((1 - S.slot:Nat):Int)):=⟨_,rfl⟩
       rw [<-yp] at ym N
       rw [<-yp]
       have jd:=zH yp
       clear yp kr f10 jl
       have qh:=N.lt
       have ks:=N.gen
       have kt:=N.act
       have ku:=N.AA
       have kv:=N.len
       have kw:=N.sum
       have f11:=N.free 11
       have f12:=N.free 12
       have f13:=N.free 13
       have f14:=N.free 14
       have f15:=N.free 15
       dsimp only at ks kt ku kv kw
       refine LV [13,14] ?_
       repeat ((refine Qy (v:=?_) rfl (by kernel_rfl) (by kernel_rfl) (by kernel_rfl) (by kernel_rfl) (fun _ _ _ h=>h) (Or.inl ⟨by rfl,?_⟩) (by assumption) ?_;rotate_left;·intro w zi;(try dsimp only at zi);go_simp;try with_reducible rfl);try simp only [Act.put])
       refine LW ?_
       have xr:=zg.out _ 15 (.int .u32 (l.sum:Nat)) (zg.out _ 14 (H:Value) (zg.out _ 13 (.int .u32 (l.AA:Nat)) (zg.out _ 12 (r:Value) (zg.out V1 11 (.int .u64 (l.gen:Nat)) ym))))
       refine Jn (i:=15) rfl (by kernel_rfl) (by simp) (fun K hK=>?_)
       go_simp
       refine hK.out _ _ (xr) ?_;clear hK K
       try simp only [Act.put]
       have zm:=N.TV l
       rw [xe.out.2.2.2.2.2.1,<-xe.out.2.2.2.2.2.2.2.1] at zm
       obtain⟨V2,yq⟩:∃ V2,V2=(((((V1.setCell (q 11) (.int .u64 l.gen)).setCell (q 12) (r:Value)).setCell (q 13) (.int .u32 l.AA)).setCell (q 14) (H:Value)).setCell (q 15) (.int .u32 l.sum)):=⟨_,rfl⟩
       rw [<-yq] at xr zm
       rw [<-yq]
       have je:=zH yq
       clear yq ks kt ku kv kw f11 f12 f13 f14 f15 ym
       have qi:=zm.lt
       have qf:=zm.log
       have f16:=zm.free 16
       refine LV [16,17] ?_
       repeat ((refine Qy (v:=?_) rfl (by kernel_rfl) (by kernel_rfl) (by kernel_rfl) (by kernel_rfl) (fun _ _ _ h=>h) (Or.inl ⟨by rfl,?_⟩) (by assumption) ?_;rotate_left;·intro w zi;(try dsimp only at zi);go_simp;try with_reducible rfl);try simp only [Act.put])
       refine LW ?_
       have jj:=zg.out V2 16 (.pointer R) xr
       refine Jn (i:=18) rfl (by kernel_rfl) (by simp) (fun K hK=>?_)
       go_simp
       refine hK.out _ _ (jj) ?_;clear hK K
       try simp only [Act.put]
       refine Ke (by kernel_rfl) ?_ _
       have kz:=zm.MY R L'
       go_wp2_with fail
       go_ret
       obtain⟨b2,b3,b4,b5,b6,b8,b9,qc,qd,qe,vx,jf,vy⟩:=xe.out
       have xg:BQ q P (V2.setCell (q 16) (.pointer R)):=by
        rw [je.out,jd.out,vw.out]
        exact ((((((((BQ.refl q P).drew).setCell 10 _).setCell 11 _).setCell 12 _).setCell 13 _).setCell 14 _).setCell 15 _).setCell 16 _
       refine⟨rfl,P1 (P1 F1 R) q,⟨F1,R,rfl,b2.but b5 xg,?_,b6,?_,b5,Ne.symm vx⟩,?_⟩
       ·rw [vy]
        exact b3.same (xg.block _ b3.lt vx)
       ·rw [vy,b9,jf]
        exact kz
       ·have vp:AD (P1 (P1 F0 p) q) w (P1 F1 q) (V2.setCell (q 16) (.pointer R)):=b4.but (.inl (.inr rfl)) xg
        refine vp.grow fun y hy=>?_
        rcases hy with (hy|rfl)|rfl
        ·exact vp.new y (.inl hy)
        ·right;omega
        ·exact .inl (.inr rfl)
end
section
open Go.RowKit
open Dd (Dk)
variable {F:Nat->Prop} {w w':World}
theorem AD.out {F':Nat->Prop} (u:AD F w F' w') {k:Nat} (a:¬ F k) (b:k < w.heap.size):¬ F' k/\w'.heap[k]?=w.heap[k]? :=
 ⟨fun e=>by rcases u.new k e with e|e;exact a e;omega,u.block k b a⟩
theorem VY:IE 60=.agg #[.int .i64 3,.int .i64 2,.int .i64 14,.int .i64 31,.int .i64 14,.int .i64 16,.int .i64 15,.int .i64 45,.int .i64 15]/\ID 60=0:=by
 unfold IE ID
 rw [show AH.fit 60=true by decide]
 exact⟨rfl,rfl⟩
theorem Lv (b o k:Nat) (w:World):Sem.run Tryz.prog (Instr.indexAt 42 (Value.slice (b o) 1 k) (Value.int .i64 0)) w=.ok (.pointer (b o)) w:=by
 first
 |kernel_rfl
 |(simp [go_sem];done)
theorem XG.some {g n:Nat} {S:AH.St} {c:Int} {L:List AJ} {d:Dk} {e:Ending} (h:XG g n F w (some S,(c,L),0,d) e w') :
 ∃ q a k b,e=.returned (.tuple #[.pointer (q:Nat),.agg #[c,.slice a L.length k],.int .i64 0])/\PS g q S d b w'/\AD F w b w'/\AT w' a L.length k L/\(∀ x,a=some x->L ≠ []->¬ b x.block/\w.heap.size<=x.block)/\AH.Ok n S:=by
 obtain⟨-,q,a,k,b,f,i,j,l,m,o,-⟩:=h
 exact⟨q,a,k,b,f,i,j,l,m,o⟩
theorem Gc (w:World):Calls Tryz.prog 10 #[] w fun e w'=>e=.returned (.bool true)/\Below w.heap.size w w':=by
 obtain⟨d1,S1,d2,S2,d3,S3,d4,S4,d5,e1,e2,e3,e4,e5,e6,l1,l3,l4⟩:=AH.YL
 have H1:=zH e1;have H2:=zH e2;have H3:=zH e3;have H4:=zH e4;have H5:=zH e5;have H6:=zH e6
 have L1:=zH l1;have L3:=zH l3;have L4:=zH l4
 clear e1 e2 e3 e4 e5 e6 l1 l3 l4
 have HP:=zH (fun W=>show Calls Tryz.prog 8 #[.int .i64 60] W fun e w'=>e=.returned (.tuple #[.agg #[.int .i64 3,.int .i64 2,.int .i64 14,.int .i64 31,.int .i64 14,.int .i64 16,.int .i64 15,.int .i64 45,.int .i64 15],.int .i64 0])/\Below W.heap.size W w' by
  have:=Zn true 60 W
  rwa [show (60:Int).toNat=60 from rfl,VY.1,VY.2] at this)
 have HQ:=zH (fun W=>show Calls Tryz.prog 8 #[.int .i64 21] W fun e w'=>e=.returned (.tuple #[JC,.int .i64 2])/\Below W.heap.size W w' by
  have:=Zn true 21 W
  rwa [show (21:Int).toNat=21 from rfl,(Jm (show AH.fit 21=false by decide)).1,(Jm (show AH.fit 21=false by decide)).2] at this)
 unfold JC layv at HQ
 go_in
 go_wp2_with fail
 refine (HP.out _).mono ?_;rintro e t ⟨rfl,zb⟩
 go_wp2_with fail
 obtain⟨f,x⟩:∃ f,f=t.alloc (.cells #[.int .i64 3,.int .i64 2,.int .i64 14,.int .i64 31,.int .i64 14,.int .i64 16,.int .i64 15,.int .i64 45,.int .i64 15] 26):=⟨_,rfl⟩
 have J:Below w.heap.size w f:=by rw [x];exact zb.alloc zb.size _
 have M:f.heap[t.heap.size]?=some (.cells #[.int .i64 3,.int .i64 2,.int .i64 14,.int .i64 31,.int .i64 14,.int .i64 16,.int .i64 15,.int .i64 45,.int .i64 15] 26 (0,0)):=by rw [x];exact Qb _ _ _ rfl
 rw [<-x]
 clear x
 refine (HQ.out _).mono ?_;rintro e w3 ⟨rfl,zc⟩
 go_wp2_with fail
 obtain⟨O,I⟩:∃ O,O=w3.alloc (.cells #[.int .i64 0,.int .i64 0,.int .i64 0,.int .i64 0,.int .i64 0,.int .i64 0,.int .i64 0,.int .i64 0,.int .i64 0] 26):=⟨_,rfl⟩
 have K:Below f.heap.size f O:=by rw [I];exact zc.alloc zc.size _
 rw [<-I]
 clear I
 refine (DP.new 60 (by omega) (by omega) _ 60 rfl).mono ?_;rintro e i ⟨g,F,rfl,yd,ya,yc⟩
 have R:Below f.heap.size f i:=K.trans (yc.mono K.size)
 have A:=(R.block _ (Qa M)).trans M
 have za:Below w.heap.size w i:=J.trans (R.mono J.size)
 have yb:∀ k,F k->w.heap.size<=k:=fun k hk=>by have:=ya k hk;have:=K.size;have:=J.size;omega
 have o:i.cell? t.heap.size=some (.int .i64 3):=cell_of_row _ _ 0 _ _ _ A
 have y7:i.cell? (t.heap.size 7)=some (.int .i64 45):=cell_of_row _ _ 7 _ _ _ A
 have y8:i.cell? (t.heap.size 8)=some (.int .i64 15):=cell_of_row _ _ 8 _ _ _ A
 clear A M
 go_wp2_with fail
 refine (Us yd H1.out).mono ?_;rintro e w6 ⟨rfl,F6,ye,zf⟩
 clear o y7 y8
 go_wp2_with fail
 refine (Gh ye (by rw [L1.out];omega) H2.out).mono ?_;rintro e c r
 obtain⟨q,a,k,B,rfl,ze,zg,-,-,zp⟩:=XG.some r
 rw [List.length_nil]
 clear r
 have zy:=zH (fun W (e:Below c.heap.size c W)=>show Calls Tryz.prog 17 #[.pointer q,.agg #[.int .i64 1,.string ⟨#[97,46,98]⟩,.bool false,.int .i64 7]] W fun e w'=>e=.returned (.int .i64 0)/\∃ F',PS g q S2 d3 F' w'/\AD B W F' w' from Ur (ze.ext e) zp AH.ZG (by decide) H3.out)
 have n7:¬ B c.heap.size:=fun e=>Nat.lt_irrefl _ (ze.lt _ e)
 go_wp2_with fail
 obtain⟨n,z⟩:∃ n,n=c.alloc (.cells #[.int .i64 0,.slice a 0 k] 44):=⟨_,rfl⟩
 have zd:Below c.heap.size c n:=by rw [z];exact (Below.refl _ _).alloc (zN _) _
 have N:AE n c.heap.size 0 (.slice a 0 k):=by rw [z];exact AE.new c 0 _
 rw [<-z]
 clear z
 obtain⟨o,C⟩:=N.cells
 have yi:=Qa N
 go_wp2_with fail
 refine (zy.out _ zd).mono ?_;rintro e w9 ⟨rfl,F9,yf,yh⟩
 obtain⟨yp,zm,zs⟩:=yf.forget
 have yg:AD F i B n:=(zf.trans zg).ext zd
 clear o C
 go_wp2_with fail
 refine (zm.restart (CZ.nil _) (fun y hy=>by cases hy) rfl).mono ?_;rintro e yk ⟨rfl,zx,zn,zt⟩
 have zj:AD B n zx yk:=(yh.trans zs).trans zt
 go_wp2_with fail
 refine (Gh zn (by rw [L3.out];omega) H4.out).mono ?_;rintro e l r
 obtain⟨q2,a2,h,X,rfl,T,zu,U,yl,zi⟩:=XG.some r
 clear r
 have P:=zj.trans zu
 obtain⟨yj,d⟩:=P.out n7 yi
 have d:AE l c.heap.size 0 (.slice a 0 k):=d.trans N
 obtain⟨o,C⟩:=d.cells
 have f0:=frozen_of_row _ _ 0 _ _ d
 have f1:=frozen_of_row _ _ 1 _ _ d
 have yo:=Qa d
 rw [show ([AH.XE]:List AJ).length=1 from rfl] at U ⊢
 have u:BQ c.heap.size l ((l.setCell c.heap.size (.int .i64 0)).setCell (c.heap.size 1) (.slice a2 1 h)):=((BQ.refl _ _).setCell 0 _).setCell 1 _
 have Q:AE ((l.setCell c.heap.size (.int .i64 0)).setCell (c.heap.size 1) (.slice a2 1 h)) c.heap.size 0 (.slice a2 1 h):=by
  have h1:(l.setCell c.heap.size (.int .i64 0)).heap[c.heap.size]?=some (.cells #[.int .i64 0,.slice a 0 k] 44 (0,0)):=heap_setCell_same _ _ _ _ _ _ d
  exact heap_setCell_same _ _ 1 _ _ _ h1
 have H:=U.EH d 0 1 (.int .i64 0) (.slice a2 1 h)
 go_wp2_with fail
 obtain⟨j,G⟩:∃ j,j=((l.setCell c.heap.size (.int .i64 0)).setCell (c.heap.size 1) (.slice a2 1 h)):=⟨_,rfl⟩
 rw [<-G] at u Q H
 rw [<-G]
 clear G o C f0 f1
 obtain⟨o,C⟩:=Q.cells
 have zq:PS g q2 S3 d4 X j:=(PS.fp _ _ _ _).AI T (fun b hb=>u.block b (T.lt b hb) (by rintro rfl;exact yj hb)) u.size
 have zv:AD F i X j:=((yg.trans P)).but (.inr (by have:=zf.size;have:=zg.size;omega)) u
 obtain⟨Z,zh,zl,ym,-,zo⟩:=H.at (show 0 < 1 by omega)
 subst zl
 obtain⟨i0,i1,i2⟩:=zo
 have yr:j.cell? (Z zh)=some (.string ⟨#[97,46,98]⟩):=i0
 have zz:=zH (He zq zi (by rw [L4.out];omega) 0 _ 1 h [AH.XE] H (by intro p hp;simp at hp;subst hp;decide) H5.out)
 clear i0 i1 i2
 have yn:=Lv Z zh h j
 go_wp2_with fail
 refine zz.out.mono ?_;rintro e ys ⟨rfl,yq,zr,zw⟩
 obtain⟨F0,p,s,m,fa,fn,fc,rfl,-,zk,-⟩:=zr.open
 have Y:=zH (Yy zk)
 rw [H6.out] at Y
 go_wp2_with fail
 refine Y.out.mono ?_;rintro e yt ⟨rfl,rfl⟩
 go_wp2_with fail
 go_ret
 exact⟨rfl,(zv.trans zw).below za yb za.size⟩
end
end Go.Proofs.YtmanejniepghlaaGreatDoor
