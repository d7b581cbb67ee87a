import Derived.Test.YtmanejniepghlaaGreatDoorRun20
import Derived.Test.YtmanejniepghlaaGreatDoorRun17
import Derived.Test.YtmanejniepghlaaGreatDoorRun5
import Derived.Test.YtmanejniepghlaaGreatDoorRun2
set_option maxHeartbeats 16000000
set_option maxRecDepth 100000
namespace Go.Proofs.YtmanejniepghlaaGreatDoor
section
open Go.RowKit
theorem Uv (ck:Int) (a:Option Addr) (n c:Nat) (L:List AJ) (w:World) (h:AT w a n c L) (xa:n<=1000000) (hL:∀ p ∈ L,p.h.length<=1000000) :
 Calls Tryz.prog 90 #[.agg #[ck,.slice a n c]] w (DR ck L w):=by
 have R:=(Below.refl w.heap.size w).alloc (zN _) (.cells #[ck,.slice a n c] 44)
 have zd:=AE.new w ck (.slice a n c)
 have ym:=zH h.len
 have J:=zH h
 have HV:=zH (fun W (hs:AT W a n c L)=>Jv ck a n c L W hs xa hL)
 have zn:=zH (fun (e:AN.AK ck L=true)=>(AN.BF ck L).1 e)
 obtain⟨vb,zg⟩:∃ vb,AN.AK ck L=vb:=⟨_,rfl⟩
 rw [zg] at HV
 have O:=zH zg
 obtain⟨W0,Q⟩:∃ W0,w.alloc (.cells #[ck,.slice a n c] 44)=W0:=⟨_,rfl⟩
 rw [Q] at R zd
 have zo:=zH Q
 have l:=zH R
 have ys:=zH zd
 clear zg Q R zd h
 cases vb with
|false =>
  go_in
  go_wp2_with fail
  rw [zo.out]
  refine (HV.out _ (J.out.ext l.out)).mono ?_;rintro e f ⟨rfl,r⟩
  go_wp2_with fail
  go_ret2
  exact DR.bad O.out rfl (l.out.trans (Below.mono r l.out.size))
|true =>
  obtain⟨v1,v2,v3,v4,-⟩:=zn.out O.out
  have yu:=zH v4
  obtain⟨d,rfl⟩:∃ d:Nat,ck=(d:Int):=⟨ck.toNat,by omega⟩
  have zv:=ym.out
  have xh:n<=1000:=by omega
  have zj:=zH (fun W=>Wj d (by omega) W)
  have zk:=zH (fun W=>Wj n (by omega) W)
  have Z:=Wi.BG (v:=n) (by omega)
  have Y:=Wi.BG (v:=d) (by omega)
  have I:=zH (Sp.OI d n L)
  have yg:=zH (show Sp.pre d n L n=Sp.enc (d:Int) L by rw [<-zv];exact Sp.QP d L)
  have yi:=zH (fun k (hk:k < L.length)=>Sp.OH (c:=d) (n:=n) hk)
  have yh:=zH (Sp.QQ (c:=d) (n:=n) (L:=L) (by omega) (by omega) (by omega) v4)
  have wc:IntKind.u64.wrap (d:Int)=(d:Int):=by rw [IntKind.wrap_u64];omega
  have wn:IntKind.u64.wrap (n:Int)=(n:Int):=by rw [IntKind.wrap_u64];omega
  obtain⟨E1,zq⟩:∃ E,Wi.enc d=E:=⟨_,rfl⟩
  rw [zq] at zj Y I
  obtain⟨E3,zs⟩:∃ E,Wi.enc n=E:=⟨_,rfl⟩
  rw [zs] at zk Z I
  obtain⟨m3,zb⟩:∃ m,E3.length=m:=⟨_,rfl⟩
  have yn:=zH zb
  rw [zb] at Z
  obtain⟨-,xg⟩:=Z
  obtain⟨m1,za⟩:∃ m,E1.length=m:=⟨_,rfl⟩
  have zl:=zH za
  rw [za] at Y
  obtain⟨-,xf⟩:=Y
  generalize yx:Sp.pre d n L=P at *
  clear zq za zs zb yx v4 v1 v2 v3 zv zn
  go_in
  go_wp2_with fail
  rw [zo.out]
  refine (HV.out _ (J.out.ext l.out)).mono ?_;rintro e f ⟨rfl,r⟩
  have zp:=l.out.trans (Below.mono r l.out.size)
  have z:=zH zp
  have N:=zH (ys.out.ext r)
  have q:=zH (show ∀ W,AP f W->AP f W/\W.cell? w.heap.size=some (d:Value)/\W.cell? (w.heap.size 1)=some (.slice a n c)/\w.heap.size < W.heap.size from fun W e=>⟨e,(N.out.ext e).cells.1,(N.out.ext e).cells.2,Qa (N.out.ext e)⟩)
  clear r zp
  obtain⟨-,F,G,H⟩:=q.out _ (AP.refl _)
  go_wp2_with fail
  go_region_held3 (fun W=>AP f W/\W.cell? w.heap.size=some (d:Value)/\W.cell? (w.heap.size 1)=some (.slice a n c)/\w.heap.size < W.heap.size) (first|assumption|exact q.out _ y|exact q.out _ (AP.drew (AP.refl _))|exact q.out _ (AP.step (by assumption) (And.left (by assumption)))) (first|(go_at_call_of 144 (Value.int IntKind.u64 (d:Int));go_must (refine (zj.out _).mono ?_);rintro e x1 ⟨y1,rfl,zc,zt⟩;obtain⟨a1,c1,yd,ya,-⟩:=zc.sl;rw [zl.out] at ya yd;subst yd;have yv:=zH zc;have A:=zH zt;clear zc ya zt)|(go_at_call_of 144 (Value.int IntKind.u64 (n:Int));go_must (refine (zk.out _).mono ?_);rintro e x2 ⟨y2,rfl,zw,T⟩;obtain⟨a2,c2,ye,ze,-⟩:=zw.sl;rw [yn.out] at ze ye;subst ye;have yw:=zH ze;have K:=zH T;have zh:=zH (yv.out.ext T);clear zw ze T)|(refine Jd rfl (.tmp 14) (.tmp 19) rfl f.heap.size _ E1 (by simp [Act.eval]) (zh.out.mono (zN _)) a2 m3 c2 E3 (by simp [Act.eval]) yw.out (by rw [zl.out];omega) (Nat.le_trans A.out.size K.out.size) ?_;intro y3 x3 zx zu;have y:AP f x3:=(((Below.drew (Below.refl f.heap.size f)).trans A.out).trans (K.out.mono A.out.size)).grown zu (Nat.le_trans A.out.size K.out.size) (fun j hj=>(zh.out.lt j hj).1)))
  have yo:=zH (show AC f.heap.size x3 y3 (P 0) by rw [I.out];exact zx)
  have yf:=zH y
  clear F G H
  obtain⟨-,F,G,H⟩:=q.out _ y
  clear zx y zu
  go_wp2_with fail
  go_loopw [4,5] (fun b i wr=>∃ k:Nat,k<=n/\i=.int .i64 (k:Nat)/\AC f.heap.size wr b (P k)/\AP f wr) (fun _ i _=>n - (intOf i).toNat)
  case atStart=>exact⟨0,Nat.zero_le _,rfl,yo.out,yf.out⟩
  case round =>
   obtain⟨k,hk,rfl,u,t⟩:=hrel
   clear F G H
   obtain⟨-,F,G,H⟩:=q.out _ t
   have i0:(0:Int)<=(k:Int):=by omega
   by_cases yz:k < n
   ·have i2:(k:Int) < (n:Int):=by omega
    obtain⟨bb,o,rfl,xe,B,d1,d2,d3⟩:=((J.out.ext z.out).ext t).at yz
    rw [List.getElem?_eq_getElem B,Option.getD_some] at d1 d2 d3
    have zf:=yi.out k B
    have C:=yu.out _ (List.getElem_mem B)
    generalize L[k]=p at *
    have xb:=AJ.CI ((AJ.BY p).1 C).1
    have X:=(AJ.BG C).1
    have g:=zH (fun W=>Uu p (by omega) W)
    unfold IT at g
    rw [C] at g
    simp only [↓reduceIte] at g
    obtain⟨E2,zr⟩:∃ E,AJ.enc p=E:=⟨_,rfl⟩
    rw [zr] at g zf X
    unfold pv at g
    obtain⟨sh,yc⟩:∃ s,str p.h=s:=⟨_,rfl⟩
    rw [yc] at g d1
    generalize p.s=ps at *
    generalize p.x=px at *
    have yk:=zH t
    have yp:=zH u
    have yj:=zH zf
    have zz:=yh.out k
    have zi:(P k).length<=300000:=zz
    have yr:=zH zi
    have yl:=zH X
    clear zf C zr yc xb X u t B zz zi
    go_wp2_with fail
    refine (g.out _).mono ?_;rintro e x4 ⟨y4,rfl,zy,U⟩
    obtain⟨a4,c4,xd,yb,-⟩:=zy.sl
    subst xd
    have yt:=zH yb
    have zm:=zH (yp.out.ext U)
    have M:=zH (show AP f x4 from AP.step U yk.out)
    clear zy yb U
    go_wp2_with (at_builtin;refine Qc rfl _ _ rfl f.heap.size _ (P k) rfl zm.out a4 _ c4 E2 rfl yt.out (by have:=yr.out;have:=yl.out;omega) M.out.size ?_;intro v5 w5 xc yy _)
    go_roundw
    case rel=>exact⟨k+1,by omega,by go_num,by rw [yj.out];exact xc,M.out.grown yy M.out.size (fun j hj=>(zm.out.lt j hj).1)⟩
    case measure=>simp [intOf];omega
   ·obtain rfl:k=n:=by omega
    rw [yg.out] at u
    have yq:=zH u
    clear u
    go_wp2_with fail
    go_ret2
    exact DR.good O.out rfl (yq.out.mono z.out.size) (z.out.trans (Below.mono t z.out.size))
end
section
open Go.RowKit
set_option linter.unusedSimpArgs false in
theorem Zc (β:Bool) (a:Option Addr) (n c:Nat) (b:List UInt8) (w:World) (h:AM w a n c b) (hn:n<=100000) :
 Calls Tryz.prog (cond β 158 81) #[.slice a n c] w (DM b w):=by
 have u:=Mk.mk β
 cases β <;> dsimp only [cond]
 all_goals
  have zw:=(Below.refl w.heap.size w).alloc (zN _) (.cells #[.int .i64 0,.slice none 0 0] 44)
  have yj:=AE.new w 0 (.slice none 0 0)
  have I:=h.ext zw
  have zc:=h.len
  obtain⟨i,zv⟩:∃ i,w.alloc (.cells #[.int .i64 0,.slice none 0 0] 44)=i:=⟨_,rfl⟩
  have xb:i.heap.size=w.heap.size+1:=by rw [<-zv];simp
  rw [zv] at zw yj I
  have zu:=zH zv
  have zr:=zH zw
  have t:=zH yj
  have xm:=zH xb
  have xu:=zH I
  have zb:=zH (show ∀ W,AP i W->AP w ((W.setCell w.heap.size (.int .i64 0)).setCell (w.heap.size 1) (.slice none 0 0)) from fun W e =>
   (((zr.out.trans (Below.mono e zr.out.size)).setCell (p:=w.heap.size) (zN _) _).setCell (p:=(w.heap.size 1)) (zN _) _))
  have zk:=zH (show ∀ W,AP i W->W.cell? w.heap.size=some (.int .i64 0)/\W.cell? (w.heap.size 1)=some (.slice none 0 0)/\w.heap.size < W.heap.size/\(∀ j,W.frozen? (w.heap.size j)=false) from fun W e=>⟨(t.out.ext e).cells.1,(t.out.ext e).cells.2,Qa (t.out.ext e),(t.out.ext e).frz⟩)
  first|(replace u:Mk true:=u;have HT:=zH (Kd a n c b i I (by omega)))|have HT:=zH (Xk a n c b i I (by omega))
  obtain⟨g,f,z1,o⟩:∃ g f z1,Wi.dec b=(g,f,z1):=⟨_,_,_,rfl⟩
  rw [o] at HT
  dsimp only at HT
  clear zv zw yj xb h
  obtain⟨U,X,Y,Z⟩:=zk.out _ (AP.refl _)
  by_cases e1:z1 ≠ 0
  ·have l:=zH (Sp.SP o e1)
   have t1:(z1 != 0)=true:=by simpa using e1
   have t2:(z1 == 0)=false:=by simpa using e1
   clear o e1 zc I
   go_in
   go_wp2_with fail
   rw [zu.out]
   refine HT.out.mono ?_;rintro e w1 ⟨rfl,rfl⟩
   go_wp2_with fail
   refine DO rfl rfl ((t.out.ext (AP.refl _)).IJ 0 (.slice none 0 0)) rfl rfl (DM.bad l.out rfl ?_)
   exact zb.out _ (AP.refl _)
  obtain rfl:z1=0:=by simpa using e1
  obtain⟨-,r1,r2,r3,r4⟩:=Wi.AY o
  rw [zc] at r1
  have zx:(b.drop f).length=n - f:=by rw [List.length_drop,zc]
  obtain⟨d,T,z2,q⟩:∃ d T z2,Wi.dec (b.drop f)=(d,T,z2):=⟨_,_,_,rfl⟩
  first
  |(replace u:Mk true:=u
    have HU:=zH (show ∀ a2 J W,AM W a2 (n - f) J (b.drop f)->Calls Tryz.prog 185 #[.slice a2 (n - f) J] W fun e w'=>e=.returned (.tuple #[.int .u64 (d:Nat),T,z2])/\W=w' from fun a2 J W hs=>by
     have:=Kd a2 (n - f) J (b.drop f) W hs (by omega)
     rw [q] at this;exact this))
  |have HU:=zH (show ∀ a2 J W,AM W a2 (n - f) J (b.drop f)->Calls Tryz.prog 135 #[.slice a2 (n - f) J] W fun e w'=>e=.returned (.tuple #[.int .u64 (d:Nat),T,z2])/\W=w' from fun a2 J W hs=>by
    have:=Xk a2 (n - f) J (b.drop f) W hs (by omega)
    rw [q] at this;exact this)
  have m1:(0:Int)<=(f:Int):=by omega
  have m2:(f:Int)<=(n:Int):=by omega
  have xp:((0:Nat):Int)=0:=rfl
  clear xp
  by_cases e2:z2 ≠ 0
  ·have l:=zH (Sp.SR o q e2)
   have t1:(z2 != 0)=true:=by simpa using e2
   have t2:(z2 == 0)=false:=by simpa using e2
   clear o q e1 e2 zc zx
   go_in
   go_wp2_with fail
   rw [zu.out]
   refine HT.out.mono ?_;rintro e w1 ⟨rfl,rfl⟩
   go_wp2_with (refine Qg rfl _ _ rfl rfl f _ rfl rfl I r1 ?_;intro a2 zf)
   refine (HU.out _ _ _ zf).mono ?_;rintro e w2 ⟨rfl,rfl⟩
   go_wp2_with fail
   refine DO rfl rfl ((t.out.ext (AP.refl _)).IJ 0 (.slice none 0 0)) rfl rfl (DM.bad l.out rfl ?_)
   exact zb.out _ (AP.refl _)
  obtain rfl:z2=0:=by simpa using e2
  obtain⟨-,s1,s2,s3,s4⟩:=Wi.AY q
  rw [zx] at s1
  have m3:(0:Int)<=(T:Int):=by omega
  have m4:(f:Int)+(T:Int)<=(n:Int):=by omega
  by_cases e3:1000 < d
  ·have l:=zH (Sp.SS o q e3)
   have t3:(1000:Int) < (d:Int):=by omega
   clear o q e1 e2 e3 zc zx
   go_in
   go_wp2_with fail
   rw [zu.out]
   refine HT.out.mono ?_;rintro e w1 ⟨rfl,rfl⟩
   go_wp2_with (refine Qg rfl _ _ rfl rfl f _ rfl rfl I r1 ?_;intro a2 zf)
   refine (HU.out _ _ _ zf).mono ?_;rintro e w2 ⟨rfl,rfl⟩
   go_wp2_with fail
   refine DO rfl rfl ((t.out.ext (AP.refl _)).IJ 0 (.slice none 0 0)) rfl rfl (DM.bad l.out rfl ?_)
   exact zb.out _ (AP.refl _)
  have t3:¬ (1000:Int) < (d:Int):=by omega
  obtain⟨R,hR⟩:∃ R,Sp.pins b d (f+T) []=R:=⟨_,rfl⟩
  have HD:=zH (show ∀ z,R.2.2=z->z ≠ 0->Sp.dec b=((0,[]),z) from fun z Q h0=>Sp.ST (R:=R.1) (m:=R.2.1) o q e3 (by rw [hR,<-Q]) h0)
  have HE:=zH (show ∀ P m,R=(P,m,0)->m < b.length->Sp.dec b=((0,[]),6) from fun P m O r=>Sp.SU o q e3 (hR.trans O) r)
  have HF:=zH (show ∀ P m,R=(P,m,0)->¬ m < b.length->1099511627776 < g->Sp.dec b=((0,[]),2) from fun P m O r C=>Sp.SV o q e3 (hR.trans O) r C)
  have HG:=zH (show ∀ P m,R=(P,m,0)->¬ m < b.length->¬ 1099511627776 < g->AN.AK (g:Int) P=false->Sp.dec b=((0,[]),8) from fun P m O r C hs=>Sp.SW o q e3 (hR.trans O) r C hs)
  have HH:=zH (show ∀ P m,R=(P,m,0)->¬ m < b.length->¬ 1099511627776 < g->AN.AK (g:Int) P=true->Sp.dec b=(((g:Int),P),0) from fun P m O r C hs=>Sp.XP o q e3 (hR.trans O) r C hs)
  have ys:=zH (show ∀ P m,R=(P,m,0)->(∀ p ∈ P,p.h.length<=253)/\P.length=d from fun P m O=>Sp.RL (b:=b) (n:=d) (k:=f+T) (by omega) (hR.trans O))
  have zl:=zH zc
  have xe:=zH hR
  have xd:=zH I
  have xy:d<=1000:=by omega
  have xv:0<=(d:Int):=by omega
  try
   replace u:Mk false:=u
   have wc:IntKind.i64.wrap (d:Int)=(d:Int):=by rw [IntKind.wrap_i64];omega
  clear o q e1 e2 e3 zc zx hR
  go_in
  go_wp2_with fail
  rw [zu.out]
  refine HT.out.mono ?_;rintro e w1 ⟨rfl,rfl⟩
  go_wp2_with (refine Qg rfl _ _ rfl rfl f _ rfl rfl I r1 ?_;intro a2 zf)
  refine (HU.out _ _ _ zf).mono ?_;rintro e w2 ⟨rfl,rfl⟩
  go_wp2_with fail
  clear U X Y Z zf
  first|(replace u:Mk true:=u;go_loopw [5,9,45] (fun zm pi ix wr=>∃ (k K:Nat) (acc:List AJ),ix=.int .u64 (k:Nat)/\acc.length=k/\zm=.int .i64 (K:Nat)/\k<=d/\K<=n/\Hid (Sp.pins b (d - k) K acc=R)/\AR i.heap.size wr pi acc/\AP i wr) (fun zm pi ix _=>d - (intOf ix).toNat))|go_loopw [9,10,11] (fun zm pi ix wr=>∃ (k K:Nat) (acc:List AJ),ix=.int .i64 (k:Nat)/\acc.length=k/\zm=.int .i64 (K:Nat)/\k<=d/\K<=n/\Hid (Sp.pins b (d - k) K acc=R)/\AR i.heap.size wr pi acc/\AP i wr) (fun zm pi ix _=>d - (intOf ix).toNat)
  case atStart=>exact⟨0,f+T,[],rfl,rfl,by go_num,Nat.zero_le _,by omega,xe,AR.nil _ _,AP.refl _⟩
  case round =>
   obtain⟨k,K,acc,rfl,zd,rfl,hk,hK,HC,ho,y⟩:=hrel
   have i0:(0:Int)<=(k:Int):=by omega
   have K0:(0:Int)<=(K:Int):=by omega
   have K1:(K:Int)<=(n:Int):=by omega
   obtain⟨U,X,Y,Z⟩:=zk.out _ y
   by_cases xw:k < d
   ·have i2:(k:Int) < (d:Int):=by omega
    obtain⟨p,m,z,F⟩:∃ p m z,AJ.dec (b.drop K)=(p,m,z):=⟨_,_,_,rfl⟩
    first
    |(replace u:Mk true:=u
      have zg:=zH (show ∀ a3 M W,AM W a3 (n - K) M (b.drop K)->Calls Tryz.prog 159 #[.slice a3 (n - K) M] W fun e w'=>e=.returned (.tuple #[pv p,m,z])/\Below W.heap.size W w' from fun a3 M W hs=>by
       have:=Yw true a3 (n - K) M (b.drop K) W hs (by omega)
       unfold DW at this
       rw [F] at this;exact this))
    |have zg:=zH (show ∀ a3 M W,AM W a3 (n - K) M (b.drop K)->Calls Tryz.prog 136 #[.slice a3 (n - K) M] W fun e w'=>e=.returned (.tuple #[pv p,m,z])/\Below W.heap.size W w' from fun a3 M W hs=>by
      have:=Yw false a3 (n - K) M (b.drop K) W hs (by omega)
      unfold DW at this
      rw [F] at this;exact this)
    have yz:=xd.out.ext y
    have zz:Sp.pins b ((d - (k+1))+1) K acc=R:=by rw [show d - (k+1)+1=d - k by omega];exact HC.out
    unfold pv at zg
    obtain⟨ph,A,B⟩:=p
    simp only at zg
    obtain⟨sh,zy⟩:∃ s,str ph=s:=⟨_,rfl⟩
    rw [zy] at zg
    by_cases Q:z ≠ 0
    ·have yx:R.2.2=z:=by rw [<-zz,Sp.TM F Q]
     have l:=zH (HD.out z yx Q)
     have t4:(z != 0)=true:=by simpa using Q
     have t5:(z == 0)=false:=by simpa using Q
     have xs:=zH y
     have zs:=zH (show ∀ W3,Below wr.heap.size wr W3->AP i W3 from fun W3 hb=>y.trans (hb.mono y.size))
     clear F Q zz yx zy ho y U X Y Z
     go_wp2_with (refine Qg rfl _ _ rfl rfl K _ rfl rfl yz hK ?_;intro a3 zj)
     refine (zg.out _ _ _ zj).mono ?_;rintro e G ⟨rfl,zh⟩
     obtain⟨U,X,Y,Z⟩:=zk.out _ (zs.out _ zh)
     clear zj
     go_wp2_with fail
     have zn:AP i G:=zs.out _ zh
     have yo:=(t.out.ext zn).IJ 0 (.slice none 0 0)
     have yp:=(Qd _ (.cells #[.string sh,.bool A,B] 34) _ (Qa yo)).trans yo
     have d0:=(cell_of_row _ _ 0 _ _ _ yp).trans rfl
     have d1:=(cell_of_row _ _ 1 _ _ _ yp).trans rfl
     refine bodyPost_ret (v:=.tuple #[.agg #[.int .i64 0,.slice none 0 0],z]) (by simp [results,Tryz.results158,Tryz.results81,go_sem,d0,d1]) rfl (DM.bad l.out rfl ?_)
     exact AP.alloc (zb.out _ zn) _
    ·obtain rfl:z=0:=by simpa using Q
     have ya:=Sp.UZ (j:=d - (k+1)) (acc:=acc) F
     rw [zz] at ya
     obtain⟨xq,-,xr⟩:=AJ.AY F
     rw [List.length_drop,zl.out] at xr
     have xk:=zH ya.symm
     have g1:(0:Int)<=(m:Int):=by omega
     have g2:(K:Int)+(m:Int)<=(n:Int):=by omega
     have zs:=zH (show ∀ W3,Below wr.heap.size wr W3->AP i W3 from fun W3 hb=>y.trans (hb.mono y.size))
     have HO:=zH ho
     have zo:acc.length=k:=zd
     have zq:=zH zo
     have xj:=zH zy
     clear F Q zz ya zy ho y xq zo zd U X Y Z
     go_wp2_with (refine Qg rfl _ _ rfl rfl K _ rfl rfl yz hK ?_;intro a3 zj)
     refine (zg.out _ _ _ zj).mono ?_;rintro e G ⟨rfl,zh⟩
     have zn:AP i G:=zs.out _ zh
     have xa:=(AP.refl G).alloc (.cells #[.string sh,.bool A,B] 34)
     have ze:=AT.one (G.alloc (.cells #[.string sh,.bool A,B] 34)) ⟨ph,A,B⟩ 34
     simp only at ze
     rw [xj.out] at ze
     have ym:=xa.alloc (.cells #[.string sh,.bool A,B] 34)
     have xc:(G.alloc (.cells #[.string sh,.bool A,B] 34)).heap.size=G.heap.size+1:=by simp
     rw [xc] at ze
     have yg:=(HO.out.ext zh).ext ym
     have yd:AP i ((G.alloc (.cells #[.string sh,.bool A,B] 34)).alloc (.cells #[.string sh,.bool A,B] 34)):=AP.step ym zn
     obtain⟨W5,yh⟩:∃ W5,(G.alloc (.cells #[.string sh,.bool A,B] 34)).alloc (.cells #[.string sh,.bool A,B] 34)=W5:=⟨_,rfl⟩
     rw [yh] at ze yg yd
     have xl:=zH yh
     have xh:=zH ze
     have yr:=zH yg
     have yb:=zH yd
     clear zj zh zn xa ze ym xc yg yd yh
     go_wp2_with (rw [xl.out];at_builtin;refine Jj rfl _ _ rfl i.heap.size _ acc rfl yr.out (G.heap.size+1:Nat) 1 1 [⟨ph,A,B⟩] rfl xh.out (by rw [zq.out];omega) yb.out.size ?_;intro v6 w6 xo xn)
     go_roundw
     case rel=>exact⟨k+1,K+m,acc ++ [⟨ph,A,B⟩],by go_num,by rw [List.length_append,zq.out];rfl,by go_num,by omega,by omega,zH xk.out,xo,yb.out.grown xn yb.out.size (fun j hj=>(yr.out.lt j hj).1)⟩
     case measure=>simp [intOf];omega
   ·obtain rfl:k=d:=by omega
    have H:R=(acc,K,0):=by rw [<-HC.out,Nat.sub_self];rfl
    obtain⟨a9,N,hv,zi,yy⟩:=ho.sl
    have xg:=zH (show ∀ x,a9=some x->w.heap.size<=x.block from fun x hx=>by have o:=(yy x hx).1;have q:=xm.out;omega)
    clear yy
    rw [zd] at hv zi
    subst hv
    have xt:=zH zi
    have zt:=zH y
    have yt:=zH H
    by_cases r:K < n
    ·have l:=zH (HE.out _ _ H (by rw [zl.out];exact r))
     have t4:(K:Int) < (n:Int):=by omega
     clear H ho zd zi
     go_wp2_with fail
     refine DO rfl rfl ((t.out.ext zt.out).IJ 0 (.slice none 0 0)) rfl rfl (DM.bad l.out rfl ?_)
     exact zb.out _ zt.out
    have t4:¬ (K:Int) < (n:Int):=by omega
    by_cases C:1099511627776 < g
    ·have l:=zH (HF.out _ _ H (by rw [zl.out];exact r) C)
     have t5:(1099511627776:Int) < (g:Int):=by omega
     clear H ho zd zi
     go_wp2_with fail
     refine DO rfl rfl ((t.out.ext zt.out).IJ 0 (.slice none 0 0)) rfl rfl (DM.bad l.out rfl ?_)
     exact zb.out _ zt.out
    have t5:¬ (1099511627776:Int) < (g:Int):=by omega
    have wv:IntKind.i64.wrap (g:Int)=(g:Int):=by rw [IntKind.wrap_i64];omega
    first|(replace u:Mk true:=u;have hV:=fun W (hs:AT W a9 k N acc)=>Xo (g:Int) a9 k N acc W hs (fun p F=>by have:=(ys.out _ _ H).1 p F;omega))|have hV:=fun W (hs:AT W a9 k N acc)=>Jv (g:Int) a9 k N acc W hs (by omega) (fun p F=>by have:=(ys.out _ _ H).1 p F;omega)
    obtain⟨vb,yl⟩:∃ vb,AN.AK (g:Int) acc=vb:=⟨_,rfl⟩
    rw [yl] at hV
    have HV:=zH hV
    have yu:=zH yl
    have zo:acc.length=k:=zd
    have zq:=zH zo
    have yn:=(AP.refl wr).alloc (.cells #[g,.slice a9 k N] 44)
    have yf:=AE.new wr (g:Int) (.slice a9 k N)
    have yk:=zi.ext yn
    have ye:AP i (wr.alloc (.cells #[g,.slice a9 k N] 44)):=AP.step yn y
    obtain⟨W7,yi⟩:∃ W7,wr.alloc (.cells #[g,.slice a9 k N] 44)=W7:=⟨_,rfl⟩
    rw [yi] at yf yk ye
    have yv:=zH yi
    have xf:=zH yf
    have yc:=zH yk
    have yq:=zH ye
    clear yl hV zo yn yf yk ye yi ho zd zi y
    cases vb with
   |false =>
     have l:=zH (HG.out _ _ yt.out (by rw [zl.out];exact r) C yu.out)
     clear H r C
     go_wp2_with fail
     rw [yv.out]
     refine (HV.out _ yc.out).mono ?_;rintro e w8 ⟨rfl,zp⟩
     have za:AP i w8:=AP.step zp yq.out
     clear U X Y Z
     obtain⟨U,X,Y,Z⟩:=zk.out _ za
     go_wp2_with fail
     refine DO rfl rfl ((t.out.ext za).IJ 0 (.slice none 0 0)) rfl rfl (DM.bad l.out rfl ?_)
     exact zb.out _ za
   |true =>
     have l:=zH (HH.out _ _ yt.out (by rw [zl.out];exact r) C yu.out)
     clear H r C
     go_wp2_with fail
     rw [yv.out]
     refine (HV.out _ yc.out).mono ?_;rintro e w8 ⟨rfl,zp⟩
     have za:AP i w8:=AP.step zp yq.out
     have yw:=xf.out.ext zp
     have xi:=zH (yc.out.ext zp)
     clear U X Y Z
     obtain⟨U,X,Y,Z⟩:=zk.out _ za
     obtain⟨g0,g1⟩:=yw.cells
     have g2:=Qa yw
     go_wp2_with fail
     refine DO rfl rfl ((t.out.ext za).IJ (g:Int) (.slice a9 k N)) rfl rfl (DM.good l.out zq.out rfl (xi.out.EH (t.out.ext za) _ _ _ _) ?_ xg.out)
     exact ((zr.out.trans (Below.mono za zr.out.size)).setCell (p:=w.heap.size) (zN _) _).setCell (p:=(w.heap.size 1)) (zN _) _
end
end Go.Proofs.YtmanejniepghlaaGreatDoor
