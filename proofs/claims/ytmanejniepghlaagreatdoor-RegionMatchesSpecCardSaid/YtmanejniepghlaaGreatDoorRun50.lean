import Derived.Test.YtmanejniepghlaaGreatDoorRun17
import Derived.Test.YtmanejniepghlaaGreatDoorRun0
import Derived.Test.YtmanejniepghlaaGreatDoorRun48
import Derived.Test.YtmanejniepghlaaGreatDoorRun39
import Derived.Test.YtmanejniepghlaaGreatDoorRun21
import Derived.Test.YtmanejniepghlaaGreatDoorRun22
import Derived.Test.YtmanejniepghlaaGreatDoorRun23
import Derived.Test.YtmanejniepghlaaGreatDoorRun43
import Derived.Test.YtmanejniepghlaaGreatDoorRun36
namespace Go.Proofs.YtmanejniepghlaaGreatDoor
open Go.RowKit
open Dd (Dk)
variable {W w wr wr':World} {B B10 B5 b base g n p:Nat} {F F' F10:Nat->Prop} {d d':Dk} {z:Int} {l:AH.DK} {sp:Su.S} {lg:AO.L} {ps:List (List UInt8)} {vr:Value}
def FH (g n:Nat) (F:Nat->Prop) (w:World) (R:AH.FY) (e:Ending) (w':World):Prop :=
 match R with
|(none,_,z,d')=>z ≠ 0/\∃ F',e=.returned (.tuple #[.pointer none,.agg #[.int .i64 0,.slice none 0 0],z])/\BZ g d' F' w'/\AD F w F' w'
|(some S,(c,L),z,d')=>z=0/\∃ q a k F',e=.returned (.tuple #[.pointer (q:Nat),.agg #[c,.slice a L.length k],z])/\GM g q S d' F' w'/\AD F w F' w'/\AT w' a L.length k L/\(∀ x,a=some x->L ≠ []->¬ F' x.block/\w.heap.size<=x.block) ∧
  AH.Ok n S/\AN.AK c L=true/\L.length<=S.lay.cap/\w.heap.size<=q
theorem BZ.set (h:BZ g d F w) (a:¬ F b) (o:Nat) (v:Value):BZ g d F (w.setCell (b o) v) :=
 h.AI (fun k c=>heap_setCell_other _ _ _ _ (by rintro rfl;exact a c)) (by simp)
theorem BZ.but {w':World} (h:BZ g d F w) (c:¬ F b) (k:BQ b w w'):BZ g d F w' :=
 h.AI (fun x a=>k.block x (h.lt x a) (by rintro rfl;exact c a)) k.size
theorem FH.err (e:z ≠ 0) (hd:BZ g d' F' W) (hu:AD F w F' W) (a:¬ F' w.heap.size) (c f:Value) :
 FH g n F w (AH.bad z d') (.returned (.tuple #[.pointer none,.agg #[.int .i64 0,.slice none 0 0],z])) ((W.setCell w.heap.size c).setCell (w.heap.size 1) f) :=
 ⟨e,F',rfl,(hd.set a _ _).set a _ _,(hu.setCell (.inr (zN _)) _ _).setCell (.inr (zN _)) _ _⟩
theorem FH.US (e:z ≠ 0) (hd:BZ g d' F' W) (hu:AD F w F' W) (a:¬ F' w.heap.size) (c f:Value) :
 FH g n F w (AH.bad z d') (.returned (.tuple #[.pointer none,.agg #[.int .i64 0,.slice none 0 0],z])) ((W.setCell w.heap.size c).setCell (w.heap.size 1) f).drew :=
 ⟨e,F',rfl,((hd.set a _ _).set a _ _).ext (Below.drew (Below.refl _ _)),((hu.setCell (.inr (zN _)) _ _).setCell (.inr (zN _)) _ _).drew⟩
theorem FH.YS (e:z ≠ 0) (hd:BZ g d' F' W) (hu:AD F w F' W) (a:¬ F' w.heap.size) (c f:Value) (o:Obj) :
 FH g n F w (AH.bad z d') (.returned (.tuple #[.pointer none,.agg #[.int .i64 0,.slice none 0 0],z])) (((W.setCell w.heap.size c).setCell (w.heap.size 1) f).alloc o) :=
 ⟨e,F',rfl,((hd.set a _ _).set a _ _).ext ((Below.refl _ _).alloc (zN _) _),((hu.setCell (.inr (zN _)) _ _).setCell (.inr (zN _)) _ _).alloc o⟩
theorem QX.ptr {lo:Option AO.L} {pv:Value} {P:AO.L->Nat->Prop} (h:(lo=none/\pv=.pointer none)\/∃ L p,lo=some L/\pv=.pointer (p:Nat)/\P L p):∃ o,pv=.pointer o:=by
 rcases h with⟨-,rfl⟩|⟨L,p,-,rfl,-⟩ <;> exact⟨_,rfl⟩
def RT (w:World) (b:Nat) (l:AH.DK):Prop:=w.heap[b]?=some (.cells (layc l) 26 (0,0))
theorem RT.rc {r:Nat} (h:RT w b l) (hr:r < 2):w.cell? b=some (l.cap:Value)/\w.cell? (b (1+r * 2))=some (.int .i64 (l.sf r))/\w.cell? (b (1+r * 2+1))=some (l.sc:Value)/\w.cell? (b (5+r * 2))=some (.int .i64 (l.lf r))/\w.cell? (b (5+r * 2+1))=some (l.lc:Value):=by
 have a:=fun k=>cell_of_row _ _ k _ _ _ h
 refine⟨a 0,?_,?_,?_,?_⟩
 all_goals
  rcases (show r=0\/r=1 by omega) with e|e
 ·subst e;exact a 1
 ·subst e;exact a 3
 ·subst e;exact a 2
 ·subst e;exact a 4
 ·subst e;exact a 5
 ·subst e;exact a 7
 ·subst e;exact a 6
 ·subst e;exact a 8
structure NG (g p B5 B10 B base:Nat) (F F10:Nat->Prop) (l:AH.DK) (sp:Su.S) (lg:AO.L) (ps:List (List UInt8)) (vr:Value) (d:Dk) (w wr:World):Prop where
 dp:BZ g d F10 wr
 lb:EB wr p g lg
 ly:RT wr B5 l
 su:AF wr B10 sp
 bx:AE wr B 0 (.slice none 0 0)
 rc:BR base wr vr ps
 up:AD F w F10 wr
theorem NG.ext (h:NG g p B5 B10 B base F F10 l sp lg ps vr d w wr) (e:Below wr.heap.size wr wr'):NG g p B5 B10 B base F F10 l sp lg ps vr d w wr' :=
 ⟨h.dp.ext e,h.lb.ext e,(e.block _ (Qa h.ly)).trans h.ly,(e.block _ (Qa h.su)).trans h.su,h.bx.ext e,h.rc.ext e,h.up.ext e⟩
theorem NG.but {T:Nat} (h:NG g p B5 B10 B base F F10 l sp lg ps vr d w wr) (k:BQ T wr wr') (a:¬ F10 T) (c:p ≠ T) (e:B5 ≠ T) (f:B10 ≠ T) (i:B ≠ T) (o:T < base) (j:w.heap.size<=T):NG g p B5 B10 B base F F10 l sp lg ps vr d w wr' :=
 ⟨h.dp.but a k,h.lb.same (k.block _ h.lb.lt c),(k.block _ (Qa h.ly) e).trans h.ly,(k.block _ (Qa h.su) f).trans h.su,h.bx.but i k,h.rc.keep (fun x q m=>k.block x m (by omega)),h.up.but (.inr j) k⟩
def WH (g p B5 B10 B base T:Nat) (F F10:Nat->Prop) (l:AH.DK) (sp:Su.S) (lg:AO.L) (ps:List (List UInt8)) (vr:Value) (d:Dk) (w:World) (c:Int) (FY:Option (List AJ)) (k:Nat) (wr:World):Prop :=
 NG g p B5 B10 B base F F10 l sp lg ps vr d w wr/\∃ a n m L,AE wr T c (.slice a n m)/\AT wr a n m L/\AH.replay l.cap c L (ps.drop k)=FY/\AN.AK c L=true/\L.length<=l.cap/\(∀ x,a=some x->L ≠ []->¬ F10 x.block/\x.block ≠ p/\x.block ≠ T/\x.block ≠ B/\w.heap.size<=x.block)
set_option maxRecDepth 100000 in
set_option maxHeartbeats 64000000 in
theorem Lq (hd:BZ g d F w) (hn:d.st.length<=1000) {R:AH.FY} (a:AH.EG d=R) :
 Calls Tryz.prog 29 #[.pointer g] w (FH g d.st.length F w R):=by
 have P:=hd.lt
 have nB:¬ F w.heap.size:=fun e=>Nat.lt_irrefl _ (P _ e)
 obtain⟨W0,vd⟩:∃ W0,W0=w.alloc (.cells #[.int .i64 0,.slice none 0 0] 44):=⟨_,rfl⟩
 have zt:Below w.heap.size w W0:=by rw [vd];exact (Below.refl _ _).alloc (zN _) _
 have ko:AE W0 w.heap.size 0 (.slice none 0 0):=by rw [vd];exact AE.new w 0 _
 have jy:=zH vd
 clear vd
 have zh:=Zn false (d.st.length:Nat) W0
 rw [show ((d.st.length:Nat):Int).toNat=d.st.length by omega] at zh
 have jk:=zH (hd.ext zt).sectors
 unfold AH.EG at a
 by_cases hfit:AH.fit d.st.length=false
 ·rw [if_pos hfit] at a
  subst a
  rw [(Jm hfit).1,(Jm hfit).2] at zh
  unfold JC layv at zh
  have HP:=zH zh
  clear zh hfit
  go_in
  go_wp2_with fail
  rw [<-jy.out]
  refine jk.out.mono ?_;rintro e w1 ⟨rfl,rfl⟩
  go_wp2_with fail
  refine HP.out.mono ?_;rintro e j ⟨rfl,zv⟩
  have yv:=ko.ext zv
  have db:=Qa yv
  obtain⟨x0,x1⟩:=yv.cells
  have f0:=AE.frz yv 0
  have f1:=AE.frz yv 1
  go_wp2_with fail
  have vb:=AE.BO yv 0 (.slice none 0 0)
  obtain⟨W3,zm⟩:∃ W3,W3=(j.setCell w.heap.size (.int .i64 0)).setCell (w.heap.size 1) (.slice none 0 0):=⟨_,rfl⟩
  have qk:BQ w.heap.size j W3:=by rw [zm];exact ((BQ.refl _ _).setCell 0 _).setCell 1 _
  rw [<-zm] at vb
  rw [<-zm]
  clear zm
  have kv:=(Below.refl W3.heap.size W3).alloc (zN _) (.cells #[.int .i64 0,.int .i64 0,.int .i64 0,.int .i64 0,.int .i64 0,.int .i64 0,.int .i64 0,.int .i64 0,.int .i64 0] 26)
  have hE:=vb.ext kv
  obtain⟨e0,e1⟩:=hE.cells
  refine bodyPost_ret (v:=.tuple #[.pointer none,.agg #[.int .i64 0,.slice none 0 0],.int .i64 2]) (by simp [results,Tryz.results29,go_sem,e0,e1]) rfl ?_
  exact⟨by decide,F,rfl,(((hd.ext zt).ext zv).but nB qk).ext kv,((AD.AL (zt.trans (zv.mono zt.size))).but (.inr (zN _)) qk).ext kv⟩
 ·rw [if_neg hfit] at a
  have yb:AH.fit d.st.length=true:=by simpa using hfit
  rw [(Xd yb).1,(Xd yb).2] at zh
  obtain⟨l,M⟩:∃ l,AH.plan d.st.length=l:=⟨_,rfl⟩
  rw [M] at zh a
  unfold layc at zh
  have HP:=zH zh
  have HL:=zH M
  clear zh hfit M
  rcases h0:Dd.read d 0 with⟨ba,z0,e0⟩
  unfold AH.QK at a
  rw [h0] at a
  dsimp only at a
  have bc:=zH (fun W F' (h:BZ g d F' W)=>h.read 0 h0)
  have n0:e0.st.length=d.st.length:=by have:=(Dd.BM d 0).1;rw [h0] at this;exact congrArg List.length this
  clear h0
  go_in
  go_wp2_with fail
  rw [<-jy.out]
  refine jk.out.mono ?_;rintro e w1 ⟨rfl,rfl⟩
  go_wp2_with fail
  refine HP.out.mono ?_;rintro e j ⟨rfl,zv⟩
  go_wp2_with fail
  obtain⟨W3,zm⟩:∃ W3,W3=j.alloc (.cells (layc l) 26):=⟨_,rfl⟩
  have ku:Below W0.heap.size W0 W3:=by rw [zm];exact zv.alloc zv.size _
  have kp:RT W3 j.heap.size l:=by unfold RT;rw [zm];exact Qb _ _ _ rfl
  have jz:=zH zm
  unfold layc at jz
  rw [<-jz.out]
  clear zm
  have qb:=ko.ext ku
  have bi:BZ g d F W3:=(hd.ext zt).ext ku
  have qf:AD F w F W3:=AD.AL (zt.trans (ku.mono zt.size))
  have zi:w.heap.size<=j.heap.size:=Nat.le_trans zt.size zv.size
  refine (bc.out _ _ bi).mono ?_;rintro e w4 ⟨v4,rfl,bk,qc,vc⟩
  obtain⟨a4,c4,rfl,ca,bs⟩:=bk.sl
  have yd:=qb.AI (vc.block _ (Qa qb) nB)
  have qg:=qf.trans vc
  by_cases vl:z0=0
  ·subst vl
   rw [if_neg (by simp)] at a
   rcases H:Dd.read e0 1 with⟨bb,z1,e1⟩
   unfold AH.QL at a
   rw [H] at a
   dsimp only at a
   have xu:=zH (qc.read 1 H)
   have n1:e1.st.length=d.st.length:=by have:=(Dd.BM e0 1).1;rw [H] at this;exact (congrArg List.length this).trans n0
   clear H
   go_wp2_with fail
   refine xu.out.mono ?_;rintro e w5 ⟨v5,rfl,bl,qd,yz⟩
   obtain⟨a5,c5,rfl,cb,-⟩:=bl.sl
   have yw:=yd.AI (yz.block _ (Qa yd) nB)
   have yg:=qg.trans yz
   by_cases xc:z1=0
   ·subst xc
    rw [if_neg (by simp)] at a
    have an:=ca.upd yz (fun y hy _ e=>by have:=(bs y hy).2.1;have:=P _ e;have:=qf.size;omega)
    rcases vg:Su.choose ba bb with⟨sl,sp,zc⟩
    have vh:=Og false a4 a5 ba.length bb.length c4 c5 ba bb w5 an cb
    unfold GK supv at vh
    rw [vg] at vh
    have ax:=zH vh
    clear vh
    go_wp2_with fail
    refine ax.out.mono ?_;rintro e t ⟨rfl,zx⟩
    go_wp2_with fail
    obtain⟨G,ve⟩:∃ G,G=t.alloc (.cells #[.int .u64 (sp.gen:Nat),sp.act,.int .u32 (sp.AA:Nat),sp.len,.int .u32 (sp.sum:Nat)] 94):=⟨_,rfl⟩
    have vf:Below w5.heap.size w5 G:=by rw [ve];exact zx.alloc zx.size _
    have yf:AF G t.heap.size sp:=by unfold AF;rw [ve];exact Qb _ _ _ rfl
    rw [<-ve]
    clear ve
    have zr:=yw.ext vf
    have va:=qd.ext vf
    have ks:=yg.ext vf
    have ac:AD F W3 F G:=(vc.trans yz).ext vf
    have ye:RT G j.heap.size l:=(ac.kept P zi (Qa kp)).trans kp
    by_cases je:zc=0
    ·subst je
     obtain⟨cc,kf,vm⟩:=Su.GU vg
     have zs:=AH.MB kf
     obtain⟨r,hr⟩:∃ r,sp.act.toNat=r:=⟨_,rfl⟩
     rw [hr] at zs
     have cy:0<=sp.len/\sp.len<=262144:=by
      simp only [Su.AB,Bool.and_eq_true,decide_eq_true_eq] at kf;omega
     obtain⟨i1,i3,i2,i4,m,hm,hsz,-⟩:=Kz yb r zs.2
     rw [HL.out] at i1 i2 i3 i4 hsz
     have dx:Ex.size l.sc<=100000:=by
      have:=AH.DB yb
      rw [HL.out] at this
      unfold AH.DK.sc;rw [Ex.IK _ (by omega)];omega
     obtain⟨zz,jv⟩:∃ zz,Ex.size l.sc=zz:=⟨_,rfl⟩
     have r0:(0:Int)<=(r:Int):=by omega
     have r1:(r:Int) < 2:=by omega
     have jx:=zH (fun W=>show Calls Tryz.prog 79 #[.agg #[.int .i64 (l.sf r),l.sc]] W fun e w'=>e=.returned (zz:Value)/\Below W.heap.size W w' by rw [<-jv];exact Yn _ _ i2 W)
     have kh:=zH (fun (W:World) (F':Nat->Prop) (u:AD F G F' W)=>show W.cell? (t.heap.size 1)=some (r:Value)/\W.cell? (t.heap.size 3)=some (sp.len:Value)/\W.cell? (j.heap.size (1+r * 2))=some (.int .i64 (l.sf r))/\W.cell? (j.heap.size (1+r * 2+1))=some (l.sc:Value) from by
      have H:=(u.kept P (k:=t.heap.size) (by have:=yg.size;have:=zx.size;omega) (Qa yf)).trans yf
      have Z:RT W j.heap.size l:=(u.kept P zi (Qa ye)).trans ye
      have h3:=Z.rc zs.2
      exact⟨(cell_of_row _ _ 1 _ _ _ H).trans (by rw [<-zs.1];rfl),cell_of_row _ _ 3 _ _ _ H,h3.2.1,h3.2.2.1⟩)
     have jc:AD F G F G:=AD.refl _ _
     have df:AD F G F G.drew:=jc.drew
     unfold AH.KC at a
     rw [vg] at a
     dsimp only at a
     rw [if_neg (by simp),hr,jv] at a
     by_cases xp:zz < sp.len
     ·rw [if_pos xp] at a
      subst a
      have t1:decide (zz < sp.len)=true:=by simpa using xp
      go_wp2_with fail
      go_region_held3 (fun W=>W.cell? (t.heap.size 1)=some (r:Value)/\W.cell? (t.heap.size 3)=some (sp.len:Value)/\W.cell? (j.heap.size (1+r * 2))=some (.int .i64 (l.sf r))/\W.cell? (j.heap.size (1+r * 2+1))=some (l.sc:Value)) (first|exact kh.out _ _ (by assumption)) (first
      |(go_at_call 79;go_must (refine (jx.out _).mono ?_);rintro e w8 ⟨rfl,vz⟩;have zw:Below G.heap.size G w8:=(Below.drew (Below.refl _ G)).trans vz;have qn:AD F G F w8:=jc.ext zw))
      have yx:=zr.ext zw
      obtain⟨x0,x1⟩:=yx.cells
      have f0:=AE.frz yx 0
      have f1:=AE.frz yx 1
      go_wp2_with fail
      refine EX rfl rfl rfl (AE.BO yx 0 (.slice none 0 0)) rfl rfl ?_
      exact FH.err (by decide) (va.ext zw) (ks.ext zw) nB _ _
     ·rw [if_neg xp] at a
      have t1:decide (zz < sp.len)=false:=by simpa using xp
      have ec:sp.len<=zz:=by omega
      rcases vi:Ex.read e1 (l.sf r) l.sc 0 sp.len with⟨x,z2,e2⟩
      unfold AH.QM at a
      rw [vi,hr] at a
      dsimp only at a
      have n2:e2.st.length=d.st.length:=by have:=Ex.BM e1 (l.sf r) l.sc 0 sp.len;rw [vi] at this;exact this.trans n1
      go_wp2_with fail
      go_region_held3 (fun W=>W.cell? (t.heap.size 1)=some (r:Value)/\W.cell? (t.heap.size 3)=some (sp.len:Value)/\W.cell? (j.heap.size (1+r * 2))=some (.int .i64 (l.sf r))/\W.cell? (j.heap.size (1+r * 2+1))=some (l.sc:Value)) (first|exact kh.out _ _ (by assumption)) (first
      |(go_at_call 79;go_must (refine (jx.out _).mono ?_);rintro e w8 ⟨rfl,vz⟩;have zw:Below G.heap.size G w8:=(Below.drew (Below.refl _ G)).trans vz;have qn:AD F G F w8:=jc.ext zw))
      have yx:=zr.ext zw
      have bd:=zH (((va.ext zw).ext (Below.drew (Below.refl _ w8))).eread (l.sf r) l.sc 0 sp.len i1 i2 (by unfold ib;omega) (by unfold ib;omega) vi)
      have ap:AD F G F w8.drew:=qn.drew
      go_wp2_with fail
      go_region_held3 (fun W=>W.cell? (t.heap.size 1)=some (r:Value)/\W.cell? (t.heap.size 3)=some (sp.len:Value)/\W.cell? (j.heap.size (1+r * 2))=some (.int .i64 (l.sf r))/\W.cell? (j.heap.size (1+r * 2+1))=some (l.sc:Value)) (first|exact kh.out _ _ (by assumption)) (first
      |(go_at_call 80;go_must (refine bd.out.mono ?_);rintro e w9 ⟨v9,rfl,bm,qe,ad⟩;have xb:AD F G F w9:=ap.trans ad;obtain⟨a9,c9,rfl,ja,dv⟩:=bm.sl))
      have yy:AE w9 w.heap.size 0 (.slice none 0 0):=(xb.block _ (Qa zr) nB).trans zr
      have xa:=ks.trans xb
      by_cases xd:z2=0
      ·subst xd
       rw [if_neg (by simp)] at a
       have qp:x.length<=100000:=by have:=(Ex.CS va.ok vi).1;omega
       obtain⟨xl,jw⟩:∃ xl,x.length=xl:=⟨_,rfl⟩
       rw [jw] at ja qp
       rw [jw]
       have yu:=zH (Zc false a9 xl c9 x w9 ja qp)
       unfold DM at yu
       rcases kw:Sp.dec x with⟨⟨c,L⟩,z3⟩
       rw [kw] at yu a
       dsimp only at yu a
       have du:L.length<=1000\/z3 ≠ 0:=by
        by_cases h3:z3=0
        ·subst h3
         left
         exact ((AN.BF c L).1 (Sp.AY kw).1).2.2.1
        ·exact .inr h3
       obtain⟨Q,bt⟩:∃ Q,L.length=Q:=⟨_,rfl⟩
       rw [bt] at yu a
       obtain⟨cr,qj⟩:∃ cr,AX.update 0 x=cr:=⟨_,rfl⟩
       have ag:AH.crc x=cr:=qj
       rw [ag] at a
       go_wp2_with fail
       refine yu.out.mono ?_;rintro e C ⟨ze,zf,rfl,jt,ae,jr⟩
       go_wp2_with fail
       obtain⟨J,yp⟩:∃ J,J=C.alloc (.cells #[c,.slice ze Q zf] 44):=⟨_,rfl⟩
       have xi:Below w9.heap.size w9 C:=ae
       have yr:Below w9.heap.size w9 J:=by rw [yp];exact xi.alloc xi.size _
       have jm:AE J C.heap.size c (.slice ze Q zf):=by rw [yp];exact AE.new C c _
       have aj:AT J ze Q zf L:=by rw [yp];exact jt.ext ((Below.refl _ _).alloc (zN _) _)
       rw [<-yp]
       clear yp
       have kd:AD F G F J:=xb.ext yr
       have xj:=qe.ext yr
       have za:=yy.ext yr
       have xo:=xa.ext yr
       have xv:=zH (fun W (h:Below J.heap.size J W)=>show Calls Tryz.prog 82 #[.slice a9 xl c9] W fun e w'=>e=.returned (.int .u32 (cr:Nat))/\W=w' by rw [<-qj];exact Yo a9 xl c9 x W ((ja.ext yr).ext h))
       have zp:=zH (fun (W:World) (e:Below J.heap.size J W)=>show W.cell? (t.heap.size 4)=some (.int .u32 (sp.sum:Nat))/\W.cell? (C.heap.size 1)=some (.slice ze Q zf)/\W.cell? j.heap.size=some (l.cap:Value) from by
        have H:=((kd.ext e).kept P (k:=t.heap.size) (by have:=yg.size;have:=zx.size;omega) (Qa yf)).trans yf
        have Z:RT W j.heap.size l:=((kd.ext e).kept P zi (Qa ye)).trans ye
        exact⟨cell_of_row _ _ 4 _ _ _ H,(AE.cells (jm.ext e)).2,(Z.rc zs.2).1⟩)
       have xu:=zH (Below.refl J.heap.size J)
       have T:=zH (Below.drew (Below.refl J.heap.size J))
       have yk:=za.ext T.out
       have vn:=xj.ext T.out
       have jn:=xo.ext T.out
       by_cases kc:cr=sp.sum
       ·have t3:((cr:Int) != (sp.sum:Int))=false:=by simp [kc]
        by_cases zi:z3=0
        ·subst zi
         by_cases qi:l.cap < Q
         ·rw [if_pos (.inr (.inr qi))] at a
          subst a
          have t4:decide ((l.cap:Int) < (Q:Int))=true:=by simp;omega
          go_wp2_with fail
          go_region_held3 (fun W=>W.cell? (t.heap.size 4)=some (.int .u32 (sp.sum:Nat))/\W.cell? (C.heap.size 1)=some (.slice ze Q zf)/\W.cell? j.heap.size=some (l.cap:Value)) (first|exact zp.out _ xu.out|exact zp.out _ T.out) (first
          |(go_at_call 82;go_must (refine (xv.out _ T.out).mono ?_);rintro e jh ⟨rfl,rfl⟩))
          obtain⟨x0,x1⟩:=za.cells
          have f0:=AE.frz za 0
          have f1:=AE.frz za 1
          go_wp2_with fail
          refine EX rfl rfl rfl (AE.BO za 0 (.slice none 0 0)) rfl rfl ?_
          exact FH.US (by decide) xj xo nB _ _
         ·rw [if_neg (by rintro (h|h|h);exact h kc;exact h rfl;exact qi h)] at a
          have t4:decide ((l.cap:Int) < (Q:Int))=false:=by simp;omega
          have ed:(Q:Int)<=(l.cap:Int):=by omega
          go_wp2_with fail
          go_region_held3 (fun W=>W.cell? (t.heap.size 4)=some (.int .u32 (sp.sum:Nat))/\W.cell? (C.heap.size 1)=some (.slice ze Q zf)/\W.cell? j.heap.size=some (l.cap:Value)) (first|exact zp.out _ xu.out|exact zp.out _ T.out) (first
          |(go_at_call 82;go_must (refine (xv.out _ T.out).mono ?_);rintro e jh ⟨rfl,rfl⟩))
          have ke:AD F G F J.drew:=kd.drew
          have vs:=jm.ext T.out
          have xr:=aj.ext T.out
          have qt:=Qa yf
          have yn:AF J.drew t.heap.size sp:=(ke.kept P (k:=t.heap.size) (by have:=yg.size;have:=zx.size;omega) qt).trans yf
          have ym:RT J.drew j.heap.size l:=(ke.kept P zi (Qa ye)).trans ye
          have au:w.heap.size<=C.heap.size:=by have:=xa.size;have:=xi.size;omega
          have qq:w.heap.size<=t.heap.size:=by have:=yg.size;have:=zx.size;omega
          have dl:j.heap.size < t.heap.size:=by have H:=Qa kp;have Z:=vc.size;have h3:=yz.size;have h4:=zx.size;omega
          have da:t.heap.size < C.heap.size:=by have H:=xb.size;have Z:=xi.size;omega
          have dh:w.heap.size < j.heap.size:=by have:=Qa ko;have:=zv.size;omega
          obtain⟨I,vv⟩:∃ I,I=J.drew:=⟨_,rfl⟩
          rw [<-vv] at ke vs xr yn ym yk vn jn
          rw [<-vv]
          clear vv
          have jj:AN.AK c L=true/\L.length<=l.cap:=⟨(Sp.AY kw).1,by omega⟩
          rcases zy:AO.open e2 (l.lf r) l.lc sp.AA with⟨lo,ps,z4,e4⟩
          rw [zy] at a
          have qa:=zH ((vn.ext (Below.drew (Below.refl _ I))).wopen (l.lf r) l.lc i3 i4 sp.AA vm.2.1 (by omega) zy)
          unfold QX at qa
          have aw:=zH (fun (W:World) (F':Nat->Prop) (u:AD F I F' W)=>show W.cell? (t.heap.size 1)=some (r:Value)/\W.cell? (t.heap.size 2)=some (.int .u32 (sp.AA:Nat))/\W.cell? (j.heap.size (5+r * 2))=some (.int .i64 (l.lf r))/\W.cell? (j.heap.size (5+r * 2+1))=some (l.lc:Value) from by
           have H:=(u.kept P qq (Qa yn)).trans yn
           have Z:RT W j.heap.size l:=(u.kept P zi (Qa ym)).trans ym
           have h3:=Z.rc zs.2
           exact⟨(cell_of_row _ _ 1 _ _ _ H).trans (by rw [<-zs.1];rfl),cell_of_row _ _ 2 _ _ _ H,h3.2.2.2.1,h3.2.2.2.2⟩)
          have aq:AD F I F I:=AD.refl _ _
          have qv:AD F I F I.drew:=aq.drew
          go_wp2_with fail
          go_region_held3 (fun W=>W.cell? (t.heap.size 1)=some (r:Value)/\W.cell? (t.heap.size 2)=some (.int .u32 (sp.AA:Nat))/\W.cell? (j.heap.size (5+r * 2))=some (.int .i64 (l.lf r))/\W.cell? (j.heap.size (5+r * 2+1))=some (l.lc:Value)) (first|exact aw.out _ _ (by assumption)) (first
          |(go_at_call 83;go_must (refine qa.out.mono ?_);rintro e ya ⟨pv,ee,F10,rfl,vo,jl,qs,kk⟩;have zk:AD F I F10 ya:=qv.trans qs;obtain⟨cp,rfl⟩:∃ o,pv=.pointer o:=QX.ptr kk;have cq:=zH kk;clear kk))
          obtain⟨km,kn,rfl,-⟩:=vo.sl
          have xs:¬ F10 w.heap.size:=fun e=>by
           rcases zk.new _ e with e|e
           ·exact nB e
           ·have:=Qa yk;omega
          have yl:=yk.AI (zk.block _ (Qa yk) nB)
          have jo:=jn.trans zk
          by_cases xe:z4=0
          ·subst xe
           obtain⟨lg,ky⟩:=AO.EU (d:=e2) (f:=l.lf r) (c:=l.lc) (ep:=sp.AA) (by rw [zy])
           rw [zy] at ky
           dsimp only at ky
           subst ky
           have bo:=(AO.MU (d:=e2) (f:=l.lf r) (c:=l.lc) (ep:=sp.AA) (by rw [zy])).1
           have bp:CX lg:=CX.opened (d:=e2) vn.ok (by omega) i3 i4 vm.2.1 (by rw [zy])
           have vk:=AO.KE e2 (l.lf r) l.lc sp.AA
           rw [zy] at vk
           dsimp only at vk
           obtain⟨p,rfl,bu,bw,bz⟩:∃ p,cp=.some (p:Nat)/\I.drew.heap.size<=p/\EB ya p g lg/\¬ F10 p:=by
            rcases cq.out with⟨h,-⟩|⟨L',p,h,Z,h3⟩
            ·cases h
            ·cases h;cases Z;exact⟨p,rfl,h3⟩
           have dd:I.heap.size<=p:=bu
           have cx:I.drew.heap.size=I.heap.size:=rfl
           have zT:=Qa vs
           have nK:∀ k,¬ F k->k < I.heap.size->¬ F10 k:=fun k H Z e=>by rcases zk.new k e with e|e;exact H e;omega
           have av:¬ F10 C.heap.size:=nK _ (fun e=>by have:=P _ e;omega) zT
           have qy:RT ya j.heap.size l:=(zk.kept P zi (Qa ym)).trans ym
           have qz:AF ya t.heap.size sp:=(zk.kept P qq (Qa yn)).trans yn
           have aa:=vs.AI (zk.kept P au zT)
           have ak:AT ya ze Q zf L:=xr.AI (fun x O M=>zk.kept P (by have:=jr x O;have:=xa.size;omega) (xr.blt' O M)) zk.size
           have A:NG g p j.heap.size t.heap.size w.heap.size I.drew.heap.size F F10 l sp lg ps (.slice km ps.length kn) e4 w ya:=⟨jl,bw,qy,qz,yl,vo,jo⟩
           obtain⟨N,hN⟩:∃ N,ps.length=N:=⟨_,rfl⟩
           have dr:N<=9223372036854775807:=by obtain⟨_,_,hv,hs⟩:=vo.sl;have:=hs.le;omega
           obtain⟨FY,vp⟩:∃ FY,AH.replay l.cap c L ps=FY:=⟨_,rfl⟩
           have vq:WH g p j.heap.size t.heap.size w.heap.size I.drew.heap.size C.heap.size F F10 l sp lg ps (.slice km ps.length kn) e4 w c FY 0 ya :=
            ⟨A,ze,Q,zf,L,aa,ak,by rw [List.drop_zero];exact vp,jj.1,jj.2,fun x O M=>by
             have H:=jr x O
             have Z:=xa.size
             have h3:=jt.blt' O M
             have h4:=xr.blt' O M
             have h5:=xb.size
             exact⟨nK _ (fun e=>by have:=P _ e;omega) h4,by omega,by omega,by omega,by omega⟩⟩
           rw [hN] at A vq
           rw [hN]
           unfold AH.KD at a
           dsimp only at a
           rw [if_neg (by simp),vp] at a
           have bf:=zH vq
           have ay:=zH (show l.cap<=1000 from by have:=(AH.DB yb).2.2.2.2.2.1;rw [HL.out] at this;exact this)
           have kj:=zH (show p ≠ C.heap.size/\C.heap.size < I.drew.heap.size/\p ≠ w.heap.size from ⟨by omega,zT,by omega⟩)
           have be:=zH vk
           have ki:=zH hN
           have az:=zH (And.intro bp (And.intro bo (And.intro cc (And.intro kf vm))))
           clear vq vk vp A
           go_wp2_with fail
           go_loopw [15] (fun i wr=>∃ k:Nat,i=.int .i64 k/\k<=N/\WH g p j.heap.size t.heap.size w.heap.size I.drew.heap.size C.heap.size F F10 l sp lg ps (.slice km N kn) e4 w c FY k wr) (fun i _=>N - (intOf i).toNat)
           case atStart=>exact⟨0,rfl,Nat.zero_le _,bf.out⟩
           case round =>
            obtain⟨k,rfl,hk,kq⟩:=hrel
            have k0:(0:Int)<=(k:Int):=by omega
            obtain⟨A,zd,jg,zn,zb,yo,yt,X,jb,jq,kt⟩:=kq
            by_cases ql:k < N
            ·have k1:(k:Int) < (N:Int):=by omega
             obtain⟨ar,dn,qo,ju⟩:=A.rc.sl
             rw [ki.out] at qo ju
             obtain⟨br,eb,bn,ds,pe,me,de,dt,vj⟩:=ju.at ql
             cases qo
             subst bn
             obtain⟨yh,xq⟩:∃ yh,ps[k]?.getD []=yh:=⟨_,rfl⟩
             rw [xq] at vj
             have kx:k < ps.length:=by rw [ki.out];exact ql
             have kz:ps[k]=yh:=by rw [List.getElem?_eq_getElem kx] at xq;exact xq
             have dw:me<=1024:=by
              have:=be.out yh (kz ▸ List.getElem_mem kx)
              have:=vj.len
              omega
             rw [List.drop_eq_getElem_cons kx,kz] at X
             have xt:=zH (Cl pe me de yh wr vj (by omega))
             unfold CD at xt
             rcases ka:AN.dec yh with⟨u,zu⟩
             rw [ka] at xt
             unfold uv uc at xt
             unfold AH.replay at X
             rw [ka] at X
             dsimp only at X
             have zq:=zH (fun W (e:Below wr.heap.size wr W)=>A.ext e)
             clear xq kz vj
             have dc:=yt.len
             have qu:jg<=100000:=by
              have:=(AN.BF c zb).1 jb
              omega
             go_wp2_with fail
             refine xt.out.mono ?_;rintro e Y ⟨rfl,vy⟩
             have zj:Below wr.heap.size wr Y:=vy
             have vu:=BV.new Y u.k (str u.p.h) u.p.s u.p.x
             have ys:=(Below.refl Y.heap.size Y).alloc (zN _) (.cells #[u.k,.string (str u.p.h),.bool u.p.s,u.p.x] 36)
             by_cases jf:zu=0
             ·subst jf
              rw [if_neg (by simp)] at X
              have cd:=(AN.AY ka).1
              rcases vx:AN.apply c zb u l.cap with⟨L',z'⟩
              rw [vx] at X
              dsimp only at X
              obtain⟨U,yq⟩:∃ U,U=Y.alloc (.cells #[u.k,.string (str u.p.h),.bool u.p.s,u.p.x] 36):=⟨_,rfl⟩
              obtain⟨y3,y4,y5,y6⟩:=vu.cells
              rw [<-yq] at vu ys
              have zo:Below wr.heap.size wr U:=zj.trans (ys.mono zj.size)
              have qx:=zq.out U zo
              have ab:=yo.ext zo
              have am:=yt.ext zo
              have kg:=zH (show Calls Tryz.prog 14 #[.agg #[c,.slice zd jg zn],uv u,l.cap] U (CN zd zb c L' z' U) by
               have:=Ux c zd jg zn zb u l.cap U am qu (fun q hq=>Nat.le_trans (AN.LH jb q hq) (by omega)) (Nat.le_trans (AN.NV cd) (by omega))
               rw [vx] at this
               exact this)
              unfold CN sv uv uc at kg
              obtain⟨y0,y1⟩:=(yo.ext vy).cells
              have y7:Y.cell? j.heap.size=some (l.cap:Value):=((zq.out Y zj).ly.rc (r:=0) (by decide)).1
              have dj:C.heap.size < Y.heap.size:=Qa (yo.ext vy)
              have dk:j.heap.size < Y.heap.size:=Qa (zq.out Y zj).ly
              obtain⟨ck,qh⟩:∃ ck,AN.ack c z'=ck:=⟨_,rfl⟩
              rw [qh] at kg
              go_wp2_with fail
              rw [<-yq]
              clear y3 y4 y5 y6 yq
              refine kg.out.mono ?_;rintro e xf ⟨yc,xz,rfl,kb,af,ah⟩
              have ji:Below U.heap.size U xf:=af
              have xn:=ab.ext ji
              obtain⟨v0,v1⟩:=xn.cells
              have g0:=AE.frz xn 0
              have g1:=AE.frz xn 1
              have yi:BQ C.heap.size xf ((xf.setCell C.heap.size (ck:Value)).setCell (C.heap.size 1) (.slice yc L'.length xz)):=((BQ.refl _ _).setCell 0 _).setCell 1 _
              have vt:=AE.BO xn ck (.slice yc L'.length xz)
              obtain⟨kl,vw⟩:∃ kl,kl=(xf.setCell C.heap.size (ck:Value)).setCell (C.heap.size 1) (.slice yc L'.length xz):=⟨_,rfl⟩
              rw [<-vw] at vt yi
              have qw:=zo.trans (ji.mono zo.size)
              have xk:=zq.out xf qw
              have xm:=xk.but yi av kj.out.1 (by omega) (by omega) (by omega) kj.out.2.1 (by omega)
              have cz:=ys.size
              by_cases jd:z'=0
              ·subst jd
               obtain rfl:c=ck:=by rw [<-qh];rfl
               rw [if_neg (by simp)] at X
               obtain⟨bg,bh,dq⟩:=AH.KZ vx jq ay.out
               have js:∀ x,yc=some x->L' ≠ []->(U.heap.size<=x.block\/(yc=zd/\L'=zb)):=fun x O _=>ah x O
               have kq:=zH (show WH g p j.heap.size t.heap.size w.heap.size I.drew.heap.size C.heap.size F F10 l sp lg ps _ e4 w c FY (k+1) kl from
                ⟨xm,yc,L'.length,xz,L',vt,kb.AI (fun x O M=>yi.block _ (kb.blt' O M) (by
                 rcases js x O M with h|⟨h,h'⟩
                 ·omega
                 ·exact (kt x (h ▸ O) (h' ▸ M)).2.2.1)) yi.size,X,bh,bg,fun x O M=>by
                 rcases js x O M with H|⟨h,h'⟩
                 ·have Z:=zo.size
                  have h3:=A.lb.lt
                  have h4:=Qa A.bx
                  have h5:=A.up.size
                  exact⟨fun e=>by have:=A.dp.lt _ e;omega,by omega,by omega,by omega,by omega⟩
                 ·exact kt x (h ▸ O) (h' ▸ M)⟩)
               clear vt yi kb
               go_wp2_with fail
               rw [<-vw]
               go_roundw
               case rel=>exact⟨k+1,by go_num,by omega,kq.out⟩
               case measure=>simp [intOf];omega
              ·rw [if_pos jd] at X
               subst X
               subst a
               have t1:(z' != 0)=true:=by simpa using jd
               obtain⟨x0,x1⟩:=xk.bx.cells
               have f0:=AE.frz xk.bx 0
               have f1:=AE.frz xk.bx 1
               have dy:C.heap.size ≠ w.heap.size:=by omega
               have ea:w.heap.size ≠ C.heap.size:=by omega
               go_wp2_with fail
               rw [<-vw]
               refine EX rfl rfl rfl (AE.BO xm.bx 0 (.slice none 0 0)) rfl rfl ?_
               exact FH.err (by decide) xm.dp xm.up xs _ _
             ·rw [if_pos jf] at X
              subst X
              subst a
              have t1:(zu != 0)=true:=by simpa using jf
              obtain⟨U,yq⟩:∃ U,U=Y.alloc (.cells #[u.k,.string (str u.p.h),.bool u.p.s,u.p.x] 36):=⟨_,rfl⟩
              rw [<-yq] at vu ys
              have zo:Below wr.heap.size wr U:=zj.trans (ys.mono zj.size)
              have qx:=zq.out U zo
              have yj:=(zq.out Y zj).bx
              obtain⟨x0,x1⟩:=yj.cells
              have f0:=AE.frz yj 0
              have f1:=AE.frz yj 1
              have di:=Qa yj
              go_wp2_with fail
              have hE:=(AE.BO yj 0 (.slice none 0 0)).ext ((Below.refl _ _).alloc (zN _) (.cells #[u.k,.string (str u.p.h),.bool u.p.s,u.p.x] 36))
              obtain⟨e0,e1⟩:=hE.cells
              refine bodyPost_ret (v:=.tuple #[.pointer none,.agg #[.int .i64 0,.slice none 0 0],.int .i64 13]) (by simp [results,Tryz.results29,go_sem,e0,e1]) rfl ?_
              exact FH.YS (by decide) (zq.out Y zj).dp (zq.out Y zj).up xs _ _ _
            ·obtain rfl:k=N:=by omega
             rw [show ps.drop k=[] from List.drop_of_length_le (by rw [ki.out];exact zN _)] at X
             have ai:FY=some zb:=X.symm
             subst ai
             dsimp only at a
             subst a
             have bq:=yt.len
             subst bq
             obtain⟨x0,x1⟩:=A.bx.cells
             obtain⟨x2,x3⟩:=yo.cells
             have f0:=AE.frz A.bx 0
             have f1:=AE.frz A.bx 1
             have zg:=fun k=>cell_of_row _ _ k _ _ _ A.ly
             have cf:wr.cell? j.heap.size=some (l.cap:Value):=zg 0
             have cg:wr.cell? (j.heap.size 1)=some (.int .i64 (l.sf 0)):=zg 1
             have ch:wr.cell? (j.heap.size 2)=some (l.sc:Value):=zg 2
             have ci:wr.cell? (j.heap.size 3)=some (.int .i64 (l.sf 1)):=zg 3
             have cj:wr.cell? (j.heap.size 4)=some (l.sc:Value):=zg 4
             have cl:wr.cell? (j.heap.size 5)=some (.int .i64 (l.lf 0)):=zg 5
             have cm:wr.cell? (j.heap.size 6)=some (l.lc:Value):=zg 6
             have cn:wr.cell? (j.heap.size 7)=some (.int .i64 (l.lf 1)):=zg 7
             have co:wr.cell? (j.heap.size 8)=some (l.lc:Value):=zg 8
             obtain⟨cs,ct,cu,cv,cw⟩:=A.su.cells
             clear zg
             have xc:=Qa yo
             have xd:=Qa A.bx
             have dm:=Qa A.ly
             have xe:=Qa A.su
             go_wp2_with fail
             go_region
             go_wp2_with fail
             have xg:BQ w.heap.size wr ((wr.setCell w.heap.size (c:Value)).setCell (w.heap.size 1) (.slice zd zb.length zn)):=((BQ.refl _ _).setCell 0 _).setCell 1 _
             have hE:=AE.BO A.bx c (.slice zd zb.length zn)
             have qm:=yt.EH A.bx 0 1 (c:Value) (.slice zd zb.length zn)
             have qr:((wr.setCell w.heap.size (c:Value)).setCell (w.heap.size 1) (.slice zd zb.length zn)).heap.size=wr.heap.size:=by simp
             obtain⟨xw,jp⟩:∃ xw,xw=(wr.setCell w.heap.size (c:Value)).setCell (w.heap.size 1) (.slice zd zb.length zn):=⟨_,rfl⟩
             rw [<-jp] at hE xg qm qr ⊢
             clear jp x0 x1 x2 x3 f0 f1 cf cg ch ci cj cl cm cn co cs ct cu cv cw
             have vb:=fun o:Obj=>(AE.ext hE ((Below.refl _ _).alloc (zN _) o)).cells.1
             have bj:=fun o:Obj=>(AE.ext hE ((Below.refl _ _).alloc (zN _) o)).cells.2
             refine bodyPost_ret (v:=.tuple #[.pointer wr.heap.size,.agg #[c,.slice zd zb.length zn],.int .i64 0]) (by simp [results,Tryz.results29,go_sem,vb,bj]) rfl ?_
             obtain⟨g1,g2,g3,g4,g5⟩:=az.out
             have xy:=fun o:Obj=>Below.drew ((Below.refl xw.heap.size xw).alloc (zN _) o)
             have ao:((sl.toNat:Nat):Int)=sl:=by omega
             have ce:w.heap.size<=p:=by have:=Qa yk;omega
             refine⟨rfl,wr.heap.size,zd,zn,P1 (P1 F10 p) wr.heap.size,rfl,⟨F10,p,rfl,(A.dp.but xs xg).ext (xy _),(A.lb.same (xg.block _ A.lb.lt kj.out.2.2)).ext (xy _),bz,?_,fun e=>Nat.lt_irrefl _ (A.dp.lt _ e),by have:=A.lb.lt;omega⟩,?_,qm.ext (xy _),fun x O M=>?_,⟨yb,hn,HL.out.symm,by dsimp only;omega,g4,g5,g1,fun _=>g2⟩,jb,jq,A.up.size⟩
             ·unfold RQ CP stc
              dsimp only
              rw [ao,zs.1,<-qr]
              exact Qb _ _ _ rfl
             ·refine ((A.up.but (.inr (zN _)) xg).ext (xy _)).grow fun y hy=>?_
              rcases hy with (hy|rfl)|rfl
              ·exact A.up.new y hy
              ·exact .inr ce
              ·exact .inr A.up.size
             ·obtain⟨H,Z,h3,-,h5⟩:=kt x O M
              refine⟨?_,h5⟩
              rintro ((e|e)|e)
              ·exact H e
              ·exact Z e
              ·have:=yt.blt' O M;omega
          ·have kr:R=AH.bad z4 e4:=by rw [<-a];unfold AH.KD;exact if_pos xe
           subst kr
           have t5:(z4 != 0)=true:=by simpa using xe
           obtain⟨x0,x1⟩:=yl.cells
           have f0:=AE.frz yl 0
           have f1:=AE.frz yl 1
           go_wp2_with fail
           refine EX rfl rfl rfl (AE.BO yl 0 (.slice none 0 0)) rfl rfl ?_
           exact FH.err xe jl jo xs _ _
        ·rw [if_pos (.inr (.inl zi))] at a
         subst a
         have t4:(z3 != 0)=true:=by simpa using zi
         go_wp2_with fail
         refine wp_region_held_drew (S:=(fun W=>W.cell? (t.heap.size 4)=some (.int .u32 (sp.sum:Nat))/\W.cell? (C.heap.size 1)=some (.slice ze Q zf)/\W.cell? j.heap.size=some (l.cap:Value))) (by kernel_rfl) ?_ (fun xh=>?_)
         ·exact zp.out _ T.out
         refine LV [(0,88),(2,90),(3,91)] ?_
         repeat ((first|(refine UC (v:=?_) rfl (by kernel_rfl) (fun _ _ _ h=>h) (by rfl) ?_ (by assumption) ?_;rotate_left;·intro w zl;(try dsimp only at zl);go_simp;try with_reducible rfl)|refine UB rfl (by kernel_rfl) (fun _ _ _ h=>h) (by rfl) (by assumption) ?_);try simp only [Act.put,List.setIfInBounds_toArray,List.set])
         refine LW ?_
         refine wpAnyH_ready (rs:=[1]) (by kernel_rfl) (by simp) ?_
         refine AllReadyH.cons (o:=Oper.mk (some 89) _ _ _ _ _) rfl (fun K hK=>?_) AllReadyH.nil
         go_simp
         (go_at_call 82;refine (xv.out _ T.out).mono ?_;rintro e jh ⟨rfl,rfl⟩)
         go_wp2_with fail
         refine hK.out _ _ ?_ (fun xh=>?_)
         ·exact zp.out _ T.out
         clear hK K
         try simp only [Act.put,List.setIfInBounds_toArray,List.set]
         refine LV [(4,92),(5,93),(6,94),(7,95),(8,96),(9,97),(10,98),(11,99),(12,100),(13,101),(14,102),(15,103),(16,104)] ?_
         repeat ((first|(refine UC (v:=?_) rfl (by kernel_rfl) (fun _ _ _ h=>h) (by rfl) ?_ (by assumption) ?_;rotate_left;·intro w zl;(try dsimp only at zl);go_simp;try with_reducible rfl)|refine UB rfl (by kernel_rfl) (fun _ _ _ h=>h) (by rfl) (by assumption) ?_);try simp only [Act.put,List.setIfInBounds_toArray,List.set])
         refine LW ?_
         refine wpAnyH_done (by kernel_rfl) ?_ _
         obtain⟨x0,x1⟩:=za.cells
         have f0:=AE.frz za 0
         have f1:=AE.frz za 1
         go_wp2_with fail
         refine EX rfl rfl rfl (AE.BO za 0 (.slice none 0 0)) rfl rfl ?_
         exact FH.US (by decide) xj xo nB _ _
       ·rw [if_pos (.inl kc)] at a
        subst a
        have t3:((cr:Int) != (sp.sum:Int))=true:=by simp;omega
        go_wp2_with fail
        refine wp_region_held_drew (S:=(fun W=>W.cell? (t.heap.size 4)=some (.int .u32 (sp.sum:Nat))/\W.cell? (C.heap.size 1)=some (.slice ze Q zf)/\W.cell? j.heap.size=some (l.cap:Value))) (by kernel_rfl) ?_ (fun xh=>?_)
        ·exact zp.out _ T.out
        refine LV [(0,88),(2,90),(3,91)] ?_
        repeat ((first|(refine UC (v:=?_) rfl (by kernel_rfl) (fun _ _ _ h=>h) (by rfl) ?_ (by assumption) ?_;rotate_left;·intro w zl;(try dsimp only at zl);go_simp;try with_reducible rfl)|refine UB rfl (by kernel_rfl) (fun _ _ _ h=>h) (by rfl) (by assumption) ?_);try simp only [Act.put,List.setIfInBounds_toArray,List.set])
        refine LW ?_
        refine wpAnyH_ready (rs:=[1]) (by kernel_rfl) (by simp) ?_
        refine AllReadyH.cons (o:=Oper.mk (some 89) _ _ _ _ _) rfl (fun K hK=>?_) AllReadyH.nil
        go_simp
        (go_at_call 82;refine (xv.out _ T.out).mono ?_;rintro e jh ⟨rfl,rfl⟩)
        go_wp2_with fail
        refine hK.out _ _ ?_ (fun xh=>?_)
        ·exact zp.out _ T.out
        clear hK K
        try simp only [Act.put,List.setIfInBounds_toArray,List.set]
        refine LV [(4,92),(5,93),(6,94),(7,95),(8,96),(9,97),(10,98),(11,99),(12,100),(13,101),(14,102),(15,103),(16,104)] ?_
        repeat ((first|(refine UC (v:=?_) rfl (by kernel_rfl) (fun _ _ _ h=>h) (by rfl) ?_ (by assumption) ?_;rotate_left;·intro w zl;(try dsimp only at zl);go_simp;try with_reducible rfl)|refine UB rfl (by kernel_rfl) (fun _ _ _ h=>h) (by rfl) (by assumption) ?_);try simp only [Act.put,List.setIfInBounds_toArray,List.set])
        refine LW ?_
        refine wpAnyH_done (by kernel_rfl) ?_ _
        obtain⟨x0,x1⟩:=za.cells
        have f0:=AE.frz za 0
        have f1:=AE.frz za 1
        go_wp2_with fail
        refine EX rfl rfl rfl (AE.BO za 0 (.slice none 0 0)) rfl rfl ?_
        exact FH.US (by decide) xj xo nB _ _
      ·rw [if_pos xd] at a
       subst a
       have t2:(z2 != 0)=true:=by simpa using xd
       obtain⟨x0,x1⟩:=yy.cells
       have f0:=AE.frz yy 0
       have f1:=AE.frz yy 1
       go_wp2_with fail
       refine EX rfl rfl rfl (AE.BO yy 0 (.slice none 0 0)) rfl rfl ?_
       exact FH.err xd qe xa nB _ _
    ·have kr:R=AH.bad 13 e1:=by rw [<-a];unfold AH.KC;rw [vg];exact if_pos je
     subst kr
     have t1:(zc != 0)=true:=by simpa using je
     go_wp2_with fail
     refine wp_region_held_drew (S:=(fun W=>True)) (by kernel_rfl) ?_ (fun xh=>?_)
     ·trivial
     refine LV [(0,53),(1,54),(2,55),(3,56),(4,57),(5,58),(6,59),(7,60),(8,61),(9,62),(10,63),(11,64),(12,65)] ?_
     repeat ((first|(refine UC (v:=?_) rfl (by kernel_rfl) (fun _ _ _ h=>h) (by rfl) ?_ (by assumption) ?_;rotate_left;·intro w zl;(try dsimp only at zl);go_simp;try with_reducible rfl)|refine UB rfl (by kernel_rfl) (fun _ _ _ h=>h) (by rfl) (by assumption) ?_);try simp only [Act.put,List.setIfInBounds_toArray,List.set])
     refine LW ?_
     refine wpAnyH_done (by kernel_rfl) ?_ _
     obtain⟨x0,x1⟩:=zr.cells
     have f0:=AE.frz zr 0
     have f1:=AE.frz zr 1
     go_wp2_with fail
     refine EX rfl rfl rfl (AE.BO zr 0 (.slice none 0 0)) rfl rfl ?_
     exact FH.US (by decide) va ks nB _ _
   ·rw [if_pos xc] at a
    subst a
    have t1:(z1 != 0)=true:=by simpa using xc
    obtain⟨x0,x1⟩:=yw.cells
    have f0:=AE.frz yw 0
    have f1:=AE.frz yw 1
    go_wp2_with fail
    refine EX rfl rfl rfl (AE.BO yw 0 (.slice none 0 0)) rfl rfl ?_
    exact FH.err xc qd yg nB _ _
  ·rw [if_pos vl] at a
   subst a
   have t1:(z0 != 0)=true:=by simpa using vl
   obtain⟨x0,x1⟩:=yd.cells
   have f0:=AE.frz yd 0
   have f1:=AE.frz yd 1
   go_wp2_with fail
   refine EX rfl rfl rfl (AE.BO yd 0 (.slice none 0 0)) rfl rfl ?_
   exact FH.err vl qc qg nB _ _
end Go.Proofs.YtmanejniepghlaaGreatDoor
