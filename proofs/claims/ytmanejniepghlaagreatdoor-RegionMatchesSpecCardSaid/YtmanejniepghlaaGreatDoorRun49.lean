import Derived.Test.YtmanejniepghlaaGreatDoorRun48
import Derived.Test.YtmanejniepghlaaGreatDoorRun39
import Derived.Test.YtmanejniepghlaaGreatDoorRun21
import Derived.Test.YtmanejniepghlaaGreatDoorRun42
import Derived.Test.YtmanejniepghlaaGreatDoorRun4
import Derived.Test.YtmanejniepghlaaGreatDoorRun0
import Derived.Test.YtmanejniepghlaaGreatDoorRun2
set_option maxHeartbeats 64000000
set_option maxRecDepth 100000
namespace Go.Proofs.YtmanejniepghlaaGreatDoor
section
open Go.RowKit
open Dd (Dk)
theorem Ck (s:Su.S) (b:Su.AB s=true) (m:s.fits) (w:World):Calls Tryz.prog 93 #[supv s] w fun e a =>
 ∃ K k,e=.returned (.tuple #[.slice (K:Nat) 64 k,.int .i64 0])/\AM a K 64 k (Su.enc s)/\w.heap.size<=K/\Below w.heap.size w a:=by
 obtain⟨gen,act,AA,len,sum,rfl,c,d,f,g,h⟩:=Su.AW b m
 refine (Zw gen act AA len sum c d f g h b w).mono ?_
 rintro e a ⟨v,rfl,j,l⟩
 obtain⟨K,k,rfl,i,-,hs⟩:=AC.NB j (Su.CK _)
 exact⟨K,k,rfl,hs,i,l⟩
theorem Cj {w:World} {g:Nat} {d:Dk} {F:Nat->Prop} (hd:BZ g d F w) {z:Int} {d':Dk} (hr:AH.format d=(z,d')) :
 Calls Tryz.prog 35 #[.pointer g] w fun e Q=>e=.returned (z:Value)/\∃ O,BZ g d' O Q/\AD F w O Q:=by
 have n:=Zn false (d.st.length:Nat) w
 rw [show ((d.st.length:Nat):Int).toNat=d.st.length by omega] at n
 have zf:=zH hd.sectors
 unfold AH.format at hr
 by_cases hfit:AH.fit d.st.length=false
 ·rw [if_pos hfit] at hr
  cases hr
  rw [(Jm hfit).1,(Jm hfit).2] at n
  unfold JC layv at n
  have HP:=zH n
  clear n hfit
  go_in
  go_wp2_with (first
  |(go_at_call 76;go_must (refine zf.out.mono ?_);rintro e w1 ⟨rfl,rfl⟩)
  |(go_at_call 9;go_must (refine HP.out.mono ?_);rintro e i ⟨rfl,r⟩))
  go_ret
  have hB:=r.alloc (by have:=r.size;omega) (.cells #[.int .i64 0,.int .i64 0,.int .i64 0,.int .i64 0,.int .i64 0,.int .i64 0,.int .i64 0,.int .i64 0,.int .i64 0] 26)
  exact⟨rfl,F,hd.ext hB,AD.AL hB⟩
 ·rw [if_neg hfit] at hr
  have T:AH.fit d.st.length=true:=by simpa using hfit
  rw [(Xd T).1,(Xd T).2] at n
  obtain⟨l,hl⟩:∃ l,AH.plan d.st.length=l:=⟨_,rfl⟩
  rw [hl] at n hr
  unfold layc at n
  have HP:=zH n
  have HL:=zH hl
  clear n hfit hl
  obtain⟨i1,i3,i2,i4,m,hm,hsz,zm⟩:=Kz T 0 (by omega)
  rw [HL.out] at i1 i2 i3 i4 hsz zm
  unfold AH.prep at hr
  rw [zm] at hr
  simp only [List.cons_append,List.nil_append] at hr
  obtain⟨q,M⟩:∃ q,AX.update 0 [0,0]=q:=⟨_,rfl⟩
  have zk:q < 4294967296:=by rw [<-M];exact AX.BX _ _
  have zx:AH.XB=⟨1,0,1,2,q⟩:=by rw [<-M];rfl
  rw [zx] at hr
  have zp:=zH (fun W=>Ck ⟨1,0,1,2,q⟩ rfl ⟨show (1:Nat) < 18446744073709551616 by decide,show (1:Nat) < 4294967296 by decide,zk⟩ W)
  unfold supv at zp
  have zo:=zH (fun a c W (h:AM W a 2 c [0,0])=>Yo a 2 c [0,0] W h)
  rw [M] at zo
  clear M zx zk
  have t:=hd.lt
  go_in
  go_wp2_with (first
  |(go_at_call 76;go_must (refine zf.out.mono ?_);rintro e w1 ⟨rfl,rfl⟩)
  |(go_at_call 9;go_must (refine HP.out.mono ?_);rintro e i ⟨rfl,r⟩))
  obtain⟨j,I⟩:∃ j,j=i.alloc (.cells (layc l) 26):=⟨_,rfl⟩
  have za:Below w.heap.size w j:=by rw [I];exact r.alloc r.size _
  have zw:j.heap[i.heap.size]?=some (.cells (layc l) 26 (0,0)):=by rw [I];exact Qb _ _ _ rfl
  have zq:=zH I
  unfold layc at zq
  rw [<-zq.out]
  clear I
  have R:=r.size
  have z3:=Qa zw
  have Y:=zH (Uv 0 none 0 0 [] j (AT.nil _) (by omega) (by simp))
  unfold DR at Y
  rw [show AN.AK 0 []=true by decide +kernel,if_pos rfl,if_pos rfl,show Sp.enc 0 []=[0,0] by decide +kernel] at Y
  have X:=zH (fun (W:World) (O:Nat->Prop) (u:AD F j O W)=>show W.cell? (i.heap.size 1)=some (.int .i64 (l.sf 0))/\W.cell? (i.heap.size 2)=some (l.sc:Value)/\W.cell? (i.heap.size 5)=some (.int .i64 (l.lf 0))/\W.cell? (i.heap.size 6)=some (l.lc:Value) from by
   have P:=(u.kept t (k:=i.heap.size) R z3).trans zw
   exact⟨cell_of_row _ _ _ _ _ _ P,cell_of_row _ _ _ _ _ _ P,cell_of_row _ _ _ _ _ _ P,cell_of_row _ _ _ _ _ _ P⟩)
  refine Y.out.mono ?_;rintro e C ⟨v4,rfl,ym,zu⟩;obtain⟨a4,k4,rfl,x,ys⟩:=ym.sl;simp only [List.length_cons,List.length_nil] at x
  have N:AD F j F C:=AD.AL zu
  have yr:BZ g d F C:=(hd.ext za).ext zu
  have J:∀ y,a4=some y->w.heap.size<=y.block:=fun y p=>by have:=(ys y p).2.1;have:=za.size;omega
  obtain⟨y1,y2,-,-⟩:=X.out C F N
  have yn:AD F w F C:=(AD.AL za).trans N
  have yt:i.heap.size < C.heap.size:=Nat.lt_of_lt_of_le z3 N.size
  rcases h1:Ex.write d (l.sf 0) l.sc 0 [0,0] with⟨z1,d1⟩
  have yg:=zH (yr.ewrite (l.sf 0) l.sc 0 i1 i2 (by unfold ib;omega) x (fun y p _ e=>by have:=t _ e;have:=J y p;omega) h1)
  go_wp2_with fail
  refine yg.out.mono ?_;rintro e f ⟨rfl,o,zb,s⟩
  have A:AD F j o f:=N.trans s
  have zr:AD F w o f:=yn.trans s
  by_cases e1:z1=0
  ·subst e1
   rw [AH.CM h1] at hr
   obtain⟨-,-,y5,y6⟩:=X.out f o A
   have xf:=(x.kept s t J).1
   have xb:i.heap.size < f.heap.size:=Nat.lt_of_lt_of_le yt s.size
   have xe:IntKind.i64.wrap (m:Int)=(m:Int):=by rw [IntKind.wrap_i64];omega
   have yf:=zH (fun W=>show Calls Tryz.prog 79 #[.agg #[.int .i64 (l.lf 0),l.lc]] W fun e Q=>e=.returned (m:Value)/\Below W.heap.size W Q by rw [<-hsz];exact Yn _ _ i4 W)
   rcases h2:Ex.write d1 (l.lf 0) l.lc 0 (List.replicate m 0) with⟨R,d2⟩
   have yh:=zH (fun W (e:Below f.heap.size f W) b (k:Nat) (yq:¬ o b) (hs:AM W b m k (List.replicate m 0))=>(zb.ext e).ewrite (l.lf 0) l.lc 0 i3 i4 (by unfold ib;omega) hs (fun y p _=>by cases p;exact yq) h2)
   have ye:=zH (fun (W:World) (e:Below f.heap.size f W)=>show ¬ o W.heap.size from fun h=>by have:=zb.lt _ h;have:=e.size;omega)
   have xc:AD F j o f.drew:=A.drew
   have xd:(l.lf 0=l.lf 0):=rfl
   clear y1 y2
   go_wp2_with fail
   go_region_held3 (fun W=>W.cell? (i.heap.size 1)=some (.int .i64 (l.sf 0))/\W.cell? (i.heap.size 2)=some (l.sc:Value)/\W.cell? (i.heap.size 5)=some (.int .i64 (l.lf 0))/\W.cell? (i.heap.size 6)=some (l.lc:Value)) (first|exact X.out _ _ (by assumption)) (first
   |(go_at_call 79;go_must (refine (yf.out _).mono ?_);rintro e w6 ⟨rfl,yo⟩;have H:Below f.heap.size f w6:=(Below.drew (Below.refl _ f)).trans yo;obtain⟨w7,c7,ya,yu,yp⟩:=Xj m hm w6;have Z:Below f.heap.size f w7:=H.trans (yp.mono H.size);have xh:AD F j o w6:=A.ext H;have xi:AD F j o w7:=A.ext Z)
   |(go_at_call 91;go_must (refine (yh.out _ Z _ _ (ye.out _ H) yu).mono ?_);rintro e w8 ⟨rfl,B,zv,u8⟩;have G:AD o f B w8:=(AD.AL Z).trans u8;have xj:AD F j B w8:=A.trans G))
   have zs:AD F w B w8:=zr.trans G
   have xg:=(x.kept (s.trans G) t J).1
   by_cases e2:R=0
   ·subst e2
    rw [AH.CM h2] at hr
    rcases h3:Dd.sync d2 with⟨z3,d3⟩
    have zy:=zH (zv.sync h3)
    go_wp2_with fail
    refine zy.out.mono ?_;rintro e w9 ⟨rfl,zc,u9⟩
    have zt:=zs.trans u9
    have yv:=(x.kept ((s.trans G).trans u9) t J).1
    by_cases e3:z3=0
    ·subst e3
     rw [AH.CM h3] at hr
     rcases h4:Dd.write d3 0 (Su.enc ⟨1,0,1,2,q⟩) with⟨z4,d4⟩
     go_wp2_with (go_at_call 82;go_must (refine (zo.out _ _ _ yv).mono ?_);rintro e f ⟨rfl,rfl⟩)
     refine (zp.out _).mono ?_;rintro e xl ⟨K,xk,rfl,yb,xa,zi⟩
     have yi:=zH ((zc.ext zi).write 0 yb (fun y p _ e=>by cases p;have h9:K < w9.heap.size:=zc.lt _ e;omega) h4)
     go_wp2_with fail
     refine yi.out.mono ?_;rintro e zd ⟨rfl,yd,U,yw⟩
     have zg:=(zt.ext zi).trans yw
     by_cases e4:z4=0
     ·subst e4
      rw [AH.CM h4] at hr
      rcases h5:Dd.write d4 1 (List.replicate 64 0) with⟨z5,d5⟩
      obtain⟨yz,yl,ze,yc,zj⟩:=Xj 64 (by omega) zd
      have ya:Sem.run Tryz.prog (Instr.makeSlice 70 (.int .i64 64) (.int .i64 64)) zd=.ok (Value.slice zd.heap.size 64 yl) yz:=ze
      clear ze
      have yj:=zH ((U.ext zj).write 1 yc (fun y p _ e=>by cases p;exact Nat.lt_irrefl _ (U.lt _ e)) h5)
      go_wp2_with fail
      refine yj.out.mono ?_;rintro e xm ⟨rfl,zn,zl,yx⟩
      have zh:=(zg.ext zj).trans yx
      by_cases e5:z5=0
      ·subst e5
       rw [AH.CM h5] at hr
       rcases h6:Dd.sync d5 with⟨z6,d6⟩
       have yk:=zH (zl.sync h6)
       go_wp2_with fail
       refine yk.out.mono ?_;rintro e xn ⟨rfl,zz,yy⟩
       go_wp2_with fail
       go_ret
       have hz:z6=z/\d6=d':=by
        by_cases e6:z6=0
        ·subst e6;rw [AH.CM h6] at hr;cases hr;exact⟨rfl,rfl⟩
        ·rw [AH.CL h6 e6] at hr;cases hr;exact⟨rfl,rfl⟩
       obtain⟨rfl,rfl⟩:=hz
       exact⟨rfl,zn,zz,zh.trans yy⟩
      ·have t5:(z5 != 0)=true:=by simpa using e5
       rw [AH.CL h5 e5] at hr
       cases hr
       go_wp2_with fail
       go_ret
       exact⟨rfl,zn,zl,zh⟩
     ·have t4:(z4 != 0)=true:=by simpa using e4
      rw [AH.CL h4 e4] at hr
      cases hr
      go_wp2_with fail
      go_ret
      exact⟨rfl,yd,U,zg⟩
    ·have t3:(z3 != 0)=true:=by simpa using e3
     rw [AH.CL h3 e3] at hr
     cases hr
     go_wp2_with fail
     go_ret
     exact⟨rfl,B,zc,zt⟩
   ·have t2:(R != 0)=true:=by simpa using e2
    rw [AH.CL h2 e2] at hr
    cases hr
    go_wp2_with fail
    go_ret
    exact⟨rfl,B,zv,zs⟩
  ·have t1:(z1 != 0)=true:=by simpa using e1
   rw [AH.CL h1 e1] at hr
   cases hr
   go_wp2_with fail
   go_ret
   exact⟨rfl,o,zb,zr⟩
end
section
open Go.RowKit
open Dd (Dk)
variable {w:World} {g p q:Nat} {S:AH.St}
theorem Kq (v:Int) (a:Option Addr) (n k:Nat) (w:World):Calls Tryz.prog 33 #[.pointer none,.agg #[v,.slice a n k]] w fun e b=>e=.returned (.int .i64 12)/\Below w.heap.size w b:=by
 go_in
 go_wp2_with fail
 refine (Yz _).mono ?_;rintro e c ⟨rfl,rfl⟩
 go_wp2_with fail
 go_ret
 exact⟨rfl,(Below.refl _ _).alloc (zN _) _⟩
theorem CP.rc {r:Nat} (h:RQ w q g p S) (hr:r < 2) :
 w.cell? q=some (.pointer g)/\w.cell? (q (2+r * 2))=some (.int .i64 (S.lay.sf r))/\w.cell? (q (2+r * 2+1))=some (S.lay.sc:Value)/\w.cell? (q (6+r * 2))=some (.int .i64 (S.lay.lf r))/\w.cell? (q (6+r * 2+1))=some (S.lay.lc:Value) ∧
  w.cell? (q 10)=some (S.slot:Value)/\w.cell? (q 11)=some (.int .u64 S.sup.gen)/\w.cell? (q 12)=some (S.sup.act:Value)/\w.cell? (q 13)=some (.int .u32 S.sup.AA):=by
 refine⟨h.at 0,?_,?_,?_,?_,h.at 10,h.at 11,h.at 12,h.at 13⟩
 all_goals
  rcases (show r=0\/r=1 by omega) with e|e
 ·subst e;exact h.at 2
 ·subst e;exact h.at 4
 ·subst e;exact h.at 3
 ·subst e;exact h.at 5
 ·subst e;exact h.at 6
 ·subst e;exact h.at 8
 ·subst e;exact h.at 7
 ·subst e;exact h.at 9
theorem CP.YA (h:RQ w q g p S) {a:Option Addr} {m k:Nat} {L:List AJ} (hs:AT w a m k L) (x:Addr) (f:a=some x) (c:L ≠ []):x.block ≠ q:=by
 intro e
 obtain⟨i,j,d⟩:=hs.2.2.2.2 x f 0 (List.length_pos_iff.2 c)
 have h0:=d.1
 rw [e,h.at] at h0
 have b:=Array.mem_of_getElem? h0
 simp [stc] at b
theorem Rz {n:Nat} {S':AH.St} {d d':Dk} {F:Nat->Prop} (h:GM g q S d F w) (zf:AH.Ok n S) (qw:d.st.length<=1000) (c:Int) (a:Option Addr) (m k:Nat) (L:List AJ) (hs:AT w a m k L) (hL:∀ p ∈ L,p.h.length<=1000000) (vo:m<=1000000) {z:Int} (hr:AH.compact S d c L=(z,S',d')) :
 Calls Tryz.prog 33 #[.pointer q,.agg #[c,.slice a m k]] w fun e w'=>e=.returned (z:Value)/\∃ B,GM g q S' d' B w'/\AD F w B w':=by
 have I:=(Below.refl w.heap.size w).alloc (zN _) (.cells #[c,.slice a m k] 44)
 have zu:AE (w.alloc (.cells #[c,.slice a m k] 44)) w.heap.size c (.slice a m k):=AE.new w c _
 obtain⟨C,vh⟩:∃ C,C=w.alloc (.cells #[c,.slice a m k] 44):=⟨_,rfl⟩
 have zt:=zH vh
 rw [<-vh] at I zu
 clear vh
 have h0:=h.ext I
 obtain⟨s,p,rfl,jg,jj,vp,Z,xe,vr⟩:=id h0
 have HF:=zH (Vt Z)
 have jk:=hs.len
 have vf:∀ x,s x->x < w.heap.size:=fun x hx=>h.lt x (.inl (.inl hx))
 have ab:q < w.heap.size:=h.lt q (.inr rfl)
 have qz:p < w.heap.size:=h.lt p (.inl (.inr rfl))
 unfold AH.compact at hr
 by_cases yi:S.fl=true
 ·rw [if_pos yi] at hr
  cases hr
  rw [yi] at HF
  go_in
  go_wp2_with fail
  rw [<-zt.out]
  refine HF.out.mono ?_;rintro e w1 ⟨rfl,rfl⟩
  go_wp2_with fail
  go_ret
  exact⟨rfl,_,h0,AD.AL I⟩
 ·rw [if_neg yi] at hr
  have ym:S.fl=false:=by simpa using yi
  rw [ym] at HF
  have zn:=zH (fun W (e:Below C.heap.size C W)=>Jv c a m k L W ((hs.ext I).ext e) vo hL)
  rw [jk] at hr
  have qe:=Qa zu
  have yh:∀ W,Below C.heap.size C W->W.cell? w.heap.size=some (c:Value)/\W.cell? (w.heap.size 1)=some (.slice a m k)/\W.cell? (q 1)=some (S.lay.cap:Value):=fun W e=>⟨(AE.cells (zu.ext e)).1,(AE.cells (zu.ext e)).2,(Z.ext e).cap⟩
  have T:=zH yh
  have zs:=zH (Below.refl C.heap.size C)
  have O:=zH (Below.drew (Below.refl C.heap.size C))
  by_cases hv:AN.AK c L=false
  ·rw [if_pos (.inl hv)] at hr
   cases hr
   rw [hv] at zn
   obtain⟨y0,y1,y2⟩:=yh C zs.out
   clear yh
   go_in
   go_wp2_with fail
   rw [<-zt.out]
   refine HF.out.mono ?_;rintro e w1 ⟨rfl,rfl⟩
   go_wp2_with fail
   refine wp_region_held_drew (S:=(fun W=>W.cell? w.heap.size=some (c:Value)/\W.cell? (w.heap.size 1)=some (.slice a m k)/\W.cell? (q 1)=some (S.lay.cap:Value))) (by kernel_rfl) ?_ (fun qb=>?_)
   ·exact T.out _ O.out
   refine LV [(0,21)] ?_
   repeat ((first|(refine UC (v:=?_) rfl (by kernel_rfl) (fun _ _ _ h=>h) (by rfl) ?_ (by assumption) ?_;rotate_left;·intro w P;(try dsimp only at P);go_simp;try with_reducible rfl)|refine UB rfl (by kernel_rfl) (fun _ _ _ h=>h) (by rfl) (by assumption) ?_);try simp only [Act.put,List.setIfInBounds_toArray,List.set])
   refine LW ?_
   refine wpAnyH_ready (rs:=[1]) (by kernel_rfl) (by simp) ?_
   refine AllReadyH.cons (o:=Oper.mk (some 22) _ _ _ _ _) rfl (fun K J=>?_) AllReadyH.nil
   go_simp
   (go_at_call 56;refine (zn.out _ O.out).mono ?_;rintro e Q ⟨rfl,zj⟩;have A:Below C.heap.size C Q:=O.out.trans zj;have za:=T.out _ A)
   go_wp2_with fail
   refine J.out _ _ ?_ (fun qb=>?_)
   ·exact za
   clear J K
   try simp only [Act.put,List.setIfInBounds_toArray,List.set]
   refine LV [(2,23),(3,24),(4,25),(5,26),(6,27),(7,28),(8,29),(9,30),(10,31),(11,32),(12,33),(13,34)] ?_
   repeat ((first|(refine UC (v:=?_) rfl (by kernel_rfl) (fun _ _ _ h=>h) (by rfl) ?_ (by assumption) ?_;rotate_left;·intro w P;(try dsimp only at P);go_simp;try with_reducible rfl)|refine UB rfl (by kernel_rfl) (fun _ _ _ h=>h) (by rfl) (by assumption) ?_);try simp only [Act.put,List.setIfInBounds_toArray,List.set])
   refine LW ?_
   refine wpAnyH_done (by kernel_rfl) ?_ _
   go_wp2_with fail
   go_ret
   exact⟨rfl,_,h0.ext A,AD.AL (I.trans (A.mono I.size))⟩
  ·have zv:AN.AK c L=true:=by simpa using hv
   rw [zv] at zn
   obtain⟨y0,y1,y2⟩:=yh C zs.out
   clear yh
   by_cases hc:S.lay.cap < m
   ·rw [if_pos (.inr hc)] at hr
    cases hr
    have t1:decide ((S.lay.cap:Int) < (m:Int))=true:=by simp;omega
    go_in
    go_wp2_with fail
    rw [<-zt.out]
    refine HF.out.mono ?_;rintro e w1 ⟨rfl,rfl⟩
    go_wp2_with fail
    go_region_held3 (fun W=>W.cell? w.heap.size=some (c:Value)/\W.cell? (w.heap.size 1)=some (.slice a m k)/\W.cell? (q 1)=some (S.lay.cap:Value)) (first|exact T.out _ zs.out|exact T.out _ O.out|exact za) (first
    |(go_at_call 56;go_must (refine (zn.out _ O.out).mono ?_);rintro e Q ⟨rfl,zj⟩;have A:Below C.heap.size C Q:=O.out.trans zj;have za:=T.out _ A))
    go_wp2_with fail
    go_ret
    exact⟨rfl,_,h0.ext A,AD.AL (I.trans (A.mono I.size))⟩
   ·rw [if_neg (by rw [zv];simp;omega)] at hr
    have t1:decide ((S.lay.cap:Int) < (m:Int))=false:=by simp;omega
    have t0:(m:Int)<=(S.lay.cap:Int):=by omega
    have xc:L.length<=S.lay.cap:=by omega
    by_cases hg:S.sup.gen=18446744073709551615
    ·rw [if_pos hg] at hr
     cases hr
     have ql:=zH (fun W (e:Below C.heap.size C W)=>show W.cell? (q 11)=some (.int .u64 18446744073709551615) by rw [(Z.ext e).gen,hg];rfl)
     go_in
     go_wp2_with fail
     rw [<-zt.out]
     refine HF.out.mono ?_;rintro e w1 ⟨rfl,rfl⟩
     go_wp2_with fail
     go_region_held3 (fun W=>W.cell? w.heap.size=some (c:Value)/\W.cell? (w.heap.size 1)=some (.slice a m k)/\W.cell? (q 1)=some (S.lay.cap:Value)) (first|exact T.out _ zs.out|exact T.out _ O.out|exact za) (first
    |(go_at_call 56;go_must (refine (zn.out _ O.out).mono ?_);rintro e Q ⟨rfl,zj⟩;have A:Below C.heap.size C Q:=O.out.trans zj;have za:=T.out _ A))
     have k3:=ql.out _ A
     go_wp2_with fail
     go_ret
     exact⟨rfl,_,h0.ext A,AD.AL (I.trans (A.mono I.size))⟩
    ·rw [if_neg hg] at hr
     obtain⟨nv,nf,na,xi⟩:=AH.KB zf zv xc hg
     obtain⟨b,xb⟩:∃ b,Sp.enc c L=b:=⟨_,rfl⟩
     rw [xb] at hr nv nf
     obtain⟨l,ze⟩:∃ l,AH.next S b=l:=⟨_,rfl⟩
     rw [ze] at nv nf
     obtain⟨r,jr⟩:∃ r,(1 - S.sup.act).toNat=r:=⟨_,rfl⟩
     rw [jr] at hr na xi
     have ka:l.act=(r:Int):=by rw [<-ze];exact na.symm
     have g1:IntKind.u64.wrap ((S.sup.gen:Int)+1)=(l.gen:Int):=by
      rw [<-ze]
      have:=zf.fits.1
      unfold IntKind.wrap
      simp [IntKind.bits,IntKind.signed,AH.next]
      omega
     have g2:IntKind.u32.wrap ((S.sup.AA:Int)+1)=(l.AA:Int):=by
      rw [<-ze]
      unfold IntKind.wrap
      simp [IntKind.bits,IntKind.signed,AH.next]
     have g3:IntKind.i64.wrap (1 - S.sup.act)=(r:Int):=by rw [<-na,IntKind.wrap_i64];omega
     have g4:IntKind.i64.wrap (1 - (S.slot:Int))=((1 - S.slot:Nat):Int):=by have:=zf.slot;rw [IntKind.wrap_i64];omega
     have gG:((l.gen:Int) == 0)=false:=by rw [<-ze];simp [AH.next];omega
     have qx:¬ (l.gen:Int)=0:=by simpa using gG
     have vx:b.length<=262144/\(b.length:Int)=l.len:=by
      rw [<-ze,<-xb]
      refine⟨?_,rfl⟩
      exact (AH.KN zf.fit zv (by have:=zf.lay;rw [this] at xc;exact xc)).2
     have vc:=zH (fun a2 c2 W (H:AM W a2 b.length c2 b)=>show Calls Tryz.prog 82 #[.slice a2 b.length c2] W fun e w'=>e=.returned (.int .u32 (l.sum:Nat))/\W=w' by rw [<-ze];exact Yo a2 b.length c2 b W H)
     have yf:=zH ze
     have yr:=zH vx
     obtain⟨i1,i3,i2,i4,mz,hm,hsz,xt⟩:=Kz zf.fit r xi
     rw [<-zf.lay] at i1 i2 i3 i4 hsz xt
     have N:=zH (And.intro nv (And.intro nf (And.intro xi (And.intro ka (And.intro xt zf.slot)))))
     have kp:=zH (fun W (H:AT W a m k L)=>show Calls Tryz.prog 90 #[.agg #[c,.slice a m k]] W fun e w'=>∃ v,e=.returned (.tuple #[v,.int .i64 0])/\AC W.heap.size w' v b/\AP W w' by
      have:=Uv c a m k L W H vo hL
      unfold DR at this
      rwa [zv,if_pos rfl,if_pos rfl,xb] at this)
     obtain⟨Y,jf⟩:∃ Y,b.length=Y:=⟨_,rfl⟩
     have r0:(0:Int)<=(r:Int):=by omega
     have r1:(r:Int) < 2:=by omega
     have qs:=hs.ext I
     clear ze hg hv hc xb nv nf jr vx jk na ka qx
     go_in
     go_wp2_with fail
     rw [<-zt.out]
     refine HF.out.mono ?_;rintro e w1 ⟨rfl,rfl⟩
     go_wp2_with fail
     go_region_held3 (fun W=>W.cell? w.heap.size=some (c:Value)/\W.cell? (w.heap.size 1)=some (.slice a m k)/\W.cell? (q 1)=some (S.lay.cap:Value)) (first|exact T.out _ zs.out|exact T.out _ O.out|exact za) (first
    |(go_at_call 56;go_must (refine (zn.out _ O.out).mono ?_);rintro e Q ⟨rfl,zj⟩;have A:Below C.heap.size C Q:=O.out.trans zj;have za:=T.out _ A))
     have k3:=(Z.ext A).gen
     have k4:=(Z.ext A).act
     have f4:=(Z.ext A).fl
     have f5:=(Z.ext A).free 17
     have aa:=(Z.ext A).lt
     have x2:=za.1
     have x3:=za.2.1
     have jm:q ≠ w.heap.size:=by omega
     have zq:=(Z.ext A).OL true
     have yn:EB (Q.setCell (q 17) (.bool true)) p g S.log:=(jj.ext A).same (heap_setCell_other _ _ _ _ (Ne.symm vr))
     have xq:BZ g d s (Q.setCell (q 17) (.bool true)):=(jg.ext A).AI (fun b hb=>heap_setCell_other _ _ _ _ (by rintro rfl;exact xe hb)) (by simp)
     have kh:AE (Q.setCell (q 17) (.bool true)) w.heap.size c (.slice a m k):=(heap_setCell_other _ _ _ _ (Ne.symm jm)).trans (AE.ext zu A)
     have yc:AD (P1 (P1 s p) q) w (P1 (P1 s p) q) (Q.setCell (q 17) (.bool true)):=(AD.AL (I.trans (A.mono I.size))).setCell (.inl (.inr rfl)) _ _
     have xs:AT (Q.setCell (q 17) (.bool true)) a m k L:=((hs.ext I).ext A).AI (fun x hx hl=>heap_setCell_other _ _ _ _ (CP.YA (Z.ext A) ((hs.ext I).ext A) x hx hl)) (by simp)
     go_wp2_with fail
     obtain⟨t,vi⟩:∃ t,t=Q.setCell (q 17) (.bool true):=⟨_,rfl⟩
     rw [<-vi] at zq yn xq kh yc xs
     rw [<-vi]
     clear vi k3 k4 f4 f5 aa x2 x3 za
     have jq:=zq.lt
     have yo:¬ s q:=xe
     have kb:w.heap.size<=t.heap.size:=yc.size
     have zl:=zH (fun (W:World) (B:Nat->Prop) (u:AD s t B W)=>zq.same (u.block q jq yo))
     have kn:=zH (fun (W:World) (B:Nat->Prop) (u:AD s t B W)=>show W.cell? q=some (.pointer g)/\W.cell? (q (2+r * 2))=some (.int .i64 (S.lay.sf r))/\W.cell? (q (2+r * 2+1))=some (S.lay.sc:Value) from by
      have H:=CP.rc (zl.out W B u) N.out.2.2.1
      exact⟨H.1,H.2.1,H.2.2.1⟩)
     have va:=zH (fun (W:World) (B:Nat->Prop) (u:AD s t B W)=>show W.cell? q=some (.pointer g)/\W.cell? (q (6+r * 2))=some (.int .i64 (S.lay.lf r))/\W.cell? (q (6+r * 2+1))=some (S.lay.lc:Value) from by
      have H:=CP.rc (zl.out W B u) N.out.2.2.1
      exact⟨H.1,H.2.2.2.1,H.2.2.2.2.1⟩)
     have ko:=zH (fun (W:World) (B:Nat->Prop) (u:AD s t B W)=>show W.cell? q=some (.pointer g)/\W.cell? (q (6+r * 2))=some (.int .i64 (S.lay.lf r))/\W.cell? (q (6+r * 2+1))=some (S.lay.lc:Value)/\W.cell? (q 13)=some (.int .u32 (S.sup.AA:Nat)) from by
      have H:=CP.rc (zl.out W B u) N.out.2.2.1
      exact⟨H.1,H.2.2.2.1,H.2.2.2.2.1,H.2.2.2.2.2.2.2.2⟩)
     have ys:=zH (fun (W:World) (B:Nat->Prop) (u:AD s t B W)=>show W.cell? (q 11)=some (.int .u64 (S.sup.gen:Nat))/\W.cell? (q 13)=some (.int .u32 (S.sup.AA:Nat)) from by
      have H:=CP.rc (zl.out W B u) N.out.2.2.1
      exact⟨H.2.2.2.2.2.2.1,H.2.2.2.2.2.2.2.2⟩)
     have vb:=zH (fun (W:World) (B:Nat->Prop) (u:AD s t B W)=>show W.cell? q=some (.pointer g)/\W.cell? (q 10)=some (.int .i64 (S.slot:Nat)) from by
      have H:=CP.rc (zl.out W B u) N.out.2.2.1
      exact⟨H.1,H.2.2.2.2.2.1⟩)
     have zm:=zH (fun (W:World) (B:Nat->Prop) (D':Dk) (e:Int) (hD:BZ g D' B W) (u:AD s t B W)=>show ∃ G,GM g q { S with fl:=true } D' G W/\AD (P1 (P1 s p) q) w G W from
      ⟨_,(GM.turn (S:={ S with fl:=true }) yn vp zq yo vr hD u).1,yc.trans (GM.turn (S:={ S with fl:=true }) yn vp zq yo vr hD u).2⟩)
     refine (kp.out _ xs).mono ?_;rintro e w4 ⟨v4,rfl,jc,vk⟩
     obtain⟨a4,k4,rfl,xg,jl⟩:=jc.sl
     rw [jf] at xg vc yr ⊢
     have jt:AD s t s w4:=AD.AL vk
     have jh:BZ g d s w4:=xq.ext vk
     have vj:∀ y,a4=some y->w.heap.size<=y.block:=fun y hy=>by have:=(jl y hy).2.1;omega
     have ki:AD s t s w4.drew:=jt.drew
     have ac:IntKind.i64.wrap (r:Int)=(r:Int):=by rw [IntKind.wrap_i64];omega
     unfold AH.prep at hr
     rw [N.out.2.2.2.2.1] at hr
     rcases h1:Ex.write d (S.lay.sf r) S.lay.sc 0 b with⟨z1,d1⟩
     have kw:=zH ((jh.ext (Below.drew (Below.refl _ w4))).ewrite (S.lay.sf r) S.lay.sc 0 i1 i2 (by unfold ib;omega) (xg.ext (Below.drew (Below.refl _ w4))) (fun y hy _ e=>by have:=vf _ e;have:=vj y hy;omega) h1)
     go_wp2_with fail
     go_region_held3 (fun W=>W.cell? q=some (.pointer g)/\W.cell? (q (2+r * 2))=some (.int .i64 (S.lay.sf r))/\W.cell? (q (2+r * 2+1))=some (S.lay.sc:Value)) (first|exact kn.out _ _ (by assumption)) (first
     |(go_at_call 91;go_must (refine kw.out.mono ?_);rintro e R ⟨rfl,F5,xd,vu⟩;have u5:AD s t F5 R:=ki.trans vu))
     have n1:d1.st.length=d.st.length:=by have:=Ex.BI d (S.lay.sf r) S.lay.sc 0 b;rw [h1] at this;exact this
     by_cases e1:z1=0
     ·subst e1
      rw [AH.CM h1] at hr
      have v5:AD s w4 F5 R:=(AD.drew (AD.refl s w4)).trans vu
      have qy:IntKind.i64.wrap (mz:Int)=(mz:Int):=by rw [IntKind.wrap_i64];omega
      have ks:=zH (fun W=>show Calls Tryz.prog 79 #[.agg #[.int .i64 (S.lay.lf r),S.lay.lc]] W fun e w'=>e=.returned (mz:Value)/\Below W.heap.size W w' by rw [<-hsz];exact Yn _ _ i4 W)
      rcases h2:Ex.write d1 (S.lay.lf r) S.lay.lc 0 (List.replicate mz 0) with⟨z2,d2⟩
      have kx:=zH (fun W (e:Below R.heap.size R W) b (k:Nat) (qv:¬ F5 b) (hs:AM W b mz k (List.replicate mz 0))=>(xd.ext e).ewrite (S.lay.lf r) S.lay.lc 0 i3 i4 (by unfold ib;omega) hs (fun y hy _=>by cases hy;exact qv) h2)
      have kq:=zH (fun (W:World) (e:Below R.heap.size R W)=>show ¬ F5 W.heap.size from fun h=>by have:=xd.lt _ h;have:=e.size;omega)
      have qi:AD s t F5 R.drew:=u5.drew
      go_wp2_with fail
      go_region_held3 (fun W=>W.cell? q=some (.pointer g)/\W.cell? (q (6+r * 2))=some (.int .i64 (S.lay.lf r))/\W.cell? (q (6+r * 2+1))=some (S.lay.lc:Value)) (first|exact va.out _ _ (by assumption)) (first
      |(go_at_call 79;go_must (refine (ks.out _).mono ?_);rintro e w6 ⟨rfl,jd⟩;have yg:Below R.heap.size R w6:=(Below.drew (Below.refl _ R)).trans jd;obtain⟨w7,c7,qg,js,je⟩:=Xj mz hm w6;have yu:Below R.heap.size R w7:=yg.trans (je.mono yg.size);have ad:AD s t F5 w6:=u5.ext yg;have ae:AD s t F5 w7:=u5.ext yu)
      |(go_at_call 91;go_must (refine (kx.out _ yu _ _ (kq.out _ yg) js).mono ?_);rintro e w8 ⟨rfl,F8,vl,u8⟩;have xv:AD F5 R F8 w8:=(AD.AL yu).trans u8;have xh:AD s t F8 w8:=u5.trans xv))
      have n2:d2.st.length=d1.st.length:=by have:=Ex.BI d1 (S.lay.lf r) S.lay.lc 0 (List.replicate mz 0);rw [h2] at this;exact this
      have v8:AD s w4 F8 w8:=v5.trans xv
      by_cases e2:z2=0
      ·subst e2
       rw [AH.CM h2] at hr
       have q8:=(va.out _ _ xh).1
       rcases h3:Dd.sync d2 with⟨z3,d3⟩
       have ky:=zH (vl.sync h3)
       go_wp2_with fail
       refine ky.out.mono ?_;rintro e w9 ⟨rfl,vm,u9⟩
       have yj:AD s t F8 w9:=xh.trans u9
       have n3:d3.st.length=d2.st.length:=by have:=Dd.CU d2;rw [h3] at this;exact this
       by_cases e3:z3=0
       ·subst e3
        rw [AH.CM h3,AH.II] at hr
        unfold AH.CF at hr
        rw [if_neg (by simp)] at hr
        dsimp only at hr
        rw [show (1 - S.sup.act).toNat=r by have:=N.out.2.2.2.1;rw [<-yf.out] at this;have h5:(1 - S.sup.act)=(r:Int):=this;omega] at hr
        have ji:(S.sup.AA+1) % 4294967296=l.AA:=by rw [<-yf.out];rfl
        rw [ji] at hr
        rcases zw:AO.open d3 (S.lay.lf r) S.lay.lc l.AA with⟨lo,ps,z4,d4⟩
        rw [zw] at hr
        have n4:d4.st.length=d3.st.length:=by have:=AO.QN d3 (S.lay.lf r) S.lay.lc l.AA;rw [zw] at this;exact this
        have vd:=zH ((vm.ext (Below.drew (Below.refl _ w9))).wopen (S.lay.lf r) S.lay.lc i3 i4 l.AA N.out.2.1.2.1 (by omega) zw)
        unfold QX at vd
        have qj:AD s t F8 w9.drew:=yj.drew
        clear q8 ji
        go_wp2_with fail
        go_region_held3 (fun W=>W.cell? q=some (.pointer g)/\W.cell? (q (6+r * 2))=some (.int .i64 (S.lay.lf r))/\W.cell? (q (6+r * 2+1))=some (S.lay.lc:Value)/\W.cell? (q 13)=some (.int .u32 (S.sup.AA:Nat))) (first|exact ko.out _ _ (by assumption)) (first
        |(go_at_call 83;go_must (refine vd.out.mono ?_);rintro e j ⟨pv,az,zb,rfl,vz,zz,vw,ve⟩;have xk:AD F8 w9 zb j:=(AD.drew (AD.refl _ _)).trans vw;have zg:AD s t zb j:=yj.trans xk;obtain⟨ai,rfl⟩:∃ o,pv=.pointer o:=VW.ptr ve;have qa:=zH ve;clear ve))
        obtain⟨am,au,rfl,-⟩:=vz.sl
        by_cases e4:z4=0
        ·subst e4
         obtain⟨lg,vn⟩:=AO.EU (d:=d3) (f:=S.lay.lf r) (c:=S.lay.lc) (ep:=l.AA) (by rw [zw])
         rw [zw] at vn
         dsimp only at vn
         subst vn
         obtain⟨p',rfl,jn,xf,vq⟩:∃ p,ai=.some (p:Nat)/\w9.drew.heap.size<=p/\EB j p g lg/\¬ zb p:=by
          rcases qa.out with⟨h,-⟩|⟨L',p,h,h2,h3⟩
          ·cases h
          ·cases h;cases h2;exact⟨p,rfl,h3⟩
         unfold AH.DY at hr
         rw [if_neg (by simp)] at hr
         dsimp only at hr
         rw [yf.out] at hr
         have kd:w9.heap.size<=p':=jn
         have jo:t.heap.size<=w9.heap.size:=yj.size
         have kf:=(xg.kept ((v8.trans u9).trans xk) vf vj).1
         have qk:t.heap.size<=j.heap.size:=zg.size
         have ku:=zH zg.drew
         have kt:=zH (fun o=>(zg.alloc o).drew)
         have kr:=zH (fun W (e:Below j.heap.size j W)=>kf.ext e)
         have xz:=zH (fun (o:Obj)=>(Below.drew ((Below.refl j.heap.size j).alloc (zN _) o)))
         have km:=zH (Below.drew (Below.refl j.heap.size j))
         go_wp2_with fail
         go_region_held3 (fun W=>W.cell? (q 11)=some (.int .u64 (S.sup.gen:Nat))/\W.cell? (q 13)=some (.int .u32 (S.sup.AA:Nat))) (first|exact ys.out _ _ zg|exact ys.out _ _ ku.out|exact ys.out _ _ (kt.out _)) (first
         |(go_at_call 82;go_must (refine (vc.out _ _ _ (kr.out _ (by first|exact km.out|exact xz.out _))).mono ?_);rintro e ba ⟨rfl,rfl⟩))
         all_goals
          obtain⟨zd,yk⟩:∃ zd,zd=(j.alloc (.cells #[.int .u64 (l.gen:Nat),r,.int .u32 (l.AA:Nat),Y,.int .u32 (l.sum:Nat)] 94)).drew:=⟨_,rfl⟩
          have yd:Below j.heap.size j zd:=by rw [yk];exact xz.out _
          have zh:zd.heap[j.heap.size]?=some (.cells #[.int .u64 (l.gen:Nat),r,.int .u32 (l.AA:Nat),Y,.int .u32 (l.sum:Nat)] 94 (0,0)):=by rw [yk];exact Qb _ _ _ rfl
          rw [<-yk]
          clear yk
          have qh:AD s t zb zd:=zg.ext yd
          have yt:=zH (Ck l N.out.1 N.out.2.1)
          unfold supv at yt
          rw [N.out.2.2.2.1,<-yr.out.2] at yt
          have c0:zd.cell? j.heap.size=some (.int .u64 (l.gen:Nat)):=cell_of_row _ _ 0 _ _ _ zh
          have c1:zd.cell? (j.heap.size 1)=some (r:Value):=cell_of_row _ _ 1 _ _ _ zh
          have c2:zd.cell? (j.heap.size 2)=some (.int .u32 (l.AA:Nat)):=cell_of_row _ _ 2 _ _ _ zh
          have c3:zd.cell? (j.heap.size 3)=some (Y:Value):=cell_of_row _ _ 3 _ _ _ zh
          have c4:zd.cell? (j.heap.size 4)=some (.int .u32 (l.sum:Nat)):=cell_of_row _ _ 4 _ _ _ zh
          have vy:=Qa zh
          go_wp2_with fail
          refine (yt.out _).mono ?_;rintro e zk ⟨K,vs,rfl,kg,ak,xn⟩
          have zo:Below j.heap.size j zk:=yd.trans (xn.mono yd.size)
          have xu:AD s t zb zk:=zg.ext zo
          have kc:BZ g d4 zb zk:=zz.ext zo
          have yq:=(xn.block _ vy).trans zh
          have qc:AD s t zb zk.drew:=xu.drew
          rcases h5:Dd.write d4 ((1 - S.slot:Nat):Int) (Su.enc l) with⟨z5,d5⟩
          have kz:=zH ((kc.ext (Below.drew (Below.refl _ zk))).write ((1 - S.slot:Nat):Int) (kg.ext (Below.drew (Below.refl _ zk))) (fun y hy _ e=>by cases hy;have h9:K < j.heap.size:=zz.lt _ e;have:=yd.size;omega) h5)
          clear c0 c1 c2 c3 c4 yt
          go_wp2_with fail
          go_region_held3 (fun W=>W.cell? q=some (.pointer g)/\W.cell? (q 10)=some (.int .i64 (S.slot:Nat))) (first|exact vb.out _ _ (by assumption)) (first
          |(go_at_call 94;go_must (refine kz.out.mono ?_);rintro e vv ⟨rfl,zc,xo,kl⟩;have zx:AD zb zk zc vv:=(AD.drew (AD.refl zb zk)).trans kl;have yp:AD s t zc vv:=xu.trans zx))
          have vt:¬ zb j.heap.size:=fun e=>Nat.lt_irrefl _ (zz.lt _ e)
          have xw:=(zx.block _ (Qa yq) vt).trans yq
          have xr:EB vv p' g lg:=(xf.ext zo).same (zx.block _ (xf.ext zo).lt vq)
          have xy:¬ zc p':=fun e=>by
           rcases zx.new p' e with e|e
           ·exact vq e
           ·have:=(xf.ext zo).lt;omega
          have jz:¬ zc j.heap.size:=fun e=>by
           rcases zx.new _ e with e|e
           ·exact vt e
           ·have:=Qa yq;omega
          by_cases e5:z5=0
          ·subst e5
           rw [AH.CM h5] at hr
           have aj:=(vb.out _ _ yp).1
           rcases h6:Dd.sync d5 with⟨z6,d6⟩
           have ja:=zH (xo.sync h6)
           go_wp2_with fail
           refine ja.out.mono ?_;rintro e zy ⟨rfl,xp,xj⟩
           have ye:AD s t zc zy:=yp.trans xj
           by_cases e6:z6=0
           ·subst e6
            rw [AH.CM h6,AH.II] at hr
            dsimp only at hr
            rw [if_neg (by simp)] at hr
            have zr:=(xj.block _ (Qa xw) jz).trans xw
            have ke:EB zy p' g lg:=xr.same (xj.block _ xr.lt xy)
            have xm:=zl.out _ _ ye
            have qf:=xm.lt
            have kk:¬ zc q:=fun e=>by
             rcases ye.new q e with e|e
             ·exact xe e
             ·omega
            have jp:p' ≠ q:=by omega
            have qt:j.heap.size ≠ q:=by omega
            rw [ym] at hr
            cases hr
            obtain⟨V0,yx⟩:∃ V0,V0=zy.drew:=⟨_,rfl⟩
            have ya:RQ V0 q g p { S with fl:=true }:=by rw [yx];exact xm
            have qq:(fun W=>W.cell? j.heap.size=some (.int .u64 (l.gen:Nat))/\W.cell? (j.heap.size 1)=some (r:Value)/\W.cell? (j.heap.size 2)=some (.int .u32 (l.AA:Nat))/\W.cell? (j.heap.size 3)=some (Y:Value)/\W.cell? (j.heap.size 4)=some (.int .u32 (l.sum:Nat))) V0:=by rw [yx];exact⟨cell_of_row _ _ 0 _ _ _ zr,cell_of_row _ _ 1 _ _ _ zr,cell_of_row _ _ 2 _ _ _ zr,cell_of_row _ _ 3 _ _ _ zr,cell_of_row _ _ 4 _ _ _ zr⟩
            have qu:(fun W=>W.cell? (q 10)=some (.int .i64 (S.slot:Nat))) V0:=ya.slot
            have ju:=ya.slot
            have f10:=ya.free 10
            have av:=ya.lt
            dsimp only at ju
            have zi:=zH (show ∀ (W:World) (k:Nat) (v:Value),(W.cell? j.heap.size=some (.int .u64 (l.gen:Nat))/\W.cell? (j.heap.size 1)=some (r:Value)/\W.cell? (j.heap.size 2)=some (.int .u32 (l.AA:Nat))/\W.cell? (j.heap.size 3)=some (Y:Value)/\W.cell? (j.heap.size 4)=some (.int .u32 (l.sum:Nat)))->(fun W=>W.cell? j.heap.size=some (.int .u64 (l.gen:Nat))/\W.cell? (j.heap.size 1)=some (r:Value)/\W.cell? (j.heap.size 2)=some (.int .u32 (l.AA:Nat))/\W.cell? (j.heap.size 3)=some (Y:Value)/\W.cell? (j.heap.size 4)=some (.int .u32 (l.sum:Nat))) (W.setCell (q k) v) from fun W k v ⟨a1,a2,a3,a4,a5⟩=>by
             have ot:∀ (o:Nat),(W.setCell (q k) v).cell? (j.heap.size o)=W.cell? (j.heap.size o):=fun o=>World.cell?_of_block (a:=(j.heap.size o)) (heap_setCell_other _ _ _ _ qt)
             exact⟨(ot _).trans a1,(ot _).trans a2,(ot _).trans a3,(ot _).trans a4,(ot _).trans a5⟩)
            have kv:=zH yx
            have xl:=zH (And.intro xp (And.intro ke (And.intro yc (And.intro kk (And.intro xy (And.intro N.out.2.2.2.1 (And.intro yf.out (And.intro yr.out.2 (And.intro ye (And.intro kd (And.intro jo (And.intro kb (And.intro jp ym)))))))))))))
            clear yx aj
            clear zr ke xp xm ye xj yp zx kl xo xr xy jz vt xw yq kc xu qc zo kg xn vy qh zh yd kf vq xf jn kd jo qk vz zz vw zg xk qj yj u9 v8 v5 vm vl xh xv u8 js je yu ae ad jd yg qi u5 vu xd ki jh jt vj jl xg jc vk xs yc kh xq yn zq jq yo kb i1 i2 i3 i4 hm hsz xt jf r0 r1 qs zf qw hs hL vo zu I h h0 jg jj vp Z xe vf ab qz yi qe zv y0 y1 y2 t1 t0 xc g1 g2 g3 gG h1 h2 h3 zw h5 h6 n1 n2 n3 n4 ac qy qf kk jp zm kn va ko ys vb zl N yf yr ku kt kr xz km ja kz vd ky kx kq ks kw kp vc HF zn T zs O zt xi qa qg ym zj A jm
            go_wp2_with fail
            refine Kh (by kernel_rfl) [13,16,19,22] (fun W=>W.cell? j.heap.size=some (.int .u64 (l.gen:Nat))/\W.cell? (j.heap.size 1)=some (r:Value)/\W.cell? (j.heap.size 2)=some (.int .u32 (l.AA:Nat))/\W.cell? (j.heap.size 3)=some (Y:Value)/\W.cell? (j.heap.size 4)=some (.int .u32 (l.sum:Nat))) (fun W=>W.cell? (q 10)=some (.int .i64 (S.slot:Nat))) ?_
            rw [<-kv.out]
            refine LV [0,1,2,3,4,5,6,7,8,9,10,11,12] ?_
            repeat ((first|(refine Qy (v:=?_) rfl (by kernel_rfl) (by kernel_rfl) (by kernel_rfl) (by kernel_rfl) (fun _ _ _ h=>h) (Or.inl ⟨by rfl,?_⟩) (by assumption) ?_;rotate_left;·intro w P;(try dsimp only at P);go_simp;try with_reducible rfl)|(refine Zy (v:=?_) rfl (by kernel_rfl) (by kernel_rfl) (by kernel_rfl) (by kernel_rfl) (by kernel_rfl) (fun _ _ _ h=>h) (Or.inl ⟨by rfl,?_⟩) (by assumption) (by assumption) ?_;rotate_left;·intro w P;(try dsimp only at P);go_simp;try with_reducible rfl));try simp only [Act.put])
            refine LW ?_
            have yv:=zi.out V0 10 (.int .i64 ((1 - S.slot:Nat):Int)) qq
            refine Jn (i:=13) rfl (by kernel_rfl) (by simp) (fun K J=>?_)
            go_simp
            refine J.out _ _ (yv) ?_;clear J K
            try simp only [Act.put]
            have M:=ya.QU (1 - S.slot)
            obtain⟨V1,yy⟩:∃ V1,V1=V0.setCell (q 10) (.int .i64 ((1 - S.slot:Nat):Int)):=⟨_,rfl⟩
            rw [<-yy] at yv M
            rw [<-yy]
            have qm:=zH yy
            clear yy ju f10 qu
            have aw:=M.lt
            have jv:=M.gen
            have vs:=M.act
            have jw:=M.AA
            have jx:=M.len
            have jy:=M.sum
            have f11:=M.free 11
            have f12:=M.free 12
            have f13:=M.free 13
            have f14:=M.free 14
            have f15:=M.free 15
            dsimp only at jv vs jw jx jy
            refine LV [14,15] ?_
            repeat ((refine Qy (v:=?_) rfl (by kernel_rfl) (by kernel_rfl) (by kernel_rfl) (by kernel_rfl) (fun _ _ _ h=>h) (Or.inl ⟨by rfl,?_⟩) (by assumption) ?_;rotate_left;·intro w P;(try dsimp only at P);go_simp;try with_reducible rfl);try simp only [Act.put])
            refine LW ?_
            have yw:=zi.out _ 15 (.int .u32 (l.sum:Nat)) (zi.out _ 14 (Y:Value) (zi.out _ 13 (.int .u32 (l.AA:Nat)) (zi.out _ 12 (r:Value) (zi.out V1 11 (.int .u64 (l.gen:Nat)) yv))))
            refine Jn (i:=16) rfl (by kernel_rfl) (by simp) (fun K J=>?_)
            go_simp
            refine J.out _ _ (yw) ?_;clear J K
            try simp only [Act.put]
            have zp:=M.TV l
            rw [xl.out.2.2.2.2.2.1,<-xl.out.2.2.2.2.2.2.2.1] at zp
            obtain⟨V2,yz⟩:∃ V2,V2=(((((V1.setCell (q 11) (.int .u64 l.gen)).setCell (q 12) (r:Value)).setCell (q 13) (.int .u32 l.AA)).setCell (q 14) (Y:Value)).setCell (q 15) (.int .u32 l.sum)):=⟨_,rfl⟩
            rw [<-yz] at yw zp
            rw [<-yz]
            have qn:=zH yz
            clear yz jv vs jw jx jy f11 f12 f13 f14 f15 yv
            have ax:=zp.lt
            have ag:=zp.log
            have f16:=zp.free 16
            refine LV [17,18] ?_
            repeat ((refine Qy (v:=?_) rfl (by kernel_rfl) (by kernel_rfl) (by kernel_rfl) (by kernel_rfl) (fun _ _ _ h=>h) (Or.inl ⟨by rfl,?_⟩) (by assumption) ?_;rotate_left;·intro w P;(try dsimp only at P);go_simp;try with_reducible rfl);try simp only [Act.put])
            refine LW ?_
            have vg:=zi.out V2 16 (.pointer p') yw
            refine Jn (i:=19) rfl (by kernel_rfl) (by simp) (fun K J=>?_)
            go_simp
            refine J.out _ _ (vg) ?_;clear J K
            try simp only [Act.put]
            have yb:=zp.MY p' lg
            obtain⟨V3,xa⟩:∃ V3,V3=V2.setCell (q 16) (.pointer p'):=⟨_,rfl⟩
            rw [<-xa] at vg yb
            rw [<-xa]
            have qo:=zH xa
            clear xa ag f16 yw
            have ay:=yb.lt
            have ah:=yb.fl
            have f17:=yb.free 17
            dsimp only at ah
            refine LV [20,21] ?_
            repeat ((refine Qy (v:=?_) rfl (by kernel_rfl) (by kernel_rfl) (by kernel_rfl) (by kernel_rfl) (fun _ _ _ h=>h) (Or.inl ⟨by rfl,?_⟩) (by assumption) ?_;rotate_left;·intro w P;(try dsimp only at P);go_simp;try with_reducible rfl);try simp only [Act.put])
            refine LW ?_
            have qr:=zi.out V3 17 (.bool false) vg
            refine Jn (i:=22) rfl (by kernel_rfl) (by simp) (fun K J=>?_)
            go_simp
            refine J.out _ _ (qr) ?_;clear J K
            try simp only [Act.put]
            refine Ke (by kernel_rfl) ?_ _
            have qd:=yb.OL false
            go_wp2_with fail
            go_ret
            obtain⟨b2,b3,b4,b5,b6,b8,b9,an,qp,ao,ap,aq,jb,ar⟩:=xl.out
            have yl:BQ q zy (V3.setCell (q 17) (.bool false)):=by
             rw [qo.out,qn.out,qm.out,kv.out]
             exact (((((((((BQ.refl q zy).drew).setCell 10 _).setCell 11 _).setCell 12 _).setCell 13 _).setCell 14 _).setCell 15 _).setCell 16 _).setCell 17 _
            refine⟨rfl,P1 (P1 zc p') q,⟨zc,p',rfl,b2.AI (fun x hx=>yl.block x (b2.lt x hx) (by rintro rfl;exact b5 hx)) yl.size,?_,b6,?_,b5,Ne.symm jb⟩,?_⟩
            ·exact b3.same (yl.block _ b3.lt jb)
            ·exact qd
            ·have af:AD (P1 (P1 s p) q) t (P1 (P1 zc p) q) zy:=(qp.beside p).beside q
             have kj:AD (P1 (P1 s p) q) t (P1 (P1 zc p) q) (V3.setCell (q 17) (.bool false)):=af.but (.inl (.inr rfl)) yl
             refine (b4.trans kj).grow fun y hy=>?_
             rcases hy with (hy|rfl)|rfl
             ·exact (b4.trans kj).new y (.inl (.inl hy))
             ·right;omega
             ·exact .inl (.inr rfl)
           ·have t6:(z6 != 0)=true:=by simpa using e6
            rw [AH.CL h6 e6] at hr
            dsimp only at hr
            rw [if_pos e6] at hr
            cases hr
            obtain⟨G,U,X⟩:=zm.out _ _ _ 0 xp ye
            go_wp2_with fail
            go_ret
            exact⟨rfl,G,U,X⟩
          ·have t5:(z5 != 0)=true:=by simpa using e5
           rw [AH.CL h5 e5] at hr
           dsimp only at hr
           rw [if_pos e5] at hr
           cases hr
           obtain⟨G,U,X⟩:=zm.out _ _ _ 0 xo yp
           go_wp2_with fail
           go_ret
           exact⟨rfl,G,U,X⟩
        ·have t4:(z4 != 0)=true:=by simpa using e4
         unfold AH.DY at hr
         rw [if_pos e4] at hr
         cases hr
         obtain⟨G,U,X⟩:=zm.out _ _ _ 0 zz zg
         go_wp2_with fail
         go_ret
         exact⟨rfl,G,U,X⟩
       ·have t3:(z3 != 0)=true:=by simpa using e3
        rw [AH.CL h3 e3] at hr
        unfold AH.CF at hr
        rw [if_pos e3] at hr
        cases hr
        obtain⟨G,U,X⟩:=zm.out _ _ _ 0 vm yj
        go_wp2_with fail
        go_ret
        exact⟨rfl,G,U,X⟩
      ·have t2:(z2 != 0)=true:=by simpa using e2
       rw [AH.CL h2 e2] at hr
       unfold AH.CF at hr
       rw [if_pos e2] at hr
       cases hr
       obtain⟨G,U,X⟩:=zm.out _ _ _ 0 vl xh
       go_wp2_with fail
       go_ret
       exact⟨rfl,G,U,X⟩
     ·have t1:(z1 != 0)=true:=by simpa using e1
      rw [AH.CL h1 e1] at hr
      unfold AH.CF at hr
      rw [if_pos e1] at hr
      cases hr
      obtain⟨G,U,X⟩:=zm.out _ _ _ 0 xd u5
      go_wp2_with fail
      go_ret
      exact⟨rfl,G,U,X⟩
end
end Go.Proofs.YtmanejniepghlaaGreatDoor
