import Derived.Test.YtmanejniepghlaaGreatDoorRun41
import Derived.Test.YtmanejniepghlaaGreatDoorRun20
import Derived.Test.YtmanejniepghlaaGreatDoorRun39
namespace Go.Proofs.YtmanejniepghlaaGreatDoor
open Go.RowKit
open Dd (Dk)
set_option maxRecDepth 100000
variable {F F':Nat->Prop} {W w:World} {B N b g k n:Nat} {a:Option Addr} {x:List UInt8} {l:AH.DK} {v:Value} {t:TypeId} {d d':Dk} {z:Int}
theorem Cg (s:Su.S) (f:Su.AB s=true) (r:s.fits) (w:World):Calls Tryz.prog 47 #[supv s] w fun e c =>
 ∃ K,e=.returned (.tuple #[.slice (K:Nat) 64 64,.int .i64 0])/\AM c K 64 64 (Su.enc s)/\w.heap.size<=K/\Below w.heap.size w c:=by
 obtain⟨gen,act,AA,len,sum,rfl,h,i,j,m,o⟩:=Su.AW f r
 refine (Hh gen act AA len sum h i j m o f w).mono ?_
 rintro e c ⟨K,rfl,hr,p,q⟩
 refine⟨K,rfl,?_,p,q⟩
 have u:=Su.CK ⟨gen,act,AA,len,sum⟩
 have:=hr.slb 0 64 64 (by omega) (zN _) (by decide)
 rw [List.drop_zero,List.take_of_length_le (by omega)] at this
 exact this
theorem Ev (hn:n<=100) (C:Nat->Value) (fs:List (Dk->Int × Dk)) (Y:fs.length=n) (J:b < W.heap.size) (Q:¬ F b) (P:∀ i,i < n->W.cell? (b i)=some (C i))
 (O:∀ i f,fs[i]?=some f->∀ w F' d',DP g d' F' w->AD F W F' w->∃ k q p,C i=.func (.func k) q p/\FB k/\Calls Tryz.prog k (q ++ p) w fun e m=>e=.returned (.int .i64 (f d').1)/\∃ G,DP g (f d').2 G m/\AD F' w G m)
 {d d':Dk} (hd:DP g d F W) {z:Int} (hr:AH.run fs d=(z,d')) :
 Calls Tryz.prog 50 #[.slice b n n] W fun e m=>e=.returned (z:Value)/\∃ F',DP g d' F' m/\AD F W F' m:=by
 refine (Ib n hn b C (fun i w=>∃ j c,AH.run (fs.drop i) j=(z,d')/\DP g j c w/\AD F W c w) (fun y w=>y=z/\∃ c,DP g d' c w/\AD F W c w) ?_ ?_ ?_ W ⟨d,F,hr,hd,AD.refl _ _⟩).mono ?_
 ·rintro i w K ⟨j,c,-,-,u⟩
  exact⟨Nat.lt_of_lt_of_le J u.size,(World.cell?_of_block (a:=(b i)) (u.block b J Q)).trans (P i K)⟩
 ·rintro i w K ⟨j,c,h,o,u⟩
  have H:i < fs.length:=by omega
  obtain⟨k,q,p,T,U,X⟩:=O i fs[i] (List.getElem?_eq_getElem H) w c j o u
  refine⟨k,q,p,T,U,X.mono ?_⟩
  rintro e m ⟨rfl,I,r,M⟩
  refine⟨_,rfl,?_⟩
  rw [List.drop_eq_getElem_cons H] at h
  rcases s:fs[i] j with⟨y,R⟩
  rw [s] at r
  by_cases A:y=0
  ·subst A
   rw [AH.CM s] at h
   exact .inl ⟨rfl,R,I,h,r,u.trans M⟩
  ·rw [AH.CL s A] at h
   cases h
   exact .inr ⟨A,rfl,I,r,u.trans M⟩
 ·rintro w ⟨j,c,h,o,u⟩
  rw [List.drop_of_length_le (by omega),AH.II] at h
  cases h
  exact⟨rfl,c,o,u⟩
 ·rintro e m ⟨y,rfl,rfl,c,h,o⟩
  exact⟨rfl,c,h,o⟩
theorem JE:FB 51:=fun _ _=>by kernel_rfl
theorem UO:FB 52:=fun _ _=>by kernel_rfl
theorem UP:FB 54:=fun _ _=>by kernel_rfl
def syncv (g:Nat):Value:=.func (.func 51) #[.pointer g] #[]
theorem AD.older (u:AD F W F' w) (c:∀ k,F k->k < B) (f:B<=k) (h:k < W.heap.size):¬ F' k:=fun e=>by
 rcases u.new k e with e|e
 ·have:=c k e;omega
 ·omega
theorem AD.kept (u:AD F W F' w) (f:∀ k,F k->k < B) (h:B<=k) (c:k < W.heap.size):w.heap[k]?=W.heap[k]?:=u.block k c fun e=>by have:=f k e;omega
theorem AM.kept {c:Nat} (h:AM W a n c x) (u:AD F W F' w) (i:∀ k,F k->k < B) (j:∀ y,a=some y->B<=y.block):AM w a n c x/\∀ y,a=some y->x ≠ []->¬ F' y.block:=by
 refine⟨h.upd u fun y f _ e=>?_,fun y f m=>?_⟩
 ·have:=i _ e;have:=j y f;omega
 ·subst f
  exact u.older i (j y rfl) (h.blt m)
theorem PB.kept {r:Int} (h:PB W N g l r v) (u:AD F W F' w) (c:∀ k,F k->k < B) (f:B<=N):PB w N g l r v/\∀ i,i < 4->¬ F' (N+i) :=
 ⟨h.AI fun i e=>u.kept c (by omega) (by have:=h.lt;omega),fun i e=>u.older c (by omega) (by have:=h.lt;omega)⟩
theorem Bx.kept (h:Bx W b t v) (u:AD F W F' w) (c:∀ k,F k->k < B) (e:B<=b):Bx w b t v/\¬ F' b:=⟨h.same (u.kept c e h.lt),u.older c e h.lt⟩
theorem Cf {j s:Nat} {K:Nat} {m:Nat} (h:∀ k,F k->k < B) (I:B<=j) (R:B<=s) (h3:B<=b) (M:B<=N) (T:B<=K) (U:∀ y,a=some y->B<=y.block)
 (row:W.heap[b]?=some (.cells #[EV N,EW N,syncv g,.func (.func 52) #[] #[.pointer j,.pointer s],.func (.func 54) #[] #[.pointer j],syncv g] t (0,0)))
 (O:PB W N g l 0 (.slice a 2 k)) (J:Bx W j 37 (.pointer g)) (hu:Bx W s 70 (.slice K 64 64)) (hs:AM W a 2 k [0,0]) (X:AM W K 64 64 x) (hd:DP g d F W)
 (i1:ib (l.sf 0)) (i2:ib l.sc) (i3:ib (l.lf 0)) (i4:ib l.lc) (Z:m<=1000000) (hsz:Ex.size l.lc=(m:Int)) (Q:(Ex.size l.lc).toNat=m)
 (hr:AH.run (AH.prep l 0 [0,0] ++ [fun d=>Dd.write d 0 x,fun d=>Dd.write d 1 (List.replicate 64 0),Dd.sync]) d=(z,d')) :
 Calls Tryz.prog 50 #[.slice b 6 6] W fun e A=>e=.returned (z:Value)/\∃ F',DP g d' F' A/\AD F W F' A:=by
 have P:b < W.heap.size:=Qa row
 refine Ev (n:=6) (by omega) (fun i=>(#[EV N,EW N,syncv g,.func (.func 52) #[] #[.pointer j,.pointer s],.func (.func 54) #[] #[.pointer j],syncv g]:Array Value)[i]?.getD undef) _ rfl P (fun e=>by have:=h _ e;omega) (fun i Y=>?_) ?_ hd hr
 ·rw [cell_of_row _ _ _ _ _ _ row]
  rw [Array.getElem?_eq_getElem (by simpa using Y)]
  rfl
 ·intro i f c w F' d1 o u
  match i,c with
 |0,c =>
   cases c
   refine⟨_,_,_,rfl,PZ,?_⟩
   obtain⟨p,q⟩:=hs.kept u h U
   exact Nt (r:=0) (by omega) (O.kept u h M).1 o p q i1 i2 rfl
 |1,c =>
   cases c
   refine⟨_,_,_,rfl,QA,?_⟩
   obtain⟨p,q⟩:=O.kept u h M
   rw [Q]
   exact Nu (r:=0) (by omega) p o q i3 i4 Z hsz rfl
 |2,c =>
   cases c
   refine⟨_,_,_,rfl,JE,(o.sync rfl).mono ?_⟩
   rintro e A ⟨C,G,H⟩
   exact⟨C,_,G,H⟩
 |3,c =>
   cases c
   refine⟨_,_,_,rfl,UO,?_⟩
   obtain⟨p,q⟩:=X.kept u h (fun y hy=>by cases hy;exact T)
   exact Rx (J.kept u h I).1 (hu.kept u h R).1 o p q rfl
 |4,c =>
   cases c
   refine⟨_,_,_,rfl,UP,?_⟩
   exact Ry (J.kept u h I).1 o (J.kept u h I).2 rfl
 |5,c =>
   cases c
   refine⟨_,_,_,rfl,JE,(o.sync rfl).mono ?_⟩
   rintro e A ⟨C,G,H⟩
   exact⟨C,_,G,H⟩
 |i+6,c=>simp [AH.prep] at c
theorem Kz (h:AH.fit n=true) (i:Nat) (r:i < 2):ib ((AH.plan n).sf i)/\ib ((AH.plan n).lf i)/\ib (AH.plan n).sc/\ib (AH.plan n).lc/\∃ m:Nat,m<=1000000/\Ex.size (AH.plan n).lc=(m:Int)/\(Ex.size (AH.plan n).lc).toNat=m:=by
 obtain⟨c,e,f,j,o,p,q⟩:=AH.DB h
 have u:i * (AH.plan n).h<=(AH.plan n).h:=by
  have:=Nat.mul_le_mul_right (AH.plan n).h (show i<=1 by omega);omega
 refine⟨?_,?_,?_,?_,((AH.plan n).h - (AH.plan n).s) * 64,by omega,?_,?_⟩
 ·unfold AH.DK.sf ib;omega
 ·unfold AH.DK.lf ib;omega
 ·unfold AH.DK.sc ib;omega
 ·unfold AH.DK.lc ib;omega
 ·unfold AH.DK.lc;rw [Ex.IK _ (by omega)]
 ·unfold AH.DK.lc;rw [Ex.IK _ (by omega)];omega
theorem Xd (h:AH.fit n=true):ID n=0/\IE n=.agg (layc (AH.plan n)):=by unfold ID IE;rw [h];exact⟨rfl,rfl⟩
set_option maxHeartbeats 8000000 in
theorem Us (hd:DP g d F w) (hr:AH.format d=(z,d')) :
 Calls Tryz.prog 12 #[.pointer g] w fun e w'=>e=.returned (z:Value)/\∃ F',DP g d' F' w'/\AD F w F' w':=by
 have s:=(Below.refl w.heap.size w).alloc (zN _) (.cells #[.pointer g] 37)
 have u:Bx (w.alloc (.cells #[.pointer g] 37)) w.heap.size 37 (.pointer g):=Qb _ _ _ rfl
 have yg:(w.alloc (.cells #[.pointer g] 37)).heap.size=w.heap.size+1:=by simp
 obtain⟨O,ze⟩:∃ O,O=w.alloc (.cells #[.pointer g] 37):=⟨_,rfl⟩
 have zo:=zH ze
 rw [<-ze] at s u yg
 have yc:=hd.ext s
 have p:=Zn true (d.st.length:Nat) O
 rw [show ((d.st.length:Nat):Int).toNat=d.st.length by omega] at p
 have zj:=zH yc.sectors
 unfold AH.format at hr
 clear ze
 by_cases hfit:AH.fit d.st.length=false
 ·rw [if_pos hfit] at hr
  cases hr
  rw [(Jm hfit).1,(Jm hfit).2] at p
  unfold JC layv at p
  have HP:=zH p
  clear p hfit
  go_in
  go_wp2_with fail
  rw [<-zo.out]
  have c0:=u.cell
  go_wp2_with (first
  |(go_at_call 45;go_must (refine zj.out.mono ?_);rintro e w1 ⟨rfl,rfl⟩)
  |(go_at_call 8;go_must (refine HP.out.mono ?_);rintro e j ⟨rfl,H⟩))
  go_ret
  have hB:=(s.trans (H.mono s.size)).alloc (by have:=H.size;have:=s.size;omega) (.cells #[.int .i64 0,.int .i64 0,.int .i64 0,.int .i64 0,.int .i64 0,.int .i64 0,.int .i64 0,.int .i64 0,.int .i64 0] 26)
  exact⟨rfl,F,hd.ext hB,AD.AL hB⟩
 ·rw [if_neg hfit] at hr
  have Y:AH.fit d.st.length=true:=by simpa using hfit
  rw [(Xd Y).1,(Xd Y).2] at p
  obtain⟨l,hl⟩:∃ l,AH.plan d.st.length=l:=⟨_,rfl⟩
  rw [hl] at p hr
  unfold layc at p
  have HP:=zH p
  have HL:=zH hl
  clear p hfit hl
  go_in
  go_wp2_with fail
  rw [<-zo.out]
  have c0:=u.cell
  go_wp2_with (first
  |(go_at_call 45;go_must (refine zj.out.mono ?_);rintro e w1 ⟨rfl,rfl⟩)
  |(go_at_call 8;go_must (refine HP.out.mono ?_);rintro e j ⟨rfl,H⟩))
  obtain⟨i,R⟩:∃ i,i=j.alloc (.cells (layc l) 26):=⟨_,rfl⟩
  have zt:Below j.heap.size j i:=by rw [R];exact (Below.refl _ _).alloc (zN _) _
  have zg:i.heap[j.heap.size]?=some (.cells (layc l) 26 (0,0)):=by rw [R];exact Qb _ _ _ rfl
  have zp:=zH R
  unfold layc at zp
  rw [<-zp.out]
  clear R
  have A:Below O.heap.size O i:=H.trans (zt.mono H.size)
  have zb:=zH (Oc 0 none 0 0 [] i (AT.nil _) (by simp))
  unfold DR at zb
  rw [show AN.AK 0 []=true by decide +kernel,if_pos rfl,if_pos rfl,show Sp.enc 0 []=[0,0] by decide +kernel] at zb
  obtain⟨Q,X⟩:∃ Q,AX.update 0 [0,0]=Q:=⟨_,rfl⟩
  have zx:Q < 4294967296:=by rw [<-X];exact AX.BX _ _
  have zv:AH.XB=⟨1,0,1,2,Q⟩:=by rw [<-X];rfl
  rw [zv] at hr
  have zn:=zH (fun W=>Cg ⟨1,0,1,2,Q⟩ rfl ⟨show (1:Nat) < 18446744073709551616 by decide,show (1:Nat) < 4294967296 by decide,zx⟩ W)
  unfold supv at zn
  have zm:=zH (fun a c W (h:AM W a 2 c [0,0])=>Xr a 2 c [0,0] W h)
  rw [X] at zm
  have za:=zH (fun a c W=>Hf g l 0 a 2 c W)
  rw [Iu] at za
  unfold layc EV EW at za
  have zu:∀ P,Below i.heap.size i P->∀ k,P.cell? (j.heap.size k)=(layc l)[k]?:=fun P e k=>cell_of_row _ _ _ _ _ _ ((e.block _ (Qa zg)).trans zg)
  have q:=zH zu
  have zl:=zH (fun P (e:Below i.heap.size i P)=>(u.same ((A.trans (e.mono A.size)).block _ u.lt)).cell)
  have HR:=zH hr
  clear zu hr X zv
  go_wp2_with (first
  |(go_at_call 46;go_must (refine zb.out.mono ?_);rintro e w4 ⟨v4,rfl,ya,yb⟩;obtain⟨a4,k4,rfl,zh,yd⟩:=ya.sl;simp only [List.length_cons,List.length_nil] at zh)
  |(go_at_call 48;go_must (refine (zm.out _ _ _ zh).mono ?_);rintro e w5 ⟨rfl,rfl⟩))
  refine (zn.out _).mono ?_;rintro e f ⟨K,rfl,yf,yi,U⟩
  have Z:Below i.heap.size i w4:=yb
  have o:Below i.heap.size i f:=Z.trans (U.mono Z.size)
  have x6:=zl.out f o
  have z6:=o.size
  have z3:=Qa zg
  have z5:=H.size
  have q6:w.heap.size < f.heap.size:=by omega
  have q7:j.heap.size < f.heap.size:=by omega
  have y0:f.cell? j.heap.size=some (l.cap:Value):=q.out f o 0
  have y1:f.cell? (j.heap.size 1)=some (.int .i64 (l.sf 0)):=q.out f o 1
  have y2:f.cell? (j.heap.size 2)=some (l.sc:Value):=q.out f o 2
  have y3:f.cell? (j.heap.size 3)=some (.int .i64 (l.sf 1)):=q.out f o 3
  have y4:f.cell? (j.heap.size 4)=some (l.sc:Value):=q.out f o 4
  have y5:f.cell? (j.heap.size 5)=some (.int .i64 (l.lf 0)):=q.out f o 5
  have y6:f.cell? (j.heap.size 6)=some (l.lc:Value):=q.out f o 6
  have y7:f.cell? (j.heap.size 7)=some (.int .i64 (l.lf 1)):=q.out f o 7
  have y8:f.cell? (j.heap.size 8)=some (l.lc:Value):=q.out f o 8
  have zw:(f.alloc (.cells #[.slice K 64 64] 70)).heap.size=f.heap.size+1:=by simp
  have zi:Bx (f.alloc (.cells #[.slice K 64 64] 70)) f.heap.size 70 (.slice K 64 64):=Qb _ _ _ rfl
  have J:=(Below.refl f.heap.size f).alloc (zN _) (.cells #[.slice K 64 64] 70)
  go_wp2_with fail
  obtain⟨G,zf⟩:∃ G,G=f.alloc (.cells #[.slice K 64 64] 70):=⟨_,rfl⟩
  rw [<-zf] at zw zi J ⊢
  have yh:=zH zf
  clear zf
  refine (za.out _ _ _).mono ?_;rintro e I ⟨rfl,C,ye⟩
  have zd:Below i.heap.size i I:=o.trans ((J.trans (C.mono J.size)).mono z6)
  have x8:=zl.out I zd
  have z8:=C.size
  clear x6 y0 y1 y2 y3 y4 y5 y6 y7 y8
  go_wp2_with fail
  obtain⟨r,T⟩:∃ r,r=I.alloc (.cells #[EV G.heap.size,EW G.heap.size,syncv g,.func (.func 52) #[] #[.pointer w.heap.size,.pointer f.heap.size],.func (.func 54) #[] #[.pointer w.heap.size],syncv g] 95):=⟨_,rfl⟩
  have M:Below I.heap.size I r:=by rw [T];exact (Below.refl _ _).alloc (zN _) _
  have row:r.heap[I.heap.size]?=some (.cells #[EV G.heap.size,EW G.heap.size,syncv g,.func (.func 52) #[] #[.pointer w.heap.size,.pointer f.heap.size],.func (.func 54) #[] #[.pointer w.heap.size],syncv g] 95 (0,0)):=by rw [T];exact Qb _ _ _ rfl
  have zc:=zH T
  unfold EV EW syncv at zc
  rw [zw] at zc
  rw [<-zc.out]
  clear T
  have zr:Below i.heap.size i r:=zd.trans (M.mono zd.size)
  have zs:Below w.heap.size w r:=s.trans ((A.trans (zr.mono A.size)).mono s.size)
  have zq:Below f.heap.size f r:=J.trans ((C.trans (M.mono C.size)).mono J.size)
  have zz:Below w4.heap.size w4 r:=U.trans (zq.mono U.size)
  obtain⟨i1,i3,i2,i4,m,hm,hsz,zk⟩:=Kz Y 0 (by omega)
  rw [HL.out] at i1 i2 i3 i4 hsz zk
  have z9:=M.size
  have z46:=U.size
  have yl:=Z.size
  have yj:=zt.size
  have zy:=zH (Cf (W:=r) (B:=w.heap.size) (hd.lt) (zN _) (by omega) (by omega) (by omega) (by omega) (fun y hy=>by have:=(yd y hy).2.1;omega) row (ye.ext M) (u.same ((A.trans (zr.mono A.size)).block _ u.lt)) (zi.same ((C.trans (M.mono C.size)).block _ zi.lt)) (zh.ext zz) (yf.ext zq) (hd.ext zs) i1 i2 i3 i4 hm hsz zk HR.out)
  refine zy.out.mono ?_;rintro e yk ⟨rfl,F',q1,q2⟩
  go_wp2_with fail
  go_ret
  exact⟨rfl,F',q1,(AD.AL zs).trans q2⟩
end Go.Proofs.YtmanejniepghlaaGreatDoor
