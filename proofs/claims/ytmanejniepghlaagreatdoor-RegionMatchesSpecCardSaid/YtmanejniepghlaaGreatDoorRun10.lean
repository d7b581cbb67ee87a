import Derived.Test.YtmanejniepghlaaGreatDoorRun9
import Derived.Deep.RegionHeld3
import Derived.IntWalk
import Derived.StillTailTactics
import Derived.Deep.AppendLies
namespace Go.Proofs.YtmanejniepghlaaGreatDoor
open Go.RowKit
variable {w w':World} {base g:Nat} {pts v:Value} {l:List Int} {rest:List UInt8} {bias i n:Int} {st:Bool}
theorem Pu.IR (l:List UInt8):∀ (i w:Int) (k:Nat) (bias:Int) (r:List UInt8) (j:Int),0<=i->1<=w->Pu.BK l i w k bias=.ok (r,j)->i<=j/\j<=1099511627776/\r.length < l.length:=by
 induction l with
|nil=>intro i w k bias r j _ _ h;simp [Pu.BK] at h
|cons b l ih =>
  intro i w k bias r j m f h
  rw [Pu.BK] at h
  obtain⟨q,s⟩:=Pu.GP k bias
  by_cases a:Pu.value b < 0
  ·rw [if_pos a] at h;cases h
  rw [if_neg a] at h
  have o:0<=Pu.value b * w:=Int.mul_nonneg (by omega) (by omega)
  generalize Pu.value b * w=y at *
  by_cases c:1099511627776 < i+y
  ·rw [if_pos c] at h;cases h
  rw [if_neg c] at h
  by_cases d:Pu.value b < Pu.thr k bias
  ·rw [if_pos d] at h
   cases h
   exact⟨by omega,by omega,by simp⟩
  rw [if_neg d] at h
  have p:1 * 1<=w * (36 - Pu.thr k bias):=Int.mul_le_mul f (by omega) (by omega) (by omega)
  generalize w * (36 - Pu.thr k bias)=z at *
  by_cases e:1099511627776 < z
  ·rw [if_pos e] at h;cases h
  rw [if_neg e] at h
  have:=ih _ _ _ _ _ _ (by omega) (by omega) h
  exact⟨by omega,by omega,by simp;omega⟩
theorem AS.GD (b:AS base w v l) (h:BE w g rest pts n i bias st):v.ownBlock ≠ some g:=by
 intro e
 rcases b.2 with⟨rfl,_⟩|⟨f,c,d,rfl,j,a,rest⟩
 ·cases e
 ·simp [Value.ownBlock] at e
  subst e
  unfold BE at h
  rw [a] at h
  cases h
theorem AS.block (a:AS base w v l) (h:∀ k,v.ownBlock=some k->w'.heap[k]?=w.heap[k]?):AS base w' v l:=by
 refine⟨a.1,?_⟩
 rcases a.2 with hn|⟨e,b,c,rfl,f,d,rest⟩
 ·exact .inl hn
 ·exact .inr ⟨e,b,c,rfl,f,(h _ rfl).trans d,rest⟩
theorem AS.but (b:AS base w v l) (d:BQ g w w') (c:v.ownBlock ≠ some g):AS base w' v l :=
 b.block fun k a=>d.block k (b.lt k a).2 (fun e=>c (by rw [a,e]))
theorem AS.FU (c:AS base w v l) (a:v.ownBlock ≠ some g) (o:Nat) (x:Value):AS base (w.setCell (g o) x) v l :=
 c.block fun k b=>heap_setCell_other _ _ _ _ (fun e=>a (by rw [b,e]))
theorem BE.grown {row:Option Nat} (h:BE w g rest pts n i bias st) (b:w.grownBy w' row) (a:row ≠ some g):BE w' g rest pts n i bias st :=
 (b.block g (Qa h) (fun e=>a e.symm)).trans h
theorem BE.allocd (h:BE w g rest pts n i bias st) (o:Obj):BE (w.alloc o) g rest pts n i bias st:=(Qd _ _ _ (Qa h)).trans h
def QW (base g:Nat) (l:List UInt8) (s:Pu.D) (w:World) (e:Ending) (w':World):Prop :=
 Below base w w'/\((∃ b,b ≠ 0/\Pu.BT l s=.error b/\e=.returned (b:Value)) ∨
  (∃ r a c,Pu.BT l s=.ok (r,a)/\e=.returned (.int .i64 0)/\BE w' g r c a.n a.i a.bias (!a.first)/\AS base w' c a.pts))
set_option maxHeartbeats 4000000 in
set_option maxRecDepth 100000 in
theorem By (base g:Nat) (l:List UInt8) (s:Pu.D) (v:Value) (w:World) (h:BE w g l v s.n s.i s.bias (!s.first)) (ho:AS base w v s.pts) (t:base<=g) (zb:base<=w.heap.size) (h0:0<=s.i) (h1:s.i<=s.pts.length)
 (n0:0<=s.n) (n1:s.n<=1114111) (b0:0<=s.bias) (b1:s.bias<=1000) (yz:s.pts.length<=256) (hl:l.length<=1000000) :
 Calls Tryz.prog 247 #[.pointer g] w (QW base g l s w):=by
 obtain⟨pts,n,i,bias,first⟩:=s
 simp only at h ho h0 h1 n0 n1 b0 b1 yz
 obtain⟨st,rfl⟩:∃ st,first=!st:=⟨!first,by simp⟩
 simp only [Bool.not_not] at h
 have zi:=fun (W:World) h=>Bw g l v n i bias st W h h0 (by omega) b0 b1 hl
 have ya:=zH zi
 have zw:=h.cells.2.2.2.1
 have xg:=Qa h
 have F:=ho.GD h
 clear zi
 go_in
 go_wp2_with fail
 refine (ya.out _ h).mono ?_;rintro e b ⟨Q,⟨er,yv,hd,rfl⟩|⟨r,j,hd,rfl,q⟩⟩
 ·have yu:=BQ.below (Below.refl base w) Q t zb
  have f:Pu.BT l ⟨pts,n,i,bias,!st⟩=.error er:=by unfold Pu.BT;rw [hd]
  have u:=zH f
  clear f hd zw
  go_wp2
  go_ret
  exact⟨yu,.inl ⟨er,yv,u.out,rfl⟩⟩
 obtain⟨j0,j1,xk⟩:=Pu.IR _ _ _ _ _ _ _ h0 (by omega) hd
 have ze:=BQ.below (Below.refl base w) Q t zb
 have za:=ho.but Q F
 obtain⟨a,c,xb,xa⟩:=za.sl
 subst xb
 obtain⟨C,hC⟩:∃ C:Int,C=(pts.length:Int)+1:=⟨_,rfl⟩
 obtain⟨O,G,H,y,I,J⟩:=q.cells
 have K:=q.free 1
 have f2:=q.free 2
 have z:=q.free 3
 have f4:=q.free 4
 have f5:=q.free 5
 have hj:IntKind.i64.wrap (j - i)=j - i:=by rw [IntKind.wrap_i64];omega
 have yt:=Pu.GR (j - i) C (!st) (by omega) (by omega) (by omega)
 have zv:=fun W=>Vf true (j - i) C (!st) W (by omega) (by omega) (by omega) (by omega)
 obtain⟨o,X⟩:∃ o,o=Pu.adapt (j - i) C (!st):=⟨_,rfl⟩
 rw [<-X] at yt
 have zd:∀ W,Calls Tryz.prog 250 #[.int .i64 (j - i),C,.bool (!st)] W fun e w'=>e=.returned (o:Value)/\w'=W:=fun W=>(zv W).mono (by rintro e w' ⟨rfl,rfl⟩;exact⟨by rw [X],rfl⟩)
 have yc:=zH zd
 clear zv zd
 have yf:=zH X
 clear X
 go_wp2_with fail
 rw [<-hC]
 have HC:=zH hC
 have xc:1<=C:=by omega
 have xd:C<=257:=by omega
 clear hC
 refine wp_region_still_tail 14 (by kernel_rfl) (by kernel_rfl) ?_
 simp only [List.take_succ_cons,List.take_zero,List.drop_succ_cons,List.drop_zero]
 repeat still_step
 still_call (yc.out _)
 refine wpStill_nil ?_
 change wpList _ _ _ _ _ b.drew
 have yh:b.drew.cell? (g 1)=some (.slice a pts.length c):=G
 have yi:b.drew.cell? (g 2)=some (n:Value):=H
 have yj:b.drew.cell? (g 3)=some (j:Value):=y
 have yk:b.drew.cell? (g 4)=some (bias:Value):=I
 have yl:b.drew.cell? (g 5)=some (.bool st):=J
 have yn:b.drew.frozen? (g 1)=false:=K
 have yo:b.drew.frozen? (g 2)=false:=f2
 have yp:b.drew.frozen? (g 3)=false:=z
 have yq:b.drew.frozen? (g 4)=false:=f4
 have yr:b.drew.frozen? (g 5)=false:=f5
 have zs:BE b.drew g r (Value.slice a pts.length c) n j bias st:=q
 have zu:AS base b.drew (Value.slice a pts.length c) pts:=za
 have zf:Below base w b.drew:=ze.drew
 have zl:=zH (zs.VE o);have zn:=zH (zu.FU F 4 (o:Value));have zj:=zH (show Below base w (b.drew.setCell (g 4) (o:Value)) from zf.setCell t _)
 clear O G H y I J K f2 z f4 f5 q za ze zs zu zf Q xa
 generalize b.drew=Y at *
 go_wp2_with fail
 go_region
 have xi:0<=j / C:=Int.ediv_nonneg (by omega) (by omega)
 have xj:j / C<=j:=Int.ediv_le_self _ (by omega)
 have yw:0<=j % C:=Int.emod_nonneg _ (by omega)
 have yx:j % C < C:=Int.emod_lt_of_pos _ (by omega)
 obtain⟨N,hN⟩:∃ N,N=n+j / C:=⟨_,rfl⟩
 have zz:wrap64 (n+j / C)=N:=by rw [hN];unfold wrap64;omega
 rw [zz]
 have xe:n<=N:=by omega
 have xf:N<=2000000000000:=by omega
 have HN:=zH hN
 clear hN
 have d:=((zl.out.ON true).ZC N)
 have x:=(zn.out.FU F 5 (.bool true)).FU F 2 (N:Value)
 have p:=(show Below base w ((((Y.setCell (g 4) (o:Value)).setCell (g 5) (.bool true)).setCell (g 2) (N:Value))).drew from ((zj.out.setCell t _).setCell t _).drew)
 replace d:BE ((((Y.setCell (g 4) (o:Value)).setCell (g 5) (.bool true)).setCell (g 2) (N:Value))).drew g r (Value.slice a pts.length c) N j o true:=d
 replace x:AS base ((((Y.setCell (g 4) (o:Value)).setCell (g 5) (.bool true)).setCell (g 2) (N:Value))).drew (Value.slice a pts.length c) pts:=x
 generalize ((((Y.setCell (g 4) (o:Value)).setCell (g 5) (.bool true)).setCell (g 2) (N:Value))).drew=w3 at *
 obtain⟨O,G,H,y,I,J⟩:=d.cells
 have K:=d.free 1
 have z:=d.free 3
 have zm:=zH (d.XA (j % C));have zo:=zH (x.FU F 3 (.int .i64 (j % C)));have zk:=zH (show Below base w (w3.setCell (g 3) (.int .i64 (j % C))) from p.setCell t _)
 clear yh yi yj yk yl yn yo yp yq yr zl zn zj zz d x p zw
 go_wp2_with fail
 obtain⟨d,x,p⟩:=And.intro zm.out (And.intro zo.out zk.out)
 clear zm zo zk O G H y I J K z
 generalize (w3.setCell (g 3) (.int .i64 (j % C)))=A at *
 refine (Wa true N _ (by omega) (by omega)).mono ?_;rintro e Z ⟨rfl,rfl⟩
 obtain⟨m,hm⟩:∃ m:Nat,(m:Int)=j % C:=⟨(j % C).toNat,by omega⟩
 have zx:(j % C).toNat=m:=by omega
 have yy:m<=pts.length:=by have:=HC.out;omega
 have f:Pu.BT l ⟨pts,n,i,bias,!st⟩=if Pu.point N=false then .error 2 else if 256 < C then .error 3 else .ok (r,⟨Pu.ins pts (j % C).toNat N,N,j % C+1,o,false⟩):=by
  unfold Pu.BT;rw [hd];simp only [<-HC.out,<-HN.out,<-yf.out]
 rw [zx,<-hm] at f
 rw [<-hm] at d
 clear hm zx yw yx
 cases hp:Pu.point N with
|false =>
  rw [hp,if_pos rfl] at f
  have u:=zH f
  clear f hd
  go_wp2
  go_ret
  exact⟨p,.inl ⟨2,by decide,u.out,rfl⟩⟩
|true =>
  rw [hp,if_neg (by simp)] at f
  by_cases zg:256 < C
  ·rw [if_pos zg] at f
   have u:=zH f
   clear f hd
   go_wp2
   go_ret
   exact⟨p,.inl ⟨3,by decide,u.out,rfl⟩⟩
  rw [if_neg zg] at f
  have u:=zH f
  clear f hd
  go_wp2_with fail
  have zt:BE A.drew g r (Value.slice a pts.length c) N m o true:=d
  have R:AS base A.drew (Value.slice a pts.length c) pts:=x
  have zp:Below base w A.drew:=p.drew
  obtain⟨O,G,H,y,I,J⟩:=d.cells
  have K:=d.free 1
  have z:=d.free 3
  have xh:=Qa d
  clear O I J
  have yb:base<=A.heap.size:=Nat.le_trans zb p.size
  clear d x p
  go_region_law (go_simp;go_at_call 258;go_must (refine (Cu base (.slice a pts.length c) pts m N A.heap.size _ (AS.alloc (w:=A.drew) R _) yy (by omega) (by simp;omega) (Qb _ _ _ rfl) (fun e=>Nat.lt_irrefl _ (R.lt _ e).2)).mono ?_);rintro e Z ⟨v5,rfl,T,zc⟩;obtain⟨a5,P,rfl,-⟩:=id T.sl;have M:=BE.grown (BE.allocd (w:=A.drew) zt _) zc F;have ym:=M.cells.2.1;have ys:=M.free 1)
  all_goals (
   clear G H y K z ym ys
   have zh:=T.GD M
   have B:=M.TT (.slice a5 (Pu.ins pts m N).length P)
   have U:=T.FU zh 1 (.slice a5 (Pu.ins pts m N).length P)
   have zq:Below base w Z:=(zp.alloc yb (.cells #[N] 3)).grown zc (by simp;omega) (fun k hk=>(R.lt k hk).1)
   have zr:Below base w (Z.setCell (g 1) (.slice a5 (Pu.ins pts m N).length P)):=zq.setCell t _
   clear zt R zp M T zq zc
   generalize Z.setCell (g 1) (.slice a5 (Pu.ins pts m N).length P)=w6 at *
   obtain⟨v6,zy⟩:∃ v,v=Value.slice a5 (Pu.ins pts m N).length P:=⟨_,rfl⟩
   rw [<-zy] at B U
   clear zy zh
   have y:=B.cells.2.2.2.1
   have z:=B.free 3
   have ye:=zH (B.XA (m+1));have yg:=zH (U.FU (U.GD B) 3 (.int .i64 (m+1)));have yd:=zH (show Below base w (w6.setCell (g 3) (.int .i64 (m+1))) from zr.setCell t _)
   clear B U zr
   go_wp2
   go_ret
   exact⟨yd.out,.inr ⟨r,_,v6,u.out,rfl,ye.out,yg.out⟩⟩)
end Go.Proofs.YtmanejniepghlaaGreatDoor
