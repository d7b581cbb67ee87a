import Derived.Test.YtmanejniepghlaaGreatDoorRun10
import Derived.Deep.RegionHeld3
import Derived.IntWalk
import Derived.StillTailTactics
import Derived.Deep.AppendLies
namespace Go.Proofs.YtmanejniepghlaaGreatDoor
open Go.RowKit
variable {w w':World} {base g:Nat} {pts v:Value} {l:List Int} {rest:List UInt8} {bias i n:Int} {st:Bool}
theorem Puny.decNum_bd (l:List UInt8):∀ (i w:Int) (k:Nat) (bias:Int) (r:List UInt8) (j:Int),0<=i->1<=w->Puny.decNum l i w k bias=.ok (r,j)->i<=j/\j<=1099511627776/\r.length < l.length:=by
 induction l with
|nil=>intro i w k bias r j _ _ h;simp [Puny.decNum] at h
|cons b l ih =>
  intro i w k bias r j hi hw h
  rw [Puny.decNum] at h
  obtain⟨t1,t2⟩:=Puny.thr_bd k bias
  by_cases h1:Puny.value b < 0
  ·rw [if_pos h1] at h;cases h
  rw [if_neg h1] at h
  have hm:0<=Puny.value b * w:=Int.mul_nonneg (by omega) (by omega)
  generalize Puny.value b * w=y at *
  by_cases h2:1099511627776 < i+y
  ·rw [if_pos h2] at h;cases h
  rw [if_neg h2] at h
  by_cases h3:Puny.value b < Puny.thr k bias
  ·rw [if_pos h3] at h
   cases h
   exact⟨by omega,by omega,by simp⟩
  rw [if_neg h3] at h
  have hz:1 * 1<=w * (36 - Puny.thr k bias):=Int.mul_le_mul hw (by omega) (by omega) (by omega)
  generalize w * (36 - Puny.thr k bias)=z at *
  by_cases h4:1099511627776 < z
  ·rw [if_pos h4] at h;cases h
  rw [if_neg h4] at h
  have:=ih _ _ _ _ _ _ (by omega) (by omega) h
  exact⟨by omega,by omega,by simp;omega⟩
theorem OwnI.ne_dbox (hv:OwnI base w v l) (h:DBox w g rest pts n i bias st):v.ownBlock ≠ some g:=by
 intro e
 rcases hv.2 with⟨rfl,_⟩|⟨g',cap',cur',rfl,hb,hgg',rest⟩
 ·cases e
 ·simp [Value.ownBlock] at e
  subst e
  unfold DBox at h
  rw [hgg'] at h
  cases h
theorem OwnI.block (hv:OwnI base w v l) (h:∀ k,v.ownBlock=some k->w'.heap[k]?=w.heap[k]?):OwnI base w' v l:=by
 refine⟨hv.1,?_⟩
 rcases hv.2 with hn|⟨g',cap',cur',rfl,hb,hgg',rest⟩
 ·exact .inl hn
 ·exact .inr ⟨g',cap',cur',rfl,hb,(h _ rfl).trans hgg',rest⟩
theorem OwnI.but (hv:OwnI base w v l) (hg:But g w w') (hne:v.ownBlock ≠ some g):OwnI base w' v l :=
 hv.block fun k hk=>hg.block k (hv.lt k hk).2 (fun e=>hne (by rw [hk,e]))
theorem OwnI.setBox (hv:OwnI base w v l) (hne:v.ownBlock ≠ some g) (o:Nat) (x:Value):OwnI base (w.setCell (g o) x) v l :=
 hv.block fun k hk=>heap_setCell_other _ _ _ _ (fun e=>hne (by rw [hk,e]))
theorem DBox.grown {row:Option Nat} (h:DBox w g rest pts n i bias st) (hg:w.grownBy w' row) (hne:row ≠ some g):DBox w' g rest pts n i bias st :=
 (hg.block g (za_a h) (fun e=>hne e.symm)).trans h
theorem DBox.allocd (h:DBox w g rest pts n i bias st) (o:Obj):DBox (w.alloc o) g rest pts n i bias st:=(za_c _ _ _ (za_a h)).trans h
def PStepPost (base g:Nat) (l:List UInt8) (s:Puny.D) (w:World) (e:Ending) (w':World):Prop :=
 Below base w w'/\((∃ er,er ≠ 0/\Puny.decStep l s=.error er/\e=.returned (er:Value)) ∨
  (∃ r s' v',Puny.decStep l s=.ok (r,s')/\e=.returned (.int .i64 0)/\DBox w' g r v' s'.n s'.i s'.bias (!s'.first)/\OwnI base w' v' s'.pts))
set_option maxHeartbeats 4000000 in
set_option maxRecDepth 100000 in
theorem zo_a (base g:Nat) (l:List UInt8) (s:Puny.D) (v:Value) (w:World) (h:DBox w g l v s.n s.i s.bias (!s.first)) (ho:OwnI base w v s.pts) (hbg:base<=g) (hbs:base<=w.heap.size) (h0:0<=s.i) (h1:s.i<=s.pts.length)
 (n0:0<=s.n) (n1:s.n<=1114111) (b0:0<=s.bias) (b1:s.bias<=1000) (hpl:s.pts.length<=256) (hl:l.length<=1000000) :
 Calls Tryz.prog 247 #[.pointer g] w (PStepPost base g l s w):=by
 obtain⟨pts,n,i,bias,first⟩:=s
 simp only at h ho h0 h1 n0 n1 b0 b1 hpl
 obtain⟨st,rfl⟩:∃ st,first=!st:=⟨!first,by simp⟩
 simp only [Bool.not_not] at h
 have hnum:=fun (W:World) h=>zn_z g l v n i bias st W h h0 (by omega) b0 b1 hl
 have HNUM:=zH hnum
 have hc3:=h.cells.2.2.2.1
 have hg0:=za_a h
 have hne:=ho.ne_dbox h
 clear hnum
 go_enter Tryz.func247,Tryz.ntmps247
 go_wp2_with fail
 refine (HNUM.out _ h).mono ?_;rintro e w1 ⟨hB1,⟨er,her,hd,rfl⟩|⟨r,j,hd,rfl,hD1⟩⟩
 ·have hbw:=But.below (Below.refl base w) hB1 hbg hbs
  have hst:Puny.decStep l ⟨pts,n,i,bias,!st⟩=.error er:=by unfold Puny.decStep;rw [hd]
  have HST:=zH hst
  clear hst hd hc3
  go_wp2
  go_ret
  exact⟨hbw,.inl ⟨er,her,HST.out,rfl⟩⟩
 obtain⟨j0,j1,hrl⟩:=Puny.decNum_bd _ _ _ _ _ _ _ h0 (by omega) hd
 have hbw1:=But.below (Below.refl base w) hB1 hbg hbs
 have hO1:=ho.but hB1 hne
 obtain⟨a,c,hva,hsl⟩:=hO1.sl
 subst hva
 obtain⟨C,hC⟩:∃ C:Int,C=(pts.length:Int)+1:=⟨_,rfl⟩
 obtain⟨c0,c1,c2,c3,c4,c5⟩:=hD1.cells
 have f1:=hD1.free 1
 have f2:=hD1.free 2
 have f3:=hD1.free 3
 have f4:=hD1.free 4
 have f5:=hD1.free 5
 have hj:IntKind.i64.wrap (j - i)=j - i:=by rw [IntKind.wrap_i64];omega
 have hbd:=Puny.adapt_bd (j - i) C (!st) (by omega) (by omega) (by omega)
 have had:=fun W=>ze_u true (j - i) C (!st) W (by omega) (by omega) (by omega) (by omega)
 obtain⟨nb,hnb⟩:∃ nb,nb=Puny.adapt (j - i) C (!st):=⟨_,rfl⟩
 rw [<-hnb] at hbd
 have hadq:∀ W,Calls Tryz.prog 250 #[.int .i64 (j - i),C,.bool (!st)] W fun e w'=>e=.returned (nb:Value)/\w'=W:=fun W=>(had W).mono (by rintro e w' ⟨rfl,rfl⟩;exact⟨by rw [hnb],rfl⟩)
 have HAD:=zH hadq
 clear had hadq
 have HNB:=zH hnb
 clear hnb
 go_wp2_with fail
 rw [<-hC]
 have HC:=zH hC
 have hC1:1<=C:=by omega
 have hC2:C<=257:=by omega
 clear hC
 refine wp_region_still_tail 14 (by kernel_rfl) (by kernel_rfl) ?_
 simp only [List.take_succ_cons,List.take_zero,List.drop_succ_cons,List.drop_zero]
 repeat still_step
 still_call (HAD.out _)
 refine wpStill_nil ?_
 change wpList _ _ _ _ _ w1.drew
 have c1':w1.drew.cell? (g 1)=some (.slice a pts.length c):=c1
 have c2':w1.drew.cell? (g 2)=some (n:Value):=c2
 have c3':w1.drew.cell? (g 3)=some (j:Value):=c3
 have c4':w1.drew.cell? (g 4)=some (bias:Value):=c4
 have c5':w1.drew.cell? (g 5)=some (.bool st):=c5
 have f1':w1.drew.frozen? (g 1)=false:=f1
 have f2':w1.drew.frozen? (g 2)=false:=f2
 have f3':w1.drew.frozen? (g 3)=false:=f3
 have f4':w1.drew.frozen? (g 4)=false:=f4
 have f5':w1.drew.frozen? (g 5)=false:=f5
 have hD2:DBox w1.drew g r (Value.slice a pts.length c) n j bias st:=hD1
 have hO2:OwnI base w1.drew (Value.slice a pts.length c) pts:=hO1
 have hbw2:Below base w w1.drew:=hbw1.drew
 have HD2:=zH (hD2.setBias nb);have HO2:=zH (hO2.setBox hne 4 (nb:Value));have HB2:=zH (show Below base w (w1.drew.setCell (g 4) (nb:Value)) from hbw2.setCell hbg _)
 clear c0 c1 c2 c3 c4 c5 f1 f2 f3 f4 f5 hD1 hO1 hbw1 hD2 hO2 hbw2 hB1 hsl
 generalize w1.drew=w2 at *
 go_wp2_with fail
 go_region
 have hq0:0<=j / C:=Int.ediv_nonneg (by omega) (by omega)
 have hq1:j / C<=j:=Int.ediv_le_self _ (by omega)
 have hm0:0<=j % C:=Int.emod_nonneg _ (by omega)
 have hm1:j % C < C:=Int.emod_lt_of_pos _ (by omega)
 obtain⟨N,hN⟩:∃ N,N=n+j / C:=⟨_,rfl⟩
 have hwN:wrap64 (n+j / C)=N:=by rw [hN];unfold wrap64;omega
 rw [hwN]
 have hN0:n<=N:=by omega
 have hN1:N<=2000000000000:=by omega
 have HN:=zH hN
 clear hN
 have hD3:=((HD2.out.setSt true).setN N)
 have hO3:=(HO2.out.setBox hne 5 (.bool true)).setBox hne 2 (N:Value)
 have hB3:=(show Below base w ((((w2.setCell (g 4) (nb:Value)).setCell (g 5) (.bool true)).setCell (g 2) (N:Value))).drew from ((HB2.out.setCell hbg _).setCell hbg _).drew)
 replace hD3:DBox ((((w2.setCell (g 4) (nb:Value)).setCell (g 5) (.bool true)).setCell (g 2) (N:Value))).drew g r (Value.slice a pts.length c) N j nb true:=hD3
 replace hO3:OwnI base ((((w2.setCell (g 4) (nb:Value)).setCell (g 5) (.bool true)).setCell (g 2) (N:Value))).drew (Value.slice a pts.length c) pts:=hO3
 generalize ((((w2.setCell (g 4) (nb:Value)).setCell (g 5) (.bool true)).setCell (g 2) (N:Value))).drew=w3 at *
 obtain⟨c0,c1,c2,c3,c4,c5⟩:=hD3.cells
 have f1:=hD3.free 1
 have f3:=hD3.free 3
 have HD3:=zH (hD3.setI (j % C));have HO3:=zH (hO3.setBox hne 3 (.int .i64 (j % C)));have HB3:=zH (show Below base w (w3.setCell (g 3) (.int .i64 (j % C))) from hB3.setCell hbg _)
 clear c1' c2' c3' c4' c5' f1' f2' f3' f4' f5' HD2 HO2 HB2 hwN hD3 hO3 hB3 hc3
 go_wp2_with fail
 obtain⟨hD3,hO3,hB3⟩:=And.intro HD3.out (And.intro HO3.out HB3.out)
 clear HD3 HO3 HB3 c0 c1 c2 c3 c4 c5 f1 f3
 generalize (w3.setCell (g 3) (.int .i64 (j % C)))=w4 at *
 refine (zh_c true N _ (by omega) (by omega)).mono ?_;rintro e w5 ⟨rfl,rfl⟩
 obtain⟨m,hm⟩:∃ m:Nat,(m:Int)=j % C:=⟨(j % C).toNat,by omega⟩
 have hmn:(j % C).toNat=m:=by omega
 have hml:m<=pts.length:=by have:=HC.out;omega
 have hst:Puny.decStep l ⟨pts,n,i,bias,!st⟩=if Puny.point N=false then .error 2 else if 256 < C then .error 3 else .ok (r,⟨Puny.ins pts (j % C).toNat N,N,j % C+1,nb,false⟩):=by
  unfold Puny.decStep;rw [hd];simp only [<-HC.out,<-HN.out,<-HNB.out]
 rw [hmn,<-hm] at hst
 rw [<-hm] at hD3
 clear hm hmn hm0 hm1
 cases hp:Puny.point N with
|false =>
  rw [hp,if_pos rfl] at hst
  have HST:=zH hst
  clear hst hd
  go_wp2
  go_ret
  exact⟨hB3,.inl ⟨2,by decide,HST.out,rfl⟩⟩
|true =>
  rw [hp,if_neg (by simp)] at hst
  by_cases hlim:256 < C
  ·rw [if_pos hlim] at hst
   have HST:=zH hst
   clear hst hd
   go_wp2
   go_ret
   exact⟨hB3,.inl ⟨3,by decide,HST.out,rfl⟩⟩
  rw [if_neg hlim] at hst
  have HST:=zH hst
  clear hst hd
  go_wp2_with fail
  have hD4:DBox w4.drew g r (Value.slice a pts.length c) N m nb true:=hD3
  have hO4:OwnI base w4.drew (Value.slice a pts.length c) pts:=hO3
  have hB4:Below base w w4.drew:=hB3.drew
  obtain⟨c0,c1,c2,c3,c4,c5⟩:=hD3.cells
  have f1:=hD3.free 1
  have f3:=hD3.free 3
  have hg4:=za_a hD3
  clear c0 c4 c5
  have hbw4:base<=w4.heap.size:=Nat.le_trans hbs hB3.size
  clear hD3 hO3 hB3
  go_region_law (go_simp;go_at_call 258;go_must (refine (zo_r base (.slice a pts.length c) pts m N w4.heap.size _ (OwnI.alloc (w:=w4.drew) hO4 _) hml (by omega) (by simp;omega) (za_b _ _ _ rfl) (fun e=>Nat.lt_irrefl _ (hO4.lt _ e).2)).mono ?_);rintro e w5 ⟨v5,rfl,hO5,hg5⟩;obtain⟨a5,k5,rfl,-⟩:=id hO5.sl;have hD5:=DBox.grown (DBox.allocd (w:=w4.drew) hD4 _) hg5 hne;have c51:=hD5.cells.2.1;have f51:=hD5.free 1)
  all_goals (
   clear c1 c2 c3 f1 f3 c51 f51
   have hne5:=hO5.ne_dbox hD5
   have hD6:=hD5.setPts (.slice a5 (Puny.ins pts m N).length k5)
   have hO6:=hO5.setBox hne5 1 (.slice a5 (Puny.ins pts m N).length k5)
   have hB5:Below base w w5:=(hB4.alloc hbw4 (.cells #[N] 3)).grown hg5 (by simp;omega) (fun k hk=>(hO4.lt k hk).1)
   have hB6:Below base w (w5.setCell (g 1) (.slice a5 (Puny.ins pts m N).length k5)):=hB5.setCell hbg _
   clear hD4 hO4 hB4 hD5 hO5 hB5 hg5
   generalize w5.setCell (g 1) (.slice a5 (Puny.ins pts m N).length k5)=w6 at *
   obtain⟨v6,hv6⟩:∃ v,v=Value.slice a5 (Puny.ins pts m N).length k5:=⟨_,rfl⟩
   rw [<-hv6] at hD6 hO6
   clear hv6 hne5
   have c3:=hD6.cells.2.2.2.1
   have f3:=hD6.free 3
   have HD7:=zH (hD6.setI (m+1));have HO7:=zH (hO6.setBox (hO6.ne_dbox hD6) 3 (.int .i64 (m+1)));have HB7:=zH (show Below base w (w6.setCell (g 3) (.int .i64 (m+1))) from hB6.setCell hbg _)
   clear hD6 hO6 hB6
   go_wp2
   go_ret
   exact⟨HB7.out,.inr ⟨r,_,v6,HST.out,rfl,HD7.out,HO7.out⟩⟩)
end Go.Proofs.YtmanejniepghlaaGreatDoor
