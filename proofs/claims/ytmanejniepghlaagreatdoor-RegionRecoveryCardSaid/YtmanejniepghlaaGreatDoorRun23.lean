import Derived.Test.YtmanejniepghlaaGreatDoorRun20
import Derived.Deep.RegionLaw
import Derived.Test.YtmanejniepghlaaGreatDoorRun19
import Derived.Test.YtmanejniepghlaaGreatDoorRun22
import Derived.Test.YtmanejniepghlaaGreatDoorRun4
namespace Go.Proofs.YtmanejniepghlaaGreatDoor
section
open Go.RowKit
theorem ze_r {w:World} {ops:Array Oper} {o:Oper} {a:Act} {K:Act->World->Prop} {Q:Exit->Act->World->Prop} {E:Prop} (hgd:o.guard=none) (s x:Operand)
 (ho:o.op=.call { callee:=.builtin .append,args:=#[s,x],argTypes:=#[42,42] }) (vs vx v':Value) (w':World) (hs:a.eval s=vs) (hx:a.eval x=vx)
 (hrun:(Builtin.append_ #[42,42] o.type #[vs,vx]).run Tryz.prog w=.ok v' w') (h:K (a.put o.dst v') w') :
 if Region.wanted o (yielded ops a.tmps)=true then Oper.wp Tryz.prog o a w K Q else E:=by
 have hw:Region.wanted o (yielded ops a.tmps)=true:=by simp [Region.wanted,hgd]
 rw [if_pos hw]
 unfold Oper.wp
 simp [execOp,ho,resolve,invoke,builtin,hs,hx,hrun,Result.andThen]
 exact h
set_option maxHeartbeats 4000000 in
set_option maxRecDepth 100000 in
theorem zo_s (base g c i m:Nat) (L:List Pin) (w:World) (h:OwnN base w (.slice g (m+1) c) L) (hL:L.length=m+1) (hi:i < m+1) (hn:m<=1000000) :
 Calls Tryz.prog 164 #[.slice g (m+1) c,i,.int .i64 ((i:Int)+1)] w
  fun e w'=>e=.returned (.slice g m c)/\OwnN base w' (.slice g m c) (L.take i ++ L.drop (i+1))/\w.grownBy w' (some g):=by
 obtain⟨i9,hi9,hz9,hzs9,-⟩:=info_parts infoPin
 have hrow:∃ cur,w.heap[g]?=some (.cells cur 34 (0,0))/\cur.size=c * 3/\m+1<=c/\cur.toList.take ((m+1) * 3)=L.flatMap pl/\c<=maxLen/\base<=g:=by
  rcases h.2 with⟨hv,-⟩|⟨g2,cap',cur,hv,hbg,hc,hnc,hcm,hcs,htk⟩
  ·cases hv
  ·rw [hL] at hv hnc htk;cases hv;exact⟨cur,hc,hcs,hnc,htk,hcm,hbg⟩
 obtain⟨cur,hcur,hcs,hnc,htk,hcm,hbg⟩:=hrow
 obtain⟨D,hD⟩:∃ D,(L.drop (i+1)).flatMap pl=D:=⟨_,rfl⟩
 have hDl:D.length=(m - i) * 3:=by rw [<-hD,za_f,List.length_drop,hL];omega
 have hDg:∀ j u,D[j]?=some u->cur[(i+1) * 3+j]?=some u:=by
  intro j u hj
  have hjl:=(List.getElem?_eq_some_iff.1 hj).1
  rw [<-hD,zc_h L (by omega),List.getElem?_drop,<-htk,List.getElem?_take_of_lt (by omega),Array.getElem?_toList] at hj
  exact hj
 have hD1:∀ v ∈ D,v.oneCell'=true:=by rw [<-hD];exact zf_f _
 obtain⟨zs,hzs⟩:∃ zs,(Builtin.zeroCells (Value.agg #[.string ⟨#[]⟩,.bool false,.int .i64 0]).cells 1).toList=zs:=⟨_,rfl⟩
 have hzl:zs.length=1 * 3:=by rw [<-hzs];exact zr_c _
 have hz1:∀ v ∈ zs,v.oneCell'=true:=by rw [<-hzs];exact zr_d _
 obtain⟨cur2,hcur2⟩:∃ cur2,(cur.toList.take (i * 3) ++ D ++ cur.toList.drop (i * 3+D.length)).toArray=cur2:=⟨_,rfl⟩
 have hs2:cur2.size=c * 3:=by rw [<-hcur2];simp only [List.size_toArray,List.length_append,List.length_take,List.length_drop,Array.length_toList];omega
 have ht2:cur2.toList.take (m * 3)=(L.take i ++ L.drop (i+1)).flatMap pl:=by
  rw [<-hcur2,List.flatMap_append,hD,zd_d L (by omega),<-htk,List.take_take,show min (i * 3) ((m+1) * 3)=i * 3 by omega]
  rw [List.toList_toArray,List.take_left' (by rw [List.length_append,List.length_take,Array.length_toList];omega)]
 have hap:∀ (a:Addr) (k:Nat) (ty:TypeId),(∀ j u,D[j]?=some u->w.drew.cell? (a.add j)=some u) →
  (Builtin.append_ #[42,42] ty #[.slice g i c,.slice (some a) (m - i) k]).run Tryz.prog w.drew=.ok (.slice g m c) (w.drew.setRow g cur2):=by
  intro a k ty hs
  have:=run_append_room (P:=Tryz.prog) w.drew 42 ty 34 i9 Tryz.underlying42 hi9 g i c cur hcur a (m - i) k D (by rw [hzs9,hDl]) hs hD1 (by omega) (by rw [hzs9,hDl];omega)
  rw [this,hzs9,hcur2,show i+(m - i)=m by omega]
 have hsrc:∀ j u,D[j]?=some u->w.drew.cell? (((g ((i+1) * 3)):Addr).add j)=some u:=by
  intro j u hj
  rw [Addr.add_lit]
  exact (cell_of_row w g _ _ _ _ hcur).trans (hDg j u hj)
 have hw1:(w.drew.setRow g cur2).heap[g]?=some (.cells cur2 34 (0,0)):=setRow_heap w.drew g cur cur2 _ _ hcur
 have hcl:∀ ty,(Builtin.clear_ #[42] ty #[.slice (g (m * 3)) 1 (c - m)]).run Tryz.prog (w.drew.setRow g cur2)=.ok (.tuple #[]) ((w.drew.setRow g cur2).setCells g (m * 3) zs):=fun ty =>
  zk_a _ _ 34 ty (Value.agg #[.string ⟨#[]⟩,.bool false,.int .i64 0]) Tryz.underlying42 (fun w=>by simp [zeroValue,typeInfo,hi9,hz9]) g (m * 3) 1 (c - m) (by omega) zs hzs
   (fun q hq=>by rw [cell_of_row _ _ _ _ _ _ hw1,Array.getElem?_eq_getElem (by omega)];rfl) (fun q hq=>frozen_of_row _ _ _ _ _ hw1) hz1
 have HFIN:=zH (show OwnN base ((w.drew.setRow g cur2).setCells g (m * 3) zs) (.slice g m c) (L.take i ++ L.drop (i+1))/\w.grownBy ((w.drew.setRow g cur2).setCells g (m * 3) zs) (some g) from by
  have hr:=za_h g 34 zs cur2 (m * 3) _ hw1
  have hl:(L.take i ++ L.drop (i+1)).length=m:=by rw [List.length_append,List.length_take,List.length_drop];omega
  have hg1:w.grownBy (w.drew.setRow g cur2) (some g):=⟨rfl,rfl,rfl,by simp,fun k _ hk=>setRow_other w.drew g k cur2 (fun e=>hk (by rw [e]))⟩
  refine⟨⟨by rw [za_f],.inr ⟨g,c,_,by rw [hl],hbg,hr,by rw [hl];omega,hcm,by rw [za_r];exact hs2,?_⟩⟩,zj_n hg1 (za_m g zs (m * 3) _)⟩
  rw [hl,za_n _ _ _ (by omega),List.append_assoc,List.take_left' (by rw [List.length_take,Array.length_toList];omega),ht2])
 have hi0:(0:Int)<=(i:Int):=by omega
 have e1:(i:Int)<=(i:Int)+1:=by omega
 have e2:(i:Int)+1<=((m+1:Nat):Int):=by omega
 have e3:((m+1:Nat):Int)<=(c:Int):=by omega
 have e4:¬ c=i:=by omega
 have e6:i<=c:=by omega
 have z1:(0:Int)<=(i:Int)+1:=by omega
 have z2:i<=m:=by omega
 have e7:(i:Int)<=(c:Int):=by omega
 have e8:(m:Int)<=(c:Int):=by omega
 have hin:(i:Int)<=((m+1:Nat):Int):=by omega
 have e5:¬ c=m:=by omega
 by_cases hci:c=i+1
 case' pos=>
  obtain rfl:i=m:=by omega
  have hD0:D=[]:=List.eq_nil_of_length_eq_zero (by rw [hDl];simp)
  have hap2:=fun ty=>hap g 0 ty (by rw [hD0];intro j u hj;cases hj)
  rw [Nat.sub_self] at hap2
  subst hci
  rw [show i+1 - i=1 by omega] at hcl
  clear hD0
 case' neg=>have hap2:=fun ty=>hap (g ((i+1) * 3)) (c - (i+1)) ty hsrc
 all_goals
  clear hap hsrc hDg hD1 hD hDl hcur2 hs2 ht2 hw1 hzs hz1 hzl hcur htk hcs h hi9 hz9 hzs9
  go_enter Tryz.func164,Tryz.ntmps164
  go_wp2_with fail
  go_region_law (refine ze_r rfl (.tmp 22) (.tmp 25) rfl _ _ _ _ (by simp [Act.eval,Act.put]) (by simp [Act.eval,Act.put]) (hap2 _) ?_)
  go_wp2_with fail
  go_ret
  exact⟨rfl,HFIN.out.1,HFIN.out.2⟩
end
section
open Go.RowKit
variable {w w':World} {v:Value} {B base g n:Nat} {c ck z:Int} {L:List Pin} {e:Ending}
theorem bcellU {W w1:World} (hb:Below W.heap.size W w1):(∀ b o,b < W.heap.size->w1.cell? (b o)=W.cell? (b o))/\(∀ b o,b < W.heap.size->w1.frozen? (b o)=W.frozen? (b o)) :=
 ⟨fun b o h=>hb.cell (p:=(b o)) h,fun b o h=>hb.frozen (p:=(b o)) h⟩
theorem cloneU (a:Option Addr) (n c:Nat) (l:List Pin) (w:World) (h:SlN w a n c l) (hn:n<=1000000) :
 Calls Tryz.prog 161 #[.slice a n c] w fun e w'=>∃ a9 c9,e=.returned (.slice a9 n c9)/\OwnN w.heap.size w' (.slice a9 n c9) l/\Below w.heap.size w w' :=
 (zh_m a n c l w h hn).mono fun e w' ⟨v,he,ho,hb⟩=>by
  obtain⟨a9,c9,hv,-,-⟩:=ho.sl
  rw [h.len] at hv
  subst hv
  exact⟨a9,c9,he,ho,hb⟩
theorem SBox.set2 (hb:SBox w B c v) (c':Int) (v':Value):SBox ((w.setCell B (c':Value)).setCell (B 1) v') B c' v' :=
 heap_setCell_same _ B 1 _ _ _ (heap_setCell_same _ B 0 _ _ _ hb)
theorem SBox.other (hb:SBox w B c v) (hne:g ≠ B) (i:Nat) (u:Value):SBox (w.setCell (g i) u) B c v :=
 (heap_setCell_other _ _ _ _ (fun e=>hne e.symm)).trans hb
theorem SBox.stay (hb:SBox w B c v) (e:w'.heap[B]?=w.heap[B]?):SBox w' B c v:=e.trans hb
theorem OwnN.set {l:List Pin} (h:OwnN base w v l) (hne:v.ownBlock ≠ some g) (i:Nat) (u:Value):OwnN base (w.setCell (g i) u) v l :=
 h.stay fun k hk=>heap_setCell_other _ _ _ _ (fun e=>hne (by rw [hk,e]))
theorem OwnN.slN {a:Option Addr} {c:Nat} (h:OwnN base w (.slice a n c) L):SlN w a n c L:=by
 obtain⟨a',c',hv,hs,-⟩:=h.sl
 cases hv
 exact hs
theorem OwnN.ready3 {c:Nat} (h:OwnN base w (.slice g n c) L) {k:Nat} (hk:k < n) :
 (∃ u,w.cell? (g (k * 3))=some u)/\(∃ u,w.cell? (g (k * 3+1))=some u)/\(∃ u,w.cell? (g (k * 3+2))=some u)/\(∀ j,w.frozen? (g j)=false)/\g < w.heap.size/\base<=g/\n<=c/\c<=maxLen:=by
 rcases h.2 with⟨hv,-⟩|⟨g2,cap,cur,hv,hb,hc,hnc,hcm,hcs,-⟩
 ·cases hv
 ·cases hv
  have hcl:∀ j,j < 3->∃ u,w.cell? (g (k * 3+j))=some u:=fun j hj=>by
   rw [cell_of_row _ _ _ _ _ _ hc,Array.getElem?_eq_getElem (by omega)];exact⟨_,rfl⟩
  exact⟨hcl 0 (by omega),hcl 1 (by omega),hcl 2 (by omega),fun j=>frozen_of_row _ _ _ _ _ hc,za_a hc,hb,hnc,hcm⟩
def UApP (ck:Int) (L:List Pin) (z:Int) (w:World) (e:Ending) (w':World):Prop:=∃ v,e=.returned (.tuple #[sv (Upt.ack ck z) v,z])/\OwnN w.heap.size w' v L/\Ext w w'
theorem UApP.bad (hz:z ≠ 0) (he:e=.returned (.tuple #[.agg #[.int .i64 0,.slice none 0 0],z])) (hb:Ext w w'):UApP ck [] z w e w' :=
 ⟨.slice none 0 0,by rw [he];unfold sv Upt.ack;rw [if_neg hz],OwnN.nil _ _,hb⟩
theorem UApP.of {L':List Pin} {u:UpdV} {cap:Int} (h:Upt.apply ck L u cap=(L',z)) (hp:UApP ck L' z w e w'):UApP ck (Upt.apply ck L u cap).1 (Upt.apply ck L u cap).2 w e w':=by rw [h];exact hp
theorem UApP.good (he:e=.returned (.tuple #[.agg #[ck,v],.int .i64 0])) (ho:OwnN w.heap.size w' v L) (hb:Ext w w'):UApP ck L 0 w e w' :=
 ⟨v,by rw [he];unfold sv Upt.ack;rw [if_pos rfl],ho,hb⟩
set_option maxRecDepth 100000 in
set_option maxHeartbeats 16000000 in
theorem zq_y (ck:Int) (a:Option Addr) (n c:Nat) (L:List Pin) (u:UpdV) (cap:Int) (w:World) (h:SlN w a n c L) (hn:n<=100000) (hL:∀ p ∈ L,p.h.length<=1000000) (hu:u.p.h.length<=1000000) :
 Calls Tryz.prog 116 #[.agg #[ck,.slice a n c],uv u,cap] w (UApP ck (Upt.apply ck L u cap).1 (Upt.apply ck L u cap).2 w):=by
 have hb0:=(Below.refl w.heap.size w).alloc (zN _) (.cells #[ck,.slice a n c] 44)
 have hS0:=SBox.new w ck (.slice a n c)
 have hz0:(w.alloc (.cells #[ck,.slice a n c] 44)).heap.size=w.heap.size+1:=by simp
 have HE0:∀ o,Ext (w.alloc (.cells #[ck,.slice a n c] 44)) ((w.alloc (.cells #[ck,.slice a n c] 44)).alloc o):=fun o=>(Ext.refl _).alloc o
 have hU0:=UBox.new (w.alloc (.cells #[ck,.slice a n c] 44)) u.k (str u.p.h) u.p.s u.p.x
 have hb1:=hb0.alloc hb0.size (.cells #[u.k,.string (str u.p.h),.bool u.p.s,u.p.x] 36)
 have hS1:=hS0.ext (HE0 (.cells #[u.k,.string (str u.p.h),.bool u.p.s,u.p.x] 36))
 rw [hz0] at hU0
 have hz1:((w.alloc (.cells #[ck,.slice a n c] 44)).alloc (.cells #[u.k,.string (str u.p.h),.bool u.p.s,u.p.x] 36)).heap.size=w.heap.size+2:=by simp
 have hR0:=SBox.new ((w.alloc (.cells #[ck,.slice a n c] 44)).alloc (.cells #[u.k,.string (str u.p.h),.bool u.p.s,u.p.x] 36)) 0 (.slice none 0 0)
 rw [hz1] at hR0
 have hE1:Ext ((w.alloc (.cells #[ck,.slice a n c] 44)).alloc (.cells #[u.k,.string (str u.p.h),.bool u.p.s,u.p.x] 36)) _:=(Ext.refl _).alloc (.cells #[.int .i64 0,.slice none 0 0] 44)
 have hb2:=hb1.alloc hb1.size (.cells #[.int .i64 0,.slice none 0 0] 44)
 have hS2:=hS1.ext hE1
 have hU2:=hU0.ext hE1
 have hz2:(((w.alloc (.cells #[ck,.slice a n c] 44)).alloc (.cells #[u.k,.string (str u.p.h),.bool u.p.s,u.p.x] 36)).alloc (.cells #[.int .i64 0,.slice none 0 0] 44)).heap.size=w.heap.size+3:=by simp
 have hs2:=h.ext hb2
 have HVS:=zH (fun W (hs:SlN W a n c L)=>zc_e ck a n c L W hs hL)
 have HV:=zH (fun W=>zd_n true u hu W)
 obtain⟨sb,hsb⟩:∃ b,Upt.stValid ck L=b:=⟨_,rfl⟩
 obtain⟨vb,hvb⟩:∃ b,Upt.valid u=b:=⟨_,rfl⟩
 rw [hsb] at HVS
 rw [hvb] at HV
 have HSB:=zH hsb
 have HVB:=zH hvb
 have HLN:=zH h.len
 have HL:=zH hL
 have HUL:=zH hu
 unfold uv uc at HV
 unfold uv uc
 obtain⟨sh,hsh⟩:∃ s,str u.p.h=s:=⟨_,rfl⟩
 obtain⟨ps,hps⟩:∃ s,u.p.s=s:=⟨_,rfl⟩
 obtain⟨px,hpx⟩:∃ s,u.p.x=s:=⟨_,rfl⟩
 obtain⟨k,hk⟩:∃ s,u.k=s:=⟨_,rfl⟩
 rw [hsh,hps,hpx,hk] at HV hb2 hS2 hU2 hR0 hz2 hs2
 rw [hsh,hps,hpx,hk]
 obtain⟨W3,hW3⟩:∃ W3,((w.alloc (.cells #[ck,.slice a n c] 44)).alloc (.cells #[k,.string sh,.bool ps,px] 36)).alloc (.cells #[.int .i64 0,.slice none 0 0] 44)=W3:=⟨_,rfl⟩
 rw [hW3] at hb2 hS2 hU2 hR0 hz2 hs2
 have HW3:=zH hW3
 have HB3:=zH hb2
 have HS3:=zH hS2
 have HU3:=zH hU2
 have HR3:=zH hR0
 have HZ3:=zH hz2
 have HSL:=zH hs2
 have HP:=zH (And.intro hsh (And.intro hps (And.intro hpx hk)))
 clear hsh hps hpx hk hW3 hb0 hb1 hb2 hS0 hS1 hS2 hU0 hU2 hR0 hz0 hz1 hz2 hs2 HE0 hE1 hsb hvb h hL hu
 have HCL:=zH (show ∀ W,Ext W3 W->SBox W w.heap.size ck (.slice a n c)/\UBox W (w.heap.size+1) k sh ps px/\SBox W (w.heap.size+2) 0 (.slice none 0 0) from fun W e=>⟨HS3.out.ext e,HU3.out.ext e,HR3.out.ext e⟩)
 cases sb with
|false =>
  have HR:=zH (Upt.apply_bad (c:=ck) (L:=L) (u:=u) (cap:=cap) (.inl HSB.out))
  go_enter Tryz.func116,Tryz.ntmps116
  go_wp2_with fail
  rw [HW3.out]
  refine (HVS.out _ HSL.out).mono ?_;rintro e w4 ⟨rfl,hB4⟩
  obtain⟨hs,hu,hr⟩:=HCL.out _ hB4
  obtain⟨⟨s0,s1⟩,-,ls⟩:=hs.al
  obtain⟨⟨u0,u1,u2,u3⟩,-,lu⟩:=hu.al
  obtain⟨⟨r0,r1⟩,fr,lr⟩:=hr.al
  have HR9:=zH hr
  clear hs hu hr
  go_wp2_with fail
  refine ret2 rfl rfl ((HR9.out).set2 0 (.slice none 0 0)) rfl rfl (UApP.of HR.out (UApP.bad (by decide) rfl ?_))
  exact ((HB3.out.trans (Below.mono hB4 HB3.out.size)).setCell (p:=(w.heap.size+2:Nat)) (Nat.le_add_right _ _) _).setCell (p:=((w.heap.size+2) 1)) (Nat.le_add_right _ _) _
|true =>
  cases vb with
 |false =>
   have HR:=zH (Upt.apply_bad (c:=ck) (L:=L) (u:=u) (cap:=cap) (.inr HVB.out))
   go_enter Tryz.func116,Tryz.ntmps116
   go_wp2_with fail
   rw [HW3.out]
   refine (HVS.out _ HSL.out).mono ?_;rintro e w4 ⟨rfl,hB4⟩
   obtain⟨hs,hu,hr⟩:=HCL.out _ hB4
   obtain⟨⟨s0,s1⟩,-,ls⟩:=hs.al
   obtain⟨⟨u0,u1,u2,u3⟩,-,lu⟩:=hu.al
   obtain⟨⟨r0,r1⟩,fr,lr⟩:=hr.al
   clear hs hu hr
   go_wp2_with fail
   refine (HV.out _).mono ?_;rintro e w5 ⟨rfl,hB5⟩
   have hB45:Ext W3 w5:=Ext.step hB5 hB4
   clear s0 s1 u0 u1 u2 u3 r0 r1 fr ls lu lr
   obtain⟨hs,hu,hr⟩:=HCL.out _ hB45
   obtain⟨⟨s0,s1⟩,-,ls⟩:=hs.al
   obtain⟨⟨u0,u1,u2,u3⟩,-,lu⟩:=hu.al
   obtain⟨⟨r0,r1⟩,fr,lr⟩:=hr.al
   have HR9:=zH hr
   clear hs hu hr
   go_wp2_with fail
   refine ret2 rfl rfl ((HR9.out).set2 0 (.slice none 0 0)) rfl rfl (UApP.of HR.out (UApP.bad (by decide) rfl ?_))
   exact ((HB3.out.trans (Below.mono hB45 HB3.out.size)).setCell (p:=(w.heap.size+2:Nat)) (Nat.le_add_right _ _) _).setCell (p:=((w.heap.size+2) 1)) (Nat.le_add_right _ _) _
 |true =>
   go_enter Tryz.func116,Tryz.ntmps116
   go_wp2_with fail
   rw [HW3.out]
   refine (HVS.out _ HSL.out).mono ?_;rintro e w4 ⟨rfl,hB4⟩
   obtain⟨hs,hu,hr⟩:=HCL.out _ hB4
   obtain⟨⟨s0,s1⟩,-,ls⟩:=hs.al
   obtain⟨⟨u0,u1,u2,u3⟩,-,lu⟩:=hu.al
   obtain⟨⟨r0,r1⟩,fr,lr⟩:=hr.al
   clear hs hu hr
   go_wp2_with fail
   refine (HV.out _).mono ?_;rintro e w5 ⟨rfl,hB5⟩
   have hB45:Ext W3 w5:=Ext.step hB5 hB4
   clear s0 s1 u0 u1 u2 u3 r0 r1 fr ls lu lr
   obtain⟨hs,hu,hr⟩:=HCL.out _ hB45
   obtain⟨⟨s0,s1⟩,-,ls⟩:=hs.al
   obtain⟨⟨u0,u1,u2,u3⟩,-,lu⟩:=hu.al
   obtain⟨⟨r0,r1⟩,fr,lr⟩:=hr.al
   clear hs hu hr
   have hz5:W3.heap.size<=w5.heap.size:=hB45.size
   have HKP:=zH (show ∀ W,Ext W3 W->Ext W3 W/\W.cell? w.heap.size=some (ck:Value)/\W.cell? (w.heap.size 1)=some (.slice a n c)/\w.heap.size < W.heap.size from fun W e=>⟨e,(HCL.out W e).1.cells.1,(HCL.out W e).1.cells.2,za_a (HCL.out W e).1⟩)
   have HST:=zH (show ∀ W (p:Addr) u,Ext W3 W->W3.heap.size<=p.block->Ext W3 (W.setCell p u) from fun W p u e hp=>Below.setCell e hp u)
   have HCLN:=zH (fun W (e:Ext W3 W)=>cloneU a n c L W (HSL.out.ext e) (by omega))
   go_wp2_with fail
   go_region_held3 (fun w'=>Ext W3 w'/\w'.cell? w.heap.size=some (ck:Value)/\w'.cell? (w.heap.size 1)=some (.slice a n c)/\w.heap.size < w'.heap.size) (first|assumption|exact HKP.out _ hE1|exact HKP.out _ (Ext.drew (by assumption))|exact HKP.out _ (Ext.step (by assumption) (And.left (by assumption)))|exact HKP.out _ (Ext.alloc (And.left (by assumption)) _)|exact HKP.out _ (Ext.alloc hE1 _)|exact HKP.out _ (HST.out _ _ _ (HST.out _ _ _ hE1 hz5) hz5)) (first|(go_at_call 161;go_must (refine (HCLN.out _ (And.left (by assumption))).mono ?_);rintro e u1 ⟨a9,c9,rfl,ho,hb1⟩;obtain⟨hc,hf⟩:=bcellU hb1;have hE1:Ext W3 u1:=Ext.step hb1 (And.left (by assumption))))
   all_goals
    rename_i hHeld0;clear hHeld0
   case' _=>
    have hO:=(ho.mono (b':=w.heap.size+3) (by have:=HZ3.out;have:=hz5;exact Nat.le_trans (by omega) (show w5.heap.size<=w5.drew.heap.size from zN _))).alloc (.cells #[ck,.slice a9 n c9] 44)
    have hSO:=SBox.new u1 ck (.slice a9 n c9)
    have hEX:Ext W3 (u1.alloc (.cells #[ck,.slice a9 n c9] 44)):=hE1.alloc _
    have hgw:w.heap.size+3<=u1.heap.size:=by have:=HZ3.out;have:=hE1.size;omega
    have hne:(Value.slice a9 n c9).ownBlock ≠ some u1.heap.size:=fun e=>by have:=(ho.lt _ e).2;omega
    obtain⟨WF,hWF⟩:∃ WF,u1.alloc (.cells #[ck,.slice a9 n c9] 44)=WF:=⟨_,rfl⟩
    obtain⟨g,hg⟩:∃ g,u1.heap.size=g:=⟨_,rfl⟩
   rotate_left
   case' _=>
    have hZ0:=SBox.new w5 0 (.slice none 0 0)
    have hzd:(w5.alloc (.cells #[.int .i64 0,.slice none 0 0] 44)).drew.heap.size=w5.heap.size+1:=by simp
    have hZ1:SBox u1 w5.heap.size 0 (.slice none 0 0):=(hb1.block _ (by rw [hzd];exact Nat.lt_succ_self _)).trans hZ0
    have hgw:w.heap.size+3<=w5.heap.size:=by have:=HZ3.out;have:=hz5;omega
    have hne:(Value.slice a9 n c9).ownBlock ≠ some w5.heap.size:=fun e=>by have:=(ho.lt _ e).1;rw [hzd] at this;omega
    have hO:=((ho.mono (b':=w.heap.size+3) (by rw [hzd];omega)).set hne 0 (ck:Value)).set hne 1 (.slice a9 n c9)
    have hSO:=hZ1.set2 ck (.slice a9 n c9)
    have hEX:Ext W3 ((u1.setCell w5.heap.size (ck:Value)).setCell (w5.heap.size 1) (.slice a9 n c9)):=HST.out _ _ _ (HST.out _ _ _ hE1 hz5) hz5
    obtain⟨WF,hWF⟩:∃ WF,(u1.setCell w5.heap.size (ck:Value)).setCell (w5.heap.size 1) (.slice a9 n c9)=WF:=⟨_,rfl⟩
    obtain⟨g,hg⟩:∃ g,w5.heap.size=g:=⟨_,rfl⟩
   all_goals
    rw [hWF] at hO hSO hEX
    rw [hg] at hSO hgw hne
    rw [hWF,hg]
    clear hWF hg ho hb1 hc hf hE1 hB4 hB5 hB45 hz5 s0 s1 u0 u2 u3 r0 r1 fr ls lu lr HKP HCLN
    have hBW:Below w.heap.size w WF:=HB3.out.trans (Below.mono hEX HB3.out.size)
    have HBS:=zH (fun W (hs:SlN W a9 n c9 L)=>zm_j a9 n c9 L u.p.h W hs (by omega) ((Upt.stValid_iff ck L).1 HSB.out).2.2.2.2 HL.out HUL.out)
    rw [HP.out.1] at HBS
    have HLO:=zH (Tab.lo_le L u.p.h)
    have HLT:=zH (show Tab.hit L u.p.h=true->Tab.lo L u.p.h < L.length from fun e=>Tab.lo_lt ((Upt.stValid_iff ck L).1 HSB.out).2.2.2.2 e)
    obtain⟨i,hi⟩:∃ i,Tab.lo L u.p.h=i:=⟨_,rfl⟩
    obtain⟨hit,hhit⟩:∃ b,Tab.hit L u.p.h=b:=⟨_,rfl⟩
    rw [hi,hhit] at HBS
    rw [hi] at HLO
    rw [hi,hhit] at HLT
    have HI:=zH hi
    have HHIT:=zH hhit
    clear hi hhit
    obtain⟨hs,hu,hr⟩:=HCL.out _ hEX
    obtain⟨⟨s0,s1⟩,-,ls⟩:=hs.al
    obtain⟨⟨u0,u1',u2,u3⟩,-,lu⟩:=hu.al
    obtain⟨⟨r0,r1⟩,fr,lr⟩:=hr.al
    obtain⟨⟨o0,o1⟩,fo,lo⟩:=hSO.al
    have HSLF:=zH hO.slN
    have HO:=zH hO
    have HSO:=zH hSO
    have HBW:=zH hBW
    have HEX:=zH hEX
    clear hs hu hr hO hSO hBW hEX
    go_wp2_with fail
    refine (HBS.out _ HSLF.out).mono ?_;rintro e w6 ⟨rfl,hB6⟩
    have hEX6:Ext W3 w6:=HEX.out.trans (hB6.mono HEX.out.size)
    have hBW6:Below w.heap.size w w6:=HBW.out.trans (hB6.mono HBW.out.size)
    have hO6:=HO.out.ext hB6
    have hSO6:=HSO.out.ext hB6
    clear s0 s1 u0 u1' u2 u3 r0 r1 fr ls lu lr o0 o1 fo lo
    obtain⟨hs,hu,hr⟩:=HCL.out _ hEX6
    obtain⟨⟨s0,s1⟩,-,ls⟩:=hs.al
    obtain⟨⟨u0,u1',u2,u3⟩,-,lu⟩:=hu.al
    obtain⟨⟨r0,r1⟩,fr,lr⟩:=hr.al
    obtain⟨⟨o0,o1⟩,fo,lo⟩:=hSO6.al
    have HR6:=zH hr
    have HU6:=zH hu
    have HO6:=zH hO6
    have HSO6:=zH hSO6
    have HBW6:=zH hBW6
    have HEX6:=zH hEX6
    clear hs hu hr hO6 hSO6 hBW6 hEX6 hB6
    have ni:(0:Int)<=(i:Int):=by omega
    rcases Upt.kind_of HVB.out with hk|hk
    ·have hk1:=HP.out.2.2.2.symm.trans hk
     subst hk1
     cases hit with
    |true =>
      have hin:i < n:=by have:=HLT.out rfl;rw [HLN.out] at this;exact this
      have hR0:=Upt.apply_hit (cap:=cap) HSB.out HVB.out hk HHIT.out
      rw [HI.out] at hR0
      have HR:=zH hR0
      clear hR0
      have i1:(i:Int) < (n:Int):=by omega
      obtain⟨gp,rfl⟩:∃ gp,a9=.some (gp:Nat):=by
       rcases HO6.out.2 with⟨hv,h0⟩|⟨gp,cap',cur,hv,-⟩
       ·have:=HLN.out;omega
       ·injection hv with h1 _ _;exact⟨gp,h1⟩
      have hgp:gp ≠ g:=fun e=>hne (by rw [<-e];rfl)
      have hgp1:w.heap.size+3<=gp:=(HO6.out.lt gp rfl).1
      obtain⟨⟨x0,e0⟩,⟨x1,e1⟩,⟨x2,e2⟩,fz,hltg,-,hnc,-⟩:=HO6.out.ready3 hin
      have hset:=HO6.out.set3 (i:=i) (by rw [HLN.out];exact hin) u.p
      rw [HP.out.1,HP.out.2.1,HP.out.2.2.1] at hset
      have hSR:=((HR6.out.other (g:=gp) (by omega) (i * 3) (.string sh)).other (g:=gp) (by omega) (i * 3+1) (.bool ps)).other (g:=gp) (by omega) (i * 3+2) (px:Value)
      have hEE:=((HBW6.out.setCell (p:=(gp (i * 3))) (by simp only;omega) (.string sh)).setCell (p:=(gp (i * 3+1))) (by simp only;omega) (.bool ps)).setCell (p:=(gp (i * 3+2))) (by simp only;omega) (px:Value)
      have HSET2:=zH hset
      have HSR:=zH hSR
      have HEE:=zH hEE
      clear hset hSR hEE hk
      go_wp2_with fail
      refine ret2 rfl rfl ((HSR.out).set2 ck (.slice gp n c9)) rfl rfl (UApP.of HR.out (UApP.good rfl ?_ ?_))
      ·exact ((HSET2.out).set (fun e=>by have:=(HSET2.out.lt _ e).1;omega) 0 (ck:Value)).set (fun e=>by have:=(HSET2.out.lt _ e).1;omega) 1 (.slice gp n c9) |>.mono (Nat.le_add_right _ _)
      ·exact ((HEE.out).setCell (p:=(w.heap.size+2:Nat)) (Nat.le_add_right _ _) (ck:Value)).setCell (p:=((w.heap.size+2) 1)) (Nat.le_add_right _ _) (.slice gp n c9)
    |false =>
      by_cases hmm:min cap 1000<=(n:Int)
      ·have HR:=zH (Upt.apply_full (cap:=cap) HSB.out HVB.out hk HHIT.out (by rw [HLN.out];exact hmm))
       have hm2:(if 1000 < cap then 1000 else cap)<=(n:Int):=by split <;> omega
       have hm3:decide ((if 1000 < cap then 1000 else cap)<=(n:Int))=true:=decide_eq_true hm2
       clear hk hmm
       go_wp2_with fail
       refine ret2 rfl rfl ((HR6.out).set2 0 (.slice none 0 0)) rfl rfl (UApP.of HR.out (UApP.bad (by decide) rfl ?_))
       exact below2 HBW6.out (by omega)
      ·have HR:=zH (Upt.apply_ins (cap:=cap) HSB.out HVB.out hk HHIT.out (by rw [HLN.out];exact hmm))
       have hm2:¬ (if 1000 < cap then 1000 else cap)<=(n:Int):=by split <;> omega
       have hm3:decide ((if 1000 < cap then 1000 else cap)<=(n:Int))=false:=decide_eq_false hm2
       have hex:Below w6.heap.size w6 (w6.alloc (.cells #[.string sh,.bool ps,px] 34)):=(Below.refl _ _).alloc (zN _) _
       have hne3:(Value.slice a9 n c9).ownBlock ≠ some w6.heap.size:=fun e=>by have:=(HO6.out.lt _ e).2;omega
       have hI:=zp_w (w.heap.size+3) (.slice a9 n c9) L i u.p w6.heap.size (w6.alloc (.cells #[.string sh,.bool ps,px] 34)) (HO6.out.ext hex) HLO.out (by have:=HLN.out;omega) (by simp;have:=HSO6.out;have:=za_a this;omega) (by rw [HP.out.1,HP.out.2.1,HP.out.2.2.1];exact za_b w6 _ _ rfl) hne3
       have hSO7:=HSO6.out.ext hex
       have hR7:=HR6.out.ext hex
       have hB7:=HBW6.out.trans (hex.mono HBW6.out.size)
       obtain⟨W7,hW7⟩:∃ W7,w6.alloc (.cells #[.string sh,.bool ps,px] 34)=W7:=⟨_,rfl⟩
       rw [hW7] at hI hSO7 hR7 hB7
       have HW7:=zH hW7
       have HI7:=zH hI
       have HSO7:=zH hSO7
       have HR7:=zH hR7
       have HB7:=zH hB7
       clear hk hmm hW7 hI hSO7 hR7 hB7 hex hne3
       go_wp2_with fail
       rw [HW7.out]
       refine HI7.out.mono ?_;rintro e w8 ⟨v8,rfl,hO8,hg8,hw8⟩
       have hSO8:SBox w8 g ck (.slice a9 n c9):=HSO7.out.stay (hg8.block _ (za_a HSO7.out) (fun e=>hne e.symm))
       have hR8:SBox w8 (w.heap.size+2) 0 (.slice none 0 0):=HR7.out.stay (hg8.block _ (za_a HR7.out) (fun e=>by have:=(HO6.out.lt _ e.symm).1;omega))
       have hB8:Below w.heap.size w w8:=HB7.out.grown hg8 HB7.out.size (fun k hk=>by have:=(HO6.out.lt k hk).1;omega)
       have hne8:v8.ownBlock ≠ some g:=fun e=>by
        rcases hw8 _ e with h1|h1
        ·exact hne h1
        ·have:=za_a HSO7.out;omega
       clear s0 s1 u0 u1' u2 u3 r0 r1 fr ls lu lr o0 o1 fo lo
       obtain⟨⟨r0,r1⟩,fr,lr⟩:=hR8.al
       obtain⟨⟨o0,o1⟩,fo,lo⟩:=hSO8.al
       have gne:g ≠ w.heap.size+2:=by omega
       obtain⟨a8,c8,hv8,-,-⟩:=hO8.sl
       obtain⟨n8,hn8⟩:∃ n8,(L.take i ++ u.p :: L.drop i).length=n8:=⟨_,rfl⟩
       rw [hn8] at hv8
       subst hv8
       have HSR:=zH (hR8.other gne 1 (.slice a8 n8 c8))
       have HO9:=zH (hO8.set hne8 1 (.slice a8 n8 c8))
       have HE9:=zH (hB8.setCell (p:=(g 1)) (by simp only;omega) (.slice a8 n8 c8))
       rw [<-HI.out] at HO9
       clear hR8 hSO8 hO8 hB8 hne8 hn8
       go_wp2_with fail
       refine ret2 rfl rfl ((HSR.out).set2 ck (.slice a8 n8 c8)) rfl rfl (UApP.of HR.out (UApP.good rfl ?_ ?_))
       ·exact ((HO9.out).set (fun e=>by have:=(HO9.out.lt _ e).1;omega) 0 (ck:Value)).set (fun e=>by have:=(HO9.out.lt _ e).1;omega) 1 (.slice a8 n8 c8) |>.mono (Nat.le_add_right _ _)
       ·exact ((HE9.out).setCell (p:=(w.heap.size+2:Nat)) (Nat.le_add_right _ _) (ck:Value)).setCell (p:=((w.heap.size+2) 1)) (Nat.le_add_right _ _) (.slice a8 n8 c8)
    ·have hk1:=HP.out.2.2.2.symm.trans hk
     subst hk1
     cases hit with
    |true =>
      have HR:=zH (Upt.apply_rem (cap:=cap) HSB.out HVB.out hk)
      obtain⟨m,rfl⟩:∃ m,n=m+1:=⟨n - 1,by have:=HLT.out rfl;rw [HLN.out] at this;omega⟩
      have hin:i < m+1:=by have:=HLT.out rfl;rw [HLN.out] at this;exact this
      have i1:(i:Int)+1<=(m:Int)+1:=by omega
      obtain⟨gp,rfl⟩:∃ gp,a9=.some (gp:Nat):=by
       rcases HO6.out.2 with⟨hv,h0⟩|⟨gp,cap',cur,hv,-⟩
       ·have:=HLN.out;omega
       ·injection hv with h1 _ _;exact⟨gp,h1⟩
      have hgp:gp ≠ g:=fun e=>hne (by rw [<-e];rfl)
      have hgp1:w.heap.size+3<=gp:=(HO6.out.lt gp rfl).1
      have HD:=zH (zo_s (w.heap.size+3) gp c9 i m L w6 HO6.out HLN.out hin (by omega))
      clear hk
      go_wp2_with fail
      refine HD.out.mono ?_;rintro e w8 ⟨rfl,hO8,hg8⟩
      have hSO8:SBox w8 g ck (.slice gp (m+1) c9):=HSO6.out.stay (hg8.block _ (za_a HSO6.out) (fun e=>hgp (Option.some.inj e.symm)))
      have hR8:SBox w8 (w.heap.size+2) 0 (.slice none 0 0):=HR6.out.stay (hg8.block _ (za_a HR6.out) (fun e=>by have:=Option.some.inj e;omega))
      have hB8:Below w.heap.size w w8:=HBW6.out.grown hg8 HBW6.out.size (fun k hk=>by have:=Option.some.inj hk;omega)
      clear s0 s1 u0 u1' u2 u3 r0 r1 fr ls lu lr o0 o1 fo lo
      obtain⟨⟨r0,r1⟩,fr,lr⟩:=hR8.al
      obtain⟨⟨o0,o1⟩,fo,lo⟩:=hSO8.al
      have gne:g ≠ w.heap.size+2:=by omega
      have HSR:=zH (hR8.other gne 1 (.slice gp m c9))
      have HO9:=zH (hO8.set (g:=g) (fun e=>hgp (Option.some.inj e)) 1 (.slice gp m c9))
      have HE9:=zH (hB8.setCell (p:=(g 1)) (by simp only;omega) (.slice gp m c9))
      have hrem:(Tab.remove L u.p.h).1=L.take i ++ L.drop (i+1):=by unfold Tab.remove;rw [HHIT.out,HI.out];rfl
      have HR:=zH (HR.out.trans (show ((Tab.remove L u.p.h).1,(0:Int))=(L.take i ++ L.drop (i+1),0) by rw [hrem]))
      clear hR8 hSO8 hO8 hB8 hrem
      go_wp2_with fail
      refine ret2 rfl rfl ((HSR.out).set2 ck (.slice gp m c9)) rfl rfl (UApP.of HR.out (UApP.good rfl ?_ ?_))
      ·exact ((HO9.out).set (fun e=>by have:=(HO9.out.lt _ e).1;omega) 0 (ck:Value)).set (fun e=>by have:=(HO9.out.lt _ e).1;omega) 1 (.slice gp m c9) |>.mono (Nat.le_add_right _ _)
      ·exact ((HE9.out).setCell (p:=(w.heap.size+2:Nat)) (Nat.le_add_right _ _) (ck:Value)).setCell (p:=((w.heap.size+2) 1)) (Nat.le_add_right _ _) (.slice gp m c9)
    |false =>
      have HR:=zH (Upt.apply_rem (cap:=cap) HSB.out HVB.out hk)
      have hrem:(Tab.remove L u.p.h).1=L:=by unfold Tab.remove;rw [HHIT.out];rfl
      have HR:=zH (HR.out.trans (show ((Tab.remove L u.p.h).1,(0:Int))=(L,0) by rw [hrem]))
      clear hk hrem
      go_wp2_with fail
      refine ret2 rfl rfl ((HR6.out).set2 ck (.slice a9 n c9)) rfl rfl (UApP.of HR.out (UApP.good rfl ?_ ?_))
      ·exact ((HO6.out).set (fun e=>by have:=(HO6.out.lt _ e).1;omega) 0 (ck:Value)).set (fun e=>by have:=(HO6.out.lt _ e).1;omega) 1 (.slice a9 n c9) |>.mono (Nat.le_add_right _ _)
      ·exact ((HBW6.out).setCell (p:=(w.heap.size+2:Nat)) (Nat.le_add_right _ _) (ck:Value)).setCell (p:=((w.heap.size+2) 1)) (Nat.le_add_right _ _) (.slice a9 n c9)
end
section
open Go.RowKit
variable {w w':World} {cap ck z:Int} {e:Ending} {L L' L0:List Pin} {a a0:Option Addr} {c n:Nat} {u:UpdV}
def RUApN (a0:Option Addr) (L0:List Pin) (ck:Int) (L:List Pin) (z:Int) (w:World) (e:Ending) (w':World):Prop:=∃ a c,e=.returned (.tuple #[sv (Upt.ack ck z) (.slice a L.length c),z])/\SlN w' a L.length c L/\Ext w w'/\∀ x,a=some x->w.heap.size<=x.block\/(a=a0/\L=L0)
theorem RUApN.bad (hz:z ≠ 0) (he:e=.returned (.tuple #[.agg #[.int .i64 0,.slice none 0 0],z])) (hb:Ext w w'):RUApN a0 L0 ck [] z w e w' :=
 ⟨none,0,by rw [he];unfold sv Upt.ack;rw [if_neg hz];rfl,SlN.nil _,hb,fun x hx=>by cases hx⟩
theorem RUApN.of (h:Upt.apply ck L u cap=(L',z)) (hp:RUApN a0 L0 ck L' z w e w'):RUApN a0 L0 ck (Upt.apply ck L u cap).1 (Upt.apply ck L u cap).2 w e w':=by rw [h];exact hp
theorem RUApN.good (hn:L.length=n) (he:e=.returned (.tuple #[.agg #[ck,.slice a n c],.int .i64 0])) (ho:SlN w' a n c L) (hb:Ext w w') (hx:∀ x,a=some x->w.heap.size<=x.block\/(a=a0/\L=L0)):RUApN a0 L0 ck L 0 w e w':=by
 subst hn
 exact⟨a,c,by rw [he];unfold sv Upt.ack;rw [if_pos rfl],ho,hb,hx⟩
theorem SlN.setOld (h:SlN w a n c L) {g:Nat} (hne:∀ x,a=some x->L ≠ []->x.block ≠ g) (i:Nat) (u:Value):SlN (w.setCell (g i) u) a n c L :=
 h.stay (fun x hx hl=>heap_setCell_other _ _ _ _ (hne x hx hl)) (by simp)
theorem SlN.setOldR (h:SlN w a n c L) {B:Nat} {x:Int} {v:Value} (hr:SBox w B x v) (i j:Nat) (p q:Value):SlN ((w.setCell (B i) p).setCell (B j) q) a n c L:=by
 have key:∀ y,a=some y->L ≠ []->y.block ≠ B:=by
  intro y hy hl e
  obtain⟨l,hl'⟩:∃ l,L=l:=⟨_,rfl⟩
  cases L with
 |nil=>exact hl rfl
 |cons p0 L0 =>
   obtain⟨hsp,hb,hp⟩:=h.2.2.2.2 y hy 0 (by simp)
   obtain⟨yb,yo,ys⟩:=y
   simp only at e hsp hp
   subst e
   have h0:=hp.1
   have h1:=hp.2.1
   have h2:=hp.2.2
   rw [cell_of_row _ _ _ _ _ _ hr] at h0 h1 h2
   have hb0:yo+0 * 3 < 2:=by
    have:=(Array.getElem?_eq_some_iff.1 h0).1;simpa using this
   have hb2:=(Array.getElem?_eq_some_iff.1 h2).1
   simp at hb2
   omega
 exact (h.setOld key i p).setOld key j q
set_option maxRecDepth 100000 in
set_option maxHeartbeats 16000000 in
theorem ze_m (ck:Int) (a:Option Addr) (n c:Nat) (L:List Pin) (u:UpdV) (cap:Int) (w:World) (h:SlN w a n c L) (hn:n<=100000) (hL:∀ p ∈ L,p.h.length<=1000000) (hu:u.p.h.length<=1000000) :
 Calls Tryz.prog 14 #[.agg #[ck,.slice a n c],uv u,cap] w (RUApN a L ck (Upt.apply ck L u cap).1 (Upt.apply ck L u cap).2 w):=by
 have hb0:=(Below.refl w.heap.size w).alloc (zN _) (.cells #[ck,.slice a n c] 44)
 have hS0:=SBox.new w ck (.slice a n c)
 have hz0:(w.alloc (.cells #[ck,.slice a n c] 44)).heap.size=w.heap.size+1:=by simp
 have HE0:∀ o,Ext (w.alloc (.cells #[ck,.slice a n c] 44)) ((w.alloc (.cells #[ck,.slice a n c] 44)).alloc o):=fun o=>(Ext.refl _).alloc o
 have hU0:=UBox.new (w.alloc (.cells #[ck,.slice a n c] 44)) u.k (str u.p.h) u.p.s u.p.x
 have hb1:=hb0.alloc hb0.size (.cells #[u.k,.string (str u.p.h),.bool u.p.s,u.p.x] 36)
 have hS1:=hS0.ext (HE0 (.cells #[u.k,.string (str u.p.h),.bool u.p.s,u.p.x] 36))
 rw [hz0] at hU0
 have hz1:((w.alloc (.cells #[ck,.slice a n c] 44)).alloc (.cells #[u.k,.string (str u.p.h),.bool u.p.s,u.p.x] 36)).heap.size=w.heap.size+2:=by simp
 have hR0:=SBox.new ((w.alloc (.cells #[ck,.slice a n c] 44)).alloc (.cells #[u.k,.string (str u.p.h),.bool u.p.s,u.p.x] 36)) 0 (.slice none 0 0)
 rw [hz1] at hR0
 have hE1:Ext ((w.alloc (.cells #[ck,.slice a n c] 44)).alloc (.cells #[u.k,.string (str u.p.h),.bool u.p.s,u.p.x] 36)) _:=(Ext.refl _).alloc (.cells #[.int .i64 0,.slice none 0 0] 44)
 have hb2:=hb1.alloc hb1.size (.cells #[.int .i64 0,.slice none 0 0] 44)
 have hS2:=hS1.ext hE1
 have hU2:=hU0.ext hE1
 have hz2:(((w.alloc (.cells #[ck,.slice a n c] 44)).alloc (.cells #[u.k,.string (str u.p.h),.bool u.p.s,u.p.x] 36)).alloc (.cells #[.int .i64 0,.slice none 0 0] 44)).heap.size=w.heap.size+3:=by simp
 have hs2:=h.ext hb2
 have HVS:=zH (fun W (hs:SlN W a n c L)=>zd_j ck a n c L W hs (by omega) hL)
 have HV:=zH (fun W=>zd_n false u hu W)
 obtain⟨sb,hsb⟩:∃ b,Upt.stValid ck L=b:=⟨_,rfl⟩
 obtain⟨vb,hvb⟩:∃ b,Upt.valid u=b:=⟨_,rfl⟩
 rw [hsb] at HVS
 rw [hvb] at HV
 have HSB:=zH hsb
 have HVB:=zH hvb
 have HLN:=zH h.len
 have HL:=zH hL
 have HUL:=zH hu
 unfold uv uc at HV
 unfold uv uc
 obtain⟨sh,hsh⟩:∃ s,str u.p.h=s:=⟨_,rfl⟩
 obtain⟨ps,hps⟩:∃ s,u.p.s=s:=⟨_,rfl⟩
 obtain⟨px,hpx⟩:∃ s,u.p.x=s:=⟨_,rfl⟩
 obtain⟨k,hk⟩:∃ s,u.k=s:=⟨_,rfl⟩
 rw [hsh,hps,hpx,hk] at HV hb2 hS2 hU2 hR0 hz2 hs2
 rw [hsh,hps,hpx,hk]
 obtain⟨W3,hW3⟩:∃ W3,((w.alloc (.cells #[ck,.slice a n c] 44)).alloc (.cells #[k,.string sh,.bool ps,px] 36)).alloc (.cells #[.int .i64 0,.slice none 0 0] 44)=W3:=⟨_,rfl⟩
 rw [hW3] at hb2 hS2 hU2 hR0 hz2 hs2
 have HW3:=zH hW3
 have HB3:=zH hb2
 have HS3:=zH hS2
 have HU3:=zH hU2
 have HR3:=zH hR0
 have HZ3:=zH hz2
 have HSL:=zH hs2
 have HP:=zH (And.intro hsh (And.intro hps (And.intro hpx hk)))
 clear hsh hps hpx hk hW3 hb0 hb1 hb2 hS0 hS1 hS2 hU0 hU2 hR0 hz0 hz1 hz2 hs2 HE0 hE1 hsb hvb h hL hu
 have HCL:=zH (show ∀ W,Ext W3 W->SBox W w.heap.size ck (.slice a n c)/\UBox W (w.heap.size+1) k sh ps px/\SBox W (w.heap.size+2) 0 (.slice none 0 0) from fun W e=>⟨HS3.out.ext e,HU3.out.ext e,HR3.out.ext e⟩)
 cases sb with
|false =>
  have HR:=zH (Upt.apply_bad (c:=ck) (L:=L) (u:=u) (cap:=cap) (.inl HSB.out))
  go_enter Tryz.func14,Tryz.ntmps14
  go_wp2_with fail
  rw [HW3.out]
  refine (HVS.out _ HSL.out).mono ?_;rintro e w4 ⟨rfl,hB4⟩
  obtain⟨hs,hu,hr⟩:=HCL.out _ hB4
  obtain⟨⟨s0,s1⟩,-,ls⟩:=hs.al
  obtain⟨⟨u0,u1,u2,u3⟩,-,lu⟩:=hu.al
  obtain⟨⟨r0,r1⟩,fr,lr⟩:=hr.al
  have HR9:=zH hr
  clear hs hu hr
  go_wp2_with fail
  refine ret2 rfl rfl ((HR9.out).set2 0 (.slice none 0 0)) rfl rfl (RUApN.of HR.out (RUApN.bad (by decide) rfl ?_))
  exact ((HB3.out.trans (Below.mono hB4 HB3.out.size)).setCell (p:=(w.heap.size+2:Nat)) (Nat.le_add_right _ _) _).setCell (p:=((w.heap.size+2) 1)) (Nat.le_add_right _ _) _
|true =>
  cases vb with
 |false =>
   have HR:=zH (Upt.apply_bad (c:=ck) (L:=L) (u:=u) (cap:=cap) (.inr HVB.out))
   go_enter Tryz.func14,Tryz.ntmps14
   go_wp2_with fail
   rw [HW3.out]
   refine (HVS.out _ HSL.out).mono ?_;rintro e w4 ⟨rfl,hB4⟩
   obtain⟨hs,hu,hr⟩:=HCL.out _ hB4
   obtain⟨⟨s0,s1⟩,-,ls⟩:=hs.al
   obtain⟨⟨u0,u1,u2,u3⟩,-,lu⟩:=hu.al
   obtain⟨⟨r0,r1⟩,fr,lr⟩:=hr.al
   clear hs hu hr
   go_wp2_with fail
   refine (HV.out _).mono ?_;rintro e w5 ⟨rfl,hB5⟩
   have hB45:Ext W3 w5:=Ext.step hB5 hB4
   clear s0 s1 u0 u1 u2 u3 r0 r1 fr ls lu lr
   obtain⟨hs,hu,hr⟩:=HCL.out _ hB45
   obtain⟨⟨s0,s1⟩,-,ls⟩:=hs.al
   obtain⟨⟨u0,u1,u2,u3⟩,-,lu⟩:=hu.al
   obtain⟨⟨r0,r1⟩,fr,lr⟩:=hr.al
   have HR9:=zH hr
   clear hs hu hr
   go_wp2_with fail
   refine ret2 rfl rfl ((HR9.out).set2 0 (.slice none 0 0)) rfl rfl (RUApN.of HR.out (RUApN.bad (by decide) rfl ?_))
   exact ((HB3.out.trans (Below.mono hB45 HB3.out.size)).setCell (p:=(w.heap.size+2:Nat)) (Nat.le_add_right _ _) _).setCell (p:=((w.heap.size+2) 1)) (Nat.le_add_right _ _) _
 |true =>
   have hASC:=((Upt.stValid_iff ck L).1 HSB.out).2.2.2.2
   rcases Upt.kind_of HVB.out with hk|hk
   ·have hk1:=HP.out.2.2.2.symm.trans hk
    subst hk1
    have hvp:Pin.valid u.p=true:=by
     rcases Upt.valid_cases HVB.out with⟨-,e⟩|⟨e,-,-⟩
     ·exact e
     ·omega
    have hput:∀ mm:Int,min cap 1000=mm->∀ W,SlN W a n c L->Calls Tryz.prog 59 #[.slice a n c,.agg #[.string sh,.bool ps,px],mm] W fun e w' =>
     ∃ a2 n2 c2,e=.returned (.tuple #[.slice a2 n2 c2,.int .i64 (Upt.apply ck L u cap).2])/\((Upt.apply ck L u cap).2=0->(Upt.apply ck L u cap).1.length=n2/\SlN w' a2 n2 c2 (Upt.apply ck L u cap).1)/\Below W.heap.size W w'/\((Upt.apply ck L u cap).2=0->∀ x,a2=some x->W.heap.size<=x.block\/(a2=a/\(Upt.apply ck L u cap).1=L)):=by
     intro mm hmm W hs
     have hq:=zt_h a n c L u.p mm W hs (by omega) HL.out HUL.out
     unfold pv at hq
     rw [HP.out.1,HP.out.2.1,HP.out.2.2.1] at hq
     refine hq.mono ?_
     rintro e w' ⟨v,rfl,hno,hb⟩
     have hra:=Tab.rput_any hASC mm hvp
     have hap:Upt.apply ck L u cap=if Tab.hit L u.p.h=true then (Upt.ins L u.p,0) else if mm<=(L.length:Int) then ([],11) else (Upt.ins L u.p,0):=by
      unfold Upt.apply Upt.upd
      rw [if_neg (by rw [HSB.out,HVB.out];decide)]
      simp only [if_neg (show ¬ u.k=2 by omega),hmm]
     have h2:(Tab.rput L u.p mm).2=(Upt.apply ck L u cap).2/\((Upt.apply ck L u cap).2=0->(Tab.rput L u.p mm).1=(Upt.apply ck L u cap).1):=by
      rw [hra,hap]
      split
      ·exact⟨rfl,fun _=>rfl⟩
      ·split
       ·exact⟨rfl,fun e=>by cases e⟩
       ·exact⟨rfl,fun _=>rfl⟩
     obtain⟨a2,c2,hv,hsl⟩:=hno.sl hs hb
     subst hv
     refine⟨a2,_,c2,by rw [h2.1],fun h0=>?_,hb,fun h0 x hx=>?_⟩
     ·rw [<-h2.2 h0]
      exact⟨rfl,hsl⟩
     ·rcases hno with⟨e1,e2⟩|hno
      ·cases e1;exact .inr ⟨rfl,(h2.2 h0).symm.trans e2⟩
      ·obtain⟨a3,c3,e3,-,hw3⟩:=hno.sl
       cases e3
       exact .inl (hw3 x hx).1
    obtain⟨⟨R,z⟩,hap⟩:∃ r,Upt.apply ck L u cap=r:=⟨_,rfl⟩
    rw [hap] at hput
    simp only at hput
    have HPUT:=zH hput
    have HR:=zH hap
    clear hput hap hASC hvp hk
    have HPM:=zH (HPUT.out (min cap 1000) rfl)
    all_goals
     go_enter Tryz.func14,Tryz.ntmps14
     go_wp2_with fail
     rw [HW3.out]
     refine (HVS.out _ HSL.out).mono ?_;rintro e w4 ⟨rfl,hB4⟩
     obtain⟨hs,hu,hr⟩:=HCL.out _ hB4
     obtain⟨⟨s0,s1⟩,-,ls⟩:=hs.al
     obtain⟨⟨u0,u1,u2,u3⟩,-,lu⟩:=hu.al
     obtain⟨⟨r0,r1⟩,fr,lr⟩:=hr.al
     clear hs hu hr
     go_wp2_with fail
     refine (HV.out _).mono ?_;rintro e w5 ⟨rfl,hB5⟩
     have hB45:Ext W3 w5:=Ext.step hB5 hB4
     clear s0 s1 u0 u1 u2 u3 r0 r1 fr ls lu lr
     obtain⟨hs,hu,hr⟩:=HCL.out _ hB45
     obtain⟨⟨s0,s1⟩,-,ls⟩:=hs.al
     obtain⟨⟨u0,u1,u2,u3⟩,-,lu⟩:=hu.al
     obtain⟨⟨r0,r1⟩,fr,lr⟩:=hr.al
     have HS5:=zH hs
     have HR5:=zH hr
     clear hs hu hr
     have hz5:W3.heap.size<=w5.heap.size:=hB45.size
     have HB5:=zH (HB3.out.trans (Below.mono hB45 HB3.out.size))
     have HSL5:=zH (HSL.out.ext hB45)
     go_wp2_with fail
     refine (HPM.out _ HSL5.out).mono ?_;rintro e w6 ⟨a2,n2,c2,rfl,hz0,hB6,hnw2⟩
     have HNW2:=zH (show z=0->∀ x,a2=some x->w.heap.size<=x.block\/(a2=a/\R=L) from fun h0 x hx=>(hnw2 h0 x hx).imp (fun h=>by have:=HB5.out.size;omega) id)
     clear hnw2
     have HZ0:=zH hz0
     clear hz0
     have hS6:=HS5.out.ext hB6
     have hR6:=HR5.out.ext hB6
     have hB06:=HB5.out.trans (hB6.mono HB5.out.size)
     clear s0 s1 u0 u1 u2 u3 r0 r1 fr ls lu lr
     obtain⟨s0,s1⟩:=hS6.cells
     obtain⟨r0,r1⟩:=hR6.cells
     have fr:=hR6.frz
     have ls:=za_a hS6
     have lr:=za_a hR6
     have HR6:=zH hR6
     have HB6:=zH hB06
     clear hS6 hR6 hB06 hB6
     by_cases hz:z=0
     ·subst hz
      obtain⟨hn2,hs2⟩:=HZ0.out rfl
      have HN2:=zH hn2
      have HS2:=zH hs2
      clear hn2 hs2
      go_wp2_with fail
      refine ret2 rfl rfl ((HR6.out).set2 ck (.slice a2 n2 c2)) rfl rfl (RUApN.of HR.out (RUApN.good HN2.out rfl ?_ ?_ (HNW2.out (by simp))))
      ·exact HS2.out.setOldR HR6.out _ _ _ _
      ·exact (HB6.out.setCell (p:=(w.heap.size+2:Nat)) (Nat.le_add_right _ _) (ck:Value)).setCell (p:=((w.heap.size+2) 1)) (Nat.le_add_right _ _) (.slice a2 n2 c2)
     ·have t1:(z != 0)=true:=by simpa using hz
      have t2:(z == 0)=false:=by simpa using hz
      have hRn:R=[]:=by
       have:=Upt.apply_err ck L u cap (by rw [HR.out];exact hz)
       rw [HR.out] at this;exact this
      subst hRn
      have HNZ:=zH hz
      clear hz
      go_wp2_with fail
      refine ret2 rfl rfl ((HR6.out).set2 0 (.slice none 0 0)) rfl rfl (RUApN.of HR.out (RUApN.bad HNZ.out rfl ?_))
      exact below2 HB6.out (by omega)
   ·have hk1:=HP.out.2.2.2.symm.trans hk
    subst hk1
    have hap:=Upt.apply_rem (cap:=cap) HSB.out HVB.out hk
    have HREM:=zH (fun W (hs:SlN W a n c L)=>zi_r a n c L u.p.h W hs (by omega))
    unfold RRemP at HREM
    rw [Tab.rremove_is hASC,HP.out.1] at HREM
    have hrl:=Tab.remove_len L u.p.h
    rw [HLN.out] at hrl
    obtain⟨⟨R,fd⟩,hrm⟩:∃ R,Tab.remove L u.p.h=R:=⟨_,rfl⟩
    rw [hrm] at HREM hap hrl
    simp only at HREM hap hrl
    obtain⟨m,hm⟩:∃ m,R.length=m:=⟨_,rfl⟩
    rw [hm] at hrl
    have HR:=zH hap
    have HM:=zH hm
    clear hap hrm hASC hk hm
    go_enter Tryz.func14,Tryz.ntmps14
    go_wp2_with fail
    rw [HW3.out]
    refine (HVS.out _ HSL.out).mono ?_;rintro e w4 ⟨rfl,hB4⟩
    obtain⟨hs,hu,hr⟩:=HCL.out _ hB4
    obtain⟨⟨s0,s1⟩,-,ls⟩:=hs.al
    obtain⟨⟨u0,u1,u2,u3⟩,-,lu⟩:=hu.al
    obtain⟨⟨r0,r1⟩,fr,lr⟩:=hr.al
    clear hs hu hr
    go_wp2_with fail
    refine (HV.out _).mono ?_;rintro e w5 ⟨rfl,hB5⟩
    have hB45:Ext W3 w5:=Ext.step hB5 hB4
    clear s0 s1 u0 u1 u2 u3 r0 r1 fr ls lu lr
    obtain⟨hs,hu,hr⟩:=HCL.out _ hB45
    obtain⟨⟨s0,s1⟩,-,ls⟩:=hs.al
    obtain⟨⟨u0,u1,u2,u3⟩,-,lu⟩:=hu.al
    obtain⟨⟨r0,r1⟩,fr,lr⟩:=hr.al
    have HS5:=zH hs
    have HR5:=zH hr
    clear hs hu hr
    have hz5:W3.heap.size<=w5.heap.size:=hB45.size
    have HB5:=zH (HB3.out.trans (Below.mono hB45 HB3.out.size))
    have HSL5:=zH (HSL.out.ext hB45)
    go_wp2_with fail
    refine (HREM.out _ HSL5.out).mono ?_;rintro e w6 ⟨v6,rfl,hno,hB6⟩
    obtain⟨a6,c6,hv6,hs6⟩:=hno.sl HSL5.out hB6
    rw [HM.out] at hv6 hs6
    subst hv6
    have hS6:=HS5.out.ext hB6
    have hR6:=HR5.out.ext hB6
    have hB06:=HB5.out.trans (hB6.mono HB5.out.size)
    clear s0 s1 u0 u1 u2 u3 r0 r1 fr ls lu lr
    obtain⟨s0,s1⟩:=hS6.cells
    obtain⟨r0,r1⟩:=hR6.cells
    have fr:=hR6.frz
    have ls:=za_a hS6
    have lr:=za_a hR6
    have hex:Below w6.heap.size w6 (w6.drew.alloc (.cells #[] 34)):=(Below.drew (Below.refl _ _)).alloc (zN _) _
    have HEM:=zH (show OwnN w6.heap.size (w6.drew.alloc (.cells #[] 34)) (.slice w6.heap.size 0 0) [] from OwnN.empty w6.drew (zN _))
    have HS6:=zH (hs6.ext hex)
    have HEX:=zH hex
    have HSB6:=zH hS6
    have HRB6:=zH hR6
    have HB6:=zH hB06
    have HKS:=zH (show ∀ W,SBox W w.heap.size ck (.slice a n c)->SBox W w.heap.size ck (.slice a n c)/\W.cell? w.heap.size=some (ck:Value)/\w.heap.size < W.heap.size from fun W h=>⟨h,h.cells.1,za_a h⟩)
    have HM':m<=1000000:=by omega
    clear hS6 hR6 hB06 hB6 hno hs6 hex
    go_wp2_with fail
    go_region_held3 (fun w'=>SBox w' w.heap.size ck (.slice a n c)/\w'.cell? w.heap.size=some (ck:Value)/\w.heap.size < w'.heap.size) (first|assumption|exact HKS.out _ HSB6.out|exact HKS.out _ hS1|exact HKS.out _ (SBox.ext (And.left (by assumption)) ((Ext.refl _).alloc _))|exact HKS.out _ ((hS1.other (by omega) _ _).other (by omega) _ _)) (first|(refine za_k rfl (.tmp 35) (.tmp 36) rfl w6.heap.size _ [] (by simp [Act.eval]) HEM.out a6 m c6 R (by simp [Act.eval]) HS6.out (by simp;omega) (by simp) ?_;intro v1 w1 hO1 hg1;rw [List.nil_append] at hO1;obtain⟨a1,c1,hv1,-,hnw1⟩:=hO1.sl;rw [HM.out] at hv1;subst hv1;have HNW1:=zH (show ∀ x,a1=some x->w.heap.size<=x.block\/(a1=a/\R=L) from fun x hx=>Or.inl (by have h1:=(hnw1 x hx).1;have h2:=HB6.out.size;omega));clear hnw1;have hB7:Below w6.heap.size w6 w1:=HEX.out.grown hg1 (by simp) (fun j hj=>by cases hj;exact zN _);have hS1:SBox w1 w.heap.size ck (.slice a n c):=HSB6.out.ext hB7;have HR7:=zH (HRB6.out.ext hB7);have HB7:=zH (HB6.out.trans (hB7.mono HB6.out.size));obtain⟨q0,q1⟩:=HR7.out.cells;have fq:=HR7.out.frz;have lq:=za_a HR7.out;clear hB7))
    have HO1:=zH hO1
    clear hS1 hO1 hg1 r0 r1 fr lr q0 q1
    try clear hS1
    go_wp2_with fail
    refine ret2 rfl rfl ((HR7.out).set2 ck (.slice a1 m c1)) rfl rfl (RUApN.of HR.out (RUApN.good HM.out rfl ?_ ?_ HNW1.out))
    ·exact HO1.out.slN.setOldR HR7.out _ _ _ _
    ·exact (HB7.out.setCell (p:=(w.heap.size+2:Nat)) (Nat.le_add_right _ _) (ck:Value)).setCell (p:=((w.heap.size+2) 1)) (Nat.le_add_right _ _) (.slice a1 m c1)
end
end Go.Proofs.YtmanejniepghlaaGreatDoor
