import Derived.RangeFuncBox
import Derived.Test.YtmanejniepghlaaGreatDoorRun0
import Derived.Test.YtmanejniepghlaaGreatDoorRun5
import Derived.Test.YtmanejniepghlaaGreatDoorRun15
import Derived.Shelf.Abstract
import Derived.Shelf.RegionOpen
import Derived.OwnWalkIn
import Derived.TacticsInMore
import Derived.LoopNIn
import Derived.LoopIn
namespace Go.Proofs.YtmanejniepghlaaGreatDoor
open Go.RowKit Go.Shelf
variable {l:List UInt8} {k:Nat}
attribute [local go_sem] Oper.semAt_some
namespace Host
theorem zg_g:∀ l:List UInt8,Lib.indexByte l 46=-1->∀ x ∈ l,x ≠ 46
|[],_,x,hx=>by cases hx
|b :: l,h,x,hx=>by
  rw [Lib.indexByte] at h
  by_cases hb:(b == 46)=true
  ·rw [if_pos hb] at h;cases h
  ·rw [if_neg hb] at h
   have hb':b ≠ 46:=by simpa using hb
   by_cases h2:(Lib.indexByte l 46 == -1)=true
   ·rcases List.mem_cons.1 hx with e|e
    ·rw [e];exact hb'
    ·exact zg_g l (by simpa using h2) x e
   ·rw [if_neg h2] at h
    have:=Lib.indexByte_ge l 46
    omega
theorem zd_y:∀ l:List UInt8,Lib.indexByte l 46 ≠ -1->∃ k:Nat,Lib.indexByte l 46=(k:Int)/\k < l.length/\l=l.take k ++ 46 :: l.drop (k+1)/\∀ x ∈ l.take k,x ≠ 46
|[],h=>absurd rfl h
|b :: l,h=>by
  rw [Lib.indexByte] at h ⊢
  by_cases hb:(b == 46)=true
  ·have hb':b=46:=by simpa using hb
   rw [if_pos hb]
   exact⟨0,rfl,by simp,by simp [hb'],by simp⟩
  ·rw [if_neg hb] at h ⊢
   have hb':b ≠ 46:=by simpa using hb
   by_cases h2:(Lib.indexByte l 46 == -1)=true
   ·rw [if_pos h2] at h;exact absurd rfl h
   ·rw [if_neg h2]
    obtain⟨k,e1,e2,e3,e4⟩:=zd_y l (by simpa using h2)
    refine⟨k+1,by rw [e1];rfl,by simp;omega,?_,?_⟩
    ·simp only [List.take_succ_cons,List.drop_succ_cons,List.cons_append];rw [<-e3]
    ·intro x hx
     rw [List.take_succ_cons] at hx
     rcases List.mem_cons.1 hx with e|e
     ·rw [e];exact hb'
     ·exact e4 x e
def rest (l:List UInt8):Nat->List UInt8
|0=>l
|k+1=>match split (rest l k) with
 |_ :: q :: r=>join (q :: r)
 |_=>[]
theorem ze_b (l:List UInt8):∀ k,k < (split l).length->split (rest l k)=(split l).drop k
|0,_=>rfl
|k+1,h=>by
  have ih:=ze_b l k (by omega)
  have hl:(split (rest l k)).length=(split l).length - k:=by rw [ih,List.length_drop]
  unfold rest
  cases hs:split (rest l k) with
 |nil=>exact absurd hs (split_ne _)
 |cons p r =>
   cases r with
  |nil=>rw [hs] at hl;simp at hl;omega
  |cons q r =>
    have hj:rest l k=p ++ 46 :: join (q :: r):=by rw [<-zb_f (rest l k),hs,zf_e p (by simp)]
    have hp:∀ x ∈ p,x ≠ 46:=zb_q (rest l k) p (by rw [hs];exact List.mem_cons_self)
    have h2:split (rest l k)=p :: split (join (q :: r)):=(congrArg split hj).trans (zf_m p _ hp)
    have h3:split (join (q :: r))=q :: r:=by rw [hs] at h2;injection h2 with _ h2;exact h2.symm
    show split (join (q :: r))=_
    rw [h3]
    have h4:p :: q :: r=(split l).drop k:=by rw [<-hs,ih]
    rw [<-List.drop_drop,<-h4];rfl
theorem rest_len (l:List UInt8):∀ k,(rest l k).length<=l.length
|0=>zN _
|k+1=>by
  have ih:=rest_len l k
  unfold rest
  cases hs:split (rest l k) with
 |nil=>exact Nat.zero_le _
 |cons p r =>
   cases r with
  |nil=>exact Nat.zero_le _
  |cons q r =>
    have hj:rest l k=p ++ 46 :: join (q :: r):=by rw [<-zb_f (rest l k),hs,zf_e p (by simp)]
    have:=congrArg List.length hj
    simp at this ⊢;omega
theorem rest_last (h:k+1=(split l).length):Lib.indexByte (rest l k) 46=-1/\(split l)[k]?.getD []=rest l k:=by
 have h1:=ze_b l k (by omega)
 have h2:(split (rest l k)).length=1:=by rw [h1,List.length_drop];omega
 have hn:∀ x ∈ rest l k,x ≠ 46:=by
  intro x hx e
  cases hs:split (rest l k) with
 |nil=>exact split_ne _ hs
 |cons p r =>
   cases r with
  |cons q r=>rw [hs] at h2;simp at h2
  |nil =>
    have h3:=zb_f (rest l k)
    rw [hs] at h3
    have h4:=zb_q (rest l k) p (by rw [hs];exact List.mem_cons_self) x
    rw [show p=rest l k from h3] at h4
    exact h4 hx e
 refine⟨?_,?_⟩
 ·rcases Decidable.em (Lib.indexByte (rest l k) 46=-1) with e|e
  ·exact e
  ·exfalso
   obtain⟨j,e1,e2,e3,e4⟩:=zd_y _ e
   refine hn 46 ?_ rfl
   rw [e3];simp
 ·have h5:=congrArg (fun z:List (List UInt8)=>z[0]?) h1
  simp only [List.getElem?_drop,Nat.add_zero] at h5
  rw [<-h5,za_w _ hn];rfl
theorem rest_more (h:k+1 < (split l).length):∃ j:Nat,Lib.indexByte (rest l k) 46=(j:Int)/\j < (rest l k).length/\(split l)[k]?.getD []=(rest l k).take j/\rest l (k+1)=(rest l k).drop (j+1):=by
 have h1:=ze_b l k (by omega)
 have h2:1 < (split (rest l k)).length:=by rw [h1,List.length_drop];omega
 have hne:Lib.indexByte (rest l k) 46 ≠ -1:=by
  intro e
  rw [za_w _ (zg_g _ e)] at h2;simp at h2
 obtain⟨j,e1,e2,e3,e4⟩:=zd_y _ hne
 have h3:split (rest l k)=(rest l k).take j :: split ((rest l k).drop (j+1)):=by
  conv=>lhs;rw [e3]
  rw [zf_m _ _ e4]
 refine⟨j,e1,e2,?_,?_⟩
 ·have h5:=congrArg (fun z:List (List UInt8)=>z[0]?) h1
  simp only [List.getElem?_drop,Nat.add_zero] at h5
  rw [<-h5,h3];rfl
 ·show (match split (rest l k) with
  |_ :: q :: r=>join (q :: r)
  |_=>[])=_
  rw [h3]
  cases hs:split ((rest l k).drop (j+1)) with
 |nil=>exact absurd hs (split_ne _)
 |cons q r =>
   show join (q :: r)=_
   rw [<-hs,zb_f]
end Host
theorem zf_z (F:Fence) (n:Nat) (h6:F.fn 218) (hro:F.round=none) (s sep:ByteArray) (z:Int) (w:World) :
 CallsIn F n Tryz.prog 218 #[.string s,.string sep,z] w fun e w'=>e=.returned (.func (.func 235) #[] #[.pointer (w.heap.size+1:Nat),.pointer w.heap.size,.pointer (w.heap.size+2:Nat)]) ∧
  w'=((w.alloc (.cells #[.string s] 9)).alloc (.cells #[.string sep] 9)).alloc (.cells #[z] 3):=by
 refine callsIn_of_wp Tryz.func218 rfl h6 ?_ hro
 simp only [Tryz.ntmps218,List.size_toArray,List.length_cons,List.length_nil,Nat.reduceAdd,Nat.reduceSub,Array.replicate_succ,Array.replicate_zero,List.push_toArray,List.append_toArray,List.nil_append,List.cons_append]
 gi_wp2
 go_ret
 exact⟨rfl,rfl⟩
def ssEnc (l:List UInt8) (k:Nat):Array Value:=#[.string (str ((Host.split l)[k]?.getD []))]
def KpS (bo bn be:Nat) (A B:World):Prop:=B.heap[bo]?=A.heap[bo]?/\B.heap[bn]?=A.heap[bn]?/\B.heap[be]?=A.heap[be]?
theorem zu_a {bo bn be:Nat} {A B C:World} (h:KpS bo bn be A B) (k:KpS bo bn be B C):KpS bo bn be A C:=⟨k.1.trans h.1,k.2.1.trans h.2.1,k.2.2.trans h.2.2⟩
def boxLen (w:World) (b:Nat):Nat:=match w.cell? b with
|some (.string s)=>s.size
|_=>0
theorem zh_v {w:World} {b:Nat} (h:Boxed w b 9 (.string (str l))):boxLen w b=l.length:=by
 unfold boxLen;rw [h.cell];exact strSize l
def SsRel (l:List UInt8) (N bsep bs bz:Nat) (J:Nat->World->Prop) (W wr:World):Prop :=
 ∃ k,k < N/\J k wr/\Boxed wr bs 9 (.string (str (Host.rest l k)))/\wr.heap[bsep]?=W.heap[bsep]?/\wr.heap[bz]?=W.heap[bz]?
set_option maxRecDepth 100000 in
set_option maxHeartbeats 4000000 in
theorem zt_o (n:Nat) (hn:1<=n) (bsep bs bz:Nat) (l:List UInt8) (hl:l.length<=1000000) (w:World)
 (b1:bsep < w.heap.size) (b2:bs < w.heap.size) (b3:bz < w.heap.size) (d1:bs ≠ bsep) (d2:bs ≠ bz)
 (x1:w.cell? bsep=some (.string ⟨#[46]⟩)) (x2:Boxed w bs 9 (.string (str l))) (x3:w.cell? bz=some (.int .i64 0)) :
 SeqIxS Fence.wide n Tryz.prog 235 #[.pointer bsep,.pointer bs,.pointer bz] (ssEnc l) (KpS bsep bs bz) (Host.split l).length bs w:=by
 intro lp J Jx W hW hJs hY hJ
 have y1:W.cell? bsep=_:=(hW.cell (p:=bsep) b1).trans x1
 have y2:Boxed W bs 9 (.string (str l)):=(hW.block bs b2).trans x2
 have y3:W.cell? bz=_:=(hW.cell (p:=bz) b3).trans x3
 have y2c:=y2.cell
 have HC:=zH (show ∀ W':World,W'.heap[bsep]?=W.heap[bsep]?->W'.heap[bz]?=W.heap[bz]?->W'.cell? bsep=some (.string ⟨#[46]⟩)/\W'.cell? bz=some (.int .i64 0) from
  fun W' h1 h2=>⟨(World.cell?_of_block (a:=bsep) h1).trans y1,(World.cell?_of_block (a:=bz) h2).trans y3⟩)
 have HN0:=List.length_pos_iff.2 (Host.split_ne l)
 have HLAST:=zH (fun k=>Host.rest_last (l:=l) (k:=k))
 have HMORE:=zH (fun k=>Host.rest_more (l:=l) (k:=k))
 have HRL:=zH (fun k=>Nat.le_trans (Host.rest_len l k) hl)
 unfold ssEnc at hY
 obtain⟨ps,hps⟩:∃ ps,Host.split l=ps:=⟨_,rfl⟩
 rw [hps] at hY HN0 HLAST HMORE ⊢
 obtain⟨N,hN⟩:∃ N,ps.length=N:=⟨_,rfl⟩
 rw [hN] at hY HN0 HLAST HMORE ⊢
 have HY:=zH hY
 have HJS:=zH hJs
 have HST:SsRel l N bsep bs bz J W W:=⟨0,HN0,hJ,y2,rfl,rfl⟩
 clear x1 x2 x3 y2 hY hps hN hJs hJ
 refine callsIn_of_wp Tryz.func235 rfl trivial ?_ rfl
 simp only [Tryz.ntmps235,List.size_toArray,List.length_cons,List.length_nil,Nat.reduceAdd,Nat.reduceSub,Array.replicate_succ,Array.replicate_zero,List.push_toArray,List.append_toArray,List.nil_append,List.cons_append]
 gi_wp2
 gi_loopw [7,8] (fun _ _ wr=>SsRel l N bsep bs bz J W wr) (fun _ _ wr=>boxLen wr bs)
 case atStart=>exact HST
 case round =>
  obtain⟨k,hk,hJk,hbx,h1,h2⟩:=hrel
  obtain⟨z1,z3⟩:=HC.out _ h1 h2
  have z2:=hbx.cell
  have hbf:=hbx.frozen
  have hbl:=zh_v hbx
  have hrl:=HRL.out k
  have hidx:=fun m W=>(callsIn_wide (n:=m)).2 (zl_h (str (Host.rest l k)) 46 W)
  have hdt:(str (Host.rest l k)).data.toList=Host.rest l k:=rfl
  rw [hdt] at hidx
  have hcut:=strCut (Host.rest l k)
  have hsz:=strSize (Host.rest l k)
  have HYK:=zH (HY.out k wr hJk)
  have hw1:Fence.wide.fn 237:=trivial
  by_cases hk1:k+1 < N
  ·obtain⟨j,e1,e2,e3,e4⟩:=HMORE.out k hk1
   obtain⟨r,hr⟩:∃ r,Host.rest l k=r:=⟨_,rfl⟩
   rw [hr] at e1 e2 e3 e4 hcut hsz hidx z2 hbl hrl hbx
   rw [e1] at hidx
   rw [e3] at HYK
   have HIX:=zH hidx
   have hc1:=hcut 0 j
   have hc2:=hcut (j+1) r.length
   rw [List.drop_zero] at hc1
   rw [List.take_length,<-e4] at hc2
   have HLN:=zH (show (Host.rest l (k+1)).length < r.length by rw [e4,List.length_drop];omega)
   obtain⟨s2,hs2⟩:∃ s2,str (Host.rest l (k+1))=s2:=⟨_,rfl⟩
   obtain⟨s1,hs1⟩:∃ s1,str (r.take j)=s1:=⟨_,rfl⟩
   obtain⟨sr,hsr⟩:∃ sr,str r=sr:=⟨_,rfl⟩
   rw [hs2] at hc2
   rw [hs1] at hc1 HYK
   rw [hsr] at hc1 hc2 hsz HIX z2 hbx
   have HS2:=zH hs2
   obtain⟨fn,tmps,assign,body,hy,hR⟩:=HYK.out hk
   have i0:(0:Int)<=(j:Int):=by omega
   have i1:(j:Int)<=(r.length:Int):=by omega
   have i2:(j:Int)+1<=(r.length:Int):=by omega
   have i3:((j:Int)+1).toNat=j+1:=by omega
   clear hidx hcut hr hs1 hs2 hsr e1 e3 e4 hdt HYK
   gi_wp2_with (gi_at_call 237;refine (HIX.out _ _).mono ?_;rintro e W1 ⟨rfl,rfl⟩)
   refine hR.mono ?_
   rintro e W3 (⟨rfl,hJ3,hk3⟩|⟨rfl,hJx3⟩)
   ·have hbx3:Boxed W3 bs 9 (.string sr):=hk3.2.1.trans hbx
    have v2:=hbx3.cell
    have vf:=hbx3.frozen
    have k1:=hk3.1.trans h1
    have k2:=hk3.2.2.trans h2
    obtain⟨v1,v3⟩:=HC.out _ k1 k2
    have hset:=hbx3.set (.string s2)
    have hJ4:=HJS.out (k+1) W3 (.string s2) hJ3
    have hlen4:boxLen (W3.setCell bs (.string s2)) bs=(Host.rest l (k+1)).length:=zh_v (by rw [HS2.out];exact hset)
    have HL4:=zH hlen4
    clear hlen4 z1 z2 z3 hbf hy hR
    gi_wp2
    go_roundw
    case rel=>exact⟨k+1,hk1,hJ4,by rw [HS2.out];exact hset,(heap_setCell_other _ _ _ _ (fun e=>d1 e.symm)).trans k1,(heap_setCell_other _ _ _ _ (fun e=>d2 e.symm)).trans k2⟩
    case measure=>rw [HL4.out,hbl];exact HLN.out
   ·gi_wp2
    refine bodyPost_ret (results_none rfl _ _ _) rfl ?_
    exact⟨⟨_,rfl⟩,.inr ⟨k+1,by omega,hJx3⟩⟩
  ·obtain⟨e1,e2⟩:=HLAST.out k (by omega)
   obtain⟨r,hr⟩:∃ r,Host.rest l k=r:=⟨_,rfl⟩
   rw [hr] at e1 e2 hsz hidx z2 hbl hrl hbx
   rw [e1] at hidx
   rw [e2] at HYK
   have HIX:=zH hidx
   obtain⟨sr,hsr⟩:∃ sr,str r=sr:=⟨_,rfl⟩
   rw [hsr] at hsz HIX z2 hbx HYK
   obtain⟨fn,tmps,assign,body,hy,hR⟩:=HYK.out hk
   clear hidx hcut hr hsr e1 e2 hdt HYK
   have hkN:k+1=N:=by omega
   have HKN:=zH hkN
   clear hkN
   gi_wp2_with (gi_at_call 237;refine (HIX.out _ _).mono ?_;rintro e W1 ⟨rfl,rfl⟩)
   refine hR.mono ?_
   rintro e W3 (⟨rfl,hJ3,hk3⟩|⟨rfl,hJx3⟩)
   ·gi_wp2
    go_end0
    exact⟨⟨_,rfl⟩,.inl (by rw [<-HKN.out];exact hJ3)⟩
   ·gi_wp2
    go_end0
    exact⟨⟨_,rfl⟩,.inr ⟨k+1,by omega,hJx3⟩⟩
end Go.Proofs.YtmanejniepghlaaGreatDoor
