import Derived.Test.YtmanejniepghlaaGreatDoorRun11
import Derived.Lib.LastIndexByte
namespace Go.Proofs.YtmanejniepghlaaGreatDoor
section
open Go.RowKit
variable {w w':World} {l:List UInt8} {e:Ending}
theorem zi_z (l:List UInt8) (j:Nat) (h:j < l.length):(str l).data[j]! = l[j]:=by
 simp [str,h]
theorem zp_y (l:List UInt8):(Lib.lastIndexByte (str l) 45=-1/\Puny.cut l=0)\/(Lib.lastIndexByte (str l) 45=(Puny.cut l:Int)/\Puny.cut l < l.length):=by
 have h45:∀ b:UInt8,((b.toNat:Int)=45) ↔ b=45:=fun b=>⟨fun h=>UInt8.toNat_inj.1 (by simpa using (by omega:b.toNat=45)),fun h=>by subst h;rfl⟩
 unfold Lib.lastIndexByte
 rw [str_size]
 rcases Lib.lastIdx_spec (str l) 45 l.length with⟨h1,h2⟩|⟨i,hi,h1,h2,h3⟩
 ·left
  refine⟨h1,Puny.cut_none l fun x hx=>?_⟩
  obtain⟨j,hj,rfl⟩:=List.mem_iff_getElem.1 hx
  have:=h2 j hj
  rw [zi_z _ _ hj] at this
  exact fun e=>this ((h45 _).2 e)
 ·right
  rw [zi_z _ _ hi] at h2
  have hl:l=l.take i ++ 45 :: l.drop (i+1):=by
   rw [<-(h45 _).1 h2,List.getElem_cons_drop,List.take_append_drop]
  have hc:Puny.cut l=i:=by
   have:=Puny.cut_front (l.take i) (l.drop (i+1)) (fun x hx=>by
    obtain⟨j,hj,rfl⟩:=List.mem_iff_getElem.1 hx
    rw [List.getElem_drop]
    simp at hj
    have:=h3 (i+1+j) (by omega) (by omega)
    rw [zi_z _ _ (by omega)] at this
    exact fun e=>this ((h45 _).2 e))
   rw [<-hl] at this
   rw [this];simp;omega
  rw [hc]
  exact⟨h1,hi⟩
theorem Puny.decStep_bd (l:List UInt8) (s:Puny.D) (r:List UInt8) (s':Puny.D) (h:Puny.decStep l s=.ok (r,s')) (h0:0<=s.i) (_h1:s.i<=s.pts.length) (_n0:0<=s.n) :
 r.length < l.length/\0<=s'.i/\s'.i<=s'.pts.length/\0<=s'.n/\s'.n<=1114111/\0<=s'.bias/\s'.bias<=1000/\s'.pts.length<=256:=by
 unfold Puny.decStep at h
 cases hd:Puny.decNum l s.i 1 0 s.bias with
|error e=>rw [hd] at h;cases h
|ok x =>
  obtain⟨r1,j⟩:=x
  obtain⟨j0,j1,hr⟩:=Puny.decNum_bd _ _ _ _ _ _ _ h0 (by omega) hd
  rw [hd] at h
  simp only at h
  by_cases hp:Puny.point (s.n+j / ((s.pts.length:Int)+1))=false
  ·rw [if_pos hp] at h;cases h
  rw [if_neg hp] at h
  by_cases hl:256 < ((s.pts.length:Int)+1)
  ·rw [if_pos hl] at h;cases h
  rw [if_neg hl] at h
  have hp2:=(Puny.point_iff _).1 (by simpa using hp)
  have hm0:0<=j % ((s.pts.length:Int)+1):=Int.emod_nonneg _ (by omega)
  have hm1:j % ((s.pts.length:Int)+1) < ((s.pts.length:Int)+1):=Int.emod_lt_of_pos _ (by omega)
  have hil:(Puny.ins s.pts (j % ((s.pts.length:Int)+1)).toNat (s.n+j / ((s.pts.length:Int)+1))).length=s.pts.length+1:=Puny.ins_length _ _ _ (by omega)
  have hbd:=Puny.adapt_bd (j - s.i) ((s.pts.length:Int)+1) s.first (by omega) (by omega) (by omega)
  cases h
  refine⟨hr,?_,?_,hp2.1,hp2.2.1,hbd.1,hbd.2,?_⟩
  ·simp only;omega
  ·simp only [hil];omega
  ·simp only [hil];omega
theorem zf_q {ops:Array Oper} {o:Oper} {a:Act} {K:Act->World->Prop} {Q:Exit->Act->World->Prop} {E:Prop} (hgd:o.guard=none) (s x:Operand)
 (ho:o.op=.call { callee:=.builtin .append,args:=#[s,x],argTypes:=#[81,81] })
 (base:Nat) (v:Value) (l:List Int) (hs:a.eval s=v) (hown:OwnI base w v l) (z:Int) (vb c:Nat) (hx:a.eval x=.slice vb 1 c) (hc:w.cell? vb=some (iv z))
 (hl:l.length<=1000000) (hb:base<=w.heap.size)
 (h:∀ g cap w',OwnI base w' (.slice g (l.length+1) cap) (l ++ [z])->w.grownBy w' v.ownBlock->K (a.put o.dst (.slice g (l.length+1) cap)) w') :
 if Region.wanted o (yielded ops a.tmps)=true then Oper.wp Tryz.prog o a w K Q else E:=by
 obtain⟨i0,hi,hz0,hz1,hz2⟩:=info_parts infoInt
 refine step_append_lies w hgd s x 81 ho base 3 i0 (.int .i64 0) 1 8 Tryz.underlying81 hi hz0 hz1 hz2 rfl (by decide) v l.length _ hs hown vb 1 c [iv z] hx rfl ?_ ?_ (by omega) (by unfold maxLen;omega) (by omega) hb _ rfl ?_
 ·intro j u hj
  cases j with
 |zero=>cases hj;exact hc
 |succ j=>simp at hj
 ·intro u hu;simp at hu;subst hu;rfl
 ·intro g cap w' h1 h2 _ _
  refine h g cap w' ?_ h2
  unfold OwnI
  rw [List.length_append,List.map_append];exact h1
def PDecPost (l:List UInt8) (w:World) (e:Ending) (w':World):Prop :=
 ∃ v,e=.returned (.tuple #[v,.int .i64 (Puny.dec l).2])/\OwnI w.heap.size w' v (Puny.dec l).1/\Below w.heap.size w w'
theorem za_v {er:Int} (hd:Puny.decode l=.error er) (he:e=.returned (.tuple #[.slice none 0 0,er])) (hb:Below w.heap.size w w'):PDecPost l w e w':=by
 unfold PDecPost Puny.dec;rw [hd];exact⟨_,he,OwnI.nil _ _,hb⟩
theorem zj_r {p:List Int} (hd:Puny.decode l=.ok p) {v:Value} (he:e=.returned (.tuple #[v,.int .i64 0])) (ho:OwnI w.heap.size w' v p) (hb:Below w.heap.size w w'):PDecPost l w e w':=by
 unfold PDecPost Puny.dec;rw [hd];exact⟨_,he,ho,hb⟩
def PCopyRel (l:List UInt8) (W0:World) (C:Nat) (i:Value) (w2:World):Prop:=∃ (k:Nat) (L:List Int) (v:Value),k<=C/\i=.int .i64 k/\Hid (L.length=k)/\Hid (L=(l.take k).map fun b=>(b.toNat:Int))/\DBox w2 W0.heap.size l v 128 0 72 false/\OwnI W0.heap.size w2 v L/\Below W0.heap.size W0 w2
set_option maxHeartbeats 4000000 in
set_option maxRecDepth 100000 in
theorem zn_y (l:List UInt8) (w:World) (hl:l.length<=1000000):Calls Tryz.prog 239 #[.string (str l)] w (PDecPost l w):=by
 have hsz:=str_size l
 by_cases hn:1024 < l.length
 ·have hd:Puny.decode l=.error 3:=by unfold Puny.decode;rw [if_pos hn]
  have HD:=zH hd
  have ht:(1024:Int) < (l.length:Int):=by omega
  clear hd hn
  go_enter Tryz.func239,Tryz.ntmps239
  go_wp2_with fail
  go_ret2
  exact za_v HD.out rfl (Below.refl _ _)
 have ht:¬ (1024:Int) < (l.length:Int):=by omega
 have hde:¬ (∀ b ∈ l,b.toNat < 128)->Puny.decode l=.error 4:=by
  intro h;unfold Puny.decode;rw [if_neg hn,if_pos (by rw [Bool.eq_false_iff,ne_eq,List.all_eq_true];simpa using h)]
 have hdo:(∀ b ∈ l,b.toNat < 128)->Puny.decode l=if 256 < Puny.cut l then .error 3 else Puny.decGo (l.length+1) (if Puny.cut l=0 then l else l.drop (Puny.cut l+1)) ⟨(l.take (Puny.cut l)).map fun b=>(b.toNat:Int),128,0,72,true⟩:=by
  intro h;unfold Puny.decode;rw [if_neg hn,if_neg (by rw [Bool.not_eq_false,List.all_eq_true];simpa using h)]
 have HDE:=zH hde;have HDO:=zH hdo
 have hget:∀ k (h:k < l.length) hq,(str l)[k]'hq=l[k]:=fun k h hq=>zf_r _ _ _
 have HGET:=zH hget
 have HLC:=zH (zp_y l)
 have HFR:=zH (zl_j l)
 clear hde hdo hget
 obtain⟨sv,hsv⟩:∃ sv,sv=str l:=⟨_,rfl⟩
 rw [<-hsv] at hsz ⊢
 have HSV:=zH hsv
 clear hsv
 go_enter Tryz.func239,Tryz.ntmps239
 go_wp2_with fail
 go_loopw [14] (fun i wr=>∃ k:Nat,k<=l.length/\i=.int .i64 k/\Hid (∀ b ∈ l.take k,b.toNat < 128)/\wr=w) (fun i _=>l.length - (intOf i).toNat)
 case atStart=>exact⟨0,Nat.zero_le _,rfl,zH (by simp),rfl⟩
 case round =>
  obtain⟨k,hk,rfl,HP,rfl⟩:=hrel
  by_cases hlt:k < l.length
  ·have b0:(0:Int)<=(k:Int):=by omega
   have b1:(k:Int) < (l.length:Int):=by omega
   have htk:=List.take_succ_eq_append_getElem hlt
   have hmem:l[k] ∈ l:=List.getElem_mem hlt
   have hg:∀ h':k < sv.size,sv[k]=l[k]:=by have:=HSV.out;subst this;exact HGET.out k hlt
   generalize l[k]=b at *
   by_cases h128:128<=b.toNat
   ·have HD:=zH (HDE.out (fun h=>by have:=h b hmem;omega))
    have hb2:(128:Int)<=(b.toNat:Int):=by omega
    clear htk hmem
    go_wp2_with fail
    go_ret2
    exact za_v HD.out rfl (Below.refl _ _)
   ·have hb2:¬ (128:Int)<=(b.toNat:Int):=by omega
    have HN:=zH (show ∀ x ∈ l.take (k+1),x.toNat < 128 by
     rw [htk];intro x hx
     rcases List.mem_append.1 hx with hx|hx
     ·exact HP.out x hx
     ·simp at hx;subst hx;omega)
    clear htk hmem
    go_wp2_with fail
    go_roundw
    case rel=>exact⟨k+1,by omega,by go_num,HN,by first|rfl|trivial⟩
    case measure=>simp [intOf];omega
  ·obtain rfl:k=l.length:=by omega
   obtain⟨W0,rfl⟩:∃ W0,W0=wr:=⟨_,rfl⟩
   have HD:=zH (HDO.out (fun b hb=>HP.out b (by rw [List.take_of_length_le (zN _)];exact hb)))
   have hli:=fun W=>zb_l sv 45 (by rw [hsz];omega) W
   rw [HSV.out] at hli
   obtain⟨K,hK⟩:∃ K,K=Lib.lastIndexByte (str l) 45:=⟨_,rfl⟩
   rw [<-hK,<-HSV.out] at hli
   have hlc:=HLC.out
   rw [<-hK] at hlc
   have HLI:=zH hli
   have HLC2:=zH hlc
   clear hli hlc hK HDE HDO HLC HP
   go_wp2_with fail
   refine (HLI.out _).mono ?_;rintro e w1 ⟨rfl,rfl⟩
   have hD:DBox (W0.alloc (.cells #[.string sv,.slice none 0 0,.int .i64 128,.int .i64 0,.int .i64 72,.bool false] 263)) W0.heap.size l (.slice none 0 0) 128 0 72 false:=by
    rw [HSV.out];exact za_b _ _ _ rfl
   have hB:Below W0.heap.size W0 (W0.alloc (.cells #[.string sv,.slice none 0 0,.int .i64 128,.int .i64 0,.int .i64 72,.bool false] 263)):=(Below.refl _ _).alloc (zN _) _
   have hO:OwnI W0.heap.size (W0.alloc (.cells #[.string sv,.slice none 0 0,.int .i64 128,.int .i64 0,.int .i64 72,.bool false] 263)) (.slice none 0 0) []:=OwnI.nil _ _
   generalize (W0.alloc (.cells #[.string sv,.slice none 0 0,.int .i64 128,.int .i64 0,.int .i64 72,.bool false] 263))=w1 at *
   by_cases hc0:Puny.cut l=0
   ·have hd:=HD.out
    rw [hc0,if_neg (by omega),if_pos rfl] at hd
    have hK0:¬ (0:Int) < K:=by rcases HLC2.out with⟨h,_⟩|⟨h,_⟩ <;> omega
    obtain⟨pts,hp⟩:∃ pts:List Int,pts=[]:=⟨_,rfl⟩
    have hv:Value.slice none 0 0=.slice none pts.length 0:=by rw [hp];rfl
    have hpl:([]:List UInt8)=l.take 0:=by simp
    have hq:(l.take 0).map (fun b=>(b.toNat:Int))=pts:=by rw [hp];simp
    rw [hq] at hd
    have hlim0:pts.length=0:=by rw [hp];rfl
    have HD2:=zH (show Puny.decode l=if 256 < pts.length then .error 3 else Puny.decGo (l.length+1) l ⟨pts,128,0,72,true⟩ by rw [hlim0,if_neg (by omega)];exact hd)
    rw [hv] at hD hO
    rw [<-hp] at hO
    have hpl2:pts.length<=1024:=by omega
    obtain⟨rest,hrest⟩:∃ rest,rest=l:=⟨_,rfl⟩
    rw [<-hrest] at hD
    rw [show Puny.decGo (l.length+1) l=Puny.decGo (l.length+1) rest by rw [hrest]] at HD2
    have hrl:rest.length<=l.length:=by rw [hrest];exact zN _
    clear hd hc0 hv hp hq hlim0 hpl hrest HD HLC2
    obtain⟨am,cm,hva,-⟩:=hO.sl
    obtain⟨c0,c1,-,-,-,-⟩:=hD.cells
    have hgw:=za_a hD
    by_cases hlim:256 < pts.length
    ·have HD3:=zH (show Puny.decode l=.error 3 by rw [HD2.out,if_pos hlim])
     have ht2:(256:Int) < (pts.length:Int):=by omega
     clear HD2
     go_wp2_with fail
     go_ret2
     exact za_v HD3.out rfl hB
    have HD3:=zH (HD2.out.trans (if_neg hlim))
    have ht2:¬ (256:Int) < (pts.length:Int):=by omega
    clear HD2 hva
    go_wp2_with fail
    go_loopw [8] (fun u w2=>∃ (f:Nat) (r:List UInt8) (s:Puny.D) (v:Value),r.length < f/\r.length<=l.length/\DBox w2 W0.heap.size r v s.n s.i s.bias (!s.first)/\OwnI W0.heap.size w2 v s.pts/\Hid (Puny.decode l=Puny.decGo f r s)/\0<=s.i/\s.i<=s.pts.length/\0<=s.n/\s.n<=1114111/\0<=s.bias/\s.bias<=1000/\s.pts.length<=256/\Below W0.heap.size W0 w2) (fun _ w2=>match w2.cell? W0.heap.size with|some (.string s)=>s.size|_=>0)
    case atStart=>exact⟨l.length+1,rest,⟨pts,128,0,72,true⟩,_,by omega,hrl,hD,hO,HD3,by simp,by simp,by simp,by simp,by simp,by simp,by simp only;omega,hB⟩
    case round =>
     obtain⟨f,r,s,v,hrf,hrl2,hDr,hOr,HG,i0,i1,n0,n1,b0,b1,pl,hBr⟩:=hrel
     obtain⟨d0,d1,-,-,-,-⟩:=hDr.cells
     have hbs:=hBr.size
     obtain⟨f,rfl⟩:∃ g,f=g+1:=⟨f - 1,by omega⟩
     have hg:=HG.out
     rw [Puny.decGo] at hg
     cases r with
    |nil =>
      rw [if_pos rfl] at hg
      have HD4:=zH hg
      have hto:(str []).toList.isEmpty=true:=by simp
      obtain⟨av,cv,hvv,-⟩:=hOr.sl
      subst hvv
      generalize str []=sv2 at *
      clear hg
      go_wp2
      go_ret2
      exact zj_r HD4.out rfl hOr hBr
    |cons b r =>
      rw [if_neg (by simp)] at hg
      have hto:(str (b :: r)).toList.isEmpty=false:=by simp
      have hstep:=fun W h h' h''=>zo_a W0.heap.size W0.heap.size (b :: r) s v W h h' (zN _) h'' i0 i1 n0 n1 b0 b1 pl (by omega)
      have HSTEP:=zH hstep
      have HG2:=zH hg
      have hms:(str (b :: r)).size=r.length+1:=by simp
      have HMS:=zH (And.intro d0 hms)
      generalize str (b :: r)=sv2 at *
      clear hg hstep hms
      go_wp2_with fail
      refine (HSTEP.out _ hDr hOr hbs).mono ?_;rintro e w3 ⟨hb3,⟨er,her,hd,rfl⟩|⟨r',s',v',hd,rfl,hD3,hO3⟩⟩
      ·have hg:=HG2.out
       rw [hd] at hg
       have HD4:=zH hg
       have hB3:=hBr.trans hb3
       clear hg hd
       go_wp2
       go_ret2
       exact za_v HD4.out rfl hB3
      ·have hg:=HG2.out
       rw [hd] at hg
       have HD4:=zH hg
       have hB3:=hBr.trans hb3
       obtain⟨q0,q1,q2,q3,q4,q5,q6,q7⟩:=Puny.decStep_bd _ _ _ _ hd i0 i1 n0
       simp only [List.length_cons] at q0 hrf hrl2
       clear hg hd
       go_wp2
       go_roundw
       case rel=>exact⟨f,r',s',v',by omega,by omega,hD3,hO3,HD4,q1,q2,q3,q4,q5,q6,q7,hB3⟩
       case measure =>
        rw [hD3.cells.1,HMS.out.1];simp only [str_size];rw [HMS.out.2];omega
   ·obtain⟨C,hC⟩:∃ C,C=Puny.cut l:=⟨_,rfl⟩
    obtain⟨rfl,hCl⟩:K=(C:Int)/\C < l.length:=by
     rcases HLC2.out with⟨h,h'⟩|⟨h,h'⟩
     ·exact absurd h' hc0
     ·rw [hC];exact⟨h,h'⟩
    have hd:=HD.out
    rw [if_neg hc0,<-hC] at hd
    have hK0:(0:Int) < (C:Int):=by omega
    have HD2:=zH hd
    clear hd hc0 hC HD HLC2
    go_wp2_with fail
    have hC0:0 < C:=by omega
    rw [show decide (0 < C)=true from decide_eq_true hC0]
    go_loopw [30] (fun i w2=>PCopyRel l W0 C i w2) (fun i _=>C - (intOf i).toNat)
    case atStart=>exact⟨0,[],.slice none 0 0,Nat.zero_le _,rfl,zH rfl,zH (by simp),hD,hO,hB⟩
    case round =>
     obtain⟨k,L,v,hk2,rfl,HLK,HL,hDr,hOr,hBr⟩:=hrel
     by_cases hlt2:k < C
     ·have b0:(0:Int)<=(k:Int):=by omega
      have b1:(k:Int) < (C:Int):=by omega
      have b2:(k:Int) < (l.length:Int):=by omega
      have hkl:k < l.length:=by omega
      have HTK:=zH (List.take_succ_eq_append_getElem hkl)
      have hg:∀ h':k < sv.size,sv[k]=l[k]:=by have:=HSV.out;subst this;exact HGET.out k hkl
      generalize l[k]=b at *
      obtain⟨av,cv,rfl,-⟩:=id hOr.sl
      have hne:=hOr.ne_dbox hDr
      obtain⟨c0,c1,-,-,-,-⟩:=hDr.cells
      have f1:=hDr.free 1
      have hgw:=za_a hDr
      have hbw:=hBr.size
      have hLl:L.length<=1000000:=by have:=HLK.out;omega
      have hO4:OwnI W0.heap.size (wr.alloc (.cells #[.int .i64 (IntKind.i64.wrap (b.toNat:Int))] 3)).drew (.slice av L.length cv) L:=hOr.alloc _
      have hD4:DBox (wr.alloc (.cells #[.int .i64 (IntKind.i64.wrap (b.toNat:Int))] 3)).drew W0.heap.size l (Value.slice av L.length cv) 128 0 72 false:=hDr.allocd _
      have hB4:Below W0.heap.size W0 (wr.alloc (.cells #[.int .i64 (IntKind.i64.wrap (b.toNat:Int))] 3)).drew:=(hBr.alloc hbw _).drew
      have hc4:(wr.alloc (.cells #[.int .i64 (IntKind.i64.wrap (b.toNat:Int))] 3)).drew.cell? wr.heap.size=some (iv (IntKind.i64.wrap (b.toNat:Int))):=by
       show (wr.alloc _).cell? _=_
       rw [World.cell?_alloc_at _ _ _ _ rfl];rfl
      have HO4:=zH hO4;have HD4:=zH hD4;have HB4:=zH hB4;have HC4:=zH hc4
      clear hDr hOr hO4 hD4 hB4 hc4
      go_wp2_with fail
      go_region_law (refine zf_q rfl (.tmp 37) (.tmp 42) rfl W0.heap.size (.slice av L.length cv) L (by simp [Act.eval]) HO4.out (IntKind.i64.wrap (b.toNat:Int)) wr.heap.size 1 (by simp [Act.eval]) HC4.out hLl (by simp;omega) ?_;intro g5 k5 w5 hO5 hg5;have hD5:=DBox.grown HD4.out hg5 hne;have c51:=hD5.cells.2.1;have f51:=hD5.free 1)
      all_goals (
       have hwb:IntKind.i64.wrap (b.toNat:Int)=(b.toNat:Int):=by rw [IntKind.wrap_i64];have:=b.toNat_lt;omega
       rw [hwb] at hO5
       have hB5:=HB4.out.grown hg5 (by simp;omega) (fun k hk=>(HO4.out.lt k hk).1)
       clear c51 f51 HO4 HC4 HD4 HB4 hg5
       have hl5:L.length+1=(L ++ [(b.toNat:Int)]).length:=by simp
       rw [hl5] at hO5
       have hne5:=hO5.ne_dbox hD5
       have hD6:=hD5.setPts (.slice g5 (L ++ [(b.toNat:Int)]).length k5)
       have hO6:=hO5.setBox hne5 1 (.slice g5 (L ++ [(b.toNat:Int)]).length k5)
       have hB6:Below W0.heap.size W0 (w5.setCell (W0.heap.size 1) (.slice g5 (L ++ [(b.toNat:Int)]).length k5)):=hB5.setCell (zN _) _
       rw [hl5]
       generalize w5.setCell (W0.heap.size 1) (.slice g5 (L ++ [(b.toNat:Int)]).length k5)=w6 at *
       clear hD5 hO5 hB5 hwb hne5
       go_wp2
       go_roundw
       case rel=>exact⟨k+1,L ++ [(b.toNat:Int)],_,by omega,by go_num,zH (by simp [HLK.out]),zH (by rw [HTK.out,HL.out];simp),hD6,hO6,hB6⟩
       case measure=>simp [intOf];omega)
     ·obtain rfl:k=C:=by omega
      have hlk:=HLK.out
      have hd:=HD2.out
      rw [<-HL.out,<-hlk] at hd
      obtain⟨rest,hrest⟩:∃ rest,rest=l.drop (L.length+1):=⟨_,rfl⟩
      rw [<-hrest] at hd
      have HD2':=zH hd
      have hrl:rest.length<=l.length:=by rw [hrest];simp
      have hpl2:L.length<=1024:=by omega
      have hfr:=HFR.out (k+1) (by omega)
      rw [<-HSV.out,hsz,<-hlk,<-hrest] at hfr
      have f0:=hDr.free 0
      have c0':=hDr.cells.1
      have HSR:=zH (hDr.setRest rest)
      have HOR:=zH (hOr.setBox (hOr.ne_dbox hDr) 0 (.string (str rest)))
      have HBR:=zH (show Below W0.heap.size W0 (wr.setCell W0.heap.size (.string (str rest))) from hBr.setCell (zN _) _)
      obtain⟨ax,cx,hvx,-⟩:=id hOr.sl
      have c1x:=hDr.cells.2.1
      rw [hvx] at c1x
      rw [hlk] at hfr
      clear hD hO hB hd hrest hlk hDr hOr hBr HD2
      have b0:(0:Int)<=(k:Int)+1:=by omega
      have b1:(k:Int)+1<=(l.length:Int):=by omega
      have b2:((k:Int)+1).toNat=k+1:=by omega
      obtain⟨pts,rfl⟩:∃ pts,pts=L:=⟨_,rfl⟩
      by_cases hlim:256 < pts.length
      ·have HD3:=zH (show Puny.decode l=.error 3 by rw [HD2'.out,if_pos hlim])
       have ht2:(256:Int) < (pts.length:Int):=by omega
       clear HD2' HSR HOR
       go_wp2_with fail
       go_ret2
       exact za_v HD3.out rfl HBR.out
      have HD3:=zH (HD2'.out.trans (if_neg hlim))
      have ht2:¬ (256:Int) < (pts.length:Int):=by omega
      clear HD2'
      go_wp2_with fail
      obtain⟨hD,hO,hB⟩:=And.intro HSR.out (And.intro HOR.out HBR.out)
      clear HSR HOR HBR c1x f0 c0'
      generalize (wr.setCell W0.heap.size (.string (str rest)))=w1 at *
      go_loopw [8] (fun u w2=>∃ (f:Nat) (r:List UInt8) (s:Puny.D) (v:Value),r.length < f/\r.length<=l.length/\DBox w2 W0.heap.size r v s.n s.i s.bias (!s.first)/\OwnI W0.heap.size w2 v s.pts/\Hid (Puny.decode l=Puny.decGo f r s)/\0<=s.i/\s.i<=s.pts.length/\0<=s.n/\s.n<=1114111/\0<=s.bias/\s.bias<=1000/\s.pts.length<=256/\Below W0.heap.size W0 w2) (fun _ w2=>match w2.cell? W0.heap.size with|some (.string s)=>s.size|_=>0)
      case atStart=>exact⟨l.length+1,rest,⟨pts,128,0,72,true⟩,_,by omega,hrl,hD,hO,HD3,by simp,by simp,by simp,by simp,by simp,by simp,by simp only;omega,hB⟩
      case round =>
       obtain⟨f,r,s,v,hrf,hrl2,hDr,hOr,HG,i0,i1,n0,n1,b0,b1,pl,hBr⟩:=hrel
       obtain⟨d0,d1,-,-,-,-⟩:=hDr.cells
       have hbs:=hBr.size
       obtain⟨f,rfl⟩:∃ g,f=g+1:=⟨f - 1,by omega⟩
       have hg:=HG.out
       rw [Puny.decGo] at hg
       cases r with
      |nil =>
        rw [if_pos rfl] at hg
        have HD4:=zH hg
        have hto:(str []).toList.isEmpty=true:=by simp
        obtain⟨av,cv,hvv,-⟩:=hOr.sl
        subst hvv
        generalize str []=sv2 at *
        clear hg
        go_wp2
        go_ret2
        exact zj_r HD4.out rfl hOr hBr
      |cons b r =>
        rw [if_neg (by simp)] at hg
        have hto:(str (b :: r)).toList.isEmpty=false:=by simp
        have hstep:=fun W h h' h''=>zo_a W0.heap.size W0.heap.size (b :: r) s v W h h' (zN _) h'' i0 i1 n0 n1 b0 b1 pl (by omega)
        have HSTEP:=zH hstep
        have HG2:=zH hg
        have hms:(str (b :: r)).size=r.length+1:=by simp
        have HMS:=zH (And.intro d0 hms)
        generalize str (b :: r)=sv2 at *
        clear hg hstep hms
        go_wp2_with fail
        refine (HSTEP.out _ hDr hOr hbs).mono ?_;rintro e w3 ⟨hb3,⟨er,her,hd,rfl⟩|⟨r',s',v',hd,rfl,hD3,hO3⟩⟩
        ·have hg:=HG2.out
         rw [hd] at hg
         have HD4:=zH hg
         have hB3:=hBr.trans hb3
         clear hg hd
         go_wp2
         go_ret2
         exact za_v HD4.out rfl hB3
        ·have hg:=HG2.out
         rw [hd] at hg
         have HD4:=zH hg
         have hB3:=hBr.trans hb3
         obtain⟨q0,q1,q2,q3,q4,q5,q6,q7⟩:=Puny.decStep_bd _ _ _ _ hd i0 i1 n0
         simp only [List.length_cons] at q0 hrf hrl2
         clear hg hd
         go_wp2
         go_roundw
         case rel=>exact⟨f,r',s',v',by omega,by omega,hD3,hO3,HD4,q1,q2,q3,q4,q5,q6,q7,hB3⟩
         case measure =>
          rw [hD3.cells.1,HMS.out.1];simp only [str_size];rw [HMS.out.2];omega
end
section
open Go.RowKit
variable {W w w':World} {row:Option Nat} {x:Addr} {c n:Nat} {l:List Int}
theorem zb_m {ops:Array Oper} {o:Oper} {a:Act} {K:Act->World->Prop} {Q:Exit->Act->World->Prop} {E:Prop} (hgd:o.guard=none) (s x:Operand)
 (ho:o.op=.call { callee:=.builtin .append,args:=#[s,x],argTypes:=#[81,81] })
 (base:Nat) (v:Value) (l:List Int) (hs:a.eval s=v) (hown:OwnI base w v l) (b:Option Addr) (m c:Nat) (l2:List Int) (hx:a.eval x=.slice b m c) (hsl:SlI w b m c l2)
 (hlen:l.length+m<=10000000000000) (hbase:base<=w.heap.size)
 (h:∀ v' w',OwnI base w' v' (l ++ l2)->w.grownBy w' v.ownBlock->K (a.put o.dst v') w') :
 if Region.wanted o (yielded ops a.tmps)=true then Oper.wp Tryz.prog o a w K Q else E:=by
 have hw:Region.wanted o (yielded ops a.tmps)=true:=by simp [Region.wanted,hgd]
 rw [if_pos hw]
 obtain⟨i0,hi,hz0,hz1,hz2⟩:=info_parts infoInt
 cases b with
|none =>
  obtain⟨rfl,rfl⟩:=hsl.2.2.2.1 rfl
  obtain rfl:m=0:=hsl.1.symm
  have hrun:=run_append_owned_none (P:=Tryz.prog) (w:=w) base 81 o.type 3 i0 1 Tryz.underlying81 hi v l.length _ hown
  unfold Oper.wp
  simp [execOp,ho,resolve,invoke,builtin,hs,hx,hrun,Result.andThen]
  exact h v w (by simpa using hown) ⟨rfl,rfl,rfl,zN _,fun _ _ _=>rfl⟩
|some ad =>
  have hl2:=hsl.len
  refine wp_append_own w s x 81 ho base 3 i0 (.int .i64 0) 1 8 Tryz.underlying81 hi hz0 hz1 hz2 rfl (by decide) v l.length _ hs hown ad m c (l2.map iv) hx (by simp [hl2]) ?_ ?_ (by unfold maxLen;omega) (by omega) hbase ?_
  ·intro j u hj
   have hjl:j < l2.length:=by
    have:=(List.getElem?_eq_some_iff.1 hj).1;simpa using this
   obtain⟨hsp,hb,this⟩:=hsl.2.2.2.2 ad rfl j hjl
   have hadd:ad.add j=(ad.block (ad.off+j)):=by
    obtain⟨b,o,sp⟩:=ad;simp only at hsp;subst hsp;unfold Addr.add;split <;> simp_all
   rw [hadd,this];rw [<-hj];simp [iv,hjl]
  ·intro u hu
   obtain⟨b,_,rfl⟩:=List.mem_map.1 hu;rfl
  ·intro v' w' h1 h2 _
   refine h v' w' ?_ h2
   unfold OwnI;rw [List.length_append,List.map_append,hl2];exact h1
theorem SlI.grown (h:SlI w (some x) n c l) (hg:w.grownBy w' row) (hne:row ≠ some x.block):SlI w' (some x) n c l:=by
 obtain⟨hl,hn,hc,h0,h1⟩:=h
 refine⟨hl,hn,hc,h0,fun y hy i hi=>?_⟩
 cases hy
 obtain⟨hs,hb,hi⟩:=h1 x rfl i hi
 exact⟨hs,Nat.lt_of_lt_of_le hb hg.size,(World.cell?_of_block (a:=(x.block (x.off+i))) (hg.block _ hb (fun e=>hne e.symm))).trans hi⟩
theorem zg_p (h:SlI w (some x) n c l) (hg:W.grownBy w' row) (he:W.heap=w.heap) (hne:row ≠ some x.block):SlI w' (some x) n c l:=by
 have h':SlI W (some x) n c l:=by
  obtain⟨hl,hn,hc,h0,h1⟩:=h
  refine⟨hl,hn,hc,h0,fun y hy i hi=>?_⟩
  obtain⟨hs,hb,hi⟩:=h1 y hy i hi
  exact⟨hs,by rw [he];exact hb,(World.cell?_of_block (a:=(y.block (y.off+i))) (by rw [he])).trans hi⟩
 exact h'.grown hg hne
theorem za_x {B:Nat} {w0:World} (h:Below B w0 w) (hg:W.grownBy w' row) (he:W.heap=w.heap) (ho:W.os=w.os) (ht:W.tape=w.tape) (hp:W.output=w.output) (hB:B<=w.heap.size) (hk:∀ k,row=some k->B<=k):Below B w0 w':=by
 have h':Below B w0 W:=h.trans ⟨ho,ht,hp,by rw [he];exact zN _,fun k _=>by rw [he]⟩
 exact h'.grown hg (by rw [he];exact hB) hk
theorem zt_e (l:List Int) (m:Nat) (n:Int):([] ++ l.take m) ++ [n] ++ l.drop m=Puny.ins l m n:=by simp [Puny.ins]
end
section
open Go.RowKit
variable {l:List UInt8} {s:Puny.D}
theorem Puny.cut_snoc (l:List UInt8) (b:UInt8):Puny.cut (l ++ [b])=if b=45 then l.length else Puny.cut l:=by
 unfold Puny.cut
 rw [List.reverse_append,List.reverse_singleton,List.singleton_append,List.takeWhile_cons]
 by_cases h:b=45
 ·subst h;simp
 ·simp [h];omega
theorem Puny.cut_le (l:List UInt8):Puny.cut l<=l.length:=by unfold Puny.cut;omega
theorem Puny.step_err {e:Int} (h:Puny.decNum l s.i 1 0 s.bias=.error e):Puny.decStep l s=.error e:=by unfold Puny.decStep;rw [h]
theorem Puny.step_ok {r:List UInt8} {j:Int} (h:Puny.decNum l s.i 1 0 s.bias=.ok (r,j)) :
 Puny.decStep l s=if Puny.point (s.n+j / ((s.pts.length:Int)+1))=false then .error 2 else if 256 < ((s.pts.length:Int)+1) then .error 3 else .ok (r,⟨Puny.ins s.pts (j % ((s.pts.length:Int)+1)).toNat (s.n+j / ((s.pts.length:Int)+1)),s.n+j / ((s.pts.length:Int)+1),j % ((s.pts.length:Int)+1)+1,Puny.adapt (j - s.i) ((s.pts.length:Int)+1) s.first,false⟩):=by unfold Puny.decStep;rw [h]
def PRCopy (l:List UInt8) (W0:World) (C:Nat) (v i:Value) (w2:World):Prop:=∃ k:Nat,k<=C/\i=.int .i64 k/\OwnI W0.heap.size w2 v ((l.take k).map fun b=>(b.toNat:Int))/\Below W0.heap.size W0 w2
def PRDec (l:List UInt8) (W0:World) (v6 v8 v9 v10 v11 v12:Value) (w2:World):Prop:=∃ (f at':Nat) (s:Puny.D),at'<=l.length/\l.length - at' < f/\v8=.int .i64 at'/\v9=.int .i64 s.n/\v10=.int .i64 s.i/\v11=.int .i64 s.bias/\v12=.bool s.first ∧
 OwnI W0.heap.size w2 v6 s.pts/\Hid (Puny.decode l=Puny.decGo f (l.drop at') s)/\0<=s.i/\s.i<=s.pts.length/\0<=s.n/\s.n<=1114111/\0<=s.bias/\s.bias<=1000/\s.pts.length<=256/\Below W0.heap.size W0 w2
def PRNum (l:List UInt8) (at':Nat) (i bias:Int) (v8 v10 v14 v15:Value):Prop:=∃ (a k:Nat) (x j:Int),at'<=a/\a<=l.length/\k<=a/\v8=.int .i64 a/\v10=.int .i64 j/\v14=.int .i64 x/\v15=.int .i64 k/\0<=x/\x<=1099511627776/\0<=j/\j<=1099511627776 ∧
 Hid (Puny.decNum (l.drop at') i 1 0 bias=Puny.decNum (l.drop a) j x k bias)
theorem dcx (w:World) (N:Int) :
 Hid (OwnI w.heap.size (w.alloc (.cells #[] 3)) (.slice w.heap.size 0 0) [])/\Hid (OwnI w.heap.size ((w.alloc (.cells #[] 3)).alloc (.cells #[N] 3)) (.slice w.heap.size 0 0) []) ∧
 Hid (OwnI w.heap.size ((w.alloc (.cells #[N] 3)).alloc (.cells #[] 3)) (.slice (w.heap.size+1:Nat) 0 0) []) ∧
 Hid (SlI ((w.alloc (.cells #[] 3)).alloc (.cells #[N] 3)) (w.heap.size+1:Nat) 1 1 [N])/\Hid (SlI ((w.alloc (.cells #[N] 3)).alloc (.cells #[] 3)) w.heap.size 1 1 [N]) ∧
 Hid (Below w.heap.size w (w.alloc (.cells #[] 3))/\Below w.heap.size w ((w.alloc (.cells #[] 3)).alloc (.cells #[N] 3))/\Below w.heap.size w ((w.alloc (.cells #[N] 3)).alloc (.cells #[] 3))):=by
 have hez:=OwnI.empty (base:=w.heap.size) (w.alloc (.cells #[N] 3)) (by simp)
 rw [show (w.alloc (.cells #[N] 3)).heap.size=w.heap.size+1 by simp] at hez
 have hNY:=SlI.one (w.alloc (.cells #[] 3)) N 3
 rw [show (w.alloc (.cells #[] 3)).heap.size=w.heap.size+1 by simp] at hNY
 exact⟨zH (OwnI.empty w (zN _)),zH (OwnI.alloc (OwnI.empty w (zN _)) _),zH hez,zH hNY,zH ((SlI.one w N 3).ext ((Below.refl _ _).alloc (zN _) _)),
  zH ⟨(Below.refl _ _).alloc (zN _) _,((Below.refl _ _).alloc (zN _) _).alloc (by simp) _,((Below.refl _ _).alloc (zN _) _).alloc (by simp) _⟩⟩
set_option maxHeartbeats 8000000 in
set_option maxRecDepth 100000 in
theorem zo_c (l:List UInt8) (w:World) (hl:l.length<=1000000):Calls Tryz.prog 212 #[.string (str l)] w (PDecPost l w):=by
 have hsz:=str_size l
 by_cases hn:1024 < l.length
 ·have hd:Puny.decode l=.error 3:=by unfold Puny.decode;rw [if_pos hn]
  have HD:=zH hd
  have ht:(1024:Int) < (l.length:Int):=by omega
  clear hd hn
  go_enter Tryz.func212,Tryz.ntmps212
  go_wp2_with fail
  go_ret2
  exact za_v HD.out rfl (Below.refl _ _)
 have ht:¬ (1024:Int) < (l.length:Int):=by omega
 have hde:¬ (∀ b ∈ l,b.toNat < 128)->Puny.decode l=.error 4:=by
  intro h;unfold Puny.decode;rw [if_neg hn,if_pos (by rw [Bool.eq_false_iff,ne_eq,List.all_eq_true];simpa using h)]
 have hdo:(∀ b ∈ l,b.toNat < 128)->Puny.decode l=if 256 < Puny.cut l then .error 3 else Puny.decGo (l.length+1) (if Puny.cut l=0 then l else l.drop (Puny.cut l+1)) ⟨(l.take (Puny.cut l)).map fun b=>(b.toNat:Int),128,0,72,true⟩:=by
  intro h;unfold Puny.decode;rw [if_neg hn,if_neg (by rw [Bool.not_eq_false,List.all_eq_true];simpa using h)]
 have HDE:=zH hde;have HDO:=zH hdo
 have hget:∀ k (h:k < l.length) hq,(str l)[k]'hq=l[k]:=fun k h hq=>zf_r _ _ _
 have HCL:=zH (Puny.cut_le l)
 have HCN:=zH (fun h:Puny.cut l ≠ 0=>(Puny.cut_lt l h).1)
 obtain⟨sv,hsv⟩:∃ sv,sv=str l:=⟨_,rfl⟩
 have hget2:∀ i (h:i < l.length) (h':i < sv.size),sv[i]=l[i]:=by subst hsv;exact hget
 rw [<-hsv] at hsz ⊢
 have HGET:=zH hget2
 clear hde hdo hget hget2 hsv
 go_enter Tryz.func212,Tryz.ntmps212
 go_wp2_with fail
 go_loopw [4,5] (fun v i wr=>∃ k:Nat,k<=l.length/\i=.int .i64 k/\v=.int .i64 (Puny.cut (l.take k):Nat)/\Hid (∀ b ∈ l.take k,b.toNat < 128)/\wr=w) (fun _ i _=>l.length - (intOf i).toNat)
 case atStart=>exact⟨0,Nat.zero_le _,rfl,rfl,zH (by simp),rfl⟩
 case round =>
  obtain⟨k,hk,rfl,rfl,HP,rfl⟩:=hrel
  by_cases hlt:k < l.length
  ·have b0:(0:Int)<=(k:Int):=by omega
   have b1:(k:Int) < (l.length:Int):=by omega
   have htk:=List.take_succ_eq_append_getElem hlt
   have hmem:l[k] ∈ l:=List.getElem_mem hlt
   have hcs:=Puny.cut_snoc (l.take k) l[k]
   rw [<-htk,List.length_take,Nat.min_eq_left (Nat.le_of_lt hlt)] at hcs
   have hg:=HGET.out k hlt
   generalize l[k]=b at *
   by_cases h128:128<=b.toNat
   ·have HD:=zH (HDE.out (fun h=>by have:=h b hmem;omega))
    have hb2:(128:Int)<=(b.toNat:Int):=by omega
    clear htk hmem hcs
    go_wp2_with fail
    go_ret2
    exact za_v HD.out rfl (Below.refl _ _)
   ·have hb2:¬ (128:Int)<=(b.toNat:Int):=by omega
    have HN:=zH (show ∀ x ∈ l.take (k+1),x.toNat < 128 by
     rw [htk];intro x hx
     rcases List.mem_append.1 hx with hx|hx
     ·exact HP.out x hx
     ·simp at hx;subst hx;omega)
    clear htk hmem
    by_cases h45:b=45
    case' pos=>
     rw [if_pos h45] at hcs
     have HCS:=zH hcs
     have ht45:((b.toNat:Int) == 45)=true:=by rw [h45];rfl
     have ht46:(b.toNat:Int)=45:=by rw [h45];rfl
    case' neg=>
     rw [if_neg h45] at hcs
     have HCS:=zH hcs
     have hb3:¬ (b.toNat:Int)=45:=fun e=>h45 (UInt8.toNat_inj.1 (by simpa using (by omega:b.toNat=45)))
     have ht45:((b.toNat:Int) == 45)=false:=by simpa using hb3
    all_goals
     clear hcs h45
     go_wp2_with fail
     go_roundw
     case rel=>exact⟨k+1,by omega,by go_num,by rw [HCS.out],HN,by first|rfl|trivial⟩
     case measure=>simp [intOf];omega
  ·obtain rfl:k=l.length:=by omega
   obtain⟨W0,rfl⟩:∃ W0,W0=wr:=⟨_,rfl⟩
   rw [List.take_of_length_le (zN _)] at HP ⊢
   have HD:=zH (HDO.out HP.out)
   have hcl:=HCL.out
   have hcn:=HCN.out
   clear HDE HDO HP HCL HCN
   generalize Puny.cut l=C at *
   go_wp2_with fail
   go_loopw [6,7] (fun v i w2=>PRCopy l W0 C v i w2) (fun _ i _=>C - (intOf i).toNat)
   case atStart=>exact⟨0,Nat.zero_le _,rfl,by simpa using OwnI.nil _ _,Below.refl _ _⟩
   case round =>
    obtain⟨k,hk2,rfl,hO,hB⟩:=hrel
    by_cases hlt2:k < C
    ·have b0:(0:Int)<=(k:Int):=by omega
     have b1:(k:Int) < (C:Int):=by omega
     have b2:(k:Int) < (l.length:Int):=by omega
     have hkl:k < l.length:=by omega
     have HTK:=zH (List.take_succ_eq_append_getElem hkl)
     have hg:=HGET.out k hkl
     generalize l[k]=b at *
     have hbw:=hB.size
     have hLl:((l.take k).map fun b=>(b.toNat:Int)).length<=1024:=by simp;omega
     have hwb:IntKind.i64.wrap (b.toNat:Int)=(b.toNat:Int):=by rw [IntKind.wrap_i64];have:=b.toNat_lt;omega
     have HONE:=zH (SlI.one wr (b.toNat:Int) 3)
     go_wp2_with (at_builtin;go_must (refine zd_q rfl _ _ rfl W0.heap.size _ _ rfl (hO.alloc _) _ _ _ [(b.toNat:Int)] rfl HONE.out (by omega) (by simp;omega) ?_);intro v1 w1 hO1 hg1)
     have hB1:=(hB.alloc hbw (.cells #[.int .i64 (b.toNat:Int)] 3)).grown hg1 (by simp;omega) (fun k hk=>(hO.lt k hk).1)
     clear hg1 hO hB
     go_wp2
     go_roundw
     case rel=>exact⟨k+1,by omega,by go_num,by rw [HTK.out,List.map_append];exact hO1,hB1⟩
     case measure=>simp [intOf];omega
    ·obtain rfl:k=C:=by omega
     obtain⟨pts,hpts⟩:∃ pts,pts=(l.take k).map fun b=>(b.toNat:Int):=⟨_,rfl⟩
     have hpl:pts.length=k:=by rw [hpts];simp;omega
     rw [<-hpts] at hO
     have hd:=HD.out
     rw [<-hpts] at hd
     obtain⟨a6,c6,hv6,-⟩:=id hO.sl
     subst hv6
     have hbw:=hB.size
     clear hpts
     by_cases hlim:256 < k
     ·have HD3:=zH (show Puny.decode l=.error 3 by rw [hd,if_pos hlim])
      have ht2:(256:Int) < (pts.length:Int):=by omega
      clear hd HD
      go_wp2_with fail
      go_ret2
      exact za_v HD3.out rfl hB
     rw [if_neg hlim] at hd
     have ht2:¬ (256:Int) < (pts.length:Int):=by omega
     obtain⟨at0,hat0⟩:∃ n,n=if k=0 then 0 else k+1:=⟨_,rfl⟩
     have hdd:Puny.decode l=Puny.decGo (l.length+1) (l.drop at0) ⟨pts,128,0,72,true⟩:=by
      rw [hd,hat0];split <;> rfl
     have HD3:=zH hdd
     have hal:at0<=l.length:=by rw [hat0];split <;> omega
     have hpl2:pts.length<=256:=by omega
     clear hd HD hdd hcn hpl hlim
     by_cases hk0:k=0
     case' pos=>
      have ht0:¬ (0:Int) < (k:Int):=by omega
      have he:k=at0:=by rw [hat0,if_pos hk0];exact hk0
     case' neg=>
      have ht0:(0:Int) < (k:Int):=by omega
      have he:k+1=at0:=by rw [hat0,if_neg hk0]
     all_goals
      clear hat0 hk0
      go_wp2_with fail
      go_loopw [6,8,9,10,11,12] (fun v6 v8 v9 v10 v11 v12 w2=>PRDec l W0 v6 v8 v9 v10 v11 v12 w2) (fun _ v8 _ _ _ _ _=>l.length - (intOf v8).toNat)
      case atStart=>exact⟨l.length+1,at0,⟨pts,128,0,72,true⟩,hal,by omega,by rw [<-he] <;> go_num,rfl,rfl,rfl,rfl,hO,HD3,by simp,by simp,by simp,by simp,by simp,by simp,hpl2,hB⟩
      case round =>
       clear hB hO HD3 he hal hpl2 hbw
       obtain⟨f,at',⟨pts,n,i,bias,first⟩,hat,hf,rfl,rfl,rfl,rfl,rfl,hO,HG,i0,i1,n0,n1,d0,d1,pl,hB⟩:=hrel
       simp only at hO HG i0 i1 n0 n1 d0 d1 pl
       obtain⟨f,rfl⟩:∃ g,f=g+1:=⟨f - 1,by omega⟩
       have hbw:=hB.size
       obtain⟨a6,c6,rfl,hs6⟩:=id hO.sl
       by_cases hlt3:at' < l.length
       ·have b0:(at':Int) < (l.length:Int):=by omega
        have hne:l.drop at' ≠ []:=by intro e;have:=congrArg List.length e;simp at this;omega
        have hg:=HG.out
        rw [Puny.decGo,if_neg hne] at hg
        have HERR:=zH (fun e (h:Puny.decNum (l.drop at') i 1 0 bias=.error e)=>by rw [hg,Puny.step_err (s:=⟨pts,n,i,bias,first⟩) h]:∀ e,Puny.decNum (l.drop at') i 1 0 bias=.error e->Puny.decode l=.error e)
        have HOK:=zH (fun r j (h:Puny.decNum (l.drop at') i 1 0 bias=.ok (r,j))=>hg.trans (by rw [Puny.step_ok (s:=⟨pts,n,i,bias,first⟩) h]))
        clear hg HG hne
        go_wp2_with fail
        go_loop [8,10,14,15] (fun v8 v10 v14 v15=>PRNum l at' i bias v8 v10 v14 v15) (fun v8 _ _ _=>l.length - (intOf v8).toNat)
        case atStart=>exact⟨at',0,1,i,zN _,by omega,by omega,rfl,rfl,rfl,rfl,by omega,by omega,by omega,by omega,zH rfl⟩
        case round =>
         obtain⟨a,k,x,j,hata,ha,hka,rfl,rfl,rfl,rfl,x0,x1,j0,j1,HN⟩:=hrel
         by_cases hla:a < l.length
         ·have e0:(a:Int) < (l.length:Int):=by omega
          have e00:(0:Int)<=(a:Int):=by omega
          have hgt:=HGET.out a hla
          have hg:=HN.out
          rw [List.drop_eq_getElem_cons hla,Puny.decNum] at hg
          generalize l[a]=b at *
          obtain⟨t1,t2⟩:=Puny.thr_bd k bias
          obtain⟨v0,v1⟩:=Puny.value_bd b
          have hx:=Int.mul_le_mul_of_nonneg_left v1 x0
          have hx':=Int.mul_le_mul_of_nonneg_left v0 x0
          rw [Int.mul_comm x (Puny.value b)] at hx hx'
          rw [Int.mul_comm x (-1)] at hx'
          have hpos:0<=Puny.value b->0<=Puny.value b * x:=fun h=>Int.mul_nonneg h x0
          have hthr:=fun W=>ze_l k bias W (by omega) d0 d1
          have HTH:=zH hthr
          have hval:=fun W=>zl_b false b W
          have HVAL:=zH hval
          clear hval hthr
          generalize Puny.value b=u at *
          generalize Puny.thr k bias=t at *
          obtain⟨y,hy⟩:∃ y,y=u * x:=⟨_,rfl⟩
          rw [<-hy] at hg hx hx' hpos
          have HY:=zH hy
          clear hy
          by_cases hu:u < 0
          ·rw [if_pos hu] at hg
           have HD4:=zH (HERR.out _ hg)
           clear hg HERR HOK
           go_wp2_with fail
           refine (HVAL.out _).mono ?_;rintro e w2 ⟨rfl,rfl⟩
           go_wp2_with fail
           go_ret2
           exact za_v HD4.out rfl hB
          rw [if_neg hu] at hg
          have hy0:=hpos (by omega)
          have hy1:y<=38482906972160:=by omega
          have hwr:IntKind.i64.wrap (u * x)=y:=by rw [<-HY.out,IntKind.wrap_i64];omega
          clear hpos hx hx'
          by_cases ho:1099511627776 < j+y
          ·rw [if_pos ho] at hg
           have HD4:=zH (HERR.out _ hg)
           have hwr2:IntKind.i64.wrap (j+y)=j+y:=by rw [IntKind.wrap_i64];omega
           clear hg HERR HOK
           go_wp2_with fail
           refine (HVAL.out _).mono ?_;rintro e w2 ⟨rfl,rfl⟩
           go_wp2_with fail
           go_ret2
           exact za_v HD4.out rfl hB
          rw [if_neg ho] at hg
          obtain⟨J,hJ⟩:∃ J,J=j+y:=⟨_,rfl⟩
          rw [<-hJ] at hg ho
          have hwr2:IntKind.i64.wrap (j+y)=J:=by rw [hJ,IntKind.wrap_i64];omega
          have J0:0<=J:=by omega
          have HJ:=zH hJ
          clear hJ
          by_cases ht:u < t
          ·rw [if_pos ht] at hg
           obtain⟨Ji,-,-⟩:=Puny.decNum_bd _ _ _ _ _ _ _ i0 (by omega) hg
           have hok:=HOK.out _ _ hg
           have HOK2:=zH hok
           clear hg hok HERR HOK HN
           go_wp2_with fail
           refine (HVAL.out _).mono ?_;rintro e w2 ⟨rfl,rfl⟩
           go_wp2_with fail
           refine (HTH.out _).mono ?_;rintro e w2 ⟨rfl,rfl⟩
           go_wp2_with fail
           have had:=fun W=>ze_u false (J - i) ((pts.length:Int)+1) first W (by omega) (by omega) (by omega) (by omega)
           refine (had _).mono ?_;rintro e w2 ⟨rfl,rfl⟩
           clear had
           have hbd:=Puny.adapt_bd (J - i) ((pts.length:Int)+1) first (by omega) (by omega) (by omega)
           have hok:=HOK2.out
           generalize Puny.adapt (J - i) ((pts.length:Int)+1) first=nb at *
           have hq0:0<=J / ((pts.length:Int)+1):=Int.ediv_nonneg (by omega) (by omega)
           have hq1:J / ((pts.length:Int)+1)<=J:=Int.ediv_le_self _ (by omega)
           have hm0:0<=J % ((pts.length:Int)+1):=Int.emod_nonneg _ (by omega)
           have hm1:J % ((pts.length:Int)+1) < ((pts.length:Int)+1):=Int.emod_lt_of_pos _ (by omega)
           have HOK3:=zH hok
           clear hok HOK2
           go_wp2_with fail
           obtain⟨N,hN⟩:∃ N,N=n+J / ((pts.length:Int)+1):=⟨_,rfl⟩
           obtain⟨m,hm⟩:∃ m:Nat,(m:Int)=J % ((pts.length:Int)+1):=⟨(J % ((pts.length:Int)+1)).toNat,by omega⟩
           have hmt:(J % ((pts.length:Int)+1)).toNat=m:=by omega
           have hok:=HOK3.out
           rw [hmt,<-hm,<-hN] at hok
           have hml:m<=pts.length:=by omega
           have hN0:0<=N:=by omega
           have hN1:N<=2000000000000:=by omega
           rw [<-hm,<-hN]
           clear hm hN hmt hm0 hm1 hq0 hq1 HOK3
           refine (zh_c false N _ (by omega) (by omega)).mono ?_;rintro e w2 ⟨rfl,rfl⟩
           cases hp:Puny.point N with
          |false =>
            rw [hp,if_pos rfl] at hok
            have HD4:=zH hok
            clear hok hp
            go_wp2_with fail
            go_ret2
            exact za_v HD4.out rfl hB
          |true =>
            rw [hp,if_neg (by simp)] at hok
            have hN2:=((Puny.point_iff N).1 hp).2.1
            have HOK4:=zH hok
            clear hok hp
            go_wp2_with fail
            have hs1:=hs6.take hml
            have hc6:=hs6.2.1
            have g0:(0:Int)<=(m:Int):=by omega
            have g1:(m:Int)<=(c6:Int):=by omega
            have g2:(m:Int)<=(pts.length:Int):=by omega
            have hlt6:=hO.lt
            have heq:=zt_e pts m N
            have hil:=Puny.ins_length pts m N hml
            have hok:=HOK4.out
            obtain⟨IN,hIN⟩:∃ I,Puny.ins pts m N=I:=⟨_,rfl⟩
            obtain⟨I1,hI1⟩:∃ x:Int,x=(m:Int)+1:=⟨_,rfl⟩
            rw [hIN] at heq hil hok
            rw [<-hI1,show (pts.length:Int)+1=(IN.length:Int) by omega] at hok
            have HI1:=zH hI1
            have HEQ:=zH heq
            have HOK5:=zH hok
            have hml2:I1<=(IN.length:Int):=by omega
            have hi0:0<=I1:=by omega
            clear hI1 hIN hil hok HOK4 heq
            rcases id hO.2 with⟨hv,hn0⟩|⟨g6,cap,cur,hv,-⟩
            case' inl=>
             injection hv with hv1 hv0 hv2
             subst hv1;subst hv2
             obtain rfl:pts=[]:=List.eq_nil_of_length_eq_zero hn0
             obtain rfl:m=0:=by simpa using hml
             have hs1:SlI wr none 0 0 (([]:List Int).take 0):=SlI.nil wr
             have hs2:SlI wr none 0 0 (([]:List Int).drop 0):=SlI.nil wr
             clear hs6 hlt6 hn0 hv0 g0 g1 g2
            case' inr=>
             injection hv with hv1 _ hv2
             subst hv1;subst hv2
             have hg6:g6 < wr.heap.size:=(hlt6 _ rfl).2
             have htl:(pts.take m).length=m:=by simp;omega
             by_cases hcm:c6=m
             case' pos=>
              subst c6
              have hs2:SlI wr g6 0 0 (pts.drop m):=by
               rw [List.drop_eq_nil_of_le (by omega)];exact SlI.zero _ _ _ (by unfold maxLen;omega)
             case' neg=>
              have hs2:=hs6.drop hml
              simp only [Nat.zero_add] at hs2
            all_goals
             obtain⟨HEX,HEY,HEZ,HNY,HNZ,HBXYZ⟩:=dcx wr N
             have HSX:=zH (hs1.ext HBXYZ.out.1);have HSY:=zH (hs1.ext HBXYZ.out.2.1);have HSZ:=zH (hs1.ext HBXYZ.out.2.2)
             have HS2:=zH hs2
             clear hs2 hs1
             go_region_law (first|(refine zb_m rfl (.tmp 117) (.tmp 120) rfl wr.heap.size _ [] rfl (by first|exact HEX.out|exact HEY.out|exact HEZ.out) _ _ _ _ rfl (by first|exact HSX.out|exact HSY.out|exact HSZ.out) (by simp <;> omega) (by simp <;> omega) ?_;intro v1 w1 hO1 hg1;have hb1:Below wr.heap.size wr w1:=(by first|exact za_x HBXYZ.out.1 hg1 rfl rfl rfl rfl (by simp <;> omega) (fun k hk=>by cases hk;first|exact zN _|exact Nat.le_succ _)|exact za_x HBXYZ.out.2.1 hg1 rfl rfl rfl rfl (by simp <;> omega) (fun k hk=>by cases hk;first|exact zN _|exact Nat.le_succ _)|exact za_x HBXYZ.out.2.2 hg1 rfl rfl rfl rfl (by simp <;> omega) (fun k hk=>by cases hk;first|exact zN _|exact Nat.le_succ _));have hsz1:=hb1.size)|(refine zb_m rfl (.tmp 121) (.tmp 123) rfl wr.heap.size _ _ rfl (by first|exact hO1|exact hO1.alloc _) _ _ _ [N] rfl (by first|exact SlI.one w1 N _|exact zg_p HNY.out hg1 rfl (fun e=>Nat.succ_ne_self _ (Option.some.inj e).symm)|exact zg_p HNZ.out hg1 rfl (fun e=>Nat.succ_ne_self _ (Option.some.inj e))) (by simp <;> omega) (by first|exact hsz1|(simp <;> omega)) ?_;intro v2 w2 hO2 hg2;have hb2:Below wr.heap.size wr w2:=(by first|exact za_x hb1 hg2 rfl rfl rfl rfl hsz1 (fun k hk=>(hO1.lt k hk).1)|exact za_x (hb1.alloc hsz1 (.cells #[N] 3)) hg2 rfl rfl rfl rfl (by simp <;> omega) (fun k hk=>(hO1.lt k hk).1));have hsz2:=hb2.size)|(refine zb_m rfl (.tmp 124) (.tmp 127) rfl wr.heap.size _ _ rfl hO2 _ _ _ _ rfl (HS2.out.ext hb2) (by simp <;> omega) hsz2 ?_;intro v3 w3 hO3 hg3;have hb3:Below wr.heap.size wr w3:=za_x hb2 hg3 rfl rfl rfl rfl hsz2 (fun k hk=>(hO2.lt k hk).1)))
             all_goals
              have hb:=hB.trans (hb3.mono hbw)
              rw [HEQ.out] at hO3
              have hO4:=hO3.mono hbw
              obtain⟨a7,c7,rfl,-⟩:=id hO4.sl
              clear hg1 hg2 hg3 hO1 hO2 hO3 hb1 hb2 hb3 HSX HSY HSZ HEX HEY HEZ HNY HNZ HBXYZ HS2 hsz1 hsz2 HEQ
              have hok:=HOK5.out
              by_cases h256:256 < (IN.length:Int)
              ·rw [if_pos h256] at hok
               have HD4:=zH hok
               clear hok HOK5
               go_wp2_with fail
               go_ret2
               exact za_v HD4.out rfl hb
              ·rw [if_neg h256] at hok
               have HG4:=zH hok
               clear hok HOK5
               go_wp2_with fail
               go_roundw
               case rel=>exact⟨f,a+1,⟨IN,N,I1,nb,false⟩,by omega,by omega,by go_num,rfl,by rw [HI1.out] <;> go_num,rfl,rfl,hO4,HG4,hi0,hml2,hN0,hN2,hbd.1,hbd.2,by simp;omega,hb⟩
               case measure=>simp [intOf];omega
          rw [if_neg ht] at hg
          have hz2:=Int.mul_le_mul_of_nonneg_left (show 36 - t<=35 by omega) x0
          have hz3:=Int.mul_nonneg x0 (show 0<=36 - t by omega)
          obtain⟨z,hzz⟩:∃ z,z=x * (36 - t):=⟨_,rfl⟩
          rw [<-hzz] at hg hz2 hz3
          have hwr3:IntKind.i64.wrap (x * (36 - t))=z:=by rw [<-hzz,IntKind.wrap_i64];omega
          clear hzz
          by_cases ho2:1099511627776 < z
          ·rw [if_pos ho2] at hg
           have HD4:=zH (HERR.out _ hg)
           clear hg HERR HOK
           go_wp2_with fail
           refine (HVAL.out _).mono ?_;rintro e w2 ⟨rfl,rfl⟩
           go_wp2_with fail
           refine (HTH.out _).mono ?_;rintro e w2 ⟨rfl,rfl⟩
           go_wp2_with fail
           go_ret2
           exact za_v HD4.out rfl hB
          ·rw [if_neg ho2] at hg
           have HG4:=zH hg
           clear hg
           go_wp2_with fail
           refine (HVAL.out _).mono ?_;rintro e w2 ⟨rfl,rfl⟩
           go_wp2_with fail
           refine (HTH.out _).mono ?_;rintro e w2 ⟨rfl,rfl⟩
           go_wp2_with fail
           go_round
           case rel=>exact⟨a+1,k+1,z,J,by omega,by omega,by omega,by go_num,rfl,rfl,by go_num,hz3,by omega,J0,by omega,HG4⟩
           case measure=>simp [intOf];omega
         ·obtain rfl:a=l.length:=by omega
          have hg:=HN.out
          rw [List.drop_length,Puny.decNum] at hg
          have HD4:=zH (HERR.out _ hg)
          clear hg HERR HOK
          go_wp2_with fail
          go_ret2
          exact za_v HD4.out rfl hB
       ·obtain rfl:at'=l.length:=by omega
        have hg:=HG.out
        rw [List.drop_length,Puny.decGo,if_pos rfl] at hg
        have HD4:=zH hg
        clear hg HG
        go_wp2_with fail
        go_ret2
        exact zj_r HD4.out rfl hO hB
end
end Go.Proofs.YtmanejniepghlaaGreatDoor
