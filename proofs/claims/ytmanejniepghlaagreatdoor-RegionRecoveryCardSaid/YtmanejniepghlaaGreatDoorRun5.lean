import Derived.Test.YtmanejniepghlaaGreatDoorRun0
import Derived.OwnWalk
import Derived.IntWalk
import Derived.Lib.Strings
namespace Go.Proofs.YtmanejniepghlaaGreatDoor
open Go.RowKit
set_option maxRecDepth 100000
variable {l:List UInt8} {f i:Nat} {ps:List (List UInt8)}
theorem strSize (l:List UInt8):(str l).size=l.length:=by simp [str,ByteArray.size]
theorem strGet (l:List UInt8) (i:Nat) (h:i < (str l).size):(str l)[i]=l[i]'(by rw [strSize] at h;exact h):=by simp [str];rfl
theorem strCut (l:List UInt8) (i j:Nat):(str l).extract i j=str ((l.take j).drop i):=by
 rw [Lib.extract_eq,List.drop_take];rfl
namespace Host
def Part (l:List UInt8) (i from_:Nat) (ps:List (List UInt8)):Prop :=
 from_<=i/\i<=l.length/\(∀ j (h:j < l.length),from_<=j->j < i->l[j] ≠ 46)/\split l=ps ++ split (l.drop from_)
theorem Part.start (l:List UInt8):Part l 0 0 []:=⟨zN _,Nat.zero_le _,fun j _ _ h=>by omega,rfl⟩
theorem Part.step (h:Part l i f ps) (hi:i < l.length) (hx:l[i] ≠ 46):Part l (i+1) f ps:=by
 obtain⟨h1,h2,h3,h4⟩:=h
 refine⟨by omega,by omega,fun j hj hf hk=>?_,h4⟩
 rcases Nat.lt_or_ge j i with e|e
 ·exact h3 j hj hf e
 ·obtain rfl:j=i:=by omega
  exact hx
theorem Part.nodot (h:Part l i f ps):∀ x ∈ (l.take i).drop f,x ≠ 46:=by
 obtain⟨h1,h2,h3,-⟩:=h
 intro x hx
 obtain⟨j,hj,rfl⟩:=List.mem_iff_getElem.1 hx
 rw [List.length_drop,List.length_take] at hj
 rw [List.getElem_drop,List.getElem_take]
 exact h3 _ (by omega) (by omega) (by omega)
theorem Part.cut (h:Part l i f ps) (hi:i < l.length) (hx:l[i]=46):Part l (i+1) (i+1) (ps ++ [(l.take i).drop f]):=by
 have hn:=h.nodot
 obtain⟨h1,h2,h3,h4⟩:=h
 refine⟨zN _,by omega,fun j _ h5 h6=>by omega,?_⟩
 have e:l.drop f=(l.take i).drop f ++ 46 :: l.drop (i+1):=by
  conv=>lhs;rw [<-List.take_append_drop i l]
  rw [List.drop_append,List.length_take,Nat.min_eq_left h2,Nat.sub_eq_zero_of_le h1,List.drop_zero,List.drop_eq_getElem_cons hi,hx]
 rw [h4,e,zf_m _ _ hn];simp
theorem Part.done (h:Part l l.length f ps):split l=ps ++ [(l.take l.length).drop f]:=by
 have hn:=h.nodot
 obtain⟨h1,h2,h3,h4⟩:=h
 rw [h4]
 rw [List.take_length] at hn ⊢
 rw [za_w _ hn]
end Host
def SplRel (l:List UInt8) (W0:World) (v f i:Value) (wr:World):Prop:=∃ (k m:Nat) (ps:List (List UInt8)),i=.int .i64 (k:Nat)/\f=.int .i64 (m:Nat)/\OwnT W0.heap.size wr v ps/\ps.length<=k/\Below W0.heap.size W0 wr ∧
 ((k<=l.length/\m<=k/\Hid (Host.Part l k m ps))\/(k=l.length+1/\Hid (Host.split l=ps)))
set_option maxHeartbeats 2000000 in
theorem ze_t (l:List UInt8) (hl:l.length<=1000000) (w:World) :
 Calls Tryz.prog 167 #[.string (str l),.int .u8 46] w fun e w'=>∃ v,e=.returned v/\OwnT w.heap.size w' v (Host.split l)/\Below w.heap.size w w':=by
 have hsz:=strSize l
 have hget:∀ k (h:k < l.length) (hq:k < (str l).size),(str l)[k]'hq=l[k]'h:=fun k h hq=>strGet _ _ _
 have hcut:=strCut l
 obtain⟨sv,hsv⟩:∃ sv,sv=str l:=⟨_,rfl⟩
 rw [<-hsv] at hsz hget hcut ⊢
 have HGET:=zH hget
 have HCUT:=zH hcut
 clear hget hcut hsv
 go_enter Tryz.func167,Tryz.ntmps167
 go_wp2_with fail
 go_loopw [5,6,7] (fun v f i wr=>SplRel l w v f i wr) (fun _ _ i _=>l.length+1 - (intOf i).toNat)
 case atStart=>exact⟨0,0,[],rfl,rfl,OwnT.nil _ _,zN _,Below.refl _ _,.inl ⟨Nat.zero_le _,zN _,zH (Host.Part.start l)⟩⟩
 case round =>
  obtain⟨k,m,ps,rfl,rfl,hO,hpk,hB,hcase⟩:=hrel
  have i0:(0:Int)<=(k:Int):=by omega
  have m0:(0:Int)<=(m:Int):=by omega
  have hsz2:=hB.size
  rcases hcase with⟨hk,hmk,HP⟩|⟨rfl,HP⟩
  ·have i1:(k:Int)<=(l.length:Int):=by omega
   have i2:(m:Int)<=(k:Int):=by omega
   have HC:=HCUT.out m k
   obtain⟨q,hq⟩:∃ q,(l.take k).drop m=q:=⟨_,rfl⟩
   rw [hq] at HC
   have HONE:=zH (fun W t=>SlT.one W q t)
   by_cases hlt:k < l.length
   ·have i3:(k:Int) < (l.length:Int):=by omega
    have i4:((k:Int) == (l.length:Int))=false:=by simp;omega
    have hg:=HGET.out k hlt
    obtain⟨x,hx⟩:∃ x,l[k]=x:=⟨_,rfl⟩
    rw [hx] at hg
    by_cases hdot:x=46
    ·have HN:=zH (HP.out.cut hlt (hx.trans hdot))
     rw [hq] at HN
     have t1:((x.toNat:Int) == 46)=true:=by rw [hdot];rfl
     clear hq hx hdot
     go_wp2_with (at_builtin;refine zb_r rfl _ _ rfl w.heap.size _ ps rfl (hO.alloc _) wr.heap.size 1 1 [q] rfl (HONE.out _ _) (by omega) (by simp;omega) ?_;intro v' w2 hown hg)
     have hgr:Below w.heap.size w w2:=(hB.alloc (by omega) _).grown hg (by simp;omega) (fun g hg=>(hO.lt g hg).1)
     clear hg
     go_wp2_with fail
     go_roundw
     case rel=>exact⟨k+1,k+1,ps ++ [q],by go_num,by go_num,hown,by rw [List.length_append];simp;omega,hgr,.inl ⟨by omega,by omega,HN⟩⟩
     case measure=>simp [intOf];omega
    ·have t1:((x.toNat:Int) == 46)=false:=by
      apply beq_eq_false_iff_ne.2;intro e;apply hdot;apply UInt8.toNat_inj.1;exact Int.ofNat.inj e
     have HN:=zH (HP.out.step hlt (by rw [hx];exact hdot))
     clear hq hx hdot
     go_wp2_with fail
     go_roundw
     case rel=>exact⟨k+1,m,ps,by go_num,rfl,hO,by omega,hB,.inl ⟨by omega,by omega,HN⟩⟩
     case measure=>simp [intOf];omega
   ·obtain rfl:k=l.length:=by omega
    have HN:=zH HP.out.done
    rw [hq] at HN
    clear hq HGET
    have t1:((l.length:Int) == (l.length:Int))=true:=by simp
    go_wp2_with (at_builtin;refine zb_r rfl _ _ rfl w.heap.size _ ps rfl (hO.alloc _) wr.heap.size 1 1 [q] rfl (HONE.out _ _) (by omega) (by simp;omega) ?_;intro v' w2 hown hg)
    have hgr:Below w.heap.size w w2:=(hB.alloc (by omega) _).grown hg (by simp;omega) (fun g hg=>(hO.lt g hg).1)
    clear hg
    go_wp2_with fail
    go_roundw
    case rel=>exact⟨l.length+1,l.length+1,ps ++ [q],by go_num,by go_num,hown,by rw [List.length_append];simp;omega,hgr,.inr ⟨rfl,HN⟩⟩
    case measure=>simp [intOf]
  ·have t1:¬ ((l.length+1:Nat):Int)<=(l.length:Int):=by omega
   clear HGET HCUT
   go_wp2_with fail
   go_ret
   exact⟨_,rfl,by rw [HP.out];exact hO,hB⟩
namespace Host
def dg (b:UInt8):Int:=if 48<=b.toNat/\b.toNat<=57 then b.toNat - 48 else if 97<=b.toNat/\b.toNat<=102 then b.toNat - 87 else if 65<=b.toNat/\b.toNat<=70 then b.toNat - 55 else 99
theorem dg_rng (b:UInt8):0<=dg b/\dg b<=99:=by
 have:=b.toNat_lt;unfold dg;split
 ·omega
 ·split
  ·omega
  ·split <;> omega
end Host
theorem zp_t (b:UInt8) (w:World) :
 Calls Tryz.prog 211 #[.int .u8 (b.toNat:Int)] w fun e w'=>e=.returned (.int .i64 (Host.dg b))/\w=w':=by
 have hd:Host.dg b=if 48<=b.toNat/\b.toNat<=57 then (b.toNat:Int) - 48 else if 97<=b.toNat/\b.toNat<=102 then (b.toNat:Int) - 87 else if 65<=b.toNat/\b.toNat<=70 then (b.toNat:Int) - 55 else 99:=rfl
 have hlt:=b.toNat_lt
 obtain⟨x,hx⟩:∃ x,b.toNat=x:=⟨_,rfl⟩
 rw [hx] at hd hlt ⊢
 have HD:=zH hd
 clear hd hx
 by_cases c1:48<=x/\x<=57
 ·have HR:=zH (HD.out.trans (if_pos c1))
  obtain⟨c1,c2⟩:=c1
  have d1:(48:Int)<=(x:Int):=by omega
  have d2:(x:Int)<=57:=by omega
  go_enter Tryz.func211,Tryz.ntmps211
  go_wp2_with fail
  go_ret
  exact⟨by rw [HR.out];rfl,rfl⟩
 by_cases c2:97<=x/\x<=102
 ·have HR:=zH (HD.out.trans ((if_neg c1).trans (if_pos c2)))
  obtain⟨c2,c3⟩:=c2
  have d0:(48:Int)<=(x:Int):=by omega
  have d1:¬ (x:Int)<=57:=by omega
  have d2:(97:Int)<=(x:Int):=by omega
  have d3:(x:Int)<=102:=by omega
  clear c1
  go_enter Tryz.func211,Tryz.ntmps211
  go_wp2_with fail
  go_ret
  exact⟨by rw [HR.out,show (x:Int) - 87=(x:Int) - 97+10 by omega];rfl,rfl⟩
 by_cases c3:65<=x/\x<=70
 ·have HR:=zH (HD.out.trans ((if_neg c1).trans ((if_neg c2).trans (if_pos c3))))
  obtain⟨c3,c4⟩:=c3
  have d0:(48:Int)<=(x:Int):=by omega
  have d1:¬ (x:Int)<=57:=by omega
  have d2:¬ (97:Int)<=(x:Int):=by omega
  have d3:(65:Int)<=(x:Int):=by omega
  have d4:(x:Int)<=70:=by omega
  clear c1 c2
  go_enter Tryz.func211,Tryz.ntmps211
  go_wp2_with fail
  go_ret
  exact⟨by rw [HR.out,show (x:Int) - 55=(x:Int) - 65+10 by omega];rfl,rfl⟩
 ·have HR:=zH (HD.out.trans ((if_neg c1).trans ((if_neg c2).trans (if_neg c3))))
  by_cases f1:48<=x
  ·have d0:(48:Int)<=(x:Int):=by omega
   have d1:¬ (x:Int)<=57:=by omega
   by_cases f2:97<=x
   ·have d2:(97:Int)<=(x:Int):=by omega
    have d3:¬ (x:Int)<=102:=by omega
    have d4:(65:Int)<=(x:Int):=by omega
    have d5:¬ (x:Int)<=70:=by omega
    clear c1 c2 c3
    go_enter Tryz.func211,Tryz.ntmps211
    go_wp2_with fail
    go_ret
    exact⟨by rw [HR.out];rfl,rfl⟩
   ·have d2:¬ (97:Int)<=(x:Int):=by omega
    by_cases f3:65<=x
    case' pos=>
     have d4:(65:Int)<=(x:Int):=by omega
     have d5:¬ (x:Int)<=70:=by omega
    case' neg=>have d4:¬ (65:Int)<=(x:Int):=by omega
    all_goals
     clear c1 c2 c3
     go_enter Tryz.func211,Tryz.ntmps211
     go_wp2_with fail
     go_ret
     exact⟨by rw [HR.out];rfl,rfl⟩
  ·have d0:¬ (48:Int)<=(x:Int):=by omega
   have d2:¬ (97:Int)<=(x:Int):=by omega
   have d4:¬ (65:Int)<=(x:Int):=by omega
   clear c1 c2 c3
   go_enter Tryz.func211,Tryz.ntmps211
   go_wp2_with fail
   go_ret
   exact⟨by rw [HR.out];rfl,rfl⟩
set_option maxHeartbeats 2000000 in
theorem zn_g (l:List UInt8) (hl:l.length<=1000000) (w:World) :
 Calls Tryz.prog 189 #[.string (str l)] w fun e w'=>e=.returned (.bool (l.all Host.decd && !l.isEmpty))/\w=w':=by
 have hsz:=strSize l
 have hget:∀ k (h:k < l.length) (hq:k < (str l).size),(str l)[k]'hq=l[k]'h:=fun k h hq=>strGet _ _ _
 have he:(str l).toList=l:=str_toList l
 obtain⟨sv,hsv⟩:∃ sv,sv=str l:=⟨_,rfl⟩
 rw [<-hsv] at hsz hget he ⊢
 have HGET:=zH hget
 have HE:=zH he
 clear hget hsv he
 go_enter Tryz.func189,Tryz.ntmps189
 go_wp2_with fail
 go_loop [3] (fun i=>∃ k:Nat,k<=l.length/\i=.int .i64 k/\Hid (∀ x ∈ l.take k,Host.decd x=true)) (fun i=>l.length - (intOf i).toNat)
 case atStart=>exact⟨0,Nat.zero_le _,rfl,zH (by simp)⟩
 case round =>
  obtain⟨k,hk,rfl,HC⟩:=hrel
  have i0:(0:Int)<=(k:Int):=by omega
  by_cases hlt:k < l.length
  ·have i1:(k:Int) < (l.length:Int):=by omega
   have hg:=HGET.out k hlt
   have HTK:=zH (List.take_succ_eq_append_getElem hlt)
   have HMEM:=zH (List.getElem_mem hlt)
   generalize l[k]=b at *
   by_cases c1:48<=b.toNat/\b.toNat<=57
   ·have HN:=zH (show ∀ x ∈ l.take (k+1),Host.decd x=true by
     rw [HTK.out];intro x hx
     rcases List.mem_append.1 hx with hx|hx
     ·exact HC.out x hx
     ·simp at hx;subst hx;simp [Host.decd,c1])
    obtain⟨c1,c2⟩:=c1
    have d1:¬ (b.toNat:Int) < 48:=by omega
    have d2:¬ (57:Int) < (b.toNat:Int):=by omega
    go_wp2_with fail
    go_round
    case rel=>exact⟨k+1,by omega,by go_num,HN⟩
    case measure=>simp [intOf];omega
   ·have HF:=zH (show (l.all Host.decd && !l.isEmpty)=false by
     have:l.all Host.decd=false:=by rw [List.all_eq_false];exact⟨b,HMEM.out,by simp [Host.decd];omega⟩
     rw [this];rfl)
    by_cases c2:b.toNat < 48
    ·have d1:(b.toNat:Int) < 48:=by omega
     clear c1
     go_wp2_with fail
     go_ret
     exact⟨by rw [HF.out];rfl,rfl⟩
    ·have d1:¬ (b.toNat:Int) < 48:=by omega
     have d2:(57:Int) < (b.toNat:Int):=by omega
     clear c1
     go_wp2_with fail
     go_ret
     exact⟨by rw [HF.out];rfl,rfl⟩
  ·obtain rfl:k=l.length:=by omega
   rw [List.take_length] at HC
   have HF:=zH (show l.all Host.decd=true by rw [List.all_eq_true];exact HC.out)
   go_wp2_with fail
   go_ret
   refine⟨?_,rfl⟩
   rw [HF.out]
   show Ending.returned (.bool (!sv.toList.isEmpty))=_
   rw [HE.out];rfl
def PartsPost (l:List UInt8) (w:World) (e:Ending) (w':World):Prop:=∃ b c,e=.returned (.slice (b:Nat) (Host.parts l).length c)/\SlT w' b (Host.parts l).length c (Host.parts l)/\Below w.heap.size w w'
theorem OwnT.rowN {base:Nat} {w:World} {v:Value} {l:List (List UInt8)} (h:OwnT base w v l) (hl:0 < l.length):∃ g c,v=.slice (g:Nat) l.length c/\l.length<=c/\c<=maxLen/\SlT w g l.length c l:=by
 obtain⟨a,c,rfl,hs⟩:=h.sl
 rcases id h.2 with⟨hv,hn⟩|⟨g,cap,cur,hv,hg,hc,hnc,hcm,hcs,htake⟩
 ·omega
 ·cases hv
  exact⟨g,c,rfl,hnc,hcm,hs⟩
namespace Host
theorem zc_z {l:List (List UInt8)} (_h:0 < l.length):l.getLastD []=l[l.length - 1]?.getD []:=by
 rw [List.getLastD_eq_getLast?,List.getLast?_eq_getElem?]
theorem parts_short (h:(split l).length<=1):parts l=split l:=by unfold parts;rw [if_neg (by omega)]
theorem parts_cut (h:1 < (split l).length) (he:(split l)[(split l).length - 1]?.getD []=[]):parts l=(split l).take ((split l).length - 1):=by
 unfold parts;rw [if_pos ⟨h,by rw [zc_z (by omega)];exact he⟩,List.dropLast_eq_take]
theorem parts_full (he:(split l)[(split l).length - 1]?.getD [] ≠ []):parts l=split l:=by
 have hp:=List.length_pos_iff.2 (split_ne l)
 unfold parts;rw [if_neg (by rintro⟨h,e⟩;rw [zc_z hp] at e;exact he e)]
end Host
set_option maxHeartbeats 2000000 in
theorem zp_u (l:List UInt8) (hl:l.length<=1000000) (w:World) :
 Calls Tryz.prog 188 #[.string (str l)] w (PartsPost l w):=by
 have HS:=zH (ze_t l hl w)
 have hp:=List.length_pos_iff.2 (Host.split_ne l)
 have hbd:=Host.split_len l
 obtain⟨ps,hps⟩:∃ ps,Host.split l=ps:=⟨_,rfl⟩
 have HSH:=zH (Host.parts_short (l:=l))
 have HCU:=zH (Host.parts_cut (l:=l))
 have HFU:=zH (Host.parts_full (l:=l))
 rw [hps] at HS hp hbd HSH HCU HFU
 clear hps
 obtain⟨sv,hsv⟩:∃ sv,str l=sv:=⟨_,rfl⟩
 rw [hsv] at HS ⊢
 clear hsv
 obtain⟨n,hn⟩:∃ n,ps.length=n:=⟨_,rfl⟩
 rw [hn] at hp hbd HSH HCU HFU
 have HN:=zH hn
 clear hn
 by_cases h1:n<=1
 ·obtain rfl:n=1:=by omega
  have HR:=zH (HSH.out (zN _))
  go_enter Tryz.func188,Tryz.ntmps188
  go_wp2_with fail
  refine HS.out.mono ?_;rintro e w1 ⟨v1,rfl,hO1,hB1⟩
  obtain⟨g,c,rfl,hc1,hc2,hs1⟩:=hO1.rowN (by rw [HN.out];omega)
  rw [HN.out] at hs1 ⊢
  go_wp2_with fail
  go_ret
  exact⟨g,c,by rw [HR.out,HN.out];rfl,by rw [HR.out,HN.out];exact hs1,hB1⟩
 ·have i1:(1:Int) < (n:Int):=by omega
  have i2:(0:Int)<=(n:Int) - 1:=by omega
  have i3:(n:Int) - 1 < (n:Int):=by omega
  have i4:((n:Int) - 1).toNat=n - 1:=by omega
  obtain⟨q,hq⟩:∃ q,ps[n - 1]?.getD []=q:=⟨_,rfl⟩
  rw [hq] at HCU HFU
  obtain⟨sq,hsq⟩:∃ sq,str q=sq:=⟨_,rfl⟩
  by_cases hqe:q=[]
  ·have HR:=zH (HCU.out (by omega) hqe)
   have e1:sq.toList.isEmpty=true:=by rw [<-hsq,hqe,str_toList];rfl
   go_enter Tryz.func188,Tryz.ntmps188
   go_wp2_with fail
   refine HS.out.mono ?_;rintro e w1 ⟨v1,rfl,hO1,hB1⟩
   obtain⟨g,c,rfl,hc1,hc2,hs1⟩:=hO1.rowN (by rw [HN.out];omega)
   rw [HN.out] at hs1 hc1 ⊢
   obtain⟨_,_,e5,hbb,hkl,hcell⟩:=hs1.at (k:=n - 1) (by omega)
   cases e5
   rw [hq,tv,hsq,Nat.zero_add] at hcell
   have i5:(n:Int) - 1<=(c:Int):=by omega
   have i6:n - 1<=c:=by omega
   clear hqe hq hsq
   go_wp2_with fail
   go_ret
   exact⟨g,c,by rw [HR.out,List.length_take,HN.out,Nat.min_eq_left (Nat.sub_le _ _)];rfl,by rw [HR.out,List.length_take,HN.out,Nat.min_eq_left (Nat.sub_le _ _)];exact hs1.take (Nat.sub_le _ _),hB1⟩
  ·have HR:=zH (HFU.out hqe)
   have e1:sq.toList.isEmpty=false:=by rw [<-hsq,str_toList];simpa using hqe
   go_enter Tryz.func188,Tryz.ntmps188
   go_wp2_with fail
   refine HS.out.mono ?_;rintro e w1 ⟨v1,rfl,hO1,hB1⟩
   obtain⟨g,c,rfl,hc1,hc2,hs1⟩:=hO1.rowN (by rw [HN.out];omega)
   rw [HN.out] at hs1 hc1 ⊢
   obtain⟨_,_,e5,hbb,hkl,hcell⟩:=hs1.at (k:=n - 1) (by omega)
   cases e5
   rw [hq,tv,hsq,Nat.zero_add] at hcell
   clear hqe hq hsq
   go_wp2_with fail
   go_ret
   exact⟨g,c,by rw [HR.out,HN.out];rfl,by rw [HR.out,HN.out];exact hs1,hB1⟩
namespace Host
def numOk (t:List UInt8):Bool :=
 if t=[] then false else if pre t then (t.drop 2).all (fun b=>decide (dg b < 16)) else if 2<=t.length/\t.getD 0 0=48 then (t.drop 1).all (fun b=>decide (dg b < 8)) else t.all (fun b=>decide (dg b < 10))
theorem pre_iff (t:List UInt8):pre t=true ↔ 2<=t.length/\t.getD 0 0=48/\(t.getD 1 0=120\/t.getD 1 0=88):=by
 unfold pre
 match t with
|[]=>simp
|[a]=>simp
 | a :: b :: r => simp; constructor
                  ·rintro (⟨h1,h2⟩|⟨h1,h2⟩)
                   ·exact⟨h1,.inl h2⟩
                   ·exact⟨h1,.inr h2⟩
                  ·rintro⟨h1,h2|h2⟩
                   ·exact .inl ⟨h1,h2⟩
                   ·exact .inr ⟨h1,h2⟩
end Host
theorem zb_a (w:World) (n:Nat):Below w.heap.size w (w.drewN n):=(Below.refl _ w).trans ⟨rfl,rfl,rfl,zN _,fun _ _=>rfl⟩
def NumPost (ok:Bool) (w:World) (e:Ending) (w':World):Prop:=(∃ z:Int,e=.returned (.tuple #[z,.bool ok]))/\Below w.heap.size w w'
set_option maxHeartbeats 4000000 in
theorem zn_h (t:List UInt8) (ht:t.length<=1000000) (w:World) :
 Calls Tryz.prog 190 #[.string (str t)] w (NumPost (Host.numOk t) w):=by
 by_cases h0:t=[]
 ·have HR:=zH (show Host.numOk t=false by unfold Host.numOk;rw [if_pos h0])
  have e1:(str t).toList.isEmpty=true:=by rw [h0,str_toList];rfl
  obtain⟨sv,hsv⟩:∃ sv,str t=sv:=⟨_,rfl⟩
  rw [hsv] at e1 ⊢
  clear h0 hsv
  go_enter Tryz.func190,Tryz.ntmps190
  go_wp2_with fail
  go_ret2
  exact⟨⟨0,by rw [HR.out];rfl⟩,Below.refl _ _⟩
 have hlen:1<=t.length:=List.length_pos_iff.2 h0
 have hsz:=strSize t
 have e1:(str t).toList.isEmpty=false:=by rw [str_toList];simpa using h0
 have hg0:∀ (hq:0 < (str t).size),(str t)[0]'hq=t.getD 0 0:=fun hq=>by rw [strGet,List.getD_eq_getElem?_getD,List.getElem?_eq_getElem (by rw [strSize] at hq;exact hq)];rfl
 have hg1:∀ (hq:1 < (str t).size),(str t)[1]'hq=t.getD 1 0:=fun hq=>by rw [strGet,List.getD_eq_getElem?_getD,List.getElem?_eq_getElem (by rw [strSize] at hq;exact hq)];rfl
 have HCUT:=zH (strCut t)
 have hget:∀ k (h:k < t.length) (hq:k < (str t).size),(str t)[k]'hq=t[k]'h:=fun k h hq=>strGet _ _ _
 have HOKE:=zH (show Host.numOk t=_ from rfl)
 obtain⟨ok,hok⟩:∃ ok,Host.numOk t=ok:=⟨_,rfl⟩
 have HOKT:Hid (ok=if Host.pre t then (t.drop 2).all (fun b=>decide (Host.dg b < 16)) else if 2<=t.length/\t.getD 0 0=48 then (t.drop 1).all (fun b=>decide (Host.dg b < 8)) else t.all (fun b=>decide (Host.dg b < 10))):=zH (by rw [<-hok];unfold Host.numOk;rw [if_neg h0])
 have HPI:=zH (Host.pre_iff t)
 rw [hok]
 clear HOKE hok h0
 obtain⟨x0,hx0⟩:∃ x,t.getD 0 0=x:=⟨_,rfl⟩
 obtain⟨x1,hx1⟩:∃ x,t.getD 1 0=x:=⟨_,rfl⟩
 rw [hx0] at hg0 HOKT HPI
 rw [hx1] at hg1 HPI
 clear hx0 hx1
 obtain⟨sv,hsv⟩:∃ sv,str t=sv:=⟨_,rfl⟩
 rw [hsv] at hsz e1 hg0 hg1 HCUT ⊢
 have HGETT:Hid (∀ k (h:k < t.length) (hq:k < sv.size),sv[k]'hq=t[k]'h):=zH (by subst hsv;exact hget)
 clear hget hsv
 have tz:((x0.toNat:Int) == 48)=decide (x0=48):=by
  by_cases e:x0=48
  ·subst e;rfl
  ·rw [decide_eq_false e];apply beq_eq_false_iff_ne.2;intro e2;exact e (UInt8.toNat_inj.1 (Int.ofNat.inj e2))
 have tx:((x1.toNat:Int) == 120)=decide (x1=120):=by
  by_cases e:x1=120
  ·subst e;rfl
  ·rw [decide_eq_false e];apply beq_eq_false_iff_ne.2;intro e2;exact e (UInt8.toNat_inj.1 (Int.ofNat.inj e2))
 have tX:((x1.toNat:Int) == 88)=decide (x1=88):=by
  by_cases e:x1=88
  ·subst e;rfl
  ·rw [decide_eq_false e];apply beq_eq_false_iff_ne.2;intro e2;exact e (UInt8.toNat_inj.1 (Int.ofNat.inj e2))
 by_cases h2:2<=t.length
 case' neg=>
  have HOK:Hid (ok=t.all (fun b=>decide (Host.dg b < 10))):=zH (by rw [HOKT.out,if_neg (by rw [HPI.out];rintro⟨h,_⟩;exact h2 h),if_neg (by rintro⟨h,_⟩;exact h2 h)])
  have i2:¬ (2:Int)<=(t.length:Int):=by omega
  clear tx tX tz
 case' pos=>
  have i2:(2:Int)<=(t.length:Int):=by omega
  have i3:(0:Int) < (t.length:Int):=by omega
  have i4:(1:Int) < (t.length:Int):=by omega
  by_cases hx0:x0=48
  case' neg=>
   have HOK:Hid (ok=t.all (fun b=>decide (Host.dg b < 10))):=zH (by rw [HOKT.out,if_neg (by rw [HPI.out];rintro⟨_,h,_⟩;exact hx0 h),if_neg (by rintro⟨_,h⟩;exact hx0 h)])
   rw [decide_eq_false hx0] at tz
   clear hx0 tx tX
  case' pos=>
   rw [decide_eq_true hx0] at tz
   have hd:∃ (B:Int) (j:Nat),j<=2/\(j=2/\B=16/\(x1=120\/x1=88)\/j=1/\B=8/\¬(x1=120\/x1=88))/\Hid (ok=(t.drop j).all (fun b=>decide (Host.dg b < B))):=by
    by_cases hxx:x1=120\/x1=88
    ·exact⟨16,2,by omega,.inl ⟨rfl,rfl,hxx⟩,zH (by rw [HOKT.out,if_pos (HPI.out.2 ⟨h2,hx0,hxx⟩)])⟩
    ·exact⟨8,1,by omega,.inr ⟨rfl,rfl,hxx⟩,zH (by rw [HOKT.out,if_neg (by rw [HPI.out];rintro⟨_,_,h⟩;exact hxx h),if_pos ⟨h2,hx0⟩])⟩
   obtain⟨B,j,hj,hd,HOK⟩:=hd
   have hc2:=HCUT.out j t.length
   rw [List.take_length] at hc2
   obtain⟨t2,ht2⟩:∃ t2,t.drop j=t2:=⟨_,rfl⟩
   rw [ht2] at hc2 HOK
   have hl2:t2.length<=1000000:=by rw [<-ht2,List.length_drop];omega
   have hsz2:=strSize t2
   have hget2:∀ k (h:k < t2.length) (hq:k < (str t2).size),(str t2)[k]'hq=t2[k]'h:=fun k h hq=>strGet _ _ _
   obtain⟨s2,hs2⟩:∃ s2,str t2=s2:=⟨_,rfl⟩
   rw [hs2] at hc2 hsz2
   have HGET:Hid (∀ k (h:k < t2.length) (hq:k < s2.size),s2[k]'hq=t2[k]'h):=zH (by subst hs2;exact hget2)
   clear hget2 hs2 ht2 hx0 HGETT hj
   by_cases hxa:x1=120
   case' pos=>
    rw [decide_eq_true hxa] at tx
    obtain⟨rfl,hB⟩:j=2/\B=16:=by rcases hd with⟨a,b,-⟩|⟨-,-,h⟩;exact⟨a,b⟩;exact absurd (.inl hxa) h
    clear hxa tX hd
   case' neg=>
    rw [decide_eq_false hxa] at tx
    rcases hd with⟨rfl,hB,h⟩|⟨rfl,hB,h⟩
    case' inl=>rw [decide_eq_true (show x1=88 by rcases h with e|e;exact absurd e hxa;exact e)] at tX
    case' inr=>rw [decide_eq_false (show ¬ x1=88 from fun e=>h (.inr e))] at tX
    all_goals clear hxa h
   all_goals
    go_enter Tryz.func190,Tryz.ntmps190
    go_wp2_with fail
    go_quiet (fail)
    have HBL:=zb_a w nq
    go_wp2_with fail
 all_goals try
  have HGET:=HGETT
  clear HCUT HGETT
  obtain⟨B,hB⟩:∃ B:Int,B=10:=⟨_,rfl⟩
  rw [<-hB] at HOK
  obtain⟨t2,ht2⟩:∃ t2,t2=t:=⟨_,rfl⟩
  subst ht2
  go_enter Tryz.func190,Tryz.ntmps190
  go_wp2_with fail
  have HBL:=Below.refl w.heap.size w
 all_goals
  go_loop [5,6] (fun v i=>∃ (k:Nat) (z:Int),k<=t2.length/\i=.int .i64 k/\v=.int .i64 z/\0<=z/\z<=1099511627776/\Hid (∀ x ∈ t2.take k,Host.dg x < B)) (fun _ i=>t2.length - (intOf i).toNat)
  case atStart=>exact⟨0,0,Nat.zero_le _,rfl,rfl,by decide,by decide,zH (by simp)⟩
  case round =>
   obtain⟨k,z,hk,rfl,rfl,z0,z1,HC⟩:=hrel
   have i0:(0:Int)<=(k:Int):=by omega
   by_cases hlt:k < t2.length
   ·have i1:(k:Int) < (t2.length:Int):=by omega
    have hg:=HGET.out k hlt
    have HTK:=zH (List.take_succ_eq_append_getElem hlt)
    have HMEM:=zH (List.getElem_mem hlt)
    generalize t2[k]=b at *
    have HDG:=zH (fun W=>zp_t b W)
    obtain⟨d0,d1⟩:=Host.dg_rng b
    obtain⟨d,hd⟩:∃ d,Host.dg b=d:=⟨_,rfl⟩
    rw [hd] at HDG d0 d1
    have HD:=zH hd
    clear hd
    by_cases c1:d < B
    ·have HN:=zH (show ∀ x ∈ t2.take (k+1),Host.dg x < B by
      rw [HTK.out];intro x hx
      rcases List.mem_append.1 hx with hx|hx
      ·exact HC.out x hx
      ·simp at hx;subst hx;rw [HD.out];exact c1)
     have c2:¬ B<=d:=by omega
     have c3:0<=z * B+d:=by subst hB;omega
     have c4:z * B+d<=17592186044515:=by subst hB;omega
     by_cases c5:z * B+d<=1099511627776
     ·subst hB
      go_wp2_with (go_at_call 211;go_must (refine (HDG.out _).mono ?_);rintro e w1 ⟨rfl,rfl⟩)
      go_round
      case rel=>exact⟨k+1,_,by omega,by go_num,rfl,c3,c5,HN⟩
      case measure=>simp [intOf];omega
     ·subst hB
      go_wp2_with (go_at_call 211;go_must (refine (HDG.out _).mono ?_);rintro e w1 ⟨rfl,rfl⟩)
      go_round
      case rel=>exact⟨k+1,1099511627776,by omega,by go_num,rfl,by omega,by omega,HN⟩
      case measure=>simp [intOf];omega
    ·have HF:=zH (show ok=false by
      rw [HOK.out,List.all_eq_false];exact⟨b,HMEM.out,by rw [HD.out];simpa using c1⟩)
     have c2:B<=d:=by omega
     clear c1
     subst hB
     go_wp2_with (go_at_call 211;go_must (refine (HDG.out _).mono ?_);rintro e w1 ⟨rfl,rfl⟩)
     go_ret2
     exact⟨⟨0,by rw [HF.out];rfl⟩,HBL⟩
   ·obtain rfl:k=t2.length:=by omega
    rw [List.take_length] at HC
    have HF:=zH (show ok=true by rw [HOK.out,List.all_eq_true];intro x hx;simpa using HC.out x hx)
    subst hB
    go_wp2_with fail
    go_ret2
    exact⟨⟨z,by rw [HF.out];rfl⟩,HBL⟩
end Go.Proofs.YtmanejniepghlaaGreatDoor
