import Derived.Test.YtmanejniepghlaaGreatDoorRun19
import Derived.Test.YtmanejniepghlaaGreatDoorRun24
import Derived.Test.YtmanejniepghlaaGreatDoorRun2
import Derived.Test.YtmanejniepghlaaGreatDoorRun1
namespace Go.Proofs.YtmanejniepghlaaGreatDoor
open Go.RowKit
set_option linter.unusedSimpArgs false in
set_option maxHeartbeats 16000000 in
set_option maxRecDepth 100000 in
theorem zd_m (β:Bool) (a:Option Addr) (n c:Nat) (b:List UInt8) (w:World) (h:SlB w a n c b) (hn:n<=100000) :
 Calls Tryz.prog (cond β 158 81) #[.slice a n c] w (SDecN b w):=by
 have HQ:=Mk.mk β
 cases β <;> dsimp only [cond]
 all_goals
  have hb0:=(Below.refl w.heap.size w).alloc (zN _) (.cells #[.int .i64 0,.slice none 0 0] 44)
  have hs0:=SBox.new w 0 (.slice none 0 0)
  have hsb:=h.ext hb0
  have hln:=h.len
  obtain⟨W0,hW0⟩:∃ W0,w.alloc (.cells #[.int .i64 0,.slice none 0 0] 44)=W0:=⟨_,rfl⟩
  have hz0:W0.heap.size=w.heap.size+1:=by rw [<-hW0];simp
  rw [hW0] at hb0 hs0 hsb
  have HW0:=zH hW0
  have HB0:=zH hb0
  have HS0:=zH hs0
  have HZ0:=zH hz0
  have HSB:=zH hsb
  have HRET:=zH (show ∀ W,Ext W0 W->Ext w ((W.setCell w.heap.size (.int .i64 0)).setCell (w.heap.size 1) (.slice none 0 0)) from fun W e =>
   (((HB0.out.trans (Below.mono e HB0.out.size)).setCell (p:=w.heap.size) (zN _) _).setCell (p:=(w.heap.size 1)) (zN _) _))
  have HCL:=zH (show ∀ W,Ext W0 W->W.cell? w.heap.size=some (.int .i64 0)/\W.cell? (w.heap.size 1)=some (.slice none 0 0)/\w.heap.size < W.heap.size/\(∀ j,W.frozen? (w.heap.size j)=false) from fun W e=>⟨(HS0.out.ext e).cells.1,(HS0.out.ext e).cells.2,za_a (HS0.out.ext e),(HS0.out.ext e).frz⟩)
  first|(replace HQ:Mk true:=HQ;have HT:=zH (zf_s a n c b W0 hsb (by omega)))|have HT:=zH (zb_y a n c b W0 hsb (by omega))
  obtain⟨v1,n1,z1,h1⟩:∃ v1 n1 z1,Wire.dec b=(v1,n1,z1):=⟨_,_,_,rfl⟩
  rw [h1] at HT
  dsimp only at HT
  clear hW0 hb0 hs0 hz0 h
  obtain⟨q0,q1,q2,q3⟩:=HCL.out _ (Ext.refl _)
  by_cases e1:z1 ≠ 0
  ·have HR:=zH (Snap.dec_a h1 e1)
   have t1:(z1 != 0)=true:=by simpa using e1
   have t2:(z1 == 0)=false:=by simpa using e1
   clear h1 e1 hln hsb
   first|(go_at_call 158;go_enter Tryz.func158,Tryz.ntmps158)|go_enter Tryz.func81,Tryz.ntmps81
   go_wp2_with fail
   rw [HW0.out]
   refine HT.out.mono ?_;rintro e w1 ⟨rfl,rfl⟩
   go_wp2_with fail
   refine ret2 rfl rfl ((HS0.out.ext (Ext.refl _)).set2' 0 (.slice none 0 0)) rfl rfl (SDecN.bad HR.out rfl ?_)
   exact HRET.out _ (Ext.refl _)
  obtain rfl:z1=0:=by simpa using e1
  obtain⟨-,r1,r2,r3,r4⟩:=Wire.enc_dec h1
  rw [hln] at r1
  have hl1:(b.drop n1).length=n - n1:=by rw [List.length_drop,hln]
  obtain⟨v2,n2,z2,h2⟩:∃ v2 n2 z2,Wire.dec (b.drop n1)=(v2,n2,z2):=⟨_,_,_,rfl⟩
  first
  |(replace HQ:Mk true:=HQ
    have HU:=zH (show ∀ a2 c2 W,SlB W a2 (n - n1) c2 (b.drop n1)->Calls Tryz.prog 185 #[.slice a2 (n - n1) c2] W fun e w'=>e=.returned (.tuple #[.int .u64 (v2:Nat),n2,z2])/\W=w' from fun a2 c2 W hs=>by
     have:=zf_s a2 (n - n1) c2 (b.drop n1) W hs (by omega)
     rw [h2] at this;exact this))
  |have HU:=zH (show ∀ a2 c2 W,SlB W a2 (n - n1) c2 (b.drop n1)->Calls Tryz.prog 135 #[.slice a2 (n - n1) c2] W fun e w'=>e=.returned (.tuple #[.int .u64 (v2:Nat),n2,z2])/\W=w' from fun a2 c2 W hs=>by
    have:=zb_y a2 (n - n1) c2 (b.drop n1) W hs (by omega)
    rw [h2] at this;exact this)
  have m1:(0:Int)<=(n1:Int):=by omega
  have m2:(n1:Int)<=(n:Int):=by omega
  have n10:((0:Nat):Int)=0:=rfl
  clear n10
  by_cases e2:z2 ≠ 0
  ·have HR:=zH (Snap.dec_b h1 h2 e2)
   have t1:(z2 != 0)=true:=by simpa using e2
   have t2:(z2 == 0)=false:=by simpa using e2
   clear h1 h2 e1 e2 hln hl1
   first|(go_at_call 158;go_enter Tryz.func158,Tryz.ntmps158)|go_enter Tryz.func81,Tryz.ntmps81
   go_wp2_with fail
   rw [HW0.out]
   refine HT.out.mono ?_;rintro e w1 ⟨rfl,rfl⟩
   go_wp2_with (refine za_g rfl _ _ rfl rfl n1 _ rfl rfl hsb r1 ?_;intro a2 hsa2)
   refine (HU.out _ _ _ hsa2).mono ?_;rintro e w2 ⟨rfl,rfl⟩
   go_wp2_with fail
   refine ret2 rfl rfl ((HS0.out.ext (Ext.refl _)).set2' 0 (.slice none 0 0)) rfl rfl (SDecN.bad HR.out rfl ?_)
   exact HRET.out _ (Ext.refl _)
  obtain rfl:z2=0:=by simpa using e2
  obtain⟨-,s1,s2,s3,s4⟩:=Wire.enc_dec h2
  rw [hl1] at s1
  have m3:(0:Int)<=(n2:Int):=by omega
  have m4:(n1:Int)+(n2:Int)<=(n:Int):=by omega
  by_cases e3:1000 < v2
  ·have HR:=zH (Snap.dec_c h1 h2 e3)
   have t3:(1000:Int) < (v2:Int):=by omega
   clear h1 h2 e1 e2 e3 hln hl1
   first|(go_at_call 158;go_enter Tryz.func158,Tryz.ntmps158)|go_enter Tryz.func81,Tryz.ntmps81
   go_wp2_with fail
   rw [HW0.out]
   refine HT.out.mono ?_;rintro e w1 ⟨rfl,rfl⟩
   go_wp2_with (refine za_g rfl _ _ rfl rfl n1 _ rfl rfl hsb r1 ?_;intro a2 hsa2)
   refine (HU.out _ _ _ hsa2).mono ?_;rintro e w2 ⟨rfl,rfl⟩
   go_wp2_with fail
   refine ret2 rfl rfl ((HS0.out.ext (Ext.refl _)).set2' 0 (.slice none 0 0)) rfl rfl (SDecN.bad HR.out rfl ?_)
   exact HRET.out _ (Ext.refl _)
  have t3:¬ (1000:Int) < (v2:Int):=by omega
  obtain⟨R,hR⟩:∃ R,Snap.pins b v2 (n1+n2) []=R:=⟨_,rfl⟩
  have HD:=zH (show ∀ z,R.2.2=z->z ≠ 0->Snap.dec b=((0,[]),z) from fun z hz h0=>Snap.dec_d (R:=R.1) (m:=R.2.1) h1 h2 e3 (by rw [hR,<-hz]) h0)
  have HE:=zH (show ∀ P m,R=(P,m,0)->m < b.length->Snap.dec b=((0,[]),6) from fun P m hh hm=>Snap.dec_e h1 h2 e3 (hR.trans hh) hm)
  have HF:=zH (show ∀ P m,R=(P,m,0)->¬ m < b.length->1099511627776 < v1->Snap.dec b=((0,[]),2) from fun P m hh hm hc=>Snap.dec_f h1 h2 e3 (hR.trans hh) hm hc)
  have HG:=zH (show ∀ P m,R=(P,m,0)->¬ m < b.length->¬ 1099511627776 < v1->Upt.stValid (v1:Int) P=false->Snap.dec b=((0,[]),8) from fun P m hh hm hc hs=>Snap.dec_g h1 h2 e3 (hR.trans hh) hm hc hs)
  have HH:=zH (show ∀ P m,R=(P,m,0)->¬ m < b.length->¬ 1099511627776 < v1->Upt.stValid (v1:Int) P=true->Snap.dec b=(((v1:Int),P),0) from fun P m hh hm hc hs=>Snap.dec_h h1 h2 e3 (hR.trans hh) hm hc hs)
  have HPH:=zH (show ∀ P m,R=(P,m,0)->(∀ p ∈ P,p.h.length<=253)/\P.length=v2 from fun P m hh=>Snap.pins_host (b:=b) (n:=v2) (k:=n1+n2) (by omega) (hR.trans hh))
  have HLN:=zH hln
  have HC0:=zH hR
  have HSBB:=zH hsb
  have hv2:v2<=1000:=by omega
  have W1':0<=(v2:Int):=by omega
  try
   replace HQ:Mk false:=HQ
   have wc:IntKind.i64.wrap (v2:Int)=(v2:Int):=by rw [IntKind.wrap_i64];omega
  clear h1 h2 e1 e2 e3 hln hl1 hR
  first|(go_at_call 158;go_enter Tryz.func158,Tryz.ntmps158)|go_enter Tryz.func81,Tryz.ntmps81
  go_wp2_with fail
  rw [HW0.out]
  refine HT.out.mono ?_;rintro e w1 ⟨rfl,rfl⟩
  go_wp2_with (refine za_g rfl _ _ rfl rfl n1 _ rfl rfl hsb r1 ?_;intro a2 hsa2)
  refine (HU.out _ _ _ hsa2).mono ?_;rintro e w2 ⟨rfl,rfl⟩
  go_wp2_with fail
  clear q0 q1 q2 q3 hsa2
  first|(replace HQ:Mk true:=HQ;go_loopw [5,9,45] (fun at_ pi ix wr=>∃ (k K:Nat) (acc:List Pin),ix=.int .u64 (k:Nat)/\acc.length=k/\at_=.int .i64 (K:Nat)/\k<=v2/\K<=n/\Hid (Snap.pins b (v2 - k) K acc=R)/\OwnN W0.heap.size wr pi acc/\Ext W0 wr) (fun at_ pi ix _=>v2 - (intOf ix).toNat))|go_loopw [9,10,11] (fun at_ pi ix wr=>∃ (k K:Nat) (acc:List Pin),ix=.int .i64 (k:Nat)/\acc.length=k/\at_=.int .i64 (K:Nat)/\k<=v2/\K<=n/\Hid (Snap.pins b (v2 - k) K acc=R)/\OwnN W0.heap.size wr pi acc/\Ext W0 wr) (fun at_ pi ix _=>v2 - (intOf ix).toNat)
  case atStart=>exact⟨0,n1+n2,[],rfl,rfl,by go_num,Nat.zero_le _,by omega,HC0,OwnN.nil _ _,Ext.refl _⟩
  case round =>
   obtain⟨k,K,acc,rfl,hv9,rfl,hk,hK,HC,ho,hE⟩:=hrel
   have i0:(0:Int)<=(k:Int):=by omega
   have K0:(0:Int)<=(K:Int):=by omega
   have K1:(K:Int)<=(n:Int):=by omega
   obtain⟨q0,q1,q2,q3⟩:=HCL.out _ hE
   by_cases hlt:k < v2
   ·have i2:(k:Int) < (v2:Int):=by omega
    obtain⟨p,m,z,hp⟩:∃ p m z,Pin.dec (b.drop K)=(p,m,z):=⟨_,_,_,rfl⟩
    first
    |(replace HQ:Mk true:=HQ
      have HPD:=zH (show ∀ a3 c3 W,SlB W a3 (n - K) c3 (b.drop K)->Calls Tryz.prog 159 #[.slice a3 (n - K) c3] W fun e w'=>e=.returned (.tuple #[pv p,m,z])/\Below W.heap.size W w' from fun a3 c3 W hs=>by
       have:=zd_h true a3 (n - K) c3 (b.drop K) W hs (by omega)
       unfold PDecP at this
       rw [hp] at this;exact this))
    |have HPD:=zH (show ∀ a3 c3 W,SlB W a3 (n - K) c3 (b.drop K)->Calls Tryz.prog 136 #[.slice a3 (n - K) c3] W fun e w'=>e=.returned (.tuple #[pv p,m,z])/\Below W.heap.size W w' from fun a3 c3 W hs=>by
      have:=zd_h false a3 (n - K) c3 (b.drop K) W hs (by omega)
      unfold PDecP at this
      rw [hp] at this;exact this)
    have hsK:=HSBB.out.ext hE
    have hst:Snap.pins b ((v2 - (k+1))+1) K acc=R:=by rw [show v2 - (k+1)+1=v2 - k by omega];exact HC.out
    unfold pv at HPD
    obtain⟨ph,ps,px⟩:=p
    simp only at HPD
    obtain⟨sh,hsh⟩:∃ s,str ph=s:=⟨_,rfl⟩
    rw [hsh] at HPD
    by_cases hz:z ≠ 0
    ·have hRe:R.2.2=z:=by rw [<-hst,Snap.pins_err hp hz]
     have HR:=zH (HD.out z hRe hz)
     have t4:(z != 0)=true:=by simpa using hz
     have t5:(z == 0)=false:=by simpa using hz
     have HE9:=zH hE
     have HEE:=zH (show ∀ W3,Below wr.heap.size wr W3->Ext W0 W3 from fun W3 hb=>hE.trans (hb.mono hE.size))
     clear hp hz hst hRe hsh ho hE q0 q1 q2 q3
     go_wp2_with (refine za_g rfl _ _ rfl rfl K _ rfl rfl hsK hK ?_;intro a3 hsa3)
     refine (HPD.out _ _ _ hsa3).mono ?_;rintro e w3 ⟨rfl,hb3⟩
     obtain⟨q0,q1,q2,q3⟩:=HCL.out _ (HEE.out _ hb3)
     clear hsa3
     go_wp2_with fail
     have hE3:Ext W0 w3:=HEE.out _ hb3
     have hfin0:=(HS0.out.ext hE3).set2' 0 (.slice none 0 0)
     have hfin:=(za_c _ (.cells #[.string sh,.bool ps,px] 34) _ (za_a hfin0)).trans hfin0
     have d0:=(cell_of_row _ _ 0 _ _ _ hfin).trans rfl
     have d1:=(cell_of_row _ _ 1 _ _ _ hfin).trans rfl
     refine bodyPost_ret (v:=.tuple #[.agg #[.int .i64 0,.slice none 0 0],z]) (by simp [results,Tryz.results158,Tryz.results81,go_sem,d0,d1]) rfl (SDecN.bad HR.out rfl ?_)
     exact Ext.alloc (HRET.out _ hE3) _
    ·obtain rfl:z=0:=by simpa using hz
     have hst2:=Snap.pins_go (j:=v2 - (k+1)) (acc:=acc) hp
     rw [hst] at hst2
     obtain⟨pv1,-,pv3⟩:=Pin.enc_dec hp
     rw [List.length_drop,HLN.out] at pv3
     have HST:=zH hst2.symm
     have g1:(0:Int)<=(m:Int):=by omega
     have g2:(K:Int)+(m:Int)<=(n:Int):=by omega
     have HEE:=zH (show ∀ W3,Below wr.heap.size wr W3->Ext W0 W3 from fun W3 hb=>hE.trans (hb.mono hE.size))
     have HO:=zH ho
     have hal:acc.length=k:=hv9
     have HAL:=zH hal
     have HSH:=zH hsh
     clear hp hz hst hst2 hsh ho hE pv1 hal hv9 q0 q1 q2 q3
     go_wp2_with (refine za_g rfl _ _ rfl rfl K _ rfl rfl hsK hK ?_;intro a3 hsa3)
     refine (HPD.out _ _ _ hsa3).mono ?_;rintro e w3 ⟨rfl,hb3⟩
     have hE3:Ext W0 w3:=HEE.out _ hb3
     have hx1:=(Ext.refl w3).alloc (.cells #[.string sh,.bool ps,px] 34)
     have hone:=SlN.one (w3.alloc (.cells #[.string sh,.bool ps,px] 34)) ⟨ph,ps,px⟩ 34
     simp only at hone
     rw [HSH.out] at hone
     have hx2:=hx1.alloc (.cells #[.string sh,.bool ps,px] 34)
     have hzz:(w3.alloc (.cells #[.string sh,.bool ps,px] 34)).heap.size=w3.heap.size+1:=by simp
     rw [hzz] at hone
     have hO5:=(HO.out.ext hb3).ext hx2
     have hE5:Ext W0 ((w3.alloc (.cells #[.string sh,.bool ps,px] 34)).alloc (.cells #[.string sh,.bool ps,px] 34)):=Ext.step hx2 hE3
     obtain⟨W5,hW5⟩:∃ W5,(w3.alloc (.cells #[.string sh,.bool ps,px] 34)).alloc (.cells #[.string sh,.bool ps,px] 34)=W5:=⟨_,rfl⟩
     rw [hW5] at hone hO5 hE5
     have HW5:=zH hW5
     have HON:=zH hone
     have HO5:=zH hO5
     have HE5:=zH hE5
     clear hsa3 hb3 hE3 hx1 hone hx2 hzz hO5 hE5 hW5
     go_wp2_with (rw [HW5.out];at_builtin;refine zb_d rfl _ _ rfl W0.heap.size _ acc rfl HO5.out (w3.heap.size+1:Nat) 1 1 [⟨ph,ps,px⟩] rfl HON.out (by rw [HAL.out];omega) HE5.out.size ?_;intro v6 w6 ho6 hg6)
     go_roundw
     case rel=>exact⟨k+1,K+m,acc ++ [⟨ph,ps,px⟩],by go_num,by rw [List.length_append,HAL.out];rfl,by go_num,by omega,by omega,zH HST.out,ho6,HE5.out.grown hg6 HE5.out.size (fun j hj=>(HO5.out.lt j hj).1)⟩
     case measure=>simp [intOf];omega
   ·obtain rfl:k=v2:=by omega
    have hRf:R=(acc,K,0):=by rw [<-HC.out,Nat.sub_self];rfl
    obtain⟨a9,c9,hv,hs9,hn9⟩:=ho.sl
    have HN9:=zH (show ∀ x,a9=some x->w.heap.size<=x.block from fun x hx=>by have h1:=(hn9 x hx).1;have h2:=HZ0.out;omega)
    clear hn9
    rw [hv9] at hv hs9
    subst hv
    have HS9:=zH hs9
    have HEW:=zH hE
    have HRF:=zH hRf
    by_cases hm:K < n
    ·have HR:=zH (HE.out _ _ hRf (by rw [HLN.out];exact hm))
     have t4:(K:Int) < (n:Int):=by omega
     clear hRf ho hv9 hs9
     go_wp2_with fail
     refine ret2 rfl rfl ((HS0.out.ext HEW.out).set2' 0 (.slice none 0 0)) rfl rfl (SDecN.bad HR.out rfl ?_)
     exact HRET.out _ HEW.out
    have t4:¬ (K:Int) < (n:Int):=by omega
    by_cases hc:1099511627776 < v1
    ·have HR:=zH (HF.out _ _ hRf (by rw [HLN.out];exact hm) hc)
     have t5:(1099511627776:Int) < (v1:Int):=by omega
     clear hRf ho hv9 hs9
     go_wp2_with fail
     refine ret2 rfl rfl ((HS0.out.ext HEW.out).set2' 0 (.slice none 0 0)) rfl rfl (SDecN.bad HR.out rfl ?_)
     exact HRET.out _ HEW.out
    have t5:¬ (1099511627776:Int) < (v1:Int):=by omega
    have wv:IntKind.i64.wrap (v1:Int)=(v1:Int):=by rw [IntKind.wrap_i64];omega
    first|(replace HQ:Mk true:=HQ;have hV:=fun W (hs:SlN W a9 k c9 acc)=>zc_e (v1:Int) a9 k c9 acc W hs (fun p hp=>by have:=(HPH.out _ _ hRf).1 p hp;omega))|have hV:=fun W (hs:SlN W a9 k c9 acc)=>zd_j (v1:Int) a9 k c9 acc W hs (by omega) (fun p hp=>by have:=(HPH.out _ _ hRf).1 p hp;omega)
    obtain⟨vb,hvb⟩:∃ vb,Upt.stValid (v1:Int) acc=vb:=⟨_,rfl⟩
    rw [hvb] at hV
    have HV:=zH hV
    have HVB:=zH hvb
    have hal:acc.length=k:=hv9
    have HAL:=zH hal
    have hx7:=(Ext.refl wr).alloc (.cells #[v1,.slice a9 k c9] 44)
    have hG7:=SBox.new wr (v1:Int) (.slice a9 k c9)
    have hs7:=hs9.ext hx7
    have hE7:Ext W0 (wr.alloc (.cells #[v1,.slice a9 k c9] 44)):=Ext.step hx7 hE
    obtain⟨W7,hW7⟩:∃ W7,wr.alloc (.cells #[v1,.slice a9 k c9] 44)=W7:=⟨_,rfl⟩
    rw [hW7] at hG7 hs7 hE7
    have HW7:=zH hW7
    have HG7:=zH hG7
    have HS7:=zH hs7
    have HE7:=zH hE7
    clear hvb hV hal hx7 hG7 hs7 hE7 hW7 ho hv9 hs9 hE
    cases vb with
   |false =>
     have HR:=zH (HG.out _ _ HRF.out (by rw [HLN.out];exact hm) hc HVB.out)
     clear hRf hm hc
     go_wp2_with fail
     rw [HW7.out]
     refine (HV.out _ HS7.out).mono ?_;rintro e w8 ⟨rfl,hb8⟩
     have hE8:Ext W0 w8:=Ext.step hb8 HE7.out
     clear q0 q1 q2 q3
     obtain⟨q0,q1,q2,q3⟩:=HCL.out _ hE8
     go_wp2_with fail
     refine ret2 rfl rfl ((HS0.out.ext hE8).set2' 0 (.slice none 0 0)) rfl rfl (SDecN.bad HR.out rfl ?_)
     exact HRET.out _ hE8
   |true =>
     have HR:=zH (HH.out _ _ HRF.out (by rw [HLN.out];exact hm) hc HVB.out)
     clear hRf hm hc
     go_wp2_with fail
     rw [HW7.out]
     refine (HV.out _ HS7.out).mono ?_;rintro e w8 ⟨rfl,hb8⟩
     have hE8:Ext W0 w8:=Ext.step hb8 HE7.out
     have hG8:=HG7.out.ext hb8
     have HS8:=zH (HS7.out.ext hb8)
     clear q0 q1 q2 q3
     obtain⟨q0,q1,q2,q3⟩:=HCL.out _ hE8
     obtain⟨g0,g1⟩:=hG8.cells
     have g2:=za_a hG8
     go_wp2_with fail
     refine ret2 rfl rfl ((HS0.out.ext hE8).set2' (v1:Int) (.slice a9 k c9)) rfl rfl (SDecN.good HR.out HAL.out rfl (HS8.out.setOldS (HS0.out.ext hE8) _ _ _ _) ?_ HN9.out)
     exact ((HB0.out.trans (Below.mono hE8 HB0.out.size)).setCell (p:=w.heap.size) (zN _) _).setCell (p:=(w.heap.size 1)) (zN _) _
end Go.Proofs.YtmanejniepghlaaGreatDoor
