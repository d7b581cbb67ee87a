import Derived.Test.YtmanejniepghlaaGreatDoorRun17
import Derived.Test.YtmanejniepghlaaGreatDoorRun14
import Derived.Deep.RegionHeld3
import Derived.Test.YtmanejniepghlaaGreatDoorRun0
import Derived.Test.YtmanejniepghlaaGreatDoorRun9
import Derived.Test.YtmanejniepghlaaGreatDoorRun12
namespace Go.Proofs.YtmanejniepghlaaGreatDoor
section
open Go.RowKit
set_option maxRecDepth 100000
variable {b:UInt8}
namespace Host
theorem dg_a (h:48<=b.toNat/\b.toNat<=57):dg b=(b.toNat:Int) - 48:=if_pos h
theorem dg_b (h:97<=b.toNat/\b.toNat<=102):dg b=(b.toNat:Int) - 97+10:=by
 unfold dg;rw [if_neg (by omega),if_pos h];omega
theorem dg_c (h:65<=b.toNat/\b.toNat<=70):dg b=(b.toNat:Int) - 65+10:=by
 unfold dg;rw [if_neg (by omega),if_neg (by omega),if_pos h];omega
theorem dg_d (h1:¬ (48<=b.toNat/\b.toNat<=57)) (h2:¬ (97<=b.toNat/\b.toNat<=102)) (h3:¬ (65<=b.toNat/\b.toNat<=70)):dg b=99:=by
 unfold dg;rw [if_neg h1,if_neg h2,if_neg h3]
end Host
set_option maxHeartbeats 8000000 in
theorem zi_f (t:List UInt8) (ht:t.length<=1000000) (base:Int) (hb1:2<=base) (hb2:base<=16) (w:World) :
 Calls Tryz.prog 217 #[.string (str t),base] w fun e w'=>(∃ z:Int,e=.returned (.tuple #[z,.bool (t.all fun b=>decide (Host.dg b < base))]))/\w=w':=by
 have hsz:=strSize t
 have hget:∀ k (h:k < t.length) (hq:k < (str t).size),(str t)[k]'hq=t[k]'h:=fun k h hq=>strGet _ _ _
 obtain⟨sv,hsv⟩:∃ sv,sv=str t:=⟨_,rfl⟩
 rw [<-hsv] at hsz hget ⊢
 have HGET:=zH hget
 clear hget hsv
 obtain⟨ok,hok⟩:∃ ok,(t.all fun b=>decide (Host.dg b < base))=ok:=⟨_,rfl⟩
 have HOK:=zH hok.symm
 rw [hok]
 clear hok
 go_enter Tryz.func217,Tryz.ntmps217
 go_wp2_with fail
 go_loop [6,12] (fun v i=>∃ (k:Nat) (z:Int),k<=t.length/\i=.int .i64 k/\v=.int .i64 z/\0<=z/\z<=1099511627776/\Hid (∀ x ∈ t.take k,Host.dg x < base)) (fun _ i=>t.length - (intOf i).toNat)
 case atStart=>exact⟨0,0,Nat.zero_le _,rfl,rfl,by decide,by decide,zH (by simp)⟩
 case round =>
  obtain⟨k,z,hk,rfl,rfl,z0,z1,HC⟩:=hrel
  have i0:(0:Int)<=(k:Int):=by omega
  by_cases hlt:k < t.length
  ·have i1:(k:Int) < (t.length:Int):=by omega
   have hg:=HGET.out k hlt
   have HTK:=zH (List.take_succ_eq_append_getElem hlt)
   have HMEM:=zH (List.getElem_mem hlt)
   generalize t[k]=b at *
   have hb256:=b.toNat_lt
   have HA:=zH (Host.dg_a (b:=b))
   have HB:=zH (Host.dg_b (b:=b))
   have HCC:=zH (Host.dg_c (b:=b))
   have HD:=zH (Host.dg_d (b:=b))
   have HN:=zH (fun (h:Host.dg b < base)=>(show ∀ x ∈ t.take (k+1),Host.dg x < base by
    rw [HTK.out];intro x hx
    rcases List.mem_append.1 hx with hx|hx
    ·exact HC.out x hx
    ·simp at hx;subst hx;exact h))
   have HF:=zH (fun (h:¬ Host.dg b < base)=>(show ok=false by rw [HOK.out,List.all_eq_false];exact⟨b,HMEM.out,by simpa using h⟩))
   obtain⟨x,hx⟩:∃ x,b.toNat=x:=⟨_,rfl⟩
   have hg2:∀ (hq:k < sv.size),((sv[k]'hq).toNat:Int)=(x:Int):=fun hq=>by rw [hg hq,hx]
   rw [hx] at HA HB HCC HD hb256
   clear hx hg
   by_cases c1:48<=x/\x<=57
   ·have HDG:=zH (HA.out c1)
    obtain⟨c1,c2⟩:=c1
    have p1:(48:Int)<=(x:Int):=by omega
    have p2:(x:Int)<=57:=by omega
    obtain⟨d,hd⟩:∃ d:Int,(x:Int) - 48=d:=⟨_,rfl⟩
    rw [hd] at HDG
    have d0:0<=d:=by omega
    have d1:d<=15:=by omega
    have HDD:=zH hd
    by_cases c9:d < base
    ·have HNX:=zH (HN.out (by rw [HDG.out];exact c9))
     have c8:¬ base<=d:=by omega
     have m0:0<=z * base:=Int.mul_nonneg z0 (by omega)
     have m1:z * base<=1099511627776 * 16:=Int.mul_le_mul z1 hb2 (by omega) (by omega)
     obtain⟨zb,hzb⟩:∃ zb,z * base=zb:=⟨_,rfl⟩
     rw [hzb] at m0 m1
     have m2:0<=zb+d:=by omega
     have m3:zb+d<=17592186044431:=by omega
     by_cases c7:zb+d<=1099511627776
     ·have hmin:min (zb+d) 1099511627776=zb+d:=by omega
      go_wp2_with fail
      go_round
      case rel=>exact⟨k+1,zb+d,by omega,by go_num,rfl,m2,c7,HNX⟩
      case measure=>simp [intOf];omega
     ·have hmin:min (zb+d) 1099511627776=1099511627776:=by omega
      go_wp2_with fail
      go_round
      case rel=>exact⟨k+1,1099511627776,by omega,by go_num,rfl,by omega,by omega,HNX⟩
      case measure=>simp [intOf];omega
    ·have HFF:=zH (HF.out (by rw [HDG.out];exact c9))
     have c8:base<=d:=by omega
     clear c9
     go_wp2_with fail
     go_ret2
     exact⟨⟨0,by rw [HFF.out];rfl⟩,rfl⟩
   by_cases c2:97<=x/\x<=102
   ·have HDG:=zH (HB.out c2)
    obtain⟨c3,c4⟩:=c2
    have p1:(48:Int)<=(x:Int):=by omega
    have p2:¬ (x:Int)<=57:=by omega
    have p3:(97:Int)<=(x:Int):=by omega
    have p4:(x:Int)<=102:=by omega
    clear c1
    obtain⟨d,hd⟩:∃ d:Int,(x:Int) - 97+10=d:=⟨_,rfl⟩
    rw [hd] at HDG
    have d0:0<=d:=by omega
    have d1:d<=15:=by omega
    have HDD:=zH hd
    by_cases c9:d < base
    ·have HNX:=zH (HN.out (by rw [HDG.out];exact c9))
     have c8:¬ base<=d:=by omega
     have m0:0<=z * base:=Int.mul_nonneg z0 (by omega)
     have m1:z * base<=1099511627776 * 16:=Int.mul_le_mul z1 hb2 (by omega) (by omega)
     obtain⟨zb,hzb⟩:∃ zb,z * base=zb:=⟨_,rfl⟩
     rw [hzb] at m0 m1
     have m2:0<=zb+d:=by omega
     have m3:zb+d<=17592186044431:=by omega
     by_cases c7:zb+d<=1099511627776
     ·have hmin:min (zb+d) 1099511627776=zb+d:=by omega
      go_wp2_with fail
      go_round
      case rel=>exact⟨k+1,zb+d,by omega,by go_num,rfl,m2,c7,HNX⟩
      case measure=>simp [intOf];omega
     ·have hmin:min (zb+d) 1099511627776=1099511627776:=by omega
      go_wp2_with fail
      go_round
      case rel=>exact⟨k+1,1099511627776,by omega,by go_num,rfl,by omega,by omega,HNX⟩
      case measure=>simp [intOf];omega
    ·have HFF:=zH (HF.out (by rw [HDG.out];exact c9))
     have c8:base<=d:=by omega
     clear c9
     go_wp2_with fail
     go_ret2
     exact⟨⟨0,by rw [HFF.out];rfl⟩,rfl⟩
   by_cases c3:65<=x/\x<=70
   ·have HDG:=zH (HCC.out c3)
    obtain⟨c4,c5⟩:=c3
    have p1:(48:Int)<=(x:Int):=by omega
    have p2:¬ (x:Int)<=57:=by omega
    have p3:¬ (97:Int)<=(x:Int):=by omega
    have p4:(65:Int)<=(x:Int):=by omega
    have p5:(x:Int)<=70:=by omega
    clear c1 c2
    obtain⟨d,hd⟩:∃ d:Int,(x:Int) - 65+10=d:=⟨_,rfl⟩
    rw [hd] at HDG
    have d0:0<=d:=by omega
    have d1:d<=15:=by omega
    have HDD:=zH hd
    by_cases c9:d < base
    ·have HNX:=zH (HN.out (by rw [HDG.out];exact c9))
     have c8:¬ base<=d:=by omega
     have m0:0<=z * base:=Int.mul_nonneg z0 (by omega)
     have m1:z * base<=1099511627776 * 16:=Int.mul_le_mul z1 hb2 (by omega) (by omega)
     obtain⟨zb,hzb⟩:∃ zb,z * base=zb:=⟨_,rfl⟩
     rw [hzb] at m0 m1
     have m2:0<=zb+d:=by omega
     have m3:zb+d<=17592186044431:=by omega
     by_cases c7:zb+d<=1099511627776
     ·have hmin:min (zb+d) 1099511627776=zb+d:=by omega
      go_wp2_with fail
      go_round
      case rel=>exact⟨k+1,zb+d,by omega,by go_num,rfl,m2,c7,HNX⟩
      case measure=>simp [intOf];omega
     ·have hmin:min (zb+d) 1099511627776=1099511627776:=by omega
      go_wp2_with fail
      go_round
      case rel=>exact⟨k+1,1099511627776,by omega,by go_num,rfl,by omega,by omega,HNX⟩
      case measure=>simp [intOf];omega
    ·have HFF:=zH (HF.out (by rw [HDG.out];exact c9))
     have c8:base<=d:=by omega
     clear c9
     go_wp2_with fail
     go_ret2
     exact⟨⟨0,by rw [HFF.out];rfl⟩,rfl⟩
   ·have HFF:=zH (HF.out (by rw [HD.out c1 c2 c3];omega))
    by_cases f1:48<=x
    ·have p1:(48:Int)<=(x:Int):=by omega
     have p2:¬ (x:Int)<=57:=by omega
     by_cases f2:97<=x
     ·have p3:(97:Int)<=(x:Int):=by omega
      have p4:¬ (x:Int)<=102:=by omega
      have p5:(65:Int)<=(x:Int):=by omega
      have p6:¬ (x:Int)<=70:=by omega
      clear c1 c2 c3
      go_wp2_with fail
      go_ret2
      exact⟨⟨0,by rw [HFF.out];rfl⟩,rfl⟩
     ·have p3:¬ (97:Int)<=(x:Int):=by omega
      by_cases f3:65<=x
      ·have p5:(65:Int)<=(x:Int):=by omega
       have p6:¬ (x:Int)<=70:=by omega
       clear c1 c2 c3
       go_wp2_with fail
       go_ret2
       exact⟨⟨0,by rw [HFF.out];rfl⟩,rfl⟩
      ·have p5:¬ (65:Int)<=(x:Int):=by omega
       clear c1 c2 c3
       go_wp2_with fail
       go_ret2
       exact⟨⟨0,by rw [HFF.out];rfl⟩,rfl⟩
    ·have p1:¬ (48:Int)<=(x:Int):=by omega
     have p3:¬ (97:Int)<=(x:Int):=by omega
     have p5:¬ (65:Int)<=(x:Int):=by omega
     clear c1 c2 c3
     go_wp2_with fail
     go_ret2
     exact⟨⟨0,by rw [HFF.out];rfl⟩,rfl⟩
  ·obtain rfl:k=t.length:=by omega
   rw [List.take_length] at HC
   have HF:=zH (show ok=true by rw [HOK.out,List.all_eq_true];intro x hx;simpa using HC.out x hx)
   go_wp2_with fail
   go_ret2
   exact⟨⟨z,by rw [HF.out];rfl⟩,rfl⟩
namespace Host
theorem pre_short {t:List UInt8} (h:t.length < 2):pre t=false:=by
 cases hp:pre t with
|false=>rfl
|true=>have:=((pre_iff t).1 hp).1;omega
theorem take2 (t:List UInt8):(t.take 2 == [48,120])=decide (t.take 2=[48,120]):=by rw [Bool.eq_iff_iff];simp
theorem take2' (t:List UInt8):(t.take 2 == [48,88])=decide (t.take 2=[48,88]):=by rw [Bool.eq_iff_iff];simp
end Host
set_option maxHeartbeats 2000000 in
theorem zr_f (t:List UInt8) (w:World) :
 Calls Tryz.prog 215 #[.string (str t)] w fun e w'=>e=.returned (.bool (Host.pre t))/\w=w':=by
 have hsz:=strSize t
 have hcut:=strCut t 0 2
 rw [List.drop_zero] at hcut
 by_cases h2:t.length < 2
 ·have HF:=zH (Host.pre_short h2)
  obtain⟨sv,hsv⟩:∃ sv,str t=sv:=⟨_,rfl⟩
  rw [hsv] at hsz ⊢
  have i1:¬ (2:Int)<=(t.length:Int):=by omega
  clear hcut hsv
  go_enter Tryz.func215,Tryz.ntmps215
  go_wp2
  go_ret
  exact⟨by rw [HF.out];rfl,rfl⟩
 ·have i1:(2:Int)<=(t.length:Int):=by omega
  have HP:=zH (show Host.pre t=((t.take 2 == [48,120]) || (t.take 2 == [48,88])) by rw [Host.take2,Host.take2'];rfl)
  have hl2:(str (t.take 2)).toList=t.take 2:=str_toList _
  obtain⟨sv,hsv⟩:∃ sv,str t=sv:=⟨_,rfl⟩
  obtain⟨s2,hs2⟩:∃ s2,str (t.take 2)=s2:=⟨_,rfl⟩
  rw [hsv] at hsz hcut ⊢
  rw [hs2] at hcut hl2
  rw [<-hl2] at HP
  obtain⟨b1,hb1⟩:∃ b,(s2.toList == [48,120])=b:=⟨_,rfl⟩
  obtain⟨b2,hb2⟩:∃ b,(s2.toList == [48,88])=b:=⟨_,rfl⟩
  rw [hb1,hb2] at HP
  clear hl2 hsv hs2
  cases b1
  ·cases b2
   ·go_enter Tryz.func215,Tryz.ntmps215
    go_wp2
    go_ret
    exact⟨by rw [HP.out];rfl,rfl⟩
   ·go_enter Tryz.func215,Tryz.ntmps215
    go_wp2
    go_ret
    exact⟨by rw [HP.out];rfl,rfl⟩
  ·go_enter Tryz.func215,Tryz.ntmps215
   go_wp2
   go_ret
   exact⟨by rw [HP.out];rfl,rfl⟩
set_option maxHeartbeats 2000000 in
theorem zn_j (t:List UInt8) (ht:t.length<=1000000) (hp:Host.pre t=true) (w:World) :
 Calls Tryz.prog 216 #[.string (str t)] w fun e w'=>(∃ z:Int,e=.returned (.tuple #[z,.bool ((t.drop 2).all Host.hexd)]))/\w=w':=by
 have h2:=((Host.pre_iff t).1 hp).1
 have hsz:=strSize t
 have hne:(str t).toList.isEmpty=false:=by
  rw [str_toList]
  cases t with
 |nil=>simp at h2
 |cons _ _=>rfl
 have hcut:=strCut t 2 t.length
 rw [List.take_length] at hcut
 have hd:=fun W=>zi_f (t.drop 2) (by rw [List.length_drop];omega) 16 (by decide) (by decide) W
 have hh:=fun W=>zr_f t W
 rw [hp] at hh
 have e16:(fun b=>decide (Host.dg b < 16))=Host.hexd:=funext Host.dg16
 rw [e16] at hd
 obtain⟨ok,hok⟩:∃ ok,(t.drop 2).all Host.hexd=ok:=⟨_,rfl⟩
 rw [hok] at hd ⊢
 have i1:(2:Int)<=(t.length:Int):=by omega
 obtain⟨sv,hsv⟩:∃ sv,str t=sv:=⟨_,rfl⟩
 obtain⟨s2,hs2⟩:∃ s2,str (t.drop 2)=s2:=⟨_,rfl⟩
 rw [hsv] at hsz hcut hne hh ⊢
 rw [hs2] at hcut hd
 have HD:=zH hd
 have HH:=zH hh
 clear hd hh hsv hs2 hok hp e16
 go_enter Tryz.func216,Tryz.ntmps216
 go_wp2_with (first
 |(go_at_call 215;go_must (refine (HH.out _).mono ?_);rintro e w1 ⟨rfl,rfl⟩)
 |(go_at_call 217;go_must (refine (HD.out _).mono ?_);rintro e w1 ⟨⟨z,rfl⟩,rfl⟩))
 go_ret2
 exact⟨⟨z,rfl⟩,rfl⟩
set_option maxHeartbeats 2000000 in
theorem zp_x (l:List UInt8) (hl:l.length<=1000000) (w:World) :
 Calls Tryz.prog 214 #[.string (str l)] w (PartsPost l w):=by
 have HS:=zH (zq_t l hl w)
 have hp:=List.length_pos_iff.2 (Host.split_ne l)
 have hbd:=Host.split_len l
 obtain⟨ps,hps⟩:∃ ps,Host.split l=ps:=⟨_,rfl⟩
 have HSH:=zH (Host.parts_short (l:=l))
 have HCU:=zH (Host.parts_cut (l:=l))
 have HFU:=zH (Host.parts_full (l:=l))
 rw [hps] at HS hp hbd HSH HCU HFU
 clear hps
 obtain⟨sv,hsv⟩:∃ sv,str l=sv:=⟨_,rfl⟩
 rw [hsv] at HS ⊢
 clear hsv
 obtain⟨n,hn⟩:∃ n,ps.length=n:=⟨_,rfl⟩
 rw [hn] at hp hbd HSH HCU HFU
 have HN:=zH hn
 clear hn
 by_cases h1:n<=1
 ·obtain rfl:n=1:=by omega
  have HR:=zH (HSH.out (zN _))
  go_enter Tryz.func214,Tryz.ntmps214
  go_wp2_with fail
  refine HS.out.mono ?_;rintro e w1 ⟨v1,rfl,hO1,hB1⟩
  obtain⟨g,c,rfl,hc1,hc2,hs1⟩:=hO1.rowN (by rw [HN.out];omega)
  rw [HN.out] at hs1 ⊢
  go_wp2_with fail
  go_ret
  exact⟨g,c,by rw [HR.out,HN.out];rfl,by rw [HR.out,HN.out];exact hs1,hB1⟩
 ·have i1:(0:Int) < (n:Int) - 1:=by omega
  have i2:(0:Int)<=(n:Int) - 1:=by omega
  have i3:(n:Int) - 1 < (n:Int):=by omega
  have i4:((n:Int) - 1).toNat=n - 1:=by omega
  obtain⟨q,hq⟩:∃ q,ps[n - 1]?.getD []=q:=⟨_,rfl⟩
  rw [hq] at HCU HFU
  obtain⟨sq,hsq⟩:∃ sq,str q=sq:=⟨_,rfl⟩
  by_cases hqe:q=[]
  ·have HR:=zH (HCU.out (by omega) hqe)
   have e1:sq.toList.isEmpty=true:=by rw [<-hsq,hqe,str_toList];rfl
   go_enter Tryz.func214,Tryz.ntmps214
   go_wp2_with fail
   refine HS.out.mono ?_;rintro e w1 ⟨v1,rfl,hO1,hB1⟩
   obtain⟨g,c,rfl,hc1,hc2,hs1⟩:=hO1.rowN (by rw [HN.out];omega)
   rw [HN.out] at hs1 hc1 ⊢
   obtain⟨_,_,e5,hbb,hkl,hcell⟩:=hs1.at (k:=n - 1) (by omega)
   cases e5
   rw [hq,tv,hsq,Nat.zero_add] at hcell
   have i5:(n:Int) - 1<=(c:Int):=by omega
   have i6:n - 1<=c:=by omega
   clear hqe hq hsq
   go_wp2_with fail
   go_ret
   exact⟨g,c,by rw [HR.out,List.length_take,HN.out,Nat.min_eq_left (Nat.sub_le _ _)];rfl,by rw [HR.out,List.length_take,HN.out,Nat.min_eq_left (Nat.sub_le _ _)];exact hs1.take (Nat.sub_le _ _),hB1⟩
  ·have HR:=zH (HFU.out hqe)
   have e1:sq.toList.isEmpty=false:=by rw [<-hsq,str_toList];simpa using hqe
   go_enter Tryz.func214,Tryz.ntmps214
   go_wp2_with fail
   refine HS.out.mono ?_;rintro e w1 ⟨v1,rfl,hO1,hB1⟩
   obtain⟨g,c,rfl,hc1,hc2,hs1⟩:=hO1.rowN (by rw [HN.out];omega)
   rw [HN.out] at hs1 hc1 ⊢
   obtain⟨_,_,e5,hbb,hkl,hcell⟩:=hs1.at (k:=n - 1) (by omega)
   cases e5
   rw [hq,tv,hsq,Nat.zero_add] at hcell
   clear hqe hq hsq
   go_wp2_with fail
   go_ret
   exact⟨g,c,by rw [HR.out,HN.out];rfl,by rw [HR.out,HN.out];exact hs1,hB1⟩
set_option maxHeartbeats 4000000 in
theorem zl_w (l:List UInt8) (hl:l.length<=1000000) (w:World) :
 Calls Tryz.prog 192 #[.string (str l)] w fun e w'=>e=.returned (.bool (Host.numeric l))/\Below w.heap.size w w':=by
 have HP:=zH (zp_x l hl w)
 have hla:=Host.last_at l
 have hll:=Host.last_len l
 have hp:=List.length_pos_iff.2 (Host.parts_ne l)
 have hpl:=Host.parts_len l
 have HNUM:=zH (show Host.numeric l=Host.num (Host.last l) from rfl)
 obtain⟨t,ht⟩:∃ t,Host.last l=t:=⟨_,rfl⟩
 obtain⟨ps,hps⟩:∃ ps,Host.parts l=ps:=⟨_,rfl⟩
 unfold PartsPost at HP
 rw [hps] at HP hp hla hpl
 rw [ht] at hla hll HNUM
 clear ht hps
 have e10:(fun b=>decide (Host.dg b < 10))=Host.decd:=funext Host.dg10
 have hd:=fun W=>zi_f t (by omega) 10 (by decide) (by decide) W
 rw [e10] at hd
 have hx:=fun W=>zr_f t W
 have HN:=zH (fun h W=>zn_j t (by omega) h W)
 have HI:Hid (Host.num t=if Host.pre t then (t.drop 2).all Host.hexd else t.all Host.decd && !t.isEmpty):=zH rfl
 have hem:(str t).toList.isEmpty=t.isEmpty:=by rw [str_toList]
 obtain⟨n,hn⟩:∃ n,ps.length=n:=⟨_,rfl⟩
 rw [hn] at HP hp hla hpl
 obtain⟨sv,hsv⟩:∃ sv,str l=sv:=⟨_,rfl⟩
 rw [hsv] at HP ⊢
 obtain⟨st,hst⟩:∃ st,str t=st:=⟨_,rfl⟩
 rw [hst] at hd hx HN hem
 have HLA:=zH (And.intro hla hst)
 obtain⟨pb,hpb⟩:∃ b,Host.pre t=b:=⟨_,rfl⟩
 rw [hpb] at hx HI HN
 have HX:=zH hx
 have HD:=zH hd
 clear hn hsv hst hla hx hd e10 hpb
 have i0:(0:Int)<=(n:Int) - 1:=by omega
 have i1:(n:Int) - 1 < (n:Int):=by omega
 have i2:((n:Int) - 1).toNat=n - 1:=by omega
 cases pb with
|true =>
  have HN2:=zH (HN.out rfl)
  have HF:=zH (show Host.numeric l=(t.drop 2).all Host.hexd by rw [HNUM.out,HI.out,if_pos rfl])
  obtain⟨ok,hok⟩:∃ ok,(t.drop 2).all Host.hexd=ok:=⟨_,rfl⟩
  rw [hok] at HN2 HF
  clear hok
  go_enter Tryz.func192,Tryz.ntmps192
  go_wp2_with fail
  refine HP.out.mono ?_;rintro e w1 ⟨b,c,rfl,hs1,hB1⟩
  obtain⟨_,_,e5,hbb,hkl,hcell⟩:=hs1.at (k:=n - 1) (by omega)
  cases e5
  rw [HLA.out.1,tv,HLA.out.2,Nat.zero_add] at hcell
  go_wp2_with (first
  |(go_at_call 215;go_must (refine (HX.out _).mono ?_);rintro e w2 ⟨rfl,rfl⟩)
  |(go_at_call 216;go_must (refine (HN2.out _).mono ?_);rintro e w2 ⟨⟨z,rfl⟩,rfl⟩))
  go_ret
  exact⟨by rw [HF.out];rfl,hB1⟩
|false =>
  have HF:=zH (show Host.numeric l=(t.all Host.decd && !t.isEmpty) by rw [HNUM.out,HI.out,if_neg (by decide)])
  obtain⟨ok,hok⟩:∃ ok,t.all Host.decd=ok:=⟨_,rfl⟩
  rw [hok] at HD HF
  rw [<-hem] at HF
  obtain⟨em,hemm⟩:∃ b,st.toList.isEmpty=b:=⟨_,rfl⟩
  rw [hemm] at HF
  clear hok hem HN
  cases ok
  ·go_enter Tryz.func192,Tryz.ntmps192
   go_wp2_with fail
   refine HP.out.mono ?_;rintro e w1 ⟨b,c,rfl,hs1,hB1⟩
   obtain⟨_,_,e5,hbb,hkl,hcell⟩:=hs1.at (k:=n - 1) (by omega)
   cases e5
   rw [HLA.out.1,tv,HLA.out.2,Nat.zero_add] at hcell
   go_wp2_with (first
   |(go_at_call 215;go_must (refine (HX.out _).mono ?_);rintro e w2 ⟨rfl,rfl⟩)
   |(go_at_call 217;go_must (refine (HD.out _).mono ?_);rintro e w2 ⟨⟨z,rfl⟩,rfl⟩))
   go_ret
   exact⟨by rw [HF.out];rfl,hB1⟩
  ·cases em
   all_goals
    go_enter Tryz.func192,Tryz.ntmps192
    go_wp2_with fail
    refine HP.out.mono ?_;rintro e w1 ⟨b,c,rfl,hs1,hB1⟩
    obtain⟨_,_,e5,hbb,hkl,hcell⟩:=hs1.at (k:=n - 1) (by omega)
    cases e5
    rw [HLA.out.1,tv,HLA.out.2,Nat.zero_add] at hcell
    go_wp2_with (first
    |(go_at_call 215;go_must (refine (HX.out _).mono ?_);rintro e w2 ⟨rfl,rfl⟩)
    |(go_at_call 217;go_must (refine (HD.out _).mono ?_);rintro e w2 ⟨⟨z,rfl⟩,rfl⟩))
    go_ret
    exact⟨by rw [HF.out];rfl,hB1⟩
end
section
open Go.RowKit Go.Shelf
variable {W w:World} {B M b k:Nat} {o:Obj} {l:List UInt8}
attribute [local go_sem] Oper.semAt_some
theorem zu_b (s sep:ByteArray) (w:World) :
 Calls Tryz.prog 193 #[.string s,.string sep] w fun e w'=>e=.returned (.func (.func 235) #[] #[.pointer (w.heap.size+1:Nat),.pointer w.heap.size,.pointer (w.heap.size+2:Nat)]) ∧
  w'=((w.alloc (.cells #[.string s] 9)).alloc (.cells #[.string sep] 9)).alloc (.cells #[.int .i64 0] 3):=by
 have HC:=zH (fun W=>callsIn_wide.1 (zf_z Fence.wide 3 trivial rfl s sep 0 W))
 go_enter Tryz.func193,Tryz.ntmps193
 go_wp2_with fail
 refine (HC.out _).mono ?_;rintro e w1 ⟨rfl,rfl⟩
 go_wp2_with fail
 go_ret
 exact⟨rfl,rfl⟩
def VnI (w:World) (l:List UInt8) (M k:Nat) (W:World):Prop:=Below w.heap.size w W/\Boxed W w.heap.size 4 (.bool false)/\M<=W.heap.size/\Hid (∀ j,j < k->Lab.valid ((Host.split l)[j]?.getD [])=true)
def VnX (w:World) (l:List UInt8) (c:Code) (_k:Nat) (W:World):Prop:=c=.ret/\Below w.heap.size w W/\Boxed W w.heap.size 4 (.bool false)/\Hid (Host.name l=false)
theorem zd_c {l:Nat} {t:TypeId} {v:Value} {o':Obj} (h:Boxed W b t v) (hl:W.heap[l]?=some o) (hc:o.isCells=false):Boxed (W.putObj l o') b t v:=by
 refine (World.putObj_heap_other ?_).trans h
 intro e
 subst e
 have h':W.heap[b]?=some (.cells #[v] t (0,0)):=h
 rw [h'] at hl;cases hl;cases hc
theorem zd_b (h:Below B w W) {l:Nat} (hl:B<=l) (_hlo:W.heap[l]?=some o) (_hc:o.isCells=false) (hBl:B<=W.heap.size) (o':Obj):Below B w (W.putObj l o'):=by
 refine h.trans ((Below.refl B W).grown (grownBy_putObj' W l o') hBl (fun k e=>by cases e;exact hl))
theorem zc_w {W':World} (h:Below W.heap.size W W'):KeepsFrom B W W':=⟨h.size,fun _ _ _ hk _=>(h.block _ (za_a hk)).trans hk⟩
theorem VnI.put (h:VnI w l M k W) (hM:w.heap.size<=M) (hb:w.heap.size+1<=b) (ho:W.heap[b]?=some o) (hc:o.isCells=false) (o':Obj):VnI w l M k (W.putObj b o'):=by
 obtain⟨h1,h2,h3,h4⟩:=h
 exact⟨zd_b h1 (by omega) ho hc (by omega) o',zd_c h2 ho hc,by simpa using h3,h4⟩
theorem VnI.set (h:VnI w l M k W) (hb:w.heap.size+1<=b) (v:Value):VnI w l M k (W.setCell b v):=by
 obtain⟨h1,h2,h3,h4⟩:=h
 exact⟨h1.setCell (p:=b) (by show w.heap.size<=b;omega) v,(heap_setCell_other _ _ _ _ (by show w.heap.size ≠ b;omega)).trans h2,by simpa using h3,h4⟩
theorem VnX.put {c:Code} (h:VnX w l c k W) (hw:w.heap.size<=W.heap.size) (hb:w.heap.size+1<=b) (ho:W.heap[b]?=some o) (hc:o.isCells=false) (o':Obj):VnX w l c k (W.putObj b o'):=by
 obtain⟨h0,h1,h2,h4⟩:=h
 exact⟨h0,zd_b h1 (by omega) ho hc hw o',zd_c h2 ho hc,h4⟩
set_option maxRecDepth 100000 in
set_option maxHeartbeats 4000000 in
theorem zc_i (l:List UInt8) (hl:l.length<=1000000) (w:World) :
 Calls Tryz.prog 169 #[.string (str l)] w fun e w'=>e=.returned (.bool (Host.name l))/\Below w.heap.size w w':=by
 have hsz:=strSize l
 have HNU:=zH (fun W=>zl_w l hl W)
 have HSP:=zH (fun W=>zu_b (str l) ⟨#[46]⟩ W)
 have hbx:=Boxed.new w 4 (.bool false)
 have hb0:=(Below.refl w.heap.size w).alloc (zN _) (.cells #[.bool false] 4)
 have HB0:=zH (And.intro hbx hb0)
 clear hbx hb0
 obtain⟨sv,hsv⟩:∃ sv,str l=sv:=⟨_,rfl⟩
 have HSV:=zH hsv
 rw [hsv] at hsz HNU HSP ⊢
 clear hsv
 by_cases h1:253 < l.length
 ·have HF:=zH (Host.name_long h1)
  have i1:(253:Int) < (l.length:Int):=by omega
  clear HNU HSP
  go_enter Tryz.func169,Tryz.ntmps169
  go_wp2_with fail
  refine bodyPost_ret (v:=.bool false) (by simp [results,Tryz.results169,go_sem]) rfl ⟨by rw [HF.out],?_⟩
  exact (HB0.out.2)
 have i1:¬ (253:Int) < (l.length:Int):=by omega
 have HNN:=zH (fun h=>Host.name_num (l:=l) h)
 have HNP:=zH (fun h=>Host.name_parts (l:=l) (by omega) h)
 obtain⟨nu,hnu⟩:∃ nu,Host.numeric l=nu:=⟨_,rfl⟩
 rw [hnu] at HNU HNN HNP
 clear hnu
 have hz0:(w.alloc (.cells #[.bool false] 4)).heap.size=w.heap.size+1:=by simp
 have HZ0:=zH hz0
 clear hz0
 cases nu with
|true =>
  have HF:=zH (HNN.out rfl)
  clear HSP
  go_enter Tryz.func169,Tryz.ntmps169
  go_wp2_with fail
  refine (HNU.out _).mono ?_;rintro e w1 ⟨rfl,hB1⟩
  rw [HZ0.out] at hB1
  have hbx1:Boxed w1 w.heap.size 4 (.bool false):=(hB1.block _ (Nat.lt_succ_self _)).trans HB0.out.1
  have c1:=hbx1.cell
  have f1:=hbx1.frozen
  have c2:=(hbx1.set (.bool false)).cell
  go_wp2_with fail
  refine bodyPost_ret (v:=.bool false) (by simp [results,Tryz.results169,go_sem,c2]) rfl ⟨by rw [HF.out],?_⟩
  exact (HB0.out.2.trans (hB1.mono (Nat.le_succ _))).setCell (zN _) _
|false =>
  have HF:=zH (HNP.out rfl)
  refine (callsIn_wide (n:=6)).1 ?_
  refine callsIn_of_wp_marks Tryz.func169 rfl trivial ?_ rfl
  simp only [Tryz.ntmps169,List.size_toArray,List.length_cons,List.length_nil,Nat.reduceAdd,Nat.reduceSub,Array.replicate_succ,Array.replicate_zero,List.push_toArray,List.append_toArray,List.nil_append,List.cons_append]
  refine wpIn_wide.2 ?_
  go_wp2_with fail
  refine (HNU.out _).mono ?_;rintro e w1 ⟨rfl,hB1⟩
  rw [HZ0.out] at hB1
  have hbx1:Boxed w1 w.heap.size 4 (.bool false):=(hB1.block _ (Nat.lt_succ_self _)).trans HB0.out.1
  go_wp2_with fail
  refine (HSP.out _).mono ?_;rintro e w2 ⟨rfl,rfl⟩
  go_wp2_with fail
  obtain⟨X,hX⟩:∃ X,w1.heap.size=X:=⟨_,rfl⟩
  have hwX:w.heap.size+1<=X:=by rw [<-hX];have:=hB1.size;rw [HZ0.out] at this;exact this
  have hb3:=(((Below.refl w1.heap.size w1).alloc (zN _) (.cells #[.string sv] 9)).alloc (by simp) (.cells #[.string ⟨#[46]⟩] 9)).alloc (by simp;omega) (.cells #[.int .i64 0] 3)
  have hx2:Boxed (((w1.alloc (.cells #[.string sv] 9)).alloc (.cells #[.string ⟨#[46]⟩] 9)).alloc (.cells #[.int .i64 0] 3)) w1.heap.size 9 (.string sv):=((Boxed.new w1 _ _).alloc _).alloc _
  have hx1:Boxed (((w1.alloc (.cells #[.string sv] 9)).alloc (.cells #[.string ⟨#[46]⟩] 9)).alloc (.cells #[.int .i64 0] 3)) (w1.heap.size+1) 9 (.string ⟨#[46]⟩):=by
   unfold Boxed;rw [za_c _ _ _ (by simp),za_b _ _ _ (by simp)]
  have hx3:Boxed (((w1.alloc (.cells #[.string sv] 9)).alloc (.cells #[.string ⟨#[46]⟩] 9)).alloc (.cells #[.int .i64 0] 3)) (w1.heap.size+2) 3 (.int .i64 0):=by
   unfold Boxed;rw [za_b _ _ _ (by simp)]
  have hz3:(((w1.alloc (.cells #[.string sv] 9)).alloc (.cells #[.string ⟨#[46]⟩] 9)).alloc (.cells #[.int .i64 0] 3)).heap.size=w1.heap.size+3:=by simp
  generalize (((w1.alloc (.cells #[.string sv] 9)).alloc (.cells #[.string ⟨#[46]⟩] 9)).alloc (.cells #[.int .i64 0] 3))=w3 at *
  rw [hX] at hb3 hx1 hx2 hx3 hz3 ⊢
  have hbx3:Boxed w3 w.heap.size 4 (.bool false):=(hb3.block _ (by omega)).trans hbx1
  have hB3:Below w.heap.size w w3:=(HB0.out.2.trans (hB1.mono (Nat.le_succ _))).trans (hb3.mono (by omega))
  have hseq:=zt_o 3 (by omega) (X+1) X (X+2) l hl w3 (by omega) (by omega) (by omega) (by omega) (by omega) hx1.cell (by rw [HSV.out];exact hx2) hx3.cell
  obtain⟨N,hN⟩:∃ N,(Host.split l).length=N:=⟨_,rfl⟩
  rw [hN] at hseq
  have HN:=zH hN
  have HSEQ:=zH hseq
  have HPL:=zH (fun k (hk:k < N)=>show ((Host.split l)[k]?.getD []).length<=1000000 from by
   have hkl:k < (Host.split l).length:=by rw [HN.out];exact hk
   rw [List.getElem?_eq_getElem hkl,Option.getD_some]
   exact Nat.le_trans (Host.split_part_len l _ (List.getElem_mem hkl)) hl)
  clear hseq hN hx1 hx2 hx3 hB1 hbx1 hX
  refine (wpIn_wide (n:=4)).1 ?_
  refine zh_q (Kp:=KpS (X+1) X (X+2)) rfl (by omega) (gf:=235) (lb:=#[.pointer (X+1:Nat),.pointer X,.pointer (X+2:Nat)]) rfl trivial (enters_of Tryz.func235 (by kernel_rfl) rfl) (by omega) HSEQ.out zu_a
   (fun W l o o' hl h1 h2=>⟨World.putObj_heap_other (by omega),World.putObj_heap_other (by omega),World.putObj_heap_other (by omega)⟩) (Below.refl _ _) (fun _=>rfl)
   (VnI w l (X+3)) (VnX w l) (fun k W l o o' hI hl h1 h2=>hI.put (by omega) (by omega) h1 h2 o') (fun cd k W l o o' hI hl h1 h2=>hI.put hI.2.1.size (by omega) h1 h2 o') (fun k W v hI=>hI.set hwX v)
   ?h0 (fun k a1 W=>a1={ tmps:=#[.string sv,undef,.pointer w.heap.size,.string (str ((Host.split l)[k]?.getD [])),.string sv,l.length,.bool false,.bool false,.string sv,.bool false,.bool false,.string sv,.func (.func 235) #[] #[.pointer (X+1:Nat),.pointer X,.pointer (X+2:Nat)],.string (str ((Host.split l)[k]?.getD [])),undef,undef,undef],defers:=[] }/\VnI w l (X+3) k W)
   (fun a1 k W l o o' hI hl h1 h2=>⟨hI.1,hI.2.put (by omega) (by omega) h1 h2 o'⟩)
   ?assign ?body ?done ?stop
  case h0 =>
   intro o o'
   have hbe:=((Below.refl _ w3).alloc (zN _) o).alloc (by simp) o'
   exact⟨hB3.trans (hbe.mono hB3.size),(hbe.block _ (za_a hbx3)).trans hbx3,by have:=hbe.size;omega,zH (fun j hj=>by omega)⟩
  case assign =>
   intro lp k W hI hk
   unfold ssEnc
   gi_wp2
   exact⟨zc_w (Below.refl _ _),⟨rfl,rfl,rfl⟩,by trivial,hI⟩
  case body =>
   rintro lp k a1 W ⟨rfl,hI⟩ hk
   obtain⟨g1,g2,g3,g4⟩:=hI
   obtain⟨p,hp⟩:∃ p,(Host.split l)[k]?.getD []=p:=⟨_,rfl⟩
   have hpl:=HPL.out k hk
   rw [hp] at hpl ⊢
   have HC:=zH ((callsIn_wide (n:=1)).2 (zn_l p W hpl))
   have HPP:=zH hp
   obtain⟨vb,hvb⟩:∃ vb,Lab.valid p=vb:=⟨_,rfl⟩
   rw [hvb] at HC
   have HVB:=zH hvb
   obtain⟨sp,hsp⟩:∃ sp,str p=sp:=⟨_,rfl⟩
   rw [hsp] at HC ⊢
   clear hp hvb hsp
   have hw1:Fence.wide.fn 194:=trivial
   cases vb with
  |true =>
    gi_wp2_with (gi_at_call 194;go_must (refine (HC.out.inRound lp).mono ?_);rintro e w4 ⟨rfl,hb4⟩)
    refine⟨zc_w hb4,⟨hb4.block _ (by omega),hb4.block _ (by omega),hb4.block _ (by omega)⟩,g1.trans (hb4.mono g1.size),(hb4.block _ (za_a g2)).trans g2,by have:=hb4.size;omega,zH (fun j hj=>?_)⟩
    rcases Nat.lt_or_ge j k with e|e
    ·exact g4.out j e
    ·obtain rfl:j=k:=by omega
     rw [HPP.out];exact HVB.out
  |false =>
    gi_wp2_with (gi_at_call 194;go_must (refine (HC.out.inRound lp).mono ?_);rintro e w4 ⟨rfl,hb4⟩;have bx4:Boxed w4 w.heap.size 4 (.bool false):=(hb4.block _ (za_a g2)).trans g2;have c4:=bx4.cell;have f4:=bx4.frozen)
    refine⟨(zc_w hb4).trans ((KeepsOthers.setCell _ _ _).from _),rfl,(g1.trans (hb4.mono g1.size)).setCell (zN _) _,bx4.set _,zH ?_⟩
    rw [HF.out,List.all_eq_false]
    have hkl:k < (Host.split l).length:=by rw [HN.out];exact hk
    have hpp:=HPP.out
    rw [List.getElem?_eq_getElem hkl,Option.getD_some] at hpp
    exact⟨_,List.getElem_mem hkl,by rw [hpp,HVB.out];decide⟩
  case done =>
   intro D W hD hI hK
   obtain⟨g1,g2,g3,g4⟩:=hI
   have c4:=g2.cell
   have f4:=g2.frozen
   have HFT:=zH (show Host.name l=true by
    rw [HF.out,List.all_eq_true]
    intro x hx
    obtain⟨j,hj,rfl⟩:=List.mem_iff_getElem.1 hx
    have:=g4.out j (by rw [<-HN.out];exact hj)
    rw [List.getElem?_eq_getElem hj,Option.getD_some] at this
    exact this)
   gi_wp2
   go_wp2
   have hD2:(W.setCell w.heap.size (.bool true)).heap[D]?=some (.deferred (some [])):=(heap_setCell_other _ _ _ _ (show D ≠ w.heap.size by omega)).trans hK
   have d2:=(zd_c (g2.set (.bool true)) (o':=.deferred none) hD2 rfl).cell
   refine⟨by simp,.inl ⟨_,_,rfl,run_takeDeferred hD2,⟨.bool true,by simp [results,Tryz.results169,go_sem,d2],?_⟩⟩⟩
   exact⟨by rw [HFT.out],zd_b (g1.setCell (zN _) _) (by omega) hD2 rfl (by simp;omega) _⟩
  case stop =>
   rintro D cd k W hD hk hI hK
   obtain⟨rfl,g1,g2,g4⟩:=hI
   have d2:=(zd_c g2 (o':=.deferred none) hK rfl).cell
   gi_wp2
   refine⟨by simp,.inl ⟨_,_,rfl,run_takeDeferred hK,⟨.bool false,by simp [results,Tryz.results169,go_sem,d2],?_⟩⟩⟩
   exact⟨by rw [g4.out],zd_b g1 (by omega) hK rfl g1.size _⟩
end
section
open Go.RowKit
set_option maxRecDepth 100000
variable {x y:List UInt8}
def cmpS (x y:List UInt8):Int:=if Host.lb x y then -1 else if Host.lb y x then 1 else 0
def cmpI (x y:Int):Int:=if x < y then -1 else if y < x then 1 else 0
theorem zt_d (x y:List UInt8) (w:World):Calls Tryz.prog 180 #[.string (str x),.string (str y)] w fun e w'=>e=.returned (.int .i64 (cmpS x y))/\w=w':=by
 have HC:=zH (show cmpS x y=if Host.lb x y then -1 else if Host.lb y x then 1 else 0 from rfl)
 obtain⟨b1,h1⟩:∃ b,Host.lb x y=b:=⟨_,rfl⟩
 obtain⟨b2,h2⟩:∃ b,Host.lb y x=b:=⟨_,rfl⟩
 rw [h1,h2] at HC
 have hx:(str x).toList=x:=str_toList x
 have hy:(str y).toList=y:=str_toList y
 have t1:Op.bytesLess (str x).toList (str y).toList=b1:=by rw [hx,hy];exact h1
 have t2:Op.bytesLess (str y).toList (str x).toList=b2:=by rw [hx,hy];exact h2
 obtain⟨sx,hsx⟩:∃ sx,str x=sx:=⟨_,rfl⟩
 obtain⟨sy,hsy⟩:∃ sy,str y=sy:=⟨_,rfl⟩
 have HEQ:=zH (show ((str x).toList == (str y).toList)=(!b1 && !b2) by
  rw [hx,hy]
  cases b1 with
 |true =>
   have:x ≠ y:=by intro e;subst e;rw [Host.lb_irrefl] at h1;cases h1
   simpa using this
 |false =>
   cases b2 with
  |true =>
    have:x ≠ y:=by intro e;subst e;rw [Host.lb_irrefl] at h2;cases h2
    simpa using this
  |false=>have:=Host.lb_total x y h1 h2;subst this;simp)
 rw [hsx,hsy] at t1 t2 HEQ ⊢
 clear h1 h2 hx hy hsx hsy
 have t3:=HEQ.out
 cases b1
 ·cases b2
  ·have HR:=zH (show cmpS x y=0 by rw [HC.out];rfl)
   go_enter Tryz.func180,Tryz.ntmps180
   go_wp2
   go_ret
   exact⟨by rw [HR.out];rfl,rfl⟩
  ·have HR:=zH (show cmpS x y=1 by rw [HC.out];rfl)
   go_enter Tryz.func180,Tryz.ntmps180
   go_wp2
   go_ret
   exact⟨by rw [HR.out];rfl,rfl⟩
 ·have HR:=zH (show cmpS x y=-1 by rw [HC.out];rfl)
  go_enter Tryz.func180,Tryz.ntmps180
  go_wp2
  go_ret
  exact⟨by rw [HR.out];rfl,rfl⟩
theorem zm_s (x y:Int) (w:World):Calls Tryz.prog 181 #[x,y] w fun e w'=>e=.returned (.int .i64 (cmpI x y))/\w=w':=by
 have HC:=zH (show cmpI x y=if x < y then -1 else if y < x then 1 else 0 from rfl)
 by_cases h1:x < y
 ·have HR:=zH (show cmpI x y=-1 by rw [HC.out,if_pos h1])
  go_enter Tryz.func181,Tryz.ntmps181
  go_wp2
  go_ret
  exact⟨by rw [HR.out];rfl,rfl⟩
 ·by_cases h2:y < x
  ·have HR:=zH (show cmpI x y=1 by rw [HC.out,if_neg h1,if_pos h2])
   go_enter Tryz.func181,Tryz.ntmps181
   go_wp2
   go_ret
   exact⟨by rw [HR.out];rfl,rfl⟩
  ·have HR:=zH (show cmpI x y=0 by rw [HC.out,if_neg h1,if_neg h2])
   go_enter Tryz.func181,Tryz.ntmps181
   go_wp2
   go_ret
   exact⟨by rw [HR.out];rfl,rfl⟩
namespace Host
theorem lastdot (a:List UInt8):∃ (i:Int) (ia:Nat) (x:List UInt8),Lib.lastIndexByte (str a) 46=i/\i+1=(ia:Int)/\ia<=a.length/\a.drop ia=x/\(∀ c ∈ x,c ≠ 46) ∧
 ((i=-1/\a=x)\/∃ n:Nat,i=(n:Int)/\n < a.length/\a=a.take n ++ 46 :: x):=by
 have hs:=Lib.lastIndexByte_spec (str a) 46
 have hz:(str a).size=a.length:=strSize a
 have hne:∀ j (h:j < a.length),(((str a).data[j]!).toNat:Int) ≠ 46->a[j] ≠ 46:=by
  intro j h h1 e
  rw [zi_z a j h,e] at h1;exact h1 rfl
 rcases hs with⟨h1,h2⟩|⟨k,h1,h2,h3,h4⟩
 ·refine⟨-1,0,a,h1,rfl,Nat.zero_le _,rfl,?_,.inl ⟨rfl,rfl⟩⟩
  intro c hc
  obtain⟨j,hj,rfl⟩:=List.mem_iff_getElem.1 hc
  exact hne j hj (h2 j (by rw [hz];exact hj))
 ·rw [hz] at h1
  have e46:a[k]=46:=by
   rw [zi_z a k h1] at h3;apply UInt8.toNat_inj.1;exact Int.ofNat.inj h3
  refine⟨k,k+1,a.drop (k+1),h2,by omega,by omega,rfl,?_,.inr ⟨k,rfl,h1,?_⟩⟩
  ·intro c hc
   obtain⟨j,hj,rfl⟩:=List.mem_iff_getElem.1 hc
   rw [List.length_drop] at hj
   rw [List.getElem_drop]
   exact hne _ (by omega) (h4 _ (by omega) (by rw [hz];omega))
  ·conv=>lhs;rw [<-List.take_append_drop k a]
   rw [List.drop_eq_getElem_cons h1,e46]
theorem cmp_ne {a b:List UInt8} (hx:∀ c ∈ x,c ≠ 46) (hy:∀ c ∈ y,c ≠ 46) (ha:a=x\/∃ a',a=a' ++ 46 :: x) (hb:b=y\/∃ b',b=b' ++ 46 :: y) (h:cmpS x y ≠ 0):cmp a b=cmpS x y:=by
 unfold cmpS at h ⊢
 rcases ha with rfl|⟨a',rfl⟩
 ·rcases hb with rfl|⟨b',rfl⟩
  ·rw [zk_u hx hy]
  ·rw [zk_t hx hy]
   by_cases h1:lb a y=true
   ·rw [if_pos h1,if_pos h1]
   ·rw [if_neg h1,if_neg h1] at *
    by_cases h2:lb y a=true
    ·rw [if_pos h2,if_pos h2]
    ·rw [if_neg h2] at h;exact absurd rfl h
 ·rcases hb with rfl|⟨b',rfl⟩
  ·rw [zh_x hx hy]
   by_cases h1:lb x b=true
   ·rw [if_pos h1,if_pos h1]
   ·rw [if_neg h1,if_neg h1] at *
    by_cases h2:lb b x=true
    ·rw [if_pos h2,if_pos h2]
    ·rw [if_neg h2] at h;exact absurd rfl h
  ·rw [zk_s hx hy]
   by_cases h1:lb x y=true
   ·rw [if_pos h1,if_pos h1]
   ·rw [if_neg h1,if_neg h1] at *
    by_cases h2:lb y x=true
    ·rw [if_pos h2,if_pos h2]
    ·rw [if_neg h2] at h;exact absurd rfl h
theorem zm_u (h:cmpS x y=0):lb x y=false/\lb y x=false:=by
 unfold cmpS at h
 cases h1:lb x y with
|true=>rw [h1,if_pos rfl] at h;cases h
|false =>
  cases h2:lb y x with
 |true=>rw [h1,h2,if_neg (by decide),if_pos rfl] at h;cases h
 |false=>exact⟨rfl,rfl⟩
theorem cmp_z (hx:∀ c ∈ x,c ≠ 46) (hy:∀ c ∈ y,c ≠ 46) (h:cmpS x y=0):cmp x y=0/\(∀ b',cmp x (b' ++ 46 :: y)=-1)/\(∀ a',cmp (a' ++ 46 :: x) y=1)/\∀ a' b',cmp (a' ++ 46 :: x) (b' ++ 46 :: y)=cmp a' b':=by
 obtain⟨h1,h2⟩:=zm_u h
 refine⟨?_,fun b'=>?_,fun a'=>?_,fun a' b'=>?_⟩
 ·rw [zk_u hx hy,h1,h2];rfl
 ·rw [zk_t hx hy,h1,h2];rfl
 ·rw [zh_x hx hy,h1,h2];rfl
 ·rw [zk_s hx hy,h1,h2];rfl
end Host
def CmRel (a0 b0:List UInt8) (w:World) (sa sb:Value) (wr:World):Prop:=∃ a b:List UInt8,a.length<=1000000/\b.length<=1000000/\sa=.string (str a)/\sb=.string (str b)/\Hid (Host.cmp a0 b0=Host.cmp a b)/\Below w.heap.size w wr
def slen (v:Value):Nat:=match v with
|.string s=>s.size
|_=>0
theorem zl_i (l:List UInt8):slen (.string (str l))=l.length:=strSize l
set_option maxHeartbeats 8000000 in
theorem zg_j (a0 b0:List UInt8) (ha0:a0.length<=1000000) (hb0:b0.length<=1000000) (w:World) :
 Calls Tryz.prog 152 #[.string (str a0),.string (str b0)] w fun e w'=>e=.returned (.int .i64 (Host.cmp a0 b0))/\Below w.heap.size w w':=by
 have HST:CmRel a0 b0 w (.string (str a0)) (.string (str b0)) w:=⟨a0,b0,ha0,hb0,rfl,rfl,zH rfl,Below.refl _ _⟩
 have HST:=zH HST
 obtain⟨s1,hs1⟩:∃ s,str a0=s:=⟨_,rfl⟩
 obtain⟨s2,hs2⟩:∃ s,str b0=s:=⟨_,rfl⟩
 rw [hs1,hs2] at HST ⊢
 clear hs1 hs2
 go_enter Tryz.func152,Tryz.ntmps152
 go_wp2_with fail
 go_step3
 go_wp2_with fail
 go_step3
 go_wp2_with fail
 go_loopw [0,1,5,6,7] (fun sa sb _ _ _ wr=>CmRel a0 b0 w sa sb wr) (fun sa _ _ _ _ _=>slen sa)
 case atStart=>exact HST.out
 case round =>
  obtain⟨a,b,ha,hb,rfl,rfl,HC,hB⟩:=hrel
  obtain⟨i,ia,x,l1,l2,l3,l4,l5,l6⟩:=Host.lastdot a
  obtain⟨j,jb,y,m1,m2,m3,m4,m5,m6⟩:=Host.lastdot b
  have hli:=fun W=>zb_l (str a) 46 (by rw [strSize];omega) W
  have hlj:=fun W=>zb_l (str b) 46 (by rw [strSize];omega) W
  rw [l1] at hli
  rw [m1] at hlj
  have hca:=strCut a ia a.length
  have hcb:=strCut b jb b.length
  rw [List.take_length,l4] at hca
  rw [List.take_length,m4] at hcb
  have hsa:=strSize a
  have hsb:=strSize b
  have HTA:=zH (fun n=>strCut a 0 n)
  have HTB:=zH (fun n=>strCut b 0 n)
  have HNE:=zH (Host.cmp_ne (a:=a) (b:=b) l5 m5 (by rcases l6 with⟨_,e⟩|⟨n,_,_,e⟩;exact .inl e;exact .inr ⟨_,e⟩) (by rcases m6 with⟨_,e⟩|⟨n,_,_,e⟩;exact .inl e;exact .inr ⟨_,e⟩))
  have HZ:=zH (Host.cmp_z l5 m5)
  have HCMP:=zH (fun W=>zt_d x y W)
  obtain⟨cc,hcc⟩:∃ cc,cmpS x y=cc:=⟨_,rfl⟩
  rw [hcc] at HNE HZ HCMP
  have hin:(ia:Int)<=(a.length:Int):=by omega
  have hjn:(jb:Int)<=(b.length:Int):=by omega
  have hi0:(0:Int)<=(ia:Int):=by omega
  have hj0:(0:Int)<=(jb:Int):=by omega
  have wia:IntKind.i64.wrap (ia:Int)=(ia:Int):=by rw [IntKind.wrap_i64];omega
  have wjb:IntKind.i64.wrap (jb:Int)=(jb:Int):=by rw [IntKind.wrap_i64];omega
  have HL6:=zH l6
  have HM6:=zH m6
  have hi1:-1<=i:=by omega
  have hj1:-1<=j:=by omega
  have hi2:i<=1000000:=by omega
  have hj2:j<=1000000:=by omega
  obtain⟨sa,hsae⟩:∃ s,str a=s:=⟨_,rfl⟩
  obtain⟨sb,hsbe⟩:∃ s,str b=s:=⟨_,rfl⟩
  obtain⟨sx,hsxe⟩:∃ s,str x=s:=⟨_,rfl⟩
  obtain⟨sy,hsye⟩:∃ s,str y=s:=⟨_,rfl⟩
  rw [hsae] at hli hca hsa HTA ⊢
  rw [hsbe] at hlj hcb hsb HTB ⊢
  rw [hsxe] at hca HCMP
  rw [hsye] at hcb HCMP
  have HSA:=zH hsae
  have HLI:=zH hli
  have HLJ:=zH hlj
  clear l1 m1 l4 m4 l5 m5 l6 m6 hcc hli hlj hsae hsbe hsxe hsye
  by_cases hc0:cc ≠ 0
  ·have HR:=zH (HNE.out hc0)
   have t1:(cc != 0)=true:=by simpa using hc0
   clear hc0
   go_wp2_with fail
   refine (HLI.out _).mono ?_;rintro e W1 ⟨rfl,rfl⟩
   go_wp2_with fail
   refine (HLJ.out _).mono ?_;rintro e W2 ⟨rfl,rfl⟩
   go_wp2_with fail
   go_quiet ((go_at_call 180;exact Calls.quiet_of_same ((HCMP.out _).mono fun _ _ ⟨h1,h2⟩=>⟨h1,h2.symm⟩)))
   have hB2:=hB.trans ((zb_a _ nq).mono hB.size)
   go_wp2_with fail
   first|go_ret|(rw [Exit.noGoto_ret];go_ret)
   exact⟨by rw [HC.out,HR.out];rfl,hB2⟩
  obtain rfl:cc=0:=by omega
  obtain⟨z0,z1,z2,z3⟩:=HZ.out rfl
  have HZZ:=zH (And.intro z0 (And.intro z1 (And.intro z2 z3)))
  clear z0 z1 z2 z3 HNE HZ hc0
  rcases HL6.out with⟨hi,e1⟩|⟨n,hi,n2,e1⟩
  ·have HE1:=zH e1
   have g1:i < 0:=by omega
   have g2:min i 0=-1:=by omega
   clear e1 hi
   rcases HM6.out with⟨hj,e2⟩|⟨m,hj,m2',e2⟩
   ·have HE2:=zH e2
    have g3:j < 0:=by omega
    have g4:min j 0=-1:=by omega
    clear e2 hj
    have HCI:=zH (fun W=>zm_s (-1) (-1) W)
    go_wp2_with fail
    refine (HLI.out _).mono ?_;rintro e W1 ⟨rfl,rfl⟩
    go_wp2_with fail
    refine (HLJ.out _).mono ?_;rintro e W2 ⟨rfl,rfl⟩
    go_wp2_with fail
    go_quiet ((go_at_call 180;exact Calls.quiet_of_same ((HCMP.out _).mono fun _ _ ⟨h1,h2⟩=>⟨h1,h2.symm⟩)))
    have hB2:=hB.trans ((zb_a _ nq).mono hB.size)
    go_wp2_with fail
    refine (HCI.out _).mono ?_;rintro e W3 ⟨rfl,rfl⟩
    go_wp2_with fail
    first|go_ret|(rw [Exit.noGoto_ret];go_ret)
    exact⟨by rw [HC.out,HE1.out,HE2.out,HZZ.out.1];rfl,hB2⟩
   ·have HE2:=zH e2
    have g3:¬ j < 0:=by omega
    have g4:min j 0=0:=by omega
    clear e2 hj
    have HCI:=zH (fun W=>zm_s (-1) 0 W)
    go_wp2_with fail
    refine (HLI.out _).mono ?_;rintro e W1 ⟨rfl,rfl⟩
    go_wp2_with fail
    refine (HLJ.out _).mono ?_;rintro e W2 ⟨rfl,rfl⟩
    go_wp2_with fail
    go_quiet ((go_at_call 180;exact Calls.quiet_of_same ((HCMP.out _).mono fun _ _ ⟨h1,h2⟩=>⟨h1,h2.symm⟩)))
    have hB2:=hB.trans ((zb_a _ nq).mono hB.size)
    go_wp2_with fail
    refine (HCI.out _).mono ?_;rintro e W3 ⟨rfl,rfl⟩
    go_wp2_with fail
    first|go_ret|(rw [Exit.noGoto_ret];go_ret)
    exact⟨by rw [HC.out,HE1.out,HE2.out,HZZ.out.2.1];rfl,hB2⟩
  ·have HE1:=zH e1
   have g1:¬ i < 0:=by omega
   have g2:min i 0=0:=by omega
   rcases HM6.out with⟨hj,e2⟩|⟨m,hj,m2',e2⟩
   ·have HE2:=zH e2
    have g3:j < 0:=by omega
    have g4:min j 0=-1:=by omega
    clear e1 hi e2 hj
    have HCI:=zH (fun W=>zm_s 0 (-1) W)
    go_wp2_with fail
    refine (HLI.out _).mono ?_;rintro e W1 ⟨rfl,rfl⟩
    go_wp2_with fail
    refine (HLJ.out _).mono ?_;rintro e W2 ⟨rfl,rfl⟩
    go_wp2_with fail
    go_quiet ((go_at_call 180;exact Calls.quiet_of_same ((HCMP.out _).mono fun _ _ ⟨h1,h2⟩=>⟨h1,h2.symm⟩)))
    have hB2:=hB.trans ((zb_a _ nq).mono hB.size)
    go_wp2_with fail
    refine (HCI.out _).mono ?_;rintro e W3 ⟨rfl,rfl⟩
    go_wp2_with fail
    first|go_ret|(rw [Exit.noGoto_ret];go_ret)
    exact⟨by rw [HC.out,HE1.out,HE2.out,HZZ.out.2.2.1];rfl,hB2⟩
   ·have HE2:=zH e2
    have g3:¬ j < 0:=by omega
    have g5:0<=i:=by omega
    have g6:0<=j:=by omega
    have g7:i.toNat=n:=by omega
    have g8:j.toNat=m:=by omega
    have g9:i<=(a.length:Int):=by omega
    have g10:j<=(b.length:Int):=by omega
    have hta:=HTA.out n
    have htb:=HTB.out m
    rw [List.drop_zero] at hta htb
    obtain⟨sn,hsn⟩:∃ s,str (a.take n)=s:=⟨_,rfl⟩
    obtain⟨sm,hsm⟩:∃ s,str (b.take m)=s:=⟨_,rfl⟩
    rw [hsn] at hta
    rw [hsm] at htb
    have HSN:=zH (And.intro hsn hsm)
    clear hsn hsm e1 hi e2 hj g2
    go_wp2_with fail
    refine (HLI.out _).mono ?_;rintro e W1 ⟨rfl,rfl⟩
    go_wp2_with fail
    refine (HLJ.out _).mono ?_;rintro e W2 ⟨rfl,rfl⟩
    go_wp2_with fail
    go_quiet ((go_at_call 180;exact Calls.quiet_of_same ((HCMP.out _).mono fun _ _ ⟨h1,h2⟩=>⟨h1,h2.symm⟩)))
    have hB2:=hB.trans ((zb_a _ nq).mono hB.size)
    go_wp2_with fail
    go_quiet (fail)
    go_wp2_with fail
    go_roundw
    case rel=>exact⟨a.take n,b.take m,by rw [List.length_take];omega,by rw [List.length_take];omega,by rw [HSN.out.1],by rw [HSN.out.2],zH (by rw [HC.out,HE1.out,HE2.out,HZZ.out.2.2.2,<-HE1.out,<-HE2.out]),by first|exact hB2.trans ((zb_a _ _).mono hB2.size)|exact hB.trans ((zb_a _ _).mono hB.size)⟩
    case measure=>rw [<-HSN.out.1,<-HSA.out,zl_i,zl_i,List.length_take];omega
end
section
open Go.RowKit
variable {x y:List UInt8} {k:Nat}
namespace Host
theorem rev_at (l:List (List UInt8)) (h1:1<=k) (h2:k<=l.length):l.reverse.drop (k - 1)=l[l.length - k]?.getD [] :: l.reverse.drop k:=by
 have hk:k - 1 < l.reverse.length:=by rw [List.length_reverse];omega
 rw [List.drop_eq_getElem_cons hk,show k - 1+1=k by omega]
 congr 1
 rw [List.getElem_reverse,List.getElem?_eq_getElem (by omega),Option.getD_some]
 congr 1;omega
theorem rev_out (l:List (List UInt8)) (h2:l.length < k):l.reverse.drop (k - 1)=[]:=List.drop_of_length_le (by rw [List.length_reverse];omega)
theorem cmpL_cons_lt (xs ys:List (List UInt8)) (h:lb x y=true):cmpL (x :: xs) (y :: ys)=-1:=by rw [cmpL,if_pos h]
theorem cmpL_cons_gt (xs ys:List (List UInt8)) (h:lb x y=false) (h2:lb y x=true):cmpL (x :: xs) (y :: ys)=1:=by rw [cmpL,if_neg (by simp [h]),if_pos h2]
theorem cmpL_cons_eq (xs ys:List (List UInt8)) (h:lb x y=false) (h2:lb y x=false):cmpL (x :: xs) (y :: ys)=cmpL xs ys:=by rw [cmpL,if_neg (by simp [h]),if_neg (by simp [h2])]
end Host
set_option maxRecDepth 100000 in
set_option maxHeartbeats 8000000 in
theorem zg_n (a b:List UInt8) (ha:a.length<=1000000) (hb:b.length<=1000000) (w:World) :
 Calls Tryz.prog 121 #[.string (str a),.string (str b)] w fun e w'=>e=.returned (.int .i64 (Host.cmp a b))/\Below w.heap.size w w':=by
 have HSA:=zH (fun W=>ze_t a ha W)
 have HSB:=zH (fun W=>ze_t b hb W)
 have ha2:=Host.split_len a
 have hb2:=Host.split_len b
 obtain⟨r,hr⟩:∃ r,Host.cmp a b=r:=⟨_,rfl⟩
 have hr2:r=Host.cmpL (Host.split a).reverse (Host.split b).reverse:=hr.symm
 rw [hr]
 clear hr
 obtain⟨X,hX⟩:∃ X,Host.split a=X:=⟨_,rfl⟩
 obtain⟨Y,hY⟩:∃ Y,Host.split b=Y:=⟨_,rfl⟩
 rw [hX] at HSA ha2 hr2
 rw [hY] at HSB hb2 hr2
 have HR:=zH hr2
 clear hr2 hX hY
 obtain⟨n,hn⟩:∃ n,X.length=n:=⟨_,rfl⟩
 obtain⟨m,hm⟩:∃ m,Y.length=m:=⟨_,rfl⟩
 rw [hn] at ha2
 rw [hm] at hb2
 have HN:=zH hn
 have HM:=zH hm
 clear hn hm
 obtain⟨sa,hsa⟩:∃ s,str a=s:=⟨_,rfl⟩
 obtain⟨sb,hsb⟩:∃ s,str b=s:=⟨_,rfl⟩
 rw [hsa] at HSA ⊢
 rw [hsb] at HSB ⊢
 clear hsa hsb
 go_enter Tryz.func121,Tryz.ntmps121
 go_wp2_with fail
 refine (HSA.out _).mono ?_;rintro e w1 ⟨v1,rfl,hO1,hB1⟩
 obtain⟨p1,c1,rfl,hs1⟩:=hO1.sl
 rw [HN.out] at hs1 ⊢
 go_wp2_with fail
 refine (HSB.out _).mono ?_;rintro e w2 ⟨v2,rfl,hO2,hB2⟩
 obtain⟨p2,c2,rfl,hs2⟩:=hO2.sl
 rw [HM.out] at hs2 ⊢
 have hs1:=hs1.ext hB2
 have hB02:=hB1.trans (hB2.mono hB1.size)
 go_wp2_with fail
 go_loopw [7,8,9] (fun i _ _ wr=>∃ k:Nat,1<=k/\k<=n+1/\k<=m+1/\i=.int .i64 k/\Hid (r=Host.cmpL (X.reverse.drop (k - 1)) (Y.reverse.drop (k - 1)))/\Below w2.heap.size w2 wr) (fun i _ _ _=>n+1 - (intOf i).toNat)
 case atStart=>exact⟨1,by omega,by omega,by omega,rfl,zH (by rw [HR.out];rfl),Below.refl _ _⟩
 case round =>
  obtain⟨k,k1,kn,km,rfl,HC,hB⟩:=hrel
  have i0:(0:Int)<=(k:Int):=by omega
  by_cases h1:k<=n
  ·have i1:(k:Int)<=(n:Int):=by omega
   by_cases h2:k<=m
   ·have i2:(k:Int)<=(m:Int):=by omega
    obtain⟨b1,o1,rfl,hb1,hkl1,hc1⟩:=(hs1.ext hB).at (k:=n - k) (by omega)
    obtain⟨b2,o2,rfl,hb2',hkl2,hc2⟩:=(hs2.ext hB).at (k:=m - k) (by omega)
    have HX:=zH (Host.rev_at X k1 (by rw [HN.out];exact h1))
    have HY:=zH (Host.rev_at Y k1 (by rw [HM.out];exact h2))
    rw [HN.out] at HX
    rw [HM.out] at HY
    obtain⟨x,hx⟩:∃ x,X[n - k]?.getD []=x:=⟨_,rfl⟩
    obtain⟨y,hy⟩:∃ y,Y[m - k]?.getD []=y:=⟨_,rfl⟩
    rw [hx,tv] at hc1
    rw [hy,tv] at hc2
    rw [hx] at HX
    rw [hy] at HY
    have j1:(0:Int)<=(n:Int) - (k:Int):=by omega
    have j2:(0:Int)<=(m:Int) - (k:Int):=by omega
    have j3:(n:Int) - (k:Int) < (n:Int):=by omega
    have j4:(m:Int) - (k:Int) < (m:Int):=by omega
    have j5:((n:Int) - (k:Int)).toNat=n - k:=by omega
    have j6:((m:Int) - (k:Int)).toNat=m - k:=by omega
    have j7:IntKind.i64.wrap ((n:Int) - (k:Int))=(n:Int) - (k:Int):=by rw [IntKind.wrap_i64];omega
    have j8:IntKind.i64.wrap ((m:Int) - (k:Int))=(m:Int) - (k:Int):=by rw [IntKind.wrap_i64];omega
    have hxt:(str x).toList=x:=str_toList x
    have hyt:(str y).toList=y:=str_toList y
    have HLT:=zH (Host.cmpL_cons_lt (x:=x) (y:=y) (X.reverse.drop k) (Y.reverse.drop k))
    have HGT:=zH (Host.cmpL_cons_gt (x:=x) (y:=y) (X.reverse.drop k) (Y.reverse.drop k))
    have HEQ:=zH (Host.cmpL_cons_eq (x:=x) (y:=y) (X.reverse.drop k) (Y.reverse.drop k))
    obtain⟨q1,g1⟩:∃ q,Host.lb x y=q:=⟨_,rfl⟩
    obtain⟨q2,g2⟩:∃ q,Host.lb y x=q:=⟨_,rfl⟩
    have t1:Op.bytesLess (str x).toList (str y).toList=q1:=by rw [hxt,hyt];exact g1
    have HQ:=zH (show ((str x).toList == (str y).toList)=(!q1 && !q2) by
     rw [hxt,hyt]
     cases q1 with
    |true =>
      have:x ≠ y:=by intro e;subst e;rw [Host.lb_irrefl] at g1;cases g1
      simpa using this
    |false =>
      cases q2 with
     |true =>
       have:x ≠ y:=by intro e;subst e;rw [Host.lb_irrefl] at g2;cases g2
       simpa using this
     |false=>have:=Host.lb_total x y g1 g2;subst this;simp)
    have HG:=zH (And.intro g1 g2)
    obtain⟨sx,hsx⟩:∃ s,str x=s:=⟨_,rfl⟩
    obtain⟨sy,hsy⟩:∃ s,str y=s:=⟨_,rfl⟩
    rw [hsx] at hc1 t1 HQ
    rw [hsy] at hc2 t1 HQ
    have t3:=HQ.out
    clear hx hy hxt hyt g1 g2 hsx hsy hkl1 hkl2
    cases q1
    ·cases q2
     ·have HN2:=zH (show r=Host.cmpL (X.reverse.drop k) (Y.reverse.drop k) by rw [HC.out,HX.out,HY.out,HEQ.out HG.out.1 HG.out.2])
      go_wp2_with fail
      go_quiet (fail)
      have hBq:=hB.trans ((zb_a _ nq).mono hB.size)
      go_wp2_with fail
      go_roundw
      case rel=>exact⟨k+1,by omega,by omega,by omega,by go_num,HN2,hBq⟩
      case measure=>simp [intOf];omega
     ·have HF:=zH (show r=1 by rw [HC.out,HX.out,HY.out,HGT.out HG.out.1 HG.out.2])
      go_wp2_with fail
      go_quiet (fail)
      have hBq:=hB.trans ((zb_a _ nq).mono hB.size)
      go_wp2_with fail
      go_ret
      exact⟨by rw [HF.out];rfl,hB02.trans (hBq.mono hB02.size)⟩
    ·have HF:=zH (show r=-1 by rw [HC.out,HX.out,HY.out,HLT.out HG.out.1])
     go_wp2_with fail
     go_quiet (fail)
     have hBq:=hB.trans ((zb_a _ nq).mono hB.size)
     go_wp2_with fail
     go_ret
     exact⟨by rw [HF.out];rfl,hB02.trans (hBq.mono hB02.size)⟩
   ·obtain rfl:k=m+1:=by omega
    have i2:¬ ((m+1:Nat):Int)<=(m:Int):=by omega
    have HF:=zH (show r=1 by
     rw [HC.out,Host.rev_out Y (by rw [HM.out];omega),Host.rev_at X k1 (by rw [HN.out];exact h1)];rfl)
    have i3:(m:Int) < (n:Int):=by omega
    go_wp2_with fail
    go_ret
    exact⟨by rw [HF.out];rfl,hB02.trans (hB.mono hB02.size)⟩
  ·obtain rfl:k=n+1:=by omega
   have i1:¬ ((n+1:Nat):Int)<=(n:Int):=by omega
   by_cases h2:n+1<=m
   ·have HF:=zH (show r=-1 by
     rw [HC.out,Host.rev_out X (by rw [HN.out];omega),Host.rev_at Y k1 (by rw [HM.out];exact h2)];rfl)
    have i3:(n:Int) < (m:Int):=by omega
    go_wp2_with fail
    go_ret
    exact⟨by rw [HF.out];rfl,hB02.trans (hB.mono hB02.size)⟩
   ·obtain rfl:n=m:=by omega
    have HF:=zH (show r=0 by
     rw [HC.out,Host.rev_out X (by rw [HN.out];omega),Host.rev_out Y (by rw [HM.out];omega)];rfl)
    go_wp2_with fail
    go_ret
    exact⟨by rw [HF.out];rfl,hB02.trans (hB.mono hB02.size)⟩
end
end Go.Proofs.YtmanejniepghlaaGreatDoor
