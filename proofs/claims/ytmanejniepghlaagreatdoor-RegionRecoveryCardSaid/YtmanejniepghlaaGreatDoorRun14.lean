import Derived.Test.YtmanejniepghlaaGreatDoorRun5
import Derived.Test.YtmanejniepghlaaGreatDoorRun13
import Derived.Deep.RegionHeld3
namespace Go.Proofs.YtmanejniepghlaaGreatDoor
open Go.RowKit
set_option maxRecDepth 100000
variable {l:List UInt8}
namespace Host
theorem dg10 (b:UInt8):decide (dg b < 10)=decd b:=by
 unfold dg decd
 by_cases h1:48<=b.toNat/\b.toNat<=57
 ·rw [if_pos h1];simp [h1];omega
 ·rw [if_neg h1]
  have:(decide (48<=b.toNat) && decide (b.toNat<=57))=false:=by simp;omega
  rw [this]
  simp only [decide_eq_false_iff_not]
  split
  ·omega
  ·split <;> omega
theorem dg16 (b:UInt8):decide (dg b < 16)=hexd b:=by
 unfold dg hexd decd
 by_cases h1:48<=b.toNat/\b.toNat<=57
 ·rw [if_pos h1];simp [h1];omega
 ·rw [if_neg h1]
  have e1:(decide (48<=b.toNat) && decide (b.toNat<=57))=false:=by simp;omega
  rw [e1,Bool.false_or]
  by_cases h2:97<=b.toNat/\b.toNat<=102
  ·rw [if_pos h2];simp [h2];omega
  ·rw [if_neg h2]
   have e2:(decide (97<=b.toNat) && decide (b.toNat<=102))=false:=by simp;omega
   rw [e2,Bool.false_or]
   by_cases h3:65<=b.toNat/\b.toNat<=70
   ·rw [if_pos h3];simp [h3];omega
   ·rw [if_neg h3]
    have e3:(decide (65<=b.toNat) && decide (b.toNat<=70))=false:=by simp;omega
    rw [e3];simp
def xx (t:List UInt8):Bool:=decide (2<=t.length) && (decide (t.getD 1 0=120) || decide (t.getD 1 0=88))
theorem zr_k {t:List UInt8} (h:xx t=true):t.all decd=false:=by
 unfold xx at h
 rw [Bool.and_eq_true,Bool.or_eq_true,decide_eq_true_eq,decide_eq_true_eq,decide_eq_true_eq] at h
 obtain⟨h1,h2⟩:=h
 have hg:t.getD 1 0=t[1]'(by omega):=by rw [List.getD_eq_getElem?_getD,List.getElem?_eq_getElem (by omega)];rfl
 rw [List.all_eq_false]
 refine⟨t[1]'(by omega),List.getElem_mem _,?_⟩
 rw [<-hg]
 rcases h2 with e|e <;> rw [e] <;> decide
theorem num_is (t:List UInt8):num t=if (t.all decd && !t.isEmpty) then true else numOk t && xx t:=by
 have e10:(fun b=>decide (dg b < 10))=decd:=funext dg10
 have e16:(fun b=>decide (dg b < 16))=hexd:=funext dg16
 unfold num
 cases hp:pre t with
|true =>
  obtain⟨h1,h2,h3⟩:=(pre_iff t).1 hp
  have hx:xx t=true:=by
   unfold xx
   rw [decide_eq_true h1,Bool.true_and,Bool.or_eq_true,decide_eq_true_eq,decide_eq_true_eq];exact h3
  rw [if_pos rfl,zr_k hx,Bool.false_and,if_neg (by decide),hx,Bool.and_true]
  unfold numOk
  rw [if_neg (by intro e;rw [e] at h1;simp at h1),if_pos hp,e16]
|false =>
  rw [if_neg (by decide)]
  cases hd:(t.all decd && !t.isEmpty) with
 |true=>rw [if_pos rfl]
 |false =>
   rw [if_neg (by decide)]
   cases hx:xx t with
  |false=>rw [Bool.and_false]
  |true =>
    have hb:=zr_k hx
    rw [Bool.and_true]
    unfold numOk
    by_cases h0:t=[]
    ·rw [if_pos h0]
    rw [if_neg h0,hp,if_neg (by decide)]
    by_cases h8:2<=t.length/\t.getD 0 0=48
    ·exfalso
     unfold xx at hx
     rw [Bool.and_eq_true,Bool.or_eq_true,decide_eq_true_eq,decide_eq_true_eq,decide_eq_true_eq] at hx
     rw [(pre_iff t).2 ⟨h8.1,h8.2,hx.2⟩] at hp;cases hp
    ·rw [if_neg h8,e10,hb]
theorem last_at (l:List UInt8):(parts l)[(parts l).length - 1]?.getD []=last l:=by
 unfold last;rw [zc_z (List.length_pos_iff.2 (parts_ne l))]
theorem last_len (l:List UInt8):(last l).length<=l.length:=by
 have hp:=List.length_pos_iff.2 (parts_ne l)
 have h:last l ∈ parts l:=by
  rw [<-last_at,List.getElem?_eq_getElem (by omega)];exact List.getElem_mem _
 exact split_part_len l _ (zn_u h)
end Host
set_option maxHeartbeats 4000000 in
theorem zl_v (l:List UInt8) (hl:l.length<=1000000) (w:World) :
 Calls Tryz.prog 166 #[.string (str l)] w fun e w'=>e=.returned (.bool (Host.numeric l))/\Below w.heap.size w w':=by
 have HP:=zH (zp_u l hl w)
 have hla:=Host.last_at l
 have hll:=Host.last_len l
 have hp:=List.length_pos_iff.2 (Host.parts_ne l)
 have HNUM:=zH (show Host.numeric l=Host.num (Host.last l) from rfl)
 have hpl:=Host.parts_len l
 obtain⟨t,ht⟩:∃ t,Host.last l=t:=⟨_,rfl⟩
 obtain⟨ps,hps⟩:∃ ps,Host.parts l=ps:=⟨_,rfl⟩
 unfold PartsPost at HP
 rw [hps] at HP hp hla hpl
 rw [ht] at hla hll HNUM
 clear ht hps
 have HD:=zH (fun W=>zn_g t (by omega) W)
 have HN:=zH (fun W=>zn_h t (by omega) W)
 have HI:=zH (Host.num_is t)
 have hsz:=strSize t
 have hg1:∀ (hq:1 < (str t).size),(str t)[1]'hq=t.getD 1 0:=fun hq=>by rw [strGet,List.getD_eq_getElem?_getD,List.getElem?_eq_getElem (by rw [strSize] at hq;exact hq)];rfl
 obtain⟨n,hn⟩:∃ n,ps.length=n:=⟨_,rfl⟩
 rw [hn] at HP hp hla hpl
 obtain⟨sv,hsv⟩:∃ sv,str l=sv:=⟨_,rfl⟩
 rw [hsv] at HP ⊢
 obtain⟨st,hst⟩:∃ st,str t=st:=⟨_,rfl⟩
 rw [hst] at HD HN hsz hg1
 have HLA:=zH (And.intro hla hst)
 obtain⟨x1,hx1⟩:∃ x,t.getD 1 0=x:=⟨_,rfl⟩
 rw [hx1] at hg1
 have tx:((x1.toNat:Int) == 120)=decide (x1=120):=by
  by_cases e:x1=120
  ·subst e;rfl
  ·rw [decide_eq_false e];apply beq_eq_false_iff_ne.2;intro e2;exact e (UInt8.toNat_inj.1 (Int.ofNat.inj e2))
 have tX:((x1.toNat:Int) == 88)=decide (x1=88):=by
  by_cases e:x1=88
  ·subst e;rfl
  ·rw [decide_eq_false e];apply beq_eq_false_iff_ne.2;intro e2;exact e (UInt8.toNat_inj.1 (Int.ofNat.inj e2))
 have HXX:Hid (Host.xx t=(decide (2<=t.length) && (decide (x1=120) || decide (x1=88)))):=zH (by unfold Host.xx;rw [hx1])
 clear hn hsv hst hx1 hla
 have i0:(0:Int)<=(n:Int) - 1:=by omega
 have i1:(n:Int) - 1 < (n:Int):=by omega
 have i2:((n:Int) - 1).toNat=n - 1:=by omega
 obtain⟨dgs,hdg⟩:∃ d,(t.all Host.decd && !t.isEmpty)=d:=⟨_,rfl⟩
 rw [hdg] at HD HI
 clear hdg
 cases dgs with
|true =>
  have HF:=zH (show Host.numeric l=true by rw [HNUM.out,HI.out,if_pos rfl])
  clear tx tX hg1
  go_enter Tryz.func166,Tryz.ntmps166
  go_wp2_with fail
  refine HP.out.mono ?_;rintro e w1 ⟨b,c,rfl,hs1,hB1⟩
  obtain⟨_,_,e5,hbb,hkl,hcell⟩:=hs1.at (k:=n - 1) (by omega)
  cases e5
  rw [HLA.out.1,tv,HLA.out.2,Nat.zero_add] at hcell
  go_wp2_with (go_at_call 189;go_must (refine (HD.out _).mono ?_);rintro e w2 ⟨rfl,rfl⟩)
  go_ret
  exact⟨by rw [HF.out];rfl,hB1⟩
|false =>
  have HF:=zH (show Host.numeric l=(Host.numOk t && Host.xx t) by rw [HNUM.out,HI.out,if_neg (by decide)])
  obtain⟨ok,hok⟩:∃ ok,Host.numOk t=ok:=⟨_,rfl⟩
  rw [hok] at HN HF
  clear hok
  have HCALLS:Hid (∀ W,Calls Tryz.prog 190 #[.string st] W (NumPost ok W)):=HN
  cases ok with
 |false =>
   rw [Bool.false_and] at HF
   clear tx tX hg1
   go_enter Tryz.func166,Tryz.ntmps166
   go_wp2_with fail
   refine HP.out.mono ?_;rintro e w1 ⟨b,c,rfl,hs1,hB1⟩
   obtain⟨_,_,e5,hbb,hkl,hcell⟩:=hs1.at (k:=n - 1) (by omega)
   cases e5
   rw [HLA.out.1,tv,HLA.out.2,Nat.zero_add] at hcell
   go_wp2_with (first
   |(go_at_call 189;go_must (refine (HD.out _).mono ?_);rintro e w2 ⟨rfl,rfl⟩)
   |(go_at_call 190;go_must (refine (HN.out _).mono ?_);rintro e w3 ⟨⟨z,rfl⟩,hB3⟩))
   go_ret
   exact⟨by rw [HF.out];rfl,hB1.trans (hB3.mono hB1.size)⟩
 |true =>
   rw [Bool.true_and] at HF
   by_cases h2:2<=t.length
   ·have j1:(2:Int)<=(t.length:Int):=by omega
    have j2:(1:Int) < (t.length:Int):=by omega
    have HF2:=zH (show Host.numeric l=(decide (x1=120) || decide (x1=88)) by rw [HF.out,HXX.out,decide_eq_true h2,Bool.true_and])
    obtain⟨b1,hb1⟩:∃ b,decide (x1=120)=b:=⟨_,rfl⟩
    obtain⟨b2,hb2⟩:∃ b,decide (x1=88)=b:=⟨_,rfl⟩
    rw [hb1] at HF2 tx
    rw [hb2] at HF2 tX
    clear hb1 hb2
    cases b1
    all_goals
     go_enter Tryz.func166,Tryz.ntmps166
     go_wp2_with fail
     refine HP.out.mono ?_;rintro e w1 ⟨b,c,rfl,hs1,hB1⟩
     obtain⟨_,_,e5,hbb,hkl,hcell⟩:=hs1.at (k:=n - 1) (by omega)
     cases e5
     rw [HLA.out.1,tv,HLA.out.2,Nat.zero_add] at hcell
     go_wp2_with (first
     |(go_at_call 189;go_must (refine (HD.out _).mono ?_);rintro e w2 ⟨rfl,rfl⟩)
     |(go_at_call 190;go_must (refine (HN.out _).mono ?_);rintro e w3 ⟨⟨z,rfl⟩,hB3⟩))
     go_ret
     exact⟨by rw [HF2.out];rfl,hB1.trans (hB3.mono hB1.size)⟩
   ·have j1:¬ (2:Int)<=(t.length:Int):=by omega
    have HF2:=zH (show Host.numeric l=false by rw [HF.out,HXX.out,decide_eq_false h2,Bool.false_and])
    clear tx tX hg1
    go_enter Tryz.func166,Tryz.ntmps166
    go_wp2_with fail
    refine HP.out.mono ?_;rintro e w1 ⟨b,c,rfl,hs1,hB1⟩
    obtain⟨_,_,e5,hbb,hkl,hcell⟩:=hs1.at (k:=n - 1) (by omega)
    cases e5
    rw [HLA.out.1,tv,HLA.out.2,Nat.zero_add] at hcell
    go_wp2_with (first
    |(go_at_call 189;go_must (refine (HD.out _).mono ?_);rintro e w2 ⟨rfl,rfl⟩)
    |(go_at_call 190;go_must (refine (HN.out _).mono ?_);rintro e w3 ⟨⟨z,rfl⟩,hB3⟩))
    go_ret
    exact⟨by rw [HF2.out];rfl,hB1.trans (hB3.mono hB1.size)⟩
namespace Host
theorem name_nil:name []=false:=by decide +kernel
theorem name_long (h:253 < l.length):name l=false:=by unfold name;rw [decide_eq_false (by omega)];rfl
theorem name_num (h:numeric l=true):name l=false:=by unfold name;rw [h];simp
theorem name_parts (h1:l.length<=253) (h2:numeric l=false):name l=(split l).all Lab.valid:=by unfold name;rw [decide_eq_true h1,h2];simp
end Host
set_option maxHeartbeats 4000000 in
theorem zb_s (l:List UInt8) (hl:l.length<=1000000) (w:World) :
 Calls Tryz.prog 119 #[.string (str l)] w fun e w'=>e=.returned (.bool (Host.name l))/\Below w.heap.size w w':=by
 have hsz:=strSize l
 have he:(str l).toList=l:=str_toList l
 have HNU:=zH (zl_v l hl w)
 have HSP:=zH (fun W=>ze_t l hl W)
 have hbd:=Host.split_len l
 have HPL:=zH (fun p (hp:p ∈ Host.split l)=>Host.split_part_len l p hp)
 obtain⟨sv,hsv⟩:∃ sv,str l=sv:=⟨_,rfl⟩
 rw [hsv] at hsz he HNU HSP ⊢
 clear hsv
 by_cases h0:l=[]
 ·have HF:=zH (show Host.name l=false by rw [h0];exact Host.name_nil)
  have e1:sv.toList.isEmpty=true:=by rw [he,h0];rfl
  clear h0 he HNU HSP HPL hbd hsz
  go_enter Tryz.func119,Tryz.ntmps119
  go_wp2_with fail
  go_ret
  exact⟨by rw [HF.out];rfl,Below.refl _ _⟩
 have e1:sv.toList.isEmpty=false:=by rw [he];simpa using h0
 clear he h0
 by_cases h1:253 < l.length
 ·have HF:=zH (Host.name_long h1)
  have i1:(253:Int) < (l.length:Int):=by omega
  clear HNU HSP HPL hbd
  go_enter Tryz.func119,Tryz.ntmps119
  go_wp2_with fail
  go_ret
  exact⟨by rw [HF.out];rfl,Below.refl _ _⟩
 have i1:¬ (253:Int) < (l.length:Int):=by omega
 have HNN:=zH (fun h=>Host.name_num (l:=l) h)
 have HNP:=zH (fun h=>Host.name_parts (l:=l) (by omega) h)
 obtain⟨nu,hnu⟩:∃ nu,Host.numeric l=nu:=⟨_,rfl⟩
 rw [hnu] at HNU HNN HNP
 clear hnu
 cases nu with
|true =>
  have HF:=zH (HNN.out rfl)
  clear HSP HPL hbd
  go_enter Tryz.func119,Tryz.ntmps119
  go_wp2_with fail
  refine HNU.out.mono ?_;rintro e w1 ⟨rfl,hB1⟩
  go_wp2_with fail
  go_ret
  exact⟨by rw [HF.out];rfl,hB1⟩
|false =>
  have HF:=zH (HNP.out rfl)
  obtain⟨ps,hps⟩:∃ ps,Host.split l=ps:=⟨_,rfl⟩
  rw [hps] at HF HSP HPL hbd
  obtain⟨n,hn⟩:∃ n,ps.length=n:=⟨_,rfl⟩
  rw [hn] at hbd
  have HN:=zH hn
  clear hps hn HNN HNP
  have hlm:l.length<=1000000:=hl
  go_enter Tryz.func119,Tryz.ntmps119
  go_wp2_with (first
  |(go_at_call 166;go_must (refine HNU.out.mono ?_);rintro e w1 ⟨rfl,hB1⟩)
  |(go_at_call 167;go_must (refine (HSP.out _).mono ?_);rintro e w2 ⟨v2,rfl,hO2,hB2⟩;obtain⟨a2,c2,rfl,hs2⟩:=hO2.sl;rw [HN.out] at hs2;rw [HN.out]))
  have hB02:=hB1.trans (hB2.mono hB1.size)
  go_loopw [4] (fun i wr=>∃ k:Nat,k<=n/\i=.int .i64 k/\Hid (∀ x ∈ ps.take k,Lab.valid x=true)/\Below w2.heap.size w2 wr) (fun i _=>n - (intOf i).toNat)
  case atStart=>exact⟨0,Nat.zero_le _,rfl,zH (by simp),Below.refl _ _⟩
  case round =>
   obtain⟨k,hk,rfl,HC,hB⟩:=hrel
   have i0:(0:Int)<=(k:Int):=by omega
   by_cases hlt:k < n
   ·have i2:(k:Int) < (n:Int):=by omega
    obtain⟨bb,o,rfl,hbb,hkl,hcell⟩:=(hs2.ext hB).at hlt
    rw [List.getElem?_eq_getElem hkl,Option.getD_some,tv] at hcell
    have HTK:=zH (List.take_succ_eq_append_getElem hkl)
    have HMEM:=zH (List.getElem_mem hkl)
    generalize ps[k]=p at *
    have HV:=zH (fun W=>zq_d p W (Nat.le_trans (HPL.out p HMEM.out) hlm))
    obtain⟨sp,hsp⟩:∃ sp,str p=sp:=⟨_,rfl⟩
    rw [hsp] at HV hcell
    clear hsp
    obtain⟨vb,hvb⟩:∃ vb,Lab.valid p=vb:=⟨_,rfl⟩
    rw [hvb] at HV
    have HVB:=zH hvb
    clear hvb
    cases vb with
   |true =>
     have HNX:=zH (show ∀ x ∈ ps.take (k+1),Lab.valid x=true by
      rw [HTK.out];intro x hx
      rcases List.mem_append.1 hx with hx|hx
      ·exact HC.out x hx
      ·simp at hx;subst hx;exact HVB.out)
     go_wp2_with (go_at_call 168;go_must (refine (HV.out _).mono ?_);rintro e w3 ⟨rfl,hB3⟩)
     go_roundw
     case rel=>exact⟨k+1,by omega,by go_num,HNX,hB.trans (hB3.mono hB.size)⟩
     case measure=>simp [intOf];omega
   |false =>
     have HFF:=zH (show Host.name l=false by rw [HF.out,List.all_eq_false];exact⟨p,HMEM.out,by rw [HVB.out];decide⟩)
     go_wp2_with (go_at_call 168;go_must (refine (HV.out _).mono ?_);rintro e w3 ⟨rfl,hB3⟩)
     go_ret
     exact⟨by rw [HFF.out];rfl,hB02.trans ((hB.trans (hB3.mono hB.size)).mono hB02.size)⟩
   ·obtain rfl:k=n:=by omega
    have HFF:=zH (show Host.name l=true by
     rw [HF.out,List.all_eq_true];have:=HC.out;rw [List.take_of_length_le (by rw [HN.out];exact zN _)] at this;exact this)
    go_wp2_with fail
    go_ret
    exact⟨by rw [HFF.out];rfl,hB02.trans (hB.mono hB02.size)⟩
end Go.Proofs.YtmanejniepghlaaGreatDoor
