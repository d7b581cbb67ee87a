import Derived.Test.YtmanejniepghlaaGreatDoorRun7
import Derived.Test.YtmanejniepghlaaGreatDoorRun8
import Derived.Test.YtmanejniepghlaaGreatDoorRun12
import Derived.Test.YtmanejniepghlaaGreatDoorRun0
import Derived.OwnWalk
import Derived.IntWalk
import Derived.Deep.DeepMust
namespace Go.Proofs.YtmanejniepghlaaGreatDoor
section
open Go.RowKit
variable {r:List UInt8} {p:List Int}
def ProRel (p:List Int) (n:Nat) (W0:World) (v5 i:Value) (wr:World):Prop:=∃ (k:Nat) (bs:Bool),k<=n/\i=.int .i64 k/\v5=.bool bs/\Hid (bs=(p.take k).all fun x=>decide (x < 128))/\Hid (∀ x ∈ p.take k,¬ (65<=x/\x<=90))/\Below W0.heap.size W0 wr
theorem Lab.proper_err {e:Int} (h:Puny.decode r=.error e):Lab.proper r=false:=by unfold Lab.proper;rw [h]
theorem Lab.proper_up (h:Puny.decode r=.ok p) (x:Int) (hx:x ∈ p) (h2:65<=x/\x<=90):Lab.proper r=false:=by
 unfold Lab.proper;rw [h];unfold Lab.properP
 have:(p.all fun x=>!(decide (65<=x) && decide (x<=90)))=false:=by
  rw [List.all_eq_false];exact⟨x,hx,by simp [h2]⟩
 simp only [this,Bool.false_and]
theorem Lab.proper_ok (h:Puny.decode r=.ok p) (hu:∀ x ∈ p,¬ (65<=x/\x<=90)):Lab.proper r=(!(p.all fun x=>decide (x < 128)) && decide (Puny.encode p=r)):=by
 unfold Lab.proper;rw [h];unfold Lab.properP
 have h1:(p.all fun x=>!(decide (65<=x) && decide (x<=90)))=true:=by
  rw [List.all_eq_true];intro x hx;have:=hu x hx;simp;omega
 have h2:(p.any fun x=>decide (128<=x))=!(p.all fun x=>decide (x < 128)):=by
  rw [Bool.eq_iff_iff];simp
 simp only [h1,h2,Bool.true_and]
theorem Puny.enc_ok' {ps:List Int} (hn:ps.length<=256) (h:∀ p ∈ ps,Puny.point p=true):Puny.enc ps=(Puny.encode ps,0):=by
 unfold Puny.enc;rw [if_neg (by omega),if_pos (by rw [List.all_eq_true];exact h)]
set_option maxHeartbeats 4000000 in
set_option maxRecDepth 100000 in
theorem zl_x (r:List UInt8) (w:World) (hl:r.length<=1000000) :
 Calls Tryz.prog 220 #[.string (str r)] w fun e w'=>e=.returned (.bool (Lab.proper r))/\Below w.heap.size w w':=by
 have hdec:=fun W=>zn_y r W hl
 unfold PDecPost Puny.dec at hdec
 cases hd:Puny.decode r with
|error er =>
  rw [hd] at hdec
  have her:=Puny.decode_err _ _ hd
  have HPR:=zH (Lab.proper_err hd)
  have HDEC:=zH hdec
  obtain⟨sv,hsv⟩:∃ sv,sv=str r:=⟨_,rfl⟩
  rw [<-hsv] at HDEC ⊢
  have hne2:(er != 0)=true:=by simpa using her
  clear hsv hd hdec her
  go_enter Tryz.func220,Tryz.ntmps220
  go_wp2_with fail
  refine (HDEC.out _).mono ?_;rintro e w1 ⟨v1,rfl,hO1,hb1⟩
  simp only at hO1 ⊢
  go_wp2_with fail
  go_ret
  exact⟨by rw [HPR.out];rfl,hb1⟩
|ok p =>
  rw [hd] at hdec
  obtain⟨q1,q2⟩:=Puny.decode_ok _ _ hd
  have henc:=fun a n c W h=>zi_o true a n c p W h (fun x hx=>by have:=(Puny.point_iff _).1 (q1 x hx);omega)
  unfold PEncPost at henc
  rw [Puny.enc_ok' q2 q1] at henc
  have HDEC:=zH hdec;have HENC:=zH henc
  have HUP:=zH (Lab.proper_up hd)
  have HOK:=zH (Lab.proper_ok hd)
  obtain⟨sv,hsv⟩:∃ sv,sv=str r:=⟨_,rfl⟩
  rw [<-hsv] at HDEC ⊢
  have HSV:=zH hsv
  have hpb:∀ x ∈ p,0<=x/\x<=1114111:=fun x hx=>by have:=(Puny.point_iff _).1 (q1 x hx);omega
  have HPB:=zH hpb
  clear hsv hd hdec henc q1 hpb
  go_enter Tryz.func220,Tryz.ntmps220
  go_wp2_with fail
  refine (HDEC.out _).mono ?_;rintro e w1 ⟨v1,rfl,hO1,hb1⟩
  simp only at hO1 ⊢
  obtain⟨a1,c1,rfl,hs1⟩:=hO1.sl
  have HLN:=zH hs1.len
  have hsz1:=hb1.size
  clear hO1
  have hle:((p.length:Nat):Int)<=256:=by omega
  go_wp2_with fail
  go_loopw [5,18] (fun v5 i wr=>ProRel p p.length w1 v5 i wr) (fun _ i _=>p.length - (intOf i).toNat)
  case atStart=>exact⟨0,true,Nat.zero_le _,rfl,rfl,zH (by simp),zH (by simp),Below.refl _ _⟩
  case round =>
   obtain⟨k,bs,hk,rfl,rfl,HB,HU,hB⟩:=hrel
   by_cases hlt:k < p.length
   ·obtain⟨g,o,rfl,hg,hkl,hc1⟩:=(hs1.ext hB).at hlt
    rw [List.getElem?_eq_getElem hkl,Option.getD_some] at hc1
    have HMEM:=zH (List.getElem_mem hkl)
    have HTK:=zH (List.take_succ_eq_append_getElem hkl)
    have hpx:=HPB.out _ HMEM.out
    have b0:(0:Int)<=(k:Int):=by omega
    have b1:(k:Int) < (p.length:Int):=by omega
    generalize p[k]=x at *
    have hx0:=hpx.1
    have hx1:=hpx.2
    clear hpx
    by_cases h1:65<=x
    ·by_cases h2:x<=90
     ·have HF:=zH (HUP.out x HMEM.out ⟨h1,h2⟩)
      clear HUP HOK
      go_wp2_with fail
      go_ret
      exact⟨by rw [HF.out];rfl,hb1.trans (hB.mono hsz1)⟩
     ·have HUN:=zH (show ∀ y ∈ p.take (k+1),¬ (65<=y/\y<=90) by
       rw [HTK.out];intro y hy
       rcases List.mem_append.1 hy with hy|hy
       ·exact HU.out y hy
       ·simp at hy;subst hy;omega)
      by_cases h3:x < 128
      all_goals
       cases bs
       all_goals
        go_wp2_with fail
        go_roundw
        case rel=>exact⟨k+1,_,by omega,by go_num,rfl,zH (by rw [HTK.out,List.all_append,<-HB.out];simp [h3]),HUN,hB⟩
        case measure=>simp [intOf];omega
    ·have HUN:=zH (show ∀ y ∈ p.take (k+1),¬ (65<=y/\y<=90) by
      rw [HTK.out];intro y hy
      rcases List.mem_append.1 hy with hy|hy
      ·exact HU.out y hy
      ·simp at hy;subst hy;omega)
     have h3:x < 128:=by omega
     cases bs
     all_goals
      go_wp2_with fail
      go_roundw
      case rel=>exact⟨k+1,_,by omega,by go_num,rfl,zH (by rw [HTK.out,List.all_append,<-HB.out];simp [h3]),HUN,hB⟩
      case measure=>simp [intOf];omega
   ·obtain rfl:k=p.length:=by omega
    rw [List.take_of_length_le (zN _)] at HB HU
    have hok:=HOK.out HU.out
    rw [<-HB.out] at hok
    have HOK2:=zH hok
    clear hok HOK HUP
    have hs2:=hs1.ext hB
    have hB2:=hb1.trans (hB.mono hsz1)
    have hsz2:=hB2.size
    cases bs with
   |true =>
     go_wp2_with fail
     refine (HENC.out _ _ _ _ hs2).mono ?_;rintro e w2 ⟨rfl,hb2⟩
     have hB3:=hB2.trans (hb2.mono hsz2)
     simp only
     go_wp2_with fail
     go_ret
     exact⟨by rw [HOK2.out];rfl,hB3⟩
   |false =>
     by_cases he:Puny.encode p=r
     ·have hq:((str (Puny.encode p)).toList == sv.toList)=true:=by rw [he,HSV.out];simp
      go_wp2_with fail
      refine (HENC.out _ _ _ _ hs2).mono ?_;rintro e w2 ⟨rfl,hb2⟩
      have hB3:=hB2.trans (hb2.mono hsz2)
      have HE:=zH he
      simp only
      generalize str (Puny.encode p)=sv2 at *
      clear he
      go_wp2_with fail
      go_ret
      exact⟨by rw [HOK2.out,decide_eq_true HE.out];rfl,hB3⟩
     ·have hq:((str (Puny.encode p)).toList == sv.toList)=false:=by rw [HSV.out];simpa using he
      go_wp2_with fail
      refine (HENC.out _ _ _ _ hs2).mono ?_;rintro e w2 ⟨rfl,hb2⟩
      have hB3:=hB2.trans (hb2.mono hsz2)
      have HE:=zH he
      simp only
      generalize str (Puny.encode p)=sv2 at *
      clear he
      go_wp2_with fail
      go_ret
      exact⟨by rw [HOK2.out,decide_eq_false HE.out];rfl,hB3⟩
end
section
open Go.RowKit
variable {l:List UInt8}
theorem Lab.valid_long (h:63 < l.length):Lab.valid l=false:=by
 unfold Lab.valid Lab.frame;simp;intro _ h2;omega
theorem Lab.valid_first (hl:0 < l.length) (h:l[0]=45):Lab.valid l=false:=by
 have:l.head?=some 45:=by rw [List.head?_eq_getElem?,List.getElem?_eq_getElem hl,h]
 unfold Lab.valid Lab.frame;simp [this]
theorem Lab.valid_last (hl:l.length - 1 < l.length) (h:l[l.length - 1]=45):Lab.valid l=false:=by
 have:l.getLast?=some 45:=by rw [List.getLast?_eq_getElem?,List.getElem?_eq_getElem hl,h]
 unfold Lab.valid Lab.frame;simp [this]
theorem Lab.valid_bad {b:UInt8} (hb:b ∈ l) (h:Lab.canon b=false):Lab.valid l=false:=by
 have:l.all Lab.canon=false:=by rw [List.all_eq_false];exact⟨b,hb,by simp [h]⟩
 unfold Lab.valid Lab.frame;simp [this]
theorem Lab.valid_ok (hl:0 < l.length) (h63:l.length<=63) (hm:l.length - 1 < l.length) (h0:l[0] ≠ 45) (h1:l[l.length - 1] ≠ 45) (hc:∀ b ∈ l,Lab.canon b=true) :
 Lab.valid l=(!(Lab.pre.isPrefixOf l) || Lab.proper (l.drop 4)):=by
 have e0:l.head? ≠ some 45:=by rw [List.head?_eq_getElem?,List.getElem?_eq_getElem hl];simpa using h0
 have e1:l.getLast? ≠ some 45:=by rw [List.getLast?_eq_getElem?,List.getElem?_eq_getElem hm];simpa using h1
 have e2:l.all Lab.canon=true:=by rw [List.all_eq_true];exact hc
 have e3:l ≠ []:=by intro e;subst e;simp at hl
 have:Lab.frame l=true:=by unfold Lab.frame;simp [e0,e1,e2,e3,h63]
 unfold Lab.valid;rw [this,Bool.true_and]
theorem zg_u (b:UInt8) (k:Nat) (hk:k < 256) (h:¬ b=UInt8.ofNat k):¬ (b.toNat:Int)=(k:Int):=by
 intro e;apply h;apply UInt8.toNat_inj.1;rw [UInt8.toNat_ofNat'];omega
theorem zr_x (l:List UInt8) (w:World) :
 Calls Tryz.prog 219 #[.string (str l),.string ⟨#[120,110,45,45]⟩] w fun e w'=>e=.returned (.tuple #[.string (str (if Lab.pre.isPrefixOf l then l.drop 4 else l)),.bool (Lab.pre.isPrefixOf l)])/\w'=w:=by
 refine (zi_v (str l) ⟨#[120,110,45,45]⟩ w).mono ?_
 rintro e w' ⟨rfl,rfl⟩
 exact⟨rfl,rfl⟩
set_option maxHeartbeats 8000000 in
set_option maxRecDepth 100000 in
theorem zn_l (l:List UInt8) (w:World) (hl:l.length<=1000000) :
 Calls Tryz.prog 194 #[.string (str l)] w fun e w'=>e=.returned (.bool (Lab.valid l))/\Below w.heap.size w w':=by
 have hsz:=str_size l
 have hget:∀ k (h:k < l.length) hq,(str l)[k]'hq=l[k]:=fun k h hq=>zf_r _ _ _
 obtain⟨sv,hsv⟩:∃ sv,sv=str l:=⟨_,rfl⟩
 have hget2:∀ i (h:i < l.length) (h':i < sv.size),sv[i]=l[i]:=by subst hsv;exact hget
 rw [<-hsv] at hsz ⊢
 have HGET:=zH hget2
 have HSV:=zH hsv
 clear hget hget2 hsv
 by_cases hl0:l.length=0
 ·have HF:=zH (show Lab.valid l=false by rw [List.eq_nil_of_length_eq_zero hl0];rfl)
  rw [hl0] at hsz
  clear HGET
  have ht:(sv.size:Int) < 1:=by rw [hsz];decide
  clear hsz
  go_enter Tryz.func194,Tryz.ntmps194
  go_wp2_with fail
  go_ret
  exact⟨by rw [HF.out];rfl,Below.refl _ _⟩
 have ht0:¬ (l.length:Int) < 1:=by omega
 by_cases hl1:63 < l.length
 ·have HF:=zH (Lab.valid_long hl1)
  have ht:(63:Int) < (l.length:Int):=by omega
  clear HGET
  go_enter Tryz.func194,Tryz.ntmps194
  go_wp2_with fail
  go_ret
  exact⟨by rw [HF.out];rfl,Below.refl _ _⟩
 have ht1:¬ (63:Int) < (l.length:Int):=by omega
 have hp0:0 < l.length:=by omega
 have hpz:(0:Int) < (l.length:Int):=by omega
 have hm:l.length - 1 < l.length:=by omega
 have hf0:=HGET.out 0 hp0
 have hf1:=HGET.out (l.length - 1) hm
 have HV0:=zH (Lab.valid_first hp0)
 have HV1:=zH (Lab.valid_last hm)
 have HVO:=zH (Lab.valid_ok hp0 (by omega) hm)
 have HVB:=zH (fun b hb h=>Lab.valid_bad (l:=l) (b:=b) hb h)
 generalize l[0]=x0 at *
 generalize l[l.length - 1]=x1 at *
 by_cases hx0:x0=45
 ·have HF:=zH (HV0.out hx0)
  have ht:((x0.toNat:Int) == 45)=true:=by rw [hx0];rfl
  have ht':(x0.toNat:Int)=45:=by rw [hx0];rfl
  clear hx0 HVO HV0 HV1 hf1
  go_enter Tryz.func194,Tryz.ntmps194
  go_wp2_with fail
  go_ret
  exact⟨by rw [HF.out];rfl,Below.refl _ _⟩
 have hz0:¬ (x0.toNat:Int)=45:=zg_u x0 45 (by omega) hx0
 have ht2:((x0.toNat:Int) == 45)=false:=by simpa using hz0
 have i0:(0:Int)<=(l.length:Int) - 1:=by omega
 have i1:(l.length:Int) - 1 < (l.length:Int):=by omega
 have i2:((l.length:Int) - 1).toNat=l.length - 1:=by omega
 by_cases hx1:x1=45
 ·have HF:=zH (HV1.out hx1)
  have ht:((x1.toNat:Int) == 45)=true:=by rw [hx1];rfl
  have ht':(x1.toNat:Int)=45:=by rw [hx1];rfl
  clear hx1 HVO HV0 HV1
  go_enter Tryz.func194,Tryz.ntmps194
  go_wp2_with fail
  go_ret
  exact⟨by rw [HF.out];rfl,Below.refl _ _⟩
 have hz1:¬ (x1.toNat:Int)=45:=zg_u x1 45 (by omega) hx1
 have ht3:((x1.toNat:Int) == 45)=false:=by simpa using hz1
 have HVK:=zH (fun hc=>HVO.out hx0 hx1 hc)
 clear HV0 HV1 HVO
 go_enter Tryz.func194,Tryz.ntmps194
 go_wp2_with fail
 go_loop [30] (fun i=>∃ k:Nat,k<=l.length/\i=.int .i64 k/\Hid (∀ b ∈ l.take k,Lab.canon b=true)) (fun i=>l.length - (intOf i).toNat)
 case atStart=>exact⟨0,Nat.zero_le _,rfl,zH (by simp)⟩
 case round =>
  obtain⟨k,hk,rfl,HC⟩:=hrel
  by_cases hlt:k < l.length
  ·have b0:(0:Int)<=(k:Int):=by omega
   have b1:(k:Int) < (l.length:Int):=by omega
   have HMEM:=zH (List.getElem_mem hlt)
   have HTK:=zH (List.take_succ_eq_append_getElem hlt)
   have hg:=HGET.out k hlt
   clear hf0 hf1
   generalize l[k]=b at *
   have HBAD:=zH (fun h=>HVB.out b HMEM.out h)
   have HGOOD:=zH (fun (h:Lab.canon b=true)=>(show ∀ x ∈ l.take (k+1),Lab.canon x=true by
    rw [HTK.out];intro x hx
    rcases List.mem_append.1 hx with hx|hx
    ·exact HC.out x hx
    ·simp at hx;subst hx;exact h))
   clear HVK HVB
   by_cases c1:97<=b.toNat
   ·have d1:(97:Int)<=(b.toNat:Int):=by omega
    by_cases c2:b.toNat<=122
    ·have d2:(b.toNat:Int)<=122:=by omega
     have HN:=zH (HGOOD.out (by simp [Lab.canon,c1,c2]))
     go_wp2_with fail
     go_round
     case rel=>exact⟨k+1,by omega,by go_num,HN⟩
     case measure=>simp [intOf];omega
    ·have d2:¬ (b.toNat:Int)<=122:=by omega
     have d3:(48:Int)<=(b.toNat:Int):=by omega
     have d4:¬ (b.toNat:Int)<=57:=by omega
     have d5:((b.toNat:Int) != 45)=true:=by simp;omega
     have d6:((b.toNat:Int) != 95)=true:=by simp;omega
     have HF:=zH (HBAD.out (by simp [Lab.canon];omega))
     go_wp2_with fail
     go_ret
     exact⟨by rw [HF.out];rfl,Below.refl _ _⟩
   ·have d1:¬ (97:Int)<=(b.toNat:Int):=by omega
    by_cases c3:48<=b.toNat
    ·have d3:(48:Int)<=(b.toNat:Int):=by omega
     by_cases c4:b.toNat<=57
     ·have d4:(b.toNat:Int)<=57:=by omega
      have HN:=zH (HGOOD.out (by simp [Lab.canon,c3,c4]))
      go_wp2_with fail
      go_round
      case rel=>exact⟨k+1,by omega,by go_num,HN⟩
      case measure=>simp [intOf];omega
     ·have d4:¬ (b.toNat:Int)<=57:=by omega
      have d5:((b.toNat:Int) != 45)=true:=by simp;omega
      by_cases c5:b.toNat=95
      ·have d6:((b.toNat:Int) != 95)=false:=by simp;omega
       have HN:=zH (HGOOD.out (by simp [Lab.canon,c5]))
       clear c5
       go_wp2_with fail
       go_round
       case rel=>exact⟨k+1,by omega,by go_num,HN⟩
       case measure=>simp [intOf];omega
      ·have d6:((b.toNat:Int) != 95)=true:=by simp;omega
       have HF:=zH (HBAD.out (by simp [Lab.canon];omega))
       go_wp2_with fail
       go_ret
       exact⟨by rw [HF.out];rfl,Below.refl _ _⟩
    ·have d3:¬ (48:Int)<=(b.toNat:Int):=by omega
     have d6:((b.toNat:Int) != 95)=true:=by simp;omega
     by_cases c5:b.toNat=45
     ·have d5:((b.toNat:Int) != 45)=false:=by simp;omega
      have HN:=zH (HGOOD.out (by simp [Lab.canon,c5]))
      clear c5
      go_wp2_with fail
      go_round
      case rel=>exact⟨k+1,by omega,by go_num,HN⟩
      case measure=>simp [intOf];omega
     ·have d5:((b.toNat:Int) != 45)=true:=by simp;omega
      have HF:=zH (HBAD.out (by simp [Lab.canon];omega))
      go_wp2_with fail
      go_ret
      exact⟨by rw [HF.out];rfl,Below.refl _ _⟩
  ·obtain rfl:k=l.length:=by omega
   rw [List.take_of_length_le (zN _)] at HC
   have hvk:=HVK.out HC.out
   have hcut:=fun W=>zr_x l W
   rw [<-HSV.out] at hcut
   have HPRO:=zH (fun W=>zl_x (l.drop 4) W (by simp;omega))
   clear hf0 hf1 HGET HVB HSV
   cases hpre:Lab.pre.isPrefixOf l with
  |false =>
    rw [hpre] at hcut hvk
    have HCUT:=zH hcut;have HV:=zH hvk
    clear hcut hvk hpre
    go_wp2_with fail
    refine (HCUT.out _).mono ?_;rintro e w1 ⟨rfl,rfl⟩
    go_wp2_with fail
    go_ret
    exact⟨by rw [HV.out];rfl,Below.refl _ _⟩
  |true =>
    rw [hpre] at hcut hvk
    simp only [if_true] at hcut
    have HCUT:=zH hcut;have HV:=zH hvk
    clear hcut hvk hpre
    go_wp2_with fail
    refine (HCUT.out _).mono ?_;rintro e w1 ⟨rfl,rfl⟩
    go_wp2_with fail
    refine (HPRO.out _).mono ?_;rintro e w2 ⟨rfl,hb2⟩
    go_wp2_with fail
    go_ret
    exact⟨by rw [HV.out];rfl,hb2⟩
end
section
open Go.RowKit
set_option maxRecDepth 100000
def ProRelR (p:List Int) (n:Nat) (W0:World) (v5 i:Value) (wr:World):Prop:=∃ (k:Nat) (bs:Bool),k<=n/\i=.int .i64 k/\v5=.bool bs/\Hid (bs=(p.take k).any fun x=>decide (128<=x))/\Hid (∀ x ∈ p.take k,¬ (65<=x/\x<=90))/\Below W0.heap.size W0 wr
theorem Lab.proper_okR {r:List UInt8} {p:List Int} (h:Puny.decode r=.ok p) (hu:∀ x ∈ p,¬ (65<=x/\x<=90)):Lab.proper r=(decide (Puny.encode p=r) && (p.any fun x=>decide (128<=x))):=by
 unfold Lab.proper;rw [h];unfold Lab.properP
 have h1:(p.all fun x=>!(decide (65<=x) && decide (x<=90)))=true:=by
  rw [List.all_eq_true];intro x hx;have:=hu x hx;simp;omega
 simp only [h1,Bool.true_and,Bool.and_comm]
set_option maxHeartbeats 8000000 in
theorem zn_r (r:List UInt8) (w:World) (hl:r.length<=1000000) :
 Calls Tryz.prog 191 #[.string (str r)] w fun e w'=>e=.returned (.bool (Lab.proper r))/\Below w.heap.size w w':=by
 have hdec:=fun W=>zo_c r W hl
 unfold PDecPost Puny.dec at hdec
 cases hd:Puny.decode r with
|error er =>
  rw [hd] at hdec
  have her:=Puny.decode_err _ _ hd
  have HPR:=zH (Lab.proper_err hd)
  have HDEC:=zH hdec
  generalize str r=sv at *
  have hne2:(er != 0)=true:=by simpa using her
  clear hd hdec her
  go_enter Tryz.func191,Tryz.ntmps191
  go_wp2_with fail
  refine (HDEC.out _).mono ?_;rintro e w1 ⟨v1,rfl,hO1,hb1⟩
  simp only at hO1 ⊢
  go_wp2_with fail
  go_ret
  exact⟨by rw [HPR.out];rfl,hb1⟩
|ok p =>
  rw [hd] at hdec
  obtain⟨q1,q2⟩:=Puny.decode_ok _ _ hd
  have henc:=fun a n c W h=>zi_o false a n c p W h (fun x hx=>by have:=(Puny.point_iff _).1 (q1 x hx);omega)
  unfold PEncPost at henc
  rw [Puny.enc_ok' q2 q1] at henc
  have HDEC:=zH hdec;have HENC:=zH henc
  have HUP:=zH (Lab.proper_up hd)
  have HOK:=zH (Lab.proper_okR hd)
  obtain⟨sv,hsv⟩:∃ sv,sv=str r:=⟨_,rfl⟩
  rw [<-hsv] at HDEC ⊢
  have HSV:=zH hsv
  have hpb:∀ x ∈ p,0<=x/\x<=1114111:=fun x hx=>by have:=(Puny.point_iff _).1 (q1 x hx);omega
  have HPB:=zH hpb
  clear hsv hd hdec henc q1 hpb
  go_enter Tryz.func191,Tryz.ntmps191
  go_wp2_with fail
  refine (HDEC.out _).mono ?_;rintro e w1 ⟨v1,rfl,hO1,hb1⟩
  simp only at hO1 ⊢
  obtain⟨a1,c1,rfl,hs1⟩:=hO1.sl
  have hsz1:=hb1.size
  clear hO1
  have hle:((p.length:Nat):Int)<=256:=by omega
  go_wp2_with fail
  go_loopw [5,6] (fun v5 i wr=>ProRelR p p.length w1 v5 i wr) (fun _ i _=>p.length - (intOf i).toNat)
  case atStart=>exact⟨0,false,Nat.zero_le _,rfl,rfl,zH (by simp),zH (by simp),Below.refl _ _⟩
  case round =>
   obtain⟨k,bs,hk,rfl,rfl,HB,HU,hB⟩:=hrel
   by_cases hlt:k < p.length
   ·obtain⟨g,o,rfl,hg,hkl,hc1⟩:=(hs1.ext hB).at hlt
    rw [List.getElem?_eq_getElem hkl,Option.getD_some] at hc1
    have HMEM:=zH (List.getElem_mem hkl)
    have HTK:=zH (List.take_succ_eq_append_getElem hkl)
    have hpx:=HPB.out _ HMEM.out
    have b0:(0:Int)<=(k:Int):=by omega
    have b1:(k:Int) < (p.length:Int):=by omega
    generalize p[k]=x at *
    have hx0:=hpx.1
    have hx1:=hpx.2
    clear hpx
    by_cases h1:65<=x
    ·by_cases h2:x<=90
     ·have HF:=zH (HUP.out x HMEM.out ⟨h1,h2⟩)
      have h3:¬ 128<=x:=by omega
      clear HUP HOK
      cases bs
      all_goals
       go_wp2_with fail
       go_ret
       exact⟨by rw [HF.out];rfl,hb1.trans (hB.mono hsz1)⟩
     ·have HUN:=zH (show ∀ y ∈ p.take (k+1),¬ (65<=y/\y<=90) by
       rw [HTK.out];intro y hy
       rcases List.mem_append.1 hy with hy|hy
       ·exact HU.out y hy
       ·simp at hy;subst hy;omega)
      by_cases h3:128<=x
      all_goals
       cases bs
       all_goals
        go_wp2_with fail
        go_roundw
        case rel=>exact⟨k+1,_,by omega,by go_num,rfl,zH (by rw [HTK.out,List.any_append,<-HB.out];simp [h3]),HUN,hB⟩
        case measure=>simp [intOf];omega
    ·have HUN:=zH (show ∀ y ∈ p.take (k+1),¬ (65<=y/\y<=90) by
      rw [HTK.out];intro y hy
      rcases List.mem_append.1 hy with hy|hy
      ·exact HU.out y hy
      ·simp at hy;subst hy;omega)
     have h3:¬ 128<=x:=by omega
     cases bs
     all_goals
      go_wp2_with fail
      go_roundw
      case rel=>exact⟨k+1,_,by omega,by go_num,rfl,zH (by rw [HTK.out,List.any_append,<-HB.out];simp [h3]),HUN,hB⟩
      case measure=>simp [intOf];omega
   ·obtain rfl:k=p.length:=by omega
    rw [List.take_of_length_le (zN _)] at HB HU
    have hok:=HOK.out HU.out
    rw [<-HB.out] at hok
    have HOK2:=zH hok
    clear hok HOK HUP
    have hs2:=hs1.ext hB
    have hB2:=hb1.trans (hB.mono hsz1)
    have hsz2:=hB2.size
    by_cases he:Puny.encode p=r
    ·have hq:((str (Puny.encode p)).toList == sv.toList)=true:=by rw [he,HSV.out];simp
     have HE:=zH he
     clear he
     go_wp2_with fail
     refine (HENC.out _ _ _ _ hs2).mono ?_;rintro e w2 ⟨rfl,hb2⟩
     have hB3:=hB2.trans (hb2.mono hsz2)
     simp only
     generalize str (Puny.encode p)=sv2 at *
     go_wp2_with fail
     go_ret
     exact⟨by rw [HOK2.out,decide_eq_true HE.out];rfl,hB3⟩
    ·have hq:((str (Puny.encode p)).toList == sv.toList)=false:=by rw [HSV.out];simpa using he
     have HE:=zH he
     clear he
     go_wp2_with fail
     refine (HENC.out _ _ _ _ hs2).mono ?_;rintro e w2 ⟨rfl,hb2⟩
     have hB3:=hB2.trans (hb2.mono hsz2)
     simp only
     generalize str (Puny.encode p)=sv2 at *
     go_wp2_with fail
     go_ret
     exact⟨by rw [HOK2.out,decide_eq_false HE.out];rfl,hB3⟩
set_option maxHeartbeats 8000000 in
theorem zq_d (l:List UInt8) (w:World) (hl:l.length<=1000000) :
 Calls Tryz.prog 168 #[.string (str l)] w fun e w'=>e=.returned (.bool (Lab.valid l))/\Below w.heap.size w w':=by
 have hsz:=str_size l
 have hget:∀ k (h:k < l.length) hq,(str l)[k]'hq=l[k]:=fun k h hq=>zf_r _ _ _
 have htl:=str_toList l
 obtain⟨sv,hsv⟩:∃ sv,sv=str l:=⟨_,rfl⟩
 have hget2:∀ i (h:i < l.length) (h':i < sv.size),sv[i]=l[i]:=by subst hsv;exact hget
 rw [<-hsv] at hsz htl ⊢
 have HGET:=zH hget2
 have HSV:=zH hsv
 have HTL:=zH htl
 clear hget hget2 hsv htl
 by_cases hl0:l.length=0
 ·have hln:=List.eq_nil_of_length_eq_zero hl0
  have HF:=zH (show Lab.valid l=false by rw [hln];rfl)
  have ht:sv.toList.isEmpty=true:=by rw [HTL.out,hln];rfl
  clear hln hl0 HGET
  go_enter Tryz.func168,Tryz.ntmps168
  go_wp2_with fail
  go_ret
  exact⟨by rw [HF.out];rfl,Below.refl _ _⟩
 have ht0:sv.toList.isEmpty=false:=by rw [HTL.out];cases l <;> first | rfl | simp at hl0
 by_cases hl1:63 < l.length
 ·have HF:=zH (Lab.valid_long hl1)
  have ht:(63:Int) < (l.length:Int):=by omega
  clear HGET
  go_enter Tryz.func168,Tryz.ntmps168
  go_wp2_with fail
  go_ret
  exact⟨by rw [HF.out];rfl,Below.refl _ _⟩
 have ht1:¬ (63:Int) < (l.length:Int):=by omega
 have hp0:0 < l.length:=by omega
 have hpz:(0:Int) < (l.length:Int):=by omega
 have hm:l.length - 1 < l.length:=by omega
 have hf0:=HGET.out 0 hp0
 have hf1:=HGET.out (l.length - 1) hm
 have HV0:=zH (Lab.valid_first hp0)
 have HV1:=zH (Lab.valid_last hm)
 have HVO:=zH (Lab.valid_ok hp0 (by omega) hm)
 have HVB:=zH (fun b hb h=>Lab.valid_bad (l:=l) (b:=b) hb h)
 generalize l[0]=x0 at *
 generalize l[l.length - 1]=x1 at *
 by_cases hx0:x0=45
 ·have HF:=zH (HV0.out hx0)
  have ht:((x0.toNat:Int) == 45)=true:=by rw [hx0];rfl
  have ht':(x0.toNat:Int)=45:=by rw [hx0];rfl
  clear hx0 HVO HV0 HV1 hf1
  go_enter Tryz.func168,Tryz.ntmps168
  go_wp2_with fail
  go_ret
  exact⟨by rw [HF.out];rfl,Below.refl _ _⟩
 have hz0:¬ (x0.toNat:Int)=45:=zg_u x0 45 (by omega) hx0
 have ht2:((x0.toNat:Int) == 45)=false:=by simpa using hz0
 have i0:(0:Int)<=(l.length:Int) - 1:=by omega
 have i1:(l.length:Int) - 1 < (l.length:Int):=by omega
 have i2:((l.length:Int) - 1).toNat=l.length - 1:=by omega
 by_cases hx1:x1=45
 ·have HF:=zH (HV1.out hx1)
  have ht:((x1.toNat:Int) == 45)=true:=by rw [hx1];rfl
  have ht':(x1.toNat:Int)=45:=by rw [hx1];rfl
  clear hx1 HVO HV0 HV1
  go_enter Tryz.func168,Tryz.ntmps168
  go_wp2_with fail
  go_ret
  exact⟨by rw [HF.out];rfl,Below.refl _ _⟩
 have hz1:¬ (x1.toNat:Int)=45:=zg_u x1 45 (by omega) hx1
 have ht3:((x1.toNat:Int) == 45)=false:=by simpa using hz1
 have HVK:=zH (fun hc=>HVO.out hx0 hx1 hc)
 clear HV0 HV1 HVO
 go_enter Tryz.func168,Tryz.ntmps168
 go_wp2_with fail
 go_loop [3] (fun i=>∃ k:Nat,k<=l.length/\i=.int .i64 k/\Hid (∀ b ∈ l.take k,Lab.canon b=true)) (fun i=>l.length - (intOf i).toNat)
 case atStart=>exact⟨0,Nat.zero_le _,rfl,zH (by simp)⟩
 case round =>
  obtain⟨k,hk,rfl,HC⟩:=hrel
  by_cases hlt:k < l.length
  ·have b0:(0:Int)<=(k:Int):=by omega
   have b1:(k:Int) < (l.length:Int):=by omega
   have HMEM:=zH (List.getElem_mem hlt)
   have HTK:=zH (List.take_succ_eq_append_getElem hlt)
   have hg:=HGET.out k hlt
   clear hf0 hf1
   generalize l[k]=b at *
   have HBAD:=zH (fun h=>HVB.out b HMEM.out h)
   have HGOOD:=zH (fun (h:Lab.canon b=true)=>(show ∀ x ∈ l.take (k+1),Lab.canon x=true by
    rw [HTK.out];intro x hx
    rcases List.mem_append.1 hx with hx|hx
    ·exact HC.out x hx
    ·simp at hx;subst hx;exact h))
   clear HVK HVB
   by_cases c1:97<=b.toNat
   ·have d1:(97:Int)<=(b.toNat:Int):=by omega
    by_cases c2:b.toNat<=122
    ·have d2:(b.toNat:Int)<=122:=by omega
     have HN:=zH (HGOOD.out (by simp [Lab.canon,c1,c2]))
     go_wp2_with fail
     go_round
     case rel=>exact⟨k+1,by omega,by go_num,HN⟩
     case measure=>simp [intOf];omega
    ·have d2:¬ (b.toNat:Int)<=122:=by omega
     have d3:(48:Int)<=(b.toNat:Int):=by omega
     have d4:¬ (b.toNat:Int)<=57:=by omega
     have d5:((b.toNat:Int) == 45)=false:=by simp;omega
     have d6:((b.toNat:Int) == 95)=false:=by simp;omega
     have HF:=zH (HBAD.out (by simp [Lab.canon];omega))
     go_wp2_with fail
     go_ret
     exact⟨by rw [HF.out];rfl,Below.refl _ _⟩
   ·have d1:¬ (97:Int)<=(b.toNat:Int):=by omega
    by_cases c3:48<=b.toNat
    ·have d3:(48:Int)<=(b.toNat:Int):=by omega
     by_cases c4:b.toNat<=57
     ·have d4:(b.toNat:Int)<=57:=by omega
      have HN:=zH (HGOOD.out (by simp [Lab.canon,c3,c4]))
      go_wp2_with fail
      go_round
      case rel=>exact⟨k+1,by omega,by go_num,HN⟩
      case measure=>simp [intOf];omega
     ·have d4:¬ (b.toNat:Int)<=57:=by omega
      have d5:((b.toNat:Int) == 45)=false:=by simp;omega
      by_cases c5:b.toNat=95
      ·have d6:((b.toNat:Int) == 95)=true:=by simp;omega
       have HN:=zH (HGOOD.out (by simp [Lab.canon,c5]))
       clear c5
       go_wp2_with fail
       go_round
       case rel=>exact⟨k+1,by omega,by go_num,HN⟩
       case measure=>simp [intOf];omega
      ·have d6:((b.toNat:Int) == 95)=false:=by simp;omega
       have HF:=zH (HBAD.out (by simp [Lab.canon];omega))
       go_wp2_with fail
       go_ret
       exact⟨by rw [HF.out];rfl,Below.refl _ _⟩
    ·have d3:¬ (48:Int)<=(b.toNat:Int):=by omega
     have d6:((b.toNat:Int) == 95)=false:=by simp;omega
     by_cases c5:b.toNat=45
     ·have d5:((b.toNat:Int) == 45)=true:=by simp;omega
      have HN:=zH (HGOOD.out (by simp [Lab.canon,c5]))
      clear c5
      go_wp2_with fail
      go_round
      case rel=>exact⟨k+1,by omega,by go_num,HN⟩
      case measure=>simp [intOf];omega
     ·have d5:((b.toNat:Int) == 45)=false:=by simp;omega
      have HF:=zH (HBAD.out (by simp [Lab.canon];omega))
      go_wp2_with fail
      go_ret
      exact⟨by rw [HF.out];rfl,Below.refl _ _⟩
  ·obtain rfl:k=l.length:=by omega
   rw [List.take_of_length_le (zN _)] at HC
   have hvk:=HVK.out HC.out
   have hpt:=Lab.prefix_take l
   have HPRO:=zH (fun W=>zn_r (l.drop 4) W (by simp;omega))
   clear hf0 hf1 HGET HVB
   by_cases h4:l.length < 4
   ·have h4z:(l.length:Int) < 4:=by omega
    rw [hpt,decide_eq_false (by omega)] at hvk
    have HV:=zH hvk
    clear hvk hpt
    go_wp2_with fail
    go_ret
    exact⟨by rw [HV.out];rfl,Below.refl _ _⟩
   have h4z:¬ (l.length:Int) < 4:=by omega
   rw [decide_eq_true (by omega),Bool.true_and] at hpt
   obtain⟨s4,hs4,hq⟩:∃ s4:ByteArray,sv.extract 0 4=s4/\(s4.toList == [120,110,45,45])=(l.take 4 == Lab.pre):=by
    refine⟨str (l.take 4),?_,by rw [str_toList];rfl⟩
    rw [HSV.out,Lib.extract_eq];rfl
   obtain⟨s5,hs5,HS5⟩:∃ s5:ByteArray,sv.extract 4 l.length=s5/\Hid (s5=str (l.drop 4)):=by
    refine⟨_,rfl,zH ?_⟩
    rw [HSV.out,Lib.extract_eq,show (str l).data.toList=l from rfl,List.take_of_length_le (by simp)];rfl
   rw [<-HS5.out] at HPRO
   have e4:(4:Int)<=(l.length:Int):=by omega
   cases hB:(l.take 4 == Lab.pre) with
  |false =>
    rw [hB] at hq hpt
    rw [hpt] at hvk
    have hq2:(s4.toList != [120,110,45,45])=true:=by rw [bne,hq];rfl
    have HV:=zH hvk
    clear hvk hpt hB HPRO
    go_wp2_with fail
    go_ret
    exact⟨by rw [HV.out];rfl,Below.refl _ _⟩
  |true =>
    rw [hB] at hq hpt
    rw [hpt] at hvk
    have hq2:(s4.toList != [120,110,45,45])=false:=by rw [bne,hq];rfl
    have HV:=zH hvk
    clear hvk hpt hB
    go_wp2_with fail
    refine (HPRO.out _).mono ?_;rintro e w2 ⟨rfl,hb2⟩
    go_wp2_with fail
    go_ret
    exact⟨by rw [HV.out];rfl,hb2⟩
end
end Go.Proofs.YtmanejniepghlaaGreatDoor
