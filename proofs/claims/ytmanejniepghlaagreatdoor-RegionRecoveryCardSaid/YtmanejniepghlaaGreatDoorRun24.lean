import Derived.Test.YtmanejniepghlaaGreatDoorRun4
import Derived.Test.YtmanejniepghlaaGreatDoorRun19
import Derived.Test.YtmanejniepghlaaGreatDoorChecked
import Derived.Lib.Strings
import Derived.Lib.Slices
import Derived.Lib.Small
import Derived.Lib.Walk
import Derived.Lib.BitFns
namespace Go.Proofs.YtmanejniepghlaaGreatDoor
section
open Go.RowKit
variable {L:List Pin} {ck:Int} {w w':World} {e:Ending} {c n:Nat}
def SEncP (ck:Int) (L:List Pin) (w:World) (e:Ending) (w':World):Prop:=∃ v,e=.returned (.tuple #[v,.int .i64 (if Upt.stValid ck L then 0 else 1)])/\OwnB w.heap.size w' v (if Upt.stValid ck L then Snap.enc ck L else [])/\Ext w w'
theorem SEncP.bad (h:Upt.stValid ck L=false) (he:e=.returned (.tuple #[.slice none 0 0,.int .i64 1])) (hb:Ext w w'):SEncP ck L w e w':=by
 unfold SEncP;rw [h];exact⟨_,he,OwnB.nil _ _,hb⟩
theorem SEncP.good (h:Upt.stValid ck L=true) {v:Value} (he:e=.returned (.tuple #[v,.int .i64 0])) (ho:OwnB w.heap.size w' v (Snap.enc ck L)) (hb:Ext w w'):SEncP ck L w e w':=by
 unfold SEncP;rw [h];exact⟨_,he,ho,hb⟩
theorem SlB.none0 (w:World):SlB w none 0 0 []:=⟨rfl,zN _,by unfold maxLen;omega,fun _=>⟨rfl,rfl⟩,fun x hx=>by cases hx⟩
namespace Snap
def pre (c n:Nat) (L:List Pin) (k:Nat):List UInt8:=(Wire.enc c ++ Wire.enc n) ++ (L.take k).flatMap Pin.enc
theorem pre_zero (c n:Nat) (L:List Pin):pre c n L 0=Wire.enc c ++ Wire.enc n:=by unfold pre;simp
theorem pre_succ {k:Nat} (hk:k < L.length):pre c n L (k+1)=pre c n L k ++ Pin.enc L[k]:=by
 unfold pre;rw [zo_w hk,List.append_assoc,List.append_assoc,List.append_assoc]
theorem pre_end (c:Nat) (L:List Pin):pre c L.length L L.length=enc c L:=by
 unfold pre enc;rw [List.take_of_length_le (zN _),Int.toNat_natCast,List.append_assoc]
theorem pre_len (hc:c < 18446744073709551616) (hn:n < 18446744073709551616) (hl:L.length<=1000) (h:∀ p ∈ L,Pin.valid p=true) (k:Nat):(pre c n L k).length<=300000:=by
 have h1:=Wire.enc_len hc
 have h2:=Wire.enc_len hn
 have h3:=zg_x (L.take k) (fun p hp=>h p (List.mem_of_mem_take hp))
 rw [List.length_take] at h3
 unfold pre
 simp only [List.length_append]
 omega
end Snap
set_option maxHeartbeats 8000000 in
set_option maxRecDepth 100000 in
theorem zi_w (ck:Int) (a:Option Addr) (n c:Nat) (L:List Pin) (w:World) (h:SlN w a n c L) (hL:∀ p ∈ L,p.h.length<=1000000) :
 Calls Tryz.prog 46 #[.agg #[ck,.slice a n c]] w (SEncP ck L w):=by
 have hb0:=(Below.refl w.heap.size w).alloc (zN _) (.cells #[ck,.slice a n c] 44)
 have hs0:=SBox.new w ck (.slice a n c)
 have HLN:=zH h.len
 have HSLW:=zH h
 have HV:=zH (fun W (hs:SlN W a n c L)=>zc_e ck a n c L W hs hL)
 have HST:=zH (fun (e:Upt.stValid ck L=true)=>(Upt.stValid_iff ck L).1 e)
 obtain⟨vb,hvb⟩:∃ vb,Upt.stValid ck L=vb:=⟨_,rfl⟩
 rw [hvb] at HV
 have HVB:=zH hvb
 obtain⟨W0,hW0⟩:∃ W0,w.alloc (.cells #[ck,.slice a n c] 44)=W0:=⟨_,rfl⟩
 rw [hW0] at hb0 hs0
 have HW0:=zH hW0
 have HB0:=zH hb0
 have HS0:=zH hs0
 clear hvb hW0 hb0 hs0 h
 cases vb with
|false =>
  go_enter Tryz.func46,Tryz.ntmps46
  go_wp2_with fail
  rw [HW0.out]
  refine (HV.out _ (HSLW.out.ext HB0.out)).mono ?_;rintro e w1 ⟨rfl,hb1⟩
  go_wp2_with fail
  go_ret2
  exact SEncP.bad HVB.out rfl (HB0.out.trans (Below.mono hb1 HB0.out.size))
|true =>
  obtain⟨v1,v2,v3,v4,-⟩:=HST.out HVB.out
  have HV4:=zH v4
  obtain⟨cn,rfl⟩:∃ cn:Nat,ck=(cn:Int):=⟨ck.toNat,by omega⟩
  have hln:=HLN.out
  have v3':n<=1000:=by omega
  have HA1:=zH (fun W=>zb_h none 0 0 [] cn (cn:Int) rfl (by omega) W (SlB.none0 W) (by omega))
  have HA2:=zH (fun a1 m1 c1 W (hs:SlB W a1 m1 c1 (Wire.enc cn)) (hm:m1<=1000000)=>zb_h a1 m1 c1 (Wire.enc cn) n (n:Int) rfl (by omega) W hs hm)
  have hl1:=Wire.enc_len (v:=cn) (by omega)
  have HPR0:=zH (Snap.pre_zero cn n L)
  have HPRE:=zH (show Snap.pre cn n L n=Snap.enc (cn:Int) L by rw [<-hln];exact Snap.pre_end cn L)
  have HPRS:=zH (fun k (hk:k < L.length)=>Snap.pre_succ (c:=cn) (n:=n) hk)
  have HPRL:=zH (Snap.pre_len (c:=cn) (n:=n) (L:=L) (by omega) (by omega) (by omega) v4)
  have wc:IntKind.u64.wrap (cn:Int)=(cn:Int):=by rw [IntKind.wrap_u64];omega
  have wn:IntKind.u64.wrap (n:Int)=(n:Int):=by rw [IntKind.wrap_u64];omega
  simp only [List.nil_append] at HA1
  obtain⟨E1,hE1⟩:∃ E,Wire.enc cn=E:=⟨_,rfl⟩
  rw [hE1] at HA1 HA2 hl1 HPR0
  obtain⟨m1,hm1⟩:∃ m,E1.length=m:=⟨_,rfl⟩
  have HM1:=zH hm1
  rw [hm1] at hl1
  obtain⟨-,hl2⟩:=hl1
  generalize hPP:Snap.pre cn n L=P at *
  clear hE1 hm1 hPP v4 v1 v2 v3 hln HST
  go_enter Tryz.func46,Tryz.ntmps46
  go_wp2_with fail
  rw [HW0.out]
  refine (HV.out _ (HSLW.out.ext HB0.out)).mono ?_;rintro e w1 ⟨rfl,hb1⟩
  have hB1:=HB0.out.trans (Below.mono hb1 HB0.out.size)
  have HB1:=zH hB1
  have HS1:=zH (HS0.out.ext hb1)
  have HKS:=zH (show ∀ W,Ext w1 W->Ext w1 W/\W.cell? w.heap.size=some (cn:Value)/\W.cell? (w.heap.size 1)=some (.slice a n c)/\w.heap.size < W.heap.size from fun W e=>⟨e,(HS1.out.ext e).cells.1,(HS1.out.ext e).cells.2,za_a (HS1.out.ext e)⟩)
  clear hb1 hB1
  obtain⟨-,q0,q1,q2⟩:=HKS.out _ (Ext.refl _)
  go_wp2_with fail
  go_region_held3 (fun W=>Ext w1 W/\W.cell? w.heap.size=some (cn:Value)/\W.cell? (w.heap.size 1)=some (.slice a n c)/\w.heap.size < W.heap.size) (first|assumption|exact HKS.out _ (Ext.drew (Ext.refl _))|exact HKS.out _ (Ext.step (by assumption) (And.left (by assumption)))) (first|(go_at_call_of 102 (Value.slice none 0 0);go_must (refine (HA1.out _).mono ?_);rintro e x1 ⟨y1,rfl,ho1,hc1⟩;obtain⟨a1,c1,hy1,hs1,-⟩:=ho1.sl;rw [HM1.out] at hs1 hy1;subst hy1;have HX1:=zH hs1;clear ho1 hs1)|(go_at_call 102;go_must (refine (HA2.out _ _ _ _ HX1.out (by omega)).mono ?_);rintro e x2 ⟨y2,rfl,ho2,hc2⟩))
  have hfin:Ext w1 x2:=And.left (by assumption)
  have HB2:=zH (show Below w.heap.size w x2 from HB1.out.trans (hfin.mono HB1.out.size))
  have HO2:=zH (ho2.mono (b':=w.heap.size) (by have h1:=HB1.out.size;have h2:=hc1.size;exact Nat.le_trans h1 h2))
  rw [<-HPR0.out] at HO2
  clear q0 q1 q2
  obtain⟨-,q0,q1,q2⟩:=HKS.out _ hfin
  clear hfin ho2 hc2 hc1
  go_wp2_with fail
  go_loopw [4,24] (fun b i wr=>∃ k:Nat,k<=n/\i=.int .i64 (k:Nat)/\OwnB w.heap.size wr b (P k)/\Below w.heap.size w wr) (fun _ i _=>n - (intOf i).toNat)
  case atStart=>exact⟨0,Nat.zero_le _,rfl,HO2.out,HB2.out⟩
  case round =>
   obtain⟨k,hk,rfl,hO,hB⟩:=hrel
   have i0:(0:Int)<=(k:Int):=by omega
   by_cases hlt:k < n
   ·have i2:(k:Int) < (n:Int):=by omega
    obtain⟨bb,o,rfl,hbb,hkl,d1,d2,d3⟩:=(HSLW.out.ext hB).at hlt
    rw [List.getElem?_eq_getElem hkl,Option.getD_some] at d1 d2 d3
    have hst:=HPRS.out k hkl
    have hv:=HV4.out _ (List.getElem_mem hkl)
    generalize L[k]=p at *
    have hnl:=Pin.name_len ((Pin.valid_iff p).1 hv).1
    have hel:=(Pin.enc_len hv).1
    have HE:=zH (fun W=>zi_m p (by omega) W)
    unfold PEncP at HE
    rw [hv] at HE
    simp only [↓reduceIte] at HE
    obtain⟨E2,hE2⟩:∃ E,Pin.enc p=E:=⟨_,rfl⟩
    rw [hE2] at HE hst hel
    unfold pv at HE
    obtain⟨sh,hsh⟩:∃ s,str p.h=s:=⟨_,rfl⟩
    rw [hsh] at HE d1
    generalize p.s=ps at *
    generalize p.x=px at *
    have hA:=(Ext.refl wr).alloc (.cells #[.string sh,.bool ps,px] 34)
    have hO3:=hO.ext hA
    obtain⟨W3,hW3⟩:∃ W3,wr.alloc (.cells #[.string sh,.bool ps,px] 34)=W3:=⟨_,rfl⟩
    rw [hW3] at hA hO3
    have HW3:=zH hW3
    have HB3:=zH (hB.trans (Below.mono hA hB.size))
    have HO3:=zH hO3
    have HSTP:=zH hst
    have hpl:=HPRL.out k
    have hpl2:(P k).length<=300000:=hpl
    have HPL:=zH hpl2
    have HEL:=zH hel
    clear hst hv hE2 hsh hnl hel hA hO3 hW3 hO hB hkl hpl hpl2
    go_wp2_with fail
    rw [HW3.out]
    refine (HE.out _).mono ?_;rintro e x4 ⟨y4,rfl,ho4,hc4⟩
    obtain⟨a4,c4,hy4,hs4,-⟩:=ho4.sl
    subst hy4
    have HS4:=zH hs4
    have HO4:=zH (HO3.out.ext hc4)
    have HB4:=zH (HB3.out.trans (hc4.mono HB3.out.size))
    clear ho4 hs4 hc4
    go_wp2_with (at_builtin;refine za_d rfl _ _ rfl w.heap.size _ (P k) rfl HO4.out a4 _ c4 E2 rfl HS4.out (by have:=HPL.out;have:=HEL.out;omega) HB4.out.size ?_;intro v5 w5 ho5 hg5 _)
    go_roundw
    case rel=>exact⟨k+1,by omega,by go_num,by rw [HSTP.out];exact ho5,HB4.out.grown hg5 HB4.out.size (fun j hj=>(HO4.out.lt j hj).1)⟩
    case measure=>simp [intOf];omega
   ·obtain rfl:k=n:=by omega
    rw [HPRE.out] at hO
    have HOF:=zH hO
    clear hO
    go_wp2_with fail
    go_ret2
    exact SEncP.good HVB.out rfl HOF.out hB
end
section
open Go.RowKit
variable {b:List UInt8} {K c j m n n1 n2 v1 v2:Nat} {L R acc:List Pin} {w w':World} {x z:Int} {e:Ending} {p:Pin} {a:Option Addr}
namespace Snap
theorem dec_a {z1:Int} (h1:Wire.dec b=(v1,n1,z1)) (hz:z1 ≠ 0):dec b=((0,[]),z1):=by unfold dec;rw [h1];exact if_pos hz
theorem dec_b {z2:Int} (h1:Wire.dec b=(v1,n1,0)) (h2:Wire.dec (b.drop n1)=(v2,n2,z2)) (hz:z2 ≠ 0):dec b=((0,[]),z2):=by unfold dec;rw [h1];dsimp only;rw [h2];exact (if_neg (by simp)).trans (if_pos hz)
theorem zl_r (h1:Wire.dec b=(v1,n1,0)) (h2:Wire.dec (b.drop n1)=(v2,n2,0)):dec b=decR b v1 v2 (n1+n2):=by unfold dec;rw [h1];dsimp only;rw [h2];exact (if_neg (by simp)).trans (if_neg (by simp))
theorem dec_c (h1:Wire.dec b=(v1,n1,0)) (h2:Wire.dec (b.drop n1)=(v2,n2,0)) (hv:1000 < v2):dec b=((0,[]),3):=by rw [zl_r h1 h2];unfold decR;exact if_pos hv
theorem dec_d (h1:Wire.dec b=(v1,n1,0)) (h2:Wire.dec (b.drop n1)=(v2,n2,0)) (hv:¬ 1000 < v2) (h3:pins b v2 (n1+n2) []=(R,m,z)) (hz:z ≠ 0):dec b=((0,[]),z):=by
 rw [zl_r h1 h2];unfold decR;rw [h3];exact (if_neg hv).trans (if_pos hz)
theorem dec_e (h1:Wire.dec b=(v1,n1,0)) (h2:Wire.dec (b.drop n1)=(v2,n2,0)) (hv:¬ 1000 < v2) (h3:pins b v2 (n1+n2) []=(R,m,0)) (hm:m < b.length):dec b=((0,[]),6):=by
 rw [zl_r h1 h2];unfold decR;rw [h3];exact (if_neg hv).trans ((if_neg (by simp)).trans (if_pos hm))
theorem dec_f (h1:Wire.dec b=(v1,n1,0)) (h2:Wire.dec (b.drop n1)=(v2,n2,0)) (hv:¬ 1000 < v2) (h3:pins b v2 (n1+n2) []=(R,m,0)) (hm:¬ m < b.length) (hc:1099511627776 < v1):dec b=((0,[]),2):=by
 rw [zl_r h1 h2];unfold decR;rw [h3];exact (if_neg hv).trans ((if_neg (by simp)).trans ((if_neg hm).trans (if_pos hc)))
theorem dec_g (h1:Wire.dec b=(v1,n1,0)) (h2:Wire.dec (b.drop n1)=(v2,n2,0)) (hv:¬ 1000 < v2) (h3:pins b v2 (n1+n2) []=(R,m,0)) (hm:¬ m < b.length) (hc:¬ 1099511627776 < v1) (hs:Upt.stValid (v1:Int) R=false):dec b=((0,[]),8):=by
 rw [zl_r h1 h2];unfold decR;rw [h3];exact (if_neg hv).trans ((if_neg (by simp)).trans ((if_neg hm).trans ((if_neg hc).trans (if_pos hs))))
theorem dec_h (h1:Wire.dec b=(v1,n1,0)) (h2:Wire.dec (b.drop n1)=(v2,n2,0)) (hv:¬ 1000 < v2) (h3:pins b v2 (n1+n2) []=(R,m,0)) (hm:¬ m < b.length) (hc:¬ 1099511627776 < v1) (hs:Upt.stValid (v1:Int) R=true):dec b=(((v1:Int),R),0):=by
 rw [zl_r h1 h2];unfold decR;rw [h3];exact (if_neg hv).trans ((if_neg (by simp)).trans ((if_neg hm).trans ((if_neg hc).trans (if_neg (by rw [hs];decide)))))
theorem pins_err (h:Pin.dec (b.drop K)=(p,m,z)) (hz:z ≠ 0):pins b (j+1) K acc=([],0,z):=by unfold pins;rw [h];exact if_pos hz
theorem pins_go (h:Pin.dec (b.drop K)=(p,m,0)):pins b (j+1) K acc=pins b j (K+m) (acc ++ [p]):=by rw [pins];rw [h];exact if_neg (by simp)
theorem pins_host {k:Nat} (hk:k<=b.length) (h:pins b n k []=(R,m,0)):(∀ p ∈ R,p.h.length<=253)/\R.length=n:=by
 obtain⟨L,h1,h2,h3,-,-,-⟩:=zh_b n b k [] R m hk h
 rw [List.nil_append] at h1
 subst h1
 exact⟨fun p hp=>Pin.name_len ((Pin.valid_iff p).1 (h3 p hp)).1,h2⟩
end Snap
def SDecN (b:List UInt8) (w:World) (e:Ending) (w':World):Prop:=∃ a c,e=.returned (.tuple #[.agg #[.int .i64 (Snap.dec b).1.1,.slice a (Snap.dec b).1.2.length c],.int .i64 (Snap.dec b).2])/\SlN w' a (Snap.dec b).1.2.length c (Snap.dec b).1.2/\Ext w w'/\∀ x,a=some x->w.heap.size<=x.block
theorem SDecN.bad (h:Snap.dec b=((0,[]),z)) (he:e=.returned (.tuple #[.agg #[.int .i64 0,.slice none 0 0],z])) (hb:Ext w w'):SDecN b w e w':=by
 unfold SDecN;rw [h];exact⟨none,0,he,SlN.nil _,hb,fun x hx=>by cases hx⟩
theorem SDecN.good (h:Snap.dec b=((x,L),0)) (hn:L.length=n) (he:e=.returned (.tuple #[.agg #[x,.slice a n c],.int .i64 0])) (hs:SlN w' a n c L) (hb:Ext w w') (hnw:∀ x,a=some x->w.heap.size<=x.block):SDecN b w e w':=by
 subst hn;unfold SDecN;rw [h];exact⟨a,c,he,hs,hb,hnw⟩
theorem SlN.setOldS (h:SlN w a n c L) {B:Nat} {v:Value} (hr:SBox w B x v) (i j:Nat) (p q:Value):SlN ((w.setCell (B i) p).setCell (B j) q) a n c L:=by
 have key:∀ y,a=some y->L ≠ []->y.block ≠ B:=by
  intro y hy hl e
  cases L with
 |nil=>exact hl rfl
 |cons p0 L0 =>
   obtain⟨hsp,hb,hp⟩:=h.2.2.2.2 y hy 0 (by simp)
   obtain⟨yb,yo,ys⟩:=y
   simp only at e hsp hp
   subst e
   have h0:=hp.1
   have h2:=hp.2.2
   rw [cell_of_row _ _ _ _ _ _ hr] at h0 h2
   have hb2:=(Array.getElem?_eq_some_iff.1 h2).1
   simp at hb2
   omega
 have one:∀ (W:World),SlN W a n c L->∀ k u,SlN (W.setCell (B k) u) a n c L:=fun W hW k u =>
  hW.stay (fun y hy hl=>heap_setCell_other _ _ _ _ (key y hy hl)) (by simp)
 exact one _ (one _ h i p) j q
end
end Go.Proofs.YtmanejniepghlaaGreatDoor
