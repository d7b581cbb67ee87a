import Derived.Test.YtmanejniepghlaaGreatDoorRun2
import Derived.Test.YtmanejniepghlaaGreatDoorRun32
import Derived.Test.YtmanejniepghlaaGreatDoorChecked
import Derived.Lib.Strings
import Derived.Lib.Slices
import Derived.Lib.Small
import Derived.Lib.Walk
import Derived.Lib.BitFns
namespace Go.Proofs.YtmanejniepghlaaGreatDoor
section
open Go.RowKit
variable {L:List Pin} {ck:Int} {w w':World} {e:Ending} {c n:Nat}
def SEncP (ck:Int) (L:List Pin) (w:World) (e:Ending) (w':World):Prop:=∃ v,e=.returned (.tuple #[v,.int .i64 (if Upt.stValid ck L then 0 else 1)])/\OwnB w.heap.size w' v (if Upt.stValid ck L then Snap.enc ck L else [])/\Ext w w'
theorem SEncP.bad (h:Upt.stValid ck L=false) (he:e=.returned (.tuple #[.slice none 0 0,.int .i64 1])) (hb:Ext w w'):SEncP ck L w e w':=by
 unfold SEncP;rw [h];exact⟨_,he,OwnB.nil _ _,hb⟩
theorem SEncP.good (h:Upt.stValid ck L=true) {v:Value} (he:e=.returned (.tuple #[v,.int .i64 0])) (ho:OwnB w.heap.size w' v (Snap.enc ck L)) (hb:Ext w w'):SEncP ck L w e w':=by
 unfold SEncP;rw [h];exact⟨_,he,ho,hb⟩
theorem SlB.none0 (w:World):SlB w none 0 0 []:=⟨rfl,zN _,by unfold maxLen;omega,fun _=>⟨rfl,rfl⟩,fun x hx=>by cases hx⟩
namespace Snap
def pre (c n:Nat) (L:List Pin) (k:Nat):List UInt8:=(Wire.enc c ++ Wire.enc n) ++ (L.take k).flatMap Pin.enc
theorem pre_zero (c n:Nat) (L:List Pin):pre c n L 0=Wire.enc c ++ Wire.enc n:=by unfold pre;simp
theorem pre_succ {k:Nat} (hk:k < L.length):pre c n L (k+1)=pre c n L k ++ Pin.enc L[k]:=by
 unfold pre;rw [zn_n hk,List.append_assoc,List.append_assoc,List.append_assoc]
theorem pre_end (c:Nat) (L:List Pin):pre c L.length L L.length=enc c L:=by
 unfold pre enc;rw [List.take_of_length_le (zN _),Int.toNat_natCast,List.append_assoc]
theorem pre_len (hc:c < 18446744073709551616) (hn:n < 18446744073709551616) (hl:L.length<=1000) (h:∀ p ∈ L,Pin.valid p=true) (k:Nat):(pre c n L k).length<=300000:=by
 have h1:=Wire.enc_len hc
 have h2:=Wire.enc_len hn
 have h3:=zg_v (L.take k) (fun p hp=>h p (List.mem_of_mem_take hp))
 rw [List.length_take] at h3
 unfold pre
 simp only [List.length_append]
 omega
end Snap
set_option maxHeartbeats 8000000 in
set_option maxRecDepth 100000 in
theorem zi_u (ck:Int) (a:Option Addr) (n c:Nat) (L:List Pin) (w:World) (h:SlN w a n c L) (hL:∀ p ∈ L,p.h.length<=1000000) :
 Calls Tryz.prog 46 #[.agg #[.int .i64 ck,.slice a n c]] w (SEncP ck L w):=by
 have hb0:=(Below.refl w.heap.size w).alloc (zN _) (.cells #[.int .i64 ck,.slice a n c] 44)
 have hs0:=SBox.new w ck (.slice a n c)
 have HLN:=zH h.len
 have HSLW:=zH h
 have HV:=zH (fun W (hs:SlN W a n c L)=>zb_w ck a n c L W hs hL)
 have HST:=zH (fun (e:Upt.stValid ck L=true)=>(Upt.stValid_iff ck L).1 e)
 obtain⟨vb,hvb⟩:∃ vb,Upt.stValid ck L=vb:=⟨_,rfl⟩
 rw [hvb] at HV
 have HVB:=zH hvb
 obtain⟨W0,hW0⟩:∃ W0,w.alloc (.cells #[.int .i64 ck,.slice a n c] 44)=W0:=⟨_,rfl⟩
 rw [hW0] at hb0 hs0
 have HW0:=zH hW0
 have HB0:=zH hb0
 have HS0:=zH hs0
 clear hvb hW0 hb0 hs0 h
 cases vb with
|false =>
  go_enter Tryz.func46,Tryz.ntmps46
  go_wp2_with fail
  rw [HW0.out]
  refine (HV.out _ (HSLW.out.ext HB0.out)).mono ?_;rintro e w1 ⟨rfl,hb1⟩
  go_wp2_with fail
  go_ret2
  exact SEncP.bad HVB.out rfl (HB0.out.trans (Below.mono hb1 HB0.out.size))
|true =>
  obtain⟨v1,v2,v3,v4,-⟩:=HST.out HVB.out
  have HV4:=zH v4
  obtain⟨cn,rfl⟩:∃ cn:Nat,ck=(cn:Int):=⟨ck.toNat,by omega⟩
  have hln:=HLN.out
  have v3':n<=1000:=by omega
  have HA1:=zH (fun W=>zb_f none 0 0 [] cn (cn:Int) rfl (by omega) W (SlB.none0 W) (by omega))
  have HA2:=zH (fun a1 m1 c1 W (hs:SlB W a1 m1 c1 (Wire.enc cn)) (hm:m1<=1000000)=>zb_f a1 m1 c1 (Wire.enc cn) n (n:Int) rfl (by omega) W hs hm)
  have hl1:=Wire.enc_len (v:=cn) (by omega)
  have HPR0:=zH (Snap.pre_zero cn n L)
  have HPRE:=zH (show Snap.pre cn n L n=Snap.enc (cn:Int) L by rw [<-hln];exact Snap.pre_end cn L)
  have HPRS:=zH (fun k (hk:k < L.length)=>Snap.pre_succ (c:=cn) (n:=n) hk)
  have HPRL:=zH (Snap.pre_len (c:=cn) (n:=n) (L:=L) (by omega) (by omega) (by omega) v4)
  have wc:IntKind.u64.wrap (cn:Int)=(cn:Int):=by rw [IntKind.wrap_u64];omega
  have wn:IntKind.u64.wrap (n:Int)=(n:Int):=by rw [IntKind.wrap_u64];omega
  simp only [List.nil_append] at HA1
  obtain⟨E1,hE1⟩:∃ E,Wire.enc cn=E:=⟨_,rfl⟩
  rw [hE1] at HA1 HA2 hl1 HPR0
  obtain⟨m1,hm1⟩:∃ m,E1.length=m:=⟨_,rfl⟩
  have HM1:=zH hm1
  rw [hm1] at hl1
  obtain⟨-,hl2⟩:=hl1
  generalize hPP:Snap.pre cn n L=P at *
  clear hE1 hm1 hPP v4 v1 v2 v3 hln HST
  go_enter Tryz.func46,Tryz.ntmps46
  go_wp2_with fail
  rw [HW0.out]
  refine (HV.out _ (HSLW.out.ext HB0.out)).mono ?_;rintro e w1 ⟨rfl,hb1⟩
  have hB1:=HB0.out.trans (Below.mono hb1 HB0.out.size)
  have HB1:=zH hB1
  have HS1:=zH (HS0.out.ext hb1)
  have HKS:=zH (show ∀ W,Ext w1 W->Ext w1 W/\W.cell? ⟨w.heap.size,0,none⟩=some (.int .i64 (cn:Int))/\W.cell? ⟨w.heap.size,1,none⟩=some (.slice a n c)/\w.heap.size < W.heap.size from fun W e=>⟨e,(HS1.out.ext e).cells.1,(HS1.out.ext e).cells.2,za_a (HS1.out.ext e)⟩)
  clear hb1 hB1
  obtain⟨-,q0,q1,q2⟩:=HKS.out _ (Ext.refl _)
  go_wp2_with fail
  go_region_held3 (fun W=>Ext w1 W/\W.cell? ⟨w.heap.size,0,none⟩=some (.int .i64 (cn:Int))/\W.cell? ⟨w.heap.size,1,none⟩=some (.slice a n c)/\w.heap.size < W.heap.size) (first|assumption|exact HKS.out _ (Ext.drew (Ext.refl _))|exact HKS.out _ (Ext.step (by assumption) (And.left (by assumption)))) (first|(go_at_call_of 102 (Value.slice none 0 0);go_must (refine (HA1.out _).mono ?_);rintro e x1 ⟨y1,rfl,ho1,hc1⟩;obtain⟨a1,c1,hy1,hs1,-⟩:=ho1.sl;rw [HM1.out] at hs1 hy1;subst hy1;have HX1:=zH hs1;clear ho1 hs1)|(go_at_call 102;go_must (refine (HA2.out _ _ _ _ HX1.out (by omega)).mono ?_);rintro e x2 ⟨y2,rfl,ho2,hc2⟩))
  have hfin:Ext w1 x2:=And.left (by assumption)
  have HB2:=zH (show Below w.heap.size w x2 from HB1.out.trans (hfin.mono HB1.out.size))
  have HO2:=zH (ho2.mono (b':=w.heap.size) (by have h1:=HB1.out.size;have h2:=hc1.size;exact Nat.le_trans h1 h2))
  rw [<-HPR0.out] at HO2
  clear q0 q1 q2
  obtain⟨-,q0,q1,q2⟩:=HKS.out _ hfin
  clear hfin ho2 hc2 hc1
  go_wp2_with fail
  go_loopw [4,24] (fun b i wr=>∃ k:Nat,k<=n/\i=.int .i64 (k:Nat)/\OwnB w.heap.size wr b (P k)/\Below w.heap.size w wr) (fun _ i _=>n - (intOf i).toNat)
  case atStart=>exact⟨0,Nat.zero_le _,rfl,HO2.out,HB2.out⟩
  case round =>
   obtain⟨k,hk,rfl,hO,hB⟩:=hrel
   have i0:(0:Int)<=(k:Int):=by omega
   by_cases hlt:k < n
   ·have i2:(k:Int) < (n:Int):=by omega
    obtain⟨bb,o,rfl,hbb,hkl,d1,d2,d3⟩:=(HSLW.out.ext hB).at hlt
    rw [List.getElem?_eq_getElem hkl,Option.getD_some] at d1 d2 d3
    have hst:=HPRS.out k hkl
    have hv:=HV4.out _ (List.getElem_mem hkl)
    generalize L[k]=p at *
    have hnl:=Pin.name_len ((Pin.valid_iff p).1 hv).1
    have hel:=(Pin.enc_len hv).1
    have HE:=zH (fun W=>zh_u p (by omega) W)
    unfold PEncP at HE
    rw [hv] at HE
    simp only [↓reduceIte] at HE
    obtain⟨E2,hE2⟩:∃ E,Pin.enc p=E:=⟨_,rfl⟩
    rw [hE2] at HE hst hel
    unfold pv at HE
    obtain⟨sh,hsh⟩:∃ s,str p.h=s:=⟨_,rfl⟩
    rw [hsh] at HE d1
    generalize p.s=ps at *
    generalize p.x=px at *
    have hA:=(Ext.refl wr).alloc (.cells #[.string sh,.bool ps,.int .i64 px] 34)
    have hO3:=hO.ext hA
    obtain⟨W3,hW3⟩:∃ W3,wr.alloc (.cells #[.string sh,.bool ps,.int .i64 px] 34)=W3:=⟨_,rfl⟩
    rw [hW3] at hA hO3
    have HW3:=zH hW3
    have HB3:=zH (hB.trans (Below.mono hA hB.size))
    have HO3:=zH hO3
    have HSTP:=zH hst
    have hpl:=HPRL.out k
    have hpl2:(P k).length<=300000:=hpl
    have HPL:=zH hpl2
    have HEL:=zH hel
    clear hst hv hE2 hsh hnl hel hA hO3 hW3 hO hB hkl hpl hpl2
    go_wp2_with fail
    rw [HW3.out]
    refine (HE.out _).mono ?_;rintro e x4 ⟨y4,rfl,ho4,hc4⟩
    obtain⟨a4,c4,hy4,hs4,-⟩:=ho4.sl
    subst hy4
    have HS4:=zH hs4
    have HO4:=zH (HO3.out.ext hc4)
    have HB4:=zH (HB3.out.trans (hc4.mono HB3.out.size))
    clear ho4 hs4 hc4
    go_wp2_with (at_builtin;refine za_e rfl _ _ rfl w.heap.size _ (P k) rfl HO4.out a4 _ c4 E2 rfl HS4.out (by have:=HPL.out;have:=HEL.out;omega) HB4.out.size ?_;intro v5 w5 ho5 hg5 _)
    go_roundw
    case rel=>exact⟨k+1,by omega,by go_num,by rw [HSTP.out];exact ho5,HB4.out.grown hg5 HB4.out.size (fun j hj=>(HO4.out.lt j hj).1)⟩
    case measure=>simp [intOf];omega
   ·obtain rfl:k=n:=by omega
    rw [HPRE.out] at hO
    have HOF:=zH hO
    clear hO
    go_wp2_with fail
    go_ret2
    exact SEncP.good HVB.out rfl HOF.out hB
end
section
open Go.RowKit
variable {b:List UInt8} {K c j m n n1 n2 v1 v2:Nat} {L R acc:List Pin} {x z:Int} {w w':World} {p:Pin} {e:Ending} {a:Option Addr}
namespace Snap
theorem dec_a {z1:Int} (h1:Wire.dec b=(v1,n1,z1)) (hz:z1 ≠ 0):dec b=((0,[]),z1):=by unfold dec;rw [h1];exact if_pos hz
theorem dec_b {z2:Int} (h1:Wire.dec b=(v1,n1,0)) (h2:Wire.dec (b.drop n1)=(v2,n2,z2)) (hz:z2 ≠ 0):dec b=((0,[]),z2):=by unfold dec;rw [h1];dsimp only;rw [h2];exact (if_neg (by simp)).trans (if_pos hz)
theorem zl_x (h1:Wire.dec b=(v1,n1,0)) (h2:Wire.dec (b.drop n1)=(v2,n2,0)):dec b=decR b v1 v2 (n1+n2):=by unfold dec;rw [h1];dsimp only;rw [h2];exact (if_neg (by simp)).trans (if_neg (by simp))
theorem dec_c (h1:Wire.dec b=(v1,n1,0)) (h2:Wire.dec (b.drop n1)=(v2,n2,0)) (hv:1000 < v2):dec b=((0,[]),3):=by rw [zl_x h1 h2];unfold decR;exact if_pos hv
theorem dec_d (h1:Wire.dec b=(v1,n1,0)) (h2:Wire.dec (b.drop n1)=(v2,n2,0)) (hv:¬ 1000 < v2) (h3:pins b v2 (n1+n2) []=(R,m,z)) (hz:z ≠ 0):dec b=((0,[]),z):=by
 rw [zl_x h1 h2];unfold decR;rw [h3];exact (if_neg hv).trans (if_pos hz)
theorem dec_e (h1:Wire.dec b=(v1,n1,0)) (h2:Wire.dec (b.drop n1)=(v2,n2,0)) (hv:¬ 1000 < v2) (h3:pins b v2 (n1+n2) []=(R,m,0)) (hm:m < b.length):dec b=((0,[]),6):=by
 rw [zl_x h1 h2];unfold decR;rw [h3];exact (if_neg hv).trans ((if_neg (by simp)).trans (if_pos hm))
theorem dec_f (h1:Wire.dec b=(v1,n1,0)) (h2:Wire.dec (b.drop n1)=(v2,n2,0)) (hv:¬ 1000 < v2) (h3:pins b v2 (n1+n2) []=(R,m,0)) (hm:¬ m < b.length) (hc:1099511627776 < v1):dec b=((0,[]),2):=by
 rw [zl_x h1 h2];unfold decR;rw [h3];exact (if_neg hv).trans ((if_neg (by simp)).trans ((if_neg hm).trans (if_pos hc)))
theorem dec_g (h1:Wire.dec b=(v1,n1,0)) (h2:Wire.dec (b.drop n1)=(v2,n2,0)) (hv:¬ 1000 < v2) (h3:pins b v2 (n1+n2) []=(R,m,0)) (hm:¬ m < b.length) (hc:¬ 1099511627776 < v1) (hs:Upt.stValid (v1:Int) R=false):dec b=((0,[]),8):=by
 rw [zl_x h1 h2];unfold decR;rw [h3];exact (if_neg hv).trans ((if_neg (by simp)).trans ((if_neg hm).trans ((if_neg hc).trans (if_pos hs))))
theorem dec_h (h1:Wire.dec b=(v1,n1,0)) (h2:Wire.dec (b.drop n1)=(v2,n2,0)) (hv:¬ 1000 < v2) (h3:pins b v2 (n1+n2) []=(R,m,0)) (hm:¬ m < b.length) (hc:¬ 1099511627776 < v1) (hs:Upt.stValid (v1:Int) R=true):dec b=(((v1:Int),R),0):=by
 rw [zl_x h1 h2];unfold decR;rw [h3];exact (if_neg hv).trans ((if_neg (by simp)).trans ((if_neg hm).trans ((if_neg hc).trans (if_neg (by rw [hs];decide)))))
theorem pins_err (h:Pin.dec (b.drop K)=(p,m,z)) (hz:z ≠ 0):pins b (j+1) K acc=([],0,z):=by unfold pins;rw [h];exact if_pos hz
theorem pins_go (h:Pin.dec (b.drop K)=(p,m,0)):pins b (j+1) K acc=pins b j (K+m) (acc ++ [p]):=by rw [pins];rw [h];exact if_neg (by simp)
theorem pins_host {k:Nat} (hk:k<=b.length) (h:pins b n k []=(R,m,0)):(∀ p ∈ R,p.h.length<=253)/\R.length=n:=by
 obtain⟨L,h1,h2,h3,-,-,-⟩:=zg_x n b k [] R m hk h
 rw [List.nil_append] at h1
 subst h1
 exact⟨fun p hp=>Pin.name_len ((Pin.valid_iff p).1 (h3 p hp)).1,h2⟩
end Snap
def SDecN (b:List UInt8) (w:World) (e:Ending) (w':World):Prop:=∃ a c,e=.returned (.tuple #[.agg #[.int .i64 (Snap.dec b).1.1,.slice a (Snap.dec b).1.2.length c],.int .i64 (Snap.dec b).2])/\SlN w' a (Snap.dec b).1.2.length c (Snap.dec b).1.2/\Ext w w'/\∀ x,a=some x->w.heap.size<=x.block
theorem SDecN.bad (h:Snap.dec b=((0,[]),z)) (he:e=.returned (.tuple #[.agg #[.int .i64 0,.slice none 0 0],.int .i64 z])) (hb:Ext w w'):SDecN b w e w':=by
 unfold SDecN;rw [h];exact⟨none,0,he,SlN.nil _,hb,fun x hx=>by cases hx⟩
theorem SDecN.good (h:Snap.dec b=((x,L),0)) (hn:L.length=n) (he:e=.returned (.tuple #[.agg #[.int .i64 x,.slice a n c],.int .i64 0])) (hs:SlN w' a n c L) (hb:Ext w w') (hnw:∀ x,a=some x->w.heap.size<=x.block):SDecN b w e w':=by
 subst hn;unfold SDecN;rw [h];exact⟨a,c,he,hs,hb,hnw⟩
theorem SlN.setOldS (h:SlN w a n c L) {B:Nat} {v:Value} (hr:SBox w B x v) (i j:Nat) (p q:Value):SlN ((w.setCell ⟨B,i,none⟩ p).setCell ⟨B,j,none⟩ q) a n c L:=by
 have key:∀ y,a=some y->L ≠ []->y.block ≠ B:=by
  intro y hy hl e
  cases L with
 |nil=>exact hl rfl
 |cons p0 L0 =>
   obtain⟨hsp,hb,hp⟩:=h.2.2.2.2 y hy 0 (by simp)
   obtain⟨yb,yo,ys⟩:=y
   simp only at e hsp hp
   subst e
   have h0:=hp.1
   have h2:=hp.2.2
   rw [cell_of_row _ _ _ _ _ _ hr] at h0 h2
   have hb2:=(Array.getElem?_eq_some_iff.1 h2).1
   simp at hb2
   omega
 have one:∀ (W:World),SlN W a n c L->∀ k u,SlN (W.setCell ⟨B,k,none⟩ u) a n c L:=fun W hW k u =>
  hW.stay (fun y hy hl=>heap_setCell_other _ _ _ _ (key y hy hl)) (by simp)
 exact one _ (one _ h i p) j q
set_option maxHeartbeats 16000000 in
set_option maxRecDepth 100000 in
theorem zd_o (a:Option Addr) (n c:Nat) (b:List UInt8) (w:World) (h:SlB w a n c b) (hn:n<=100000) :
 Calls Tryz.prog 158 #[.slice a n c] w (SDecN b w):=by
 have hb0:=(Below.refl w.heap.size w).alloc (zN _) (.cells #[.int .i64 0,.slice none 0 0] 44)
 have hs0:=SBox.new w 0 (.slice none 0 0)
 have hsb:=h.ext hb0
 have hln:=h.len
 obtain⟨W0,hW0⟩:∃ W0,w.alloc (.cells #[.int .i64 0,.slice none 0 0] 44)=W0:=⟨_,rfl⟩
 have hz0:W0.heap.size=w.heap.size+1:=by rw [<-hW0];simp
 rw [hW0] at hb0 hs0 hsb
 have HW0:=zH hW0
 have HB0:=zH hb0
 have HS0:=zH hs0
 have HZ0:=zH hz0
 have HSB:=zH hsb
 have HRET:=zH (show ∀ W,Ext W0 W->Ext w ((W.setCell ⟨w.heap.size,0,none⟩ (.int .i64 0)).setCell ⟨w.heap.size,1,none⟩ (.slice none 0 0)) from fun W e =>
  (((HB0.out.trans (Below.mono e HB0.out.size)).setCell (p:=⟨w.heap.size,0,none⟩) (zN _) _).setCell (p:=⟨w.heap.size,1,none⟩) (zN _) _))
 have HCL:=zH (show ∀ W,Ext W0 W->W.cell? ⟨w.heap.size,0,none⟩=some (.int .i64 0)/\W.cell? ⟨w.heap.size,1,none⟩=some (.slice none 0 0)/\w.heap.size < W.heap.size/\(∀ j,W.frozen? ⟨w.heap.size,j,none⟩=false) from fun W e=>⟨(HS0.out.ext e).cells.1,(HS0.out.ext e).cells.2,za_a (HS0.out.ext e),(HS0.out.ext e).frz'⟩)
 have HT:=zH (zf_n a n c b W0 hsb (by omega))
 obtain⟨v1,n1,z1,h1⟩:∃ v1 n1 z1,Wire.dec b=(v1,n1,z1):=⟨_,_,_,rfl⟩
 rw [h1] at HT
 dsimp only at HT
 clear hW0 hb0 hs0 hz0 h
 obtain⟨q0,q1,q2,q3⟩:=HCL.out _ (Ext.refl _)
 by_cases e1:z1 ≠ 0
 ·have HR:=zH (Snap.dec_a h1 e1)
  have t1:(z1 != 0)=true:=by simpa using e1
  have t2:(z1 == 0)=false:=by simpa using e1
  clear h1 e1 hln hsb
  go_enter Tryz.func158,Tryz.ntmps158
  go_wp2_with fail
  rw [HW0.out]
  refine HT.out.mono ?_;rintro e w1 ⟨rfl,rfl⟩
  go_wp2_with fail
  have hfin:=(HS0.out.ext (Ext.refl _)).set2' 0 (.slice none 0 0)
  have d0:=hfin.cells.1
  have d1:=hfin.cells.2
  refine bodyPost_ret (v:=.tuple #[.agg #[.int .i64 0,.slice none 0 0],.int .i64 z1]) (by simp [results,Tryz.results158,go_sem,d0,d1]) rfl (SDecN.bad HR.out rfl ?_)
  exact HRET.out _ (Ext.refl _)
 obtain rfl:z1=0:=by simpa using e1
 obtain⟨-,r1,r2,r3,r4⟩:=Wire.enc_dec h1
 rw [hln] at r1
 have hl1:(b.drop n1).length=n - n1:=by rw [List.length_drop,hln]
 obtain⟨v2,n2,z2,h2⟩:∃ v2 n2 z2,Wire.dec (b.drop n1)=(v2,n2,z2):=⟨_,_,_,rfl⟩
 have HU:=zH (show ∀ a2 c2 W,SlB W a2 (n - n1) c2 (b.drop n1)->Calls Tryz.prog 185 #[.slice a2 (n - n1) c2] W fun e w'=>e=.returned (.tuple #[.int .u64 (v2:Nat),.int .i64 (n2:Nat),.int .i64 z2])/\W=w' from fun a2 c2 W hs=>by
  have:=zf_n a2 (n - n1) c2 (b.drop n1) W hs (by omega)
  rw [h2] at this;exact this)
 have m1:(0:Int)<=(n1:Int):=by omega
 have m2:(n1:Int)<=(n:Int):=by omega
 have n10:((0:Nat):Int)=0:=rfl
 clear n10
 by_cases e2:z2 ≠ 0
 ·have HR:=zH (Snap.dec_b h1 h2 e2)
  have t1:(z2 != 0)=true:=by simpa using e2
  have t2:(z2 == 0)=false:=by simpa using e2
  clear h1 h2 e1 e2 hln hl1
  go_enter Tryz.func158,Tryz.ntmps158
  go_wp2_with fail
  rw [HW0.out]
  refine HT.out.mono ?_;rintro e w1 ⟨rfl,rfl⟩
  go_wp2_with (refine za_j rfl _ _ rfl rfl n1 _ rfl rfl hsb r1 ?_;intro a2 hsa2)
  refine (HU.out _ _ _ hsa2).mono ?_;rintro e w2 ⟨rfl,rfl⟩
  go_wp2_with fail
  have hfin:=(HS0.out.ext (Ext.refl _)).set2' 0 (.slice none 0 0)
  have d0:=hfin.cells.1
  have d1:=hfin.cells.2
  refine bodyPost_ret (v:=.tuple #[.agg #[.int .i64 0,.slice none 0 0],.int .i64 z2]) (by simp [results,Tryz.results158,go_sem,d0,d1]) rfl (SDecN.bad HR.out rfl ?_)
  exact HRET.out _ (Ext.refl _)
 obtain rfl:z2=0:=by simpa using e2
 obtain⟨-,s1,s2,s3,s4⟩:=Wire.enc_dec h2
 rw [hl1] at s1
 have m3:(0:Int)<=(n2:Int):=by omega
 have m4:(n1:Int)+(n2:Int)<=(n:Int):=by omega
 by_cases e3:1000 < v2
 ·have HR:=zH (Snap.dec_c h1 h2 e3)
  have t3:(1000:Int) < (v2:Int):=by omega
  clear h1 h2 e1 e2 e3 hln hl1
  go_enter Tryz.func158,Tryz.ntmps158
  go_wp2_with fail
  rw [HW0.out]
  refine HT.out.mono ?_;rintro e w1 ⟨rfl,rfl⟩
  go_wp2_with (refine za_j rfl _ _ rfl rfl n1 _ rfl rfl hsb r1 ?_;intro a2 hsa2)
  refine (HU.out _ _ _ hsa2).mono ?_;rintro e w2 ⟨rfl,rfl⟩
  go_wp2_with fail
  have hfin:=(HS0.out.ext (Ext.refl _)).set2' 0 (.slice none 0 0)
  have d0:=hfin.cells.1
  have d1:=hfin.cells.2
  refine bodyPost_ret (v:=.tuple #[.agg #[.int .i64 0,.slice none 0 0],.int .i64 3]) (by simp [results,Tryz.results158,go_sem,d0,d1]) rfl (SDecN.bad HR.out rfl ?_)
  exact HRET.out _ (Ext.refl _)
 have t3:¬ (1000:Int) < (v2:Int):=by omega
 obtain⟨R,hR⟩:∃ R,Snap.pins b v2 (n1+n2) []=R:=⟨_,rfl⟩
 have HD:=zH (show ∀ z,R.2.2=z->z ≠ 0->Snap.dec b=((0,[]),z) from fun z hz h0=>Snap.dec_d (R:=R.1) (m:=R.2.1) h1 h2 e3 (by rw [hR,<-hz]) h0)
 have HE:=zH (show ∀ P m,R=(P,m,0)->m < b.length->Snap.dec b=((0,[]),6) from fun P m hh hm=>Snap.dec_e h1 h2 e3 (hR.trans hh) hm)
 have HF:=zH (show ∀ P m,R=(P,m,0)->¬ m < b.length->1099511627776 < v1->Snap.dec b=((0,[]),2) from fun P m hh hm hc=>Snap.dec_f h1 h2 e3 (hR.trans hh) hm hc)
 have HG:=zH (show ∀ P m,R=(P,m,0)->¬ m < b.length->¬ 1099511627776 < v1->Upt.stValid (v1:Int) P=false->Snap.dec b=((0,[]),8) from fun P m hh hm hc hs=>Snap.dec_g h1 h2 e3 (hR.trans hh) hm hc hs)
 have HH:=zH (show ∀ P m,R=(P,m,0)->¬ m < b.length->¬ 1099511627776 < v1->Upt.stValid (v1:Int) P=true->Snap.dec b=(((v1:Int),P),0) from fun P m hh hm hc hs=>Snap.dec_h h1 h2 e3 (hR.trans hh) hm hc hs)
 have HPH:=zH (show ∀ P m,R=(P,m,0)->(∀ p ∈ P,p.h.length<=253)/\P.length=v2 from fun P m hh=>Snap.pins_host (b:=b) (n:=v2) (k:=n1+n2) (by omega) (hR.trans hh))
 have HLN:=zH hln
 have HC0:=zH hR
 have HSBB:=zH hsb
 have hv2:v2<=1000:=by omega
 have W1':0<=(v2:Int):=by omega
 clear h1 h2 e1 e2 e3 hln hl1 hR
 go_enter Tryz.func158,Tryz.ntmps158
 go_wp2_with fail
 rw [HW0.out]
 refine HT.out.mono ?_;rintro e w1 ⟨rfl,rfl⟩
 go_wp2_with (refine za_j rfl _ _ rfl rfl n1 _ rfl rfl hsb r1 ?_;intro a2 hsa2)
 refine (HU.out _ _ _ hsa2).mono ?_;rintro e w2 ⟨rfl,rfl⟩
 go_wp2_with fail
 clear q0 q1 q2 q3 hsa2
 go_loopw [5,9,45] (fun at_ pi ix wr=>∃ (k K:Nat) (acc:List Pin),ix=.int .u64 (k:Nat)/\acc.length=k/\at_=.int .i64 (K:Nat)/\k<=v2/\K<=n/\Hid (Snap.pins b (v2 - k) K acc=R)/\OwnN W0.heap.size wr pi acc/\Ext W0 wr) (fun at_ pi ix _=>v2 - (intOf ix).toNat)
 case atStart=>exact⟨0,n1+n2,[],rfl,rfl,by go_num,Nat.zero_le _,by omega,HC0,OwnN.nil _ _,Ext.refl _⟩
 case round =>
  obtain⟨k,K,acc,rfl,hv9,rfl,hk,hK,HC,ho,hE⟩:=hrel
  have i0:(0:Int)<=(k:Int):=by omega
  have K0:(0:Int)<=(K:Int):=by omega
  have K1:(K:Int)<=(n:Int):=by omega
  obtain⟨q0,q1,q2,q3⟩:=HCL.out _ hE
  by_cases hlt:k < v2
  ·have i2:(k:Int) < (v2:Int):=by omega
   obtain⟨p,m,z,hp⟩:∃ p m z,Pin.dec (b.drop K)=(p,m,z):=⟨_,_,_,rfl⟩
   have HPD:=zH (show ∀ a3 c3 W,SlB W a3 (n - K) c3 (b.drop K)->Calls Tryz.prog 159 #[.slice a3 (n - K) c3] W fun e w'=>e=.returned (.tuple #[pv p,.int .i64 (m:Nat),.int .i64 z])/\Below W.heap.size W w' from fun a3 c3 W hs=>by
    have:=zi_f a3 (n - K) c3 (b.drop K) W hs (by omega)
    unfold PDecP at this
    rw [hp] at this;exact this)
   have hsK:=HSBB.out.ext hE
   have hst:Snap.pins b ((v2 - (k+1))+1) K acc=R:=by rw [show v2 - (k+1)+1=v2 - k by omega];exact HC.out
   unfold pv at HPD
   obtain⟨ph,ps,px⟩:=p
   simp only at HPD
   obtain⟨sh,hsh⟩:∃ s,str ph=s:=⟨_,rfl⟩
   rw [hsh] at HPD
   by_cases hz:z ≠ 0
   ·have hRe:R.2.2=z:=by rw [<-hst,Snap.pins_err hp hz]
    have HR:=zH (HD.out z hRe hz)
    have t4:(z != 0)=true:=by simpa using hz
    have t5:(z == 0)=false:=by simpa using hz
    have HE9:=zH hE
    have HEE:=zH (show ∀ W3,Below wr.heap.size wr W3->Ext W0 W3 from fun W3 hb=>hE.trans (hb.mono hE.size))
    clear hp hz hst hRe hsh ho hE q0 q1 q2 q3
    go_wp2_with (refine za_j rfl _ _ rfl rfl K _ rfl rfl hsK hK ?_;intro a3 hsa3)
    refine (HPD.out _ _ _ hsa3).mono ?_;rintro e w3 ⟨rfl,hb3⟩
    obtain⟨q0,q1,q2,q3⟩:=HCL.out _ (HEE.out _ hb3)
    clear hsa3
    go_wp2_with fail
    have hE3:Ext W0 w3:=HEE.out _ hb3
    have hfin0:=(HS0.out.ext hE3).set2' 0 (.slice none 0 0)
    have hfin:=(za_c _ (.cells #[.string sh,.bool ps,.int .i64 px] 34) _ (za_a hfin0)).trans hfin0
    have d0:=(cell_of_row _ _ 0 _ _ _ hfin).trans rfl
    have d1:=(cell_of_row _ _ 1 _ _ _ hfin).trans rfl
    refine bodyPost_ret (v:=.tuple #[.agg #[.int .i64 0,.slice none 0 0],.int .i64 z]) (by simp [results,Tryz.results158,go_sem,d0,d1]) rfl (SDecN.bad HR.out rfl ?_)
    exact Ext.alloc (HRET.out _ hE3) _
   ·obtain rfl:z=0:=by simpa using hz
    have hst2:=Snap.pins_go (j:=v2 - (k+1)) (acc:=acc) hp
    rw [hst] at hst2
    obtain⟨pv1,-,pv3⟩:=Pin.enc_dec hp
    rw [List.length_drop,HLN.out] at pv3
    have HST:=zH hst2.symm
    have g1:(0:Int)<=(m:Int):=by omega
    have g2:(K:Int)+(m:Int)<=(n:Int):=by omega
    have HEE:=zH (show ∀ W3,Below wr.heap.size wr W3->Ext W0 W3 from fun W3 hb=>hE.trans (hb.mono hE.size))
    have HO:=zH ho
    have hal:acc.length=k:=hv9
    have HAL:=zH hal
    have HSH:=zH hsh
    clear hp hz hst hst2 hsh ho hE pv1 hal hv9 q0 q1 q2 q3
    go_wp2_with (refine za_j rfl _ _ rfl rfl K _ rfl rfl hsK hK ?_;intro a3 hsa3)
    refine (HPD.out _ _ _ hsa3).mono ?_;rintro e w3 ⟨rfl,hb3⟩
    have hE3:Ext W0 w3:=HEE.out _ hb3
    have hx1:=(Ext.refl w3).alloc (.cells #[.string sh,.bool ps,.int .i64 px] 34)
    have hone:=SlN.one (w3.alloc (.cells #[.string sh,.bool ps,.int .i64 px] 34)) ⟨ph,ps,px⟩ 34
    simp only at hone
    rw [HSH.out] at hone
    have hx2:=hx1.alloc (.cells #[.string sh,.bool ps,.int .i64 px] 34)
    have hzz:(w3.alloc (.cells #[.string sh,.bool ps,.int .i64 px] 34)).heap.size=w3.heap.size+1:=by simp
    rw [hzz] at hone
    have hO5:=(HO.out.ext hb3).ext hx2
    have hE5:Ext W0 ((w3.alloc (.cells #[.string sh,.bool ps,.int .i64 px] 34)).alloc (.cells #[.string sh,.bool ps,.int .i64 px] 34)):=Ext.step hx2 hE3
    obtain⟨W5,hW5⟩:∃ W5,(w3.alloc (.cells #[.string sh,.bool ps,.int .i64 px] 34)).alloc (.cells #[.string sh,.bool ps,.int .i64 px] 34)=W5:=⟨_,rfl⟩
    rw [hW5] at hone hO5 hE5
    have HW5:=zH hW5
    have HON:=zH hone
    have HO5:=zH hO5
    have HE5:=zH hE5
    clear hsa3 hb3 hE3 hx1 hone hx2 hzz hO5 hE5 hW5
    go_wp2_with (rw [HW5.out];at_builtin;refine zb_r rfl _ _ rfl W0.heap.size _ acc rfl HO5.out (some ⟨w3.heap.size+1,0,none⟩) 1 1 [⟨ph,ps,px⟩] rfl HON.out (by rw [HAL.out];omega) HE5.out.size ?_;intro v6 w6 ho6 hg6)
    go_roundw
    case rel=>exact⟨k+1,K+m,acc ++ [⟨ph,ps,px⟩],by go_num,by rw [List.length_append,HAL.out];rfl,by go_num,by omega,by omega,zH HST.out,ho6,HE5.out.grown hg6 HE5.out.size (fun j hj=>(HO5.out.lt j hj).1)⟩
    case measure=>simp [intOf];omega
  ·obtain rfl:k=v2:=by omega
   have hRf:R=(acc,K,0):=by rw [<-HC.out,Nat.sub_self];rfl
   obtain⟨a9,c9,hv,hs9,hn9⟩:=ho.sl
   have HN9:=zH (show ∀ x,a9=some x->w.heap.size<=x.block from fun x hx=>by have h1:=(hn9 x hx).1;have h2:=HZ0.out;omega)
   clear hn9
   rw [hv9] at hv hs9
   subst hv
   have HS9:=zH hs9
   have HEW:=zH hE
   have HRF:=zH hRf
   by_cases hm:K < n
   ·have HR:=zH (HE.out _ _ hRf (by rw [HLN.out];exact hm))
    have t4:(K:Int) < (n:Int):=by omega
    clear hRf ho hv9 hs9
    go_wp2_with fail
    have hfin:=(HS0.out.ext HEW.out).set2' 0 (.slice none 0 0)
    have d0:=hfin.cells.1
    have d1:=hfin.cells.2
    refine bodyPost_ret (v:=.tuple #[.agg #[.int .i64 0,.slice none 0 0],.int .i64 6]) (by simp [results,Tryz.results158,go_sem,d0,d1]) rfl (SDecN.bad HR.out rfl ?_)
    exact HRET.out _ HEW.out
   have t4:¬ (K:Int) < (n:Int):=by omega
   by_cases hc:1099511627776 < v1
   ·have HR:=zH (HF.out _ _ hRf (by rw [HLN.out];exact hm) hc)
    have t5:(1099511627776:Int) < (v1:Int):=by omega
    clear hRf ho hv9 hs9
    go_wp2_with fail
    have hfin:=(HS0.out.ext HEW.out).set2' 0 (.slice none 0 0)
    have d0:=hfin.cells.1
    have d1:=hfin.cells.2
    refine bodyPost_ret (v:=.tuple #[.agg #[.int .i64 0,.slice none 0 0],.int .i64 2]) (by simp [results,Tryz.results158,go_sem,d0,d1]) rfl (SDecN.bad HR.out rfl ?_)
    exact HRET.out _ HEW.out
   have t5:¬ (1099511627776:Int) < (v1:Int):=by omega
   have wv:IntKind.i64.wrap (v1:Int)=(v1:Int):=by rw [IntKind.wrap_i64];omega
   have hV:=fun W (hs:SlN W a9 k c9 acc)=>zb_w (v1:Int) a9 k c9 acc W hs (fun p hp=>by have:=(HPH.out _ _ hRf).1 p hp;omega)
   obtain⟨vb,hvb⟩:∃ vb,Upt.stValid (v1:Int) acc=vb:=⟨_,rfl⟩
   rw [hvb] at hV
   have HV:=zH hV
   have HVB:=zH hvb
   have hal:acc.length=k:=hv9
   have HAL:=zH hal
   have hx7:=(Ext.refl wr).alloc (.cells #[.int .i64 (v1:Int),.slice a9 k c9] 44)
   have hG7:=SBox.new wr (v1:Int) (.slice a9 k c9)
   have hs7:=hs9.ext hx7
   have hE7:Ext W0 (wr.alloc (.cells #[.int .i64 (v1:Int),.slice a9 k c9] 44)):=Ext.step hx7 hE
   obtain⟨W7,hW7⟩:∃ W7,wr.alloc (.cells #[.int .i64 (v1:Int),.slice a9 k c9] 44)=W7:=⟨_,rfl⟩
   rw [hW7] at hG7 hs7 hE7
   have HW7:=zH hW7
   have HG7:=zH hG7
   have HS7:=zH hs7
   have HE7:=zH hE7
   clear hvb hV hal hx7 hG7 hs7 hE7 hW7 ho hv9 hs9 hE
   cases vb with
  |false =>
    have HR:=zH (HG.out _ _ HRF.out (by rw [HLN.out];exact hm) hc HVB.out)
    clear hRf hm hc
    go_wp2_with fail
    rw [HW7.out]
    refine (HV.out _ HS7.out).mono ?_;rintro e w8 ⟨rfl,hb8⟩
    have hE8:Ext W0 w8:=Ext.step hb8 HE7.out
    clear q0 q1 q2 q3
    obtain⟨q0,q1,q2,q3⟩:=HCL.out _ hE8
    go_wp2_with fail
    have hfin:=(HS0.out.ext hE8).set2' 0 (.slice none 0 0)
    have d0:=hfin.cells.1
    have d1:=hfin.cells.2
    refine bodyPost_ret (v:=.tuple #[.agg #[.int .i64 0,.slice none 0 0],.int .i64 8]) (by simp [results,Tryz.results158,go_sem,d0,d1]) rfl (SDecN.bad HR.out rfl ?_)
    exact HRET.out _ hE8
  |true =>
    have HR:=zH (HH.out _ _ HRF.out (by rw [HLN.out];exact hm) hc HVB.out)
    clear hRf hm hc
    go_wp2_with fail
    rw [HW7.out]
    refine (HV.out _ HS7.out).mono ?_;rintro e w8 ⟨rfl,hb8⟩
    have hE8:Ext W0 w8:=Ext.step hb8 HE7.out
    have hG8:=HG7.out.ext hb8
    have HS8:=zH (HS7.out.ext hb8)
    clear q0 q1 q2 q3
    obtain⟨q0,q1,q2,q3⟩:=HCL.out _ hE8
    obtain⟨g0,g1⟩:=hG8.cells
    have g2:=za_a hG8
    go_wp2_with fail
    have hfin:=(HS0.out.ext hE8).set2' (v1:Int) (.slice a9 k c9)
    have d0:=hfin.cells.1
    have d1:=hfin.cells.2
    refine bodyPost_ret (v:=.tuple #[.agg #[.int .i64 (v1:Int),.slice a9 k c9],.int .i64 0]) (by simp [results,Tryz.results158,go_sem,d0,d1]) rfl (SDecN.good HR.out HAL.out rfl (HS8.out.setOldS (HS0.out.ext hE8) _ _ _ _) ?_ HN9.out)
    exact ((HB0.out.trans (Below.mono hE8 HB0.out.size)).setCell (p:=⟨w.heap.size,0,none⟩) (zN _) _).setCell (p:=⟨w.heap.size,1,none⟩) (zN _) _
end
end Go.Proofs.YtmanejniepghlaaGreatDoor
