import Derived.Test.YtmanejniepghlaaGreatDoorRun47
import Derived.Test.YtmanejniepghlaaGreatDoorRun28
import Derived.Test.YtmanejniepghlaaGreatDoorRun4
namespace Go.Proofs.YtmanejniepghlaaGreatDoor
open Go.RowKit
section
variable {F:Nat->Prop} {w w':World} {g sb cb sc:Nat} {fa:Option Addr} {fn fc:Nat} {d d':Disk.Dk}
def XWr (F:Nat->Prop) (w W:World) (g sb cb sc:Nat) (fa:Option Addr) (fn fc:Nat) (f0 o0 e N n:Nat) (R:Int × Disk.Dk) (k:Nat) (v:Value) (wr:World):Prop :=
 ∃ F' l d' a' n' c',Extent.wr f0 o0 e (N - k) k l d'=R/\RD F' wr g sb cb sc fa fn fc d'/\d'.st.length=n/\v=.slice a' n' c'/\SlB wr a' n' c' l/\n'=e - Extent.pos o0 e k/\(∀ y,a'=some y->l ≠ []->y.block < w.heap.size/\¬ F y.block)/\Upd F W F' wr
theorem XWr.ext {W wr w':World} {f0 o0 e N n:Nat} {R:Int × Disk.Dk} {k:Nat} {v:Value} (h:XWr F w W g sb cb sc fa fn fc f0 o0 e N n R k v wr) (hB:Below wr.heap.size wr w'):XWr F w W g sb cb sc fa fn fc f0 o0 e N n R k v w':=by
 obtain⟨F',l,d',a',n',c',h1,h2,h3,h4,h5,h6,h7,h8⟩:=h
 exact⟨F',l,d',a',n',c',h1,h2.ext hB,h3,h4,h5.ext hB,h6,h7,h8.ext hB⟩
def RExWritePost (F:Nat->Prop) (w:World) (g sb cb sc:Nat) (fa:Option Addr) (fn fc:Nat) (r:Int × Disk.Dk) (e:Ending) (w':World):Prop :=
 e=.returned (r.1:Value)/\∃ F',RD F' w' g sb cb sc fa fn fc r.2/\Upd F w F' w'
theorem Upd.back {F F':Nat->Prop} {w w1 w2:World} (hb:Below w.heap.size w w1) (h:Upd F w1 F' w2):Upd F w F' w2:=(Upd.of_ext hb).trans h
set_option maxRecDepth 100000 in
set_option maxHeartbeats 8000000 in
theorem zq_k (h:RD F w g sb cb sc fa fn fc d) (f c off:Int) (hf:ib f) (hc:ib c) (ho:ib off) (ap:Option Addr) (l0 ca:Nat) (x:List UInt8) (hx:SlB w ap l0 ca x) (hF:∀ y,ap=some y->x ≠ []->¬ F y.block) :
 Calls Tryz.prog 91 #[.pointer g,.agg #[f,c],off,.slice ap l0 ca] w (RExWritePost F w g sb cb sc fa fn fc (Extent.write d f c off x)):=by
 have hb:=(Below.refl _ w).alloc (zN _) (.cells #[f,c] 23)
 have hxl:=hx.len
 have hxe:=hx.le
 have hl:ib (l0:Int):=⟨by omega,by omega⟩
 have HCK:=zH (zl_c (h.ext ((Below.refl _ w).alloc (zN _) (.cells #[f,c] 23))) f c off l0 hc ho hl)
 have hbox:XBox (w.alloc (.cells #[f,c] 23)) w.heap.size f c:=za_b _ _ _ rfl
 have z0:(w.alloc (.cells #[f,c] 23)).cell? w.heap.size=some (f:Value):=hbox.cells.1
 have z1:(w.alloc (.cells #[f,c] 23)).cell? (w.heap.size 1)=some (c:Value):=hbox.cells.2
 obtain⟨R,hR⟩:∃ R,Extent.write d f c off x=R:=⟨_,rfl⟩
 rw [hR]
 unfold Extent.write at hR
 rw [hxl] at hR
 obtain⟨ck,hck⟩:∃ ck,Extent.check d.st.length f c off l0=ck:=⟨_,rfl⟩
 rw [hck] at hR HCK
 by_cases h0:ck=0
 ·subst h0
  rw [if_pos rfl] at hR
  obtain⟨k1,k2,k3,k4,k5,k6,k7⟩:=Extent.check_ok hck
  have hmx:=h.ok.max
  have hsz:Extent.size c<=262144:=by unfold Extent.size;split <;> omega
  have hsz2:Extent.size c=c * 64:=by unfold Extent.size;rw [if_neg (by omega)]
  obtain⟨f0,rfl⟩:∃ f0:Nat,f=(f0:Int):=⟨f.toNat,by omega⟩
  obtain⟨o0,rfl⟩:∃ o0:Nat,off=(o0:Int):=⟨off.toNat,by omega⟩
  have ee:((o0:Int)+(l0:Int)).toNat=o0+l0:=by omega
  rw [ee] at hR
  simp only [Int.toNat_natCast] at hR
  obtain⟨e,he⟩:∃ e,e=o0+l0:=⟨_,rfl⟩
  rw [<-he] at hR
  have hl0:l0=e - o0:=by omega
  have hoe:o0<=e:=by omega
  have heb:e<=262144:=by omega
  have hfb:f0<=4096:=by omega
  obtain⟨n,hn⟩:∃ n,d.st.length=n:=⟨_,rfl⟩
  obtain⟨N,hN⟩:∃ N,N=Extent.cnt o0 e:=⟨_,rfl⟩
  rw [<-hN] at hR
  have HN:=zH hN
  have hNb:N<=5000:=by rw [hN];unfold Extent.cnt;split <;> omega
  have hxF:∀ y,ap=some y->x ≠ []->y.block < w.heap.size/\¬ F y.block:=fun y hy hne=>⟨by subst hy;exact hx.blt hne,hF y hy hne⟩
  have HR0:XWr F w (w.alloc (.cells #[f0,c] 23)) g sb cb sc fa fn fc f0 o0 e N n R 0 (.slice ap l0 ca) (w.alloc (.cells #[f0,c] 23)) :=
   ⟨F,x,d,ap,l0,ca,hR,h.ext hb,hn,rfl,hx.ext hb,by rw [Extent.pos_zero];exact hl0,hxF,Upd.refl _ _⟩
  have HX:=zH HR0
  have hlt:=h.lt
  clear HR0 hR hck k1 k2 k3 k4 k5 k6 k7 hsz hsz2 ee hn hN hf hc ho hl hmx hx hxF hF hxl he
  subst hl0
  go_enter Tryz.func91,Tryz.ntmps91
  go_wp2_with (go_at_call 134;go_must (refine HCK.out.mono ?_);rintro e1 w1 ⟨rfl,hb1⟩)
  have hbz:(w.alloc (.cells #[f0,c] 23)).heap.size=w.heap.size+1:=by simp
  have hX0:=HX.out.ext hb1
  generalize (w.alloc (.cells #[f0,c] 23))=W0 at *
  clear HCK HX z0 z1
  go_loopw [2,3,10,11,12,13,14,15,16] (fun i2 v3 _ _ _ _ _ _ _ wr=>∃ k:Nat,k<=N/\i2=.int .i64 (Extent.pos o0 e k:Nat)/\XWr F w W0 g sb cb sc fa fn fc f0 o0 e N n R k v3 wr) (fun i2 _ _ _ _ _ _ _ _ _=>e - (intOf i2).toNat)
  case atStart=>exact⟨0,Nat.zero_le _,by rw [Extent.pos_zero],hX0⟩
  case round =>
   obtain⟨k,hk,rfl,hX⟩:=hrel
   clear hX0
   by_cases hlk:k < N
   ·have hpl:=(Extent.pos_lt o0 e k hoe).2 (by rw [<-HN.out];exact hlk)
    have hsu:=Extent.pos_succ o0 e k (by rw [<-HN.out];exact hlk)
    have hst:=Extent.step_pos hpl
    obtain⟨F1,l,d',a',n',c',hRd,hP,hn',rfl,hs,hnn0,hnb,hU⟩:=hX
    have hN1:N - k=(N - (k+1))+1:=by omega
    rw [hN1] at hRd
    have hxb:XBox wr w.heap.size (f0:Int) c:=(hU.block w.heap.size (by omega) (fun e=>Nat.lt_irrefl _ (hlt _ e))).trans hbox
    obtain⟨x0,x1⟩:=hxb.cells
    obtain⟨p,hp⟩:∃ p,p=Extent.pos o0 e k:=⟨_,rfl⟩
    rw [<-hp] at hpl hst hsu hnn0
    obtain⟨u,hu⟩:∃ u,u=Extent.step e p:=⟨_,rfl⟩
    rw [<-hu] at hst hsu
    have hsu2:Extent.pos o0 e (k+1)=p+u:=hsu
    have hlen:=hs.len
    obtain⟨nn,hnn⟩:∃ nn,nn=n':=⟨_,rfl⟩
    rw [<-hnn] at hs hnn0 hlen
    rw [<-hnn]
    clear hnn
    have hue:(if 64 - ((p % 64:Nat):Int) < (nn:Int) then 64 - ((p % 64:Nat):Int) else (nn:Int))=(u:Int):=by rw [hu,hnn0];unfold Extent.step;omega
    obtain⟨b,o,rfl,hbw,-⟩:=hs.at (show 0 < nn by omega)
    have hbF:=hnb _ rfl (by intro e;rw [e] at hlen;simp at hlen;omega)
    have hbF1:¬ F1 b:=fun e=>by
     rcases hU.new b e with e|e
     ·exact hbF.2 e
     ·have:=hbF.1;simp only at this;omega
    have hcap:=hs.2.1
    rw [<-hp]
    obtain⟨q,hq⟩:∃ q,q=p % 64:=⟨_,rfl⟩
    obtain⟨ix,hix⟩:∃ ix,ix=f0+p / 64:=⟨_,rfl⟩
    rw [<-hq] at hue hst
    have hue2:min (nn:Int) (64 - (q:Int))=(u:Int):=by omega
    obtain⟨tt,ht⟩:∃ tt,tt=q+u:=⟨_,rfl⟩
    have m1:(0:Int) < (nn:Int):=by omega
    have m2:(p:Int) % 64=(q:Int):=by omega
    have m3:(f0:Int)+(p:Int) / 64=(ix:Int):=by omega
    have m4:(q:Int)+(u:Int)=(tt:Int):=by omega
    have m5:(q:Int)<=(tt:Int):=by omega
    have m6:(p:Int)<=262144:=by omega
    have m7:(f0:Int)<=4096:=by omega
    have m8:(tt:Int)<=64:=by omega
    have m9:(u:Int)<=(nn:Int):=by omega
    have m10:(nn:Int)<=262144:=by omega
    have m12:(0:Int)<=(q:Int):=by omega
    have m13:q < 64:=by omega
    have m14:(u:Int)<=(c':Int):=by omega
    have m15:u<=c':=by omega
    have m16:u<=nn:=by omega
    have m17:(0:Int)<=(u:Int):=by omega
    have m18:(nn:Int)<=(c':Int):=by omega
    have hul:(l.take u).length=u:=by rw [List.length_take];omega
    have HUL:=zH hul
    have hstp:Extent.step e (Extent.pos o0 e k)=u:=by rw [<-hp];exact hu.symm
    have hposk:Extent.pos o0 e k=p:=hp.symm
    have HF:=zH (And.intro hsu2 (And.intro hst (And.intro hnn0 (And.intro hlen (And.intro hix (And.intro hstp hposk))))))
    have hq64:Extent.pos o0 e k % 64=q:=by rw [hposk];exact hq.symm
    have HQ:=zH hq64
    clear hsu hsu2 hst hu hq ht hnn0 hlen hp hstp hposk hix hpl hul hq64
    go_wp2
    go_quiet (fail)
    have hP2:=hP.drewN nq
    have hs2:SlB (wr.drewN nq) (b o) nn c' l:=hs.stay (fun _ _ _=>rfl) (zN _)
    have hU2:=hU.drewN nq
    have hF2:∀ k,F1 k->k < (wr.drewN nq).heap.size:=hP.lt
    clear hP hs hU hxb x0 x1 hbw
    generalize wr.drewN nq=W2 at *
    obtain⟨ad2,had2,S2⟩:∃ ad2,(if c'=u then some ((b o):Addr) else some (b (o+u)))=ad2/\(∀ W,SlB W (b o) nn c' l->SlB W ad2 (nn - u) (c' - u) (l.drop u))/\(∀ y,ad2=some y->y.block=b):=by
     refine⟨_,rfl,fun W hW=>?_,fun y hy=>?_⟩
     ·by_cases hcu:c'=u
      ·have hnu:nn=u:=by omega
       rw [if_pos hcu,hcu,hnu,Nat.sub_self,List.drop_of_length_le (by have:=HF.out.2.2.2.1;omega)];exact SlB.void _ _ _
      ·rw [if_neg hcu];exact hW.drop m16
     ·by_cases hcu:c'=u
      ·rw [if_pos hcu] at hy;cases hy;rfl
      ·rw [if_neg hcu] at hy;cases hy;rfl
    have S7:SlB (W2.alloc (.cells #[] 5)) (b o) u c' (l.take u):=(hs2.ext ((Below.refl _ _).alloc (zN _) _)).take m16
    by_cases hu64:u < 64
    ·have hst64:Extent.step e (Extent.pos o0 e k) < 64:=by rw [HF.out.2.2.2.2.2.1];omega
     have m19:(u:Int) < 64:=by omega
     have HST0:=zH hn'
     obtain⟨bb,z,d1,hr⟩:∃ bb z d1,Disk.read d' ((ix:Nat):Int)=(bb,z,d1):=⟨_,_,_,rfl⟩
     have hr2:Disk.read d' ((f0+Extent.pos o0 e k / 64:Nat):Int)=(bb,z,d1):=by rw [HF.out.2.2.2.2.2.2,<-HF.out.2.2.2.2.1];exact hr
     have hst1:d1.st.length=n:=by have:=(Disk.read_st d' ((ix:Nat):Int)).1;rw [hr] at this;rw [this];exact hn'
     by_cases hz:z=0
     ·subst hz
      have h64:=Disk.read_len hP2.ok hr
      obtain⟨z2,d5,hw⟩:∃ z2 d5,Disk.write d1 ((ix:Nat):Int) (bb.take q ++ l.take u ++ bb.drop tt)=(z2,d5):=⟨_,_,rfl⟩
      have htt:q+u=tt:=by omega
      rw [Extent.wr_part hst64 hr2 (z2:=z2) (d2:=d5) (by rw [HF.out.2.2.2.2.2.1,HQ.out,htt,HF.out.2.2.2.2.2.2,<-HF.out.2.2.2.2.1];exact hw),HF.out.2.2.2.2.2.1] at hRd
      have HR:=zH hr
      have HW:=zH hw
      have HRd:=zH hRd
      have H64:=zH h64
      have HST:=zH hst1
      have hlBY:(bb.take q ++ l.take u ++ bb.drop tt).length=64:=by rw [List.length_append,List.length_append,HUL.out,List.length_take,List.length_drop];omega
      have HBY:=zH hlBY
      clear hr hr2 hw hRd h64 hst64 hn' hst1 hlBY
      go_wp2_with (first
      |((show wpList _ _ _ (Oper.mk (some 45) _ _ _ _ _ :: _) _ _);go_must (refine za_d rfl _ _ rfl W2.heap.size _ [] rfl (OwnB.empty W2 (zN _)) (b o) u c' (l.take u) rfl S7 (by simp;omega) (by simp) ?_);intro v3 w3 hO3 hg3 _;have hB3:=((Below.refl W2.heap.size W2).alloc (zN _) (.cells #[] 5)).grown hg3 (by simp) (fun k hk=>by cases hk;exact zN _);have HO3:=zH hO3;obtain⟨a3,c3,rfl,hs3,hf3⟩:=hO3.sl;rw [List.nil_append,HUL.out] at hs3 HO3;simp only [List.nil_append];rw [HUL.out])
      |(go_at_call 77;go_must (refine (zb_v (hP2.ext hB3) _ HR.out).mono ?_);rintro e4 w4 ⟨v4,rfl,hO4,hP4,hU4⟩;obtain⟨b4,c4,rfl,hbb4,hbl4,hs4⟩:=hO4.at0 H64.out))
      have hc4:=hs4.2.1
      have n1:(q:Int)<=(c4:Int):=by omega
      have n2:q<=c4:=by omega
      have n3:(tt:Int)<=(c4:Int):=by omega
      have n4:tt<=c4:=by omega
      have n5:tt<=64:=by omega
      have n6:q<=64:=by omega
      have n7:IntKind.i64.wrap (tt:Int)=(tt:Int):=by rw [IntKind.wrap_i64];omega
      obtain⟨ad4,had4,S4⟩:∃ ad4,(if c4=tt then some (b4:Addr) else some (b4 tt))=ad4/\∀ W,SlB W b4 64 c4 bb->SlB W ad4 (64 - tt) (c4 - tt) (bb.drop tt):=by
       refine⟨_,rfl,fun W hW=>?_⟩
       by_cases hcu:c4=tt
       ·have hnu:tt=64:=by omega
        rw [if_pos hcu,hcu,hnu,Nat.sub_self,List.drop_of_length_le (by rw [H64.out];exact zN _)];exact SlB.void _ _ _
       ·rw [if_neg hcu];simpa using hW.drop n5
      have hs3':SlB w4.drew a3 u c3 (l.take u):=(hs3.upd hU4 (fun y hy _ e=>by have:=(hf3 y hy).2.1;have:=hF2 _ e;omega)).stay (fun _ _ _=>rfl) (zN _)
      have hs4':SlB w4.drew b4 64 c4 bb:=hs4.stay (fun _ _ _=>rfl) (zN _)
      have SQ:SlB (w4.drew.alloc (.cells #[] 5)) b4 q c4 (bb.take q):=(hs4'.ext ((Below.refl _ _).alloc (zN _) _)).take n6
      have hlq:(bb.take q).length=q:=by rw [List.length_take,H64.out];omega
      have HLQ:=zH hlq
      clear hs3 hf3 hs4 hlq
      go_region_law (first
      |(refine zb_z rfl (.tmp 57) (.tmp 60) rfl w4.drew.heap.size _ [] (by simp [Act.eval]) (OwnB.empty w4.drew (zN _)) b4 q c4 (bb.take q) (by simp [Act.eval]) SQ (by simp;omega) (by simp) ?_;intro v5 w5 hO5 hg5;have hB5:=((Below.refl w4.drew.heap.size w4.drew).alloc (zN _) (.cells #[] 5)).grown hg5 (by simp) (fun k hk=>by cases hk;exact zN _))
      |(refine zb_z rfl (.tmp 61) (.tmp 62) rfl w4.drew.heap.size v5 (bb.take q) (by simp [Act.eval]) hO5 a3 u c3 (l.take u) (by simp [Act.eval]) (hs3'.ext hB5) (by have:=HLQ.out;omega) hB5.size ?_;intro v6 w6 hO6 hg6;have hB6:=hB5.grown hg6 hB5.size (fun k hk=>(hO5.lt k hk).1))
      |(refine zb_z rfl (.tmp 63) (.tmp 68) rfl w4.drew.heap.size v6 (bb.take q ++ l.take u) (by simp [Act.eval]) hO6 ad4 (64 - tt) (c4 - tt) (bb.drop tt) (by simp [Act.eval]) (S4 _ (hs4'.ext hB6)) (by rw [List.length_append];have:=HLQ.out;have:=HUL.out;omega) hB6.size ?_;intro v7 w7 hO7 hg7;have hB7:=hB6.grown hg7 hB6.size (fun k hk=>(hO6.lt k hk).1);obtain⟨b9,c9,rfl,hb9,hbl9,hs9⟩:=OwnB.at0 (l:=bb.take q ++ l.take u ++ bb.drop tt) hO7 HBY.out))
      have hP7:=(hP4.stay (w':=w4.drew) (fun _ _=>rfl) (zN _)).ext hB7
      have hU7:=(((hU2.ext hB3).trans hU4).drew).ext hB7
      have hD4:=(((hs2.ext hB3).upd hU4 (fun y hy _=>by cases hy;exact hbF1)).stay (w':=w4.drew) (fun _ _ _=>rfl) (zN _)).ext hB7
      have hb9:W2.heap.size<=b9:=Nat.le_trans (Nat.le_trans hB3.size hU4.size) hb9
      clear hP4 hU4 hO7 hg7 hB7 hO6 hg6 hB6 hO5 hg5 hB5 SQ S4 had4 hs3' hs4'
      have hP4:=hP7
      have hU4:=hU7
      clear hP7 hU7
      have hFb9:∀ y:Addr,some (b9:Addr)=some y->bb.take q ++ l.take u ++ bb.drop tt ≠ []->¬ F1 y.block:=fun y hy _ e=>by cases hy;have:=hF2 _ e;simp only at this;omega
      by_cases hz2:z2=0
      ·subst hz2
       have hrd:=HRd.out
       rw [if_pos rfl] at hrd
       have HRd2:=zH hrd
       clear hrd HRd
       go_wp2_with (go_at_call 94;go_must (refine (zc_c hP4 _ hs9 hFb9 HW.out).mono ?_);rintro e5 w5 ⟨rfl,F5,hP5,hU5⟩)
       go_quiet (fail)
       go_wp2
       obtain⟨g1,g2,g3,g4,g5,g6,g7⟩:=HF.out
       have hD5:=hD4.upd hU5 (fun y hy _=>by cases hy;exact hbF1)
       have hst5:d5.st.length=n:=by have:=Disk.write_st d1 ((ix:Nat):Int) (bb.take q ++ l.take u ++ bb.drop tt);rw [HW.out] at this;exact (congrArg List.length this).trans HST.out
       refine⟨⟨k+1,by omega,by rw [g1];go_num,⟨F5,l.drop u,d5,ad2,nn - u,c' - u,HRd2.out,hP5.drewN _,hst5,rfl,(S2.1 _ hD5).stay (fun _ _ _=>rfl) (zN _),by rw [g1];omega,(fun y hy _=>by rw [S2.2 y hy];exact hbF),(hU4.trans hU5).drewN _⟩⟩,?_⟩
       simp [intOf];omega
      ·have t2:(z2 != 0)=true:=by simpa using hz2
       have hrd:=HRd.out
       rw [if_neg hz2] at hrd
       have HRd2:=zH hrd
       clear hrd HRd hz2
       go_wp2_with (go_at_call 94;go_must (refine (zc_c hP4 _ hs9 hFb9 HW.out).mono ?_);rintro e5 w5 ⟨rfl,F5,hP5,hU5⟩)
       go_ret
       rw [<-HRd2.out]
       exact⟨rfl,F5,hP5,(hU4.trans hU5).back hb⟩
     ·have t1:(z != 0)=true:=by simpa using hz
      rw [Extent.wr_rerr hst64 hr2 hz] at hRd
      have HR:=zH hr
      have HRd:=zH hRd
      clear hr hr2 hRd hst64 hz
      go_wp2_with (first
      |((show wpList _ _ _ (Oper.mk (some 45) _ _ _ _ _ :: _) _ _);go_must (refine za_d rfl _ _ rfl W2.heap.size _ [] rfl (OwnB.empty W2 (zN _)) (b o) u c' (l.take u) rfl S7 (by simp;omega) (by simp) ?_);intro v3 w3 hO3 hg3 _;have hB3:=((Below.refl W2.heap.size W2).alloc (zN _) (.cells #[] 5)).grown hg3 (by simp) (fun k hk=>by cases hk;exact zN _);skip)
      |(go_at_call 77;go_must (refine (zb_v (hP2.ext hB3) _ HR.out).mono ?_);rintro e4 w4 ⟨v4,rfl,hO4,hP4,hU4⟩))
      go_ret
      rw [<-HRd.out]
      exact⟨rfl,F1,hP4,((hU2.ext hB3).trans hU4).back hb⟩
    ·have hst64:¬ Extent.step e (Extent.pos o0 e k) < 64:=by rw [HF.out.2.2.2.2.2.1];omega
     obtain⟨z2,d5,hw⟩:∃ z2 d5,Disk.write d' ((ix:Nat):Int) (l.take u)=(z2,d5):=⟨_,_,rfl⟩
     rw [Extent.wr_full hst64 (z2:=z2) (d2:=d5) (by rw [HF.out.2.2.2.2.2.1,HF.out.2.2.2.2.2.2,<-HF.out.2.2.2.2.1];exact hw),HF.out.2.2.2.2.2.1] at hRd
     have HW:=zH hw
     have HRd:=zH hRd
     have HST:=zH hn'
     have HU64:Hid (u=64):=zH (by omega)
     have m19:¬ (u:Int) < 64:=by omega
     clear hw hRd hst64 hn'
     go_wp2_with ((show wpList _ _ _ (Oper.mk (some 45) _ _ _ _ _ :: _) _ _);go_must (refine za_d rfl _ _ rfl W2.heap.size _ [] rfl (OwnB.empty W2 (zN _)) (b o) u c' (l.take u) rfl S7 (by simp;omega) (by simp) ?_);intro v3 w3 hO3 hg3 _;have hB3:=((Below.refl W2.heap.size W2).alloc (zN _) (.cells #[] 5)).grown hg3 (by simp) (fun k hk=>by cases hk;exact zN _);obtain⟨b9,c9,rfl,hb9,hbl9,hs9⟩:=OwnB.at0 (l:=l.take u) hO3 (by rw [HUL.out];exact HU64.out);have hP4:=hP2.ext hB3;have hU4:=hU2.ext hB3;have hD4:=hs2.ext hB3)
     have hFb9:∀ y:Addr,some (b9:Addr)=some y->l.take u ≠ []->¬ F1 y.block:=fun y hy _ e=>by cases hy;have:=hF2 _ e;simp only at this;omega
     by_cases hz2:z2=0
     ·subst hz2
      have hrd:=HRd.out
      rw [if_pos rfl] at hrd
      have HRd2:=zH hrd
      clear hrd HRd
      go_wp2_with (go_at_call 94;go_must (refine (zc_c hP4 _ hs9 hFb9 HW.out).mono ?_);rintro e5 w5 ⟨rfl,F5,hP5,hU5⟩)
      go_quiet (fail)
      go_wp2
      obtain⟨g1,g2,g3,g4,g5,g6,g7⟩:=HF.out
      have hD5:=hD4.upd hU5 (fun y hy _=>by cases hy;exact hbF1)
      have hst5:d5.st.length=n:=by have:=Disk.write_st d' ((ix:Nat):Int) (l.take u);rw [HW.out] at this;exact (congrArg List.length this).trans HST.out
      refine⟨⟨k+1,by omega,by rw [g1];go_num,⟨F5,l.drop u,d5,ad2,nn - u,c' - u,HRd2.out,hP5.drewN _,hst5,rfl,(S2.1 _ hD5).stay (fun _ _ _=>rfl) (zN _),by rw [g1];omega,(fun y hy _=>by rw [S2.2 y hy];exact hbF),(hU4.trans hU5).drewN _⟩⟩,?_⟩
      simp [intOf];omega
     ·have t2:(z2 != 0)=true:=by simpa using hz2
      have hrd:=HRd.out
      rw [if_neg hz2] at hrd
      have HRd2:=zH hrd
      clear hrd HRd hz2
      go_wp2_with (go_at_call 94;go_must (refine (zc_c hP4 _ hs9 hFb9 HW.out).mono ?_);rintro e5 w5 ⟨rfl,F5,hP5,hU5⟩)
      go_ret
      rw [<-HRd2.out]
      exact⟨rfl,F5,hP5,(hU4.trans hU5).back hb⟩
   ·obtain rfl:k=N:=by omega
    have hpc:=Extent.pos_cnt o0 e hoe
    rw [<-HN.out] at hpc
    obtain⟨F1,l,d',a',n',c',hRd,hP,hn',rfl,hs,hnn0,hnb,hU⟩:=hX
    rw [hpc,Nat.sub_self] at hnn0
    subst hnn0
    rw [Nat.sub_self] at hRd
    have HRd:=zH hRd
    clear hRd hpc hs hnb
    go_wp2
    go_ret
    rw [<-HRd.out]
    exact⟨rfl,F1,hP,hU.back hb⟩
 ·rw [if_neg h0] at hR
  have hRR:=zH hR
  have t0:(ck != 0)=true:=by simpa using h0
  clear hR hck h0
  go_enter Tryz.func91,Tryz.ntmps91
  go_wp2_with (go_at_call 134;go_must (refine HCK.out.mono ?_);rintro e1 w1 ⟨rfl,hb1⟩)
  go_ret
  have hB:=hb.trans (hb1.mono (by simp))
  rw [<-hRR.out]
  exact⟨rfl,F,h.ext hB,Upd.of_ext hB⟩
end
end Go.Proofs.YtmanejniepghlaaGreatDoor
