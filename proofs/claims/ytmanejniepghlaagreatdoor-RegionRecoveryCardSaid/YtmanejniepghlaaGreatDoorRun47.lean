import Derived.Test.YtmanejniepghlaaGreatDoorRun28
import Derived.Test.YtmanejniepghlaaGreatDoorRun30
namespace Go.Proofs.YtmanejniepghlaaGreatDoor
open Go.RowKit
variable {n:Nat} {z:Int}
section
variable {F:Nat->Prop} {w w':World} {g sb cb sc:Nat} {fa:Option Addr} {fn fc:Nat} {d d':Disk.Dk}
def XBox (w:World) (eb:Nat) (f c:Int):Prop:=w.heap[eb]?=some (.cells #[f,c] 23 (0,0))
theorem XBox.cells {w:World} {eb:Nat} {f c:Int} (h:XBox w eb f c):w.cell? eb=some (f:Value)/\w.cell? (eb 1)=some (c:Value) :=
 ⟨by rw [cell_of_row _ _ _ _ _ _ h];rfl,by rw [cell_of_row _ _ _ _ _ _ h];rfl⟩
def XRd (F:Nat->Prop) (W:World) (g sb cb sc:Nat) (fa:Option Addr) (fn fc:Nat) (f0 o0 e N n:Nat) (R:List UInt8 × Int × Disk.Dk) (k:Nat) (v:Value) (wr:World):Prop :=
 ∃ acc d',Extent.rd f0 o0 e (N - k) k acc d'=R/\RD F wr g sb cb sc fa fn fc d'/\d'.st.length=n/\OwnB W.heap.size wr v acc/\acc.length<=64 * k/\Upd F W F wr
theorem XRd.ext {W wr w':World} {f0 o0 e N:Nat} {R:List UInt8 × Int × Disk.Dk} {k:Nat} {v:Value} (h:XRd F W g sb cb sc fa fn fc f0 o0 e N n R k v wr) (hB:Below wr.heap.size wr w'):XRd F W g sb cb sc fa fn fc f0 o0 e N n R k v w':=by
 obtain⟨acc,d',h1,h2,h3,h4,h5,h6⟩:=h
 exact⟨acc,d',h1,h2.ext hB,h3,h4.ext hB,h5,h6.ext hB⟩
theorem zb_v (h:RD F w g sb cb sc fa fn fc d) (i:Int) {b:List UInt8} (hr:Disk.read d i=(b,z,d')) :
 Calls Tryz.prog 77 #[.pointer g,i] w fun e w'=>∃ v,e=.returned (.tuple #[v,z])/\OwnB w.heap.size w' v b/\RD F w' g sb cb sc fa fn fc d'/\Upd F w F w':=by
 have:=zs_k h i
 unfold RReadPost at this;rw [hr] at this;exact this
theorem zc_c (h:RD F w g sb cb sc fa fn fc d) (i:Int) {a:Option Addr} {c:Nat} {x:List UInt8} (hx:SlB w a n c x) (hF:∀ y,a=some y->x ≠ []->¬ F y.block) (hr:Disk.write d i x=(z,d')) :
 Calls Tryz.prog 94 #[.pointer g,i,.slice a n c] w fun e w'=>e=.returned (z:Value)/\∃ F',RD F' w' g sb cb sc fa fn fc d'/\Upd F w F' w':=by
 have:=zq_j h i a n c x hx hF
 unfold RWritePost at this;rw [hr] at this;exact this
def RExReadPost (F:Nat->Prop) (w:World) (g sb cb sc:Nat) (fa:Option Addr) (fn fc:Nat) (r:List UInt8 × Int × Disk.Dk) (e:Ending) (w':World):Prop :=
 ∃ v,e=.returned (.tuple #[v,r.2.1])/\OwnB w.heap.size w' v r.1/\RD F w' g sb cb sc fa fn fc r.2.2/\Upd F w F w'
set_option maxRecDepth 100000 in
set_option maxHeartbeats 4000000 in
theorem zo_f (h:RD F w g sb cb sc fa fn fc d) (f c off len:Int) (hf:ib f) (hc:ib c) (ho:ib off) (hl:ib len) :
 Calls Tryz.prog 80 #[.pointer g,.agg #[f,c],off,len] w (RExReadPost F w g sb cb sc fa fn fc (Extent.read d f c off len)):=by
 have hb:=(Below.refl _ w).alloc (zN _) (.cells #[f,c] 23)
 have HCK:=zH (zl_c (h.ext ((Below.refl _ w).alloc (zN _) (.cells #[f,c] 23))) f c off len hc ho hl)
 have hbox:XBox (w.alloc (.cells #[f,c] 23)) w.heap.size f c:=za_b _ _ _ rfl
 have z0:(w.alloc (.cells #[f,c] 23)).cell? w.heap.size=some (f:Value):=hbox.cells.1
 have z1:(w.alloc (.cells #[f,c] 23)).cell? (w.heap.size 1)=some (c:Value):=hbox.cells.2
 obtain⟨R,hR⟩:∃ R,Extent.read d f c off len=R:=⟨_,rfl⟩
 rw [hR]
 unfold Extent.read at hR
 obtain⟨ck,hck⟩:∃ ck,Extent.check d.st.length f c off len=ck:=⟨_,rfl⟩
 rw [hck] at hR HCK
 by_cases h0:ck=0
 ·subst h0
  rw [if_pos rfl] at hR
  obtain⟨k1,k2,k3,k4,k5,k6,k7⟩:=Extent.check_ok hck
  have hmx:=h.ok.max
  have hsz:Extent.size c<=262144:=by unfold Extent.size;split <;> omega
  have hsz2:Extent.size c=c * 64:=by unfold Extent.size;rw [if_neg (by omega)]
  obtain⟨f0,rfl⟩:∃ f0:Nat,f=(f0:Int):=⟨f.toNat,by omega⟩
  obtain⟨o0,rfl⟩:∃ o0:Nat,off=(o0:Int):=⟨off.toNat,by omega⟩
  obtain⟨l0,rfl⟩:∃ l0:Nat,len=(l0:Int):=⟨len.toNat,by omega⟩
  have ee:((o0:Int)+(l0:Int)).toNat=o0+l0:=by omega
  rw [ee] at hR
  simp only [Int.toNat_natCast] at hR
  obtain⟨e,he⟩:∃ e,e=o0+l0:=⟨_,rfl⟩
  rw [<-he] at hR
  have hl0:l0=e - o0:=by omega
  have hoe:o0<=e:=by omega
  have heb:e<=262144:=by omega
  have hfb:f0<=4096:=by omega
  have hcn:∀ p,p < e->f0+p / 64 < d.st.length:=fun p hp=>by omega
  obtain⟨n,hn⟩:∃ n,d.st.length=n:=⟨_,rfl⟩
  rw [hn] at hcn
  have HCN:=zH hcn
  obtain⟨N,hN⟩:∃ N,N=Extent.cnt o0 e:=⟨_,rfl⟩
  rw [<-hN] at hR
  have HN:=zH hN
  have hNb:N<=5000:=by rw [hN];unfold Extent.cnt;split <;> omega
  have HR0:XRd F (w.alloc (.cells #[f0,c] 23)) g sb cb sc fa fn fc f0 o0 e N n R 0 (.slice none 0 0) (w.alloc (.cells #[f0,c] 23)) :=
   ⟨[],d,hR,h.ext hb,hn,OwnB.nil _ _,Nat.zero_le _,Upd.refl _ _⟩
  have HX:=zH HR0
  have hlt:=h.lt
  clear HR0 hR hck k1 k2 k3 k4 k5 k6 k7 hsz hsz2 ee he hn hcn hN hf hc ho hl hmx
  subst hl0
  go_enter Tryz.func80,Tryz.ntmps80
  go_wp2_with (go_at_call 134;go_must (refine HCK.out.mono ?_);rintro e1 w1 ⟨rfl,hb1⟩)
  have hbz:(w.alloc (.cells #[f0,c] 23)).heap.size=w.heap.size+1:=by simp
  have hX0:=HX.out.ext hb1
  generalize (w.alloc (.cells #[f0,c] 23))=W0 at *
  clear HCK HX z0 z1
  go_loopw [2,3,11,12,13,14] (fun i2 i3 v _ _ _ wr=>∃ k:Nat,k<=N/\i2=.int .i64 (Extent.pos o0 e k:Nat)/\i3=.int .i64 ((e - Extent.pos o0 e k:Nat):Int)/\XRd F W0 g sb cb sc fa fn fc f0 o0 e N n R k v wr) (fun i2 _ _ _ _ _ _=>e - (intOf i2).toNat)
  case atStart=>exact⟨0,Nat.zero_le _,by rw [Extent.pos_zero],by rw [Extent.pos_zero],hX0⟩
  case round =>
   obtain⟨k,hk,rfl,rfl,hX⟩:=hrel
   clear hX0
   by_cases hlk:k < N
   ·have hpl:=(Extent.pos_lt o0 e k hoe).2 (by rw [<-HN.out];exact hlk)
    have hsu:=Extent.pos_succ o0 e k (by rw [<-HN.out];exact hlk)
    have hst:=Extent.step_pos hpl
    obtain⟨acc,d',hRd,hP,hn',hO,hal,hU⟩:=hX
    have hN1:N - k=(N - (k+1))+1:=by omega
    rw [hN1] at hRd
    obtain⟨b,z,d2,hr⟩:∃ b z d2,Disk.read d' ((f0+Extent.pos o0 e k / 64:Nat):Int)=(b,z,d2):=⟨_,_,_,rfl⟩
    have hd2:d2.st.length=n:=by have:=(Disk.read_st d' ((f0+Extent.pos o0 e k / 64:Nat):Int)).1;rw [hr] at this;rw [this];exact hn'
    have hxb:XBox wr w.heap.size (f0:Int) c:=(hU.block w.heap.size (by omega) (fun e=>Nat.lt_irrefl _ (hlt _ e))).trans hbox
    obtain⟨x0,x1⟩:=hxb.cells
    have HP:=zH hP
    by_cases hz:z=0
    ·subst hz
     have h64:=Disk.read_len hP.ok hr
     rw [Extent.rd_ok hr] at hRd
     obtain⟨p,hp⟩:∃ p,p=Extent.pos o0 e k:=⟨_,rfl⟩
     rw [<-hp] at hRd hr hpl hst hsu
     obtain⟨u,hu⟩:∃ u,u=Extent.step e p:=⟨_,rfl⟩
     rw [<-hu] at hRd hst hsu
     have hsu2:Extent.pos o0 e (k+1)=p+u:=hsu
     have hue:min ((e - p:Nat):Int) (64 - ((p % 64:Nat):Int))=(u:Int):=by rw [hu];unfold Extent.step;omega
     rw [<-hp]
     obtain⟨q,hq⟩:∃ q,q=p % 64:=⟨_,rfl⟩
     obtain⟨ix,hix⟩:∃ ix,ix=f0+p / 64:=⟨_,rfl⟩
     obtain⟨nn,hnn⟩:∃ nn,nn=e - p:=⟨_,rfl⟩
     rw [<-hnn,<-hq] at hue
     rw [<-hnn]
     rw [<-hix] at hr
     rw [<-hq] at hst hRd
     obtain⟨tt,ht⟩:∃ tt,tt=q+u:=⟨_,rfl⟩
     have hue2:(if 64 - (q:Int) < (nn:Int) then 64 - (q:Int) else (nn:Int))=(u:Int):=by omega
     have m1:(0:Int) < (nn:Int):=by omega
     have m2:(p:Int) % 64=(q:Int):=by omega
     have m3:(f0:Int)+(p:Int) / 64=(ix:Int):=by omega
     have m4:(q:Int)+(u:Int)=(tt:Int):=by omega
     have m5:(q:Int)<=(tt:Int):=by omega
     have m6:(p:Int)<=262144:=by omega
     have m7:(f0:Int)<=4096:=by omega
     have m8:(tt:Int)<=64:=by omega
     have m9:(u:Int)<=(nn:Int):=by omega
     have m10:(nn:Int)<=262144:=by omega
     have m11:tt - q=u:=by omega
     have m12:(0:Int)<=(q:Int):=by omega
     have m13:q < 64:=by omega
     have HR:=zH hr
     have H64:=zH h64
     have HRd:=zH hRd
     have HF:=zH (And.intro hsu2 (And.intro hst (And.intro hp (And.intro hnn ht))))
     clear hr h64 hRd hsu hsu2 hst hp hu hq hix hnn ht hn' hP
     go_wp2_with (first
     |(go_at_call 77;go_must (refine (zb_v HP.out _ HR.out).mono ?_);rintro e5 w5 ⟨v5,rfl,hO5,hP5,hU5⟩;obtain⟨b5,c5,rfl,hbb5,hbl5,hs5⟩:=hO5.at0 H64.out;have hc5:(tt:Int)<=(c5:Int):=(by have:=hs5.2.1;omega);have hc6:¬ c5=q:=(by have:=hs5.2.1;omega);have hc7:tt<=c5:=(by have:=hs5.2.1;omega))
     |((show wpList _ _ _ (Oper.mk (some 52) _ _ _ _ _ :: _) _ _);go_must (refine za_d rfl _ _ rfl W0.heap.size _ acc rfl (hO.upd hU5 (fun b hb e=>by have:=(hO.lt b hb).1;have:=hlt b e;omega)) (b5 q) u (c5 - q) ((b.drop q).take u) rfl (by simpa using (hs5.drop (k:=q) (by omega)).take (k:=u) (by have:=HF.out.2.1;omega)) (by omega) (Nat.le_trans hU.size hU5.size) ?_);intro v6 w6 hO6 hg6 _))
     obtain⟨g1,g2,g3,g4,g5⟩:=HF.out
     refine⟨⟨k+1,by omega,by rw [g1];go_num,by rw [g1];congr 1;omega,⟨acc ++ (b.drop q).take u,d2,HRd.out,hP5.stay (fun b hb=>hg6.block b (hP5.lt b hb) (fun e=>by have:=(hO.lt b e.symm).1;have:=hlt b hb;omega)) hg6.size,hd2,hO6,?_,?_⟩⟩,?_⟩
     ·rw [List.length_append,List.length_take];omega
     ·exact (hU.trans hU5).grown (fun b hb=>.inr (hO.lt b hb).1) hg6
     ·simp [intOf];omega
    ·have t1:(z != 0)=true:=by simpa using hz
     rw [Extent.rd_err hr hz] at hRd
     have HR:=zH hr
     have HRd:=zH hRd
     have hpn:0 < e - Extent.pos o0 e k:=by omega
     obtain⟨p,hp⟩:∃ p,p=Extent.pos o0 e k:=⟨_,rfl⟩
     rw [<-hp] at HR hpl
     rw [<-hp]
     obtain⟨ix,hix⟩:∃ ix,ix=f0+p / 64:=⟨_,rfl⟩
     obtain⟨nn,hnn⟩:∃ nn,nn=e - p:=⟨_,rfl⟩
     rw [<-hnn]
     rw [<-hix] at HR
     have m1:(0:Int) < (nn:Int):=by omega
     have m3:(f0:Int)+(p:Int) / 64=(ix:Int):=by omega
     have m6:(p:Int)<=262144:=by omega
     have m7:(f0:Int)<=4096:=by omega
     clear hr hRd hz hsu hst hpl hp hix hnn hpn hP
     go_wp2_with (go_at_call 77;go_must (refine (zb_v HP.out _ HR.out).mono ?_);rintro e5 w5 ⟨v5,rfl,hO5,hP5,hU5⟩)
     go_ret2
     rw [<-HRd.out]
     exact⟨_,rfl,OwnB.nil _ _,hP5,(Upd.of_ext hb).trans (hU.trans hU5)⟩
   ·obtain rfl:k=N:=by omega
    have hpc:=Extent.pos_cnt o0 e hoe
    rw [<-HN.out] at hpc
    obtain⟨acc,d',hRd,hP,hn',hO,hal,hU⟩:=hX
    rw [hpc,Nat.sub_self]
    rw [Nat.sub_self] at hRd
    have HRd:=zH hRd
    clear hRd hpc
    go_wp2
    go_ret2
    rw [<-HRd.out]
    exact⟨_,rfl,hO.mono (by omega),hP,(Upd.of_ext hb).trans hU⟩
 ·rw [if_neg h0] at hR
  have hRR:=zH hR
  have t0:(ck != 0)=true:=by simpa using h0
  clear hR hck h0
  go_enter Tryz.func80,Tryz.ntmps80
  go_wp2_with (go_at_call 134;go_must (refine HCK.out.mono ?_);rintro e1 w1 ⟨rfl,hb1⟩)
  go_ret2
  have hB:=hb.trans (hb1.mono (by simp))
  rw [<-hRR.out]
  exact⟨_,rfl,OwnB.nil _ _,h.ext hB,Upd.of_ext hB⟩
end
end Go.Proofs.YtmanejniepghlaaGreatDoor
