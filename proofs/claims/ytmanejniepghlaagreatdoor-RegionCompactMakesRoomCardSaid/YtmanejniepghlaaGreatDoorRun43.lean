import Derived.Test.YtmanejniepghlaaGreatDoorRun42
import Derived.Test.YtmanejniepghlaaGreatDoorRun41
import Derived.Test.YtmanejniepghlaaGreatDoorRun32
import Derived.Test.YtmanejniepghlaaGreatDoorRun36
namespace Go.Proofs.YtmanejniepghlaaGreatDoor
open Go.RowKit
open Disk (Dk)
variable {B g j n q:Nat} {F F0:Nat->Prop} {w5:World}
def MkI (n g q B:Nat) (F0:Nat->Prop) (w5:World) (j:Nat) (wr:World):Prop :=
 ∃ S d F a k L,PS g q S d F wr/\Reg.Has n d S 0 L/\Reg.Ok n S/\S.sup.gen<=1+j/\SBox wr B 0 (.slice a L.length k)/\SlN wr a L.length k L/\(∀ x,a=some x->L ≠ []->¬ F x.block)/\¬ F B/\Upd F0 w5 F wr
theorem MkI.skip {wr W:World} {S:Reg.St} {d:Dk} {a:Option Addr} {k:Nat} {L:List Pin}
 (hP:PS g q S d F wr) (hH:Reg.Has n d S 0 L) (hok:Reg.Ok n S) (hg:S.sup.gen<=1+j) (hx:SBox wr B 0 (.slice a L.length k)) (hs:SlN wr a L.length k L) (hap:∀ x,a=some x->L ≠ []->¬ F x.block) (nB:¬ F B) (hU:Upd F0 w5 F wr) (e:Below wr.heap.size wr W):MkI n g q B F0 w5 (j+1) W :=
 ⟨S,d,F,a,k,L,hP.ext e,hH,hok,by omega,SBox.ext hx e,hs.ext e,hap,nB,hU.ext e⟩
theorem MkI.next {B3 c2:Nat} {F1:Nat->Prop} {W3 wA:World} {S1:Reg.St} {d1:Dk} {a2:Option Addr} {L':List Pin} {v:Value}
 (hPA:PS g q S1 d1 F1 wA) (hHA:Reg.Has n d1 S1 0 L') (hokA:Reg.Ok n S1) (hgA:S1.sup.gen<=1+(j+1)) (hUA:Upd F W3 F1 wA)
 (hx3:SBox W3 B3 0 (.slice a2 L'.length c2)) (hbx3:SBox W3 B 0 v) (hs3:SlN W3 a2 L'.length c2 L') (n3:¬ F B3) (nB:¬ F B) (hap3:∀ x,a2=some x->L' ≠ []->¬ F x.block) (hU3:Upd F0 w5 F W3) (hB:w5.heap.size<=B) :
 (wA.cell? ⟨B3,0,none⟩=some (.int .i64 0)/\wA.cell? ⟨B3,1,none⟩=some (.slice a2 L'.length c2)/\wA.cell? ⟨B,0,none⟩=some (.int .i64 0)/\wA.cell? ⟨B,1,none⟩=some v/\wA.frozen? ⟨B,0,none⟩=false/\wA.frozen? ⟨B,1,none⟩=false) ∧
  MkI n g q B F0 w5 (j+1) ((wA.setCell ⟨B,0,none⟩ (.int .i64 0)).setCell ⟨B,1,none⟩ (.slice a2 L'.length c2)):=by
 have o3:=hUA.out n3 (za_a hx3)
 have oB:=hUA.out nB (za_a hbx3)
 have hxA:=hx3.stay o3.2
 have hbA:=hbx3.stay oB.2
 have hsA:=hs3.stay (fun x hx hl=>(hUA.out (hap3 x hx hl) (hs3.blt' hx hl)).2) hUA.size
 have hbut:But B wA ((wA.setCell ⟨B,0,none⟩ (.int .i64 0)).setCell ⟨B,1,none⟩ (.slice a2 L'.length c2)):=((But.refl _ _).setCell 0 _).setCell 1 _
 exact⟨⟨hxA.cells.1,hxA.cells.2,hbA.cells.1,hbA.cells.2,SBox.frz hbA 0,SBox.frz hbA 1⟩,S1,d1,F1,a2,c2,L',(PS.fp g q S1 d1).stay hPA (fun k hk=>hbut.block k (hPA.lt k hk) (fun e=>oB.1 (e ▸ hk))) hbut.size,hHA,hokA,hgA,SBox.set2 hbA 0 _,hsA.setOldS hbA 0 1 _ _,fun x hx hl=>(hUA.out (hap3 x hx hl) (hs3.blt' hx hl)).1,oB.1,(hU3.trans hUA).but (.inr hB) hbut⟩
set_option maxRecDepth 100000 in
set_option maxHeartbeats 64000000 in
theorem room33_law (n:Int) (a:Option Addr) (m k:Nat) (us:List UpdV) (u:UpdV) (w:World) (hn:(Lit.int .i64 n).wf=true) (h:SlU w a m k us) :
 Calls Tryz.prog 4 #[.int .i64 n,.slice a m k,uv u] w fun e w'=>e=.returned (.bool true)/\Below w.heap.size w w':=by
 have HA:=zH zj_m
 have hle:=h.le
 have hb0:=(Below.refl w.heap.size w).alloc (zN _) (.cells #[.int .i64 u.k,.string (str u.p.h),.bool u.p.s,.int .i64 u.p.x] 36)
 have hU0:=UBox.new w u.k (str u.p.h) u.p.s u.p.x
 obtain⟨W0,hW0⟩:∃ W0,W0=w.alloc (.cells #[.int .i64 u.k,.string (str u.p.h),.bool u.p.s,.int .i64 u.p.x] 36):=⟨_,rfl⟩
 rw [<-hW0] at hb0 hU0
 have HW0:=zH hW0
 clear hW0
 have hlen:(str u.p.h).size=u.p.h.length:=by simp [str,ByteArray.size]
 obtain⟨x0,x1,x2,x3⟩:=hU0.cells
 have hUlt:=za_a hU0
 have HUX:=zH (fun W (e:Below W0.heap.size W0 W)=>hU0.ext e)
 unfold uv uc
 obtain⟨ln,hln⟩:∃ ln,u.p.h.length=ln:=⟨_,rfl⟩
 rw [hln] at hlen
 have h0:=h.ext hb0
 have HSU:=zH h0
 clear h hU0
 by_cases hg:n < 22\/100 < n\/40 < m\/300 < ln
 ·have go:∀ (B:Prop),B->B:=fun _ h=>h
  rcases (show n < 22\/(¬ n < 22/\100 < n)\/(¬ n < 22/\¬ 100 < n/\40 < m)\/(¬ n < 22/\¬ 100 < n/\¬ 40 < m/\300 < ln) by omega) with t|⟨t,t'⟩|⟨t,t',t''⟩|⟨t,t',t'',t3⟩
  case' inr.inr.inl=>replace t'':(40:Int) < (m:Int):=by omega
  case' inr.inr.inr=>replace t'':¬ (40:Int) < (m:Int):=by omega
  case' inr.inr.inr=>replace t3:(300:Int) < (ln:Int):=by omega
  all_goals
   clear hg go
   go_enter Tryz.func4,Tryz.ntmps4
   go_wp2_with fail
   rw [<-HW0.out]
   refine (HA.out _).mono ?_;rintro e w5 ⟨rfl,hb5⟩
   go_wp2_with fail
   go_ret
   exact⟨rfl,hb0.trans (hb5.mono hb0.size)⟩
 ·obtain⟨N,hN⟩:∃ N:Nat,n=(N:Int):=⟨n.toNat,by omega⟩
  subst hN
  have hN1:22<=N:=by omega
  have hN2:N<=100:=by omega
  have hfit:=Reg.fit_of hN1 hN2
  have t1:¬ (N:Int) < 22:=by omega
  have t2:¬ 100 < (N:Int):=by omega
  have t3:¬ (40:Int) < (m:Int):=by omega
  have t4:¬ (300:Int) < (ln:Int):=by omega
  have hm40:m<=40:=by omega
  have hl300:ln<=300:=by omega
  obtain⟨d1,S1,d2,f1,f2,f3,f4,-,-⟩:=Reg.open_fresh (Extent.new_quiet N (by omega) (by omega)) hfit
  have hl1:d1.st.length=N:=by have:=Reg.format_len (Disk.new N);rw [f1] at this;exact this.trans (by simp [Disk.new])
  have H1:=zH f1
  have H2:=zH f2
  have H3:=zH (And.intro f3 f4)
  clear f1 f2 f3 f4 hg
  go_enter Tryz.func4,Tryz.ntmps4
  go_wp2_with fail
  rw [<-HW0.out]
  refine (DP.new N (by omega) (by omega) _ N rfl).mono ?_;rintro e w5 ⟨g,F0,rfl,hd5,hF5,hb5⟩
  go_wp2_with fail
  refine (zi_h hd5 H1.out).mono ?_;rintro e w6 ⟨rfl,F6,hd6,hu6⟩
  go_wp2_with fail
  refine (zf_k hd6 (by rw [hl1];omega) H2.out).mono ?_;rintro e w7 hop
  obtain⟨q,a7,k7,F7,rfl,hp7,hu7,hs7,-,hok7⟩:=OpQ.some hop
  rw [hl1] at hok7
  rw [List.length_nil] at hs7 ⊢
  clear hop
  have n7:¬ F7 w7.heap.size:=fun e=>Nat.lt_irrefl _ (hp7.lt _ e)
  have hb8:=(Below.refl w7.heap.size w7).alloc (zN _) (.cells #[.int .i64 0,.slice a7 0 k7] 44)
  have hx8:=SBox.new w7 0 (.slice a7 0 k7)
  have hz8:w7.heap.size < (w7.alloc (.cells #[.int .i64 0,.slice a7 0 k7] 44)).heap.size:=by simp
  go_wp2_with fail
  obtain⟨W8,hW8⟩:∃ W8,W8=w7.alloc (.cells #[.int .i64 0,.slice a7 0 k7] 44):=⟨_,rfl⟩
  rw [<-hW8] at hb8 hx8 hz8
  rw [<-hW8]
  clear hW8
  have hM0:MkI N g q w7.heap.size F0 w5 0 W8:=⟨S1,d2,F7,a7,k7,[],hp7.ext hb8,H3.out.1,hok7,by rw [H3.out.2];exact zN _,hx8,hs7.ext hb8,fun x _ h=>absurd rfl h,n7,(hu6.trans hu7).ext hb8⟩
  have hBw:Below W0.heap.size W0 w5:=hb5
  have hsz5:w5.heap.size<=w7.heap.size:=Nat.le_trans hu6.size hu7.size
  clear hd5 hd6 hp7 hs7 hx8 hu6 hu7 hb8 n7 hok7
  go_loopw [11] (fun i wr=>∃ j:Nat,i=.int .i64 j/\j<=m/\MkI N g q w7.heap.size F0 w5 j wr) (fun i _=>m - (intOf i).toNat)
  case atStart=>exact⟨0,rfl,Nat.zero_le _,hM0⟩
  case round =>
   obtain⟨j,rfl,hj,S,d,F,av,kv,L,hP,hH,hok,hge,hbx,hsl,hap,nB,hU⟩:=hrel
   have hbr:Below W0.heap.size W0 wr:=hU.below hBw hF5 hBw.size
   have j0:(0:Int)<=(j:Int):=by omega
   by_cases hlt:j < m
   ·have j1:(j:Int) < (m:Int):=by omega
    obtain⟨b,o,x,rfl,hb,hx,hi⟩:=HSU.out.at hlt
    obtain⟨i0,i1,i2,i3⟩:=hi.ext hb hbr
    have hxl:(str x.p.h).size=x.p.h.length:=by simp [str,ByteArray.size]
    obtain⟨xl,hxln⟩:∃ xl,x.p.h.length=xl:=⟨_,rfl⟩
    rw [hxln] at hxl
    by_cases h300:300 < xl
    ·have t5:(300:Int) < (xl:Int):=by omega
     go_wp2_with fail
     refine (HA.out _).mono ?_;rintro e w9 ⟨rfl,hb9⟩
     go_wp2_with fail
     go_ret
     have hB:=hb0.trans (hbr.mono hb0.size)
     exact⟨rfl,hB.trans (hb9.mono hB.size)⟩
    ·have t5:¬ (300:Int) < (xl:Int):=by omega
     have i2':wr.cell? ⟨b,o+j * 4+2,none⟩=some (.bool x.p.s):=i2
     have i3':wr.cell? ⟨b,o+j * 4+3,none⟩=some (.int .i64 x.p.x):=i3
     clear i2 i3
     have HIT:=zH (fun (W:World) (e:Below W0.heap.size W0 W)=>show W.cell? ⟨b,o+j * 4,none⟩=some (.int .i64 x.k)/\W.cell? ⟨b,o+j * 4+1,none⟩=some (.string (str x.p.h))/\W.cell? ⟨b,o+j * 4+2,none⟩=some (.bool x.p.s)/\W.cell? ⟨b,o+j * 4+3,none⟩=some (.int .i64 x.p.x) from hi.ext hb e)
     have HXL:=zH hxln
     obtain⟨F0',p0,s0,m0,fa0,fn0,fc0,hFe,-,hSB,-⟩:=hP.open
     have HCA:=zH (fun W (e:Below wr.heap.size wr W)=>zc_y (hSB.ext e))
     have hcap:S.lay.cap<=1000:=by rw [hok.lay];exact (Reg.fit_facts hfit).2.2.2.2.2.1
     have hLc:L.length<=S.lay.cap:=by rw [hH.lay];exact hH.cap
     rcases happ:Upt.apply 0 L x S.lay.cap with⟨L',z'⟩
     have HAP:=zH (fun W (e:Below wr.heap.size wr W)=>show Calls Tryz.prog 14 #[.agg #[.int .i64 0,.slice av L.length kv],uv x,.int .i64 S.lay.cap] W (RUApN av L 0 L' z' W) by
      have:=ze_k 0 av L.length kv L x S.lay.cap W (hsl.ext e) (by omega) (fun p hp=>Nat.le_trans (Upt.hosts_len hH.st p hp) (by omega)) (by omega)
      rw [happ] at this
      exact this)
     unfold RUApN sv uv uc at HAP
     obtain⟨ck,hck⟩:∃ ck,Upt.ack 0 z'=ck:=⟨_,rfl⟩
     rw [hck] at HAP
     obtain⟨cp,hcp⟩:∃ cp,S.lay.cap=cp:=⟨_,rfl⟩
     rw [hcp] at HAP HCA
     obtain⟨nl,hnl⟩:∃ nl,L.length=nl:=⟨_,rfl⟩
     rw [hnl] at HAP hbx
     obtain⟨y0,y1⟩:=hbx.cells
     have hbl:=za_a hbx
     have hbb:b < wr.heap.size:=Nat.lt_of_lt_of_le hb hbr.size
     have HK:=zH (fun (W:World) (e:Below wr.heap.size wr W)=>show W.cell? ⟨w7.heap.size,0,none⟩=some (.int .i64 0)/\W.cell? ⟨w7.heap.size,1,none⟩=some (.slice av nl kv)/\W.cell? ⟨b,o+j * 4,none⟩=some (.int .i64 x.k)/\W.cell? ⟨b,o+j * 4+1,none⟩=some (.string (str x.p.h))/\W.cell? ⟨b,o+j * 4+2,none⟩=some (.bool x.p.s)/\W.cell? ⟨b,o+j * 4+3,none⟩=some (.int .i64 x.p.x) from
      ⟨(SBox.cells (SBox.ext hbx e)).1,(SBox.cells (SBox.ext hbx e)).2,(e.cell (p:=⟨b,o+j * 4,none⟩) hbb).trans i0,(e.cell (p:=⟨b,o+j * 4+1,none⟩) hbb).trans i1,(e.cell (p:=⟨b,o+j * 4+2,none⟩) hbb).trans i2',(e.cell (p:=⟨b,o+j * 4+3,none⟩) hbb).trans i3'⟩)
     have HRr:=zH (Below.refl wr.heap.size wr)
     have HRd:=zH (Below.drew (Below.refl wr.heap.size wr))
     have HRa:=zH (fun (o:Obj)=>(Below.drew ((Below.refl wr.heap.size wr).alloc (zN _) o)))
     have HNB:=zH (show SBox ((wr.alloc (.cells #[.int .i64 0,.slice none 0 0] 44)).drew) wr.heap.size 0 (.slice none 0 0) from SBox.new wr 0 _)
     have HALL:=zH (And.intro hP (And.intro hH (And.intro hok (And.intro hge (And.intro hsl (And.intro hap (And.intro nB (And.intro hU (And.intro hbr (And.intro happ (And.intro hck (And.intro hcap (And.intro hLc (And.intro hbx (And.intro hcp hnl)))))))))))))))
     clear hP hH hok hge hsl hap nB hU happ hck hcap hLc hSB hFe hxln hi hx h0 hcp
     go_wp2_with fail
     go_region_held3 (fun W=>W.cell? ⟨w7.heap.size,0,none⟩=some (.int .i64 0)/\W.cell? ⟨w7.heap.size,1,none⟩=some (.slice av nl kv)/\W.cell? ⟨b,o+j * 4,none⟩=some (.int .i64 x.k)/\W.cell? ⟨b,o+j * 4+1,none⟩=some (.string (str x.p.h))/\W.cell? ⟨b,o+j * 4+2,none⟩=some (.bool x.p.s)/\W.cell? ⟨b,o+j * 4+3,none⟩=some (.int .i64 x.p.x)) (first|exact HK.out _ HRr.out|exact HK.out _ HRd.out|exact HK.out _ (HRa.out _)|exact HK.out _ (by assumption)|exact HK.out _ (HW2.out _)|exact HK.out _ ((hb2'.setCell (p:=⟨wr.heap.size,0,none⟩) (zN _) _).setCell (p:=⟨wr.heap.size,1,none⟩) (zN _) _)) (first
     |(go_at_call 15;go_must (refine (HCA.out _ (by first|exact HRd.out|exact HRa.out _)).mono ?_);rintro e w1 ⟨rfl,rfl⟩)
     |(go_at_call 14;go_must (refine (HAP.out _ (by first|exact HRd.out|exact HRa.out _)).mono ?_);rintro e w2 ⟨a2,c2,rfl,hs2,hb2,hn2⟩;have hb2':Below wr.heap.size wr w2:=(by first|exact HRd.out.trans hb2|exact (HRa.out _).trans (Below.mono hb2 (HRa.out _).size));have HW2:=zH (fun (o:Obj)=>hb2'.alloc hb2'.size o);(first|(have hbx9:SBox w2 wr.heap.size 0 (.slice none 0 0):=SBox.ext HNB.out hb2;obtain⟨z0,z1⟩:=SBox.cells hbx9;have zf0:=SBox.frz hbx9 0;have zf1:=SBox.frz hbx9 1;have zl:=za_a hbx9)|skip)))
     all_goals
      obtain⟨hP,hH,hok,hge,hsl,hap,nB,hU,hbr',happ,hck,hcap,hLc,hbx,hcp,hnl'⟩:=HALL.out
      first
      |(obtain⟨W3,hW3⟩:∃ W3,W3=w2.alloc (.cells #[.int .i64 ck,.slice a2 L'.length c2] 44):=⟨_,rfl⟩
        obtain⟨B3,hB3⟩:∃ B3,B3=w2.heap.size:=⟨_,rfl⟩
        have hx3:SBox W3 B3 ck (.slice a2 L'.length c2):=by rw [hW3,hB3];exact SBox.new w2 ck _
        have hb3:Below wr.heap.size wr W3:=by rw [hW3];exact hb2'.alloc hb2'.size _
        have hs3:SlN W3 a2 L'.length c2 L':=by rw [hW3];exact hs2.ext ((Below.refl _ _).alloc (zN _) _)
        have hB4:wr.heap.size<=B3:=by rw [hB3];exact hb2'.size
        have hn3:∀ x,a2=some x->(wr.heap.size<=x.block\/(a2=av/\L'=L)):=fun x hx=>hn2 x hx
        rw [<-hW3,<-hB3]
        clear hW3 hB3)
      |(obtain⟨W3,hW3⟩:∃ W3,W3=(w2.setCell ⟨wr.heap.size,0,none⟩ (.int .i64 ck)).setCell ⟨wr.heap.size,1,none⟩ (.slice a2 L'.length c2):=⟨_,rfl⟩
        obtain⟨B3,hB3⟩:∃ B3,B3=wr.heap.size:=⟨_,rfl⟩
        have hx3:SBox W3 B3 ck (.slice a2 L'.length c2):=by rw [hW3,hB3];exact SBox.set2 hbx9 ck _
        have hb3:Below wr.heap.size wr W3:=by rw [hW3];exact (hb2'.setCell (p:=⟨wr.heap.size,0,none⟩) (zN _) _).setCell (p:=⟨wr.heap.size,1,none⟩) (zN _) _
        have hs3:SlN W3 a2 L'.length c2 L':=by rw [hW3];exact hs2.setOldS hbx9 0 1 _ _
        have hB4:wr.heap.size<=B3:=by rw [hB3];exact zN _
        have hn3:∀ x,a2=some x->(wr.heap.size<=x.block\/(a2=av/\L'=L)):=fun x hx=>(hn2 x hx).imp (fun h=>Nat.le_trans (by simp) h) id
        rw [<-hW3,<-hB3]
        clear hW3 hB3)
      have hbr3:=hbr.trans (hb3.mono hbr.size)
      subst hnl'
      by_cases hz:z'=0
      ·subst hz
       obtain rfl:0=ck:=hck
       obtain⟨hI0,hI1,hI2,hI3⟩:True/\True/\True/\True:=⟨trivial,trivial,trivial,trivial⟩
       clear hI0 hI1 hI2 hI3
       have hP3:=hP.ext hb3
       have nB3:¬ F B3:=fun e=>by have:=hP.lt _ e;omega
       have hap3:∀ x,a2=some x->L' ≠ []->¬ F x.block:=fun x hx hl=>by
        rcases hn3 x hx with h|⟨h,h'⟩
        ·exact fun e=>by have:=hP.lt _ e;omega
        ·exact hap x (h ▸ hx) (h' ▸ hl)
       have HNX:=zH (fun (wA:World) (S1:Reg.St) (d1:Dk) (F1:Nat->Prop) (hPA:PS g q S1 d1 F1 wA) (hHA:Reg.Has N d1 S1 0 L') (hokA:Reg.Ok N S1) (hgA:S1.sup.gen<=1+(j+1)) (hUA:Upd F W3 F1 wA) =>
        MkI.next hPA hHA hokA hgA hUA hx3 (SBox.ext hbx hb3) hs3 nB3 nB hap3 (hU.ext hb3) hsz5)
       obtain⟨F3,p3,hFe,hDP3,hLB3,-,hSB3,-,-⟩:=hP3
       obtain⟨fr,hfr⟩:∃ fr,Extent.size S.log.c - (S.log.en:Int)=fr:=⟨_,rfl⟩
       have hfi:=hok.log.fits
       have hfl:=hH.fl
       go_wp2_with fail
       refine (zm_t hSB3 hLB3 hfi hfr).mono ?_;rintro e w4 ⟨rfl,hb4⟩
       obtain⟨-,-,j0',j1',j2',j3'⟩:=HK.out w4 (hb3.trans (hb4.mono hb3.size))
       clear hDP3
       have hP4:=(hP.ext hb3).ext hb4
       go_wp2_with fail
       rcases Reg.Has.append hH (u:=x) (by rw [<-hH.lay];exact happ) with⟨S1,d1,e1,hH1,hsup1,-⟩|⟨e1,hen⟩
       ·refine (zc_e hP4 hok x (by have:=HXL.out;omega) e1).mono ?_;rintro e wA ⟨rfl,F1,hPA,hUA⟩
        have hok1:Reg.Ok N S1:=by have:=(Reg.append_facts hok d x).1;rw [e1] at this;exact this
        obtain⟨⟨b0,b1,b2,b3,b4,b5⟩,hNX⟩:=HNX.out wA S1 d1 F1 hPA hH1 hok1 (by rw [hsup1];omega) ((Upd.of_ext hb4).trans hUA)
        clear hPA hUA hH1 hok1
        go_wp2_with fail
        go_roundw
        case rel=>exact⟨j+1,by go_num,by omega,hNX⟩
        case measure=>simp [intOf];omega
       ·refine (zc_e hP4 hok x (by have:=HXL.out;omega) e1).mono ?_;rintro e wA ⟨rfl,F1,hPA,hUA⟩
        have hPA':=hPA
        obtain⟨F5,p5,hFe5,hDP5,hLB5,-,hSB5,-,-⟩:=hPA
        go_wp2_with fail
        refine (zm_t hSB5 hLB5 hfi hfr).mono ?_;rintro e w6' ⟨rfl,hb6⟩
        have HFA:=zf_s (hSB5.ext hb6)
        rw [hfl] at HFA
        clear hDP5 hLB5 hSB5 hSB3 hLB3
        have hbx3:=SBox.ext hbx hb3
        have hUA':=(Upd.of_ext hb4).trans hUA
        have oB:=hUA'.out nB (za_a hbx3)
        have hbx6:=SBox.ext (hbx3.stay oB.2) hb6
        have hsl3:=hsl.ext hb3
        have hsl6:=(hsl3.stay (fun x hx hl=>(hUA'.out (hap x hx hl) (hsl3.blt' hx hl)).2) hUA'.size).ext hb6
        have hU6:Upd F0 w5 F1 w6':=((hU.ext hb3).trans hUA').ext hb6
        have hdN:=hH.quiet.len
        have hmx:=hok.max
        rcases Reg.Has.compact hH hH.st hH.cap (by omega) with⟨S2,d2',e2,hH2,hg2,hen2,-⟩
        have hok2:Reg.Ok N S2:=by have:=Reg.compact_ok hok hH.quiet.ok hdN 0 L;rw [e2] at this;exact this
        have HC:=zH (ze_g (hPA'.ext hb6) hok (by rw [hdN];exact hmx) 0 av L.length kv L hsl6 (fun p hp=>Nat.le_trans (Upt.hosts_len hH.st p hp) (by omega)) e2)
        go_wp2_with fail
        refine HFA.mono ?_;rintro e w7' ⟨rfl,rfl⟩
        obtain⟨y0',y1'⟩:=hbx6.cells
        go_wp2_with fail
        refine HC.out.mono ?_;rintro e w8' ⟨rfl,F2,hP8,hU8⟩
        have hU8':=hU6.trans hU8
        obtain⟨q0,q1,q2,q3⟩:=HIT.out w8' (hU8'.below hBw hF5 hBw.size)
        rcases Reg.Has.append hH2 (u:=x) (by rw [<-hH.lay];exact happ) with⟨S3,d3,e3,hH3,hsup3,-⟩|⟨-,hen⟩
        ·have hok3:Reg.Ok N S3:=by have:=(Reg.append_facts hok2 d2' x).1;rw [e3] at this;exact this
         clear y0' y1'
         go_wp2_with fail
         refine (zc_e hP8 hok2 x (by have:=HXL.out;omega) e3).mono ?_;rintro e wB ⟨rfl,F3',hPB,hUB⟩
         obtain⟨⟨b0,b1,b2,b3,b4,b5⟩,hNX⟩:=HNX.out wB S3 d3 F3' hPB hH3 hok3 (by rw [hsup3,hg2];omega) (((hUA'.ext hb6).trans hU8).trans hUB)
         clear hPB hUB hH3 hok3 hP8 hU8 hU8' hH2 hok2 hPA' hUA hUA' hbx3 hbx6 hsl3 hsl6 hU6 q0 q1 q2 q3
         go_wp2_with fail
         go_roundw
         case rel=>exact⟨j+1,by go_num,by omega,hNX⟩
         case measure=>simp [intOf];omega
        ·exact absurd hen2 hen
      ·have hMk:=MkI.skip (j:=j) hP hH hok hge hbx hsl hap nB hU hb3
       clear hP hH hok hge hsl hap nB hU happ hcap hLc hbx hx3 hs3
       go_wp2_with fail
       go_roundw
       case rel=>exact⟨j+1,by go_num,by omega,hMk⟩
       case measure=>simp [intOf];omega
   ·obtain rfl:j=m:=by omega
    obtain⟨F3,p3,hFe,hDP3,hLB3,-,hSB3,-,-⟩:=id hP
    have hdN:=hH.quiet.len
    have hmx:=hok.max
    rcases Reg.Has.compact hH hH.st hH.cap (by omega) with⟨S1,d1,e1,hH1,hg1,hen1,hVf1⟩
    have hok1:Reg.Ok N S1:=by have:=Reg.compact_ok hok hH.quiet.ok hdN 0 L;rw [e1] at this;exact this
    obtain⟨G,hG⟩:∃ G,S.sup.gen=G:=⟨_,rfl⟩
    have hGl:G<=41:=by omega
    have G0:(0:Int)<=(G:Int):=by omega
    have G1:(G:Int)<=41:=by omega
    have HC:=zH (ze_g hP hok (by rw [hdN];exact hmx) 0 av L.length kv L hsl (fun p hp=>Nat.le_trans (Upt.hosts_len hH.st p hp) (by omega)) e1)
    have HGE:=zb_u hSB3
    rw [hG] at HGE
    rw [hG] at hg1
    obtain⟨y0,y1⟩:=hbx.cells
    clear hDP3 hLB3 hSB3 hFe
    go_wp2_with fail
    refine HGE.mono ?_;rintro e w8 ⟨rfl,rfl⟩
    go_wp2_with fail
    refine HC.out.mono ?_;rintro e w9 ⟨rfl,F9,hP9,hU9⟩
    obtain⟨F10,p10,-,-,-,-,hSB9,-,-⟩:=id hP9
    have HG2:=zb_u hSB9
    rw [hg1,show ((G+1:Nat):Int)=(G:Int)+1 by omega] at HG2
    have hU9':=hU.trans hU9
    obtain⟨oB1,oB2⟩:=hU9.out nB (za_a hbx)
    have hbx9:=hbx.stay oB2
    have hsl9:=hsl.stay (fun x hx hl=>(hU9.out (hap x hx hl) (hsl.blt' hx hl)).2) hU9.size
    have hap9:∀ x,av=some x->L ≠ []->¬ F9 x.block:=fun x hx hl=>(hU9.out (hap x hx hl) (hsl.blt' hx hl)).1
    have hbr9:Below W0.heap.size W0 w9:=hU9'.below hBw hF5 hBw.size
    clear y0 y1 hbx hsl hap nB hU9 hU hP hH hok
    go_wp2_with fail
    refine HG2.mono ?_;rintro e w10 ⟨rfl,rfl⟩
    go_wp2_with fail
    have hUo:=HUX.out w9 hbr9
    obtain⟨F11,p11,hFe11,-,-,-,hSB11,-,-⟩:=id hP9
    have HCA:=zH (fun W (e:Below w9.heap.size w9 W)=>zc_y (hSB11.ext e))
    have hcap:S1.lay.cap<=1000:=by rw [hok1.lay];exact (Reg.fit_facts hfit).2.2.2.2.2.1
    have hLc:L.length<=S1.lay.cap:=by rw [hH1.lay];exact hH1.cap
    rcases happ:Upt.apply 0 L u S1.lay.cap with⟨L',z'⟩
    have HAP:=zH (fun (W:World) (e:SlN W av L.length kv L)=>show Calls Tryz.prog 14 #[.agg #[.int .i64 0,.slice av L.length kv],uv u,.int .i64 S1.lay.cap] W (RUApN av L 0 L' z' W) by
     have:=ze_k 0 av L.length kv L u S1.lay.cap W e (by omega) (fun p hp=>Nat.le_trans (Upt.hosts_len hH1.st p hp) (by omega)) (by omega)
     rw [happ] at this
     exact this)
    unfold RUApN sv uv uc at HAP
    obtain⟨ck,hck⟩:∃ ck,Upt.ack 0 z'=ck:=⟨_,rfl⟩
    rw [hck] at HAP
    obtain⟨cp,hcp⟩:∃ cp,S1.lay.cap=cp:=⟨_,rfl⟩
    rw [hcp] at HAP HCA happ
    obtain⟨nl,hnl⟩:∃ nl,L.length=nl:=⟨_,rfl⟩
    have hbx9':=hbx9
    rw [hnl] at HAP hbx9
    have HSL:=zH (fun W (e:Below w9.heap.size w9 W)=>hsl9.ext e)
    rw [hnl] at HSL
    obtain⟨y0,y1⟩:=hbx9.cells
    have hbl:=za_a hbx9
    have hul:=za_a hUo
    have HK:=zH (fun (W:World) (e:Below w9.heap.size w9 W)=>show W.cell? ⟨w7.heap.size,0,none⟩=some (.int .i64 0)/\W.cell? ⟨w7.heap.size,1,none⟩=some (.slice av nl kv)/\W.cell? ⟨w.heap.size,0,none⟩=some (.int .i64 u.k)/\W.cell? ⟨w.heap.size,1,none⟩=some (.string (str u.p.h))/\W.cell? ⟨w.heap.size,2,none⟩=some (.bool u.p.s)/\W.cell? ⟨w.heap.size,3,none⟩=some (.int .i64 u.p.x) from
     ⟨(SBox.cells (SBox.ext hbx9 e)).1,(SBox.cells (SBox.ext hbx9 e)).2,(hUo.ext e).cells⟩)
    have HRr:=zH (Below.refl w9.heap.size w9)
    have HRd:=zH (Below.drew (Below.refl w9.heap.size w9))
    have HRa:=zH (fun (o:Obj)=>(Below.drew ((Below.refl w9.heap.size w9).alloc (zN _) o)))
    have HNB:=zH (show SBox ((w9.alloc (.cells #[.int .i64 0,.slice none 0 0] 44)).drew) w9.heap.size 0 (.slice none 0 0) from SBox.new w9 0 _)
    have HALL:=zH (And.intro hP9 (And.intro hH1 (And.intro hok1 (And.intro hsl9 (And.intro hap9 (And.intro oB1 (And.intro hU9' (And.intro hbr9 (And.intro happ (And.intro hck (And.intro hbx9 (And.intro hcp (And.intro hnl (And.intro hen1 (And.intro hcap hLc)))))))))))))))
    have HLN:=zH hln
    clear hP9 hH1 hok1 hsl9 hap9 oB1 hU9' happ hck hcp hen1 hFe11 hSB11 hSB9 hcap hLc hg1 e1 hln HG2 hG
    go_region_held3 (fun W=>W.cell? ⟨w7.heap.size,0,none⟩=some (.int .i64 0)/\W.cell? ⟨w7.heap.size,1,none⟩=some (.slice av nl kv)/\W.cell? ⟨w.heap.size,0,none⟩=some (.int .i64 u.k)/\W.cell? ⟨w.heap.size,1,none⟩=some (.string (str u.p.h))/\W.cell? ⟨w.heap.size,2,none⟩=some (.bool u.p.s)/\W.cell? ⟨w.heap.size,3,none⟩=some (.int .i64 u.p.x)) (first|exact HK.out _ HRr.out|exact HK.out _ HRd.out|exact HK.out _ (HRa.out _)|exact HK.out _ (by assumption)|exact HK.out _ (HW2.out _)|exact HK.out _ ((hb2'.setCell (p:=⟨w9.heap.size,0,none⟩) (zN _) _).setCell (p:=⟨w9.heap.size,1,none⟩) (zN _) _)) (first
    |(go_at_call 15;go_must (refine (HCA.out _ (by first|exact HRd.out|exact HRa.out _)).mono ?_);rintro e w1 ⟨rfl,rfl⟩)
    |(go_at_call 14;go_must (refine (HAP.out _ (HSL.out _ (by first|exact HRd.out|exact HRa.out _))).mono ?_);rintro e w2 ⟨a2,c2,rfl,hs2,hb2,hn2⟩;have hb2':Below w9.heap.size w9 w2:=(by first|exact HRd.out.trans hb2|exact (HRa.out _).trans (Below.mono hb2 (HRa.out _).size));have HW2:=zH (fun (o:Obj)=>hb2'.alloc hb2'.size o);(first|(have hbx99:SBox w2 w9.heap.size 0 (.slice none 0 0):=SBox.ext HNB.out hb2;obtain⟨z0,z1⟩:=SBox.cells hbx99;have zf0:=SBox.frz hbx99 0;have zf1:=SBox.frz hbx99 1;have zl:=za_a hbx99)|skip)))
    all_goals
     obtain⟨hP9,hH1,hok1,hsl9,hap9,oB1,hU9',-,happ,hck,hbx9',hcp,hnl',hen1,hcap,hLc⟩:=HALL.out
     first
     |(obtain⟨W3,hW3⟩:∃ W3,W3=w2.alloc (.cells #[.int .i64 ck,.slice a2 L'.length c2] 44):=⟨_,rfl⟩
       have hb3:Below w9.heap.size w9 W3:=by rw [hW3];exact hb2'.alloc hb2'.size _
       rw [<-hW3]
       clear hW3)
     |(obtain⟨W3,hW3⟩:∃ W3,W3=(w2.setCell ⟨w9.heap.size,0,none⟩ (.int .i64 ck)).setCell ⟨w9.heap.size,1,none⟩ (.slice a2 L'.length c2):=⟨_,rfl⟩
       have hb3:Below w9.heap.size w9 W3:=by rw [hW3];exact (hb2'.setCell (p:=⟨w9.heap.size,0,none⟩) (zN _) _).setCell (p:=⟨w9.heap.size,1,none⟩) (zN _) _
       rw [<-hW3]
       clear hW3)
     clear hs2 hn2
     by_cases hz:z'=0
     ·subst hz
      obtain rfl:0=ck:=hck
      obtain⟨k0,k1,k2,k3,k4,k5⟩:=HK.out W3 hb3
      rcases Reg.Has.append hH1 (u:=u) (by rw [<-hH1.lay,hcp];exact happ) with⟨S2,d2',e2,hH2,hsup2,hVf2⟩|⟨-,hen⟩
      ·have hok2:Reg.Ok N S2:=by have:=(Reg.append_facts hok1 d1 u).1;rw [e2] at this;exact this
       have hP3:=hP9.ext hb3
       go_wp2_with fail
       refine (zc_e hP3 hok1 u (by have:=HLN.out;omega) e2).mono ?_;rintro e wA ⟨rfl,FA,hPA,hUA⟩
       obtain⟨FA0,pA,hFA,-,-,-,hSBA,-,-⟩:=id hPA
       have hbx3:=SBox.ext hbx9' hb3
       have hsl3:=hsl9.ext hb3
       subst hnl'
       obtain⟨oA1,oA2⟩:=hUA.out oB1 (za_a hbx3)
       have hbxA:=hbx3.stay oA2
       have hslA:=hsl3.stay (fun x hx hl=>(hUA.out (hap9 x hx hl) (hsl3.blt' hx hl)).2) hUA.size
       have hapA:∀ x,av=some x->L ≠ []->¬ FA x.block:=fun x hx hl=>(hUA.out (hap9 x hx hl) (hsl3.blt' hx hl)).1
       have hUA5:=(hU9'.ext hb3).trans hUA
       have hbrA:Below W0.heap.size W0 wA:=hUA5.below hBw hF5 hBw.size
       have hUoA:=HUX.out wA hbrA
       have HCA2:=zH (fun W (e:Below wA.heap.size wA W)=>zc_y (hSBA.ext e))
       rw [show S2.lay.cap=cp by rw [hok2.lay,<-hcp,hok1.lay]] at HCA2
       have HSL2:=zH (fun W (e:Below wA.heap.size wA W)=>hslA.ext e)
       have HT2:=zH (fun W (e:Below wA.heap.size wA W)=>SBox.ext hbxA e)
       obtain⟨y0',y1'⟩:=hbxA.cells
       have hblA:=za_a hbxA
       have hulA:=za_a hUoA
       obtain⟨m0,m1,m2,m3⟩:=hUoA.cells
       have HR1:=zH (Below.refl wA.heap.size wA)
       have HR2:=zH (Below.drew (Below.refl wA.heap.size wA))
       have HALL2:=zH (And.intro hPA (And.intro hH2 (And.intro hok2 (And.intro oA1 (And.intro hslA (And.intro hapA (And.intro hUA5 (And.intro hbrA hVf2))))))))
       clear hPA hH2 hok2 oA1 hslA hapA hUA5 hVf2 hUA hFA hSBA hbx3 hsl3 hP3 hP9 hH1 hok1 hsl9 hap9 oB1 hU9' hen1 hcap hLc k0 k1 k2 k3 k4 k5 hsup2 e2 hbx9' hbx9
       go_wp2_with fail
       go_region_law (go_simp;first
       |(go_at_call 15;go_must (refine (HCA2.out _ HR2.out).mono ?_);rintro e w1 ⟨rfl,rfl⟩)
       |(go_at_call 14;go_must (refine (HAP.out _ (HSL2.out _ HR2.out)).mono ?_);rintro e w22 ⟨a22,c22,rfl,hs22,hb22,hn22⟩;have hb22':Below wA.heap.size wA w22:=HR2.out.trans hb22;have hT22:=HT2.out w22 hb22';obtain⟨v0,v1⟩:=SBox.cells hT22;have g0:=SBox.frz hT22 0;have g1:=SBox.frz hT22 1;have gl:=za_a hT22))
       all_goals
        obtain⟨hPA,hH2,hok2,oA1,hslA,hapA,hUA5,hbrA,hVf2⟩:=HALL2.out
        have hbut22:But w7.heap.size w22 ((w22.setCell ⟨w7.heap.size,0,none⟩ (.int .i64 0)).setCell ⟨w7.heap.size,1,none⟩ (.slice a22 L'.length c22)):=((But.refl _ _).setCell 0 _).setCell 1 _
        have hbX:=SBox.set2 hT22 0 (.slice a22 L'.length c22)
        have hsX:=hs22.setOldS hT22 0 1 (.int .i64 0) (.slice a22 L'.length c22)
        obtain⟨WX,hWX⟩:∃ WX,WX=(w22.setCell ⟨w7.heap.size,0,none⟩ (.int .i64 0)).setCell ⟨w7.heap.size,1,none⟩ (.slice a22 L'.length c22):=⟨_,rfl⟩
        rw [<-hWX] at hbX hsX hbut22 ⊢
        clear hWX v0 v1 g0 g1
        obtain⟨FD,hD3,hUD⟩:=(hPA.ext hb22').forget
        have nBX:¬ FD w7.heap.size:=fun e=>by
         rcases hUD.new _ e with e|e
         ·exact oA1 e
         ·omega
        have hDX:=(DP.fp g d2').stay hD3 (fun k hk=>hbut22.block k (hD3.lt k hk) (fun e=>nBX (e ▸ hk))) hbut22.size
        have hUX:Upd F0 w5 FD WX:=((hUA5.ext hb22').trans hUD).but (.inr hsz5) hbut22
        have hapX:∀ x,a22=some x->L' ≠ []->¬ FD x.block:=fun x hx hl e=>by
         rcases hn22 x hx with h|⟨h,h'⟩
         ·have h:wA.heap.size<=x.block:=h
          rcases hUD.new _ e with e|e
          ·have:=hPA.lt _ e;omega
          ·have:=hs22.blt' hx hl;omega
         ·rcases hUD.new _ e with e|e
          ·exact hapA x (h ▸ hx) (h' ▸ hl) e
          ·have:=hs22.blt' hx hl;omega
        have hHX:=hH2
        have hVfX:=hVf2
        clear hPA hH2 hslA hapA hUA5 hT22 hs22 hD3 hUD
        go_wp2_with fail
        have hnX:=hHX.quiet.len
        obtain⟨hqX,hVX⟩:=Extent.restart_quiet hHX.quiet
        obtain⟨SX,dX,oX,-,-,-⟩:=Reg.Has.open hHX hqX (hVX.trans hVfX)
        refine (DP.restart hDX (SlP.nil _) (fun y hy=>by cases hy) rfl).mono ?_;rintro e wR ⟨rfl,FR,hDR,hUR⟩
        obtain⟨oR1,oR2⟩:=hUR.out nBX (za_a hbX)
        have hbR:=hbX.stay oR2
        have hsR:=hsX.stay (fun x hx hl=>(hUR.out (hapX x hx hl) (hsX.blt' hx hl)).2) hUR.size
        have hapR:∀ x,a22=some x->L' ≠ []->¬ FR x.block:=fun x hx hl=>(hUR.out (hapX x hx hl) (hsX.blt' hx hl)).1
        go_wp2_with fail
        refine (zf_k hDR (by rw [hqX.len];omega) oX).mono ?_;rintro e wO hop
        obtain⟨qO,aO,kO,FO,rfl,-,huO,hsO,-,-⟩:=OpQ.some hop
        clear hop
        obtain⟨oO1,oO2⟩:=huO.out oR1 (za_a hbR)
        have hbO:=hbR.stay oO2
        have hsO2:=hsR.stay (fun x hx hl=>(huO.out (hapR x hx hl) (hsR.blt' hx hl)).2) huO.size
        have hUO:=(hUX.trans hUR).trans huO
        have hbrO:Below W0.heap.size W0 wO:=hUO.below hBw hF5 hBw.size
        have hx19:=SBox.new wO 0 (.slice aO L'.length kO)
        have hb19:=(Below.refl wO.heap.size wO).alloc (zN _) (.cells #[.int .i64 0,.slice aO L'.length kO] 44)
        obtain⟨t0',t1'⟩:=hx19.cells
        obtain⟨t2',t3'⟩:=hbO.cells
        have hz19:=za_a hbO
        have HKS:=zf_m 0 0 aO a22 L'.length L'.length kO c22 L' L' _ (hsO.ext hb19) (hsO2.ext hb19)
        rw [show decide ((0:Int)=0/\L'=L')=true by simp] at HKS
        unfold sv at HKS
        have HKS':=zH HKS
        clear HKS hsO hsO2 hx19 hbO hsR hbR hbX hsX
        go_wp2_with fail
        refine HKS'.out.mono ?_;rintro e wK ⟨rfl,hbK⟩
        go_wp2_with fail
        refine (HA.out _).mono ?_;rintro e wE ⟨rfl,hbE⟩
        go_wp2_with fail
        go_ret
        have hBO:=hb0.trans (hbrO.mono hb0.size)
        have hB19:=hBO.trans (hb19.mono hBO.size)
        have hBK:=hB19.trans (Below.mono hbK hB19.size)
        exact⟨rfl,hBK.trans (hbE.mono hBK.size)⟩
      ·exact absurd hen1 hen
     ·have t6:(z' == 0)=false:=by simpa using hz
      obtain⟨FD,hD3,hUD⟩:=(hP9.ext hb3).forget
      go_wp2_with fail
      obtain⟨oD1,oD2⟩:¬ FD w7.heap.size/\True:=⟨fun e=>by rcases hUD.new _ e with e|e;exact oB1 e;have:=hb3.size;omega,trivial⟩
      subst hnl'
      have hDX:=hD3
      have hUX:Upd F0 w5 FD W3:=(hU9'.ext hb3).trans hUD
      have hbX:=SBox.ext hbx9' hb3
      have hsX:=hsl9.ext hb3
      have nBX:=oD1
      have hapX:∀ x,av=some x->L ≠ []->¬ FD x.block:=fun x hx hl e=>by
       rcases hUD.new _ e with e|e
       ·exact hap9 x hx hl e
       ·have:=hsX.blt' hx hl;omega
      have hHX:=hH1
      have hVfX:=hVf1
      have hnX:=hHX.quiet.len
      obtain⟨hqX,hVX⟩:=Extent.restart_quiet hHX.quiet
      obtain⟨SX,dX,oX,-,-,-⟩:=Reg.Has.open hHX hqX (hVX.trans hVfX)
      refine (DP.restart hDX (SlP.nil _) (fun y hy=>by cases hy) rfl).mono ?_;rintro e wR ⟨rfl,FR,hDR,hUR⟩
      obtain⟨oR1,oR2⟩:=hUR.out nBX (za_a hbX)
      have hbR:=hbX.stay oR2
      have hsR:=hsX.stay (fun x hx hl=>(hUR.out (hapX x hx hl) (hsX.blt' hx hl)).2) hUR.size
      have hapR:∀ x,av=some x->L ≠ []->¬ FR x.block:=fun x hx hl=>(hUR.out (hapX x hx hl) (hsX.blt' hx hl)).1
      go_wp2_with fail
      refine (zf_k hDR (by rw [hqX.len];omega) oX).mono ?_;rintro e wO hop
      obtain⟨qO,aO,kO,FO,rfl,-,huO,hsO,-,-⟩:=OpQ.some hop
      clear hop
      obtain⟨oO1,oO2⟩:=huO.out oR1 (za_a hbR)
      have hbO:=hbR.stay oO2
      have hsO2:=hsR.stay (fun x hx hl=>(huO.out (hapR x hx hl) (hsR.blt' hx hl)).2) huO.size
      have hUO:=(hUX.trans hUR).trans huO
      have hbrO:Below W0.heap.size W0 wO:=hUO.below hBw hF5 hBw.size
      have hx19:=SBox.new wO 0 (.slice aO L.length kO)
      have hb19:=(Below.refl wO.heap.size wO).alloc (zN _) (.cells #[.int .i64 0,.slice aO L.length kO] 44)
      obtain⟨t0',t1'⟩:=hx19.cells
      obtain⟨t2',t3'⟩:=hbO.cells
      have hz19:=za_a hbO
      have HKS:=zf_m 0 0 aO av L.length L.length kO kv L L _ (hsO.ext hb19) (hsO2.ext hb19)
      rw [show decide ((0:Int)=0/\L=L)=true by simp] at HKS
      unfold sv at HKS
      have HKS':=zH HKS
      clear HKS hsO hsO2 hx19 hbO hsR hbR hbX hsX
      go_wp2_with fail
      refine HKS'.out.mono ?_;rintro e wK ⟨rfl,hbK⟩
      go_wp2_with fail
      refine (HA.out _).mono ?_;rintro e wE ⟨rfl,hbE⟩
      go_wp2_with fail
      go_ret
      have hBO:=hb0.trans (hbrO.mono hb0.size)
      have hB19:=hBO.trans (hb19.mono hBO.size)
      have hBK:=hB19.trans (Below.mono hbK hB19.size)
      exact⟨rfl,hBK.trans (hbE.mono hBK.size)⟩
end Go.Proofs.YtmanejniepghlaaGreatDoor
