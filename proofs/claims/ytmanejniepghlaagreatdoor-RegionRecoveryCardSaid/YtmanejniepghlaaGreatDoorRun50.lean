import Derived.Test.YtmanejniepghlaaGreatDoorRun41
import Derived.Test.YtmanejniepghlaaGreatDoorRun49
import Derived.Test.YtmanejniepghlaaGreatDoorRun31
import Derived.Test.YtmanejniepghlaaGreatDoorRun19
import Derived.Test.YtmanejniepghlaaGreatDoorRun0
import Derived.Test.YtmanejniepghlaaGreatDoorRun40
import Derived.Test.YtmanejniepghlaaGreatDoorRun42
import Derived.Test.YtmanejniepghlaaGreatDoorRun22
import Derived.Test.YtmanejniepghlaaGreatDoorRun23
import Derived.Test.YtmanejniepghlaaGreatDoorRun45
import Derived.Test.YtmanejniepghlaaGreatDoorRun35
namespace Go.Proofs.YtmanejniepghlaaGreatDoor
section
open Go.RowKit
open Disk (Dk)
variable {w w':World} {g n p q:Nat} {d:Dk} {F:Nat->Prop} {S:Reg.St} {z:Int} {b x:List UInt8} {a:Option Addr}
abbrev RSB:=SBt 142
def RDP (g:Nat) (d:Dk) (F:Nat->Prop) (w:World):Prop:=∃ sb cb sc fa fn fc,RD F w g sb cb sc fa fn fc d
def RPS (g q:Nat) (S:Reg.St) (d:Dk) (F:Nat->Prop) (w:World):Prop:=∃ F0 p,F=P1 (P1 F0 p) q/\RDP g d F0 w/\RLB w p g S.log/\¬ F0 p/\RSB w q g p S/\¬ F0 q/\q ≠ p
theorem RDP.fp (g:Nat) (d:Dk):Fp (RDP g d) where
 stay:=fun ⟨s1,s2,s3,fa,fn,fc,h⟩ k hz=>⟨s1,s2,s3,fa,fn,fc,h.stay k hz⟩
 lt:=fun ⟨_,_,_,_,_,_,h⟩=>h.lt
theorem RDP.ok (h:RDP g d F w):d.Ok:=by obtain⟨_,_,_,_,_,_,h⟩:=h;exact h.ok
theorem RDP.ext (h:RDP g d F w) (e:Below w.heap.size w w'):RDP g d F w':=(RDP.fp g d).ext h e
theorem RDP.stay (h:RDP g d F w) (k:∀ b,F b->w'.heap[b]?=w.heap[b]?) (hz:w.heap.size<=w'.heap.size):RDP g d F w':=(RDP.fp g d).stay h k hz
theorem RDP.lt (h:RDP g d F w):∀ k,F k->k < w.heap.size:=(RDP.fp g d).lt h
section
variable {g:Nat} {d d':Dk} {F:Nat->Prop} {w:World}
theorem RDP.sectors (h:RDP g d F w):Calls Tryz.prog 76 #[.pointer g] w fun e w'=>e=.returned (.int .i64 (d.st.length:Nat))/\w=w':=by
 obtain⟨s1,s2,s3,fa,fn,fc,h⟩:=h;exact zg_k h
theorem RDP.read (h:RDP g d F w) (i:Int) (hr:Disk.read d i=(b,z,d')):Calls Tryz.prog 77 #[.pointer g,i] w fun e w'=>∃ v,e=.returned (.tuple #[v,z])/\OwnB w.heap.size w' v b/\RDP g d' F w'/\Upd F w F w':=by
 obtain⟨s1,s2,s3,fa,fn,fc,h⟩:=h
 refine (zb_v h i hr).mono fun e w' h'=>?_
 obtain⟨v,h1,h2,h3,h4⟩:=h'
 exact⟨v,h1,h2,⟨s1,s2,s3,fa,fn,fc,h3⟩,h4⟩
theorem RDP.eread (h:RDP g d F w) (f c off len:Int) (hf:ib f) (hc:ib c) (ho:ib off) (hl:ib len) (hr:Extent.read d f c off len=(b,z,d')) :
 Calls Tryz.prog 80 #[.pointer g,.agg #[f,c],off,len] w fun e w'=>∃ v,e=.returned (.tuple #[v,z])/\OwnB w.heap.size w' v b/\RDP g d' F w'/\Upd F w F w':=by
 obtain⟨s1,s2,s3,fa,fn,fc,h⟩:=h
 have h0:=zo_f h f c off len hf hc ho hl
 unfold RExReadPost at h0
 rw [hr] at h0
 refine h0.mono fun e w' h'=>?_
 obtain⟨v,h1,h2,h3,h4⟩:=h'
 exact⟨v,h1,h2,⟨s1,s2,s3,fa,fn,fc,h3⟩,h4⟩
def RWOP (g:Nat) (F:Nat->Prop) (w:World) (r:Option Wal.L × List (List UInt8) × Int × Dk) (e:Ending) (w':World):Prop :=
 ∃ pv v F',e=.returned (.tuple #[pv,v,r.2.2.1])/\OwnL w.heap.size w' v r.2.1/\RDP g r.2.2.2 F' w'/\Upd F w F' w' ∧
  ((r.1=none/\pv=.pointer none)\/∃ L p,r.1=some L/\pv=.pointer (p:Nat)/\w.heap.size<=p/\RLB w' p g L/\¬ F' p)
theorem RDP.wopen (h:RDP g d F w) (f c:Int) (hf:ib f) (hc:ib c) (ep:Nat) (hep:ep < 4294967296) (hn:d.st.length<=1000) {r:Option Wal.L × List (List UInt8) × Int × Dk} (hr:Wal.open d f c ep=r) :
 Calls Tryz.prog 83 #[.pointer g,.agg #[f,c],.int .u32 (ep:Nat)] w (RWOP g F w r):=by
 obtain⟨s1,s2,s3,fa,fn,fc,h⟩:=h
 have hno:=Wal.open_none (d:=d) (f:=f) (c:=c) (ep:=ep)
 have h0:=zs_n h f c hf hc ep hep hn
 rw [hr] at hno h0
 obtain⟨lo,ps,z,d'⟩:=r
 refine h0.mono ?_
 unfold RWOpenPost RWOP
 cases lo with
|none =>
  rintro e w' ⟨rfl,F',h1,h2⟩
  have e0:ps=[]:=hno rfl
  subst e0
  exact⟨_,_,F',rfl,OwnL.nil _ _,⟨s1,s2,s3,fa,fn,fc,h1⟩,h2,.inl ⟨rfl,rfl⟩⟩
|some L =>
  rintro e w' ⟨F',q,v,rfl,h1,h2,h3,h4⟩
  exact⟨_,v,F',rfl,h2,⟨s1,s2,s3,fa,fn,fc,h3.disk⟩,h4,.inr ⟨L,q,rfl,rfl,h1,h3.log,h3.apart⟩⟩
end
end
section
open Go.RowKit
open Disk (Dk)
variable {a:Option Addr} {c n:Nat}
section
variable {g:Nat} {d d':Dk} {F:Nat->Prop} {w:World}
theorem RDP.load (a:Option Addr) (k c:Nat) (l:List UInt8) (w:World) (h1:1<=k) (h2:k<=4096) (n:Nat) (hn:n=64 * k) (h:SlB w a n c l):Calls Tryz.prog 27 #[.slice a n c] w fun e w' =>
 ∃ g F,e=.returned (.tuple #[.pointer (g:Nat),.int .i64 0])/\RDP g (Disk.load k l) F w'/\(∀ k,F k->w.heap.size<=k)/\Below w.heap.size w w':=by
 subst hn
 refine (zs_j a k c l w h1 h2 h).mono fun e w' h'=>?_
 obtain⟨F,g,sb,cb,sc,h3,h4,h5,h6⟩:=h'
 exact⟨g,F,h3,⟨sb,cb,sc,none,0,0,h4⟩,h5,h6⟩
end
end
section
open Go.RowKit
open Disk (Dk)
variable {W w wr wr':World} {B B10 B5 b base g n p:Nat} {F F' F10:Nat->Prop} {d d':Dk} {z:Int} {l:Reg.Lay} {sp:Super.S} {lg:Wal.L} {ps:List (List UInt8)} {vr:Value}
def ROpQ (g n:Nat) (F:Nat->Prop) (w:World) (R:Reg.Res) (e:Ending) (w':World):Prop :=
 match R with
|(none,_,z,d')=>z ≠ 0/\∃ F',e=.returned (.tuple #[.pointer none,.agg #[.int .i64 0,.slice none 0 0],z])/\RDP g d' F' w'/\Upd F w F' w'
|(some S,(c,L),z,d')=>z=0/\∃ q a k F',e=.returned (.tuple #[.pointer (q:Nat),.agg #[c,.slice a L.length k],z])/\RPS g q S d' F' w'/\Upd F w F' w'/\SlN w' a L.length k L/\(∀ x,a=some x->L ≠ []->¬ F' x.block/\w.heap.size<=x.block) ∧
  Reg.Ok n S/\Upt.stValid c L=true/\L.length<=S.lay.cap/\w.heap.size<=q
theorem RDP.set (h:RDP g d F w) (hb:¬ F b) (o:Nat) (v:Value):RDP g d F (w.setCell (b o) v) :=
 h.stay (fun k hk=>heap_setCell_other _ _ _ _ (by rintro rfl;exact hb hk)) (by simp)
theorem RDP.but {w':World} (h:RDP g d F w) (hb:¬ F b) (k:But b w w'):RDP g d F w' :=
 h.stay (fun x hx=>k.block x (h.lt x hx) (by rintro rfl;exact hb hx)) k.size
theorem ROpQ.err (hz:z ≠ 0) (hd:RDP g d' F' W) (hu:Upd F w F' W) (nB:¬ F' w.heap.size) (c' v':Value) :
 ROpQ g n F w (Reg.bad z d') (.returned (.tuple #[.pointer none,.agg #[.int .i64 0,.slice none 0 0],z])) ((W.setCell w.heap.size c').setCell (w.heap.size 1) v') :=
 ⟨hz,F',rfl,(hd.set nB _ _).set nB _ _,(hu.setCell (.inr (zN _)) _ _).setCell (.inr (zN _)) _ _⟩
theorem ROpQ.errD (hz:z ≠ 0) (hd:RDP g d' F' W) (hu:Upd F w F' W) (nB:¬ F' w.heap.size) (c' v':Value) :
 ROpQ g n F w (Reg.bad z d') (.returned (.tuple #[.pointer none,.agg #[.int .i64 0,.slice none 0 0],z])) ((W.setCell w.heap.size c').setCell (w.heap.size 1) v').drew :=
 ⟨hz,F',rfl,((hd.set nB _ _).set nB _ _).ext (Below.drew (Below.refl _ _)),((hu.setCell (.inr (zN _)) _ _).setCell (.inr (zN _)) _ _).drew⟩
theorem ROpQ.errA (hz:z ≠ 0) (hd:RDP g d' F' W) (hu:Upd F w F' W) (nB:¬ F' w.heap.size) (c' v':Value) (o:Obj) :
 ROpQ g n F w (Reg.bad z d') (.returned (.tuple #[.pointer none,.agg #[.int .i64 0,.slice none 0 0],z])) (((W.setCell w.heap.size c').setCell (w.heap.size 1) v').alloc o) :=
 ⟨hz,F',rfl,((hd.set nB _ _).set nB _ _).ext ((Below.refl _ _).alloc (zN _) _),((hu.setCell (.inr (zN _)) _ _).setCell (.inr (zN _)) _ _).alloc o⟩
theorem RWOP.ptr {lo:Option Wal.L} {pv:Value} {P:Wal.L->Nat->Prop} (h:(lo=none/\pv=.pointer none)\/∃ L p,lo=some L/\pv=.pointer (p:Nat)/\P L p):∃ o,pv=.pointer o:=by
 rcases h with⟨-,rfl⟩|⟨L,p,-,rfl,-⟩ <;> exact⟨_,rfl⟩
def LBx (w:World) (b:Nat) (l:Reg.Lay):Prop:=w.heap[b]?=some (.cells (layc l) 26 (0,0))
theorem LBx.rc {r:Nat} (h:LBx w b l) (hr:r < 2):w.cell? b=some (l.cap:Value)/\w.cell? (b (1+r * 2))=some (.int .i64 (l.sf r))/\w.cell? (b (1+r * 2+1))=some (l.sc:Value)/\w.cell? (b (5+r * 2))=some (.int .i64 (l.lf r))/\w.cell? (b (5+r * 2+1))=some (l.lc:Value):=by
 have hh:=fun k=>cell_of_row _ _ k _ _ _ h
 refine⟨hh 0,?_,?_,?_,?_⟩
 all_goals
  rcases (show r=0\/r=1 by omega) with e|e
 ·subst e;exact hh 1
 ·subst e;exact hh 3
 ·subst e;exact hh 2
 ·subst e;exact hh 4
 ·subst e;exact hh 5
 ·subst e;exact hh 7
 ·subst e;exact hh 6
 ·subst e;exact hh 8
structure ROpI (g p B5 B10 B base:Nat) (F F10:Nat->Prop) (l:Reg.Lay) (sp:Super.S) (lg:Wal.L) (ps:List (List UInt8)) (vr:Value) (d:Dk) (w wr:World):Prop where
 dp:RDP g d F10 wr
 lb:RLB wr p g lg
 ly:LBx wr B5 l
 su:SupBox wr B10 sp
 bx:SBox wr B 0 (.slice none 0 0)
 rc:OwnL base wr vr ps
 up:Upd F w F10 wr
theorem ROpI.ext (h:ROpI g p B5 B10 B base F F10 l sp lg ps vr d w wr) (e:Below wr.heap.size wr wr'):ROpI g p B5 B10 B base F F10 l sp lg ps vr d w wr' :=
 ⟨h.dp.ext e,h.lb.ext e,(e.block _ (za_a h.ly)).trans h.ly,(e.block _ (za_a h.su)).trans h.su,h.bx.ext e,h.rc.ext e,h.up.ext e⟩
theorem ROpI.but {T:Nat} (h:ROpI g p B5 B10 B base F F10 l sp lg ps vr d w wr) (k:But T wr wr') (h1:¬ F10 T) (h2:p ≠ T) (h3:B5 ≠ T) (h4:B10 ≠ T) (h5:B ≠ T) (h6:T < base) (h7:w.heap.size<=T):ROpI g p B5 B10 B base F F10 l sp lg ps vr d w wr' :=
 ⟨h.dp.but h1 k,h.lb.same (k.block _ h.lb.lt h2),(k.block _ (za_a h.ly) h3).trans h.ly,(k.block _ (za_a h.su) h4).trans h.su,h.bx.but h5 k,h.rc.keep (fun x x1 x2=>k.block x x2 (by omega)),h.up.but (.inr h7) k⟩
def ROpT (g p B5 B10 B base T:Nat) (F F10:Nat->Prop) (l:Reg.Lay) (sp:Super.S) (lg:Wal.L) (ps:List (List UInt8)) (vr:Value) (d:Dk) (w:World) (c:Int) (Res:Option (List Pin)) (k:Nat) (wr:World):Prop :=
 ROpI g p B5 B10 B base F F10 l sp lg ps vr d w wr/\∃ a n m L,SBox wr T c (.slice a n m)/\SlN wr a n m L/\Reg.replay l.cap c L (ps.drop k)=Res/\Upt.stValid c L=true/\L.length<=l.cap/\(∀ x,a=some x->L ≠ []->¬ F10 x.block/\x.block ≠ p/\x.block ≠ T/\x.block ≠ B/\w.heap.size<=x.block)
set_option maxRecDepth 100000 in
set_option maxHeartbeats 64000000 in
theorem zs_p (hd:RDP g d F w) (hn:d.st.length<=1000) {R:Reg.Res} (hR:Reg.openS d=R) :
 Calls Tryz.prog 29 #[.pointer g] w (ROpQ g d.st.length F w R):=by
 have hBF:=hd.lt
 have nB:¬ F w.heap.size:=fun e=>Nat.lt_irrefl _ (hBF _ e)
 obtain⟨W0,hW0⟩:∃ W0,W0=w.alloc (.cells #[.int .i64 0,.slice none 0 0] 44):=⟨_,rfl⟩
 have hb0:Below w.heap.size w W0:=by rw [hW0];exact (Below.refl _ _).alloc (zN _) _
 have hB0:SBox W0 w.heap.size 0 (.slice none 0 0):=by rw [hW0];exact SBox.new w 0 _
 have HW0:=zH hW0
 clear hW0
 have hpl:=zf_g false (d.st.length:Nat) W0
 rw [show ((d.st.length:Nat):Int).toNat=d.st.length by omega] at hpl
 have HSEC:=zH (hd.ext hb0).sectors
 unfold Reg.openS at hR
 by_cases hfit:Reg.fit d.st.length=false
 ·rw [if_pos hfit] at hR
  subst hR
  rw [(zb_p hfit).1,(zb_p hfit).2] at hpl
  unfold lay0 layv at hpl
  have HP:=zH hpl
  clear hpl hfit
  go_enter Tryz.func29,Tryz.ntmps29
  go_wp2_with fail
  rw [<-HW0.out]
  refine HSEC.out.mono ?_;rintro e w1 ⟨rfl,rfl⟩
  go_wp2_with fail
  refine HP.out.mono ?_;rintro e w2 ⟨rfl,hb2⟩
  have hB2:=hB0.ext hb2
  have hlt2:=za_a hB2
  obtain⟨x0,x1⟩:=hB2.cells
  have f0:=SBox.frz hB2 0
  have f1:=SBox.frz hB2 1
  go_wp2_with fail
  have hE0:=SBox.set2 hB2 0 (.slice none 0 0)
  obtain⟨W3,hW3⟩:∃ W3,W3=(w2.setCell w.heap.size (.int .i64 0)).setCell (w.heap.size 1) (.slice none 0 0):=⟨_,rfl⟩
  have hk3:But w.heap.size w2 W3:=by rw [hW3];exact ((But.refl _ _).setCell 0 _).setCell 1 _
  rw [<-hW3] at hE0
  rw [<-hW3]
  clear hW3
  have hb4:=(Below.refl W3.heap.size W3).alloc (zN _) (.cells #[.int .i64 0,.int .i64 0,.int .i64 0,.int .i64 0,.int .i64 0,.int .i64 0,.int .i64 0,.int .i64 0,.int .i64 0] 26)
  have hE:=hE0.ext hb4
  obtain⟨e0,e1⟩:=hE.cells
  refine bodyPost_ret (v:=.tuple #[.pointer none,.agg #[.int .i64 0,.slice none 0 0],.int .i64 2]) (by simp [results,Tryz.results29,go_sem,e0,e1]) rfl ?_
  exact⟨by decide,F,rfl,(((hd.ext hb0).ext hb2).but nB hk3).ext hb4,((Upd.of_ext (hb0.trans (hb2.mono hb0.size))).but (.inr (zN _)) hk3).ext hb4⟩
 ·rw [if_neg hfit] at hR
  have hfit':Reg.fit d.st.length=true:=by simpa using hfit
  rw [(zc_o hfit').1,(zc_o hfit').2] at hpl
  obtain⟨l,hl⟩:∃ l,Reg.plan d.st.length=l:=⟨_,rfl⟩
  rw [hl] at hpl hR
  unfold layc at hpl
  have HP:=zH hpl
  have HL:=zH hl
  clear hpl hfit hl
  rcases h0:Disk.read d 0 with⟨ba,z0,e0⟩
  unfold Reg.open1 at hR
  rw [h0] at hR
  dsimp only at hR
  have HR0:=zH (fun W F' (h:RDP g d F' W)=>h.read 0 h0)
  have n0:e0.st.length=d.st.length:=by have:=(Disk.read_st d 0).1;rw [h0] at this;exact congrArg List.length this
  clear h0
  go_enter Tryz.func29,Tryz.ntmps29
  go_wp2_with fail
  rw [<-HW0.out]
  refine HSEC.out.mono ?_;rintro e w1 ⟨rfl,rfl⟩
  go_wp2_with fail
  refine HP.out.mono ?_;rintro e w2 ⟨rfl,hb2⟩
  go_wp2_with fail
  obtain⟨W3,hW3⟩:∃ W3,W3=w2.alloc (.cells (layc l) 26):=⟨_,rfl⟩
  have hb3:Below W0.heap.size W0 W3:=by rw [hW3];exact hb2.alloc hb2.size _
  have hL3:LBx W3 w2.heap.size l:=by unfold LBx;rw [hW3];exact za_b _ _ _ rfl
  have HW3:=zH hW3
  unfold layc at HW3
  rw [<-HW3.out]
  clear hW3
  have hB3:=hB0.ext hb3
  have hD3:RDP g d F W3:=(hd.ext hb0).ext hb3
  have hU3:Upd F w F W3:=Upd.of_ext (hb0.trans (hb3.mono hb0.size))
  have hz3:w.heap.size<=w2.heap.size:=Nat.le_trans hb0.size hb2.size
  refine (HR0.out _ _ hD3).mono ?_;rintro e w4 ⟨v4,rfl,hO4,hD4,hU4⟩
  obtain⟨a4,c4,rfl,hs4,hn4⟩:=hO4.sl
  have hB4:=hB3.stay (hU4.block _ (za_a hB3) nB)
  have hV4:=hU3.trans hU4
  by_cases hz0:z0=0
  ·subst hz0
   rw [if_neg (by simp)] at hR
   rcases h1:Disk.read e0 1 with⟨bb,z1,e1⟩
   unfold Reg.open2 at hR
   rw [h1] at hR
   dsimp only at hR
   have HR1:=zH (hD4.read 1 h1)
   have n1:e1.st.length=d.st.length:=by have:=(Disk.read_st e0 1).1;rw [h1] at this;exact (congrArg List.length this).trans n0
   clear h1
   go_wp2_with fail
   refine HR1.out.mono ?_;rintro e w5 ⟨v5,rfl,hO5,hD5,hU5⟩
   obtain⟨a5,c5,rfl,hs5,-⟩:=hO5.sl
   have hB5:=hB4.stay (hU5.block _ (za_a hB4) nB)
   have hV5:=hV4.trans hU5
   by_cases hz1:z1=0
   ·subst hz1
    rw [if_neg (by simp)] at hR
    have hs45:=hs4.upd hU5 (fun y hy _ e=>by have:=(hn4 y hy).2.1;have:=hBF _ e;have:=hU3.size;omega)
    rcases hch:Super.choose ba bb with⟨sl,sp,zc⟩
    have hco:=zj_a false a4 a5 ba.length bb.length c4 c5 ba bb w5 hs45 hs5
    unfold ChoosePost supv at hco
    rw [hch] at hco
    have HCO:=zH hco
    clear hco
    go_wp2_with fail
    refine HCO.out.mono ?_;rintro e w6 ⟨rfl,hb6⟩
    go_wp2_with fail
    obtain⟨W7,hW7⟩:∃ W7,W7=w6.alloc (.cells #[.int .u64 (sp.gen:Nat),sp.act,.int .u32 (sp.epoch:Nat),sp.len,.int .u32 (sp.sum:Nat)] 94):=⟨_,rfl⟩
    have hb7:Below w5.heap.size w5 W7:=by rw [hW7];exact hb6.alloc hb6.size _
    have hP7:SupBox W7 w6.heap.size sp:=by unfold SupBox;rw [hW7];exact za_b _ _ _ rfl
    rw [<-hW7]
    clear hW7
    have hB7:=hB5.ext hb7
    have hD7:=hD5.ext hb7
    have hV7:=hV5.ext hb7
    have hU37:Upd F W3 F W7:=(hU4.trans hU5).ext hb7
    have hL7:LBx W7 w2.heap.size l:=(hU37.kept hBF hz3 (za_a hL3)).trans hL3
    by_cases hzc:zc=0
    ·subst hzc
     obtain⟨hsl,hval,hfits⟩:=Super.choose_facts hch
     have hav:=Reg.act_lt hval
     obtain⟨r,hr⟩:∃ r,sp.act.toNat=r:=⟨_,rfl⟩
     rw [hr] at hav
     have hlenb:0<=sp.len/\sp.len<=262144:=by
      simp only [Super.valid,Bool.and_eq_true,decide_eq_true_eq] at hval;omega
     obtain⟨i1,i3,i2,i4,m,hm,hsz,-⟩:=zk_y hfit' r hav.2
     rw [HL.out] at i1 i2 i3 i4 hsz
     have hsc:Extent.size l.sc<=100000:=by
      have:=Reg.fit_facts hfit'
      rw [HL.out] at this
      unfold Reg.Lay.sc;rw [Extent.size_nat _ (by omega)];omega
     obtain⟨ssz,hssz⟩:∃ ssz,Extent.size l.sc=ssz:=⟨_,rfl⟩
     have r0:(0:Int)<=(r:Int):=by omega
     have r1:(r:Int) < 2:=by omega
     have HSZ:=zH (fun W=>show Calls Tryz.prog 79 #[.agg #[.int .i64 (l.sf r),l.sc]] W fun e w'=>e=.returned (ssz:Value)/\Below W.heap.size W w' by rw [<-hssz];exact zj_u _ _ i2 W)
     have HC1:=zH (fun (W:World) (F':Nat->Prop) (u:Upd F W7 F' W)=>show W.cell? (w6.heap.size 1)=some (r:Value)/\W.cell? (w6.heap.size 3)=some (sp.len:Value)/\W.cell? (w2.heap.size (1+r * 2))=some (.int .i64 (l.sf r))/\W.cell? (w2.heap.size (1+r * 2+1))=some (l.sc:Value) from by
      have h1:=(u.kept hBF (k:=w6.heap.size) (by have:=hV5.size;have:=hb6.size;omega) (za_a hP7)).trans hP7
      have h2:LBx W w2.heap.size l:=(u.kept hBF hz3 (za_a hL7)).trans hL7
      have h3:=h2.rc hav.2
      exact⟨(cell_of_row _ _ 1 _ _ _ h1).trans (by rw [<-hav.1];rfl),cell_of_row _ _ 3 _ _ _ h1,h3.2.1,h3.2.2.1⟩)
     have hu7:Upd F W7 F W7:=Upd.refl _ _
     have hu7d:Upd F W7 F W7.drew:=hu7.drew
     unfold Reg.open3 at hR
     rw [hch] at hR
     dsimp only at hR
     rw [if_neg (by simp),hr,hssz] at hR
     by_cases hbig:ssz < sp.len
     ·rw [if_pos hbig] at hR
      subst hR
      have t1:decide (ssz < sp.len)=true:=by simpa using hbig
      go_wp2_with fail
      go_region_held3 (fun W=>W.cell? (w6.heap.size 1)=some (r:Value)/\W.cell? (w6.heap.size 3)=some (sp.len:Value)/\W.cell? (w2.heap.size (1+r * 2))=some (.int .i64 (l.sf r))/\W.cell? (w2.heap.size (1+r * 2+1))=some (l.sc:Value)) (first|exact HC1.out _ _ (by assumption)) (first
      |(go_at_call 79;go_must (refine (HSZ.out _).mono ?_);rintro e w8 ⟨rfl,hb8'⟩;have hb8:Below W7.heap.size W7 w8:=(Below.drew (Below.refl _ W7)).trans hb8';have hu8:Upd F W7 F w8:=hu7.ext hb8))
      have hB8:=hB7.ext hb8
      obtain⟨x0,x1⟩:=hB8.cells
      have f0:=SBox.frz hB8 0
      have f1:=SBox.frz hB8 1
      go_wp2_with fail
      refine ret3 rfl rfl rfl (SBox.set2 hB8 0 (.slice none 0 0)) rfl rfl ?_
      exact ROpQ.err (by decide) (hD7.ext hb8) (hV7.ext hb8) nB _ _
     ·rw [if_neg hbig] at hR
      have t1:decide (ssz < sp.len)=false:=by simpa using hbig
      have t1':sp.len<=ssz:=by omega
      rcases hrd:Extent.read e1 (l.sf r) l.sc 0 sp.len with⟨x,z2,e2⟩
      unfold Reg.open4 at hR
      rw [hrd,hr] at hR
      dsimp only at hR
      have n2:e2.st.length=d.st.length:=by have:=Extent.read_st e1 (l.sf r) l.sc 0 sp.len;rw [hrd] at this;exact this.trans n1
      go_wp2_with fail
      go_region_held3 (fun W=>W.cell? (w6.heap.size 1)=some (r:Value)/\W.cell? (w6.heap.size 3)=some (sp.len:Value)/\W.cell? (w2.heap.size (1+r * 2))=some (.int .i64 (l.sf r))/\W.cell? (w2.heap.size (1+r * 2+1))=some (l.sc:Value)) (first|exact HC1.out _ _ (by assumption)) (first
      |(go_at_call 79;go_must (refine (HSZ.out _).mono ?_);rintro e w8 ⟨rfl,hb8'⟩;have hb8:Below W7.heap.size W7 w8:=(Below.drew (Below.refl _ W7)).trans hb8';have hu8:Upd F W7 F w8:=hu7.ext hb8))
      have hB8:=hB7.ext hb8
      have HRD:=zH (((hD7.ext hb8).ext (Below.drew (Below.refl _ w8))).eread (l.sf r) l.sc 0 sp.len i1 i2 (by unfold ib;omega) (by unfold ib;omega) hrd)
      have hu8d:Upd F W7 F w8.drew:=hu8.drew
      go_wp2_with fail
      go_region_held3 (fun W=>W.cell? (w6.heap.size 1)=some (r:Value)/\W.cell? (w6.heap.size 3)=some (sp.len:Value)/\W.cell? (w2.heap.size (1+r * 2))=some (.int .i64 (l.sf r))/\W.cell? (w2.heap.size (1+r * 2+1))=some (l.sc:Value)) (first|exact HC1.out _ _ (by assumption)) (first
      |(go_at_call 80;go_must (refine HRD.out.mono ?_);rintro e w9 ⟨v9,rfl,hO9,hD9,hU9'⟩;have hu9:Upd F W7 F w9:=hu8d.trans hU9';obtain⟨a9,c9,rfl,hs9,hn9⟩:=hO9.sl))
      have hB9:SBox w9 w.heap.size 0 (.slice none 0 0):=(hu9.block _ (za_a hB7) nB).trans hB7
      have hV9:=hV7.trans hu9
      by_cases hz2:z2=0
      ·subst hz2
       rw [if_neg (by simp)] at hR
       have hxl:x.length<=100000:=by have:=(Extent.read_len hD7.ok hrd).1;omega
       obtain⟨xl,hxl0⟩:∃ xl,x.length=xl:=⟨_,rfl⟩
       rw [hxl0] at hs9 hxl
       rw [hxl0]
       have HDE:=zH (zd_m false a9 xl c9 x w9 hs9 hxl)
       unfold SDecN at HDE
       rcases hdc:Snap.dec x with⟨⟨c,L⟩,z3⟩
       rw [hdc] at HDE hR
       dsimp only at HDE hR
       have hdl:L.length<=1000\/z3 ≠ 0:=by
        by_cases h3:z3=0
        ·subst h3
         left
         exact ((Upt.stValid_iff c L).1 (Snap.enc_dec hdc).1).2.2.1
        ·exact .inr h3
       obtain⟨nl,hnl⟩:∃ nl,L.length=nl:=⟨_,rfl⟩
       rw [hnl] at HDE hR
       obtain⟨cr,hcr⟩:∃ cr,Crc.update 0 x=cr:=⟨_,rfl⟩
       have hcr2:Reg.crc x=cr:=hcr
       rw [hcr2] at hR
       go_wp2_with fail
       refine HDE.out.mono ?_;rintro e w10 ⟨a10,c10,rfl,hs10,hb10,hn10⟩
       go_wp2_with fail
       obtain⟨W11,hW11⟩:∃ W11,W11=w10.alloc (.cells #[c,.slice a10 nl c10] 44):=⟨_,rfl⟩
       have hb10':Below w9.heap.size w9 w10:=hb10
       have hb11:Below w9.heap.size w9 W11:=by rw [hW11];exact hb10'.alloc hb10'.size _
       have hT11:SBox W11 w10.heap.size c (.slice a10 nl c10):=by rw [hW11];exact SBox.new w10 c _
       have hs11:SlN W11 a10 nl c10 L:=by rw [hW11];exact hs10.ext ((Below.refl _ _).alloc (zN _) _)
       rw [<-hW11]
       clear hW11
       have hu11:Upd F W7 F W11:=hu9.ext hb11
       have hD11:=hD9.ext hb11
       have hB11:=hB9.ext hb11
       have hV11:=hV9.ext hb11
       have HSU:=zH (fun W (h:Below W11.heap.size W11 W)=>show Calls Tryz.prog 82 #[.slice a9 xl c9] W fun e w'=>e=.returned (.int .u32 (cr:Nat))/\W=w' by rw [<-hcr];exact zh_f a9 xl c9 x W ((hs9.ext hb11).ext h))
       have HC2:=zH (fun (W:World) (e:Below W11.heap.size W11 W)=>show W.cell? (w6.heap.size 4)=some (.int .u32 (sp.sum:Nat))/\W.cell? (w10.heap.size 1)=some (.slice a10 nl c10)/\W.cell? w2.heap.size=some (l.cap:Value) from by
        have h1:=((hu11.ext e).kept hBF (k:=w6.heap.size) (by have:=hV5.size;have:=hb6.size;omega) (za_a hP7)).trans hP7
        have h2:LBx W w2.heap.size l:=((hu11.ext e).kept hBF hz3 (za_a hL7)).trans hL7
        exact⟨cell_of_row _ _ 4 _ _ _ h1,(SBox.cells (hT11.ext e)).2,(h2.rc hav.2).1⟩)
       have HR1:=zH (Below.refl W11.heap.size W11)
       have HR2:=zH (Below.drew (Below.refl W11.heap.size W11))
       have hB12:=hB11.ext HR2.out
       have hD12:=hD11.ext HR2.out
       have hV12:=hV11.ext HR2.out
       by_cases hsum:cr=sp.sum
       ·have t3:((cr:Int) != (sp.sum:Int))=false:=by simp [hsum]
        by_cases hz3:z3=0
        ·subst hz3
         by_cases hcp:l.cap < nl
         ·rw [if_pos (.inr (.inr hcp))] at hR
          subst hR
          have t4:decide ((l.cap:Int) < (nl:Int))=true:=by simp;omega
          go_wp2_with fail
          go_region_held3 (fun W=>W.cell? (w6.heap.size 4)=some (.int .u32 (sp.sum:Nat))/\W.cell? (w10.heap.size 1)=some (.slice a10 nl c10)/\W.cell? w2.heap.size=some (l.cap:Value)) (first|exact HC2.out _ HR1.out|exact HC2.out _ HR2.out) (first
          |(go_at_call 82;go_must (refine (HSU.out _ HR2.out).mono ?_);rintro e w12 ⟨rfl,rfl⟩))
          obtain⟨x0,x1⟩:=hB11.cells
          have f0:=SBox.frz hB11 0
          have f1:=SBox.frz hB11 1
          go_wp2_with fail
          refine ret3 rfl rfl rfl (SBox.set2 hB11 0 (.slice none 0 0)) rfl rfl ?_
          exact ROpQ.errD (by decide) hD11 hV11 nB _ _
         ·rw [if_neg (by rintro (h|h|h);exact h hsum;exact h rfl;exact hcp h)] at hR
          have t4:decide ((l.cap:Int) < (nl:Int))=false:=by simp;omega
          have t4':(nl:Int)<=(l.cap:Int):=by omega
          go_wp2_with fail
          go_region_held3 (fun W=>W.cell? (w6.heap.size 4)=some (.int .u32 (sp.sum:Nat))/\W.cell? (w10.heap.size 1)=some (.slice a10 nl c10)/\W.cell? w2.heap.size=some (l.cap:Value)) (first|exact HC2.out _ HR1.out|exact HC2.out _ HR2.out) (first
          |(go_at_call 82;go_must (refine (HSU.out _ HR2.out).mono ?_);rintro e w12 ⟨rfl,rfl⟩))
          have hu12:Upd F W7 F W11.drew:=hu11.drew
          have hT12:=hT11.ext HR2.out
          have hs12:=hs11.ext HR2.out
          have hW7lt:=za_a hP7
          have hP12:SupBox W11.drew w6.heap.size sp:=(hu12.kept hBF (k:=w6.heap.size) (by have:=hV5.size;have:=hb6.size;omega) hW7lt).trans hP7
          have hL12:LBx W11.drew w2.heap.size l:=(hu12.kept hBF hz3 (za_a hL7)).trans hL7
          have hz10:w.heap.size<=w10.heap.size:=by have:=hV9.size;have:=hb10'.size;omega
          have hz6:w.heap.size<=w6.heap.size:=by have:=hV5.size;have:=hb6.size;omega
          have hz26:w2.heap.size < w6.heap.size:=by have h1:=za_a hL3;have h2:=hU4.size;have h3:=hU5.size;have h4:=hb6.size;omega
          have hz610:w6.heap.size < w10.heap.size:=by have h1:=hu9.size;have h2:=hb10'.size;omega
          have hz0w:w.heap.size < w2.heap.size:=by have:=za_a hB0;have:=hb2.size;omega
          obtain⟨W12,hW12⟩:∃ W12,W12=W11.drew:=⟨_,rfl⟩
          rw [<-hW12] at hu12 hT12 hs12 hP12 hL12 hB12 hD12 hV12
          rw [<-hW12]
          clear hW12
          have hcapL:Upt.stValid c L=true/\L.length<=l.cap:=⟨(Snap.enc_dec hdc).1,by omega⟩
          rcases hwo:Wal.open e2 (l.lf r) l.lc sp.epoch with⟨lo,ps,z4,e4⟩
          rw [hwo] at hR
          have HWO:=zH ((hD12.ext (Below.drew (Below.refl _ W12))).wopen (l.lf r) l.lc i3 i4 sp.epoch hfits.2.1 (by omega) hwo)
          unfold RWOP at HWO
          have HC3:=zH (fun (W:World) (F':Nat->Prop) (u:Upd F W12 F' W)=>show W.cell? (w6.heap.size 1)=some (r:Value)/\W.cell? (w6.heap.size 2)=some (.int .u32 (sp.epoch:Nat))/\W.cell? (w2.heap.size (5+r * 2))=some (.int .i64 (l.lf r))/\W.cell? (w2.heap.size (5+r * 2+1))=some (l.lc:Value) from by
           have h1:=(u.kept hBF hz6 (za_a hP12)).trans hP12
           have h2:LBx W w2.heap.size l:=(u.kept hBF hz3 (za_a hL12)).trans hL12
           have h3:=h2.rc hav.2
           exact⟨(cell_of_row _ _ 1 _ _ _ h1).trans (by rw [<-hav.1];rfl),cell_of_row _ _ 2 _ _ _ h1,h3.2.2.2.1,h3.2.2.2.2⟩)
          have hv12:Upd F W12 F W12:=Upd.refl _ _
          have hv12d:Upd F W12 F W12.drew:=hv12.drew
          go_wp2_with fail
          go_region_held3 (fun W=>W.cell? (w6.heap.size 1)=some (r:Value)/\W.cell? (w6.heap.size 2)=some (.int .u32 (sp.epoch:Nat))/\W.cell? (w2.heap.size (5+r * 2))=some (.int .i64 (l.lf r))/\W.cell? (w2.heap.size (5+r * 2+1))=some (l.lc:Value)) (first|exact HC3.out _ _ (by assumption)) (first
          |(go_at_call 83;go_must (refine HWO.out.mono ?_);rintro e w13 ⟨pv,v13,F10,rfl,hO13,hD13,hU13',Q13⟩;have hU13:Upd F W12 F10 w13:=hv12d.trans hU13';obtain⟨o13,rfl⟩:∃ o,pv=.pointer o:=RWOP.ptr Q13;have q13:=zH Q13;clear Q13))
          obtain⟨a13,c13,rfl,-⟩:=hO13.sl
          have nB10:¬ F10 w.heap.size:=fun e=>by
           rcases hU13.new _ e with e|e
           ·exact nB e
           ·have:=za_a hB12;omega
          have hB13:=hB12.stay (hU13.block _ (za_a hB12) nB)
          have hV13:=hV12.trans hU13
          by_cases hz4:z4=0
          ·subst hz4
           obtain⟨lg,hlo⟩:=Wal.open_some (d:=e2) (f:=l.lf r) (c:=l.lc) (ep:=sp.epoch) (by rw [hwo])
           rw [hwo] at hlo
           dsimp only at hlo
           subst hlo
           have hfl:=(Wal.open_fl (d:=e2) (f:=l.lf r) (c:=l.lc) (ep:=sp.epoch) (by rw [hwo])).1
           have hgl:GoodL lg:=GoodL.opened (d:=e2) hD12.ok (by omega) i3 i4 hfits.2.1 (by rw [hwo])
           have hsm:=Wal.open_small e2 (l.lf r) l.lc sp.epoch
           rw [hwo] at hsm
           dsimp only at hsm
           obtain⟨p,rfl,hp1,hp2,hp3⟩:∃ p,o13=.some (p:Nat)/\W12.drew.heap.size<=p/\RLB w13 p g lg/\¬ F10 p:=by
            rcases q13.out with⟨h,-⟩|⟨L',p,h,h2,h3⟩
            ·cases h
            ·cases h;cases h2;exact⟨p,rfl,h3⟩
           have hp1':W12.heap.size<=p:=hp1
           have hbase:W12.drew.heap.size=W12.heap.size:=rfl
           have zT:=za_a hT12
           have nK:∀ k,¬ F k->k < W12.heap.size->¬ F10 k:=fun k h1 h2 e=>by rcases hU13.new k e with e|e;exact h1 e;omega
           have nT10:¬ F10 w10.heap.size:=nK _ (fun e=>by have:=hBF _ e;omega) zT
           have hL13:LBx w13 w2.heap.size l:=(hU13.kept hBF hz3 (za_a hL12)).trans hL12
           have hP13:SupBox w13 w6.heap.size sp:=(hU13.kept hBF hz6 (za_a hP12)).trans hP12
           have hT13:=hT12.stay (hU13.kept hBF hz10 zT)
           have hs13:SlN w13 a10 nl c10 L:=hs12.stay (fun x hx hl=>hU13.kept hBF (by have:=hn10 x hx;have:=hV9.size;omega) (hs12.blt' hx hl)) hU13.size
           have hI:ROpI g p w2.heap.size w6.heap.size w.heap.size W12.drew.heap.size F F10 l sp lg ps (.slice a13 ps.length c13) e4 w w13:=⟨hD13,hp2,hL13,hP13,hB13,hO13,hV13⟩
           obtain⟨N,hN⟩:∃ N,ps.length=N:=⟨_,rfl⟩
           have hNl:N<=9223372036854775807:=by obtain⟨_,_,hv,hs⟩:=hO13.sl;have:=hs.le;omega
           obtain⟨Res,hRes⟩:∃ Res,Reg.replay l.cap c L ps=Res:=⟨_,rfl⟩
           have hT0':ROpT g p w2.heap.size w6.heap.size w.heap.size W12.drew.heap.size w10.heap.size F F10 l sp lg ps (.slice a13 ps.length c13) e4 w c Res 0 w13 :=
            ⟨hI,a10,nl,c10,L,hT13,hs13,by rw [List.drop_zero];exact hRes,hcapL.1,hcapL.2,fun x hx hl=>by
             have h1:=hn10 x hx
             have h2:=hV9.size
             have h3:=hs10.blt' hx hl
             have h4:=hs12.blt' hx hl
             have h5:=hu9.size
             exact⟨nK _ (fun e=>by have:=hBF _ e;omega) h4,by omega,by omega,by omega,by omega⟩⟩
           rw [hN] at hI hT0'
           rw [hN]
           unfold Reg.open5 at hR
           dsimp only at hR
           rw [if_neg (by simp),hRes] at hR
           have HT0:=zH hT0'
           have HCP:=zH (show l.cap<=1000 from by have:=(Reg.fit_facts hfit').2.2.2.2.2.1;rw [HL.out] at this;exact this)
           have HZZ:=zH (show p ≠ w10.heap.size/\w10.heap.size < W12.drew.heap.size/\p ≠ w.heap.size from ⟨by omega,zT,by omega⟩)
           have HSM:=zH hsm
           have HNN:=zH hN
           have HGL:=zH (And.intro hgl (And.intro hfl (And.intro hsl (And.intro hval hfits))))
           clear hT0' hsm hRes hI
           go_wp2_with fail
           go_loopw [15] (fun i wr=>∃ k:Nat,i=.int .i64 k/\k<=N/\ROpT g p w2.heap.size w6.heap.size w.heap.size W12.drew.heap.size w10.heap.size F F10 l sp lg ps (.slice a13 N c13) e4 w c Res k wr) (fun i _=>N - (intOf i).toNat)
           case atStart=>exact⟨0,rfl,Nat.zero_le _,HT0.out⟩
           case round =>
            obtain⟨k,rfl,hk,hOT⟩:=hrel
            have k0:(0:Int)<=(k:Int):=by omega
            obtain⟨hI,a14,n14,m14,L14,hT14,hs14,hrp,hst,hcap,hap⟩:=hOT
            by_cases hlt:k < N
            ·have k1:(k:Int) < (N:Int):=by omega
             obtain⟨ar,cr',hvr,hslr⟩:=hI.rc.sl
             rw [HNN.out] at hvr hslr
             obtain⟨br,orr,har,hbr,pe,me,de,hce,hse⟩:=hslr.at hlt
             cases hvr
             subst har
             obtain⟨rec,hrec⟩:∃ rec,ps[k]?.getD []=rec:=⟨_,rfl⟩
             rw [hrec] at hse
             have hkl:k < ps.length:=by rw [HNN.out];exact hlt
             have hpk:ps[k]=rec:=by rw [List.getElem?_eq_getElem hkl] at hrec;exact hrec
             have hrb:me<=1024:=by
              have:=HSM.out rec (hpk ▸ List.getElem_mem hkl)
              have:=hse.len
              omega
             rw [List.drop_eq_getElem_cons hkl,hpk] at hrp
             have HDC:=zH (zo_k pe me de rec wr hse (by omega))
             unfold UDecP at HDC
             rcases hdc':Upt.dec rec with⟨u,zu⟩
             rw [hdc'] at HDC
             unfold uv uc at HDC
             unfold Reg.replay at hrp
             rw [hdc'] at hrp
             dsimp only at hrp
             have HMK:=zH (fun W (e:Below wr.heap.size wr W)=>hI.ext e)
             clear hrec hpk hse
             have hn14:=hs14.len
             have hn14b:n14<=100000:=by
              have:=(Upt.stValid_iff c L14).1 hst
              omega
             go_wp2_with fail
             refine HDC.out.mono ?_;rintro e w15 ⟨rfl,hb15⟩
             have hb15':Below wr.heap.size wr w15:=hb15
             have hU16:=UBox.new w15 u.k (str u.p.h) u.p.s u.p.x
             have hb16:=(Below.refl w15.heap.size w15).alloc (zN _) (.cells #[u.k,.string (str u.p.h),.bool u.p.s,u.p.x] 36)
             by_cases hzu:zu=0
             ·subst hzu
              rw [if_neg (by simp)] at hrp
              have hvu:=(Upt.enc_dec hdc').1
              rcases happ:Upt.apply c L14 u l.cap with⟨L',z'⟩
              rw [happ] at hrp
              dsimp only at hrp
              obtain⟨W16,hW16⟩:∃ W16,W16=w15.alloc (.cells #[u.k,.string (str u.p.h),.bool u.p.s,u.p.x] 36):=⟨_,rfl⟩
              obtain⟨y3,y4,y5,y6⟩:=hU16.cells
              rw [<-hW16] at hU16 hb16
              have hB16:Below wr.heap.size wr W16:=hb15'.trans (hb16.mono hb15'.size)
              have hI16:=HMK.out W16 hB16
              have hT16:=hT14.ext hB16
              have hs16:=hs14.ext hB16
              have HAP:=zH (show Calls Tryz.prog 14 #[.agg #[c,.slice a14 n14 m14],uv u,l.cap] W16 (RUApN a14 L14 c L' z' W16) by
               have:=ze_m c a14 n14 m14 L14 u l.cap W16 hs16 hn14b (fun q hq=>Nat.le_trans (Upt.hosts_len hst q hq) (by omega)) (Nat.le_trans (Upt.host_len hvu) (by omega))
               rw [happ] at this
               exact this)
              unfold RUApN sv uv uc at HAP
              obtain⟨y0,y1⟩:=(hT14.ext hb15).cells
              have y7:w15.cell? w2.heap.size=some (l.cap:Value):=((HMK.out w15 hb15').ly.rc (r:=0) (by decide)).1
              have hz16:w10.heap.size < w15.heap.size:=za_a (hT14.ext hb15)
              have hz17:w2.heap.size < w15.heap.size:=za_a (HMK.out w15 hb15').ly
              obtain⟨ck,hck⟩:∃ ck,Upt.ack c z'=ck:=⟨_,rfl⟩
              rw [hck] at HAP
              go_wp2_with fail
              rw [<-hW16]
              clear y3 y4 y5 y6 hW16
              refine HAP.out.mono ?_;rintro e w17 ⟨a17,c17,rfl,hs17,hb17,hn17⟩
              have hb17':Below W16.heap.size W16 w17:=hb17
              have hT17:=hT16.ext hb17'
              obtain⟨v0,v1⟩:=hT17.cells
              have g0:=SBox.frz hT17 0
              have g1:=SBox.frz hT17 1
              have hbut18:But w10.heap.size w17 ((w17.setCell w10.heap.size (ck:Value)).setCell (w10.heap.size 1) (.slice a17 L'.length c17)):=((But.refl _ _).setCell 0 _).setCell 1 _
              have hT18:=SBox.set2 hT17 ck (.slice a17 L'.length c17)
              obtain⟨W18,hW18⟩:∃ W18,W18=(w17.setCell w10.heap.size (ck:Value)).setCell (w10.heap.size 1) (.slice a17 L'.length c17):=⟨_,rfl⟩
              rw [<-hW18] at hT18 hbut18
              have hB17:=hB16.trans (hb17'.mono hB16.size)
              have hI17:=HMK.out w17 hB17
              have hI18:=hI17.but hbut18 nT10 HZZ.out.1 (by omega) (by omega) (by omega) HZZ.out.2.1 (by omega)
              have hsz16:=hb16.size
              by_cases hz':z'=0
              ·subst hz'
               obtain rfl:c=ck:=by rw [<-hck];rfl
               rw [if_neg (by simp)] at hrp
               obtain⟨e1',e2',e3'⟩:=Reg.apply_cap happ hcap HCP.out
               have hnew:∀ x,a17=some x->L' ≠ []->(W16.heap.size<=x.block\/(a17=a14/\L'=L14)):=fun x hx _=>hn17 x hx
               have hOT:=zH (show ROpT g p w2.heap.size w6.heap.size w.heap.size W12.drew.heap.size w10.heap.size F F10 l sp lg ps _ e4 w c Res (k+1) W18 from
                ⟨hI18,a17,L'.length,c17,L',hT18,hs17.stay (fun x hx hl=>hbut18.block _ (hs17.blt' hx hl) (by
                 rcases hnew x hx hl with h|⟨h,h'⟩
                 ·omega
                 ·exact (hap x (h ▸ hx) (h' ▸ hl)).2.2.1)) hbut18.size,hrp,e2',e1',fun x hx hl=>by
                 rcases hnew x hx hl with h1|⟨h,h'⟩
                 ·have h2:=hB16.size
                  have h3:=hI.lb.lt
                  have h4:=za_a hI.bx
                  have h5:=hI.up.size
                  exact⟨fun e=>by have:=hI.dp.lt _ e;omega,by omega,by omega,by omega,by omega⟩
                 ·exact hap x (h ▸ hx) (h' ▸ hl)⟩)
               clear hT18 hbut18 hs17
               go_wp2_with fail
               rw [<-hW18]
               go_roundw
               case rel=>exact⟨k+1,by go_num,by omega,hOT.out⟩
               case measure=>simp [intOf];omega
              ·rw [if_pos hz'] at hrp
               subst hrp
               subst hR
               have t1:(z' != 0)=true:=by simpa using hz'
               obtain⟨x0,x1⟩:=hI17.bx.cells
               have f0:=SBox.frz hI17.bx 0
               have f1:=SBox.frz hI17.bx 1
               have ne1:w10.heap.size ≠ w.heap.size:=by omega
               have ne2:w.heap.size ≠ w10.heap.size:=by omega
               go_wp2_with fail
               rw [<-hW18]
               refine ret3 rfl rfl rfl (SBox.set2 hI18.bx 0 (.slice none 0 0)) rfl rfl ?_
               exact ROpQ.err (by decide) hI18.dp hI18.up nB10 _ _
             ·rw [if_pos hzu] at hrp
              subst hrp
              subst hR
              have t1:(zu != 0)=true:=by simpa using hzu
              obtain⟨W16,hW16⟩:∃ W16,W16=w15.alloc (.cells #[u.k,.string (str u.p.h),.bool u.p.s,u.p.x] 36):=⟨_,rfl⟩
              rw [<-hW16] at hU16 hb16
              have hB16:Below wr.heap.size wr W16:=hb15'.trans (hb16.mono hb15'.size)
              have hI16:=HMK.out W16 hB16
              have hbx15:=(HMK.out w15 hb15').bx
              obtain⟨x0,x1⟩:=hbx15.cells
              have f0:=SBox.frz hbx15 0
              have f1:=SBox.frz hbx15 1
              have hz15:=za_a hbx15
              go_wp2_with fail
              have hE:=(SBox.set2 hbx15 0 (.slice none 0 0)).ext ((Below.refl _ _).alloc (zN _) (.cells #[u.k,.string (str u.p.h),.bool u.p.s,u.p.x] 36))
              obtain⟨e0,e1⟩:=hE.cells
              refine bodyPost_ret (v:=.tuple #[.pointer none,.agg #[.int .i64 0,.slice none 0 0],.int .i64 13]) (by simp [results,Tryz.results29,go_sem,e0,e1]) rfl ?_
              exact ROpQ.errA (by decide) (HMK.out w15 hb15').dp (HMK.out w15 hb15').up nB10 _ _ _
            ·obtain rfl:k=N:=by omega
             rw [show ps.drop k=[] from List.drop_of_length_le (by rw [HNN.out];exact zN _)] at hrp
             have hrp':Res=some L14:=hrp.symm
             subst hrp'
             dsimp only at hR
             subst hR
             have hln:=hs14.len
             subst hln
             obtain⟨x0,x1⟩:=hI.bx.cells
             obtain⟨x2,x3⟩:=hT14.cells
             have f0:=SBox.frz hI.bx 0
             have f1:=SBox.frz hI.bx 1
             have hly:=fun k=>cell_of_row _ _ k _ _ _ hI.ly
             have ly0:wr.cell? w2.heap.size=some (l.cap:Value):=hly 0
             have ly1:wr.cell? (w2.heap.size 1)=some (.int .i64 (l.sf 0)):=hly 1
             have ly2:wr.cell? (w2.heap.size 2)=some (l.sc:Value):=hly 2
             have ly3:wr.cell? (w2.heap.size 3)=some (.int .i64 (l.sf 1)):=hly 3
             have ly4:wr.cell? (w2.heap.size 4)=some (l.sc:Value):=hly 4
             have ly5:wr.cell? (w2.heap.size 5)=some (.int .i64 (l.lf 0)):=hly 5
             have ly6:wr.cell? (w2.heap.size 6)=some (l.lc:Value):=hly 6
             have ly7:wr.cell? (w2.heap.size 7)=some (.int .i64 (l.lf 1)):=hly 7
             have ly8:wr.cell? (w2.heap.size 8)=some (l.lc:Value):=hly 8
             obtain⟨su0,su1,su2,su3,su4⟩:=hI.su.cells
             clear hly
             have hz1:=za_a hT14
             have hz2:=za_a hI.bx
             have hz3':=za_a hI.ly
             have hz4:=za_a hI.su
             go_wp2_with fail
             go_region
             go_wp2_with fail
             have hbut17:But w.heap.size wr ((wr.setCell w.heap.size (c:Value)).setCell (w.heap.size 1) (.slice a14 L14.length m14)):=((But.refl _ _).setCell 0 _).setCell 1 _
             have hE:=SBox.set2 hI.bx c (.slice a14 L14.length m14)
             have hsE:=hs14.setOldS hI.bx 0 1 (c:Value) (.slice a14 L14.length m14)
             have hzW:((wr.setCell w.heap.size (c:Value)).setCell (w.heap.size 1) (.slice a14 L14.length m14)).heap.size=wr.heap.size:=by simp
             obtain⟨W17,hW17⟩:∃ W17,W17=(wr.setCell w.heap.size (c:Value)).setCell (w.heap.size 1) (.slice a14 L14.length m14):=⟨_,rfl⟩
             rw [<-hW17] at hE hbut17 hsE hzW ⊢
             clear hW17 x0 x1 x2 x3 f0 f1 ly0 ly1 ly2 ly3 ly4 ly5 ly6 ly7 ly8 su0 su1 su2 su3 su4
             have hE0:=fun o:Obj=>(SBox.ext hE ((Below.refl _ _).alloc (zN _) o)).cells.1
             have hE1:=fun o:Obj=>(SBox.ext hE ((Below.refl _ _).alloc (zN _) o)).cells.2
             refine bodyPost_ret (v:=.tuple #[.pointer wr.heap.size,.agg #[c,.slice a14 L14.length m14],.int .i64 0]) (by simp [results,Tryz.results29,go_sem,hE0,hE1]) rfl ?_
             obtain⟨g1,g2,g3,g4,g5⟩:=HGL.out
             have bel:=fun o:Obj=>Below.drew ((Below.refl W17.heap.size W17).alloc (zN _) o)
             have hsl0:((sl.toNat:Nat):Int)=sl:=by omega
             have hwp:w.heap.size<=p:=by have:=za_a hB12;omega
             refine⟨rfl,wr.heap.size,a14,m14,P1 (P1 F10 p) wr.heap.size,rfl,⟨F10,p,rfl,(hI.dp.but nB10 hbut17).ext (bel _),(hI.lb.same (hbut17.block _ hI.lb.lt HZZ.out.2.2)).ext (bel _),hp3,?_,fun e=>Nat.lt_irrefl _ (hI.dp.lt _ e),by have:=hI.lb.lt;omega⟩,?_,hsE.ext (bel _),fun x hx hl=>?_,⟨hfit',hn,HL.out.symm,by dsimp only;omega,g4,g5,g1,fun _=>g2⟩,hst,hcap,hI.up.size⟩
             ·unfold RSB SBt stc
              dsimp only
              rw [hsl0,hav.1,<-hzW]
              exact za_b _ _ _ rfl
             ·refine ((hI.up.but (.inr (zN _)) hbut17).ext (bel _)).grow fun y hy=>?_
              rcases hy with (hy|rfl)|rfl
              ·exact hI.up.new y hy
              ·exact .inr hwp
              ·exact .inr hI.up.size
             ·obtain⟨h1,h2,h3,-,h5⟩:=hap x hx hl
              refine⟨?_,h5⟩
              rintro ((e|e)|e)
              ·exact h1 e
              ·exact h2 e
              ·have:=hs14.blt' hx hl;omega
          ·have hR':R=Reg.bad z4 e4:=by rw [<-hR];unfold Reg.open5;exact if_pos hz4
           subst hR'
           have t5:(z4 != 0)=true:=by simpa using hz4
           obtain⟨x0,x1⟩:=hB13.cells
           have f0:=SBox.frz hB13 0
           have f1:=SBox.frz hB13 1
           go_wp2_with fail
           refine ret3 rfl rfl rfl (SBox.set2 hB13 0 (.slice none 0 0)) rfl rfl ?_
           exact ROpQ.err hz4 hD13 hV13 nB10 _ _
        ·rw [if_pos (.inr (.inl hz3))] at hR
         subst hR
         have t4:(z3 != 0)=true:=by simpa using hz3
         go_wp2_with fail
         refine wp_region_held_drew (S:=(fun W=>W.cell? (w6.heap.size 4)=some (.int .u32 (sp.sum:Nat))/\W.cell? (w10.heap.size 1)=some (.slice a10 nl c10)/\W.cell? w2.heap.size=some (l.cap:Value))) (by kernel_rfl) ?_ (fun hHeld=>?_)
         ·exact HC2.out _ HR2.out
         refine tkB [(0,88),(2,90),(3,91)] ?_
         repeat ((first|(refine tkY (v:=?_) rfl (by kernel_rfl) (fun _ _ _ h=>h) (by rfl) ?_ (by assumption) ?_;rotate_left;·intro w hSw;(try dsimp only at hSw);go_simp;try with_reducible rfl)|refine tkN rfl (by kernel_rfl) (fun _ _ _ h=>h) (by rfl) (by assumption) ?_);try simp only [Act.put,List.setIfInBounds_toArray,List.set])
         refine tkE ?_
         refine wpAnyH_ready (rs:=[1]) (by kernel_rfl) (by simp) ?_
         refine AllReadyH.cons (o:=Oper.mk (some 89) _ _ _ _ _) rfl (fun K hK=>?_) AllReadyH.nil
         go_simp
         (go_at_call 82;refine (HSU.out _ HR2.out).mono ?_;rintro e w12 ⟨rfl,rfl⟩)
         go_wp2_with fail
         refine hK.out _ _ ?_ (fun hHeld=>?_)
         ·exact HC2.out _ HR2.out
         clear hK K
         try simp only [Act.put,List.setIfInBounds_toArray,List.set]
         refine tkB [(4,92),(5,93),(6,94),(7,95),(8,96),(9,97),(10,98),(11,99),(12,100),(13,101),(14,102),(15,103),(16,104)] ?_
         repeat ((first|(refine tkY (v:=?_) rfl (by kernel_rfl) (fun _ _ _ h=>h) (by rfl) ?_ (by assumption) ?_;rotate_left;·intro w hSw;(try dsimp only at hSw);go_simp;try with_reducible rfl)|refine tkN rfl (by kernel_rfl) (fun _ _ _ h=>h) (by rfl) (by assumption) ?_);try simp only [Act.put,List.setIfInBounds_toArray,List.set])
         refine tkE ?_
         refine wpAnyH_done (by kernel_rfl) ?_ _
         obtain⟨x0,x1⟩:=hB11.cells
         have f0:=SBox.frz hB11 0
         have f1:=SBox.frz hB11 1
         go_wp2_with fail
         refine ret3 rfl rfl rfl (SBox.set2 hB11 0 (.slice none 0 0)) rfl rfl ?_
         exact ROpQ.errD (by decide) hD11 hV11 nB _ _
       ·rw [if_pos (.inl hsum)] at hR
        subst hR
        have t3:((cr:Int) != (sp.sum:Int))=true:=by simp;omega
        go_wp2_with fail
        refine wp_region_held_drew (S:=(fun W=>W.cell? (w6.heap.size 4)=some (.int .u32 (sp.sum:Nat))/\W.cell? (w10.heap.size 1)=some (.slice a10 nl c10)/\W.cell? w2.heap.size=some (l.cap:Value))) (by kernel_rfl) ?_ (fun hHeld=>?_)
        ·exact HC2.out _ HR2.out
        refine tkB [(0,88),(2,90),(3,91)] ?_
        repeat ((first|(refine tkY (v:=?_) rfl (by kernel_rfl) (fun _ _ _ h=>h) (by rfl) ?_ (by assumption) ?_;rotate_left;·intro w hSw;(try dsimp only at hSw);go_simp;try with_reducible rfl)|refine tkN rfl (by kernel_rfl) (fun _ _ _ h=>h) (by rfl) (by assumption) ?_);try simp only [Act.put,List.setIfInBounds_toArray,List.set])
        refine tkE ?_
        refine wpAnyH_ready (rs:=[1]) (by kernel_rfl) (by simp) ?_
        refine AllReadyH.cons (o:=Oper.mk (some 89) _ _ _ _ _) rfl (fun K hK=>?_) AllReadyH.nil
        go_simp
        (go_at_call 82;refine (HSU.out _ HR2.out).mono ?_;rintro e w12 ⟨rfl,rfl⟩)
        go_wp2_with fail
        refine hK.out _ _ ?_ (fun hHeld=>?_)
        ·exact HC2.out _ HR2.out
        clear hK K
        try simp only [Act.put,List.setIfInBounds_toArray,List.set]
        refine tkB [(4,92),(5,93),(6,94),(7,95),(8,96),(9,97),(10,98),(11,99),(12,100),(13,101),(14,102),(15,103),(16,104)] ?_
        repeat ((first|(refine tkY (v:=?_) rfl (by kernel_rfl) (fun _ _ _ h=>h) (by rfl) ?_ (by assumption) ?_;rotate_left;·intro w hSw;(try dsimp only at hSw);go_simp;try with_reducible rfl)|refine tkN rfl (by kernel_rfl) (fun _ _ _ h=>h) (by rfl) (by assumption) ?_);try simp only [Act.put,List.setIfInBounds_toArray,List.set])
        refine tkE ?_
        refine wpAnyH_done (by kernel_rfl) ?_ _
        obtain⟨x0,x1⟩:=hB11.cells
        have f0:=SBox.frz hB11 0
        have f1:=SBox.frz hB11 1
        go_wp2_with fail
        refine ret3 rfl rfl rfl (SBox.set2 hB11 0 (.slice none 0 0)) rfl rfl ?_
        exact ROpQ.errD (by decide) hD11 hV11 nB _ _
      ·rw [if_pos hz2] at hR
       subst hR
       have t2:(z2 != 0)=true:=by simpa using hz2
       obtain⟨x0,x1⟩:=hB9.cells
       have f0:=SBox.frz hB9 0
       have f1:=SBox.frz hB9 1
       go_wp2_with fail
       refine ret3 rfl rfl rfl (SBox.set2 hB9 0 (.slice none 0 0)) rfl rfl ?_
       exact ROpQ.err hz2 hD9 hV9 nB _ _
    ·have hR':R=Reg.bad 13 e1:=by rw [<-hR];unfold Reg.open3;rw [hch];exact if_pos hzc
     subst hR'
     have t1:(zc != 0)=true:=by simpa using hzc
     go_wp2_with fail
     refine wp_region_held_drew (S:=(fun W=>True)) (by kernel_rfl) ?_ (fun hHeld=>?_)
     ·trivial
     refine tkB [(0,53),(1,54),(2,55),(3,56),(4,57),(5,58),(6,59),(7,60),(8,61),(9,62),(10,63),(11,64),(12,65)] ?_
     repeat ((first|(refine tkY (v:=?_) rfl (by kernel_rfl) (fun _ _ _ h=>h) (by rfl) ?_ (by assumption) ?_;rotate_left;·intro w hSw;(try dsimp only at hSw);go_simp;try with_reducible rfl)|refine tkN rfl (by kernel_rfl) (fun _ _ _ h=>h) (by rfl) (by assumption) ?_);try simp only [Act.put,List.setIfInBounds_toArray,List.set])
     refine tkE ?_
     refine wpAnyH_done (by kernel_rfl) ?_ _
     obtain⟨x0,x1⟩:=hB7.cells
     have f0:=SBox.frz hB7 0
     have f1:=SBox.frz hB7 1
     go_wp2_with fail
     refine ret3 rfl rfl rfl (SBox.set2 hB7 0 (.slice none 0 0)) rfl rfl ?_
     exact ROpQ.errD (by decide) hD7 hV7 nB _ _
   ·rw [if_pos hz1] at hR
    subst hR
    have t1:(z1 != 0)=true:=by simpa using hz1
    obtain⟨x0,x1⟩:=hB5.cells
    have f0:=SBox.frz hB5 0
    have f1:=SBox.frz hB5 1
    go_wp2_with fail
    refine ret3 rfl rfl rfl (SBox.set2 hB5 0 (.slice none 0 0)) rfl rfl ?_
    exact ROpQ.err hz1 hD5 hV5 nB _ _
  ·rw [if_pos hz0] at hR
   subst hR
   have t1:(z0 != 0)=true:=by simpa using hz0
   obtain⟨x0,x1⟩:=hB4.cells
   have f0:=SBox.frz hB4 0
   have f1:=SBox.frz hB4 1
   go_wp2_with fail
   refine ret3 rfl rfl rfl (SBox.set2 hB4 0 (.slice none 0 0)) rfl rfl ?_
   exact ROpQ.err hz0 hD4 hV4 nB _ _
end
end Go.Proofs.YtmanejniepghlaaGreatDoor
