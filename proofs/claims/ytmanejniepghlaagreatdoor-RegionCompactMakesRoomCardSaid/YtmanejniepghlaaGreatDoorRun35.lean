import Derived.Test.YtmanejniepghlaaGreatDoorRun14
import Derived.Test.YtmanejniepghlaaGreatDoorRun32
import Derived.Test.YtmanejniepghlaaGreatDoorRun13
import Derived.Test.YtmanejniepghlaaGreatDoorRun6
import Derived.Shelf.SlIterI.Nil
import Derived.Shelf.SlIterI.Sorted
import Derived.Shelf.SortM.Plain
import Derived.Shelf.SortM.SortNone
namespace Go.Proofs.YtmanejniepghlaaGreatDoor
section
open Go.RowKit
open Disk (Dk)
variable {w w':World} {g n p q:Nat} {S:Reg.St} {F:Nat->Prop} {d:Dk} {z:Int} {b x:List UInt8} {a:Option Addr}
def stc (g p:Nat) (S:Reg.St):Array Value :=
 #[.pointer (some ⟨g,0,none⟩),.int .i64 S.lay.cap,.int .i64 (S.lay.sf 0),.int .i64 S.lay.sc,.int .i64 (S.lay.sf 1),.int .i64 S.lay.sc,.int .i64 (S.lay.lf 0),.int .i64 S.lay.lc,.int .i64 (S.lay.lf 1),.int .i64 S.lay.lc,
  .int .i64 S.slot,.int .u64 S.sup.gen,.int .i64 S.sup.act,.int .u32 S.sup.epoch,.int .i64 S.sup.len,.int .u32 S.sup.sum,.pointer (some ⟨p,0,none⟩),.bool S.fl]
def SB (w:World) (q g p:Nat) (S:Reg.St):Prop:=w.heap[q]?=some (.cells (stc g p S) 108 (0,0))
section
variable {w w':World} {q g p:Nat} {S:Reg.St}
theorem SB.lt (h:SB w q g p S):q < w.heap.size:=za_a h
theorem SB.same (h:SB w q g p S) (e:w'.heap[q]?=w.heap[q]?):SB w' q g p S:=e.trans h
theorem SB.ext (h:SB w q g p S) (e:Below w.heap.size w w'):SB w' q g p S:=h.same (e.block _ h.lt)
theorem SB.free (h:SB w q g p S) (k:Nat):w.frozen? ⟨q,k,none⟩=false:=frozen_of_row _ _ _ _ _ h
theorem SB.at (h:SB w q g p S) (k:Nat):w.cell? ⟨q,k,none⟩=(stc g p S)[k]?:=cell_of_row _ _ _ _ _ _ h
theorem SB.disk (h:SB w q g p S):w.cell? ⟨q,0,none⟩=some (.pointer (some ⟨g,0,none⟩)):=h.at 0
theorem SB.cap (h:SB w q g p S):w.cell? ⟨q,1,none⟩=some (.int .i64 S.lay.cap):=h.at 1
theorem SB.slot (h:SB w q g p S):w.cell? ⟨q,10,none⟩=some (.int .i64 S.slot):=h.at 10
theorem SB.gen (h:SB w q g p S):w.cell? ⟨q,11,none⟩=some (.int .u64 S.sup.gen):=h.at 11
theorem SB.act (h:SB w q g p S):w.cell? ⟨q,12,none⟩=some (.int .i64 S.sup.act):=h.at 12
theorem SB.epoch (h:SB w q g p S):w.cell? ⟨q,13,none⟩=some (.int .u32 S.sup.epoch):=h.at 13
theorem SB.len (h:SB w q g p S):w.cell? ⟨q,14,none⟩=some (.int .i64 S.sup.len):=h.at 14
theorem SB.sum (h:SB w q g p S):w.cell? ⟨q,15,none⟩=some (.int .u32 S.sup.sum):=h.at 15
theorem SB.log (h:SB w q g p S):w.cell? ⟨q,16,none⟩=some (.pointer (some ⟨p,0,none⟩)):=h.at 16
theorem SB.fl (h:SB w q g p S):w.cell? ⟨q,17,none⟩=some (.bool S.fl):=h.at 17
theorem SB.setFl (h:SB w q g p S) (b:Bool):SB (w.setCell ⟨q,17,none⟩ (.bool b)) q g p { S with fl:=b }:=by unfold SB;rw [heap_setCell_same _ _ _ _ _ _ h];rfl
theorem SB.reLog (h:SB w q g p S) (L:Wal.L):SB w q g p { S with log:=L }:=h
end
theorem zf_s (h:SB w q g p S):Calls Tryz.prog 18 #[.pointer (some ⟨q,0,none⟩)] w fun e w'=>e=.returned (.bool S.fl)/\w=w':=by
 have h1:=h.fl
 clear h
 generalize S.fl=fl at *
 go_enter Tryz.func18,Tryz.ntmps18
 go_wp2
 go_ret
 exact⟨rfl,rfl⟩
theorem zc_y (h:SB w q g p S):Calls Tryz.prog 15 #[.pointer (some ⟨q,0,none⟩)] w fun e w'=>e=.returned (.int .i64 S.lay.cap)/\w=w':=by
 have h1:=h.cap
 clear h
 go_enter Tryz.func15,Tryz.ntmps15
 go_wp2
 go_ret
 exact⟨rfl,rfl⟩
theorem zb_u (h:SB w q g p S):Calls Tryz.prog 20 #[.pointer (some ⟨q,0,none⟩)] w fun e w'=>e=.returned (.int .u64 S.sup.gen)/\w=w':=by
 have h1:=h.gen
 clear h
 go_enter Tryz.func20,Tryz.ntmps20
 go_wp2
 go_ret
 exact⟨rfl,rfl⟩
theorem zm_t (h:SB w q g p S) (hl:LB w p g S.log) (hf:Wal.Fits S.log) {x:Int} (hx:Extent.size S.log.c - (S.log.en:Int)=x) :
 Calls Tryz.prog 16 #[.pointer (some ⟨q,0,none⟩)] w fun e w'=>e=.returned (.int .i64 x)/\Below w.heap.size w w':=by
 have h1:=h.log
 have HF:=zH (zm_f hl hf x hx)
 clear h hl hf hx
 go_enter Tryz.func16,Tryz.ntmps16
 go_wp2_with fail
 refine HF.out.mono ?_;rintro e w1 ⟨rfl,hb⟩
 go_wp2_with fail
 go_ret
 exact⟨rfl,hb⟩
theorem zj_z (h:SB w q g p S) (z:Int):Calls Tryz.prog 63 #[.pointer (some ⟨q,0,none⟩),.int .i64 z] w fun e w' =>
 e=.returned (.int .i64 z)/\w'=w.setCell ⟨q,17,none⟩ (.bool (S.fl || z != 0))/\SB w' q g p { S with fl:=S.fl || z != 0 }:=by
 have h7:=h.fl
 have hf:=h.free 17
 have HS:=zH (h.setFl (S.fl || z != 0))
 clear h
 obtain⟨lay,slot,sup,log,fl⟩:=S
 simp only at h7
 cases fl
 ·by_cases hz:z=0
  ·subst hz
   go_enter Tryz.func63,Tryz.ntmps63
   go_wp2
   go_ret
   exact⟨rfl,rfl,HS.out⟩
  ·have t1:(z != 0)=true:=by simpa using hz
   rw [t1] at HS ⊢
   go_enter Tryz.func63,Tryz.ntmps63
   go_wp2
   go_ret
   exact⟨rfl,rfl,HS.out⟩
 ·go_enter Tryz.func63,Tryz.ntmps63
  go_wp2
  go_ret
  exact⟨rfl,rfl,HS.out⟩
abbrev P1 (F:Nat->Prop) (q:Nat):Nat->Prop:=fun k=>F k\/k=q
def DP (g:Nat) (d:Dk) (F:Nat->Prop) (w:World):Prop:=∃ s m fa fn fc,PD F w g s m fa fn fc d
def PS (g q:Nat) (S:Reg.St) (d:Dk) (F:Nat->Prop) (w:World):Prop:=∃ F0 p,F=P1 (P1 F0 p) q/\DP g d F0 w/\LB w p g S.log/\¬ F0 p/\SB w q g p S/\¬ F0 q/\q ≠ p
theorem DP.fp (g:Nat) (d:Dk):Fp (DP g d) where
 stay:=fun ⟨s,m,fa,fn,fc,h⟩ k hz=>⟨s,m,fa,fn,fc,h.stay k hz⟩
 lt:=fun ⟨_,_,_,_,_,h⟩=>h.lt
theorem DP.ok (h:DP g d F w):d.Ok:=by obtain⟨_,_,_,_,_,h⟩:=h;exact h.ok
theorem DP.ext (h:DP g d F w) (e:Below w.heap.size w w'):DP g d F w':=(DP.fp g d).ext h e
theorem DP.stay (h:DP g d F w) (k:∀ b,F b->w'.heap[b]?=w.heap[b]?) (hz:w.heap.size<=w'.heap.size):DP g d F w':=(DP.fp g d).stay h k hz
theorem DP.lt (h:DP g d F w):∀ k,F k->k < w.heap.size:=(DP.fp g d).lt h
theorem PS.fp (g q:Nat) (S:Reg.St) (d:Dk):Fp (PS g q S d) where
 stay:=fun ⟨F0,p,e,h1,h2,h3,h4,h5,h6⟩ k hz=>by
  subst e
  exact⟨F0,p,rfl,h1.stay (fun b hb=>k b (.inl (.inl hb))) hz,h2.same (k p (.inl (.inr rfl))),h3,h4.same (k q (.inr rfl)),h5,h6⟩
 lt:=fun ⟨F0,p,e,h1,h2,h3,h4,h5,h6⟩=>by
  subst e
  rintro k ((hk|rfl)|rfl)
  ·exact h1.lt k hk
  ·exact h2.lt
  ·exact h4.lt
theorem PS.ext (h:PS g q S d F w) (e:Below w.heap.size w w'):PS g q S d F w':=(PS.fp g q S d).ext h e
theorem PS.lt (h:PS g q S d F w):∀ k,F k->k < w.heap.size:=(PS.fp g q S d).lt h
theorem Upd.more {F' G:Nat->Prop} (h:Upd F w F' w') (k:∀ b,F b->G b):Upd G w F' w' :=
 ⟨h.os,h.tape,h.output,h.size,fun i hi hG=>h.block i hi fun e=>hG (k i e),fun i hi=>by rcases h.new i hi with e|e;exact .inl (k i e);exact .inr e⟩
theorem PS.forget (h:PS g q S d F w):∃ F0,DP g d F0 w/\Upd F w F0 w:=by
 obtain⟨F0,p,rfl,h1,-⟩:=h
 exact⟨F0,h1,(Upd.refl F0 w).more fun b hb=>.inl (.inl hb)⟩
section
variable {g:Nat} {d d':Dk} {F:Nat->Prop} {w:World}
theorem DP.sectors (h:DP g d F w):Calls Tryz.prog 45 #[.pointer (some ⟨g,0,none⟩)] w fun e w'=>e=.returned (.int .i64 (d.st.length:Nat))/\w=w':=by
 obtain⟨s,m,fa,fn,fc,h⟩:=h;exact zc_q h
theorem DP.sync (h:DP g d F w) (hr:Disk.sync d=(z,d')):Calls Tryz.prog 51 #[.pointer (some ⟨g,0,none⟩)] w fun e w'=>e=.returned (.int .i64 z)/\DP g d' F w'/\Upd F w F w':=by
 obtain⟨s,m,fa,fn,fc,h⟩:=h
 exact (zd_y h hr).mono fun e w' ⟨h1,h2,h3⟩=>⟨h1,⟨s,m,fa,fn,fc,h2⟩,h3⟩
theorem DP.read (h:DP g d F w) (i:Int) (hr:Disk.read d i=(b,z,d')):Calls Tryz.prog 112 #[.pointer (some ⟨g,0,none⟩),.int .i64 i] w fun e w'=>∃ v,e=.returned (.tuple #[v,.int .i64 z])/\OwnB w.heap.size w' v b/\DP g d' F w'/\Upd F w F w':=by
 obtain⟨s,m,fa,fn,fc,h⟩:=h
 refine (ze_h h i hr).mono fun e w' h'=>?_
 obtain⟨v,h1,h2,h3,h4⟩:=h'
 exact⟨v,h1,h2,⟨s,m,fa,fn,fc,h3⟩,h4⟩
theorem DP.write (h:DP g d F w) (i:Int) {c:Nat} (hx:SlB w a n c x) (hF:∀ y,a=some y->x ≠ []->¬ F y.block) (hr:Disk.write d i x=(z,d')) :
 Calls Tryz.prog 53 #[.pointer (some ⟨g,0,none⟩),.int .i64 i,.slice a n c] w fun e w'=>e=.returned (.int .i64 z)/\∃ F',DP g d' F' w'/\Upd F w F' w':=by
 obtain⟨s,m,fa,fn,fc,h⟩:=h
 refine (zb_v h i hx hF hr).mono fun e w' h'=>?_
 obtain⟨h1,F',h2,h3⟩:=h'
 exact⟨h1,F',⟨s,m,fa,fn,fc,h2⟩,h3⟩
theorem DP.eread (h:DP g d F w) (f c off len:Int) (hf:ib f) (hc:ib c) (ho:ib off) (hl:ib len) (hr:Extent.read d f c off len=(b,z,d')) :
 Calls Tryz.prog 127 #[.pointer (some ⟨g,0,none⟩),.agg #[.int .i64 f,.int .i64 c],.int .i64 off,.int .i64 len] w fun e w'=>∃ v,e=.returned (.tuple #[v,.int .i64 z])/\OwnB w.heap.size w' v b/\DP g d' F w'/\Upd F w F w':=by
 obtain⟨s,m,fa,fn,fc,h⟩:=h
 refine (ze_e h f c off len hf hc ho hl hr).mono fun e w' h'=>?_
 obtain⟨v,h1,h2,h3,h4⟩:=h'
 exact⟨v,h1,h2,⟨s,m,fa,fn,fc,h3⟩,h4⟩
theorem DP.ewrite (h:DP g d F w) (f c off:Int) (hf:ib f) (hc:ib c) (ho:ib off) {ca:Nat} (hx:SlB w a n ca x) (hF:∀ y,a=some y->x ≠ []->¬ F y.block) (hr:Extent.write d f c off x=(z,d')) :
 Calls Tryz.prog 108 #[.pointer (some ⟨g,0,none⟩),.agg #[.int .i64 f,.int .i64 c],.int .i64 off,.slice a n ca] w fun e w'=>e=.returned (.int .i64 z)/\∃ F',DP g d' F' w'/\Upd F w F' w':=by
 obtain⟨s,m,fa,fn,fc,h⟩:=h
 refine (zc_z h f c off hf hc ho hx hF hr).mono fun e w' h'=>?_
 obtain⟨h1,F',h2,h3⟩:=h'
 exact⟨h1,F',⟨s,m,fa,fn,fc,h2⟩,h3⟩
def WOP (g:Nat) (F:Nat->Prop) (w:World) (r:Option Wal.L × List (List UInt8) × Int × Dk) (e:Ending) (w':World):Prop :=
 ∃ pv v F',e=.returned (.tuple #[pv,v,.int .i64 r.2.2.1])/\OwnL w.heap.size w' v r.2.1/\DP g r.2.2.2 F' w'/\Upd F w F' w' ∧
  ((r.1=none/\pv=.pointer none)\/∃ L p,r.1=some L/\pv=.pointer (some ⟨p,0,none⟩)/\w.heap.size<=p/\LB w' p g L/\¬ F' p)
theorem DP.wopen (h:DP g d F w) (f c:Int) (hf:ib f) (hc:ib c) (ep:Nat) (hep:ep < 4294967296) (hn:d.st.length<=1000) {r:Option Wal.L × List (List UInt8) × Int × Dk} (hr:Wal.open d f c ep=r) :
 Calls Tryz.prog 66 #[.pointer (some ⟨g,0,none⟩),.agg #[.int .i64 f,.int .i64 c],.int .u32 (ep:Nat)] w (WOP g F w r):=by
 obtain⟨s,m,fa,fn,fc,h⟩:=h
 have hno:=Wal.open_none (d:=d) (f:=f) (c:=c) (ep:=ep)
 have h0:=zr_x h f c hf hc ep hep hn
 rw [hr] at hno h0
 obtain⟨lo,ps,z,d'⟩:=r
 refine h0.mono ?_
 unfold WalOpenPost WOP
 cases lo with
|none =>
  rintro e w' ⟨rfl,F',h1,h2⟩
  have e0:ps=[]:=hno rfl
  subst e0
  exact⟨_,_,F',rfl,OwnL.nil _ _,⟨s,m,fa,fn,fc,h1⟩,h2,.inl ⟨rfl,rfl⟩⟩
|some L =>
  rintro e w' ⟨F',q,v,rfl,h1,h2,h3,h4⟩
  exact⟨_,v,F',rfl,h2,⟨s,m,fa,fn,fc,h3.disk⟩,h4,.inr ⟨L,q,rfl,rfl,h1,h3.log,h3.apart⟩⟩
end
end
section
open Go.RowKit
open Disk (Dk)
variable {n:Nat}
section
variable {g:Nat} {d d':Dk} {F:Nat->Prop} {w:World}
theorem DP.restart (h:DP g d F w) {a:Option Addr} {c:Nat} {ks:List (Int × Int)} (hk:SlP w a n c ks) (hF:∀ y,a=some y->ks ≠ []->¬ F y.block) (hr:Disk.restart d ks=d') :
 Calls Tryz.prog 21 #[.pointer (some ⟨g,0,none⟩),.slice a n c] w fun e w'=>e=.returned (.tuple #[])/\∃ F',DP g d' F' w'/\Upd F w F' w':=by
 obtain⟨s,m,fa,fn,fc,h⟩:=h
 exact (zg_z h hk hF hr).mono fun e w' h'=>⟨h'.1,F,⟨s,m,none,0,0,h'.2.1⟩,h'.2.2⟩
theorem DP.off (h:DP g d F w):Calls Tryz.prog 38 #[.pointer (some ⟨g,0,none⟩)] w fun e w'=>e=.returned (.bool d.off)/\w=w':=by
 obtain⟨s,m,fa,fn,fc,h⟩:=h;exact zt_e h
theorem DP.new (n:Nat) (h1:1<=n) (h2:n<=4096) (w:World) (z:Int) (hz:z=(n:Int)):Calls Tryz.prog 11 #[.int .i64 z] w fun e w' =>
 ∃ g F,e=.returned (.tuple #[.pointer (some ⟨g,0,none⟩),.int .i64 0])/\DP g (Disk.new n) F w'/\(∀ k,F k->w.heap.size<=k)/\Below w.heap.size w w':=by
 refine (zr_h n h1 h2 w z hz).mono fun e w' h'=>?_
 obtain⟨F,g,s,m,fa,fn,fc,h3,h4,h5,h6⟩:=h'
 exact⟨g,F,h3,⟨s,m,fa,fn,fc,h4⟩,h5,h6⟩
theorem DP.load (k:Nat) (h1:1<=k) (h2:k<=4096) (a:Option Addr) (c:Nat) (l:List UInt8) (w:World) (n:Nat) (hn:n=64 * k) (h:SlB w a n c l):Calls Tryz.prog 31 #[.slice a n c] w fun e w' =>
 ∃ g F,e=.returned (.tuple #[.pointer (some ⟨g,0,none⟩),.int .i64 0])/\DP g (Disk.load k l) F w'/\(∀ k,F k->w.heap.size<=k)/\Below w.heap.size w w':=by
 refine (zs_v a k c l w h1 h2 n hn h).mono fun e w' h'=>?_
 obtain⟨F,g,s,m,fa,fn,fc,h3,h4,h5,h6⟩:=h'
 exact⟨g,F,h3,⟨s,m,fa,fn,fc,h4⟩,h5,h6⟩
end
namespace Reg
open Extent (Quiet V)
def u33:UpdV:=⟨1,⟨[97,46,98],false,7⟩⟩
def p33:Pin:=⟨[97,46,98],false,7⟩
theorem open_fresh {d:Dk} (hq:Quiet n d) (hf:fit n=true):∃ d1 S d2,format d=(0,d1)/\openS d1=(some S,(0,[]),0,d2)/\Has n d2 S 0 []/\S.sup=sup1/\S.log.en=0/\d2.st.flatten=V d2:=by
 obtain⟨d1,f1,f2,f3,f4⟩:=zl_y hq hf
 obtain⟨d2,o1,o2,o3,o4⟩:=zk_x f2 hf f3 rfl
 exact⟨d1,_,d2,f1,o1,⟨o2,hf,rfl,rfl,by decide,by simp,[],[],64 * lc n,0,by rw [o3];exact f3,rfl,rfl⟩,rfl,rfl,o4⟩
theorem aw33:∃ d1 S1 d2 S2 d3 S3 d4 S4 d5,format (Disk.new 60)=(0,d1)/\openS d1=(some S1,(0,[]),0,d2)/\append S1 d2 u33=(0,S2,d3) ∧
 openS (Disk.restart d3 [])=(some S3,(0,[p33]),0,d4)/\compact S3 d4 0 [p33]=(0,S4,d5)/\S4.sup.gen=2/\d1.st.length=60/\(Disk.restart d3 []).st.length=60/\d4.st.length=60:=by
 have hf:fit 60=true:=by decide
 have hcap:(plan 60).cap=3:=by decide
 obtain⟨d1,S1,d2,f1,o1,h1,h2,h3,h4⟩:=open_fresh (Extent.new_quiet 60 (by omega) (by omega)) hf
 have ha:Upt.apply 0 [] u33 (plan 60).cap=([p33],0):=by rw [hcap];decide +kernel
 rcases h1.append ha with⟨S2,d3,a1,a2,a3,a4⟩|⟨-,h⟩
 ·obtain⟨q1,q2⟩:=Extent.restart_quiet a2.quiet
  obtain⟨S3,d4,b1,b2,b3,b4⟩:=a2.open q1 (q2.trans a4)
  have hg:S3.sup.gen=1:=by rw [b3,a3,h2];rfl
  obtain⟨S4,d5,c1,c2,c3,c4,c5⟩:=b2.compact (c':=0) (L':=[p33]) (by decide +kernel) (by rw [hcap];decide) (by rw [hg];decide)
  refine⟨d1,S1,d2,S2,d3,S3,d4,S4,d5,f1,o1,a1,b1,c1,by rw [c3,hg],?_,q1.len,b2.quiet.len⟩
  have:=format_len (Disk.new 60)
  rw [f1] at this
  exact this.trans (by decide)
 ·exact absurd h3 h
end Reg
end
section
open Go.RowKit
def Enters (f:FuncId):Prop:=∀ (a:Array Value) (w:World),Sem.run Tryz.prog (callFunc f a) w=.ok (.enter f a) w
theorem enters1:Enters 107:=fun _ _=>by kernel_rfl
theorem enters2:Enters 109:=fun _ _=>by kernel_rfl
set_option maxRecDepth 100000 in
set_option maxHeartbeats 2000000 in
theorem zr_k (n:Nat) (hn:n<=100) (b:Nat) (fs:Nat->Value) (Phi:Nat->World->Prop) (Post:Int->World->Prop)
 (hrow:∀ i w,i < n->Phi i w->b < w.heap.size/\w.cell? ⟨b,i,none⟩=some (fs i))
 (hstep:∀ i w,i < n->Phi i w->∃ f fa ca,fs i=.func (.func f) fa ca/\Enters f/\Calls Tryz.prog f (fa ++ ca) w fun e w'=>∃ z:Int,e=.returned (.int .i64 z)/\((z=0/\Phi (i+1) w')\/(z ≠ 0/\Post z w')))
 (hend:∀ w,Phi n w->Post 0 w) (w:World) (h:Phi 0 w) :
 Calls Tryz.prog 50 #[.slice (some ⟨b,0,none⟩) n n] w fun e w'=>∃ z:Int,e=.returned (.int .i64 z)/\Post z w':=by
 have HR:=zH hrow
 have HS:=zH hstep
 have HE:=zH hend
 clear hrow hstep hend
 go_enter Tryz.func50,Tryz.ntmps50
 go_wp2_with fail
 go_loopw [8] (fun i wr=>∃ k:Nat,i=.int .i64 k/\k<=n/\Phi k wr) (fun i _=>n - (intOf i).toNat)
 case atStart=>exact⟨0,rfl,Nat.zero_le _,h⟩
 case round =>
  obtain⟨k,rfl,hk,hP⟩:=hrel
  have k0:(0:Int)<=(k:Int):=by omega
  by_cases hlt:k < n
  ·have k1:(k:Int) < (n:Int):=by omega
   obtain⟨hb,hc⟩:=HR.out k wr hlt hP
   obtain⟨f,fa,ca,hf,hE,hC⟩:=HS.out k wr hlt hP
   rw [hf] at hc
   have HC:=zH hC
   have hE2:=hE (fa ++ ca) wr
   clear hC hf hE
   go_wp2_with fail
   refine HC.out.mono ?_;rintro e w1 ⟨z,rfl,hz⟩
   rcases hz with⟨hz,hq⟩|⟨hz,hq⟩
   ·subst hz
    go_wp2_with fail
    go_roundw
    case rel=>exact⟨k+1,by go_num,by omega,hq⟩
    case measure=>simp [intOf];omega
   ·have t1:(z == 0)=false:=by simpa using hz
    go_wp2_with fail
    go_ret
    exact⟨z,rfl,hq⟩
  ·obtain rfl:k=n:=by omega
   have hq:=HE.out _ hP
   go_wp2_with fail
   go_ret
   exact⟨0,rfl,hq⟩
end
end Go.Proofs.YtmanejniepghlaaGreatDoor
