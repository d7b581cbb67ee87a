import Derived.Test.YtmanejniepghlaaGreatDoorRun40
import Derived.Test.YtmanejniepghlaaGreatDoorRun19
import Derived.Test.YtmanejniepghlaaGreatDoorRun39
import Derived.Test.YtmanejniepghlaaGreatDoorRun27
import Derived.Shelf.SlIterI.Nil
import Derived.Shelf.SlIterI.Sorted
import Derived.Shelf.SortM.Plain
import Derived.Shelf.SortM.SortNone
namespace Go.Proofs.YtmanejniepghlaaGreatDoor
section
open Go.RowKit
open Disk (Dk)
variable {w w':World} {g n p q:Nat} {S:Reg.St} {F:Nat->Prop} {d:Dk} {z:Int} {b x:List UInt8} {a:Option Addr}
def stc (g p:Nat) (S:Reg.St):Array Value :=
 #[.pointer g,S.lay.cap,.int .i64 (S.lay.sf 0),S.lay.sc,.int .i64 (S.lay.sf 1),S.lay.sc,.int .i64 (S.lay.lf 0),S.lay.lc,.int .i64 (S.lay.lf 1),S.lay.lc,
  .int .i64 S.slot,.int .u64 S.sup.gen,S.sup.act,.int .u32 S.sup.epoch,S.sup.len,.int .u32 S.sup.sum,.pointer p,.bool S.fl]
def SBt (t:TypeId) (w:World) (q g p:Nat) (S:Reg.St):Prop:=w.heap[q]?=some (.cells (stc g p S) t (0,0))
abbrev SB:=SBt 108
section
variable {t:TypeId} {w w':World} {q g p:Nat} {S:Reg.St}
theorem SBt.lt (h:SBt t w q g p S):q < w.heap.size:=za_a h
theorem SBt.same (h:SBt t w q g p S) (e:w'.heap[q]?=w.heap[q]?):SBt t w' q g p S:=e.trans h
theorem SBt.ext (h:SBt t w q g p S) (e:Below w.heap.size w w'):SBt t w' q g p S:=h.same (e.block _ h.lt)
theorem SBt.free (h:SBt t w q g p S) (k:Nat):w.frozen? (q k)=false:=frozen_of_row _ _ _ _ _ h
theorem SBt.at (h:SBt t w q g p S) (k:Nat):w.cell? (q k)=(stc g p S)[k]?:=cell_of_row _ _ _ _ _ _ h
theorem SBt.disk (h:SBt t w q g p S):w.cell? q=some (.pointer g):=h.at 0
theorem SBt.cap (h:SBt t w q g p S):w.cell? (q 1)=some (S.lay.cap:Value):=h.at 1
theorem SBt.slot (h:SBt t w q g p S):w.cell? (q 10)=some (S.slot:Value):=h.at 10
theorem SBt.gen (h:SBt t w q g p S):w.cell? (q 11)=some (.int .u64 S.sup.gen):=h.at 11
theorem SBt.act (h:SBt t w q g p S):w.cell? (q 12)=some (S.sup.act:Value):=h.at 12
theorem SBt.epoch (h:SBt t w q g p S):w.cell? (q 13)=some (.int .u32 S.sup.epoch):=h.at 13
theorem SBt.len (h:SBt t w q g p S):w.cell? (q 14)=some (S.sup.len:Value):=h.at 14
theorem SBt.sum (h:SBt t w q g p S):w.cell? (q 15)=some (.int .u32 S.sup.sum):=h.at 15
theorem SBt.log (h:SBt t w q g p S):w.cell? (q 16)=some (.pointer p):=h.at 16
theorem SBt.fl (h:SBt t w q g p S):w.cell? (q 17)=some (.bool S.fl):=h.at 17
theorem SBt.setFl (h:SBt t w q g p S) (b:Bool):SBt t (w.setCell (q 17) (.bool b)) q g p { S with fl:=b }:=by unfold SBt;rw [heap_setCell_same _ _ _ _ _ _ h];rfl
theorem SBt.reLog (h:SBt t w q g p S) (L:Wal.L):SBt t w q g p { S with log:=L }:=h
theorem SBt.setSlot (h:SBt t w q g p S) (k:Nat):SBt t (w.setCell (q 10) (k:Value)) q g p { S with slot:=k }:=heap_setCell_same _ q 10 _ _ _ h
theorem SBt.setSup (h:SBt t w q g p S) (s:Super.S) :
 SBt t (((((w.setCell (q 11) (.int .u64 s.gen)).setCell (q 12) (s.act:Value)).setCell (q 13) (.int .u32 s.epoch)).setCell (q 14) (s.len:Value)).setCell (q 15) (.int .u32 s.sum)) q g p { S with sup:=s }:=
 heap_setCell_same _ q 15 _ _ _ (heap_setCell_same _ q 14 _ _ _ (heap_setCell_same _ q 13 _ _ _ (heap_setCell_same _ q 12 _ _ _ (heap_setCell_same _ q 11 _ _ _ h))))
theorem SBt.setLog (h:SBt t w q g p S) (p':Nat) (L:Wal.L):SBt t (w.setCell (q 16) (.pointer p')) q g p' { S with log:=L }:=heap_setCell_same _ q 16 _ _ _ h
end
theorem zb_x (h:SB w q g p S):Calls Tryz.prog 18 #[.pointer q] w fun e w'=>e=.returned (.bool S.fl)/\w=w':=by
 have h1:=h.fl
 clear h
 generalize S.fl=fl at *
 go_enter Tryz.func18,Tryz.ntmps18
 go_wp2
 go_ret
 exact⟨rfl,rfl⟩
theorem zj_v (h:SB w q g p S):Calls Tryz.prog 15 #[.pointer q] w fun e w'=>e=.returned (S.lay.cap:Value)/\w=w':=by
 have h1:=h.cap
 clear h
 go_enter Tryz.func15,Tryz.ntmps15
 go_wp2
 go_ret
 exact⟨rfl,rfl⟩
theorem zh_h (h:SB w q g p S):Calls Tryz.prog 20 #[.pointer q] w fun e w'=>e=.returned (.int .u64 S.sup.gen)/\w=w':=by
 have h1:=h.gen
 clear h
 go_enter Tryz.func20,Tryz.ntmps20
 go_wp2
 go_ret
 exact⟨rfl,rfl⟩
theorem zj_y (h:SB w q g p S) (z:Int):Calls Tryz.prog 63 #[.pointer q,z] w fun e w' =>
 e=.returned (z:Value)/\w'=w.setCell (q 17) (.bool (S.fl || z != 0))/\SB w' q g p { S with fl:=S.fl || z != 0 }:=by
 have h7:=h.fl
 have hf:=h.free 17
 have HS:=zH (h.setFl (S.fl || z != 0))
 clear h
 obtain⟨lay,slot,sup,log,fl⟩:=S
 simp only at h7
 cases fl
 ·by_cases hz:z=0
  ·subst hz
   go_enter Tryz.func63,Tryz.ntmps63
   go_wp2
   go_ret
   exact⟨rfl,rfl,HS.out⟩
  ·have t1:(z != 0)=true:=by simpa using hz
   rw [t1] at HS ⊢
   go_enter Tryz.func63,Tryz.ntmps63
   go_wp2
   go_ret
   exact⟨rfl,rfl,HS.out⟩
 ·go_enter Tryz.func63,Tryz.ntmps63
  go_wp2
  go_ret
  exact⟨rfl,rfl,HS.out⟩
abbrev P1 (F:Nat->Prop) (q:Nat):Nat->Prop:=fun k=>F k\/k=q
def DP (g:Nat) (d:Dk) (F:Nat->Prop) (w:World):Prop:=∃ s m fa fn fc,PD F w g s m fa fn fc d
def PS (g q:Nat) (S:Reg.St) (d:Dk) (F:Nat->Prop) (w:World):Prop:=∃ F0 p,F=P1 (P1 F0 p) q/\DP g d F0 w/\LB w p g S.log/\¬ F0 p/\SB w q g p S/\¬ F0 q/\q ≠ p
theorem DP.fp (g:Nat) (d:Dk):Fp (DP g d) where
 stay:=fun ⟨s,m,fa,fn,fc,h⟩ k hz=>⟨s,m,fa,fn,fc,h.stay k hz⟩
 lt:=fun ⟨_,_,_,_,_,h⟩=>h.lt
theorem DP.ok (h:DP g d F w):d.Ok:=by obtain⟨_,_,_,_,_,h⟩:=h;exact h.ok
theorem DP.ext (h:DP g d F w) (e:Below w.heap.size w w'):DP g d F w':=(DP.fp g d).ext h e
theorem DP.stay (h:DP g d F w) (k:∀ b,F b->w'.heap[b]?=w.heap[b]?) (hz:w.heap.size<=w'.heap.size):DP g d F w':=(DP.fp g d).stay h k hz
theorem DP.lt (h:DP g d F w):∀ k,F k->k < w.heap.size:=(DP.fp g d).lt h
theorem PS.fp (g q:Nat) (S:Reg.St) (d:Dk):Fp (PS g q S d) where
 stay:=fun ⟨F0,p,e,h1,h2,h3,h4,h5,h6⟩ k hz=>by
  subst e
  exact⟨F0,p,rfl,h1.stay (fun b hb=>k b (.inl (.inl hb))) hz,h2.same (k p (.inl (.inr rfl))),h3,h4.same (k q (.inr rfl)),h5,h6⟩
 lt:=fun ⟨F0,p,e,h1,h2,h3,h4,h5,h6⟩=>by
  subst e
  rintro k ((hk|rfl)|rfl)
  ·exact h1.lt k hk
  ·exact h2.lt
  ·exact h4.lt
theorem PS.ext (h:PS g q S d F w) (e:Below w.heap.size w w'):PS g q S d F w':=(PS.fp g q S d).ext h e
theorem PS.lt (h:PS g q S d F w):∀ k,F k->k < w.heap.size:=(PS.fp g q S d).lt h
theorem Upd.more {F' G:Nat->Prop} (h:Upd F w F' w') (k:∀ b,F b->G b):Upd G w F' w' :=
 ⟨h.os,h.tape,h.output,h.size,fun i hi hG=>h.block i hi fun e=>hG (k i e),fun i hi=>by rcases h.new i hi with e|e;exact .inl (k i e);exact .inr e⟩
theorem PS.forget (h:PS g q S d F w):∃ F0,DP g d F0 w/\Upd F w F0 w:=by
 obtain⟨F0,p,rfl,h1,-⟩:=h
 exact⟨F0,h1,(Upd.refl F0 w).more fun b hb=>.inl (.inl hb)⟩
theorem PS.turn {d':Dk} {F0 F1:Nat->Prop} (h2:LB w p g S.log) (h3:¬ F0 p) (h4:SB w q g p S) (h5:¬ F0 q) (h6:q ≠ p) (h1:DP g d' F1 w') (u:Upd F0 w F1 w') :
 PS g q S d' (P1 (P1 F1 p) q) w'/\Upd (P1 (P1 F0 p) q) w (P1 (P1 F1 p) q) w':=by
 have n3:¬ F1 p:=fun e=>by rcases u.new p e with e|e;exact h3 e;have:=h2.lt;omega
 have n5:¬ F1 q:=fun e=>by rcases u.new q e with e|e;exact h5 e;have:=h4.lt;omega
 exact⟨⟨F1,p,rfl,h1,h2.same (u.block p h2.lt h3),n3,h4.same (u.block q h4.lt h5),n5,h6⟩,(u.beside p).beside q⟩
section
variable {g:Nat} {d d':Dk} {F:Nat->Prop} {w:World}
theorem DP.sectors (h:DP g d F w):Calls Tryz.prog 45 #[.pointer g] w fun e w'=>e=.returned (.int .i64 (d.st.length:Nat))/\w=w':=by
 obtain⟨s,m,fa,fn,fc,h⟩:=h;exact zc_q h
theorem DP.sync (h:DP g d F w) (hr:Disk.sync d=(z,d')):Calls Tryz.prog 51 #[.pointer g] w fun e w'=>e=.returned (z:Value)/\DP g d' F w'/\Upd F w F w':=by
 obtain⟨s,m,fa,fn,fc,h⟩:=h
 exact (ze_e h hr).mono fun e w' ⟨h1,h2,h3⟩=>⟨h1,⟨s,m,fa,fn,fc,h2⟩,h3⟩
theorem DP.read (h:DP g d F w) (i:Int) (hr:Disk.read d i=(b,z,d')):Calls Tryz.prog 112 #[.pointer g,i] w fun e w'=>∃ v,e=.returned (.tuple #[v,z])/\OwnB w.heap.size w' v b/\DP g d' F w'/\Upd F w F w':=by
 obtain⟨s,m,fa,fn,fc,h⟩:=h
 refine (ze_d h i hr).mono fun e w' h'=>?_
 obtain⟨v,h1,h2,h3,h4⟩:=h'
 exact⟨v,h1,h2,⟨s,m,fa,fn,fc,h3⟩,h4⟩
theorem DP.write (h:DP g d F w) (i:Int) {c:Nat} (hx:SlB w a n c x) (hF:∀ y,a=some y->x ≠ []->¬ F y.block) (hr:Disk.write d i x=(z,d')) :
 Calls Tryz.prog 53 #[.pointer g,i,.slice a n c] w fun e w'=>e=.returned (z:Value)/\∃ F',DP g d' F' w'/\Upd F w F' w':=by
 obtain⟨s,m,fa,fn,fc,h⟩:=h
 refine (zc_d h i hx hF hr).mono fun e w' h'=>?_
 obtain⟨h1,F',h2,h3⟩:=h'
 exact⟨h1,F',⟨s,m,fa,fn,fc,h2⟩,h3⟩
theorem DP.eread (h:DP g d F w) (f c off len:Int) (hf:ib f) (hc:ib c) (ho:ib off) (hl:ib len) (hr:Extent.read d f c off len=(b,z,d')) :
 Calls Tryz.prog 127 #[.pointer g,.agg #[f,c],off,len] w fun e w'=>∃ v,e=.returned (.tuple #[v,z])/\OwnB w.heap.size w' v b/\DP g d' F w'/\Upd F w F w':=by
 obtain⟨s,m,fa,fn,fc,h⟩:=h
 refine (zd_v h f c off len hf hc ho hl hr).mono fun e w' h'=>?_
 obtain⟨v,h1,h2,h3,h4⟩:=h'
 exact⟨v,h1,h2,⟨s,m,fa,fn,fc,h3⟩,h4⟩
theorem DP.ewrite (h:DP g d F w) (f c off:Int) (hf:ib f) (hc:ib c) (ho:ib off) {ca:Nat} (hx:SlB w a n ca x) (hF:∀ y,a=some y->x ≠ []->¬ F y.block) (hr:Extent.write d f c off x=(z,d')) :
 Calls Tryz.prog 108 #[.pointer g,.agg #[f,c],off,.slice a n ca] w fun e w'=>e=.returned (z:Value)/\∃ F',DP g d' F' w'/\Upd F w F' w':=by
 obtain⟨s,m,fa,fn,fc,h⟩:=h
 refine (zc_x h f c off hf hc ho hx hF hr).mono fun e w' h'=>?_
 obtain⟨h1,F',h2,h3⟩:=h'
 exact⟨h1,F',⟨s,m,fa,fn,fc,h2⟩,h3⟩
def WOP (g:Nat) (F:Nat->Prop) (w:World) (r:Option Wal.L × List (List UInt8) × Int × Dk) (e:Ending) (w':World):Prop :=
 ∃ pv v F',e=.returned (.tuple #[pv,v,r.2.2.1])/\OwnL w.heap.size w' v r.2.1/\DP g r.2.2.2 F' w'/\Upd F w F' w' ∧
  ((r.1=none/\pv=.pointer none)\/∃ L p,r.1=some L/\pv=.pointer (p:Nat)/\w.heap.size<=p/\LB w' p g L/\¬ F' p)
theorem DP.wopen (h:DP g d F w) (f c:Int) (hf:ib f) (hc:ib c) (ep:Nat) (hep:ep < 4294967296) (hn:d.st.length<=1000) {r:Option Wal.L × List (List UInt8) × Int × Dk} (hr:Wal.open d f c ep=r) :
 Calls Tryz.prog 66 #[.pointer g,.agg #[f,c],.int .u32 (ep:Nat)] w (WOP g F w r):=by
 obtain⟨s,m,fa,fn,fc,h⟩:=h
 have hno:=Wal.open_none (d:=d) (f:=f) (c:=c) (ep:=ep)
 have h0:=zt_b h f c hf hc ep hep hn
 rw [hr] at hno h0
 obtain⟨lo,ps,z,d'⟩:=r
 refine h0.mono ?_
 unfold WalOpenPost WOP
 cases lo with
|none =>
  rintro e w' ⟨rfl,F',h1,h2⟩
  have e0:ps=[]:=hno rfl
  subst e0
  exact⟨_,_,F',rfl,OwnL.nil _ _,⟨s,m,fa,fn,fc,h1⟩,h2,.inl ⟨rfl,rfl⟩⟩
|some L =>
  rintro e w' ⟨F',q,v,rfl,h1,h2,h3,h4⟩
  exact⟨_,v,F',rfl,h2,⟨s,m,fa,fn,fc,h3.disk⟩,h4,.inr ⟨L,q,rfl,rfl,h1,h3.log,h3.apart⟩⟩
end
end
section
open Go.RowKit
open Disk (Dk)
variable {c n:Nat} {a:Option Addr}
section
variable {g:Nat} {d d':Dk} {F:Nat->Prop} {w:World}
theorem DP.restart (h:DP g d F w) {ks:List (Int × Int)} (hk:SlP w a n c ks) (hF:∀ y,a=some y->ks ≠ []->¬ F y.block) (hr:Disk.restart d ks=d') :
 Calls Tryz.prog 21 #[.pointer g,.slice a n c] w fun e w'=>e=.returned (.tuple #[])/\∃ F',DP g d' F' w'/\Upd F w F' w':=by
 obtain⟨s,m,fa,fn,fc,h⟩:=h
 exact (zh_l h hk hF hr).mono fun e w' h'=>⟨h'.1,F,⟨s,m,none,0,0,h'.2.1⟩,h'.2.2⟩
theorem DP.arm (h:DP g d F w) {l:List (Int × Int)} (hl:SlP w a n c l) {z:Int} (hr:Disk.arm d l=(z,d')) :
 Calls Tryz.prog 26 #[.pointer g,.slice a n c] w fun e w'=>e=.returned (z:Value)/\∃ F',DP g d' F' w'/\Upd F w F' w':=by
 obtain⟨s,m,fa,fn,fc,h⟩:=h
 refine (zo_q h hl hr).mono fun e w' h'=>?_
 obtain⟨h1,F',fa',fn',fc',h2,h3⟩:=h'
 exact⟨h1,F',⟨s,m,fa',fn',fc',h2⟩,h3⟩
theorem DP.image (h:DP g d F w):Calls Tryz.prog 28 #[.pointer g] w fun e w'=>∃ v,e=.returned v/\OwnB w.heap.size w' v d.st.flatten/\Below w.heap.size w w':=by
 obtain⟨s,m,fa,fn,fc,h⟩:=h;exact zq_p h
theorem DP.new (n:Nat) (h1:1<=n) (h2:n<=4096) (w:World) (z:Int) (hz:z=(n:Int)):Calls Tryz.prog 11 #[z] w fun e w' =>
 ∃ g F,e=.returned (.tuple #[.pointer (g:Nat),.int .i64 0])/\DP g (Disk.new n) F w'/\(∀ k,F k->w.heap.size<=k)/\Below w.heap.size w w':=by
 refine (zt_m n h1 h2 w z hz).mono fun e w' h'=>?_
 obtain⟨F,g,s,m,fa,fn,fc,h3,h4,h5,h6⟩:=h'
 exact⟨g,F,h3,⟨s,m,fa,fn,fc,h4⟩,h5,h6⟩
end
end
section
open Go.RowKit
def Enters (f:FuncId):Prop:=∀ (a:Array Value) (w:World),Sem.run Tryz.prog (callFunc f a) w=.ok (.enter f a) w
theorem enters1:Enters 107:=fun _ _=>by kernel_rfl
theorem enters2:Enters 109:=fun _ _=>by kernel_rfl
set_option maxRecDepth 100000 in
set_option maxHeartbeats 2000000 in
theorem zr_i (n:Nat) (hn:n<=100) (b:Nat) (fs:Nat->Value) (Phi:Nat->World->Prop) (Post:Int->World->Prop)
 (hrow:∀ i w,i < n->Phi i w->b < w.heap.size/\w.cell? (b i)=some (fs i))
 (hstep:∀ i w,i < n->Phi i w->∃ f fa ca,fs i=.func (.func f) fa ca/\Enters f/\Calls Tryz.prog f (fa ++ ca) w fun e w'=>∃ z:Int,e=.returned (z:Value)/\((z=0/\Phi (i+1) w')\/(z ≠ 0/\Post z w')))
 (hend:∀ w,Phi n w->Post 0 w) (w:World) (h:Phi 0 w) :
 Calls Tryz.prog 50 #[.slice b n n] w fun e w'=>∃ z:Int,e=.returned (z:Value)/\Post z w':=by
 have HR:=zH hrow
 have HS:=zH hstep
 have HE:=zH hend
 clear hrow hstep hend
 go_enter Tryz.func50,Tryz.ntmps50
 go_wp2_with fail
 go_loopw [8] (fun i wr=>∃ k:Nat,i=.int .i64 k/\k<=n/\Phi k wr) (fun i _=>n - (intOf i).toNat)
 case atStart=>exact⟨0,rfl,Nat.zero_le _,h⟩
 case round =>
  obtain⟨k,rfl,hk,hP⟩:=hrel
  have k0:(0:Int)<=(k:Int):=by omega
  by_cases hlt:k < n
  ·have k1:(k:Int) < (n:Int):=by omega
   obtain⟨hb,hc⟩:=HR.out k wr hlt hP
   obtain⟨f,fa,ca,hf,hE,hC⟩:=HS.out k wr hlt hP
   rw [hf] at hc
   have HC:=zH hC
   have hE2:=hE (fa ++ ca) wr
   clear hC hf hE
   go_wp2_with fail
   refine HC.out.mono ?_;rintro e w1 ⟨z,rfl,hz⟩
   rcases hz with⟨hz,hq⟩|⟨hz,hq⟩
   ·subst hz
    go_wp2_with fail
    go_roundw
    case rel=>exact⟨k+1,by go_num,by omega,hq⟩
    case measure=>simp [intOf];omega
   ·have t1:(z == 0)=false:=by simpa using hz
    go_wp2_with fail
    go_ret
    exact⟨z,rfl,hq⟩
  ·obtain rfl:k=n:=by omega
   have hq:=HE.out _ hP
   go_wp2_with fail
   go_ret
   exact⟨0,rfl,hq⟩
end
end Go.Proofs.YtmanejniepghlaaGreatDoor
