import Derived.Test.YtmanejniepghlaaGreatDoorRun39
import Derived.Test.YtmanejniepghlaaGreatDoorRun17
import Derived.Test.YtmanejniepghlaaGreatDoorRun38
import Derived.Test.YtmanejniepghlaaGreatDoorRun26
import Derived.Test.YtmanejniepghlaaGreatDoorRun30
namespace Go.Proofs.YtmanejniepghlaaGreatDoor
open _root_.Go.Proofs.Tryz
section
open Go.RowKit
open Dd (Dk)
variable {w w':World} {g n p q:Nat} {S:AH.St} {F:Nat->Prop} {d:Dk} {z:Int} {b x:List UInt8} {a:Option Addr}
def stc (g p:Nat) (S:AH.St):Array Value :=
 #[.pointer g,S.lay.cap,.int .i64 (S.lay.sf 0),S.lay.sc,.int .i64 (S.lay.sf 1),S.lay.sc,.int .i64 (S.lay.lf 0),S.lay.lc,.int .i64 (S.lay.lf 1),S.lay.lc,
  .int .i64 S.slot,.int .u64 S.sup.gen,S.sup.act,.int .u32 S.sup.AA,S.sup.len,.int .u32 S.sup.sum,.pointer p,.bool S.fl]
def CP (t:TypeId) (w:World) (q g p:Nat) (S:AH.St):Prop:=w.heap[q]?=some (.cells (stc g p S) t (0,0))
abbrev SB:=CP 108
section
variable {t:TypeId} {w w':World} {q g p:Nat} {S:AH.St}
theorem CP.lt (h:CP t w q g p S):q < w.heap.size:=Qa h
theorem CP.same (h:CP t w q g p S) (e:w'.heap[q]?=w.heap[q]?):CP t w' q g p S:=e.trans h
theorem CP.ext (h:CP t w q g p S) (e:Below w.heap.size w w'):CP t w' q g p S:=h.same (e.block _ h.lt)
theorem CP.free (h:CP t w q g p S) (k:Nat):w.frozen? (q k)=false:=frozen_of_row _ _ _ _ _ h
theorem CP.at (h:CP t w q g p S) (k:Nat):w.cell? (q k)=(stc g p S)[k]?:=cell_of_row _ _ _ _ _ _ h
theorem CP.disk (h:CP t w q g p S):w.cell? q=some (.pointer g):=h.at 0
theorem CP.cap (h:CP t w q g p S):w.cell? (q 1)=some (S.lay.cap:Value):=h.at 1
theorem CP.slot (h:CP t w q g p S):w.cell? (q 10)=some (S.slot:Value):=h.at 10
theorem CP.gen (h:CP t w q g p S):w.cell? (q 11)=some (.int .u64 S.sup.gen):=h.at 11
theorem CP.act (h:CP t w q g p S):w.cell? (q 12)=some (S.sup.act:Value):=h.at 12
theorem CP.AA (h:CP t w q g p S):w.cell? (q 13)=some (.int .u32 S.sup.AA):=h.at 13
theorem CP.len (h:CP t w q g p S):w.cell? (q 14)=some (S.sup.len:Value):=h.at 14
theorem CP.sum (h:CP t w q g p S):w.cell? (q 15)=some (.int .u32 S.sup.sum):=h.at 15
theorem CP.log (h:CP t w q g p S):w.cell? (q 16)=some (.pointer p):=h.at 16
theorem CP.fl (h:CP t w q g p S):w.cell? (q 17)=some (.bool S.fl):=h.at 17
theorem CP.OL (h:CP t w q g p S) (b:Bool):CP t (w.setCell (q 17) (.bool b)) q g p { S with fl:=b }:=by unfold CP;rw [heap_setCell_same _ _ _ _ _ _ h];rfl
theorem CP.QR (h:CP t w q g p S) (L:AO.L):CP t w q g p { S with log:=L }:=h
theorem CP.QU (h:CP t w q g p S) (k:Nat):CP t (w.setCell (q 10) (k:Value)) q g p { S with slot:=k }:=heap_setCell_same _ q 10 _ _ _ h
theorem CP.TV (h:CP t w q g p S) (s:Su.S) :
 CP t (((((w.setCell (q 11) (.int .u64 s.gen)).setCell (q 12) (s.act:Value)).setCell (q 13) (.int .u32 s.AA)).setCell (q 14) (s.len:Value)).setCell (q 15) (.int .u32 s.sum)) q g p { S with sup:=s }:=
 heap_setCell_same _ q 15 _ _ _ (heap_setCell_same _ q 14 _ _ _ (heap_setCell_same _ q 13 _ _ _ (heap_setCell_same _ q 12 _ _ _ (heap_setCell_same _ q 11 _ _ _ h))))
theorem CP.MY (h:CP t w q g p S) (c:Nat) (L:AO.L):CP t (w.setCell (q 16) (.pointer c)) q g c { S with log:=L }:=heap_setCell_same _ q 16 _ _ _ h
end
theorem Yx (w:World):Calls prog 18 #[.pointer none] w fun e w'=>e=.returned (.bool true)/\w=w':=by
 go_in
 go_wp2
 go_ret
 exact⟨rfl,rfl⟩
theorem Vs (h:SB w q g p S):Calls prog 18 #[.pointer q] w fun e w'=>e=.returned (.bool S.fl)/\w=w':=by
 have c:=h.fl
 clear h
 generalize S.fl=fl at *
 go_in
 go_wp2
 go_ret
 exact⟨rfl,rfl⟩
theorem Gi (h:SB w q g p S):Calls prog 15 #[.pointer q] w fun e w'=>e=.returned (S.lay.cap:Value)/\w=w':=by
 have c:=h.cap
 clear h
 go_in
 go_wp2
 go_ret
 exact⟨rfl,rfl⟩
theorem Yy (h:SB w q g p S):Calls prog 20 #[.pointer q] w fun e w'=>e=.returned (.int .u64 S.sup.gen)/\w=w':=by
 have c:=h.gen
 clear h
 go_in
 go_wp2
 go_ret
 exact⟨rfl,rfl⟩
theorem Lk (h:SB w q g p S) (i:LB w p g S.log) (f:AO.OT S.log) {x:Int} (j:Ex.size S.log.c - (S.log.en:Int)=x) :
 Calls prog 16 #[.pointer q] w fun e w'=>e=.returned (x:Value)/\Below w.heap.size w w':=by
 have m:=h.log
 have k:=zH (Pd i f x j)
 clear h i f j
 go_in
 go_wp2_with fail
 refine k.out.mono ?_;rintro e o ⟨rfl,l⟩
 go_wp2_with fail
 go_ret
 exact⟨rfl,l⟩
theorem Gl (h:SB w q g p S) (z:Int):Calls prog 63 #[.pointer q,z] w fun e w' =>
 e=.returned (z:Value)/\w'=w.setCell (q 17) (.bool (S.fl || z != 0))/\SB w' q g p { S with fl:=S.fl || z != 0 }:=by
 have i:=h.fl
 have k:=h.free 17
 have c:=zH (h.OL (S.fl || z != 0))
 clear h
 obtain⟨lay,slot,sup,log,fl⟩:=S
 simp only at i
 cases fl
 ·by_cases f:z=0
  ·subst f
   go_in
   go_wp2
   go_ret
   exact⟨rfl,rfl,c.out⟩
  ·have j:(z != 0)=true:=by simpa using f
   rw [j] at c ⊢
   go_in
   go_wp2
   go_ret
   exact⟨rfl,rfl,c.out⟩
 ·go_in
  go_wp2
  go_ret
  exact⟨rfl,rfl,c.out⟩
abbrev P1 (F:Nat->Prop) (q:Nat):Nat->Prop:=fun k=>F k\/k=q
def DP (g:Nat) (d:Dk) (F:Nat->Prop) (w:World):Prop:=∃ s m c fn e,PD F w g s m c fn e d
def PS (g q:Nat) (S:AH.St) (d:Dk) (F:Nat->Prop) (w:World):Prop:=∃ c p,F=P1 (P1 c p) q/\DP g d c w/\LB w p g S.log/\¬ c p/\SB w q g p S/\¬ c q/\q ≠ p
theorem DP.fp (g:Nat) (d:Dk):Fp (DP g d) where
 AI:=fun ⟨s,m,c,fn,e,h⟩ k f=>⟨s,m,c,fn,e,h.AI k f⟩
 lt:=fun ⟨_,_,_,_,_,h⟩=>h.lt
theorem DP.ok (h:DP g d F w):d.Ok:=by obtain⟨_,_,_,_,_,h⟩:=h;exact h.ok
theorem DP.ext (h:DP g d F w) (e:Below w.heap.size w w'):DP g d F w':=(DP.fp g d).ext h e
theorem DP.AI (h:DP g d F w) (k:∀ b,F b->w'.heap[b]?=w.heap[b]?) (c:w.heap.size<=w'.heap.size):DP g d F w':=(DP.fp g d).AI h k c
theorem DP.lt (h:DP g d F w):∀ k,F k->k < w.heap.size:=(DP.fp g d).lt h
theorem PS.fp (g q:Nat) (S:AH.St) (d:Dk):Fp (PS g q S d) where
 AI:=fun ⟨i,p,e,c,f,j,h,l,m⟩ k s=>by
  subst e
  exact⟨i,p,rfl,c.AI (fun b o=>k b (.inl (.inl o))) s,f.same (k p (.inl (.inr rfl))),j,h.same (k q (.inr rfl)),l,m⟩
 lt:=fun ⟨i,p,e,c,f,j,h,l,m⟩=>by
  subst e
  rintro k ((r|rfl)|rfl)
  ·exact c.lt k r
  ·exact f.lt
  ·exact h.lt
theorem PS.ext (h:PS g q S d F w) (e:Below w.heap.size w w'):PS g q S d F w':=(PS.fp g q S d).ext h e
theorem PS.lt (h:PS g q S d F w):∀ k,F k->k < w.heap.size:=(PS.fp g q S d).lt h
theorem AD.more {F' G:Nat->Prop} (h:AD F w F' w') (k:∀ b,F b->G b):AD G w F' w' :=
 ⟨h.os,h.tape,h.output,h.size,fun i c f=>h.block i c fun e=>f (k i e),fun i c=>by rcases h.new i c with e|e;exact .inl (k i e);exact .inr e⟩
theorem PS.forget (h:PS g q S d F w):∃ c,DP g d c w/\AD F w c w:=by
 obtain⟨c,p,rfl,e,-⟩:=h
 exact⟨c,e,(AD.refl c w).more fun b f=>.inl (.inl f)⟩
theorem PS.turn {d':Dk} {f c:Nat->Prop} (h:LB w p g S.log) (j:¬ f p) (i:SB w q g p S) (k:¬ f q) (m:q ≠ p) (l:DP g d' c w') (u:AD f w c w') :
 PS g q S d' (P1 (P1 c p) q) w'/\AD (P1 (P1 f p) q) w (P1 (P1 c p) q) w':=by
 have o:¬ c p:=fun e=>by rcases u.new p e with e|e;exact j e;have:=h.lt;omega
 have n5:¬ c q:=fun e=>by rcases u.new q e with e|e;exact k e;have:=i.lt;omega
 exact⟨⟨c,p,rfl,l,h.same (u.block p h.lt j),o,i.same (u.block q i.lt k),n5,m⟩,(u.beside p).beside q⟩
section
variable {g:Nat} {d d':Dk} {F:Nat->Prop} {w:World}
theorem DP.sectors (h:DP g d F w):Calls prog 45 #[.pointer g] w fun e w'=>e=.returned (.int .i64 (d.st.length:Nat))/\w=w':=by
 obtain⟨s,m,c,fn,f,h⟩:=h;exact Yc h
theorem DP.sync (h:DP g d F w) (hr:Dd.sync d=(z,d')):Calls prog 51 #[.pointer g] w fun e w'=>e=.returned (z:Value)/\DP g d' F w'/\AD F w F w':=by
 obtain⟨s,m,c,fn,f,h⟩:=h
 exact (Zq h hr).mono fun e w' ⟨i,j,k⟩=>⟨i,⟨s,m,c,fn,f,j⟩,k⟩
theorem DP.read (h:DP g d F w) (i:Int) (hr:Dd.read d i=(b,z,d')):Calls prog 112 #[.pointer g,i] w fun e w'=>∃ v,e=.returned (.tuple #[v,z])/\AC w.heap.size w' v b/\DP g d' F w'/\AD F w F w':=by
 obtain⟨s,m,c,fn,f,h⟩:=h
 refine (Zp h i hr).mono fun e w' j=>?_
 obtain⟨v,k,l,o,r⟩:=j
 exact⟨v,k,l,⟨s,m,c,fn,f,o⟩,r⟩
theorem DP.write (h:DP g d F w) (i:Int) {c:Nat} (A:AM w a n c x) (hF:∀ y,a=some y->x ≠ []->¬ F y.block) (hr:Dd.write d i x=(z,d')) :
 Calls prog 53 #[.pointer g,i,.slice a n c] w fun e w'=>e=.returned (z:Value)/\∃ f,DP g d' f w'/\AD F w f w':=by
 obtain⟨s,m,j,fn,k,h⟩:=h
 refine (Xn h i A hF hr).mono fun e w' l=>?_
 obtain⟨o,f,r,u⟩:=l
 exact⟨o,f,⟨s,m,j,fn,k,r⟩,u⟩
theorem DP.eread (h:DP g d F w) (f c off len:Int) (A:ib f) (y:ib c) (ho:ib off) (B:ib len) (hr:Ex.read d f c off len=(b,z,d')) :
 Calls prog 127 #[.pointer g,.agg #[f,c],off,len] w fun e w'=>∃ v,e=.returned (.tuple #[v,z])/\AC w.heap.size w' v b/\DP g d' F w'/\AD F w F w':=by
 obtain⟨s,m,i,fn,j,h⟩:=h
 refine (Zi h f c off len A y ho B hr).mono fun e w' k=>?_
 obtain⟨v,l,o,r,u⟩:=k
 exact⟨v,l,o,⟨s,m,i,fn,j,r⟩,u⟩
theorem DP.ewrite (h:DP g d F w) (f c off:Int) (B:ib f) (A:ib c) (ho:ib off) {ca:Nat} (C:AM w a n ca x) (hF:∀ y,a=some y->x ≠ []->¬ F y.block) (hr:Ex.write d f c off x=(z,d')) :
 Calls prog 108 #[.pointer g,.agg #[f,c],off,.slice a n ca] w fun e w'=>e=.returned (z:Value)/\∃ i,DP g d' i w'/\AD F w i w':=by
 obtain⟨s,m,j,fn,k,h⟩:=h
 refine (Yk h f c off B A ho C hF hr).mono fun e w' l=>?_
 obtain⟨o,i,r,u⟩:=l
 exact⟨o,i,⟨s,m,j,fn,k,r⟩,u⟩
def VW (g:Nat) (F:Nat->Prop) (w:World) (r:Option AO.L × List (List UInt8) × Int × Dk) (e:Ending) (w':World):Prop :=
 ∃ pv v c,e=.returned (.tuple #[pv,v,r.2.2.1])/\BR w.heap.size w' v r.2.1/\DP g r.2.2.2 c w'/\AD F w c w' ∧
  ((r.1=none/\pv=.pointer none)\/∃ L p,r.1=some L/\pv=.pointer (p:Nat)/\w.heap.size<=p/\LB w' p g L/\¬ c p)
theorem DP.wopen (h:DP g d F w) (f c:Int) (H:ib f) (G:ib c) (ep:Nat) (A:ep < 4294967296) (hn:d.st.length<=1000) {r:Option AO.L × List (List UInt8) × Int × Dk} (hr:AO.open d f c ep=r) :
 Calls prog 66 #[.pointer g,.agg #[f,c],.int .u32 (ep:Nat)] w (VW g F w r):=by
 obtain⟨s,m,u,fn,y,h⟩:=h
 have o:=AO.LM (d:=d) (f:=f) (c:=c) (ep:=ep)
 have h0:=Md h f c H G ep A hn
 rw [hr] at o h0
 obtain⟨lo,I,z,d'⟩:=r
 refine h0.mono ?_
 unfold FN VW
 cases lo with
|none =>
  rintro e w' ⟨rfl,i,j,k⟩
  have B:I=[]:=o rfl
  subst B
  exact⟨_,_,i,rfl,BR.nil _ _,⟨s,m,u,fn,y,j⟩,k,.inl ⟨rfl,rfl⟩⟩
|some L =>
  rintro e w' ⟨i,q,v,rfl,j,k,l,C⟩
  exact⟨_,v,i,rfl,k,⟨s,m,u,fn,y,l.disk⟩,C,.inr ⟨L,q,rfl,rfl,j,l.log,l.apart⟩⟩
end
end
section
open Go.RowKit
open Dd (Dk)
variable {c n:Nat} {a:Option Addr}
section
variable {g:Nat} {d d':Dk} {F:Nat->Prop} {w:World}
theorem DP.restart (h:DP g d F w) {f:List (Int × Int)} (k:CZ w a n c f) (hF:∀ y,a=some y->f ≠ []->¬ F y.block) (hr:Dd.restart d f=d') :
 Calls prog 21 #[.pointer g,.slice a n c] w fun e i=>e=.returned (.tuple #[])/\∃ j,DP g d' j i/\AD F w j i:=by
 obtain⟨s,m,l,fn,o,h⟩:=h
 exact (Wm h k hF hr).mono fun e i b=>⟨b.1,F,⟨s,m,none,0,0,b.2.1⟩,b.2.2⟩
theorem DP.arm (h:DP g d F w) {l:List (Int × Int)} (t:CZ w a n c l) {z:Int} (hr:Dd.arm d l=(z,d')) :
 Calls prog 26 #[.pointer g,.slice a n c] w fun e f=>e=.returned (z:Value)/\∃ b,DP g d' b f/\AD F w b f:=by
 obtain⟨s,m,u,fn,x,h⟩:=h
 refine (Ct h t hr).mono fun e f o=>?_
 obtain⟨p,b,i,k,j,q,r⟩:=o
 exact⟨p,b,⟨s,m,i,k,j,q⟩,r⟩
theorem DP.off (h:DP g d F w):Calls prog 38 #[.pointer g] w fun e b=>e=.returned (.bool d.off)/\w=b:=by
 obtain⟨s,m,f,fn,i,h⟩:=h;exact Mw h
theorem DP.dirty (h:DP g d F w):Calls prog 41 #[.pointer g] w fun e b=>∃ v,e=.returned v/\AS w.heap.size b v (Dd.dirty d)/\Below w.heap.size w b:=by
 obtain⟨s,m,f,fn,i,h⟩:=h;exact Ey h
theorem DP.image (h:DP g d F w):Calls prog 28 #[.pointer g] w fun e b=>∃ v,e=.returned v/\AC w.heap.size b v d.st.flatten/\Below w.heap.size w b:=by
 obtain⟨s,m,f,fn,i,h⟩:=h;exact Fa h
theorem DP.new (n:Nat) (j:1<=n) (l:n<=4096) (w:World) (z:Int) (t:z=(n:Int)):Calls prog 11 #[z] w fun e b =>
 ∃ g F,e=.returned (.tuple #[.pointer (g:Nat),.int .i64 0])/\DP g (Dd.new n) F b/\(∀ k,F k->w.heap.size<=k)/\Below w.heap.size w b:=by
 refine (Ie n j l w z t).mono fun e b i=>?_
 obtain⟨F,g,s,m,f,fn,h,o,p,q,r⟩:=i
 exact⟨g,F,o,⟨s,m,f,fn,h,p⟩,q,r⟩
theorem DP.load (k:Nat) (o:1<=k) (p:k<=4096) (a:Option Addr) (c:Nat) (l:List UInt8) (w:World) (n:Nat) (hn:n=64 * k) (h:AM w a n c l):Calls prog 31 #[.slice a n c] w fun e b =>
 ∃ g F,e=.returned (.tuple #[.pointer (g:Nat),.int .i64 0])/\DP g (Dd.load k l) F b/\(∀ k,F k->w.heap.size<=k)/\Below w.heap.size w b:=by
 refine (Lw a k c l w o p n hn h).mono fun e b j=>?_
 obtain⟨F,g,s,m,f,fn,i,q,r,t,u⟩:=j
 exact⟨g,F,q,⟨s,m,f,fn,i,r⟩,t,u⟩
end
end
section
open Go.RowKit
def FB (f:FuncId):Prop:=∀ (a:Array Value) (w:World),Sem.run prog (callFunc f a) w=.ok (.enter f a) w
theorem PZ:FB 107:=fun _ _=>by kernel_rfl
theorem QA:FB 109:=fun _ _=>by kernel_rfl
set_option maxRecDepth 100000 in
set_option maxHeartbeats 2000000 in
theorem Ib (n:Nat) (hn:n<=100) (b:Nat) (fs:Nat->Value) (a:Nat->World->Prop) (m:Int->World->Prop)
 (r:∀ i w,i < n->a i w->b < w.heap.size/\w.cell? (b i)=some (fs i))
 (p:∀ i w,i < n->a i w->∃ f j g,fs i=.func (.func f) j g/\FB f/\Calls prog f (j ++ g) w fun e l=>∃ z:Int,e=.returned (z:Value)/\((z=0/\a (i+1) l)\/(z ≠ 0/\m z l)))
 (q:∀ w,a n w->m 0 w) (w:World) (h:a 0 w) :
 Calls prog 50 #[.slice b n n] w fun e l=>∃ z:Int,e=.returned (z:Value)/\m z l:=by
 have B:=zH r
 have C:=zH p
 have A:=zH q
 clear r p q
 go_in
 go_wp2_with fail
 go_loopw [8] (fun i wr=>∃ k:Nat,i=.int .i64 k/\k<=n/\a k wr) (fun i _=>n - (intOf i).toNat)
 case atStart=>exact⟨0,rfl,Nat.zero_le _,h⟩
 case round =>
  obtain⟨k,rfl,I,o⟩:=hrel
  have J:(0:Int)<=(k:Int):=by omega
  by_cases s:k < n
  ·have K:(k:Int) < (n:Int):=by omega
   obtain⟨H,F⟩:=B.out k wr s o
   obtain⟨f,j,g,x,u,t⟩:=C.out k wr s o
   rw [x] at F
   have y:=zH t
   have G:=u (j ++ g) wr
   clear t x u
   go_wp2_with fail
   refine y.out.mono ?_;rintro e N ⟨z,rfl,d⟩
   rcases d with⟨d,c⟩|⟨d,c⟩
   ·subst d
    go_wp2_with fail
    go_roundw
    case rel=>exact⟨k+1,by go_num,by omega,c⟩
    case measure=>simp [intOf];omega
   ·have M:(z == 0)=false:=by simpa using d
    go_wp2_with fail
    go_ret
    exact⟨z,rfl,c⟩
  ·obtain rfl:k=n:=by omega
   have c:=A.out _ o
   go_wp2_with fail
   go_ret
   exact⟨0,rfl,c⟩
end
end Go.Proofs.YtmanejniepghlaaGreatDoor
