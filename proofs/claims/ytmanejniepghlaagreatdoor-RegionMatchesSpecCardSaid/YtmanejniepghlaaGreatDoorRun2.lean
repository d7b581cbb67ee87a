import Derived.Test.YtmanejniepghlaaGreatDoorRun0
import Derived.Test.YtmanejniepghlaaGreatDoorRun1
import Derived.Deep.Slices
import Derived.ProofKit
import Derived.OpenShut
import Derived.ShutString
import Derived.ChangeOld
import Derived.RangeFuncNested
import Derived.RangeFuncBound
import Derived.RangeFuncCalls
import Derived.RangeFuncLeaves
import Derived.RangeFuncBox
import Derived.Maps.RangeRun
import Derived.Maps.OwnSet
import Derived.Maps.RangeWalk
import Derived.Shelf.RegionOpen
import Derived.OwnWalkIn
import Derived.Laws.CopyOwn
import Derived.WalkKit
import Derived.Deep.RegionLaw
import Derived.Deep.DeepMust
import Derived.Lib.BitFns
import Derived.StillTail
import Derived.OrdersHeld
import Derived.Deep.RegionHeld
set_option maxRecDepth 100000
namespace Go.Proofs.YtmanejniepghlaaGreatDoor.BA
variable {L:List AJ} {h:List UInt8}
def find (L:List AJ) (h:List UInt8):Nat:=(L.takeWhile fun p=>decide (p.h ≠ h)).length
def rremove (L:List AJ) (h:List UInt8):List AJ × Bool:=if find L h < L.length then (L.take (find L h) ++ L.drop (find L h+1),true) else (L,false)
def rput (L:List AJ) (p:AJ) (cap:Int):List AJ × Int :=
 if AJ.AB p=false then (L,1) else if (rremove L p.h).2=false/\cap<=L.length then (L,11) else
  ((rremove L p.h).1.take (lo (rremove L p.h).1 p.h) ++ p :: (rremove L p.h).1.drop (lo (rremove L p.h).1 p.h),0)
theorem Vn:∀ (L:List AJ) (h:List UInt8) (k:Nat),k < find L h->∃ p,L[k]?=some p/\p.h ≠ h
|[],h,k,hk=>by simp [find] at hk
|p :: L,h,k,hk=>by
  by_cases a:p.h ≠ h
  ·cases k with
  |zero=>exact⟨p,rfl,a⟩
  |succ k =>
    have e:find (p :: L) h=find L h+1:=by unfold find;rw [List.takeWhile_cons_of_pos (by simpa using a)];rfl
    rw [e] at hk
    obtain⟨q,b,c⟩:=Vn L h k (by omega)
    exact⟨q,by simpa using b,c⟩
  ·have e:find (p :: L) h=0:=by unfold find;rw [List.takeWhile_cons_of_neg (by simpa using a)];rfl
   omega
theorem Px:∀ (L:List AJ) (h:List UInt8) (p:AJ),L[find L h]?=some p->p.h=h
|[],h,p,e=>by simp [find] at e
|q :: L,h,p,e=>by
  by_cases b:q.h ≠ h
  ·have a:find (q :: L) h=find L h+1:=by unfold find;rw [List.takeWhile_cons_of_pos (by simpa using b)];rfl
   rw [a,List.getElem?_cons_succ] at e
   exact Px L h p e
  ·have a:find (q :: L) h=0:=by unfold find;rw [List.takeWhile_cons_of_neg (by simpa using b)];rfl
   rw [a] at e
   cases e
   simpa using b
theorem JF {k:Nat} (g:k<=L.length) (b:∀ i p,i < k->L[i]?=some p->p.h ≠ h) (c:∀ p,L[k]?=some p->p.h=h):find L h=k:=by
 rcases Nat.lt_trichotomy (find L h) k with e|e|e
 ·have a:find L h < L.length:=by omega
  exact absurd (Px L h _ (List.getElem?_eq_getElem a)) (b _ _ e (List.getElem?_eq_getElem a))
 ·exact e
 ·obtain⟨p,d,f⟩:=Vn L h k e
  exact absurd (c p d) f
theorem Dw (g:FA L) (j:hit L h=true):find L h=lo L h:=by
 obtain⟨p,c,d⟩:=(Zk g h).1 j
 refine JF (OE L h) (fun i q k a e=>?_) (fun q a=>?_)
 ·obtain⟨r,b,f⟩:=Xu L h i k
  rw [a] at b;cases b
  rw [e,Ho.GV] at f;omega
 ·rw [c] at a;cases a;exact d
theorem Py (b:FA L) (c:hit L h=false):find L h=L.length:=by
 refine JF (zN _) (fun i q _ a=>Vd b c q (List.mem_of_getElem? a)) (fun q a=>?_)
 rw [List.getElem?_eq_none (zN _)] at a;cases a
theorem OF (b:FA L) (c:hit L h=true):lo L h < L.length:=by
 obtain⟨p,a,d⟩:=(Zk b h).1 c
 exact (List.getElem?_eq_some_iff.1 a).1
theorem KM (a:FA L) (h:List UInt8):rremove L h=remove L h:=by
 unfold rremove remove
 cases b:hit L h with
|true=>rw [Dw a b,if_pos (OF a b),if_pos rfl]
|false=>rw [Py a b,if_neg (by omega),if_neg (by decide)]
theorem JZ (d:FA L) (e:hit L h=true):lo (L.take (lo L h) ++ L.drop (lo L h+1)) h=lo L h:=by
 obtain⟨p,g,j⟩:=(Zk d h).1 e
 have k:=OF d e
 refine QG (by rw [List.length_append,List.length_take,List.length_drop];omega) (fun i q f a=>?_) (fun q a=>?_)
 ·rw [List.getElem?_append_left (by rw [List.length_take];omega),List.getElem?_take_of_lt f] at a
  obtain⟨r,b,c⟩:=Xu L h i f
  rw [a] at b;cases b;exact c
 ·rw [List.getElem?_append_right (by rw [List.length_take];omega),List.length_take,List.getElem?_drop] at a
  have b:=Wx d (show lo L h < lo L h+1+(lo L h - min (lo L h) L.length) by omega) g a
  have c:=Ho.MH p.h q.h
  rw [j] at b c
  omega
theorem KK (b:FA L) (h:List UInt8) (q:AJ):q ∈ (remove L h).1 ↔ q ∈ L/\q.h ≠ h:=by
 unfold remove
 cases f:hit L h with
|false =>
  rw [if_neg (by decide)]
  exact⟨fun a=>⟨a,Vd b f q a⟩,fun a=>a.1⟩
|true =>
  rw [if_pos rfl]
  obtain⟨p,d,j⟩:=(Zk b h).1 f
  simp only
  constructor
  ·intro a
   refine⟨?_,fun e=>?_⟩
   ·rcases List.mem_append.1 a with m|m
    ·exact List.mem_of_mem_take m
    ·exact List.mem_of_mem_drop m
   ·have o:q ∈ L:=by
     rcases List.mem_append.1 a with m|m
     ·exact List.mem_of_mem_take m
     ·exact List.mem_of_mem_drop m
    have hr:=Ks b (lo L h)
    obtain⟨i,c,rfl⟩:=List.mem_iff_getElem.1 a
    have g:=place hr (List.getElem?_eq_getElem c)
    rw [e,JZ b f] at g
    have k:=List.getElem?_eq_getElem c
    generalize (L.take (lo L h) ++ L.drop (lo L h+1))[i]=x at *
    subst g
    rw [List.getElem?_append_right (by rw [List.length_take];omega),List.length_take,List.getElem?_drop] at k
    have n:=Wx b (show lo L h < lo L h+1+(lo L h - min (lo L h) L.length) by omega) d k
    rw [j,e,Ho.GV] at n
    omega
  ·rintro⟨a,l⟩
   obtain⟨i,c,rfl⟩:=List.mem_iff_getElem.1 a
   rcases Nat.lt_trichotomy i (lo L h) with e|e|e
   ·exact List.mem_append_left _ (List.mem_iff_getElem.2 ⟨i,by rw [List.length_take];omega,by rw [List.getElem_take]⟩)
   ·subst e
    rw [List.getElem?_eq_getElem c] at d;cases d
    exact absurd j l
   ·refine List.mem_append_right _ (List.mem_iff_getElem.2 ⟨i - (lo L h+1),by rw [List.length_drop];omega,?_⟩)
    rw [List.getElem_drop]
    congr 1;omega
theorem VC (d:FA L) {cap:Int} {p:AJ} (i:AJ.AB p=true) (b:(put L cap p).2=0) (q:AJ):q ∈ (put L cap p).1 ↔ q=p\/(q ∈ L/\q.h ≠ p.h):=by
 unfold put at b ⊢
 rw [if_neg (by simp [i])] at b ⊢
 have j:=OE L p.h
 cases c:hit L p.h with
|true =>
  have g:=OF d c
  have hr:=KK d p.h q
  unfold remove at hr
  rw [c,if_pos rfl] at hr
  rw [if_pos rfl]
  simp only at hr ⊢
  rw [List.set_eq_take_append_cons_drop,if_pos g,List.mem_append,List.mem_cons]
  rw [List.mem_append] at hr
  rw [<-hr]
  constructor
  ·rintro (m|m|m)
   ·exact .inr (.inl m)
   ·exact .inl m
   ·exact .inr (.inr m)
  ·rintro (m|m|m)
   ·exact .inr (.inl m)
   ·exact .inl m
   ·exact .inr (.inr m)
|false =>
  rw [c,if_neg (by decide)] at b
  rw [if_neg (by decide)]
  by_cases f:(L.length:Int)=cap
  ·rw [if_pos f] at b;cases b
  rw [if_neg f]
  simp only
  rw [List.mem_append,List.mem_cons]
  have a:q ∈ L ↔ q ∈ L.take (lo L p.h)\/q ∈ L.drop (lo L p.h):=by rw [<-List.mem_append,List.take_append_drop]
  have e:q ∈ L->q.h ≠ p.h:=Vd d c q
  constructor
  ·rintro (m|m|m)
   ·exact .inr ⟨a.2 (.inl m),e (a.2 (.inl m))⟩
   ·exact .inl m
   ·exact .inr ⟨a.2 (.inr m),e (a.2 (.inr m))⟩
  ·rintro (m|⟨m,-⟩)
   ·exact .inr (.inl m)
   ·rcases a.1 m with m|m
    ·exact .inl m
    ·exact .inr (.inr m)
end Go.Proofs.YtmanejniepghlaaGreatDoor.BA
namespace Go.Proofs.YtmanejniepghlaaGreatDoor
open _root_.Go.Proofs.Tryz
section
variable {L:List AJ}
structure BS where
 k:Int
 p:AJ
 deriving DecidableEq
namespace AN
def none:BS:=⟨0,AJ.none⟩
def AB (u:BS):Bool:=if u.k=1 then AJ.AB u.p else if u.k=2 then Ho.name u.p.h && decide (u.p.s=false/\u.p.x=0) else false
def enc (u:BS):List UInt8:=if u.k=2 then 2 :: Wi.txt u.p.h else 1 :: AJ.enc u.p
def SH (t:List UInt8):BS × Int:=if (AJ.dec t).2.2 ≠ 0 then (none,(AJ.dec t).2.2) else if (AJ.dec t).2.1 < t.length then (none,6) else (⟨1,(AJ.dec t).1⟩,0)
def RB (t:List UInt8):BS × Int:=if (Wi.CB t).2.2 ≠ 0 then (none,(Wi.CB t).2.2) else if (Wi.CB t).2.1 < t.length then (none,6) else if Ho.name (Wi.CB t).1=false then (none,14) else (⟨2,⟨(Wi.CB t).1,false,0⟩⟩,0)
def dec (b:List UInt8):BS × Int:=match b with
|[]=>(none,5)
|x :: t=>if x=1 then SH t else if x=2 then RB t else (none,6)
theorem AW {u:BS} (h:AB u=true):(u.k=1/\AJ.AB u.p=true)\/(u.k=2/\Ho.name u.p.h=true/\u.p=⟨u.p.h,false,0⟩):=by
 unfold AB at h
 split at h
 ·rename_i h1;exact .inl ⟨h1,h⟩
 ·split at h
  ·rename_i h2
   rw [Bool.and_eq_true,decide_eq_true_eq] at h
   refine .inr ⟨h2,h.1,?_⟩
   obtain⟨-,d,e⟩:=h
   cases f:u.p with
  |mk a b c=>rw [f] at d e;simp only at d e;rw [d,e]
  ·cases h
theorem AY {b:List UInt8} {u:BS} (h:dec b=(u,0)):AB u=true/\enc u=b:=by
 unfold dec at h
 cases b with
|nil=>cases h
|cons x t =>
  dsimp only at h
  split at h
  ·rename_i hx
   unfold SH at h
   split at h
   ·rename_i h0;exact absurd (Prod.mk.inj h).2 h0
   ·rename_i h0
    split at h
    ·cases h
    ·rename_i h1
     cases h
     have a:(AJ.dec t).2.2=0:=by simpa using h0
     obtain⟨d,c,e⟩:=AJ.AY (b:=t) (p:=(AJ.dec t).1) (n:=(AJ.dec t).2.1) (by rw [<-a])
     refine⟨by unfold AB;rw [if_pos rfl];exact d,?_⟩
     unfold enc;rw [if_neg (by simp)]
     rw [hx];dsimp only
     rw [<-c,List.take_of_length_le (by omega)]
  ·split at h
   ·rename_i hx
    unfold RB at h
    split at h
    ·rename_i h0;exact absurd (Prod.mk.inj h).2 h0
    ·rename_i h0
     split at h
     ·cases h
     ·rename_i h1
      split at h
      ·cases h
      ·rename_i h2
       cases h
       have a:(Wi.CB t).2.2=0:=by simpa using h0
       obtain⟨c,e,-⟩:=Wi.FW (b:=t) (s:=(Wi.CB t).1) (n:=(Wi.CB t).2.1) (by rw [<-a])
       refine⟨by unfold AB;rw [if_neg (by simp),if_pos rfl];simpa using h2,?_⟩
       unfold enc;rw [if_pos rfl,hx];dsimp only
       rw [<-c,List.take_of_length_le (by omega)]
   ·cases h
def AK (c:Int) (L:List AJ):Bool:=decide (0<=c/\c<=1099511627776/\L.length<=1000/\BA.chk L L.length 0=0)
theorem BF (c:Int) (L:List AJ):AK c L=true ↔ 0<=c/\c<=1099511627776/\L.length<=1000/\(∀ p ∈ L,AJ.AB p=true)/\BA.FA L:=by
 unfold AK;rw [decide_eq_true_eq,BA.SD]
def ins (L:List AJ) (p:AJ):List AJ:=if BA.hit L p.h then L.set (BA.lo L p.h) p else L.take (BA.lo L p.h) ++ p :: L.drop (BA.lo L p.h)
theorem Ga {p:AJ} (a:AJ.AB p=true):BA.put L (L.length+1) p=(ins L p,0):=by
 unfold BA.put ins
 rw [if_neg (by simp [a])]
 split
 ·rfl
 ·rw [if_neg (by omega)]
def upd (L:List AJ) (u:BS):List AJ:=if u.k=2 then (BA.remove L u.p.h).1 else ins L u.p
def apply (c:Int) (L:List AJ) (u:BS) (cap:Int):List AJ × Int :=
 if AK c L=false\/AB u=false then ([],1) else if u.k=2 then (upd L u,0) else if BA.hit L u.p.h=true then (upd L u,0) else if min cap 1000<=(L.length:Int) then ([],11) else (upd L u,0)
theorem Mc (c:BA.FA L) {u:BS} (hu:AB u=true) (q:AJ):q ∈ upd L u ↔ (u.k=1/\q=u.p)\/(q ∈ L/\q.h ≠ u.p.h):=by
 unfold upd
 rcases AW hu with⟨b,a⟩|⟨b,a,d⟩
 ·rw [if_neg (by omega)]
  have:=BA.VC c (cap:=L.length+1) a (by rw [Ga a]) q
  rw [Ga a] at this
  rw [this]
  constructor
  ·rintro (e|e)
   ·exact .inl ⟨b,e⟩
   ·exact .inr e
  ·rintro (⟨-,e⟩|e)
   ·exact .inl e
   ·exact .inr e
 ·rw [if_pos b,BA.KK c]
  constructor
  ·exact fun e=>.inr e
  ·rintro (⟨e,-⟩|e)
   ·omega
   ·exact e
theorem Mb (b:BA.FA L) {u:BS} (hu:AB u=true):BA.FA (upd L u):=by
 unfold upd
 rcases AW hu with⟨a,c⟩|⟨a,-,-⟩
 ·rw [if_neg (by omega)]
  have:=BA.VB b (L.length+1) u.p
  rwa [Ga c] at this
 ·rw [if_pos a];exact BA.PM b _
theorem Fq (b:BA.FA L) {u:BS} (hu:AB u=true) (c:∀ p ∈ L,AJ.AB p=true):∀ p ∈ upd L u,AJ.AB p=true:=by
 intro p d
 rcases (Mc b hu p).1 d with⟨e,rfl⟩|⟨h,-⟩
 ·rcases AW hu with⟨-,a⟩|⟨a,-,-⟩
  ·exact a
  ·omega
 ·exact c p h
end AN
end
section
open Go.ChangeShapes Go.WideShapes Go.ChangeAt Go.RowKit
variable {e:TypeId} {C base fuel n:Nat} {v:Value} {a:Addr} {cs:List Value} {w:World} {spare:Nat->Bool} {held:Bool}
section
variable {H:Type} {enc:TypeId × Value->H} {P:Program} {w:World} {base:Nat} {spare:Nat->Bool} {held:Bool}
theorem Ri {fs:Array Field} {x:DataW H × List MemPlace} (p:P.underlying e=some (.struct fs)) (l:w.cells? base a C=some cs) (h:DataW.trod enc P w base spare held n e cs=some x)
 (j:Nat) (f:Field) (d:fs[j]?=some f) (o:Nat) (ho:f.offset=o) (i:o < C) (r:P.cellsOf f.type=1):∃ (v:Value) (m:Nat) (y:DataW H × List MemPlace),w.cell? (a.add o)=some v/\DataW.trod enc P w base spare held m f.type [v]=some y:=by
 obtain⟨_,s,g⟩:=World.cells?_some l
 obtain⟨z,m,_,_,_,t,q⟩:=DataW.trod_struct p h
 have u:j < fs.size:=(Array.getElem?_eq_some_iff.1 d).1
 have b:=q j f d
 rw [ho,r,List.getElem?_eq_getElem (by omega)] at b
 have c:o < cs.length:=by omega
 have k:(cs.drop o).take 1=[cs[o]]:=by rw [List.drop_eq_getElem_cons c];rfl
 rw [k] at b
 exact⟨cs[o],m,_,by rw [g o i,List.getElem?_eq_getElem c],b⟩
theorem Nk {fs:Array Field} {x:DataW H × List MemPlace} (i:P.underlying e=some (.struct fs)) (g:w.cells? base a C=some cs) (h:DataW.trod enc P w base spare held n e cs=some x)
 (j:Nat) (f:Field) (l:fs[j]?=some f) (o:Nat) (ho:f.offset=o) (b:o < C) (k:IntKind) (hu:P.underlying f.type=some (.int k)) (p:P.cellsOf f.type=1):∃ z:Int,w.cell? (a.add o)=some (.int k z)/\(Lit.int k z).wf=true:=by
 obtain⟨v,m,y,r,q⟩:=Ri i g h j f l o ho b p
 obtain⟨z,c,_,d⟩:=DataW.trod_int hu q
 exact⟨z,by rw [r,List.singleton_inj.1 c],d⟩
theorem Hb {t:TypeId} {g k:Field} {x:DataW H × List MemPlace} (R:P.underlying t=some (.slice e)) (z:P.underlying e=some (.struct #[g,k])) (M:P.cellsOf e=2)
 (u0:P.underlying g.type=some (.int .i64)) (u1:P.underlying k.type=some (.int .i64)) (U:P.cellsOf g.type=1) (W:P.cellsOf k.type=1) (X:g.offset=0) (Y:k.offset=1)
 (h:DataW.trod enc P w base spare held fuel t [v]=some x):∃ a n c l,v=.slice a n c/\CZ w a n c l:=by
 rcases Go.Deep.open_slice R h with⟨q,_⟩|⟨a,len,cap,m,n,D,Pl,q,hb,O,Q,G,hx,N⟩
 ·exact⟨none,0,0,[],List.singleton_inj.1 q,CZ.nil w⟩
 ·have zb:len<=m:=by rw [G];split <;> omega
  have F:∀ i,i < len->∃ p:Int × Int,w.cell? (a.add (i * 2))=some (p.1:Value)/\w.cell? (a.add (i * 2+1))=some (p.2:Value):=by
   intro i r
   obtain⟨za,s,u⟩:=N i (by omega)
   rw [M] at s
   obtain⟨z0,d,_⟩:=Nk z s u 0 g rfl 0 X (by omega) .i64 u0 U
   obtain⟨z1,f,_⟩:=Nk z s u 1 k rfl 1 Y (by omega) .i64 u1 W
   rw [Go.Deep.add_add] at d f
   exact⟨(z0,z1),d,f⟩
  obtain⟨p,A⟩:=Go.Deep.choose_lt (α:=Int × Int) (p:=fun i p=>w.cell? (a.add (i * 2))=some (p.1:Value)/\w.cell? (a.add (i * 2+1))=some (p.2:Value)) F
  refine⟨some a,len,cap,(List.range len).map p,List.singleton_inj.1 q,by simp,O,Q,(fun h=>by cases h),fun y T i r=>?_⟩
  cases T
  simp at r
  obtain⟨d,f⟩:=A i r
  obtain⟨b,o,Z⟩:=a
  have I:Z=none:=by
   have J:=(A 0 (by omega)).1
   have K:=World.cell?_spot J
   simpa [Addr.add] using K
  subst I
  have B:∀ j,((b o):Addr).add j=(b (o+j)):=by intro j;unfold Addr.add;split <;> simp_all
  rw [B] at d f
  refine⟨rfl,World.block_lt_of_cell? w (b (o+i * 2)) d,?_,?_⟩
  ·rw [d];simp
  ·rw [show o+i * 2+1=o+(i * 2+1) by omega,f];simp
end
theorem Gd {H:Type} {enc:TypeId × Value->H} {x:DataW H × List MemPlace}
 (h:DataW.trod enc prog w base spare held fuel 61 [v]=some x):∃ a n c l,v=.slice a n c/\CZ w a n c l :=
 Hb underlying61 underlying123 (by kernel_rfl) underlying3 underlying3 (by kernel_rfl) (by kernel_rfl) rfl rfl h
theorem Rq {H:Type} {enc:TypeId × Value->H} {x:DataW H × List MemPlace}
 (h:DataW.trod enc prog w base spare held fuel 62 [v]=some x):∃ a n c l,v=.slice a n c/\CZ w a n c l :=
 Hb underlying62 underlying116 (by kernel_rfl) underlying3 underlying3 (by kernel_rfl) (by kernel_rfl) rfl rfl h
end
section
open Go.RowKit
def VQ (F:Fence) (n:Nat) (P:Program) (g:Nat) (lb:Array Value) (enc:Nat->Array Value) (Kp:World->World->Prop) (N:Nat) (w:World):Prop :=
 ∀ (l:Nat) (J c:Nat->World->Prop) (W:World),Below w.heap.size w W →
  (∀ k b,J k b->k < N->YieldAt F (n - 1) P l (enc k) b fun e a=>(e=.returned (.bool true)/\J (k+1) a/\Kp b a)\/(e=.returned (.bool false)/\c (k+1) a)) →
  J 0 W->CallsIn F n P g (#[.func (.yield l) #[] #[]] ++ lb) W fun e a=>(∃ v,e=.returned v)/\(J N a\/∃ k,k<=N/\c k a)
def QY (B:Nat) (Kp:World->World->Prop) (I:Nat->World->Prop) (a:Code->Nat->World->Prop) (k:Nat) (W:World):Exit->Act->World->Prop
|.normal,_,W'=>KeepsFrom B W W'/\Kp W W'/\I k W'
|.ret,_,W'=>KeepsFrom B W W'/\a .ret k W'
|.exit id,_,W'=>KeepsFrom B W W'/\a (.exit id) k W'
|_,_,_=>False
def OV (B:Nat) (I:Nat->World->Prop):Prop:=∀ k W l o a,I k W->B<=l->W.heap[l]?=some o->o.isCells=false->I k (W.putObj l a)
theorem Zz {F:Fence} {n:Nat} {P:Program} {g:Operand} {z:Array Tmp} {assign body:Code} {Q:Exit->Act->World->Prop} {a:Act} {w:World}
 (zz:F.round=none) (h1:1<=n) {gf:Nat} {lb:Array Value} (hg:a.eval g=.func (.func gf) #[] lb) (zn:F.fn gf) (eg:∀ args w,(callFunc gf args).run P w=.ok (.enter gf args) w)
 {enc:Nat->Array Value} {Kp:World->World->Prop} {N:Nat} {T:World} (zm:VQ F (n - 1) P gf lb enc Kp N T)
 (zc:∀ {A B C:World},Kp A B->Kp B C->Kp A C) (ze:∀ (W:World) (l:Nat) (o o':Obj),w.heap.size<=l->W.heap[l]?=some o->o.isCells=false->Kp W (W.putObj l o')) (zd:Below T.heap.size T w) (zy:∀ k,(enc k).size=z.size)
 (I:Nat->World->Prop) (Y:Code->Nat->World->Prop) (hI:OV w.heap.size I) (zb:∀ c,OV w.heap.size (Y c)) (h0:∀ o o',I 0 ((w.alloc o).alloc o')) (X:Nat->Act->World->Prop) (zo:∀ a1,OV w.heap.size (fun k W=>X k a1 W))
 (zh:∀ (l:Nat) (k:Nat) (W:World),I k W->k < N →
  assign.wpIn (F.inRound l) (n - 1 - 1) P (Exit.then (fun a1 f=>KeepsFrom w.heap.size W f/\Kp W f/\X k a1 f) (fun _ _ _=>False)) { tmps:=(z.zip (enc k)).foldl (fun t (p,v)=>t.setIfInBounds p v) a.tmps,defers:=[] } W)
 (zi:∀ (l:Nat) (k:Nat) (a1:Act) (W:World),X k a1 W->k < N->body.wpIn (F.inRound l) (n - 1 - 1) P (QY w.heap.size Kp I Y (k+1) W) a1 W)
 (zj:∀ (D:Nat) (W:World),w.heap.size<=D->I N W->W.heap[D]?=some (.deferred (some []))->Q .normal { a with defers:={ target:=.collected D,args:=#[] } :: a.defers } W)
 (zk:∀ (D:Nat) (c:Code) (k:Nat) (W:World),w.heap.size<=D->k<=N->Y c k W->W.heap[D]?=some (.deferred (some []))->c.wpIn F n P Q { a with defers:={ target:=.collected D,args:=#[] } :: a.defers } W) :
 (Code.rangeFunc g z assign body).wpIn F n P Q a w:=by
 refine wpIn_rangeFunc (fun fn zt=>?_)
 rw [zz]
 obtain⟨R,M⟩:∃ R:LoopState->Option Code->Loop,R=fun s r=>{ state:=s,pending:=r,fn,tmps:=a.tmps,params:=z,assign,body,defers:=w.heap.size }:=⟨_,rfl⟩
 have x:∀ s r,(R s r).state=s/\(R s r).params=z/\(R s r).pending=r:=by intro s r;rw [M];exact⟨rfl,rfl,rfl⟩
 have zl:∀ f,f=(w.alloc (.deferred (some []))).alloc (.loop (R .ready none))->f.heap[w.heap.size+1]?=some (.loop (R .ready none))/\f.heap[w.heap.size]?=some (.deferred (some []))/\Below T.heap.size T f/\I 0 f:=by
  rintro f rfl
  refine⟨Qb _ _ _ (by simp),(Qd _ _ _ (by simp)).trans (Qb _ _ _ rfl),?_,h0 _ _⟩
  exact (zd.alloc zd.size _).alloc (by have:=zd.size;simp;omega) _
 obtain⟨zw,zr,zp,zu⟩:=zl _ rfl
 refine⟨w.heap.size+1,[{ target:=.collected w.heap.size,args:=#[] }],(w.alloc (.deferred (some []))).alloc (.loop (R .ready none)),{ target:=.fn (.func gf) lb,args:=#[.func (.yield (w.heap.size+1)) #[] #[]] },(w.alloc (.deferred (some []))).alloc (.loop (R .ready none)),gf,
  #[.func (.yield (w.heap.size+1)) #[] #[]] ++ lb,(w.alloc (.deferred (some []))).alloc (.loop (R .ready none)),?_,?_,?_,?_,fun _=>h1,?_⟩
 ·rw [M];exact run_enterLoop_outer _ _ _ _ _
 ·simp only [resolve,hg];simp [go_sem]
 ·intro f' zf;simp [Target.leads] at zf;subst zf;exact zn
 ·simp [invoke,go_sem,eg]
 ·refine (zm (w.heap.size+1)
   (fun k W=>I k W/\W.heap[w.heap.size+1]?=some (.loop (R .ready none))/\W.heap[w.heap.size]?=some (.deferred (some [])))
   (fun k W=>∃ c,Y c k W/\W.heap[w.heap.size+1]?=some (.loop (R .done (some c)))/\W.heap[w.heap.size]?=some (.deferred (some [])))
   _ zp ?_ ⟨zu,zw,zr⟩).mono ?_
  ·
   rintro k W ⟨O,i,hd⟩ Z
   have hy:=run_yield (P:=P) (args:=enc k) i (by rw [(x _ _).2.1];exact zy k)
   have ya:(Instr.yield (w.heap.size+1) (enc k)).run P W=.ok (.round (w.heap.size+1) fn ((z.zip (enc k)).foldl (fun t (p,v)=>t.setIfInBounds p v) a.tmps) assign body) W:=by rw [M] at hy;exact hy
   refine⟨fn,_,assign,body,ya,roundIn_of_wpIn zt (wpIn_mono (zh _ k W O Z) ?_)⟩
   rintro e1 a1 m u
   cases e1 with
  |ret=>exact u.elim
  |exit id=>exact u.elim
  |goto t=>exact u.elim
  |panic ch=>exact u.elim
  |outgrown=>exact u.elim
  |normal =>
   obtain⟨g1,g2,g3⟩:=(show KeepsFrom w.heap.size W m/\Kp W m/\X k a1 m from u)
   have U:=g1.same _ _ (by omega) i rfl
   have zq:=g1.same _ _ (zN _) hd rfl
   refine⟨_,run_beginRound U (x _ _).1,?_⟩
   obtain⟨b,hb⟩:∃ b:Loop,b={ R .ready none with state:=.busy }:=⟨_,rfl⟩
   rw [<-hb]
   have zx:(m.putObj (w.heap.size+1) (.loop b)).heap[w.heap.size+1]?=some (.loop b):=World.putObj_heap_same (Qa U)
   have zs:(m.putObj (w.heap.size+1) (.loop b)).heap[w.heap.size]?=some (.deferred (some [])):=(World.putObj_heap_other (by omega)).trans zq
   have zv:Kp W (m.putObj (w.heap.size+1) (.loop b)):=zc g2 (ze _ _ _ _ (by omega) U rfl)
   have za:∀ (j:Option Code) (h:World),KeepsFrom w.heap.size (m.putObj (w.heap.size+1) (.loop b)) h →
    ∃ q,q=h.putObj (w.heap.size+1) (.loop (R (if j.isNone then .ready else .done) j))/\(Instr.endRound (w.heap.size+1) j).run P h=.ok (.bool j.isNone) q/\h.heap[w.heap.size+1]?=some (.loop b) ∧
     q.heap[w.heap.size+1]?=some (.loop (R (if j.isNone then .ready else .done) j))/\q.heap[w.heap.size]?=some (.deferred (some [])):=by
    intro j h zg
    have d:=zg.same _ _ (by omega) zx rfl
    refine⟨_,rfl,?_,d,World.putObj_heap_same (Qa d),(World.putObj_heap_other (by omega)).trans (zg.same _ _ (zN _) zs rfl)⟩
    have:=run_endRound (P:=P) j d
    rw [hb,M] at this;rw [M];exact this
   refine wpIn_mono (zi _ k a1 _ (zo a1 _ _ _ _ _ g3 (by omega) U rfl) Z) ?_
   rintro e a3 h y
   cases e with
  |normal =>
    obtain⟨J,h4,K⟩:=y
    obtain⟨q,rfl,hr,d,H,G⟩:=za none h J
    exact⟨_,_,hr,.inl ⟨rfl,⟨hI _ _ _ _ _ K (by omega) d rfl,H,G⟩,zc (zc zv h4) (ze _ _ _ _ (by omega) d rfl)⟩⟩
  |ret =>
    obtain⟨J,K⟩:=y
    obtain⟨q,rfl,hr,d,H,G⟩:=za (some .ret) h J
    exact⟨_,_,hr,.inr ⟨rfl,.ret,zb _ _ _ _ _ _ K (by omega) d rfl,H,G⟩⟩
  |exit id =>
    obtain⟨J,K⟩:=y
    obtain⟨q,rfl,hr,d,H,G⟩:=za (some (.exit id)) h J
    exact⟨_,_,hr,.inr ⟨rfl,.exit id,zb _ _ _ _ _ _ K (by omega) d rfl,H,G⟩⟩
  |goto t=>exact y.elim
  |panic ch=>exact y.elim
  |outgrown=>exact y.elim
  ·
   rintro e W2 ⟨⟨v,rfl⟩,(⟨O,i,hd⟩|⟨k,Z,c,O,i,hd⟩)⟩
   ·have hr:=run_endLoop (P:=P) i (by rw [(x _ _).1];simp)
    rw [(x _ _).2.2] at hr
    exact⟨none,_,hr,zj _ _ (zN _) (hI _ _ _ _ _ O (by omega) i rfl) ((World.putObj_heap_other (by omega)).trans hd)⟩
   ·have hr:=run_endLoop (P:=P) i (by rw [(x _ _).1];simp)
    rw [(x _ _).2.2] at hr
    exact⟨some c,_,hr,zk _ c k _ (zN _) Z (zb _ _ _ _ _ _ O (by omega) i rfl) ((World.putObj_heap_other (by omega)).trans hd)⟩
end
section
open Go.RowKit
open Go.MapKept (Stamped IsKey findNow_spec run_findKey run_checkKey run_keyThatStays stamped_push stamped_modify stamped_empty)
open Go.ChangeMaps (setBlock)
variable {w w':World} {R R':Nat->Prop} {ca:List (Option (List UInt8))} {b clock cnt m r:Nat} {done:Nat->Bool} {ops:Array Oper} {rest:List Oper} {o:Oper} {a:Act} {Q:Exit->Act->World->Prop}
def DF (R:Nat->Prop) (w:World) (ca:List (Option (List UInt8))) (e:MapEntry):Prop :=
 ∃ (i:Nat) (x:List UInt8) (a:Addr) (c:Nat),ca[i]?=some (some x)/\e.key=.int .i64 (i:Int)/\e.val=.slice (some a) x.length c/\AM w (some a) x.length c x/\R a.block/\x ≠ []
structure NC (R:Nat->Prop) (w:World) (ca:List (Option (List UInt8))) (es:Array MapEntry) (clock:Nat):Prop where
 stamped:Stamped es clock
 size:es.size=ca.countP (·.isSome)
 mem:∀ e ∈ es.toList,DF R w ca e
 all:∀ (i:Nat) (x:List UInt8),ca[i]?=some (some x)->∃ e ∈ es.toList,e.key=.int .i64 (i:Int)
def BU (R:Nat->Prop) (w:World) (m:Nat) (ca:List (Option (List UInt8))):Prop :=
 ∃ c clock,w.heap[m]?=some (.map c clock)/\NC R w ca c clock
theorem DF.AI {e:MapEntry} (h:DF R w ca e) (k:∀ b,R b->b < w.heap.size->w'.heap[b]?=w.heap[b]?) (q:w.heap.size<=w'.heap.size):DF R w' ca e:=by
 obtain⟨i,x,a,c,j,l,n,d,f,g⟩:=h
 exact⟨i,x,a,c,j,l,n,d.AI (fun y p _=>by cases p;exact k _ f (d.blt g)) q,f,g⟩
theorem DF.mono {e:MapEntry} (h:DF R w ca e) (k:∀ b,R b->R' b):DF R' w ca e:=by
 obtain⟨i,x,a,c,d,f,g,j,l,n⟩:=h
 exact⟨i,x,a,c,d,f,g,j,k _ l,n⟩
theorem NC.AI {c:Array MapEntry} (h:NC R w ca c clock) (k:∀ b,R b->b < w.heap.size->w'.heap[b]?=w.heap[b]?) (f:w.heap.size<=w'.heap.size):NC R w' ca c clock :=
 ⟨h.stamped,h.size,fun e d=>(h.mem e d).AI k f,h.all⟩
theorem BU.lt (h:BU R w m ca):m < w.heap.size:=by
 obtain⟨d,clock,c,-⟩:=h;exact Qa c
theorem BU.AI (h:BU R w m ca) (k:∀ b,R b->b < w.heap.size->w'.heap[b]?=w.heap[b]?) (f:w'.heap[m]?=w.heap[m]?) (g:w.heap.size<=w'.heap.size):BU R w' m ca:=by
 obtain⟨c,clock,e,d⟩:=h
 exact⟨c,clock,f.trans e,d.AI k g⟩
theorem BU.mono (h:BU R w m ca) (k:∀ b,R b->R' b):BU R' w m ca:=by
 obtain⟨d,clock,f,c⟩:=h
 exact⟨d,clock,f,c.stamped,c.size,fun e g=>(c.mem e g).mono k,c.all⟩
theorem Nl {d:Array MapEntry} (h:NC R w ca d clock):∀ x ∈ d.toList,IsKey (.int .i64) x.key:=by
 intro x f
 obtain⟨i,y,a,c,-,e,-⟩:=h.mem x f
 rw [e];rfl
theorem BU.look (h:BU R w m ca) (z:Int) :
 (∃ (i:Nat) (x:List UInt8) (a:Addr) (c:Nat),z=i/\ca[i]?=some (some x)/\AM w (some a) x.length c x/\R a.block/\x ≠ []/\∀ W:World,W.heap=w.heap->(Instr.lookup 85 (.map (some m)) (z:Value) true).run prog W=.ok (.tuple #[.slice (some a) x.length c,.bool true]) W) ∨
 ((∀ i:Nat,z=i->ca[i]?.getD none=none)/\∀ W:World,W.heap=w.heap->(Instr.lookup 85 (.map (some m)) (z:Value) true).run prog W=.ok (.tuple #[.slice none 0 0,.bool false]) W):=by
 obtain⟨t,clock,d,k⟩:=h
 have n:IsKey (.int .i64) (z:Value):=rfl
 have hu:=underlying85
 have hd:=underlying3
 have C:=fun w=>zeroValue70 w
 rcases findNow_spec n t.toList 0 (Nl k) with⟨f,g⟩|⟨j,e,f,g,u⟩
 ·refine .inr ⟨fun i B=>?_,?_⟩
  ·subst B
   cases y:ca[i]? with
  |none=>rfl
  |some o =>
    cases o with
   |none=>rfl
   |some x =>
     obtain⟨e,A,q⟩:=k.all i x y
     exact absurd q (g e A)
  ·intro W l
   rw [<-l] at d
   simp [Instr.lookup,run_underlying hu,MapKept.run_getObj_map d,run_checkKey hd n,run_findKey hd f,C,Result.andThen]
 ·obtain⟨i,x,a,c,F,p,G,H,I,J⟩:=k.mem e (List.mem_of_getElem? g)
  have s:z=i:=by rw [u] at p;injection p
  refine .inl ⟨i,x,a,c,s,F,H,I,J,fun W l=>?_⟩
  rw [<-l] at d
  simp [Instr.lookup,run_underlying hu,MapKept.run_getObj_map d,run_checkKey hd n,run_findKey hd f,Result.andThen,G]
theorem Jw {o o':Obj} (h:w.heap[b]?=some o):(setBlock w b o').heap[b]?=some o':=(MapKept.heap_set h).1
theorem Ql (w:World) (o':Obj) {k:Nat} (c:k ≠ b):(setBlock w b o').heap[k]?=w.heap[k]?:=by
 show (w.heap.setIfInBounds b o')[k]?=_
 simp [Ne.symm c]
theorem Qu (w:World) (b:Nat) (o':Obj):(setBlock w b o').heap.size=w.heap.size:=by
 show (w.heap.setIfInBounds b o').size=_
 simp
theorem AD.setBlock {F F':Nat->Prop} {d:World} (h:AD F w F' d) {g:Nat} (f:F g\/w.heap.size<=g) (o:Obj):AD F w F' (setBlock d g o) where
 os:=h.os
 tape:=h.tape
 output:=h.output
 size:=by rw [Qu];exact h.size
 block k hk hF:=(Ql _ _ (fun e=>by subst e;rcases f with c|c;exact hF c;omega)).trans (h.block k hk hF)
 new:=h.new
theorem Pw {f:Array MapEntry} (h:NC R w ca f clock) (i:Nat) (z:i < ca.length) (x:List UInt8) (a:Addr) (c:Nat)
 (hs:AM w (some a) x.length c x) (hR:R a.block) (hx:x ≠ []) {m:Nat} (J:w.heap[m]?=some (.map f clock)) :
 ∃ t U,(Instr.mapUpdate 85 (.map (some m)) (i:Value) (.slice (some a) x.length c)).run prog w=.ok () (setBlock w m (.map t U))/\NC R w (ca.set i (some x)) t U:=by
 have K:IsKey (.int .i64) (i:Value):=rfl
 have hu:=underlying85
 have hd:=underlying3
 have Y:∀ e,DF R w ca e->e.key ≠ .int .i64 (i:Int)->DF R w (ca.set i (some x)) e:=by
  rintro e ⟨j,y,b,d,M,F,q3,q4,q5,q6⟩ B
  refine⟨j,y,b,d,?_,F,q3,q4,q5,q6⟩
  rw [List.getElem?_set_ne (fun e=>B (by rw [F,e]))];exact M
 have X:∀ born,DF R w (ca.set i (some x)) ⟨.int .i64 (i:Int),.slice (some a) x.length c,born⟩:=fun born =>
  ⟨i,x,a,c,by rw [List.getElem?_set_self z],rfl,rfl,hs,hR,hx⟩
 have W:∀ (t:Array MapEntry),(∃ e ∈ t.toList,e.key=.int .i64 (i:Int))->(∀ e ∈ f.toList,e.key ≠ .int .i64 (i:Int)->e ∈ t.toList)->∀ (k:Nat) (y:List UInt8),(ca.set i (some x))[k]?=some (some y)->∃ e ∈ t.toList,e.key=.int .i64 (k:Int):=by
  intro t C l k y hy
  by_cases I:i=k
  ·subst I;exact C
  ·rw [List.getElem?_set_ne I] at hy
   obtain⟨e,n,G⟩:=h.all k y hy
   exact⟨e,l e n (by rw [G];intro e2;injection e2 with _ e3;omega),G⟩
 rcases findNow_spec K f.toList 0 (Nl h) with⟨C,l⟩|⟨j,e,C,l,u⟩
 ·refine⟨f.push ⟨.int .i64 (i:Int),.slice (some a) x.length c,clock⟩,clock+1,?_,stamped_push h.stamped l,?_,?_,?_⟩
  ·simp [Instr.mapUpdate,run_underlying hu,MapKept.run_getObj_map J,run_checkKey hd K,run_findKey hd C,MapKept.run_setObj_map _ J,Result.andThen,setBlock]
  ·have zc:ca[i]=none:=by
    cases hc:ca[i] with
   |none=>rfl
   |some y =>
     obtain⟨e,n,G⟩:=h.all i y (by rw [List.getElem?_eq_getElem z,hc])
     exact absurd G (l e n)
   rw [Array.size_push,h.size,List.countP_set z,zc];simp
  ·intro e n
   simp only [Array.toList_push,List.mem_append,List.mem_singleton] at n
   rcases n with n|rfl
   ·exact Y e (h.mem e n) (l e n)
   ·exact X _
  ·refine W _ ⟨⟨.int .i64 (i:Int),.slice (some a) x.length c,clock⟩,by simp,rfl⟩ (fun e n _=>?_)
   rw [Array.toList_push];exact List.mem_append_left _ n
 ·have hj:f[j]?=some e:=by simpa using l
  have A:j < f.toList.length:=(List.getElem?_eq_some_iff.1 l).1
  have zb:∀ g,f[j]?=some g->({ g with key:=.int .i64 (i:Int),val:=.slice (some a) x.length c }:MapEntry).key=g.key:=fun g q=>by rw [hj] at q;cases q;exact u.symm
  have N:(f.modify j (fun g=>{ g with key:=.int .i64 (i:Int),val:=.slice (some a) x.length c })).toList=f.toList.set j { e with key:=.int .i64 (i:Int),val:=.slice (some a) x.length c }:=by rw [Array.toList_modify,ChangeMaps.modify_eq_set _ _ _ _ l]
  refine⟨f.modify j (fun g=>{ g with key:=.int .i64 (i:Int),val:=.slice (some a) x.length c }),clock,?_,stamped_modify h.stamped _ _ (fun _ _=>rfl) (fun g _ q=>zb g q),?_,?_,?_⟩
  ·simp [Instr.mapUpdate,run_underlying hu,MapKept.run_getObj_map J,run_checkKey hd K,run_findKey hd C,hj,u,run_keyThatStays K,MapKept.run_setObj_map _ J,Result.andThen,setBlock]
  ·obtain⟨k,y,b,d,M,F,-⟩:=h.mem e (List.mem_of_getElem? l)
   have I:k=i:=by rw [u] at F;injection F with _ e2;omega
   subst I
   rw [List.getElem?_eq_getElem z] at M
   have za:=Option.some.inj M
   have ze:0 < ca.countP (·.isSome):=List.countP_pos_iff.2 ⟨_,List.getElem_mem z,by rw [za];rfl⟩
   rw [Array.size_modify,h.size,List.countP_set z,za];simp;omega
  ·intro g q
   rw [N] at q
   obtain⟨p,T,s⟩:=List.getElem_of_mem q
   rw [List.getElem_set] at s
   split at s
   ·subst s;exact X _
   ·rename_i B
    have P:p < f.toList.length:=by simpa using T
    refine Y g (h.mem g (s ▸ List.getElem_mem P)) ?_
    intro ek
    have h5:=((MapKept.stamped_iff f clock).1 h.stamped).2.2
    have Z:f.toList[p]=g:=s
    have H:f.toList[j]=e:=by rw [List.getElem?_eq_getElem A] at l;exact Option.some.inj l
    rcases Nat.lt_or_gt_of_ne B with O|O
    ·exact List.pairwise_iff_getElem.1 h5 j p A P O (by rw [Z,H,ek,u])
    ·exact List.pairwise_iff_getElem.1 h5 p j P A O (by rw [Z,H,ek,u])
  ·refine W _ ?_ ?_
   ·exact⟨{ e with key:=.int .i64 (i:Int),val:=.slice (some a) x.length c },by rw [N];exact List.mem_iff_getElem.2 ⟨j,by simpa using A,by simp⟩,rfl⟩
   ·intro g q B
    rw [N]
    obtain⟨p,T,s⟩:=List.getElem_of_mem q
    have zd:j ≠ p:=by
     rintro rfl
     have H:f.toList[j]=e:=by rw [List.getElem?_eq_getElem A] at l;exact Option.some.inj l
     exact B (by rw [<-s,H,u])
    exact List.mem_iff_getElem.2 ⟨p,by simpa using T,by rw [List.getElem_set_ne zd];exact s⟩
theorem BU.update (h:BU R w m ca) (i:Nat) (p:i < ca.length) (x:List UInt8) (a:Addr) (c:Nat) (hs:AM w (some a) x.length c x) (n:R a.block) (s:x ≠ []) (q:¬ R m) :
 ∃ o,(Instr.mapUpdate 85 (.map (some m)) (i:Value) (.slice (some a) x.length c)).run prog w=.ok () (setBlock w m o)/\BU R (setBlock w m o) m (ca.set i (some x)):=by
 obtain⟨t,clock,d,l⟩:=h
 obtain⟨j,f,g,k⟩:=Pw l i p x a c hs n s d
 exact⟨_,g,j,f,Jw d,k.AI (fun b d _=>Ql _ _ (fun e=>q (e ▸ d))) (by rw [Qu];exact zN _)⟩
theorem BU.clear (h:BU R w m ca) (g:TypeId) :
 ∃ o,(Builtin.clear_ #[85] g #[.map (some m)]).run prog w=.ok (.tuple #[]) (setBlock w m o)/\∀ R' n,BU R' (setBlock w m o) m (List.replicate n none):=by
 obtain⟨j,clock,c,k⟩:=h
 have hu:=underlying85
 refine⟨.map #[] clock,?_,fun R' n=>⟨#[],clock,Jw c,stamped_empty _,?_,?_,?_⟩⟩
 ·simp [Builtin.clear_,run_underlying hu,MapKept.run_getObj_map c,MapKept.run_setObj_map _ c,Result.andThen,setBlock]
 ·simp [List.countP_replicate]
 ·intro e f;simp at f
 ·intro i x d
  rw [List.getElem?_replicate] at d;split at d <;> simp at d
theorem BU.made (R:Nat->Prop) (w:World) (n:Nat):BU R (w.alloc (.map #[] 0)) w.heap.size (List.replicate n none) :=
 ⟨#[],0,(MapKept.heap_alloc w _).1,stamped_empty _,by simp [List.countP_replicate],fun e d=>by simp at d,fun i x c=>by rw [List.getElem?_replicate] at c;split at c <;> simp at c⟩
theorem Va (hgd:o.guard=none) (x:Operand)
 (ho:o.op=.call { callee:=.builtin .clear,args:=#[x],argTypes:=#[85] }) {m:Nat} {ca:List (Option (List UInt8))} (i:a.eval x=.map (some m)) (h:BU R w m ca)
 (f:∀ c,(∀ R' n,BU R' (setBlock w m c) m (List.replicate n none))->wpList prog ops Q rest (a.put o.dst (.tuple #[])) (setBlock w m c)):wpList prog ops Q (o :: rest) a w:=by
 refine wpList_plain hgd fun K e=>?_
 obtain⟨c,d,g⟩:=h.clear o.type
 unfold Oper.wp
 simp [execOp,ho,resolve,invoke,builtin,i,d,Result.andThen]
 exact e _ _ (f c g)
def CG (R:Nat->Prop) (w:World) (m r:Nat) (ca:List (Option (List UInt8))) (done:Nat->Bool) (cnt:Nat):Prop :=
 ∃ c clock d f g,w.heap[m]?=some (.map c clock)/\NC R w ca c clock/\w.heap[r]?=some (.mapIter (some m) d f g)/\(∀ x ∈ c.toList,x.born < d)/\(leftOf c f).size=cnt/\d<=g/\d<=clock ∧
  ∀ e ∈ c.toList,∀ i:Nat,e.key=.int .i64 (i:Int)->done i=f.contains e.born
theorem CG.map (h:CG R w m r ca done cnt):BU R w m ca:=by
 obtain⟨c,clock,_,_,_,e,d,_⟩:=h;exact⟨c,clock,e,d⟩
theorem CG.ne (h:CG R w m r ca done cnt):r ≠ m:=by
 obtain⟨i,clock,d,f,g,c,_,hr,_⟩:=h
 intro e;rw [e,c] at hr;cases hr
theorem CG.lt (h:CG R w m r ca done cnt):r < w.heap.size:=by
 obtain⟨f,clock,c,d,e,g,_,hr,_⟩:=h;exact Qa hr
theorem CG.AI (h:CG R w m r ca done cnt) (k:∀ b,R b->b < w.heap.size->w'.heap[b]?=w.heap[b]?) (l:w'.heap[m]?=w.heap[m]?) (hr:w'.heap[r]?=w.heap[r]?) (n:w.heap.size<=w'.heap.size):CG R w' m r ca done cnt:=by
 obtain⟨f,clock,c,d,e,j,i,g,rest⟩:=h
 exact⟨f,clock,c,d,e,l.trans j,i.AI k n,hr.trans g,rest⟩
theorem CG.QE (h:CG R w m r ca done cnt):w.rangeLeft m r=cnt:=by
 obtain⟨i,clock,e,f,g,c,_,hr,_,d,_⟩:=h
 simp only [World.rangeLeft,c,hr]
 exact d
theorem Zf (hgd:o.guard=none) (p:Operand)
 (ho:o.op=Op.range 85 p) {m:Nat} {ca:List (Option (List UInt8))} (u:a.eval p=.map (some m)) (h:BU R w m ca) (t:∀ b,R b->b < w.heap.size)
 (q:∀ g cnt,CG R (w.alloc g) m w.heap.size ca (fun _=>false) cnt->wpList prog ops Q rest (a.put o.dst (.pointer w.heap.size)) (w.alloc g)):wpList prog ops Q (o :: rest) a w:=by
 have n:=h.lt
 obtain⟨c,clock,f,d⟩:=h
 have j:=run_range_map (P:=prog) w _ _ _ m c clock underlying85 f
 have s:CG R (w.alloc (.mapIter (some m) clock #[] clock)) m w.heap.size ca (fun _=>false) (leftOf c #[]).size :=
  ⟨c,clock,clock,#[],clock,((MapKept.heap_alloc w _).2 m n).trans f,d.AI (fun b l _=>(MapKept.heap_alloc w _).2 b (t b l)) (by simp),(MapKept.heap_alloc w _).1,d.stamped.1,rfl,zN _,zN _,fun e _ i _=>by simp⟩
 refine wpList_plain hgd fun K k=>?_
 unfold Oper.wp
 simp [execOp,ho,u,j,Result.andThen]
 exact k _ _ (q _ _ s)
theorem Zs (hgd:o.guard=none) (p:Operand)
 (ho:o.op=Op.next p false) {m r:Nat} {ca:List (Option (List UInt8))} {done:Nat->Bool} {cnt:Nat} (Y:a.eval p=.pointer r) (h:CG R w m r ca done cnt) (hR:∀ b,R b->b ≠ r)
 (za:(∀ (i:Nat) (x:List UInt8),ca[i]?=some (some x)->done i=true)->wpList prog ops Q rest (a.put o.dst (.tuple #[.bool false])) w)
 (zb:∀ (i:Nat) (x:List UInt8) (b:Addr) (c:Nat) (d:World) (o':Obj) (I:Nat),ca[i]?=some (some x)->i < ca.length->done i=false->(d=w\/d=w.drew)->AM (setBlock d r o') (some b) x.length c x->R b.block →
  CG R (setBlock d r o') m r ca (fun k=>done k || k == i) I->I < cnt->(Instr.entry (.pointer r)).run prog (setBlock d r o')=.ok (.tuple #[i,.slice (some b) x.length c]) (setBlock d r o') →
  wpList prog ops Q rest (a.put o.dst (.tuple #[.bool true,i,.slice (some b) x.length c])) (setBlock d r o')):wpList prog ops Q (o :: rest) a w:=by
 have zf:=h.ne
 obtain⟨g,clock,j,f,W,X,z,hr,J,zc,zg,U,C⟩:=h
 refine wpList_plain hgd fun K M=>?_
 unfold Oper.wp
 have G:=(MapKept.stamped_iff g clock).1 z.stamped
 rcases run_next_at (P:=prog) w o.type r m j W f g clock hr X J zg with⟨h0,t⟩|⟨e,l,d,s,t⟩
 ·simp [execOp,ho,Y,t,Result.andThen]
  refine M _ _ (za fun i x hx=>?_)
  obtain⟨e,l,ze⟩:=z.all i x hx
  rw [C e l i ze]
  exact all_seen g f h0 e l
 ·have q:e ∈ g.toList/\f.contains e.born=false:=by
   unfold leftOf at l
   simp at l
   exact⟨by simpa using l.1,by simpa using l.2⟩
  obtain⟨i,x,b,c,Z,A,q3,q4,q5,q6⟩:=z.mem e q.1
  have T:d.heap[r]?=some (.mapIter (some m) j f W):=by rcases s with rfl|rfl <;> exact hr
  have zd:d.heap[m]?=some (.map g clock):=by rcases s with rfl|rfl <;> exact X
  have zh:w.heap.size<=d.heap.size:=by rcases s with rfl|rfl <;> exact zN _
  have H:∀ k,R k->k < w.heap.size->(setBlock d r (.mapIter (some m) j (f.push e.born) clock)).heap[k]?=w.heap[k]?:=fun k n _=>(Ql _ _ (hR k n)).trans (by rcases s with rfl|rfl <;> rfl)
  have hsz:w.heap.size<=(setBlock d r (.mapIter (some m) j (f.push e.born) clock)).heap.size:=by rw [Qu];exact zh
  have N:(setBlock d r (.mapIter (some m) j (f.push e.born) clock)).heap[m]?=some (.map g clock):=(Ql _ _ (Ne.symm zf)).trans zd
  have O:=run_entry_at (P:=prog) (setBlock d r (.mapIter (some m) j (f.push e.born) clock)) r m j f g clock e (Jw T) N q.1 G.2.1
  rw [A,q3] at O t
  simp [execOp,ho,Y,t,Result.andThen]
  refine M _ _ (zb i x b c d _ (leftOf g (f.push e.born)).size Z (List.getElem?_eq_some_iff.1 Z).1 ?_ s (q4.AI (fun y hy _=>by cases hy;exact H _ q5 (q4.blt q6)) hsz) q5 ?_ ?_ O)
  ·rw [C e q.1 i A];exact q.2
  ·refine⟨g,clock,j,f.push e.born,clock,N,z.AI H hsz,Jw T,J,rfl,U,U,fun u F k n=>?_⟩
   show (done k || k == i)=_
   rw [C u F k n]
   have:(k == i)=(u.born == e.born):=by
    by_cases B:u.born=e.born
    ·have:=born_inj G.2.1 F q.1 B
     subst this
     rw [A] at n;injection n with _ n
     simp;omega
    ·have h1:(u.born == e.born)=false:=by simp [B]
     rw [h1]
     apply beq_eq_false_iff_ne.2
     rintro rfl
     exact B (congrArg MapEntry.born (entry_eq_of_key G.2.2 F q.1 (by rw [n,A])))
   rw [this,contains_push]
  ·rw [<-zc];exact left_shrinks g f e l
end
section
open Go.RowKit
variable {i n:Nat} {ops:Array Oper} {l:Array Bool} {dst:Option Nat} {deps:List Nat} {P:Program} {Q:Exit->Act->World->Prop} {a:Act} {w:World}
theorem Vr {d:Region.Mode} (h:i ∈ Region.ready d ops l):i < ops.size/\l.getD i true=false:=by
 unfold Region.ready at h
 obtain⟨c,b⟩:=List.mem_filter.1 h
 simp only [Bool.and_eq_true] at b
 exact⟨List.mem_range.1 c,by have:=b.1;simpa using this⟩
theorem Um (h:l.getD i true=false) (c:i < l.size):0 < l.toList.countP (fun b=>b == false):=by
 refine List.countP_pos_iff.2 ⟨l[i],by simp,?_⟩
 have:l.getD i true=l[i]:=by simp [c]
 rw [<-this,h];rfl
theorem Bm (h:l.getD i true=false) (c:i < l.size):(l.setIfInBounds i true).toList.countP (fun b=>b == false)+1=l.toList.countP (fun b=>b == false):=by
 have f:=Um h c
 have d:l.toList[i]'(by simpa using c)=false:=by
  have:l.getD i true=l[i]:=by simp [c]
  rw [<-h,this];simp
 rw [Array.toList_setIfInBounds,List.countP_set (by simpa using c),d]
 have e:(true == false)=false:=rfl
 simp only [beq_self_eq_true,if_true,e,Bool.false_eq_true,if_false]
 omega
theorem Gy {F:Fence} (e:Array Bool->Act->World->Prop) (hsz:∀ l a W,e l a W->l.size=ops.size)
 (m:∀ l a W,e l a W->Region.ready .any ops l=[]->Q .normal a W)
 (p:∀ l a W i,e l a W->i ∈ Region.ready .any ops l->∀ o:Act->World->Prop,(∀ g f,e (l.setIfInBounds i true) g f->o g f)->wpOpIn F n P ops Q i o a W) :
 ∀ (d:Nat) (l:Array Bool) (a:Act) (W:World),e l a W->l.toList.countP (fun b=>b == false)<=d->wpAnyIn F n P .any ops Q d l a W:=by
 intro d
 induction d with
|zero =>
  intro l a W c t
  have hr:Region.ready .any ops l=[]:=by
   cases s:Region.ready .any ops l with
  |nil=>rfl
  |cons i r =>
    have h:i ∈ Region.ready .any ops l:=by rw [s];exact List.mem_cons_self
    obtain⟨j,k⟩:=Vr h
    have:=Um k (by rw [hsz l a W c];exact j)
    omega
  exact⟨hr,m l a W c hr⟩
|succ d ih =>
  intro l a W c t
  refine⟨fun hr=>m l a W c hr,fun i h=>?_⟩
  obtain⟨j,k⟩:=Vr h
  have u:=Bm k (by rw [hsz l a W c];exact j)
  exact p l a W i c h _ (fun g f q=>ih _ g f q (by omega))
theorem En (a:Act) (d:Nat) (v:Value) (k:Nat) (hd:d < a.tmps.size):(a.put (some d) v).tmps.getD k undef=if k=d then v else a.tmps.getD k undef:=by
 show (a.tmps.setIfInBounds d v).getD k undef=_
 by_cases h:k=d
 ·subst h;simp [hd]
 ·simp [Ne.symm h,h]
theorem Eo (a:Act) (d:Nat) (v:Value):(a.put (some d) v).tmps.size=a.tmps.size:=by
 show (a.tmps.setIfInBounds d v).size=_
 simp
theorem Pi (l:Array Bool) (i j:Nat) (d:Bool) (b:i < l.size):(l.setIfInBounds i true).getD j d=if j=i then true else l.getD j d:=by
 by_cases h:j=i
 ·subst h;simp [b]
 ·simp [Ne.symm h,h]
structure FK (ops:Array Oper) (i:Nat) (op:Op) (dst:Option Nat) (deps:List Nat):Prop where
 ex:∃ o,ops[i]?=some o/\o.op=op/\o.guard=none/\o.dst=dst/\o.after.toList.map (fun e=>(e.on,Region.binds .any e))=deps.map (fun j=>(j,true))
theorem FK.dep {op:Op} (h:FK ops i op dst deps) (b:i ∈ Region.ready .any ops l) {j:Nat} (q:j ∈ deps):l.getD j false=true:=by
 obtain⟨o,d,r,s,t,f⟩:=h.ex
 unfold Region.ready at b
 obtain⟨_,b⟩:=List.mem_filter.1 b
 simp only [Bool.and_eq_true,d,Option.map_some,Option.getD_some,Array.all_eq_true_iff_forall_mem] at b
 have:(j,true) ∈ o.after.toList.map (fun e=>(e.on,Region.binds .any e)):=by rw [f];exact List.mem_map.2 ⟨j,q,rfl⟩
 obtain⟨e,p,g⟩:=List.mem_map.1 this
 have c:=b.2 e (by simpa using p)
 injection g with k m
 rw [m,k] at c
 simpa using c
theorem FK.AG {op:Op} (h:FK ops i op dst deps) (hr:Region.ready .any ops l=[]) (hd:∀ j ∈ deps,l.getD j false=true) (m:i < ops.size):l.getD i true=true:=by
 obtain⟨o,b,r,s,t,c⟩:=h.ex
 cases q:l.getD i true with
|true=>rfl
|false =>
  exfalso
  have:i ∈ Region.ready .any ops l:=by
   unfold Region.ready
   refine List.mem_filter.2 ⟨List.mem_range.2 m,?_⟩
   simp only [Bool.and_eq_true,b,Option.map_some,Option.getD_some,Array.all_eq_true_iff_forall_mem]
   refine⟨by rw [q];rfl,fun e k=>?_⟩
   have d:(e.on,Region.binds .any e) ∈ deps.map (fun j=>(j,true)):=by rw [<-c];exact List.mem_map.2 ⟨e,by simpa using k,rfl⟩
   obtain⟨j,p,f⟩:=List.mem_map.1 d
   injection f with g u
   rw [<-g,hd j p];simp
  rw [hr] at this;cases this
theorem FK.value {F:Fence} {op:Op} (h:FK ops i op dst deps) (hd:∀ c,op ≠ .defer c)
 (e:∀ o:Oper,o.op=op->o.about P w a.eval=none) {v:Value} {w':World} (hr:∀ o:Oper,o.op=op->(execOp a.eval o).run P w=.ok (.value v) w') {K:Act->World->Prop} (m:K (a.put dst v) w'):wpOpIn F n P ops Q i K a w:=by
 obtain⟨o,g,b,j,k,p⟩:=h.ex
 unfold wpOpIn
 rw [g]
 simp only [Region.wanted,j,if_true]
 unfold Oper.wpIn
 rw [Oper.semAt_plain F _ _ (by rw [b];exact hd),hr o b]
 refine⟨(fun f d=>by rw [e o b] at d;cases d),?_⟩
 rw [Oper.uponIn_value,k];exact m
theorem FK.skip {F:Fence} {op:Op} (h:FK ops i op dst deps) (hd:∀ c,op ≠ .defer c)
 (e:∀ o:Oper,o.op=op->o.about P w a.eval=none) {w':World} (hr:∀ o:Oper,o.op=op->(execOp a.eval o).run P w=.ok .skip w') {K:Act->World->Prop} (m:K (a.put dst undef) w'):wpOpIn F n P ops Q i K a w:=by
 obtain⟨o,g,b,j,k,p⟩:=h.ex
 unfold wpOpIn
 rw [g]
 simp only [Region.wanted,j,if_true]
 unfold Oper.wpIn
 rw [Oper.semAt_plain F _ _ (by rw [b];exact hd),hr o b]
 refine⟨(fun f d=>by rw [e o b] at d;cases d),?_⟩
 rw [Oper.uponIn_skip,k];exact m
end
section
open Go.RowKit
variable {w:World} {ops:Array Oper} {rest:List Oper} {o:Oper} {a:Act} {Q:Exit->Act->World->Prop}
theorem Xp (i:TypeId) (base:Nat) (v:Value) (l:List UInt8) (h:AC base w v l) (b:Option Addr) (m c:Nat) (l2:List UInt8) (f:AM w b m c l2) (G:l.length+m<=140737488355328) (t:base<=w.heap.size) :
 ∃ g e,(Builtin.append_ #[70,70] i #[v,.slice b m c]).run prog w=.ok g e/\AC base e g (l ++ l2)/\w.grownBy e v.ownBlock:=by
 obtain⟨s,q,z,A,B⟩:=info_parts JX
 cases b with
|none =>
  obtain⟨rfl,rfl⟩:=f.2.2.2.1 rfl
  obtain rfl:m=0:=f.1.symm
  exact⟨v,w,run_append_owned_none (P:=prog) (w:=w) base 70 i 5 s 1 underlying70 q v l.length _ h,by simpa using h,⟨rfl,rfl,rfl,zN _,fun _ _ _=>rfl⟩⟩
|some d =>
  have n:=f.len
  obtain⟨g,e,y,C,F,_⟩:=run_append_own (P:=prog) w base 70 i 5 s (.int .u8 0) 1 1 underlying70 q z A B rfl (by decide) v l.length _ h d m c (l2.map bv) (by simp [n]) (fun j u r=>by
   have k:j < l2.length:=by
    have:=(List.getElem?_eq_some_iff.1 r).1;simpa using this
   obtain⟨p,H,this⟩:=f.2.2.2.2 d rfl j k
   have x:d.add j=(d.block (d.off+j)):=by
    obtain⟨b,o,I⟩:=d;simp only at p;subst p;unfold Addr.add;split <;> simp_all
   rw [x,this];rw [<-r];simp [bv,k]) (fun u hu=>by obtain⟨b,_,rfl⟩:=List.mem_map.1 hu;rfl) (by unfold maxLen;omega) (by omega) t
  refine⟨g,e,y,?_,F⟩
  unfold AC;rw [List.length_append,List.map_append,n];exact C
theorem Gt {α:Type} (L B:List α) (n off m:Nat) (d:B.length=m) (h:off+m<=n) (e:n<=L.length):(L.take off ++ B ++ L.drop (off+m)).take n=(L.take n).take off ++ B ++ (L.take n).drop (off+m):=by
 subst d
 have b:(L.take n).take off=L.take off:=by rw [List.take_take,Nat.min_eq_left (by omega)]
 have c:(L.take off ++ B).length=off+B.length:=by rw [List.length_append,List.length_take];omega
 rw [b,List.take_append,List.take_of_length_le (by omega),c,List.drop_take]
theorem Wh (u:TypeId) {base g n c:Nat} {l:List UInt8} (h:AC base w (.slice g n c) l) (off dLen dCap:Nat) (p:Option Addr) (d q:Nat) (l2:List UInt8) (t:AM w p d q l2) (M:d=dLen) (hfit:off+dLen<=l.length) :
 ∃ x,(Builtin.copy_ #[70,70] u #[.slice (g off) dLen dCap,.slice p d q]).run prog w=.ok (goInt dLen) x/\AC base x (.slice g n c) (l.take off ++ l2 ++ l.drop (off+dLen))/\BQ g w x:=by
 subst M
 have hsz:(prog.info? 5).map (·.size)=some 1:=by kernel_rfl
 have k:=t.len
 by_cases h0:d=0
 ·have r:=run_copy_none (P:=prog) w 70 70 u 5 (g off) p d dCap d q underlying70 hsz (by rw [h0];rfl)
  refine⟨w,by rw [r,h0];rfl,?_,BQ.refl _ _⟩
  have:l2=[]:=List.eq_nil_of_length_eq_zero (by omega)
  rw [this,h0];simpa using h
 ·cases p with
 |none=>have:=(t.2.2.2.1 rfl).1;subst this;simp at k;omega
 |some i =>
   have hn:n=l.length:=by obtain⟨a,X,e,-,-⟩:=h.sl;injection e
   subst hn
   rcases h.2 with⟨m,_⟩|⟨Z,cap,f,m,T,B,N,K,y,F⟩
   ·cases m
   ·injection m with O Y R
    cases O
    subst R
    have H:Nat.min d d=d:=Nat.min_self _
    have r:=run_copy_row (P:=prog) w 70 70 u 5 g off d dCap i d q f 5 (l2.map bv) underlying70 hsz B (by rw [List.length_map,k,H]) (fun j v C=>by
     have z:j < l2.length:=by have:=(List.getElem?_eq_some_iff.1 C).1;simpa using this
     obtain⟨A,U,J⟩:=t.2.2.2.2 i rfl j z
     have G:i.add j=(i.block (i.off+j)):=by
      obtain⟨b,o,p⟩:=i;simp only at A;subst A;unfold Addr.add;split <;> simp_all
     rw [G,J,<-C];simp [bv,z]) (by rw [List.length_map,k,y];omega) (fun v m=>by obtain⟨b,_,rfl⟩:=List.mem_map.1 m;rfl)
    refine⟨_,by rw [r,List.length_map,k],?_,(BQ.refl _ _).setRow _⟩
    have I:(w.setRow g (f.toList.take off ++ l2.map bv ++ f.toList.drop (off+d)).toArray).heap[g]?=some (.cells (f.toList.take off ++ l2.map bv ++ f.toList.drop (off+d)).toArray 5 (0,0)):=setRow_heap w g _ _ _ _ B
    have W:f.toList.length=c:=by simpa using y
    have s:(l.take off ++ l2 ++ l.drop (off+d)).length=l.length:=by simp;omega
    refine⟨by rw [List.length_map];simp,.inr ⟨g,c,_,by rw [s],T,I,by rw [s];exact N,K,?_,?_⟩⟩
    ·simp;omega
    ·rw [s]
     rw [Nat.mul_one] at F ⊢
     rw [Gt f.toList (l2.map bv) l.length off d (by rw [List.length_map,k]) hfit (by omega),F]
     simp only [List.map_append,List.map_take,List.map_drop]
theorem Xe {F:Fence} {j:Nat} (hgd:o.guard=none) (d s:Operand)
 (ho:o.op=.call { callee:=.builtin .copy,args:=#[d,s],argTypes:=#[70,70] })
 {base g n c:Nat} {l:List UInt8} (h:AC base w (.slice g n c) l) (off dLen dCap:Nat) (i:Option Addr) (e f:Nat) (l2:List UInt8) (hd:a.eval d=.slice (g off) dLen dCap) (hs:a.eval s=.slice i e f) (r:AM w i e f l2) (q:e=dLen) (hfit:off+dLen<=l.length)
 (t:∀ b,AC base b (.slice g n c) (l.take off ++ l2 ++ l.drop (off+dLen))->BQ g w b->wpListIn F j prog ops Q rest (a.put o.dst (goInt dLen)) b):wpListIn F j prog ops Q (o :: rest) a w:=by
 refine wpListIn_plain hgd fun K m=>?_
 obtain⟨b,k,u,x⟩:=Wh o.type h off dLen dCap i e f l2 r q hfit
 unfold Oper.wpIn
 refine⟨?_,?_⟩
 ·simp [Oper.about,ho,resolve,Target.leads,Sem.run_pure]
 ·rw [Oper.semAt_plain F _ _ (by rw [ho];intro c p;cases p)]
  simp [execOp,ho,resolve,invoke,builtin,hd,hs,k,Result.andThen]
  exact m _ _ (t b u x)
theorem Wv (r:o.guard=none) (l c:Operand) (f:o.op=Op.makeSlice 70 l c)
 (base:Nat) (n:Nat) (C:Int) (u:a.eval l=.int .i64 0) (q:a.eval c=.int .i64 C) (m:C=(n:Int)) (y:n<=281474976710656) (j:base<=w.heap.size)
 (p:∀ v b,AC base b v []->Below w.heap.size w b->wpList prog ops Q rest (a.put o.dst v) b):wpList prog ops Q (o :: rest) a w:=by
 obtain⟨x,s,g,h,i⟩:=info_parts JX
 refine wpList_make_own w r l c 70 f base 5 x _ 1 underlying70 s g h .i64 .i64 C n u q m (by rw [i];omega) (by unfold maxLen;omega) j ?_
 intro b d e
 exact p _ b d ((Below.refl _ _).grown e (zN _) (fun k t=>by cases t))
end
section
open Go.RowKit
variable {l:Array Bool} {j:Nat} {a:Act} {W:World}
theorem GT (h:l.getD j false=true):l.getD j true=true:=by
 have c:j < l.size:=by
  rcases Nat.lt_or_ge j l.size with b|b
  ·exact b
  ·rw [Array.getD_eq_getD_getElem?,Array.getElem?_eq_none b] at h;cases h
 rw [Array.getD_eq_getD_getElem?,Array.getElem?_eq_getElem c] at h ⊢
 simpa using h
theorem YM (h:l.getD j true=true) (b:j < l.size):l.getD j false=true:=by
 rw [Array.getD_eq_getD_getElem?,Array.getElem?_eq_getElem b] at h ⊢
 simpa using h
structure LZ (X pb:Nat) (vo:Value) (bb q u cc:Nat) (W0:World) (Fact:Value->World->Prop) (Fin:World->Prop) (l:Array Bool) (a:Act) (W:World):Prop where
 lsz:l.size=9
 asz:a.tmps.size=49
 s11:a.tmps.getD 11 undef=.pointer X
 s12:a.tmps.getD 12 undef=.pointer pb
 s13:a.tmps.getD 13 undef=.slice bb 64 cc
 i0:l.getD 0 true=true->a.tmps.getD 40 undef=vo
 i1:l.getD 1 true=true->a.tmps.getD 41 undef=.slice bb 64 cc
 i2:l.getD 2 true=true->a.tmps.getD 42 undef=.pointer (pb 1)
 i3:l.getD 3 true=true->a.tmps.getD 43 undef=.int .i64 (q:Int)
 i4:l.getD 4 true=true->a.tmps.getD 44 undef=.pointer (pb 2)
 i5:l.getD 5 true=true->a.tmps.getD 45 undef=.int .i64 (u:Int)
 i6:l.getD 6 true=true->a.tmps.getD 46 undef=.slice (bb q) (u - q) (cc - q)
 o6:l.getD 6 true=true->l.getD 3 true=true/\l.getD 5 true=true
 o7:l.getD 7 true=true->l.getD 0 true=true/\l.getD 6 true=true
 o8:l.getD 8 true=true->l.getD 7 true=true
 w0:l.getD 7 true=false->W=W0
 w7:l.getD 7 true=true->l.getD 8 true=false->Fact (a.tmps.getD 47 undef) W
 w8:l.getD 8 true=true->Fin W
theorem LZ.step {X pb:Nat} {vo:Value} {bb q u cc:Nat} {t:World} {m:Value->World->Prop} {Fin:World->Prop} (h:LZ X pb vo bb q u cc t m Fin l a W) (i d:Nat) (v:Value) (n:World)
 (M:i < 9) (hd:d=i+40) (N:l.getD i true=false)
 (F:i=0->v=vo) (g1:i=1->v=.slice bb 64 cc) (G:i=2->v=.pointer (pb 1)) (H:i=3->v=.int .i64 (q:Int)) (I:i=4->v=.pointer (pb 2)) (J:i=5->v=.int .i64 (u:Int)) (K:i=6->v=.slice (bb q) (u - q) (cc - q))
 (O:i=6->l.getD 3 true=true/\l.getD 5 true=true) (P:i=7->l.getD 0 true=true/\l.getD 6 true=true) (r:i ≠ 8) (s:i ≠ 7->n=W) (g:i=7->m v n):LZ X pb vo bb q u cc t m Fin (l.setIfInBounds i true) (a.put (some d) v) n:=by
 have C:i < l.size:=by rw [h.lsz];exact M
 have z:d < a.tmps.size:=by rw [h.asz];omega
 have A:∀ k,(a.put (some d) v).tmps.getD k undef=if k=d then v else a.tmps.getD k undef:=fun k=>En a d v k z
 have B:∀ k,(l.setIfInBounds i true).getD k true=if k=i then true else l.getD k true:=fun k=>Pi l i k true C
 have S:∀ (j:Nat) (x:Value),(i=j->v=x)->(l.getD j true=true->a.tmps.getD (j+40) undef=x)->(l.setIfInBounds i true).getD j true=true->(a.put (some d) v).tmps.getD (j+40) undef=x:=by
  intro j x c f o
  rw [A];rw [B] at o
  by_cases y:j=i
  ·rw [if_pos (by omega)];exact c y.symm
  ·rw [if_neg y] at o;rw [if_neg (by omega)];exact f o
 refine⟨by simpa using h.lsz,by rw [Eo];exact h.asz,by rw [A,if_neg (by omega)];exact h.s11,by rw [A,if_neg (by omega)];exact h.s12,by rw [A,if_neg (by omega)];exact h.s13,
  S 0 _ F h.i0,S 1 _ g1 h.i1,S 2 _ G h.i2,S 3 _ H h.i3,S 4 _ I h.i4,S 5 _ J h.i5,S 6 _ K h.i6,?_,?_,?_,?_,?_,?_⟩
 ·intro e;rw [B] at e ⊢;rw [B]
  by_cases w:6=i
  ·obtain⟨c,f⟩:=O w.symm;rw [c,f];simp
  ·rw [if_neg w] at e;obtain⟨c,f⟩:=h.o6 e;rw [c,f];simp
 ·intro e;rw [B] at e ⊢;rw [B]
  by_cases g:7=i
  ·obtain⟨c,f⟩:=P g.symm;rw [c,f];simp
  ·rw [if_neg g] at e;obtain⟨c,f⟩:=h.o7 e;rw [c,f];simp
 ·intro e;rw [B,if_neg (fun e=>r e.symm)] at e;rw [B,h.o8 e];simp
 ·intro e;rw [B] at e
  by_cases b:7=i
  ·rw [if_pos b] at e;cases e
  ·rw [if_neg b] at e;rw [s (fun e=>b e.symm)];exact h.w0 e
 ·intro e p;rw [B] at e p;rw [A]
  rw [if_neg (fun e=>r e.symm)] at p
  by_cases b:7=i
  ·rw [if_pos (by omega)];exact g b.symm
  ·rw [if_neg b] at e;rw [if_neg (by omega),s (fun e=>b e.symm)];exact h.w7 e p
 ·intro e;rw [B,if_neg (fun e=>r e.symm)] at e
  by_cases b:i=7
  ·
   exfalso
   have:=h.o8 e;rw [<-b,N] at this;cases this
  ·rw [s b];exact h.w8 e
theorem Cb {F:Fence} {n:Nat} {f:Array Oper} {Q:Exit->Act->World->Prop} (hsz:f.size=9)
 (e0:FK f 0 (.load 70 (.tmp 11)) (some 40) []) (e1:FK f 1 (.move (.tmp 13)) (some 41) []) (e2:FK f 2 (.fieldAddr 194 (.tmp 12) 1) (some 42) []) (J:FK f 3 (.load 3 (.tmp 42)) (some 43) [2])
 (e4:FK f 4 (.fieldAddr 194 (.tmp 12) 2) (some 44) []) (K:FK f 5 (.load 3 (.tmp 44)) (some 45) [4]) (t:FK f 6 (.slice 70 (.tmp 41) (some (.tmp 43)) (some (.tmp 45)) none) (some 46) [1,3,5])
 (A:FK f 7 (.call { callee:=.builtin .append,args:=#[.tmp 40,.tmp 46],argTypes:=#[70,70] }) (some 47) [0,6]) (M:FK f 8 (.store 70 (.tmp 11) (.tmp 47)) none [7,7,0,1,2,3,4,5,6,7])
 {X pb bb q u cc base:Nat} {vo:Value} {acc l2:List UInt8} (ha:a.tmps.size=49) (zd:a.tmps.getD 11 undef=.pointer X) (ze:a.tmps.getD 12 undef=.pointer pb) (zf:a.tmps.getD 13 undef=.slice bb 64 cc)
 (N:Boxed W X 70 vo) (zm:W.cell? (pb 1)=some (q:Value)) (zn:W.cell? (pb 2)=some (u:Value)) (hq:q<=u) (hu:u<=64) (hc:64<=cc) (zt:q < 64) (hO:AC base W vo acc) (hb:base<=W.heap.size) (P:∀ k,vo.ownBlock=some k->k ≠ X)
 (hS:AM W (bb q) (u - q) (cc - q) l2) (zb:acc.length+(u - q)<=140737488355328)
 (hQ:∀ a' m H,AC base H m (acc ++ l2)->W.grownBy H vo.ownBlock->Q .normal a' (H.setCell X m)) :
 wpAnyIn F n prog .any f Q f.size (Array.replicate f.size false) a W:=by
 obtain⟨C,z⟩:∃ C,C=LZ X pb vo bb q u cc W (fun v b=>AC base b v (acc ++ l2)/\W.grownBy b vo.ownBlock) (fun Z=>∃ O b,AC base b O (acc ++ l2)/\W.grownBy b vo.ownBlock/\Z=b.setCell X O):=⟨_,rfl⟩
 refine Gy C (fun l a W h=>by rw [z] at h;rw [h.lsz,hsz]) ?_ ?_ _ _ _ _ ?_ ?_
 ·
  rintro l a1 b h hr
  rw [z] at h
  have f0:=e0.AG hr (by simp) (by omega)
  have T:∀ {j:Nat},l.getD j true=true->j < 9->l.getD j false=true:=fun h1 h2=>YM h1 (by rw [h.lsz];exact h2)
  have f1:=e1.AG hr (by simp) (by omega)
  have f2:=e2.AG hr (by simp) (by omega)
  have f4:=e4.AG hr (by simp) (by omega)
  have f3:=J.AG hr (by intro j d;simp only [List.mem_cons,List.not_mem_nil,or_false] at d;rw [d];exact T f2 (by omega)) (by omega)
  have f5:=K.AG hr (by intro j d;simp only [List.mem_cons,List.not_mem_nil,or_false] at d;rw [d];exact T f4 (by omega)) (by omega)
  have f6:=t.AG hr (by intro j d;simp only [List.mem_cons,List.not_mem_nil,or_false] at d;rcases d with rfl|rfl|rfl <;> first|exact T f1 (by omega)|exact T f3 (by omega)|exact T f5 (by omega)) (by omega)
  have f7:=A.AG hr (by intro j d;simp only [List.mem_cons,List.not_mem_nil,or_false] at d;rcases d with rfl|rfl <;> first|exact T f0 (by omega)|exact T f6 (by omega)) (by omega)
  have f8:=M.AG hr (by intro j d;simp only [List.mem_cons,List.not_mem_nil,or_false] at d;rcases d with rfl|rfl|rfl|rfl|rfl|rfl|rfl|rfl|rfl|rfl <;> first|exact T f0 (by omega)|exact T f1 (by omega)|exact T f2 (by omega)|exact T f3 (by omega)|exact T f4 (by omega)|exact T f5 (by omega)|exact T f6 (by omega)|exact T f7 (by omega)) (by omega)
  obtain⟨O,Z,q1,q2,rfl⟩:=h.w8 f8
  exact hQ _ _ _ q1 q2
 ·
  intro l a1 b i h r K' p
  rw [z] at h p
  obtain⟨hi,g⟩:=Vr r
  rw [hsz] at hi
  have n7:i ≠ 8->l.getD 8 true=true->l.getD 7 true=true:=fun _=>h.o8
  have U:a1.tmps[11]?.getD undef=.pointer X:=by have:=h.s11;rwa [Array.getD_eq_getD_getElem?] at this
  have Y:a1.tmps[12]?.getD undef=.pointer pb:=by have:=h.s12;rwa [Array.getD_eq_getD_getElem?] at this
  have zr:a1.tmps[13]?.getD undef=.slice bb 64 cc:=by have:=h.s13;rwa [Array.getD_eq_getD_getElem?] at this
  match i,hi with
 |0,_ =>
   have s:b=W:=h.w0 (by cases w:l.getD 7 true with|false=>rfl|true=>have:=(h.o7 w).1;rw [g] at this;cases this)
   subst s
   have za:=N.cell
   refine e0.value (by simp) (fun o ho=>by simp [Oper.about,ho]) (v:=vo) (w':=b) (fun o ho=>?_) (p _ _ (h.step 0 40 vo b (by omega) rfl g (fun _=>rfl) (by simp) (by simp) (by simp) (by simp) (by simp) (by simp) (by simp) (by simp) (by simp) (fun _=>rfl) (by simp)))
   simp [execOp,ho,U,go_sem,za]
 |1,_ =>
   refine e1.value (by simp) (fun o ho=>by simp [Oper.about,ho]) (v:=.slice bb 64 cc) (w':=b) (fun o ho=>?_) (p _ _ (h.step 1 41 _ b (by omega) rfl g (by simp) (fun _=>rfl) (by simp) (by simp) (by simp) (by simp) (by simp) (by simp) (by simp) (by simp) (fun _=>rfl) (by simp)))
   simp [execOp,ho,zr,go_sem]
 |2,_ =>
   refine e2.value (by simp) (fun o ho=>by simp [Oper.about,ho]) (v:=.pointer (pb 1)) (w':=b) (fun o ho=>?_) (p _ _ (h.step 2 42 _ b (by omega) rfl g (by simp) (by simp) (fun _=>rfl) (by simp) (by simp) (by simp) (by simp) (by simp) (by simp) (by simp) (fun _=>rfl) (by simp)))
   simp [execOp,ho,Y,go_sem]
 |4,_ =>
   refine e4.value (by simp) (fun o ho=>by simp [Oper.about,ho]) (v:=.pointer (pb 2)) (w':=b) (fun o ho=>?_) (p _ _ (h.step 4 44 _ b (by omega) rfl g (by simp) (by simp) (by simp) (by simp) (fun _=>rfl) (by simp) (by simp) (by simp) (by simp) (by simp) (fun _=>rfl) (by simp)))
   simp [execOp,ho,Y,go_sem]
 |3,_ =>
   have d2:=J.dep r (j:=2) (by simp)
   have hs:a1.tmps[42]?.getD undef=.pointer (pb 1):=by have:=h.i2 (GT d2);rwa [Array.getD_eq_getD_getElem?] at this
   have s:b=W:=h.w0 (by cases w:l.getD 7 true with|false=>rfl|true=>have:=(h.o6 (h.o7 w).2).1;rw [g] at this;cases this)
   subst s
   refine J.value (by simp) (fun o ho=>by simp [Oper.about,ho]) (v:=.int .i64 (q:Int)) (w':=b) (fun o ho=>?_) (p _ _ (h.step 3 43 _ b (by omega) rfl g (by simp) (by simp) (by simp) (fun _=>rfl) (by simp) (by simp) (by simp) (by simp) (by simp) (by simp) (fun _=>rfl) (by simp)))
   simp [execOp,ho,hs,go_sem,zm]
 |5,_ =>
   have d4:=K.dep r (j:=4) (by simp)
   have hs:a1.tmps[44]?.getD undef=.pointer (pb 2):=by have:=h.i4 (GT d4);rwa [Array.getD_eq_getD_getElem?] at this
   have s:b=W:=h.w0 (by cases w:l.getD 7 true with|false=>rfl|true=>have:=(h.o6 (h.o7 w).2).2;rw [g] at this;cases this)
   subst s
   refine K.value (by simp) (fun o ho=>by simp [Oper.about,ho]) (v:=.int .i64 (u:Int)) (w':=b) (fun o ho=>?_) (p _ _ (h.step 5 45 _ b (by omega) rfl g (by simp) (by simp) (by simp) (by simp) (by simp) (fun _=>rfl) (by simp) (by simp) (by simp) (by simp) (fun _=>rfl) (by simp)))
   simp [execOp,ho,hs,go_sem,zn]
 |6,_ =>
   have d1:=t.dep r (j:=1) (by simp)
   have d3:=t.dep r (j:=3) (by simp)
   have d5:=t.dep r (j:=5) (by simp)
   have s1:a1.tmps[41]?.getD undef=.slice bb 64 cc:=by have:=h.i1 (GT d1);rwa [Array.getD_eq_getD_getElem?] at this
   have s3:a1.tmps[43]?.getD undef=.int .i64 (q:Int):=by have:=h.i3 (GT d3);rwa [Array.getD_eq_getD_getElem?] at this
   have s5:a1.tmps[45]?.getD undef=.int .i64 (u:Int):=by have:=h.i5 (GT d5);rwa [Array.getD_eq_getD_getElem?] at this
   have c1:¬ cc=q:=by omega
   have c2:u<=cc:=by omega
   refine t.value (by simp) (fun o ho=>by simp [Oper.about,ho]) (v:=.slice (bb q) (u - q) (cc - q)) (w':=b) (fun o ho=>?_) (p _ _ (h.step 6 46 _ b (by omega) rfl g (by simp) (by simp) (by simp) (by simp) (by simp) (by simp) (fun _=>rfl) (fun _=>⟨GT d3,GT d5⟩) (by simp) (by simp) (fun _=>rfl) (by simp)))
   simp [execOp,ho,s1,s3,s5,go_sem,c1,c2,hq]
 |7,_ =>
   have d0:=A.dep r (j:=0) (by simp)
   have d6:=A.dep r (j:=6) (by simp)
   have s:b=W:=h.w0 g
   subst s
   obtain⟨o,zj,G,zk,zl,zs⟩:=id A.ex
   obtain⟨m,w',zc,y,x⟩:=Xp o.type base vo acc hO (bb q) (u - q) (cc - q) l2 hS zb hb
   unfold wpOpIn
   rw [zj]
   simp only [Region.wanted,zk,if_true]
   unfold Oper.wpIn
   rw [Oper.semAt_plain F _ _ (by rw [G];intro c zg;cases zg)]
   refine⟨by simp [Oper.about,G,resolve,Target.leads,Sem.run_pure],?_⟩
   have:(execOp a1.eval o).run prog b=.ok (.value m) w':=by
    have zp:a1.eval (.tmp 40)=vo:=h.i0 (GT d0)
    have zq:a1.eval (.tmp 46)=.slice (bb q) (u - q) (cc - q):=h.i6 (GT d6)
    simp [execOp,G,resolve,invoke,builtin,zp,zq,zc,Result.andThen]
   rw [this,Oper.uponIn_value,zl]
   exact p _ _ (h.step 7 47 m w' (by omega) rfl g (by simp) (by simp) (by simp) (by simp) (by simp) (by simp) (by simp) (by simp) (fun _=>⟨GT d0,GT d6⟩) (by simp) (by simp) (fun _=>⟨y,x⟩))
 |8,_ =>
   have I:=M.dep r (j:=7) (by simp)
   obtain⟨y,x⟩:=h.w7 (GT I) g
   obtain⟨m,R⟩:∃ m,m=a1.tmps.getD 47 undef:=⟨_,rfl⟩
   rw [<-R] at y
   have s7:a1.tmps[47]?.getD undef=m:=by have:=R.symm;rwa [Array.getD_eq_getD_getElem?] at this
   have zi:b.frozen? X=false:=by
    exact (N.kept x (fun e=>P X e.symm rfl)).frozen
   refine M.skip (by simp) (fun o ho=>by simp [Oper.about,ho]) (w':=b.setCell X m) (fun o ho=>?_) (p _ _ ?_)
   ·obtain⟨av,cv,zo,-,-⟩:=y.sl
    have zh:=(N.kept x (fun e=>P X e.symm rfl)).cell
    simp [execOp,ho,U,s7,zo,go_sem,zi,zh]
   ·have B:∀ k,(l.setIfInBounds 8 true).getD k true=if k=8 then true else l.getD k true:=fun k=>Pi l 8 k true (by rw [h.lsz];omega)
    refine⟨by simpa using h.lsz,h.asz,h.s11,h.s12,h.s13,?_,?_,?_,?_,?_,?_,?_,?_,?_,?_,?_,?_,?_⟩
    ·intro e;rw [B] at e;exact h.i0 e
    ·intro e;rw [B] at e;exact h.i1 e
    ·intro e;rw [B] at e;exact h.i2 e
    ·intro e;rw [B] at e;exact h.i3 e
    ·intro e;rw [B] at e;exact h.i4 e
    ·intro e;rw [B] at e;exact h.i5 e
    ·intro e;rw [B] at e;exact h.i6 e
    ·intro e;rw [B] at e;simp only [B];exact h.o6 e
    ·intro e;rw [B] at e;simp only [B];exact h.o7 e
    ·intro e;rw [B];exact GT I
    ·intro e;rw [B] at e;have:=GT I;rw [if_neg (by decide),this] at e;cases e
    ·intro _ e;rw [B] at e;cases e
    ·intro _;exact⟨m,b,y,x,rfl⟩
 ·rw [z,hsz]
  have:∀ j,j < 9->(Array.replicate 9 false).getD j true=false:=by decide
  refine⟨rfl,ha,zd,ze,zf,?_,?_,?_,?_,?_,?_,?_,?_,?_,?_,fun _=>rfl,?_,?_⟩ <;> (intro e;first|(rw [this _ (by decide)] at e;cases e))
 ·rw [hsz];decide
end
section
open Go.RowKit
theorem Jd {w:World} {f:Array Oper} {o:Oper} {a:Act} {K:Act->World->Prop} {Q:Exit->Act->World->Prop} {E:Prop} (hgd:o.guard=none) (s x:Operand)
 (ho:o.op=.call { callee:=.builtin .append,args:=#[s,x],argTypes:=#[70,70] })
 (base:Nat) (v:Value) (l:List UInt8) (hs:a.eval s=v) (j:AC base w v l) (b:Option Addr) (m c:Nat) (l2:List UInt8) (t:a.eval x=.slice b m c) (n:AM w b m c l2)
 (i:l.length+m<=140737488355328) (g:base<=w.heap.size)
 (h:∀ e d,AC base d e (l ++ l2)->w.grownBy d v.ownBlock->K (a.put o.dst e) d) :
 if Region.wanted o (yielded f a.tmps)=true then Oper.wp prog o a w K Q else E:=by
 have r:Region.wanted o (yielded f a.tmps)=true:=by simp [Region.wanted,hgd]
 rw [if_pos r]
 obtain⟨e,d,k,p,q⟩:=Xp o.type base v l j b m c l2 n i g
 unfold Oper.wp
 simp [execOp,ho,resolve,invoke,builtin,hs,t,k,Result.andThen]
 exact h e d p q
end
section
variable {c:Int} {L:List AJ}
namespace Sp
def enc (c:Int) (L:List AJ):List UInt8:=Wi.enc c.toNat ++ (Wi.enc L.length ++ L.flatMap AJ.enc)
def pins (b:List UInt8):Nat->Nat->List AJ->List AJ × Nat × Int
|0,k,acc=>(acc,k,0)
|n+1,k,acc=>if (AJ.dec (b.drop k)).2.2 ≠ 0 then ([],0,(AJ.dec (b.drop k)).2.2) else pins b n (k+(AJ.dec (b.drop k)).2.1) (acc ++ [(AJ.dec (b.drop k)).1])
def FE (b:List UInt8) (c m k:Nat):(Int × List AJ) × Int :=
 if 1000 < m then ((0,[]),3) else if (pins b m k []).2.2 ≠ 0 then ((0,[]),(pins b m k []).2.2) else if (pins b m k []).2.1 < b.length then ((0,[]),6) else if 1099511627776 < c then ((0,[]),2) else
  if AN.AK c (pins b m k []).1=false then ((0,[]),8) else ((c,(pins b m k []).1),0)
def dec (b:List UInt8):(Int × List AJ) × Int :=
 if (Wi.dec b).2.2 ≠ 0 then ((0,[]),(Wi.dec b).2.2) else if (Wi.dec (b.drop (Wi.dec b).2.1)).2.2 ≠ 0 then ((0,[]),(Wi.dec (b.drop (Wi.dec b).2.1)).2.2) else
  FE b (Wi.dec b).1 (Wi.dec (b.drop (Wi.dec b).2.1)).1 ((Wi.dec b).2.1+(Wi.dec (b.drop (Wi.dec b).2.1)).2.1)
theorem Hz:∀ (n:Nat) (b:List UInt8) (k:Nat) (acc R:List AJ) (m:Nat),k<=b.length->pins b n k acc=(R,m,0)->∃ L,R=acc ++ L/\L.length=n/\(∀ p ∈ L,AJ.AB p=true)/\m<=b.length/\k<=m/\(b.drop k).take (m - k)=L.flatMap AJ.enc
|0,b,k,acc,R,m,hk,h=>by
  simp only [pins,Prod.mk.injEq,and_true] at h
  obtain⟨rfl,rfl⟩:=h
  exact⟨[],by simp,rfl,by simp,hk,zN _,by simp⟩
|n+1,b,k,acc,R,m,hk,h=>by
  simp only [pins] at h
  split at h
  ·rename_i h0;exact absurd (Prod.mk.inj (Prod.mk.inj h).2).2 h0
  ·rename_i h0
   have d:(AJ.dec (b.drop k)).2.2=0:=by simpa using h0
   obtain⟨e,f,g⟩:=AJ.AY (b:=b.drop k) (p:=(AJ.dec (b.drop k)).1) (n:=(AJ.dec (b.drop k)).2.1) (by rw [<-d])
   rw [List.length_drop] at g
   obtain⟨L,g1,j,l,o,r,q⟩:=Hz n b _ _ R m (by omega) h
   refine⟨(AJ.dec (b.drop k)).1 :: L,by rw [g1];simp,by simp [j],fun p a=>?_,o,by omega,?_⟩
   ·rcases List.mem_cons.1 a with rfl|a
    ·exact e
    ·exact l p a
   ·rw [List.flatMap_cons,<-f,<-q]
    have i:m - k=(AJ.dec (b.drop k)).2.1+(m - (k+(AJ.dec (b.drop k)).2.1)):=by omega
    rw [i,List.take_add,List.drop_drop]
theorem AY {b:List UInt8} (h:dec b=((c,L),0)):AN.AK c L=true/\enc c L=b:=by
 unfold dec at h
 split at h
 ·rename_i h0;exact absurd (Prod.mk.inj h).2 h0
 rename_i h0
 split at h
 ·rename_i h1;exact absurd (Prod.mk.inj h).2 h1
 rename_i h1
 unfold FE at h
 split at h
 ·cases h
 rename_i h2
 split at h
 ·rename_i h3;exact absurd (Prod.mk.inj h).2 h3
 rename_i h3
 split at h
 ·cases h
 rename_i h4
 split at h
 ·cases h
 split at h
 ·cases h
 rename_i h6
 have g:(Wi.dec b).2.2=0:=by simpa using h0
 have i:(Wi.dec (b.drop (Wi.dec b).2.1)).2.2=0:=by simpa using h1
 have j:(pins b (Wi.dec (b.drop (Wi.dec b).2.1)).1 ((Wi.dec b).2.1+(Wi.dec (b.drop (Wi.dec b).2.1)).2.1) []).2.2=0:=by simpa using h3
 obtain⟨a1,a2,a3,a4,a5⟩:=Wi.AY (b:=b) (v:=(Wi.dec b).1) (n:=(Wi.dec b).2.1) (by rw [<-g])
 obtain⟨k,o,x,y,z⟩:=Wi.AY (b:=b.drop (Wi.dec b).2.1) (v:=(Wi.dec (b.drop (Wi.dec b).2.1)).1) (n:=(Wi.dec (b.drop (Wi.dec b).2.1)).2.1) (by rw [<-i])
 rw [List.length_drop] at o
 generalize Wi.dec b=t at *
 obtain⟨F,a,G⟩:=t
 dsimp only at *
 generalize Wi.dec (b.drop a)=u at *
 obtain⟨e,d,H⟩:=u
 dsimp only at *
 obtain⟨M,g1,q,A,B,C,r⟩:=Hz e b (a+d) [] (pins b e (a+d) []).1 (pins b e (a+d) []).2.1 (by omega) (by rw [<-j])
 rw [List.nil_append] at g1
 generalize pins b e (a+d) []=w at *
 obtain⟨R,m,z3⟩:=w
 dsimp only at *
 obtain⟨f,s⟩:=Prod.mk.inj (Prod.mk.inj h).1
 subst g1
 subst s
 refine⟨by rw [<-f];simpa using h6,?_⟩
 unfold enc
 rw [<-f,Int.toNat_natCast,<-a1,q,<-k,<-r]
 have p:m=b.length:=by omega
 rw [p,<-List.drop_drop,List.take_of_length_le (l:=(b.drop a).drop d) (by simp only [List.length_drop];omega),List.take_append_drop,List.take_append_drop]
theorem QO {p:AJ} (h:AJ.AB p=true):1<=(AJ.enc p).length/\(AJ.enc p).length<=262:=by
 obtain⟨a,b,d⟩:=(AJ.BY p).1 h
 have e:=AJ.CI a
 have f:=Wi.BN 1 p.h.length (by omega)
 have g:=Wi.BN 0 (if p.s then 1 else 0) (by split <;> omega)
 have i:=Wi.BN 5 p.x.toNat (by omega)
 unfold AJ.enc Wi.txt
 simp only [List.length_append]
 omega
theorem Hv:∀ (L:List AJ),(∀ p ∈ L,AJ.AB p=true)->L.length<=(L.flatMap AJ.enc).length/\(L.flatMap AJ.enc).length<=L.length * 262
|[],_=>by simp
|p :: L,h=>by
  have b:=QO (h p List.mem_cons_self)
  have d:=Hv L (fun q a=>h q (List.mem_cons_of_mem _ a))
  simp only [List.flatMap_cons,List.length_append,List.length_cons]
  omega
theorem bound (h:AN.AK c L=true):(enc c L).length<=8+L.length * 262/\2<=(enc c L).length:=by
 obtain⟨b,d,e,a,f⟩:=(AN.BF c L).1 h
 have g:=Wi.BN 5 c.toNat (by omega)
 have i:=Wi.BN 1 L.length (by omega)
 have j:=Hv L a
 unfold enc
 simp only [List.length_append]
 omega
end Sp
end
section
variable {L:List AJ} {u:BS} {c cap:Int}
theorem BA.TO (b:BA.FA L) (cap:Int) {p:AJ} (j:AJ.AB p=true) :
 BA.rput L p cap=if BA.hit L p.h=true then (AN.ins L p,0) else if cap<=(L.length:Int) then (L,11) else (AN.ins L p,0):=by
 unfold BA.rput AN.ins
 rw [if_neg (by rw [j];decide),BA.KM b]
 unfold BA.remove
 cases d:BA.hit L p.h with
|true =>
  rw [if_pos rfl,if_neg (by rintro⟨e,-⟩;cases e),if_pos rfl]
  simp only
  rw [BA.JZ b d]
  have f:=BA.OF b d
  rw [List.take_left' (by rw [List.length_take];omega),List.drop_left' (by rw [List.length_take];omega),List.set_eq_take_append_cons_drop,if_pos f]
  try rfl
|false =>
  have g:(if false=true then (L.take (BA.lo L p.h) ++ L.drop (BA.lo L p.h+1),true) else (L,false))=(L,false):=if_neg (by decide)
  rw [g]
  have i:∀ A B:List AJ × Int,(if false=true then A else B)=B:=fun A B=>if_neg (by decide)
  rw [i]
  by_cases a:cap<=L.length
  ·rw [if_pos ⟨rfl,a⟩,if_pos a]
  ·rw [if_neg (fun e=>a e.2),if_neg a,if_neg (by decide)]
namespace AN
theorem FZ (h:AK c L=false\/AB u=false):apply c L u cap=([],1):=by unfold apply;rw [if_pos h]
theorem GA (b:AK c L=true) (d:AB u=true) (a:u.k=2):apply c L u cap=((BA.remove L u.p.h).1,0):=by
 unfold apply upd;rw [if_neg (by rw [b,d];decide),if_pos a,if_pos a]
theorem LA (b:AK c L=true) (d:AB u=true) (e:u.k=1) (a:BA.hit L u.p.h=true):apply c L u cap=(L.set (BA.lo L u.p.h) u.p,0):=by
 unfold apply upd ins;rw [if_neg (by rw [b,d];decide),if_neg (by omega),if_pos a,if_neg (by omega),if_pos a]
theorem JQ (a:AK c L=true) (b:AB u=true) (f:u.k=1) (e:BA.hit L u.p.h=false) (d:min cap 1000<=(L.length:Int)):apply c L u cap=([],11):=by
 unfold apply;rw [if_neg (by rw [a,b];decide),if_neg (by omega),if_neg (by rw [e];decide),if_pos d]
theorem LC (b:AK c L=true) (d:AB u=true) (f:u.k=1) (a:BA.hit L u.p.h=false) (e:¬ min cap 1000<=(L.length:Int)) :
 apply c L u cap=(L.take (BA.lo L u.p.h) ++ u.p :: L.drop (BA.lo L u.p.h),0):=by
 unfold apply upd ins;rw [if_neg (by rw [b,d];decide),if_neg (by omega),if_neg (by rw [a];decide),if_neg e,if_neg (by omega),if_neg (by rw [a];decide)]
theorem MP (h:AB u=true):u.k=1\/u.k=2:=by
 rcases AW h with⟨a,-⟩|⟨a,-,-⟩
 ·exact .inl a
 ·exact .inr a
theorem NV (h:AB u=true):u.p.h.length<=253:=by
 rcases AW h with⟨-,a⟩|⟨-,a,-⟩
 ·exact AJ.CI ((AJ.BY _).1 a).1
 ·exact AJ.CI a
theorem LH (h:AK c L=true):∀ p ∈ L,p.h.length<=253:=fun p a =>
 AJ.CI ((AJ.BY _).1 (((BF c L).1 h).2.2.2.1 p a)).1
def ack (c z:Int):Int:=if z=0 then c else 0
theorem QZ (c:Int) (L:List AJ) (u:BS) (cap:Int) (h:(apply c L u cap).2 ≠ 0):(apply c L u cap).1=[]:=by
 revert h;unfold apply
 split
 ·exact fun _=>rfl
 ·split
  ·exact fun h=>absurd rfl h
  ·split
   ·exact fun h=>absurd rfl h
   ·split
    ·exact fun _=>rfl
    ·exact fun h=>absurd rfl h
theorem RY (h:(apply c L u cap).2=0):AK c L=true/\AB u=true/\(apply c L u cap).1=upd L u:=by
 revert h;unfold apply
 split
 ·exact fun h=>absurd h (by decide)
 ·rename_i h0
  have a:AK c L=true:=by cases e:AK c L with|true=>rfl|false=>exact absurd (.inl e) h0
  have b:AB u=true:=by cases e:AB u with|true=>rfl|false=>exact absurd (.inr e) h0
  split
  ·exact fun _=>⟨a,b,rfl⟩
  ·split
   ·exact fun _=>⟨a,b,rfl⟩
   ·split
    ·exact fun h=>absurd h (by decide)
    ·exact fun _=>⟨a,b,rfl⟩
theorem RP (b:AK c L=true) (a:AB u=true) (d:(upd L u).length<=1000):AK c (upd L u)=true:=by
 obtain⟨a1,a2,a3,a4,a5⟩:=(BF c L).1 b
 exact (BF c _).2 ⟨a1,a2,d,Fq a5 a a4,Mb a5 a⟩
end AN
end
section
namespace Sp
theorem Cz {L:List AJ} {k:Nat} (a:k < L.length):(L.take (k+1)).flatMap AJ.enc=(L.take k).flatMap AJ.enc ++ AJ.enc L[k]:=by
 rw [List.take_succ_eq_append_getElem a,List.flatMap_append];simp
end Sp
end
section
open Go.RowKit
variable {AG:Array Bool} {fuel i:Nat} {a:Act} {w:World} {oi:Oper} {v:Value}
section
variable {P:Program} {ops:Array Oper} {Q:Exit->Act->World->Prop} {md:Region.Mode} {S:World->Prop} {t:Nat}
def EM (P:Program) (md:Region.Mode) (ops:Array Oper) (Q:Exit->Act->World->Prop) (S:World->Prop) (t:Nat):Nat->Array Bool->Act->World->Prop
|0,AG,a,w=>Region.ready md ops AG=[]/\Q .normal a w
|fuel+1,AG,a,w =>
  (Region.ready md ops AG=[]->Q .normal a w) ∧
  ∀ i ∈ Region.ready md ops AG,wpOp P ops Q i (fun c b=>(i ≠ t->S b)/\EM P md ops Q S t fuel (AG.setIfInBounds i true) c b) a w
theorem Hn:∀ (fuel:Nat) (AG:Array Bool) (a:Act) (w:World),EM P md ops Q S t fuel AG a w->wpAny P md ops Q fuel AG a w
|0,_,_,_,h=>h
|fuel+1,_,_,_,h=>⟨h.1,fun i d=>wpOp_mono (fun b e c=>Hn fuel _ b e c.2) (h.2 i d)⟩
def KI (md:Region.Mode) (ops:Array Oper) (t i:Nat):Bool:=Region.waitsFor md ops t i || (List.range ops.size).any fun m=>Region.waitsFor md ops t m && Region.waitsFor md ops m i
def ED (md:Region.Mode) (ops:Array Oper) (AG:Array Bool):Prop:=∀ j b,ops[j]?=some b->AG.getD j false=true->∀ e ∈ b.after,Region.binds md e=true->AG.getD e.on false=true
def JD (md:Region.Mode) (ops:Array Oper) (AG:Array Bool):Bool:=(List.range ops.size).all fun j=>!AG.getD j false || match ops[j]? with|some oj=>oj.after.all (fun e=>!Region.binds md e || AG.getD e.on false)|none=>true
theorem Xq (h:JD md ops AG=true):ED md ops AG:=by
 intro j l d k e g f
 have b:=List.all_eq_true.1 h j (List.mem_range.2 (Array.getElem?_eq_some_iff.1 d).1)
 rw [k,d] at b
 simp only [Bool.not_true,Bool.false_or] at b
 have c:=Array.all_eq_true_iff_forall_mem.1 b e g
 rw [f] at c
 simpa using c
theorem ED.set (h:ED md ops AG) (n:i ∈ Region.ready md ops AG):ED md ops (AG.setIfInBounds i true):=by
 obtain⟨_,oi,m,l⟩:=mem_ready.1 n
 intro j k f g e d c
 by_cases b:i=j
 ·subst b
  have:k=oi:=Option.some.inj (f.symm.trans m)
  subst this
  exact getD_set_true (l e d c)
 ·rw [getD_set_ne false b] at g
  exact getD_set_true (h j k f g e d c)
theorem Hd {j:Nat} (h:ED md ops AG) (r:KI md ops t i=true) (hr:j ∈ Region.ready md ops AG) (G:AG.getD i true=false):j ≠ t:=by
 rintro rfl
 obtain⟨_,s,o,l⟩:=mem_ready.1 hr
 have n:=getD_both G
 unfold KI at r
 rcases Bool.or_eq_true_iff.1 r with d|d
 ·obtain⟨k,c,e,g,f,b⟩:=Region.waitsFor_spec d
  have:s=k:=Option.some.inj (o.symm.trans c)
  subst this
  have:=l e g f
  rw [b,n] at this;cases this
 ·obtain⟨m,_,B⟩:=List.any_eq_true.1 d
  obtain⟨C,F⟩:=Bool.and_eq_true_iff.1 B
  obtain⟨k,c,e,g,f,b⟩:=Region.waitsFor_spec C
  have:s=k:=Option.some.inj (o.symm.trans c)
  subst this
  have p:=l e g f
  rw [b] at p
  obtain⟨H,z,A,y,x,u⟩:=Region.waitsFor_spec F
  have q:=h m H z p A y x
  rw [u,n] at q;cases q
theorem Oj (u:ops[i]?=some oi) (z:∀ (j:Nat) (o:Oper) m b,ops[j]?=some o->o.op ≠ .select m b)
 (T:∀ c a w,Q (.panic c) (a.put oi.dst v) w->Q (.panic c) a w) (Y:KI md ops t i=true) :
 ∀ (fuel:Nat) (AG:Array Bool) (a:Act) (w:World),ED md ops AG →
  (∀ j g,ops[j]?=some g->j ≠ i->AG.getD j true=false->(∀ e ∈ g.after,Region.binds md e=true->e.on ≠ i)->oi.apart ops g=true) →
  i ∈ Region.ready md ops AG->YieldsIf P ops S oi v a->S w →
  EM P md ops Q S t fuel (AG.setIfInBounds i true) (a.put oi.dst v) w->EM P md ops Q S t (fuel+1) AG a w:=by
 intro fuel
 induction fuel with
|zero =>
  intro AG a w _ _ hr q n H
  refine⟨fun h=>(by rw [h] at hr;cases hr),fun j l=>?_⟩
  by_cases d:j=i
  ·subst d;exact q.wpOp u n ⟨fun _=>n,H⟩
  ·have:=ready_mono l d
   rw [H.1] at this
   cases this
|succ fuel ih =>
  intro AG a w A x hr q n H
  refine⟨fun h=>(by rw [h] at hr;cases hr),fun j l=>?_⟩
  by_cases d:j=i
  ·subst d;exact q.wpOp u n ⟨fun _=>n,H⟩
  ·have f:=H.2 j (ready_mono l d)
   obtain⟨y,g,r,G⟩:=mem_ready.1 l
   have I:∀ e ∈ g.after,Region.binds md e=true->e.on ≠ i:=fun e W U J=>by
    have f:=G e W U
    have h0:=(mem_ready.1 hr).1
    rw [J] at f
    rcases Nat.lt_or_ge i AG.size with s|s
    ·simp [s] at h0 f;rw [h0] at f;cases f
    ·simp [Array.getElem?_eq_none s] at f
   have K:j ≠ t:=Hd A Y l (mem_ready.1 hr).1
   have R:=wpOp_putIf r (x j g r d y I) (fun m b=>z i oi m b u) (fun m b=>z j g m b r) T q f
   have F:∀ k ok,ops[k]?=some ok->k ≠ i->(AG.setIfInBounds j true).getD k true=false →
    (∀ e ∈ ok.after,Region.binds md e=true->e.on ≠ i)->oi.apart ops ok=true:=fun k ok X M C N=>by
    refine x k ok X M ?_ N
    by_cases B:j=k
    ·subst B;exact y
    ·rw [getD_set_ne true B] at C;exact C
   refine wpOp_mono (fun O Z p=>⟨p.2.1,ih (AG.setIfInBounds j true) O Z (A.set l) F (ready_mono hr (Ne.symm d)) p.1 (p.2.1 K) ?_⟩) R
   rw [Array.setIfInBounds_comm _ _ d]
   exact p.2.2
theorem Kf {L:List Nat} (b:ops[i]?=some oi)
 (hs:Region.noSelect ops=true) (g:Region.free md ops AG i=true) (hr:(Region.ready md ops AG).contains i=true) (j:KI md ops t i=true) (f:JD md ops AG=true)
 (d:∀ c a w,Q (.panic c) (a.put oi.dst v) w->Q (.panic c) a w) (k:YieldsIf P ops S oi v a) (e:S w)
 (h:Tk L (EM P md ops Q S t fuel (AG.setIfInBounds i true) (a.put oi.dst v) w)):Tk (i::L) (EM P md ops Q S t (fuel+1) AG a w) :=
 ⟨Oj b (Region.noSelect_spec hs) d j fuel AG a w (Xq f) (Region.free_spec b g) (by simpa using hr) k e h.1⟩
theorem Yf {o:Oper} (g:ops[i]?=some o) (hr:Region.ready md ops AG=[i])
 (h:∀ b:Act->World->Prop,Hid (∀ a w,(i ≠ t->S w)->EM P md ops Q S t fuel (AG.setIfInBounds i true) a w->b a w)->if Region.wanted o (yielded ops a.tmps)=true then Oper.wp P o a w b Q else b (a.put o.dst undef) w) :
 EM P md ops Q S t (fuel+1) AG a w:=by
 refine⟨(fun h0=>by rw [hr] at h0;cases h0),fun j c=>?_⟩
 rw [hr] at c
 obtain rfl:j=i:=by simpa using c
 exact wpOp_step g (fun b d=>h b (zH (fun a w e f=>d a w ⟨e,f⟩)))
theorem Gz (hr:Region.ready md ops AG=[]) (h:Q .normal a w) :
 ∀ fuel,EM P md ops Q S t fuel AG a w
|0=>⟨hr,h⟩
|_+1=>⟨fun _=>h,by rw [hr];simp⟩
theorem Na {id:Nat} (b:P.follows .mixedOrders=true) (t:Nat) (S:World->Prop)
 (h:EM P .any ops Q S t ops.size (Array.replicate ops.size false) a w.drew):(Code.region id ops true).wp P Q a w :=
 wp_region_any b (Hn _ _ _ _ h)
end
theorem AM.void (w:World) (b o:Nat):AM w (b o) 0 0 []:=⟨rfl,zN _,by unfold maxLen;omega,fun _=>⟨rfl,rfl⟩,fun x d i c=>by simp at c⟩
end
section
open Go.RowKit
variable {a:Act} {w:World} {fuel i:Nat} {AG:Array Bool} {oi:Oper} {v:Value}
section
variable {P:Program} {ops:Array Oper} {Q:Exit->Act->World->Prop} {md:Region.Mode} {H S:World->Prop} {D:List Nat}
def DQ (P:Program) (md:Region.Mode) (ops:Array Oper) (Q:Exit->Act->World->Prop) (H S:World->Prop) (D:List Nat):Nat->Array Bool->Act->World->Prop
|0,AG,a,w=>Region.ready md ops AG=[]/\Q .normal a w
|fuel+1,AG,a,w =>
  (Region.ready md ops AG=[]->Q .normal a w) ∧
  ∀ i ∈ Region.ready md ops AG,wpOp P ops Q i (fun c b=>H b/\(S w->i ∉ D->S b)/\DQ P md ops Q H S D fuel (AG.setIfInBounds i true) c b) a w
theorem Hm:∀ (fuel:Nat) (AG:Array Bool) (a:Act) (w:World),DQ P md ops Q H S D fuel AG a w->wpAny P md ops Q fuel AG a w
|0,_,_,_,h=>h
|fuel+1,_,_,_,h=>⟨h.1,fun i d=>wpOp_mono (fun b e c=>Hm fuel _ b e c.2.2) (h.2 i d)⟩
theorem Zx {T:World->Prop} (u:ops[i]?=some oi) (z:∀ (j:Nat) (o:Oper) n b,ops[j]?=some o->o.op ≠ .select n b)
 (U:∀ c a w,Q (.panic c) (a.put oi.dst v) w->Q (.panic c) a w)
 (W:∀ (AG:Array Bool) (j:Nat) (w w':World),ED md ops AG->j ∈ Region.ready md ops AG->AG.getD i true=false->T w->H w'->(S w->j ∉ D->S w')->T w') :
 ∀ (fuel:Nat) (AG:Array Bool) (a:Act) (w:World),ED md ops AG →
  (∀ j l,ops[j]?=some l->j ≠ i->AG.getD j true=false->(∀ e ∈ l.after,Region.binds md e=true->e.on ≠ i)->oi.apart ops l=true) →
  i ∈ Region.ready md ops AG->YieldsIf P ops T oi v a->T w->H w →
  DQ P md ops Q H S D fuel (AG.setIfInBounds i true) (a.put oi.dst v) w->DQ P md ops Q H S D (fuel+1) AG a w:=by
 intro fuel
 induction fuel with
|zero =>
  intro AG a w _ _ hr q p t X
  refine⟨fun h=>(by rw [h] at hr;cases hr),fun j m=>?_⟩
  by_cases d:j=i
  ·subst d;exact q.wpOp u p ⟨t,fun h _=>h,X⟩
  ·have:=ready_mono m d
   rw [X.1] at this
   cases this
|succ fuel ih =>
  intro AG a w A x hr q p t X
  refine⟨fun h=>(by rw [h] at hr;cases hr),fun j m=>?_⟩
  by_cases d:j=i
  ·subst d;exact q.wpOp u p ⟨t,fun h _=>h,X⟩
  ·have f:=X.2 j (ready_mono m d)
   obtain⟨y,l,r,G⟩:=mem_ready.1 m
   have I:∀ e ∈ l.after,Region.binds md e=true->e.on ≠ i:=fun e Z Y J=>by
    have f:=G e Z Y
    have h0:=(mem_ready.1 hr).1
    rw [J] at f
    rcases Nat.lt_or_ge i AG.size with s|s
    ·simp [s] at h0 f;rw [h0] at f;cases f
    ·simp [Array.getElem?_eq_none s] at f
   have K:=(mem_ready.1 hr).1
   have R:=wpOp_putIf r (x j l r d y I) (fun n b=>z i oi n b u) (fun n b=>z j l n b r) U q f
   have F:∀ k ok,ops[k]?=some ok->k ≠ i->(AG.setIfInBounds j true).getD k true=false →
    (∀ e ∈ ok.after,Region.binds md e=true->e.on ≠ i)->oi.apart ops ok=true:=fun k ok hk M C N=>by
    refine x k ok hk M ?_ N
    by_cases B:j=k
    ·subst B;exact y
    ·rw [getD_set_ne true B] at C;exact C
   refine wpOp_mono (fun O w' g=>⟨g.2.1,g.2.2.1,ih (AG.setIfInBounds j true) O w' (A.set m) F (ready_mono hr (Ne.symm d)) g.1 (W AG j w w' A m K p g.2.1 g.2.2.1) g.2.1 ?_⟩) R
   rw [Array.setIfInBounds_comm _ _ d]
   exact g.2.2.2
theorem Qy {L:List Nat} (d:ops[i]?=some oi)
 (hs:Region.noSelect ops=true) (g:Region.free md ops AG i=true) (hr:(Region.ready md ops AG).contains i=true) (f:JD md ops AG=true)
 (e:∀ c a w,Q (.panic c) (a.put oi.dst v) w->Q (.panic c) a w) (j:YieldsIf P ops H oi v a) (b:H w)
 (h:Tk L (DQ P md ops Q H S D fuel (AG.setIfInBounds i true) (a.put oi.dst v) w)):Tk (i::L) (DQ P md ops Q H S D (fuel+1) AG a w) :=
 ⟨Zx d (Region.noSelect_spec hs) e (T:=H) (fun _ _ _ _ _ _ _ _ h _=>h) fuel AG a w (Xq f) (Region.free_spec d g) (by simpa using hr) j b b h.1⟩
theorem Zy {L:List Nat} (b:ops[i]?=some oi)
 (hs:Region.noSelect ops=true) (r:Region.free md ops AG i=true) (hr:(Region.ready md ops AG).contains i=true) (m:D.all (fun t=>KI md ops t i)=true) (q:JD md ops AG=true)
 (o:∀ c a w,Q (.panic c) (a.put oi.dst v) w->Q (.panic c) a w) (u:YieldsIf P ops S oi v a) (n:H w) (p:S w)
 (h:Tk L (DQ P md ops Q H S D fuel (AG.setIfInBounds i true) (a.put oi.dst v) w)):Tk (i::L) (DQ P md ops Q H S D (fuel+1) AG a w) :=
 ⟨Zx b (Region.noSelect_spec hs) o (T:=S) (fun l j w x e s f d _ k=>k d fun g=>Hd e (List.all_eq_true.1 m j g) s f rfl) fuel AG a w (Xq q) (Region.free_spec b r) (by simpa using hr) u p n h.1⟩
theorem Jn {o:Oper} (k:ops[i]?=some o) (hr:Region.ready md ops AG=[i]) (d:i ∈ D)
 (h:∀ b:Act->World->Prop,Hid (∀ a w,H w->DQ P md ops Q H S D fuel (AG.setIfInBounds i true) a w->b a w)->if Region.wanted o (yielded ops a.tmps)=true then Oper.wp P o a w b Q else b (a.put o.dst undef) w) :
 DQ P md ops Q H S D (fuel+1) AG a w:=by
 refine⟨(fun h0=>by rw [hr] at h0;cases h0),fun j c=>?_⟩
 rw [hr] at c
 obtain rfl:j=i:=by simpa using c
 exact wpOp_step k (fun b f=>h b (zH (fun a w e g=>f a w ⟨e,fun _ h=>absurd d h,g⟩)))
theorem Ke (hr:Region.ready md ops AG=[]) (h:Q .normal a w) :
 ∀ fuel,DQ P md ops Q H S D fuel AG a w
|0=>⟨hr,h⟩
|_+1=>⟨fun _=>h,by rw [hr];simp⟩
theorem Kh {id:Nat} (b:P.follows .mixedOrders=true) (D:List Nat) (H S:World->Prop)
 (h:DQ P .any ops Q H S D ops.size (Array.replicate ops.size false) a w.drew):(Code.region id ops true).wp P Q a w :=
 wp_region_any b (Hm _ _ _ _ h)
end
end
section
open Go.RowKit
variable {w:World}
theorem Vu (t:TypeId) (base:Nat) (v:Value) (a:List (List UInt8)) (z:BR base w v a) (u:Value) (l:List UInt8) (hu:AC base w u l) (k:Nat) (M:w.cell? k=some u) (O:a.length<=1000000000) (x:base<=w.heap.size) :
 ∃ e b,(Builtin.append_ #[112,112] t #[v,.slice k 1 1]).run prog w=.ok e b/\BR base b e (a ++ [l])/\w.grownBy b v.ownBlock:=by
 obtain⟨N,g,C,F,G⟩:=info_parts PE
 obtain⟨h,f,H⟩:=z
 have B:h.length=a.length:=by rw [f.1];simp
 obtain⟨e,b,A,I,r,_⟩:=run_append_own (P:=prog) w base 112 t 70 N (.slice none 0 0) 1 24 underlying112 g C F G rfl (by decide) v a.length h f k 1 1 [u] rfl (fun j q s=>by
  obtain⟨rfl,rfl⟩:j=0/\q=u:=by
   cases j with
  |zero=>exact⟨rfl,by simpa using s.symm⟩
  |succ j=>simp at s
  have y:(k:Addr).add 0=k:=by unfold Addr.add;split <;> simp_all
  rw [y];exact M) (fun q c=>by
  simp at c;subst c
  obtain⟨p,d,rfl,-⟩:=hu.sl
  rfl) (by unfold maxLen;omega) (by omega) x
 refine⟨e,b,A,⟨h ++ [u],by simpa using I,fun i g=>?_⟩,r⟩
 have n:∀ q m,AC base w q m->AC base b q m:=fun q m c=>c.TA f r
 by_cases o:i < a.length
 ·obtain⟨q,J,K⟩:=H i o
  refine⟨q,?_,?_⟩
  ·rw [List.getElem?_append_left (by omega)];exact J
  ·rw [List.getElem?_append_left o];exact n _ _ K
 ·obtain rfl:i=a.length:=by simp at g;omega
  refine⟨u,?_,?_⟩
  ·rw [List.getElem?_append_right (by omega),B];simp
  ·rw [List.getElem?_append_right (by omega)];simpa using n _ _ hu
theorem Pb {e:Array Oper} {o:Oper} {a:Act} {K:Act->World->Prop} {Q:Exit->Act->World->Prop} {E:Prop} (hgd:o.guard=none) (s x:Operand)
 (ho:o.op=.call { callee:=.builtin .append,args:=#[s,x],argTypes:=#[112,112] })
 (base:Nat) (v:Value) (c:List (List UInt8)) (hs:a.eval s=v) (i:BR base w v c) (u:Value) (l:List UInt8) (hu:AC base w u l) (k:Nat) (r:a.eval x=.slice k 1 1) (p:w.cell? k=some u)
 (g:c.length<=1000000000) (f:base<=w.heap.size)
 (h:∀ d b,BR base b d (c ++ [l])->w.grownBy b v.ownBlock->K (a.put o.dst d) b) :
 if Region.wanted o (yielded e a.tmps)=true then Oper.wp prog o a w K Q else E:=by
 have q:Region.wanted o (yielded e a.tmps)=true:=by simp [Region.wanted,hgd]
 rw [if_pos q]
 obtain⟨d,b,j,m,n⟩:=Vu o.type base v c i u l hu k p g f
 unfold Oper.wp
 simp [execOp,ho,resolve,invoke,builtin,hs,r,j,Result.andThen]
 exact h d b m n
end
end Go.Proofs.YtmanejniepghlaaGreatDoor
