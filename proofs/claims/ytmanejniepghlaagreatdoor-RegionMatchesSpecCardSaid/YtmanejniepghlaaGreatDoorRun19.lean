import Derived.Test.YtmanejniepghlaaGreatDoorRun17
import Derived.ProofKit
import Derived.OpenShut
import Derived.ShutString
import Derived.ChangeOld
import Derived.Deep.Slices
import Derived.Test.YtmanejniepghlaaGreatDoorRun2
set_option maxRecDepth 100000
namespace Go.Proofs.YtmanejniepghlaaGreatDoor
open _root_.Go.Proofs.Tryz
section
open Go.RowKit
variable {e:TypeId} {C n:Nat} {a:Addr} {cs:List Value}
instance:Inhabited AJ:=⟨AJ.none⟩
section
open Go.ChangeShapes Go.WideShapes Go.ChangeAt
variable {H:Type} {enc:TypeId × Value->H} {P:Program} {w:World} {base:Nat} {spare:Nat->Bool} {held:Bool}
theorem Jk {fs:Array Field} {x:DataW H × List MemPlace} (p:P.underlying e=some (.struct fs)) (l:w.cells? base a C=some cs) (h:DataW.trod enc P w base spare held n e cs=some x)
 (j:Nat) (f:Field) (d:fs[j]?=some f) (o:Nat) (ho:f.offset=o) (i:o < C) (r:P.cellsOf f.type=1):∃ (v:Value) (m:Nat) (y:DataW H × List MemPlace),w.cell? (a.add o)=some v/\DataW.trod enc P w base spare held m f.type [v]=some y:=by
 obtain⟨_,s,g⟩:=World.cells?_some l
 obtain⟨z,m,_,_,_,t,q⟩:=DataW.trod_struct p h
 have u:j < fs.size:=(Array.getElem?_eq_some_iff.1 d).1
 have b:=q j f d
 rw [ho,r,List.getElem?_eq_getElem (by omega)] at b
 have c:o < cs.length:=by omega
 have k:(cs.drop o).take 1=[cs[o]]:=by rw [List.drop_eq_getElem_cons c];rfl
 rw [k] at b
 exact⟨cs[o],m,_,by rw [g o i,List.getElem?_eq_getElem c],b⟩
theorem Vl {fs:Array Field} {x:DataW H × List MemPlace} (i:P.underlying e=some (.struct fs)) (g:w.cells? base a C=some cs) (h:DataW.trod enc P w base spare held n e cs=some x)
 (j:Nat) (f:Field) (l:fs[j]?=some f) (o:Nat) (ho:f.offset=o) (b:o < C) (k:IntKind) (hu:P.underlying f.type=some (.int k)) (p:P.cellsOf f.type=1):∃ z:Int,w.cell? (a.add o)=some (.int k z)/\(Lit.int k z).wf=true:=by
 obtain⟨v,m,y,r,q⟩:=Jk i g h j f l o ho b p
 obtain⟨z,c,_,d⟩:=DataW.trod_int hu q
 exact⟨z,by rw [r,List.singleton_inj.1 c],d⟩
end
section
open Go.ChangeShapes Go.WideShapes Go.ChangeAt
variable {H:Type} {enc:TypeId × Value->H} {w:World} {base:Nat} {held:Bool}
theorem Bo {K:Nat} {v:Value} {x:DataW H × List MemPlace} (h:DataW.trod enc prog w base (fun _=>true) held K 42 [v]=some x):∃ a n c l,v=.slice a n c/\AT w a n c l:=by
 rcases Go.Deep.open_slice underlying42 h with⟨s,_⟩|⟨a,len,cap,m,n,D,Pl,s,hb,X,Y,R,hx,B⟩
 ·exact⟨none,0,0,[],List.singleton_inj.1 s,AT.nil w⟩
 ·have za:len<=m:=by rw [R];split <;> omega
  have A:prog.cellsOf 34=3:=by kernel_rfl
  have r:=underlying34
  have Q:∀ i,i < len->∃ q:AJ,∀ b o,a=(b o)->GF w b (o+i * 3) q:=by
   intro i g
   obtain⟨N,d,f⟩:=B i (by omega)
   rw [A] at d
   obtain⟨v0,m0,y0,k,t0⟩:=Jk r d f 0 _ rfl 0 rfl (by omega) (by kernel_rfl)
   obtain⟨v1,m1,y1,u,t1⟩:=Jk r d f 1 _ rfl 1 rfl (by omega) (by kernel_rfl)
   obtain⟨z2,z,w2⟩:=Vl r d f 2 _ rfl 2 rfl (by omega) .i64 underlying3 (by kernel_rfl)
   obtain⟨G,T,-,-⟩:=DataW.trod_string underlying9 t0
   obtain⟨I,U,-⟩:=DataW.trod_bool underlying4 t1
   obtain rfl:v0=.string G:=List.singleton_inj.1 T
   obtain rfl:v1=.bool I:=List.singleton_inj.1 U
   refine⟨⟨G.data.toList,I,z2⟩,fun b o O=>?_⟩
   subst O
   have M:∀ (p:Nat) j,((b p):Addr).add j=(b (p+j)):=by intro p j;unfold Addr.add;split <;> simp_all
   simp only [M] at k u z
   exact⟨by simpa [str] using k,u,z⟩
  obtain⟨p,Z⟩:=Go.Deep.choose_lt (α:=AJ) (p:=fun i q=>∀ b o,a=(b o)->GF w b (o+i * 3) q) Q
  have J:0 < len->a.spot=none:=by
   intro g
   obtain⟨N,d,f⟩:=B 0 (by omega)
   rw [A] at d
   obtain⟨v0,m0,y0,k,t0⟩:=Jk r d f 0 _ rfl 0 rfl (by omega) (by kernel_rfl)
   have W:=World.cell?_spot k
   revert W
   obtain⟨b,o,sp⟩:=a
   unfold Addr.add;split <;> simp_all
  refine⟨some a,len,cap,(List.range len).map p,List.singleton_inj.1 s,by simp,X,Y,(fun h=>by cases h),fun y hy i g=>?_⟩
  cases hy
  simp at g
  have t:=J (by omega)
  obtain⟨b,o,sp⟩:=a
  simp only at t;subst t
  have F:=Z i g b o rfl
  refine⟨rfl,World.block_lt_of_cell? w (b (o+i * 3)) F.1,?_⟩
  simpa using F
end
end
section
open Go.RowKit
variable {e:TypeId} {n:Nat} {qs:List Value}
section
open Go.ChangeShapes Go.WideShapes Go.ChangeAt
variable {H:Type} {enc:TypeId × Value->H} {P:Program} {w:World} {base:Nat} {spare:Nat->Bool} {held:Bool}
theorem Ud {fs:Array Field} {a:Addr} {C:Nat} {b:List Value} {x:DataW H × List MemPlace} (q:P.underlying e=some (.struct fs)) (p:w.cells? base a C=some b) (h:DataW.trod enc P w base spare held n e b=some x)
 (j:Nat) (f:Field) (g:fs[j]?=some f) (o K:Nat) (ho:f.offset=o) (s:P.cellsOf f.type=K) (u:o+K<=C) :
 ∃ (qs:List Value) (m:Nat) (y:DataW H × List MemPlace),qs.length=K/\(∀ k v,qs[k]?=some v->w.cell? (a.add (o+k))=some v)/\DataW.trod enc P w base spare held m f.type qs=some y:=by
 obtain⟨_,t,i⟩:=World.cells?_some p
 obtain⟨B,m,_,_,_,z,r⟩:=DataW.trod_struct q h
 have A:j < fs.size:=(Array.getElem?_eq_some_iff.1 g).1
 have d:=r j f g
 rw [ho,s,List.getElem?_eq_getElem (by omega)] at d
 refine⟨(b.drop o).take K,m,_,by rw [List.length_take,List.length_drop];omega,fun k v c=>?_,d⟩
 have l:k < K:=by have:=(List.getElem?_eq_some_iff.1 c).1;rw [List.length_take] at this;omega
 rw [List.getElem?_take_of_lt l,List.getElem?_drop] at c
 rw [i (o+k) (by omega),c]
theorem Jy {fs:Array Field} {x:DataW H × List MemPlace} (g:P.underlying e=some (.struct fs)) (h:DataW.trod enc P w base spare held n e qs=some x)
 (j:Nat) (f:Field) (c:fs[j]?=some f) (o:Nat) (ho:f.offset=o) (b:o < qs.length) (k:P.cellsOf f.type=1):∃ (v:Value) (m:Nat) (y:DataW H × List MemPlace),qs[o]?=some v/\DataW.trod enc P w base spare held m f.type [v]=some y:=by
 obtain⟨q,m,_,_,_,l,i⟩:=DataW.trod_struct g h
 have p:j < fs.size:=(Array.getElem?_eq_some_iff.1 c).1
 have a:=i j f c
 rw [ho,k,List.getElem?_eq_getElem (by omega)] at a
 have d:(qs.drop o).take 1=[qs[o]]:=by rw [List.drop_eq_getElem_cons b];rfl
 rw [d] at a
 exact⟨qs[o],m,_,List.getElem?_eq_getElem b,a⟩
end
section
open Go.ChangeShapes Go.WideShapes Go.ChangeAt
variable {H:Type} {enc:TypeId × Value->H} {w:World} {base:Nat} {held:Bool}
theorem Km {f:Nat} {x:DataW H × List MemPlace} (u:qs.length=3) (h:DataW.trod enc prog w base (fun _=>true) held f 34 qs=some x):∃ q:AJ,qs[0]?=some (.string (str q.h))/\qs[1]?=some (.bool q.s)/\qs[2]?=some (q.x:Value):=by
 have a:=underlying34
 obtain⟨v0,y,B,g,t0⟩:=Jy a h 0 _ rfl 0 rfl (by omega) (by kernel_rfl)
 obtain⟨r,z,C,i,o⟩:=Jy a h 1 _ rfl 1 rfl (by omega) (by kernel_rfl)
 obtain⟨t,A,F,j,p⟩:=Jy a h 2 _ rfl 2 rfl (by omega) (by kernel_rfl)
 obtain⟨b,k,-,-⟩:=DataW.trod_string underlying9 t0
 obtain⟨c,l,-⟩:=DataW.trod_bool underlying4 o
 obtain⟨d,m,-,-⟩:=DataW.trod_int underlying3 p
 obtain rfl:v0=.string b:=List.singleton_inj.1 k
 obtain rfl:r=.bool c:=List.singleton_inj.1 l
 obtain rfl:t=.int .i64 d:=List.singleton_inj.1 m
 exact⟨⟨b.data.toList,c,d⟩,by simpa [str] using g,i,j⟩
end
end
section
open Go.RowKit
variable {w w':World} {c fuel n:Nat} {a:Option Addr} {qs:List Value}
structure PU where
 kind:Int
 up:BS
 ck:Int
 pins:List AJ
 fs:List (Int × Int)
 ks:List (Int × Int)
instance:Inhabited PU:=⟨⟨0,AN.none,0,[],[],[]⟩⟩
def JL (w:World) (b o:Nat) (x:PU):Prop :=
 w.cell? (b o)=some (x.kind:Value)/\w.cell? (b (o+1))=some (x.up.k:Value)/\GF w b (o+2) x.up.p/\w.cell? (b (o+5))=some (x.ck:Value) ∧
  (∃ p m d,w.cell? (b (o+6))=some (.slice p m d)/\AT w p m d x.pins)/\(∃ p m d,w.cell? (b (o+7))=some (.slice p m d)/\CZ w p m d x.fs)/\(∃ p m d,w.cell? (b (o+8))=some (.slice p m d)/\CZ w p m d x.ks)
theorem JL.ext {b o:Nat} {x:PU} (h:JL w b o x) (f:b < w.heap.size) (e:Below w.heap.size w w'):JL w' b o x:=by
 obtain⟨k,l,q,r,⟨p,m,d,s,t⟩,⟨C,A,i,u,y⟩,⟨F,B,j,z,g⟩⟩:=h
 exact⟨(e.cell (p:=(b o)) f).trans k,(e.cell (p:=(b (o+1))) f).trans l,q.AI (e.block b f),(e.cell (p:=(b (o+5))) f).trans r,⟨p,m,d,(e.cell (p:=(b (o+6))) f).trans s,t.ext e⟩,
  ⟨C,A,i,(e.cell (p:=(b (o+7))) f).trans u,y.ext e⟩,⟨F,B,j,(e.cell (p:=(b (o+8))) f).trans z,g.ext e⟩⟩
def EP (w:World) (a:Option Addr) (n c:Nat) (l:List PU):Prop :=
 l.length=n/\n<=c/\c<=maxLen/\(a=none->l=[]/\c=0) ∧
  ∀ x,a=some x->∀ i (h:i < l.length),x.spot=none/\x.block < w.heap.size/\JL w x.block (x.off+i * 9) l[i]
theorem EP.len {l:List PU} (h:EP w a n c l):l.length=n:=h.1
theorem EP.le {l:List PU} (h:EP w a n c l):n<=9223372036854775807:=by
 have:=h.2.1;have:=h.2.2.1;unfold maxLen at *;omega
theorem EP.nil (w:World):EP w none 0 0 []:=⟨rfl,zN _,by unfold maxLen;omega,fun _=>⟨rfl,rfl⟩,fun x b=>by cases b⟩
theorem EP.at {l:List PU} (h:EP w a n c l) {k:Nat} (m:k < n):∃ b o x,a=some ((b:Nat) o)/\b < w.heap.size/\l[k]?=some x/\JL w b (o+k * 9) x:=by
 obtain⟨g,hn,j,h0,e⟩:=h
 cases a with
|none=>have:=(h0 rfl).1;subst this;simp at g;omega
|some x =>
  obtain⟨b,o,p⟩:=x
  have d:k < l.length:=by omega
  obtain⟨hs,f,i⟩:=e _ rfl k d
  simp only at hs;subst hs
  exact⟨b,o,l[k],rfl,f,List.getElem?_eq_getElem d,i⟩
section
open Go.ChangeShapes Go.WideShapes Go.ChangeAt
variable {H:Type} {enc:TypeId × Value->H} {P:Program} {w:World} {base:Nat} {spare:Nat->Bool} {held:Bool}
theorem Fh {e:TypeId} {fs:Array Field} {x:DataW H × List MemPlace} (g:P.underlying e=some (.struct fs)) (h:DataW.trod enc P w base spare held n e qs=some x)
 (j:Nat) (f:Field) (d:fs[j]?=some f) (o K:Nat) (ho:f.offset=o) (k:P.cellsOf f.type=K):∃ (m:Nat) (y:DataW H × List MemPlace),DataW.trod enc P w base spare held m f.type ((qs.drop o).take K)=some y:=by
 obtain⟨q,m,_,_,_,l,i⟩:=DataW.trod_struct g h
 have p:j < fs.size:=(Array.getElem?_eq_some_iff.1 d).1
 have b:=i j f d
 rw [ho,k,List.getElem?_eq_getElem (by omega)] at b
 exact⟨m,_,b⟩
end
section
open Go.ChangeShapes Go.WideShapes Go.ChangeAt
variable {H:Type} {enc:TypeId × Value->H} {w:World} {base:Nat} {held:Bool}
theorem Kn {x:DataW H × List MemPlace} (l:qs.length=4) (h:DataW.trod enc prog w base (fun _=>true) held fuel 36 qs=some x) :
 ∃ u:BS,qs[0]?=some (u.k:Value)/\qs[1]?=some (.string (str u.p.h))/\qs[2]?=some (.bool u.p.s)/\qs[3]?=some (u.p.x:Value):=by
 have b:=underlying36
 obtain⟨v0,m,r,g,t0⟩:=Jy b h 0 _ rfl 0 rfl (by omega) (by kernel_rfl)
 obtain⟨z0,i,-,-⟩:=DataW.trod_int underlying3 t0
 obtain rfl:v0=.int .i64 z0:=List.singleton_inj.1 i
 obtain⟨o,t,j⟩:=Fh b h 1 _ rfl 1 3 rfl (by kernel_rfl)
 obtain⟨q,d,e,f⟩:=Km (by rw [List.length_take,List.length_drop];omega) j
 rw [List.getElem?_take_of_lt (by omega),List.getElem?_drop] at d e f
 exact⟨⟨z0,q⟩,g,d,e,f⟩
theorem Rr {v:Value} {x:DataW H × List MemPlace} (h:DataW.trod enc prog w base (fun _=>true) held fuel 59 [v]=some x):∃ a n c l,v=.slice a n c/\EP w a n c l:=by
 rcases Go.Deep.open_slice underlying59 h with⟨s,_⟩|⟨a,len,cap,m,n,D,Pl,s,hb,hl,hm,X,hx,C⟩
 ·exact⟨none,0,0,[],List.singleton_inj.1 s,EP.nil w⟩
 ·have za:len<=m:=by rw [X];split <;> omega
  have B:prog.cellsOf 64=9:=by kernel_rfl
  have f:=underlying64
  have W:∀ i,i < len->∃ q:PU,∀ b o,a=(b o)->JL w b (o+i * 9) q:=by
   intro i g
   obtain⟨T,d,e⟩:=C i (by omega)
   rw [B] at d
   obtain⟨z0,k,w0⟩:=Vl f d e 0 _ rfl 0 rfl (by omega) .i64 underlying3 (by kernel_rfl)
   obtain⟨qs,m1,y1,ql,r,qt⟩:=Ud f d e 1 _ rfl 1 4 rfl (by kernel_rfl) (by omega)
   obtain⟨ss,m5,y5,sl,sc,O⟩:=Ud f d e 2 _ rfl 5 2 rfl (by kernel_rfl) (by omega)
   obtain⟨v7,m7,y7,z,t7⟩:=Jk f d e 3 _ rfl 7 rfl (by omega) (by kernel_rfl)
   obtain⟨v8,m8,y8,A,t8⟩:=Jk f d e 4 _ rfl 8 rfl (by omega) (by kernel_rfl)
   obtain⟨u,q0,q1,q2,q3⟩:=Kn ql qt
   have hs:=underlying44
   obtain⟨v5,n5,x5,Z,r5⟩:=Jy hs O 0 _ rfl 0 rfl (by omega) (by kernel_rfl)
   obtain⟨v6,n6,x6,g6,r6⟩:=Jy hs O 1 _ rfl 1 rfl (by omega) (by kernel_rfl)
   obtain⟨z5,Y,-,-⟩:=DataW.trod_int underlying3 r5
   obtain rfl:v5=.int .i64 z5:=List.singleton_inj.1 Y
   obtain⟨p6,k6,d6,l6,rfl,s6⟩:=Bo r6
   obtain⟨p7,k7,d7,l7,rfl,s7⟩:=Gd t7
   obtain⟨p8,k8,d8,l8,rfl,s8⟩:=Rq t8
   have G:=r 0 _ q0
   have I:=r 1 _ q1
   have J:=r 2 _ q2
   have K:=r 3 _ q3
   have M:=sc 0 _ Z
   have N:=sc 1 _ g6
   refine⟨⟨z0,u,z5,l6,l7,l8⟩,fun b o U=>?_⟩
   subst U
   have R:∀ (p:Nat) j,((b p):Addr).add j=(b (p+j)):=by intro p j;unfold Addr.add;split <;> simp_all
   simp only [R] at k G I J K M N z A
   exact⟨k,G,⟨I,J,K⟩,M,⟨_,_,_,N,s6⟩,⟨_,_,_,z,s7⟩,⟨_,_,_,A,s8⟩⟩
  obtain⟨p,hp⟩:=Go.Deep.choose_lt (α:=PU) (p:=fun i q=>∀ b o,a=(b o)->JL w b (o+i * 9) q) W
  have Q:0 < len->a.spot=none:=by
   intro g
   obtain⟨T,d,e⟩:=C 0 (by omega)
   rw [B] at d
   obtain⟨z0,k,_⟩:=Vl f d e 0 _ rfl 0 rfl (by omega) .i64 underlying3 (by kernel_rfl)
   have h2:=World.cell?_spot k
   revert h2
   obtain⟨b,o,sp⟩:=a
   unfold Addr.add;split <;> simp_all
  refine⟨some a,len,cap,(List.range len).map p,List.singleton_inj.1 s,by simp,hl,hm,(fun h=>by cases h),fun y hy i g=>?_⟩
  cases hy
  simp at g
  have t:=Q (by omega)
  obtain⟨b,o,sp⟩:=a
  simp only at t;subst t
  have F:=hp i g b o rfl
  refine⟨rfl,World.block_lt_of_cell? w (b (o+i * 9)) F.1,?_⟩
  simpa using F
end
end
section
open Go.RowKit
variable {w w':World} {a:Option Addr} {c n:Nat} {l:List BS}
instance:Inhabited BS:=⟨AN.none⟩
section
open Go.ChangeShapes Go.WideShapes Go.ChangeAt
variable {H:Type} {enc:TypeId × Value->H} {w:World} {base:Nat} {held:Bool}
end
end
section
open Go.RowKit
def PU.VS (x:PU):Prop:=x.up.p.h.length<=300/\(x.pins.length<=20/\∀ p ∈ x.pins,p.h.length<=300)/\x.fs.length<=66/\x.ks.length<=120
theorem Ul (a:Option Addr) (n c:Nat) (w:World) (hn:n<=9223372036854775807):Calls prog 70 #[.slice a n c] w fun e d=>e=.returned (.bool (decide (n<=66)))/\w=d:=by
 by_cases h:n<=66
 case' pos=>have b:(n:Int)<=66:=by omega
 case' neg=>have b:¬ (n:Int)<=66:=by omega
 all_goals
  go_in
  go_wp2_with fail
  go_ret
  exact⟨by simp [h],rfl⟩
def NJ (n:Nat) (l:List PU) (w:World) (e:Ending) (w':World):Prop:=∃ r,e=.returned (.bool r)/\(r=true->n<=30/\∀ x ∈ l,x.VS)/\Below w.heap.size w w'
set_option maxHeartbeats 4000000 in
theorem VG (a:Option Addr) (n c:Nat) (l:List PU) (w:World) (h:EP w a n c l) :
 Calls prog 24 #[.slice a n c] w (NJ n l w):=by
 have zb:=h.le
 have HL:=zH h.len
 by_cases hn:30 < n
 ·have h2:(30:Int) < (n:Int):=by omega
  go_in
  go_wp2_with fail
  go_ret
  exact⟨false,rfl,(fun e=>by cases e),Below.refl _ _⟩
 have h2:¬ (30:Int) < (n:Int):=by omega
 go_in
 go_wp2_with fail
 go_loopw [3] (fun i wr=>∃ k:Nat,k<=n/\i=.int .i64 k/\Hid (∀ j,j < k->∀ x,l[j]?=some x->x.VS)/\Below w.heap.size w wr) (fun i _=>n - (intOf i).toNat)
 case atStart=>exact⟨0,by omega,rfl,zH (fun j B=>by omega),Below.refl _ _⟩
 case round =>
  obtain⟨k,hk,rfl,X,u⟩:=hrel
  by_cases za:k < n
  ·obtain⟨b,o,x,rfl,hb,s,hi⟩:=h.at za
   obtain⟨-,-,⟨c2,-,-⟩,-,⟨p,m,d,c6,O⟩,⟨p1,F,d1,Z,P⟩,⟨p2,G,d2,c8,Q⟩⟩:=hi.ext hb u
   have H:b < wr.heap.size:=Nat.lt_of_lt_of_le hb u.size
   have K:=O.len;have M:=P.len;have N:=Q.len
   have e7:=P.le;have e8:=Q.le
   have i0:(0:Int)<=(k:Int):=by omega
   have i1:(k:Int) < (n:Int):=by omega
   obtain⟨C,A⟩:∃ q,x.up.p.h.length=q:=⟨_,rfl⟩
   have hsz:(str x.up.p.h).size=C:=by rw [<-A];simp [str,ByteArray.size]
   obtain⟨sp,t⟩:∃ r,(decide (m<=20) && x.pins.all fun q=>decide (q.h.length<=300))=r:=⟨_,rfl⟩
   have z:=zH (fun W (e:Below wr.heap.size wr W)=>Kl 20 p m d x.pins W (O.ext e))
   rw [t] at z
   have f:=zH u
   have HX:=zH (And.intro s (And.intro K (And.intro M (And.intro N (And.intro A t)))))
   have U:=zH (fun W (e:Below wr.heap.size wr W)=>show W.cell? (b (o+k * 9+7))=some (.slice p1 F d1)/\W.cell? (b (o+k * 9+8))=some (.slice p2 G d2)/\b < W.heap.size from ⟨(e.cell (p:=(b (o+k * 9+7))) H).trans Z,(e.cell (p:=(b (o+k * 9+8))) H).trans c8,Nat.lt_of_lt_of_le H e.size⟩)
   clear s K M N O P Q A t u Z c8
   by_cases b0:300 < C
   ·have t0:(300:Int) < (C:Int):=by omega
    go_wp2_with fail
    go_ret
    exact⟨false,rfl,(fun e=>by cases e),f.out⟩
   have t0:¬ (300:Int) < (C:Int):=by omega
   have I:=zH (Below.refl wr.heap.size wr)
   cases sp
   ·go_wp2_with (go_at_call 23;go_must (refine (z.out _ I.out).mono ?_);rintro e w1 ⟨rfl,g⟩)
    go_ret
    exact⟨false,rfl,(fun e=>by cases e),f.out.trans (g.mono f.out.size)⟩
   by_cases Y:F<=66
   ·have R:decide (F<=66)=true:=by simpa using Y
    by_cases b3:120 < G
    case' neg=>have t3:¬ (120:Int) < (G:Int):=by omega
    case' pos=>have t3:(120:Int) < (G:Int):=by omega
    all_goals go_wp2_with (first
     |(go_at_call 23;go_must (refine (z.out _ I.out).mono ?_);rintro e w1 ⟨rfl,g⟩;obtain⟨x7,x8,x9⟩:=U.out _ g)
     |(go_at_call 70;go_must (refine (Ul _ _ _ _ e7).mono ?_);rintro e w2 ⟨rfl,rfl⟩;rw [R]))
    ·go_ret
     exact⟨false,rfl,(fun e=>by cases e),f.out.trans (g.mono f.out.size)⟩
    refine⟨⟨k+1,by omega,by go_num,zH (fun j B y J=>?_),f.out.trans (g.mono f.out.size)⟩,by simp [intOf];omega⟩
    obtain⟨s,K,M,N,A,t⟩:=HX.out
    rcases Nat.lt_or_ge j k with T|T
    ·exact X.out j T y J
    ·obtain rfl:j=k:=by omega
     rw [s] at J;cases J
     have h9:=Bool.and_eq_true_iff.1 t
     exact⟨by omega,⟨by have:=of_decide_eq_true h9.1;omega,fun q hq=>by have:=List.all_eq_true.1 h9.2 q hq;simpa using this⟩,by omega,by omega⟩
   ·have R:decide (F<=66)=false:=by simpa using Y
    go_wp2_with (first
     |(go_at_call 23;go_must (refine (z.out _ I.out).mono ?_);rintro e w1 ⟨rfl,g⟩;obtain⟨x7,x8,x9⟩:=U.out _ g)
     |(go_at_call 70;go_must (refine (Ul _ _ _ _ e7).mono ?_);rintro e w2 ⟨rfl,rfl⟩;rw [R]))
    go_ret
    exact⟨false,rfl,(fun e=>by cases e),f.out.trans (g.mono f.out.size)⟩
  ·obtain rfl:k=n:=by omega
   go_wp2_with fail
   go_ret
   refine⟨true,rfl,fun _=>⟨by omega,fun x s=>?_⟩,u⟩
   obtain⟨j,B,rfl⟩:=List.mem_iff_getElem.1 s
   exact X.out j (by rw [<-HL.out];exact B) _ (List.getElem?_eq_getElem B)
end
end Go.Proofs.YtmanejniepghlaaGreatDoor
