import Derived.Test.YtmanejniepghlaaGreatDoorRun19
import Derived.ProofKit
import Derived.OpenShut
import Derived.ShutString
import Derived.ChangeOld
import Derived.Deep.Slices
import Derived.Test.YtmanejniepghlaaGreatDoorRun1
namespace Go.Proofs.YtmanejniepghlaaGreatDoor
section
open Go.RowKit
variable {e:TypeId} {C n:Nat} {a:Addr} {cs:List Value}
instance:Inhabited Pin:=⟨Pin.none⟩
section
open Go.ChangeShapes Go.WideShapes Go.ChangeAt
variable {H:Type} {enc:TypeId × Value->H} {P:Program} {w:World} {base:Nat} {spare:Nat->Bool} {held:Bool}
theorem zb_e {fs:Array Field} {x:DataW H × List MemPlace} (he:P.underlying e=some (.struct fs)) (hc:w.cells? base a C=some cs) (h:DataW.trod enc P w base spare held n e cs=some x)
 (j:Nat) (f:Field) (hf:fs[j]?=some f) (o:Nat) (ho:f.offset=o) (hoC:o < C) (hk:P.cellsOf f.type=1):∃ (v:Value) (m:Nat) (y:DataW H × List MemPlace),w.cell? (a.add o)=some v/\DataW.trod enc P w base spare held m f.type [v]=some y:=by
 obtain⟨_,hlen,hat⟩:=World.cells?_some hc
 obtain⟨xs,m,_,_,_,hxl,hg⟩:=DataW.trod_struct he h
 have hj:j < fs.size:=(Array.getElem?_eq_some_iff.1 hf).1
 have h1:=hg j f hf
 rw [ho,hk,List.getElem?_eq_getElem (by omega)] at h1
 have hol:o < cs.length:=by omega
 have h2:(cs.drop o).take 1=[cs[o]]:=by rw [List.drop_eq_getElem_cons hol];rfl
 rw [h2] at h1
 exact⟨cs[o],m,_,by rw [hat o hoC,List.getElem?_eq_getElem hol],h1⟩
theorem zf_a {fs:Array Field} {x:DataW H × List MemPlace} (he:P.underlying e=some (.struct fs)) (hc:w.cells? base a C=some cs) (h:DataW.trod enc P w base spare held n e cs=some x)
 (j:Nat) (f:Field) (hf:fs[j]?=some f) (o:Nat) (ho:f.offset=o) (hoC:o < C) (k:IntKind) (hu:P.underlying f.type=some (.int k)) (hk:P.cellsOf f.type=1):∃ z:Int,w.cell? (a.add o)=some (.int k z)/\(Lit.int k z).wf=true:=by
 obtain⟨v,m,y,hv,ht⟩:=zb_e he hc h j f hf o ho hoC hk
 obtain⟨z,h1,_,h3⟩:=DataW.trod_int hu ht
 exact⟨z,by rw [hv,List.singleton_inj.1 h1],h3⟩
end
section
open Go.ChangeShapes Go.WideShapes Go.ChangeAt
variable {H:Type} {enc:TypeId × Value->H} {w:World} {base:Nat} {held:Bool}
set_option maxRecDepth 100000 in
theorem zn_s {fuel:Nat} {v:Value} {x:DataW H × List MemPlace} (h:DataW.trod enc Tryz.prog w base (fun _=>true) held fuel 42 [v]=some x):∃ a n c l,v=.slice a n c/\SlN w a n c l:=by
 rcases Go.Deep.open_slice Tryz.underlying42 h with⟨hcs,_⟩|⟨a,len,cap,m,n,D,Pl,hcs,hb,hl,hm,hmm,hx,hi⟩
 ·exact⟨none,0,0,[],List.singleton_inj.1 hcs,SlN.nil w⟩
 ·have hlm:len<=m:=by rw [hmm];split <;> omega
  have hC:Tryz.prog.cellsOf 34=3:=by kernel_rfl
  have he:=Tryz.underlying34
  have hel:∀ i,i < len->∃ q:Pin,∀ b o,a=(b o)->PinAt w b (o+i * 3) q:=by
   intro i hil
   obtain⟨cs',hc,ht'⟩:=hi i (by omega)
   rw [hC] at hc
   obtain⟨v0,m0,y0,c0,t0⟩:=zb_e he hc ht' 0 _ rfl 0 rfl (by omega) (by kernel_rfl)
   obtain⟨v1,m1,y1,c1,t1⟩:=zb_e he hc ht' 1 _ rfl 1 rfl (by omega) (by kernel_rfl)
   obtain⟨z2,c2,w2⟩:=zf_a he hc ht' 2 _ rfl 2 rfl (by omega) .i64 Tryz.underlying3 (by kernel_rfl)
   obtain⟨s0,e0,-,-⟩:=DataW.trod_string Tryz.underlying9 t0
   obtain⟨s1,e1,-⟩:=DataW.trod_bool Tryz.underlying4 t1
   obtain rfl:v0=.string s0:=List.singleton_inj.1 e0
   obtain rfl:v1=.bool s1:=List.singleton_inj.1 e1
   refine⟨⟨s0.data.toList,s1,z2⟩,fun b o hab=>?_⟩
   subst hab
   have hadd:∀ (p:Nat) j,((b p):Addr).add j=(b (p+j)):=by intro p j;unfold Addr.add;split <;> simp_all
   simp only [hadd] at c0 c1 c2
   exact⟨by simpa [str] using c0,c1,c2⟩
  obtain⟨p,hp⟩:=Go.Deep.choose_lt (α:=Pin) (p:=fun i q=>∀ b o,a=(b o)->PinAt w b (o+i * 3) q) hel
  have hspot:0 < len->a.spot=none:=by
   intro hil
   obtain⟨cs',hc,ht'⟩:=hi 0 (by omega)
   rw [hC] at hc
   obtain⟨v0,m0,y0,c0,t0⟩:=zb_e he hc ht' 0 _ rfl 0 rfl (by omega) (by kernel_rfl)
   have h2:=World.cell?_spot c0
   revert h2
   obtain⟨b,o,sp⟩:=a
   unfold Addr.add;split <;> simp_all
  refine⟨some a,len,cap,(List.range len).map p,List.singleton_inj.1 hcs,by simp,hl,hm,(fun h=>by cases h),fun y hy i hil=>?_⟩
  cases hy
  simp at hil
  have hsp:=hspot (by omega)
  obtain⟨b,o,sp⟩:=a
  simp only at hsp;subst hsp
  have hq:=hp i hil b o rfl
  refine⟨rfl,World.block_lt_of_cell? w (b (o+i * 3)) hq.1,?_⟩
  simpa using hq
end
end
section
open Go.RowKit
variable {e:TypeId} {n:Nat} {qs:List Value}
section
open Go.ChangeShapes Go.WideShapes Go.ChangeAt
variable {H:Type} {enc:TypeId × Value->H} {P:Program} {w:World} {base:Nat} {spare:Nat->Bool} {held:Bool}
theorem zh_z {fs:Array Field} {a:Addr} {C:Nat} {cs:List Value} {x:DataW H × List MemPlace} (he:P.underlying e=some (.struct fs)) (hc:w.cells? base a C=some cs) (h:DataW.trod enc P w base spare held n e cs=some x)
 (j:Nat) (f:Field) (hf:fs[j]?=some f) (o K:Nat) (ho:f.offset=o) (hk:P.cellsOf f.type=K) (hoC:o+K<=C) :
 ∃ (qs:List Value) (m:Nat) (y:DataW H × List MemPlace),qs.length=K/\(∀ k v,qs[k]?=some v->w.cell? (a.add (o+k))=some v)/\DataW.trod enc P w base spare held m f.type qs=some y:=by
 obtain⟨_,hlen,hat⟩:=World.cells?_some hc
 obtain⟨xs,m,_,_,_,hxl,hg⟩:=DataW.trod_struct he h
 have hj:j < fs.size:=(Array.getElem?_eq_some_iff.1 hf).1
 have h1:=hg j f hf
 rw [ho,hk,List.getElem?_eq_getElem (by omega)] at h1
 refine⟨(cs.drop o).take K,m,_,by rw [List.length_take,List.length_drop];omega,fun k v hv=>?_,h1⟩
 have hkK:k < K:=by have:=(List.getElem?_eq_some_iff.1 hv).1;rw [List.length_take] at this;omega
 rw [List.getElem?_take_of_lt hkK,List.getElem?_drop] at hv
 rw [hat (o+k) (by omega),hv]
theorem zb_o {fs:Array Field} {x:DataW H × List MemPlace} (he:P.underlying e=some (.struct fs)) (h:DataW.trod enc P w base spare held n e qs=some x)
 (j:Nat) (f:Field) (hf:fs[j]?=some f) (o:Nat) (ho:f.offset=o) (hol:o < qs.length) (hk:P.cellsOf f.type=1):∃ (v:Value) (m:Nat) (y:DataW H × List MemPlace),qs[o]?=some v/\DataW.trod enc P w base spare held m f.type [v]=some y:=by
 obtain⟨xs,m,_,_,_,hxl,hg⟩:=DataW.trod_struct he h
 have hj:j < fs.size:=(Array.getElem?_eq_some_iff.1 hf).1
 have h1:=hg j f hf
 rw [ho,hk,List.getElem?_eq_getElem (by omega)] at h1
 have h2:(qs.drop o).take 1=[qs[o]]:=by rw [List.drop_eq_getElem_cons hol];rfl
 rw [h2] at h1
 exact⟨qs[o],m,_,List.getElem?_eq_getElem hol,h1⟩
end
section
open Go.ChangeShapes Go.WideShapes Go.ChangeAt
variable {H:Type} {enc:TypeId × Value->H} {w:World} {base:Nat} {held:Bool}
theorem zf_x {fuel:Nat} {x:DataW H × List MemPlace} (hl:qs.length=3) (h:DataW.trod enc Tryz.prog w base (fun _=>true) held fuel 34 qs=some x):∃ q:Pin,qs[0]?=some (.string (str q.h))/\qs[1]?=some (.bool q.s)/\qs[2]?=some (q.x:Value):=by
 have he:=Tryz.underlying34
 obtain⟨v0,m0,y0,c0,t0⟩:=zb_o he h 0 _ rfl 0 rfl (by omega) (by kernel_rfl)
 obtain⟨v1,m1,y1,c1,t1⟩:=zb_o he h 1 _ rfl 1 rfl (by omega) (by kernel_rfl)
 obtain⟨v2,m2,y2,c2,t2⟩:=zb_o he h 2 _ rfl 2 rfl (by omega) (by kernel_rfl)
 obtain⟨s0,e0,-,-⟩:=DataW.trod_string Tryz.underlying9 t0
 obtain⟨s1,e1,-⟩:=DataW.trod_bool Tryz.underlying4 t1
 obtain⟨z2,e2,-,-⟩:=DataW.trod_int Tryz.underlying3 t2
 obtain rfl:v0=.string s0:=List.singleton_inj.1 e0
 obtain rfl:v1=.bool s1:=List.singleton_inj.1 e1
 obtain rfl:v2=.int .i64 z2:=List.singleton_inj.1 e2
 exact⟨⟨s0.data.toList,s1,z2⟩,by simpa [str] using c0,c1,c2⟩
end
end
section
open Go.RowKit
variable {w w':World} {c fuel n:Nat} {a:Option Addr} {qs:List Value}
structure O33 where
 kind:Int
 up:UpdV
 ck:Int
 pins:List Pin
 fs:List (Int × Int)
 ks:List (Int × Int)
instance:Inhabited O33:=⟨⟨0,Upt.none,0,[],[],[]⟩⟩
def IsO33 (w:World) (b o:Nat) (x:O33):Prop :=
 w.cell? (b o)=some (x.kind:Value)/\w.cell? (b (o+1))=some (x.up.k:Value)/\PinAt w b (o+2) x.up.p/\w.cell? (b (o+5))=some (x.ck:Value) ∧
  (∃ p m d,w.cell? (b (o+6))=some (.slice p m d)/\SlN w p m d x.pins)/\(∃ p m d,w.cell? (b (o+7))=some (.slice p m d)/\SlP w p m d x.fs)/\(∃ p m d,w.cell? (b (o+8))=some (.slice p m d)/\SlP w p m d x.ks)
theorem IsO33.ext {b o:Nat} {x:O33} (h:IsO33 w b o x) (hb:b < w.heap.size) (e:Below w.heap.size w w'):IsO33 w' b o x:=by
 obtain⟨h1,h2,h3,h4,⟨p,m,d,h5,h6⟩,⟨p1,m1,d1,h7,h8⟩,⟨p2,m2,d2,h9,h10⟩⟩:=h
 exact⟨(e.cell (p:=(b o)) hb).trans h1,(e.cell (p:=(b (o+1))) hb).trans h2,h3.stay (e.block b hb),(e.cell (p:=(b (o+5))) hb).trans h4,⟨p,m,d,(e.cell (p:=(b (o+6))) hb).trans h5,h6.ext e⟩,
  ⟨p1,m1,d1,(e.cell (p:=(b (o+7))) hb).trans h7,h8.ext e⟩,⟨p2,m2,d2,(e.cell (p:=(b (o+8))) hb).trans h9,h10.ext e⟩⟩
def SlO33 (w:World) (a:Option Addr) (n c:Nat) (l:List O33):Prop :=
 l.length=n/\n<=c/\c<=maxLen/\(a=none->l=[]/\c=0) ∧
  ∀ x,a=some x->∀ i (h:i < l.length),x.spot=none/\x.block < w.heap.size/\IsO33 w x.block (x.off+i * 9) l[i]
theorem SlO33.len {l:List O33} (h:SlO33 w a n c l):l.length=n:=h.1
theorem SlO33.le {l:List O33} (h:SlO33 w a n c l):n<=9223372036854775807:=by
 have:=h.2.1;have:=h.2.2.1;unfold maxLen at *;omega
theorem SlO33.nil (w:World):SlO33 w none 0 0 []:=⟨rfl,zN _,by unfold maxLen;omega,fun _=>⟨rfl,rfl⟩,fun x hx=>by cases hx⟩
theorem SlO33.at {l:List O33} (h:SlO33 w a n c l) {k:Nat} (hk:k < n):∃ b o x,a=some ((b:Nat) o)/\b < w.heap.size/\l[k]?=some x/\IsO33 w b (o+k * 9) x:=by
 obtain⟨hl,hn,hc,h0,h1⟩:=h
 cases a with
|none=>have:=(h0 rfl).1;subst this;simp at hl;omega
|some x =>
  obtain⟨b,o,sp⟩:=x
  have hk':k < l.length:=by omega
  obtain⟨hs,hb,hq⟩:=h1 _ rfl k hk'
  simp only at hs;subst hs
  exact⟨b,o,l[k],rfl,hb,List.getElem?_eq_getElem hk',hq⟩
section
open Go.ChangeShapes Go.WideShapes Go.ChangeAt
variable {H:Type} {enc:TypeId × Value->H} {P:Program} {w:World} {base:Nat} {spare:Nat->Bool} {held:Bool}
theorem zq_u {e:TypeId} {fs:Array Field} {x:DataW H × List MemPlace} (he:P.underlying e=some (.struct fs)) (h:DataW.trod enc P w base spare held n e qs=some x)
 (j:Nat) (f:Field) (hf:fs[j]?=some f) (o K:Nat) (ho:f.offset=o) (hk:P.cellsOf f.type=K):∃ (m:Nat) (y:DataW H × List MemPlace),DataW.trod enc P w base spare held m f.type ((qs.drop o).take K)=some y:=by
 obtain⟨xs,m,_,_,_,hxl,hg⟩:=DataW.trod_struct he h
 have hj:j < fs.size:=(Array.getElem?_eq_some_iff.1 hf).1
 have h1:=hg j f hf
 rw [ho,hk,List.getElem?_eq_getElem (by omega)] at h1
 exact⟨m,_,h1⟩
end
section
open Go.ChangeShapes Go.WideShapes Go.ChangeAt
variable {H:Type} {enc:TypeId × Value->H} {w:World} {base:Nat} {held:Bool}
theorem zf_y {x:DataW H × List MemPlace} (hl:qs.length=4) (h:DataW.trod enc Tryz.prog w base (fun _=>true) held fuel 36 qs=some x) :
 ∃ u:UpdV,qs[0]?=some (u.k:Value)/\qs[1]?=some (.string (str u.p.h))/\qs[2]?=some (.bool u.p.s)/\qs[3]?=some (u.p.x:Value):=by
 have he:=Tryz.underlying36
 obtain⟨v0,m0,y0,c0,t0⟩:=zb_o he h 0 _ rfl 0 rfl (by omega) (by kernel_rfl)
 obtain⟨z0,e0,-,-⟩:=DataW.trod_int Tryz.underlying3 t0
 obtain rfl:v0=.int .i64 z0:=List.singleton_inj.1 e0
 obtain⟨m1,y1,t1⟩:=zq_u he h 1 _ rfl 1 3 rfl (by kernel_rfl)
 obtain⟨q,q0,q1,q2⟩:=zf_x (by rw [List.length_take,List.length_drop];omega) t1
 rw [List.getElem?_take_of_lt (by omega),List.getElem?_drop] at q0 q1 q2
 exact⟨⟨z0,q⟩,c0,q0,q1,q2⟩
set_option maxRecDepth 100000 in
theorem zm_a {v:Value} {x:DataW H × List MemPlace} (h:DataW.trod enc Tryz.prog w base (fun _=>true) held fuel 59 [v]=some x):∃ a n c l,v=.slice a n c/\SlO33 w a n c l:=by
 rcases Go.Deep.open_slice Tryz.underlying59 h with⟨hcs,_⟩|⟨a,len,cap,m,n,D,Pl,hcs,hb,hl,hm,hmm,hx,hi⟩
 ·exact⟨none,0,0,[],List.singleton_inj.1 hcs,SlO33.nil w⟩
 ·have hlm:len<=m:=by rw [hmm];split <;> omega
  have hC:Tryz.prog.cellsOf 64=9:=by kernel_rfl
  have he:=Tryz.underlying64
  have hel:∀ i,i < len->∃ q:O33,∀ b o,a=(b o)->IsO33 w b (o+i * 9) q:=by
   intro i hil
   obtain⟨cs',hc,ht'⟩:=hi i (by omega)
   rw [hC] at hc
   obtain⟨z0,c0,w0⟩:=zf_a he hc ht' 0 _ rfl 0 rfl (by omega) .i64 Tryz.underlying3 (by kernel_rfl)
   obtain⟨qs,m1,y1,ql,qc,qt⟩:=zh_z he hc ht' 1 _ rfl 1 4 rfl (by kernel_rfl) (by omega)
   obtain⟨ss,m5,y5,sl,sc,st⟩:=zh_z he hc ht' 2 _ rfl 5 2 rfl (by kernel_rfl) (by omega)
   obtain⟨v7,m7,y7,c7,t7⟩:=zb_e he hc ht' 3 _ rfl 7 rfl (by omega) (by kernel_rfl)
   obtain⟨v8,m8,y8,c8,t8⟩:=zb_e he hc ht' 4 _ rfl 8 rfl (by omega) (by kernel_rfl)
   obtain⟨u,q0,q1,q2,q3⟩:=zf_y ql qt
   have hs:=Tryz.underlying44
   obtain⟨v5,n5,x5,g5,r5⟩:=zb_o hs st 0 _ rfl 0 rfl (by omega) (by kernel_rfl)
   obtain⟨v6,n6,x6,g6,r6⟩:=zb_o hs st 1 _ rfl 1 rfl (by omega) (by kernel_rfl)
   obtain⟨z5,e5,-,-⟩:=DataW.trod_int Tryz.underlying3 r5
   obtain rfl:v5=.int .i64 z5:=List.singleton_inj.1 e5
   obtain⟨p6,k6,d6,l6,rfl,s6⟩:=zn_s r6
   obtain⟨p7,k7,d7,l7,rfl,s7⟩:=zj_q t7
   obtain⟨p8,k8,d8,l8,rfl,s8⟩:=zl_z t8
   have r0:=qc 0 _ q0
   have r1:=qc 1 _ q1
   have r2:=qc 2 _ q2
   have r3:=qc 3 _ q3
   have r4:=sc 0 _ g5
   have r9:=sc 1 _ g6
   refine⟨⟨z0,u,z5,l6,l7,l8⟩,fun b o hab=>?_⟩
   subst hab
   have hadd:∀ (p:Nat) j,((b p):Addr).add j=(b (p+j)):=by intro p j;unfold Addr.add;split <;> simp_all
   simp only [hadd] at c0 r0 r1 r2 r3 r4 r9 c7 c8
   exact⟨c0,r0,⟨r1,r2,r3⟩,r4,⟨_,_,_,r9,s6⟩,⟨_,_,_,c7,s7⟩,⟨_,_,_,c8,s8⟩⟩
  obtain⟨p,hp⟩:=Go.Deep.choose_lt (α:=O33) (p:=fun i q=>∀ b o,a=(b o)->IsO33 w b (o+i * 9) q) hel
  have hspot:0 < len->a.spot=none:=by
   intro hil
   obtain⟨cs',hc,ht'⟩:=hi 0 (by omega)
   rw [hC] at hc
   obtain⟨z0,c0,_⟩:=zf_a he hc ht' 0 _ rfl 0 rfl (by omega) .i64 Tryz.underlying3 (by kernel_rfl)
   have h2:=World.cell?_spot c0
   revert h2
   obtain⟨b,o,sp⟩:=a
   unfold Addr.add;split <;> simp_all
  refine⟨some a,len,cap,(List.range len).map p,List.singleton_inj.1 hcs,by simp,hl,hm,(fun h=>by cases h),fun y hy i hil=>?_⟩
  cases hy
  simp at hil
  have hsp:=hspot (by omega)
  obtain⟨b,o,sp⟩:=a
  simp only at hsp;subst hsp
  have hq:=hp i hil b o rfl
  refine⟨rfl,World.block_lt_of_cell? w (b (o+i * 9)) hq.1,?_⟩
  simpa using hq
end
end
section
open Go.RowKit
variable {w w':World} {a:Option Addr} {c n:Nat} {l:List UpdV}
instance:Inhabited UpdV:=⟨Upt.none⟩
section
open Go.ChangeShapes Go.WideShapes Go.ChangeAt
variable {H:Type} {enc:TypeId × Value->H} {w:World} {base:Nat} {held:Bool}
end
end
section
open Go.RowKit
def O33.Small (x:O33):Prop:=x.up.p.h.length<=300/\(x.pins.length<=20/\∀ p ∈ x.pins,p.h.length<=300)/\x.fs.length<=66/\x.ks.length<=120
theorem zi_h (a:Option Addr) (n c:Nat) (w:World) (hn:n<=9223372036854775807):Calls Tryz.prog 70 #[.slice a n c] w fun e w'=>e=.returned (.bool (decide (n<=66)))/\w=w':=by
 by_cases h:n<=66
 case' pos=>have h2:(n:Int)<=66:=by omega
 case' neg=>have h2:¬ (n:Int)<=66:=by omega
 all_goals
  go_enter Tryz.func70,Tryz.ntmps70
  go_wp2_with fail
  go_ret
  exact⟨by simp [h],rfl⟩
def SmallP33 (n:Nat) (l:List O33) (w:World) (e:Ending) (w':World):Prop:=∃ r,e=.returned (.bool r)/\(r=true->n<=30/\∀ x ∈ l,x.Small)/\Below w.heap.size w w'
set_option maxRecDepth 100000 in
set_option maxHeartbeats 4000000 in
theorem small33 (a:Option Addr) (n c:Nat) (l:List O33) (w:World) (h:SlO33 w a n c l) :
 Calls Tryz.prog 24 #[.slice a n c] w (SmallP33 n l w):=by
 have hle:=h.le
 have HL:=zH h.len
 by_cases hn:30 < n
 ·have h2:(30:Int) < (n:Int):=by omega
  go_enter Tryz.func24,Tryz.ntmps24
  go_wp2_with fail
  go_ret
  exact⟨false,rfl,(fun e=>by cases e),Below.refl _ _⟩
 have h2:¬ (30:Int) < (n:Int):=by omega
 go_enter Tryz.func24,Tryz.ntmps24
 go_wp2_with fail
 go_loopw [3] (fun i wr=>∃ k:Nat,k<=n/\i=.int .i64 k/\Hid (∀ j,j < k->∀ x,l[j]?=some x->x.Small)/\Below w.heap.size w wr) (fun i _=>n - (intOf i).toNat)
 case atStart=>exact⟨0,by omega,rfl,zH (fun j hj=>by omega),Below.refl _ _⟩
 case round =>
  obtain⟨k,hk,rfl,HS,hB⟩:=hrel
  by_cases hlt:k < n
  ·obtain⟨b,o,x,rfl,hb,hx,hi⟩:=h.at hlt
   obtain⟨-,-,⟨c2,-,-⟩,-,⟨p,m,d,c6,s6⟩,⟨p1,m1,d1,c7,s7⟩,⟨p2,m2,d2,c8,s8⟩⟩:=hi.ext hb hB
   have hbr:b < wr.heap.size:=Nat.lt_of_lt_of_le hb hB.size
   have l6:=s6.len;have l7:=s7.len;have l8:=s8.len
   have e7:=s7.le;have e8:=s8.le
   have i0:(0:Int)<=(k:Int):=by omega
   have i1:(k:Int) < (n:Int):=by omega
   obtain⟨hl,hhl⟩:∃ q,x.up.p.h.length=q:=⟨_,rfl⟩
   have hsz:(str x.up.p.h).size=hl:=by rw [<-hhl];simp [str,ByteArray.size]
   obtain⟨sp,hsp⟩:∃ r,(decide (m<=20) && x.pins.all fun q=>decide (q.h.length<=300))=r:=⟨_,rfl⟩
   have HSP:=zH (fun W (e:Below wr.heap.size wr W)=>zf_w 20 p m d x.pins W (s6.ext e))
   rw [hsp] at HSP
   have HB:=zH hB
   have HX:=zH (And.intro hx (And.intro l6 (And.intro l7 (And.intro l8 (And.intro hhl hsp)))))
   have HC:=zH (fun W (e:Below wr.heap.size wr W)=>show W.cell? (b (o+k * 9+7))=some (.slice p1 m1 d1)/\W.cell? (b (o+k * 9+8))=some (.slice p2 m2 d2)/\b < W.heap.size from ⟨(e.cell (p:=(b (o+k * 9+7))) hbr).trans c7,(e.cell (p:=(b (o+k * 9+8))) hbr).trans c8,Nat.lt_of_lt_of_le hbr e.size⟩)
   clear hx l6 l7 l8 s6 s7 s8 hhl hsp hB c7 c8
   by_cases b0:300 < hl
   ·have t0:(300:Int) < (hl:Int):=by omega
    go_wp2_with fail
    go_ret
    exact⟨false,rfl,(fun e=>by cases e),HB.out⟩
   have t0:¬ (300:Int) < (hl:Int):=by omega
   have HR:=zH (Below.refl wr.heap.size wr)
   cases sp
   ·go_wp2_with (go_at_call 23;go_must (refine (HSP.out _ HR.out).mono ?_);rintro e w1 ⟨rfl,hb1⟩)
    go_ret
    exact⟨false,rfl,(fun e=>by cases e),HB.out.trans (hb1.mono HB.out.size)⟩
   by_cases b2:m1<=66
   ·have t2:decide (m1<=66)=true:=by simpa using b2
    by_cases b3:120 < m2
    case' neg=>have t3:¬ (120:Int) < (m2:Int):=by omega
    case' pos=>have t3:(120:Int) < (m2:Int):=by omega
    all_goals go_wp2_with (first
     |(go_at_call 23;go_must (refine (HSP.out _ HR.out).mono ?_);rintro e w1 ⟨rfl,hb1⟩;obtain⟨x7,x8,x9⟩:=HC.out _ hb1)
     |(go_at_call 70;go_must (refine (zi_h _ _ _ _ e7).mono ?_);rintro e w2 ⟨rfl,rfl⟩;rw [t2]))
    ·go_ret
     exact⟨false,rfl,(fun e=>by cases e),HB.out.trans (hb1.mono HB.out.size)⟩
    refine⟨⟨k+1,by omega,by go_num,zH (fun j hj y hy=>?_),HB.out.trans (hb1.mono HB.out.size)⟩,by simp [intOf];omega⟩
    obtain⟨hx,l6,l7,l8,hhl,hsp⟩:=HX.out
    rcases Nat.lt_or_ge j k with hjk|hjk
    ·exact HS.out j hjk y hy
    ·obtain rfl:j=k:=by omega
     rw [hx] at hy;cases hy
     have h9:=Bool.and_eq_true_iff.1 hsp
     exact⟨by omega,⟨by have:=of_decide_eq_true h9.1;omega,fun q hq=>by have:=List.all_eq_true.1 h9.2 q hq;simpa using this⟩,by omega,by omega⟩
   ·have t2:decide (m1<=66)=false:=by simpa using b2
    go_wp2_with (first
     |(go_at_call 23;go_must (refine (HSP.out _ HR.out).mono ?_);rintro e w1 ⟨rfl,hb1⟩;obtain⟨x7,x8,x9⟩:=HC.out _ hb1)
     |(go_at_call 70;go_must (refine (zi_h _ _ _ _ e7).mono ?_);rintro e w2 ⟨rfl,rfl⟩;rw [t2]))
    go_ret
    exact⟨false,rfl,(fun e=>by cases e),HB.out.trans (hb1.mono HB.out.size)⟩
  ·obtain rfl:k=n:=by omega
   go_wp2_with fail
   go_ret
   refine⟨true,rfl,fun _=>⟨by omega,fun x hx=>?_⟩,hB⟩
   obtain⟨j,hj,rfl⟩:=List.mem_iff_getElem.1 hx
   exact HS.out j (by rw [<-HL.out];exact hj) _ (List.getElem?_eq_getElem hj)
end
end Go.Proofs.YtmanejniepghlaaGreatDoor
