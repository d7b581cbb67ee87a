import Derived.Test.YtmanejniepghlaaGreatDoorRun13
import Derived.Test.YtmanejniepghlaaGreatDoorRun16
import Derived.Test.YtmanejniepghlaaGreatDoorRun5
import Derived.Deep.RegionHeld3
import Derived.Laws.AppendOwnNone
import Derived.OwnWalk
import Derived.Lib.SlBytesConst
import Derived.Test.YtmanejniepghlaaGreatDoorRun1
import Derived.Test.YtmanejniepghlaaGreatDoorRun4
import Derived.Test.YtmanejniepghlaaGreatDoorRun2
import Derived.Test.YtmanejniepghlaaGreatDoorRun0
set_option maxHeartbeats 8000000
set_option maxRecDepth 100000
namespace Go.Proofs.YtmanejniepghlaaGreatDoor
open _root_.Go.Proofs.Tryz
section
open Go.RowKit
variable {b t:List UInt8} {n n1 n2 n3 v2 v3:Nat} {w:World}
def pv (p:AJ):Value:=.agg #[.string (str p.h),.bool p.s,p.x]
def pc (p:AJ):Array Value:=#[.string (str p.h),.bool p.s,p.x]
theorem AM.from {a:Option Addr} {c:Nat} {l:List UInt8} (h:AM w a n c l) {k:Nat} (s:k<=n):AM w (if c=k then a else a.map (·.add k)) (n - k) (c - k) (l.drop k):=by
 obtain⟨u,hn,r,h0,o⟩:=h
 refine⟨by simp;omega,by omega,by omega,fun e=>?_,fun x d i q=>?_⟩
 ·have:a=none:=by
   split at e
   ·exact e
   ·cases a with
   |none=>rfl
   |some y=>cases e
  obtain⟨j,m⟩:=h0 this
  simp [j,m]
 ·have g:k+i < l.length:=by simp at q;omega
  cases a with
 |none=>split at d <;> cases d
 |some y =>
   obtain⟨hs,p,f⟩:=o y rfl (k+i) g
   have:x=(y.block (y.off+k)):=by
    split at d
    ·exfalso;omega
    ·obtain⟨z,A,B⟩:=y
     simp only at hs;subst hs
     cases d;unfold Addr.add;split <;> simp_all
   subst this
   refine⟨rfl,p,?_⟩
   simp only [Nat.add_assoc]
   rw [f];simp
theorem Qg {e:Array Oper} {rest:List Oper} {o:Oper} {d:Act} {Q:Exit->Act->World->Prop} (r:o.guard=none) (x y:Operand) (i:o.op=Op.slice 70 x (some y) none none)
 {a:Option Addr} {n c:Nat} {l:List UInt8} (u:d.eval x=.slice a n c) (m:Nat) (M:Int) (q:M=(m:Int)) (z:d.eval y=.int .i64 M) (h:AM w a n c l) (s:m<=n)
 (p:∀ a2,AM w a2 (n - m) (c - m) (l.drop m)->wpList prog e Q rest (d.put o.dst (.slice a2 (n - m) (c - m))) w):wpList prog e Q (o :: rest) d w:=by
 subst q
 have f:(Instr.sliceAt 70 (.slice a n c) (some (m:Value)) none none).run prog w=.ok (.slice (if c=m then a else a.map (·.add m)) (n - m) (c - m)) w:=by
  have j:=run_sliceAt_slice (P:=prog) (w:=w) 70 (.slice a n c) (some (m:Value)) none none underlying70
  have k:=run_slice_l (P:=prog) (w:=w) 70 a n c underlying70 .i64 (m:Int) (by omega) (by omega)
  rw [j,k]
  simp [go_sem,sliced]
 refine wpList_plain r fun K g=>?_
 unfold Oper.wp
 simp [execOp,i,u,z,f,Result.andThen]
 exact g _ _ (p _ (h.from s))
namespace AJ
theorem UD {p:AJ} {b:Bool} (h:Ho.name p.h=b):AB p=(b && (decide (0<=p.x) && decide (p.x<=1099511627776))):=by unfold AB;rw [h]
end AJ
theorem Xz (β:Bool) (p:AJ) (x:p.h.length<=1000000) (w:World) :
 Calls prog (cond β 151 118) #[pv p] w fun e C=>e=.returned (.bool (AJ.AB p))/\Below w.heap.size w C:=by
 have u:=Mk.mk β
 cases β <;> dsimp only [cond]
 all_goals
  first|(replace u:Mk true:=u;have d:=zH (fun W=>Xt p.h x W))|have d:=zH (fun W=>Xc p.h x W)
  have i:=(Below.refl w.heap.size w).alloc (zN _) (.cells (pc p) 34)
  have f:(w.alloc (.cells (pc p) 34)).heap[w.heap.size]?=some (.cells (pc p) 34 (0,0)):=Qb _ _ _ rfl
  have j:(w.alloc (.cells (pc p) 34)).heap.size=w.heap.size+1:=by simp
  have m:=zH (fun b (h:Ho.name p.h=b)=>AJ.UD h)
  obtain⟨k,y,a⟩:=p
  unfold pv
  unfold pc at i f j
  simp only at d i f j m ⊢
  obtain⟨B,o⟩:∃ b,Ho.name k=b:=⟨_,rfl⟩
  rw [o] at d
  have l:=zH (m.out _ o)
  clear m o
  obtain⟨G,q⟩:∃ s,str k=s:=⟨_,rfl⟩
  rw [q] at d i f j ⊢
  have g:=zH (And.intro i (And.intro f j))
  clear q i f j
  cases B with
 |false =>
   go_in
   go_wp2_with fail
   refine (d.out _).mono ?_;rintro e A ⟨rfl,c⟩
   rw [g.out.2.2] at c
   go_wp2_with fail
   go_ret
   exact⟨by rw [l.out];rfl,g.out.1.trans (c.mono (Nat.le_succ _))⟩
 |true =>
   by_cases h0:a < 0
   case' pos=>
    have r:=zH (show AJ.AB ⟨k,y,a⟩=false by rw [l.out,decide_eq_false (show ¬ 0<=a by omega)];rfl)
    have z:¬ 0<=a:=by omega
   case' neg=>
    have z:0<=a:=by omega
    have r:=zH (show AJ.AB ⟨k,y,a⟩=decide (a<=1099511627776) by rw [l.out,decide_eq_true z];rfl)
   all_goals
    go_in
    go_wp2_with fail
    refine (d.out _).mono ?_;rintro e A ⟨rfl,c⟩
    rw [g.out.2.2] at c
    have F:A.cell? (w.heap.size 2)=some (a:Value):=(c.cell (p:=(w.heap.size 2)) (Nat.lt_succ_self _)).trans ((cell_of_row _ _ _ _ _ _ g.out.2.1).trans rfl)
    go_wp2_with fail
    go_ret
    exact⟨by rw [r.out];rfl,g.out.1.trans (c.mono (Nat.le_succ _))⟩
theorem Jo (a:Option Addr) (n c:Nat) (l:List UInt8) (x:Nat) (z:Int) (g:z=(x:Int)) (f:x < 18446744073709551616) (w:World) (h:AM w a n c l) (hn:n<=1000000) :
 Calls prog 102 #[.slice a n c,.int .u64 z] w fun e d=>∃ v,e=.returned v/\AC w.heap.size d v (l ++ Wi.enc x)/\Below w.heap.size w d:=by
 subst g;exact Ze a n c l x f w h (by omega)
def IT (p:AJ) (w:World) (e:Ending) (w':World):Prop:=∃ v,e=.returned (.tuple #[v,.int .i64 (if AJ.AB p then 0 else 1)])/\AC w.heap.size w' v (if AJ.AB p then AJ.enc p else [])/\Below w.heap.size w w'
theorem Uo (p:AJ) (hp:p.h.length<=900) (w:World) :
 Calls prog 103 #[pv p] w (IT p w):=by
 have g:=zH (fun W=>Xz true p (by omega) W)
 have m:=(Below.refl w.heap.size w).alloc (zN _) (.cells (pc p) 34)
 have k:(w.alloc (.cells (pc p) 34)).heap[w.heap.size]?=some (.cells (pc p) 34 (0,0)):=Qb _ _ _ rfl
 have o:(w.alloc (.cells (pc p) 34)).heap.size=w.heap.size+1:=by simp
 have H:=zH ((AJ.BY p).1)
 have G:=zH (fun W=>Zd none 0 0 [] p.h (by omega) W (by exact⟨rfl,zN _,by unfold maxLen;omega,fun _=>⟨rfl,rfl⟩,fun x hx=>by cases hx⟩) (by omega))
 have C:=zH (show AJ.enc p=Wi.txt p.h ++ (Wi.enc (if p.s then 1 else 0) ++ Wi.enc p.x.toNat) from rfl)
 have F:=zH (show (Wi.txt p.h).length<=1000 by
  have:=Wi.BG (v:=p.h.length) (by omega);unfold Wi.txt;rw [List.length_append];omega)
 unfold IT
 obtain⟨ok,R⟩:∃ b,AJ.AB p=b:=⟨_,rfl⟩
 rw [R] at g H ⊢
 clear R
 obtain⟨M,i,j⟩:=p
 unfold pv at g ⊢
 unfold pc at m k o
 simp only at g m k o H G C F ⊢
 obtain⟨N,X⟩:∃ s,str M=s:=⟨_,rfl⟩
 rw [X] at g m k o G ⊢
 have f:=zH (And.intro m (And.intro k o))
 clear X m k o
 cases ok with
|false =>
  go_in
  go_wp2_with fail
  refine (g.out _).mono ?_;rintro e c ⟨rfl,d⟩
  rw [f.out.2.2] at d
  go_wp2_with fail
  go_ret2
  exact⟨_,rfl,AC.nil _ _,f.out.1.trans (d.mono (Nat.le_succ _))⟩
|true =>
  obtain⟨-,x0,x1⟩:=H.out rfl
  have wx:IntKind.u64.wrap j=((j.toNat:Nat):Int):=by unfold IntKind.wrap;simp only [IntKind.bits,IntKind.signed];simp;omega
  go_in
  go_wp2_with fail
  refine (g.out _).mono ?_;rintro e c ⟨rfl,d⟩
  rw [f.out.2.2] at d
  have A:=f.out.1.trans (d.mono (Nat.le_succ _))
  have zb:w.heap.size < c.heap.size:=by have:=d.size;rw [f.out.2.2] at this;omega
  have y:∀ a,Below c.heap.size c a->a.cell? w.heap.size=some (.string N)/\a.cell? (w.heap.size 1)=some (.bool i)/\a.cell? (w.heap.size 2)=some (j:Value):=by
   intro a q
   have K:a.heap[w.heap.size]?=some (.cells #[.string N,.bool i,j] 34 (0,0)):=(q.block _ zb).trans ((d.block _ (Nat.lt_succ_self _)).trans f.out.2.1)
   exact⟨(cell_of_row _ _ _ _ _ _ K).trans rfl,(cell_of_row _ _ _ _ _ _ K).trans rfl,(cell_of_row _ _ _ _ _ _ K).trans rfl⟩
  obtain⟨c0,c1,c2⟩:=y c (Below.refl _ _)
  have B:=zH (fun a q=>(y a q).1)
  have z:=zH (fun a q=>(y a q).2.2)
  clear y
  have P:=zH (show (Wi.enc (if i then 1 else 0)).length<=10 from (Wi.BG (v:=if i then 1 else 0) (by split <;> omega)).2)
  obtain⟨sub,r⟩:∃ sub:Nat,(if i then 1 else 0)=sub:=⟨_,rfl⟩
  rw [r] at C P
  have U:sub < 18446744073709551616:=by rw [<-r];split <;> decide
  have O:=zH (And.intro r U)
  clear r U
  cases i
  all_goals
   go_wp2_with fail
   go_region_held3 (fun a=>a.cell? w.heap.size=some (.string N)/\a.cell? (w.heap.size 2)=some (j:Value)) (first|exact⟨c0,c2⟩|exact⟨B.out _ I,z.out _ I⟩|exact⟨B.out _ l,z.out _ l⟩|exact⟨B.out _ u,z.out _ u⟩) (first
   |(go_at_call 123;go_must (refine (G.out _).mono ?_);rintro e y1 ⟨v1,rfl,Q,ze⟩;have u:Below c.heap.size c y1:=(Below.drew (Below.refl _ _)).trans ze;rw [List.nil_append] at Q;obtain⟨a1,k1,rfl,zh,-⟩:=Q.sl)
   |(go_at_call_of 102 (Value.slice a1 (Wi.txt M).length k1);go_must (refine (Jo _ _ _ _ sub _ (by rw [<-O.out.1];rfl) O.out.2 _ zh (by have:=F.out;omega)).mono ?_);rintro e y2 ⟨v2,rfl,zc,zf⟩;have l:Below c.heap.size c y2:=u.trans (zf.mono u.size);obtain⟨a2,k2,rfl,T,-⟩:=zc.sl;obtain⟨Y,J⟩:∃ n,(Wi.txt M ++ Wi.enc sub).length=n:=⟨_,rfl⟩;rw [J] at T ⊢;have za:Y<=1000000:=(by have:=F.out;have:=P.out;rw [List.length_append] at J;omega);clear J)
   |(go_at_call_of 102 (Value.slice a2 Y k2);go_must (refine (Jo _ _ _ _ j.toNat _ (by first|exact wx|rfl|omega) (by omega) _ T za).mono ?_);rintro e y3 ⟨v3,rfl,zd,zg⟩;have I:Below c.heap.size c y3:=l.trans (zg.mono l.size)))
   go_wp2_with fail
   go_ret2
   have Z:=zd.mono (Nat.le_trans A.size l.size)
   rw [List.append_assoc,<-C.out] at Z
   exact⟨_,rfl,Z,A.trans (I.mono A.size)⟩
def DW (b:List UInt8) (w:World) (e:Ending) (w':World):Prop:=e=.returned (.tuple #[pv (AJ.dec b).1,.int .i64 ((AJ.dec b).2.1:Nat),.int .i64 (AJ.dec b).2.2])/\Below w.heap.size w w'
theorem DW.of {q:AJ} {z:Int} (h:AJ.dec b=(q,n,z)) {e:Ending} {w':World} (c:e=.returned (.tuple #[.agg (pc q),n,z])) (a:Below w.heap.size w w'):DW b w e w':=by
 unfold DW;rw [h];exact⟨c,a⟩
namespace AJ
theorem SP {a:Int} (c:Wi.CB b=(t,n1,a)) (d:a ≠ 0):dec b=(none,0,a):=by unfold dec;rw [c];rw [if_pos d]
theorem SR {z2:Int} (a:Wi.CB b=(t,n1,0)) (c:Wi.dec (b.drop n1)=(v2,n2,z2)) (d:z2 ≠ 0):dec b=(none,0,z2):=by
 unfold dec;rw [a];rw [if_neg (by simp)];unfold FE;rw [c];rw [if_pos d]
theorem SS (a:Wi.CB b=(t,n1,0)) (c:Wi.dec (b.drop n1)=(v2,n2,0)) (d:1 < v2):dec b=(none,0,6):=by
 unfold dec;rw [a];rw [if_neg (by simp)];unfold FE;rw [c];rw [if_neg (by simp),if_pos d]
theorem ST {z3:Int} (a:Wi.CB b=(t,n1,0)) (c:Wi.dec (b.drop n1)=(v2,n2,0)) (e:¬ 1 < v2) (d:Wi.dec (b.drop (n1+n2))=(v3,n3,z3)) (f:z3 ≠ 0):dec b=(none,0,z3):=by
 unfold dec;rw [a];rw [if_neg (by simp)];unfold FE;rw [c];rw [if_neg (by simp),if_neg e];dsimp only;rw [d];rw [if_pos f]
theorem SU (a:Wi.CB b=(t,n1,0)) (c:Wi.dec (b.drop n1)=(v2,n2,0)) (e:¬ 1 < v2) (d:Wi.dec (b.drop (n1+n2))=(v3,n3,0)) (f:1099511627776 < v3):dec b=(none,0,2):=by
 unfold dec;rw [a];rw [if_neg (by simp)];unfold FE;rw [c];rw [if_neg (by simp),if_neg e];dsimp only;rw [d];rw [if_neg (by simp),if_pos f]
theorem SV (a:Wi.CB b=(t,n1,0)) (c:Wi.dec (b.drop n1)=(v2,n2,0)) (e:¬ 1 < v2) (d:Wi.dec (b.drop (n1+n2))=(v3,n3,0)) (f:¬ 1099511627776 < v3) (hn:Ho.name t=false):dec b=(none,0,14):=by
 unfold dec;rw [a];rw [if_neg (by simp)];unfold FE;rw [c];rw [if_neg (by simp),if_neg e];dsimp only;rw [d];rw [if_neg (by simp),if_neg f,if_pos hn]
theorem SW (a:Wi.CB b=(t,n1,0)) (c:Wi.dec (b.drop n1)=(v2,n2,0)) (e:¬ 1 < v2) (d:Wi.dec (b.drop (n1+n2))=(v3,n3,0)) (f:¬ 1099511627776 < v3) (hn:Ho.name t=true):dec b=(⟨t,decide (v2=1),(v3:Int)⟩,n1+n2+n3,0):=by
 unfold dec;rw [a];rw [if_neg (by simp)];unfold FE;rw [c];rw [if_neg (by simp),if_neg e];dsimp only;rw [d];rw [if_neg (by simp),if_neg f,if_neg (by simp [hn])]
end AJ
end
section
open Go.RowKit
theorem VD {w:World} {B:Nat} {x y z:Value} {t:TypeId} (d:w.heap[B]?=some (.cells #[x,y,z] t (0,0))) (a b c:Value) :
 (((w.setCell B a).setCell (B 1) b).setCell (B 2) c).heap[B]?=some (.cells #[a,b,c] t (0,0)) :=
 heap_setCell_same _ B 2 _ t c (heap_setCell_same _ B 1 _ t b (heap_setCell_same w B 0 _ t a d))
end
section
open Go.RowKit
variable {w w':World} {l:List AJ} {b base c k n:Nat} {v:Value} {a:Option Addr}
def pl (p:AJ):List Value:=[.string (str p.h),.bool p.s,p.x]
def GF (w:World) (b o:Nat) (p:AJ):Prop:=w.cell? (b o)=some (.string (str p.h))/\w.cell? (b (o+1))=some (.bool p.s)/\w.cell? (b (o+2))=some (p.x:Value)
def AT (w:World) (a:Option Addr) (n c:Nat) (l:List AJ):Prop :=
 l.length=n/\n<=c/\c<=maxLen/\(a=none->l=[]/\c=0) ∧
  ∀ x,a=some x->∀ i (h:i < l.length),x.spot=none/\x.block < w.heap.size/\GF w x.block (x.off+i * 3) l[i]
theorem AT.len (h:AT w a n c l):l.length=n:=h.1
theorem AT.le (h:AT w a n c l):n<=9223372036854775807:=by
 have:=h.2.1;have:=h.2.2.1;unfold maxLen at *;omega
theorem AT.nil (w:World):AT w none 0 0 []:=⟨rfl,zN _,by unfold maxLen;omega,fun _=>⟨rfl,rfl⟩,fun x d=>by cases d⟩
theorem AT.at (h:AT w a n c l) (m:k < n) :
 ∃ b o,a=some ((b:Nat) o)/\b < w.heap.size/\k < l.length/\GF w b (o+k * 3) (l[k]?.getD AJ.none):=by
 obtain⟨i,hn,j,h0,e⟩:=h
 cases a with
|none=>have:=(h0 rfl).1;subst this;simp at i;omega
|some x =>
  obtain⟨b,o,p⟩:=x
  have d:k < l.length:=by omega
  obtain⟨hs,f,g⟩:=e _ rfl k d
  simp only at hs;subst hs
  refine⟨b,o,rfl,f,d,?_⟩
  rw [List.getElem?_eq_getElem d]
  exact g
theorem GF.AI {o:Nat} {p:AJ} (h:GF w b o p) (e:w'.heap[b]?=w.heap[b]?):GF w' b o p :=
 ⟨(World.cell?_of_block (a:=(b o)) e).trans h.1,(World.cell?_of_block (a:=(b (o+1))) e).trans h.2.1,(World.cell?_of_block (a:=(b (o+2))) e).trans h.2.2⟩
theorem AT.AI (h:AT w a n c l) (e:∀ x,a=some x->l ≠ []->w'.heap[x.block]?=w.heap[x.block]?) (q:w.heap.size<=w'.heap.size):AT w' a n c l:=by
 obtain⟨p,hn,o,h0,j⟩:=h
 refine⟨p,hn,o,h0,fun x f i d=>?_⟩
 obtain⟨hs,m,g⟩:=j x f i d
 exact⟨hs,Nat.lt_of_lt_of_le m q,g.AI (e x f (by rintro rfl;simp at d))⟩
theorem AT.ext (h:AT w a n c l) (e:Below w.heap.size w w'):AT w' a n c l :=
 h.AI (fun x f d=>e.block _ ((h.2.2.2.2 x f 0 (List.length_pos_iff.2 d)).2.1)) e.size
theorem AT.take (h:AT w a n c l) (q:k<=n):AT w a k c (l.take k):=by
 obtain⟨r,hn,m,h0,g⟩:=h
 refine⟨by simp;omega,by omega,m,fun e=>by simp [h0 e],fun x p i o=>?_⟩
 have f:i < l.length:=by simp at o;omega
 obtain⟨hs,j,d⟩:=g x p i f
 exact⟨hs,j,by rw [List.getElem_take];exact d⟩
theorem Qf (l:List AJ):(l.flatMap pl).length=l.length * 3:=by
 induction l with
|nil=>rfl
|cons a l ih=>simp [pl,ih];omega
theorem Yl (l:List AJ) (i:Nat) (d:i < l.length):(l.flatMap pl)[i * 3]?=some (.string (str l[i].h))/\(l.flatMap pl)[i * 3+1]?=some (.bool l[i].s)/\(l.flatMap pl)[i * 3+2]?=some (.int .i64 l[i].x):=by
 induction l generalizing i with
|nil=>simp at d
|cons a l ih =>
  cases i with
 |zero=>exact⟨rfl,rfl,rfl⟩
 |succ i =>
   have:=ih i (by simpa using d)
   rw [List.flatMap_cons,show (i+1) * 3=(i * 3)+3 by omega]
   simpa [pl] using this
def AR (base:Nat) (w:World) (v:Value) (l:List AJ):Prop:=w.ownsRow base 34 3 v l.length (l.flatMap pl)
theorem AR.sl (h:AR base w v l):∃ a c,v=.slice a l.length c/\AT w a l.length c l/\∀ x,a=some x->base<=x.block/\x.block < w.heap.size:=by
 rcases id h.2 with⟨m,hn⟩|⟨g,cap,B,m,u,f,q,p,C,o⟩
 ·have A:l=[]:=List.eq_nil_of_length_eq_zero hn
  subst A
  exact⟨none,0,m,AT.nil w,fun x d=>by cases d⟩
 ·refine⟨.some g,cap,m,⟨rfl,q,p,(fun h=>by cases h),fun x d i y=>?_⟩,fun x d=>by cases d;exact⟨u,Qa f⟩⟩
  cases d
  have e:∀ j,j < l.length * 3->w.cell? (g j)=(l.flatMap pl)[j]?:=by
   intro j z
   rw [cell_of_row _ _ _ _ _ _ f,<-o,List.getElem?_take_of_lt z];simp
  obtain⟨r,s,t⟩:=Yl l i y
  refine⟨rfl,Qa f,?_,?_,?_⟩
  ·simp only [Nat.zero_add];rw [e _ (by omega),r]
  ·simp only [Nat.zero_add];rw [e _ (by omega),s]
  ·simp only [Nat.zero_add];rw [e _ (by omega),t]
theorem AR.lt (h:AR base w v l):∀ k,v.ownBlock=some k->base<=k/\k < w.heap.size:=World.ownsRow.lt h
theorem AR.ext (h:AR base w v l) (e:Below w.heap.size w w'):AR base w' v l:=by
 refine⟨h.1,?_⟩
 rcases h.2 with hn|⟨g,cap,f,rfl,i,d,rest⟩
 ·exact .inl hn
 ·exact .inr ⟨g,cap,f,rfl,i,(e.block g (Array.getElem?_eq_some_iff.1 d).1).trans d,rest⟩
theorem AR.AI (h:AR base w v l) (e:∀ k,v.ownBlock=some k->w'.heap[k]?=w.heap[k]?):AR base w' v l:=by
 refine⟨h.1,?_⟩
 rcases h.2 with hn|⟨g,cap,d,rfl,i,f,rest⟩
 ·exact .inl hn
 ·exact .inr ⟨g,cap,d,rfl,i,(e g rfl).trans f,rest⟩
theorem AR.mono {b':Nat} (h:AR b w v l) (f:b'<=b):AR b' w v l:=by
 refine⟨h.1,?_⟩
 rcases h.2 with hn|⟨g,cap,d,rfl,e,rest⟩
 ·exact .inl hn
 ·exact .inr ⟨g,cap,d,rfl,Nat.le_trans f e,rest⟩
theorem AR.alloc (h:AR base w v l) (o:Obj):AR base (w.alloc o) v l:=World.ownsRow.alloc h o
theorem AR.nil (base:Nat) (w:World):AR base w (.slice none 0 0) []:=⟨rfl,.inl ⟨rfl,rfl⟩⟩
theorem AR.empty (w:World) (d:base<=w.heap.size):AR base (w.alloc (.cells #[] 34)) (.slice w.heap.size 0 0) [] :=
 ⟨rfl,.inr ⟨w.heap.size,0,#[],rfl,d,Qb _ _ _ rfl,zN _,by unfold maxLen;omega,rfl,rfl⟩⟩
theorem AT.one (w:World) (p:AJ) (t:TypeId):AT (w.alloc (.cells #[.string (str p.h),.bool p.s,p.x] t)) w.heap.size 1 1 [p]:=by
 refine⟨rfl,zN _,by unfold maxLen;omega,(fun h=>by cases h),fun x e i d=>?_⟩
 cases e
 obtain rfl:i=0:=by simpa using d
 refine⟨rfl,by simp,?_,?_,?_⟩ <;> (rw [World.cell?_alloc_at _ _ _ _ rfl];rfl)
theorem GC:(prog.info? 34).map (fun i=>(i.zero,i.size,i.bytes))=some (some (.agg #[.string ⟨#[]⟩,.bool false,.int .i64 0]),3,32):=by kernel_rfl
theorem Jj {z:Array Oper} {rest:List Oper} {o:Oper} {a:Act} {Q:Exit->Act->World->Prop} (hgd:o.guard=none) (s x:Operand)
 (ho:o.op=.call { callee:=.builtin .append,args:=#[s,x],argTypes:=#[42,42] })
 (base:Nat) (v:Value) (l:List AJ) (hs:a.eval s=v) (q:AR base w v l) (b:Option Addr) (m c:Nat) (l2:List AJ) (J:a.eval x=.slice b m c) (f:AT w b m c l2)
 (X:l.length+m<=1000000000) (M:base<=w.heap.size)
 (h:∀ i w',AR base w' i (l ++ l2)->w.grownBy w' v.ownBlock->wpList prog z Q rest (a.put o.dst i) w'):wpList prog z Q (o :: rest) a w:=by
 obtain⟨K,H,O,P,R⟩:=info_parts GC
 cases b with
|none =>
  obtain⟨rfl,rfl⟩:=f.2.2.2.1 rfl
  obtain rfl:m=0:=f.1.symm
  refine wpList_append_own_none hgd s x 42 ho base 34 K 3 underlying42 H v l.length _ hs q J ?_
  exact h v w (by simpa using q) ⟨rfl,rfl,rfl,zN _,fun _ _ _=>rfl⟩
|some d =>
  have t:=f.len
  refine wpList_append_own w hgd s x 42 ho base 34 K _ 3 32 underlying42 H O P R rfl (by decide) v l.length _ hs q d m c (l2.flatMap pl) J (by rw [Qf,t]) ?_ ?_ (by unfold maxLen;omega) (by omega) M ?_
  ·intro j u g
   have Y:j < l2.length * 3:=by
    have:=(List.getElem?_eq_some_iff.1 g).1;rwa [Qf] at this
   have r:j / 3 < l2.length:=by omega
   obtain⟨y,Z,A,B,C⟩:=f.2.2.2.2 d rfl (j / 3) r
   obtain⟨g1,F,G⟩:=Yl l2 (j / 3) r
   have N:d.add j=(d.block (d.off+j)):=by
    obtain⟨b,o,sp⟩:=d;simp only at y;subst y;unfold Addr.add;split <;> simp_all
   rw [N]
   have W:j % 3=0\/j % 3=1\/j % 3=2:=by omega
   rcases W with h0|h0|h0
   ·have e:j / 3 * 3=j:=by omega
    rw [e] at A g1
    rw [A,<-g,g1]
   ·have e:j / 3 * 3+1=j:=by omega
    rw [Nat.add_assoc,e] at B
    rw [e] at F
    rw [B,<-g,F]
   ·have e:j / 3 * 3+2=j:=by omega
    rw [Nat.add_assoc,e] at C
    rw [e] at G
    rw [C,<-g,G]
  ·intro u hu
   obtain⟨p,_,I⟩:=List.mem_flatMap.1 hu
   simp [pl] at I
   rcases I with rfl|rfl|rfl <;> rfl
  ·intro i w' T U _
   refine h i w' ?_ U
   unfold AR;rw [List.length_append,List.flatMap_append,t];exact T
theorem Wn (a:Option Addr) (n c:Nat) (l:List AJ) (w:World) (h:AT w a n c l) (hn:n<=1000000) :
 Calls prog 161 #[.slice a n c] w fun e w'=>∃ v,e=.returned v/\AR w.heap.size w' v l/\Below w.heap.size w w':=by
 cases a with
|none =>
  obtain⟨rfl,rfl⟩:=h.2.2.2.1 rfl
  obtain rfl:n=0:=h.1.symm
  have f:=fun (w:World)=>Lib.run_eql_slice_nil (P:=prog) w 42 34 none 0 0 0 0 underlying42
  go_in
  go_wp2
  go_ret
  exact⟨_,rfl,AR.nil _ _,Below.refl _ _⟩
|some d =>
  have i:AT (w.alloc (.cells #[] 34)) (some d) n c l:=h.ext ((Below.refl _ _).alloc (zN _) _)
  have f:=fun (w:World)=>Lib.run_eql_slice_nil (P:=prog) w 42 34 (some d) n c 0 0 underlying42
  go_in
  go_wp2_with (at_builtin;refine Jj rfl _ _ rfl w.heap.size _ [] rfl (AR.empty w (zN _)) (some d) n c l rfl i (by simp;omega) (by simp) ?_;intro v o g j)
  go_ret
  exact⟨v,rfl,g,((Below.refl _ _).alloc (zN _) _).grown j (by simp) (fun k m=>by cases m;exact zN _)⟩
end
section
open Go.RowKit
variable {a:Option Addr} {k n:Nat}
structure Fp (A:(Nat->Prop)->World->Prop):Prop where
 AI:∀ {F:Nat->Prop} {w w':World},A F w->(∀ b,F b->w'.heap[b]?=w.heap[b]?)->w.heap.size<=w'.heap.size->A F w'
 lt:∀ {F:Nat->Prop} {w:World},A F w->∀ k,F k->k < w.heap.size
theorem Fp.ext {A:(Nat->Prop)->World->Prop} (h:Fp A) {F:Nat->Prop} {w w':World} (a:A F w) (e:Below w.heap.size w w'):A F w':=h.AI a (fun b d=>e.block b (h.lt a b d)) e.size
def RS (W:World) (A B:(Nat->Prop)->World->Prop) (F G:Nat->Prop) (w:World):Prop :=
 A F w/\B G w/\(∀ k,F k->¬ G k)/\(∀ k,F k->W.heap.size<=k)/\(∀ k,G k->W.heap.size<=k)/\Below W.heap.size W w
section
variable {W:World} {A B A' B':(Nat->Prop)->World->Prop} {F G F' G':Nat->Prop} {w w':World}
theorem RS.below (h:RS W A B F G w):Below W.heap.size W w:=h.2.2.2.2.2
theorem RS.GJ (h:RS W A B F G w) (b:Fp B) (a:A' F' w') (u:AD F w F' w'):RS W A' B F' G w':=by
 obtain⟨j,d,f,g,i,e⟩:=h
 exact⟨a,b.AI d (u.stays f (b.lt d)) u.size,u.apart f (b.lt d),u.lo g e.size,i,u.below e g e.size⟩
theorem RS.KO (h:RS W A B F G w) (d:Fp A) (b:B' G' w') (u:AD G w G' w'):RS W A B' F G' w':=by
 obtain⟨e,m,j,l,i,f⟩:=h
 have g:∀ k,G k->¬ F k:=fun k x y=>j k y x
 exact⟨d.AI e (u.stays g (d.lt e)) u.size,b,fun k x y=>u.apart g (d.lt e) k y x,l,u.lo i f.size,u.below f i f.size⟩
theorem RS.ext (h:RS W A B F G w) (d:Fp A) (f:Fp B) (e:Below w.heap.size w w'):RS W A B F G w':=by
 obtain⟨g,i,j,l,m,b⟩:=h
 exact⟨d.ext g e,f.ext i e,j,l,m,b.trans (e.mono b.size)⟩
end
section
variable {F F':Nat->Prop} {w w':World} {v:Value} {c:Int} {L:List AJ}
theorem AT.blt' (h:AT w a n k L) {x:Addr} (d:a=some x) (b:L ≠ []):x.block < w.heap.size:=(h.2.2.2.2 x d 0 (List.length_pos_iff.2 b)).2.1
theorem AT.upd (h:AT w a n k L) (u:AD F w F' w') (hF:∀ x,a=some x->L ≠ []->¬ F x.block):AT w' a n k L :=
 h.AI (fun x d b=>u.block x.block (h.blt' d b) (hF x d b)) u.size
end
end
section
open Go.RowKit
theorem Uu (p:AJ) (hp:p.h.length<=900) (w:World) :
 Calls prog 142 #[pv p] w (IT p w):=by
 have u:=zH (fun W=>Xz false p (by omega) W)
 have F:=(Below.refl w.heap.size w).alloc (zN _) (.cells (pc p) 34)
 have A:(w.alloc (.cells (pc p) 34)).heap[w.heap.size]?=some (.cells (pc p) 34 (0,0)):=Qb _ _ _ rfl
 have G:(w.alloc (.cells (pc p) 34)).heap.size=w.heap.size+1:=by simp
 have U:=zH ((AJ.BY p).1)
 have T:=zH (fun W=>Cr p.h (by omega) W)
 have K:=zH (show AJ.enc p=Wi.txt p.h ++ (Wi.enc (if p.s then 1 else 0) ++ Wi.enc p.x.toNat) from rfl)
 have B:=zH (show (Wi.txt p.h).length<=1000 by
  have:=Wi.BG (v:=p.h.length) (by omega);unfold Wi.txt;rw [List.length_append];omega)
 unfold IT
 obtain⟨ok,zc⟩:∃ b,AJ.AB p=b:=⟨_,rfl⟩
 rw [zc] at u U ⊢
 clear zc
 obtain⟨o,ps,px⟩:=p
 unfold pv at u ⊢
 unfold pc at F A G
 simp only at u F A G U T K B ⊢
 obtain⟨sh,zd⟩:∃ s,str o=s:=⟨_,rfl⟩
 rw [zd] at u F A G T ⊢
 have r:=zH (And.intro F (And.intro A G))
 clear zd F A G
 cases ok with
|false =>
  go_in
  go_wp2_with fail
  refine (u.out _).mono ?_;rintro e c ⟨rfl,l⟩
  rw [r.out.2.2] at l
  go_wp2_with fail
  go_ret2
  exact⟨_,rfl,AC.nil _ _,r.out.1.trans (l.mono (Nat.le_succ _))⟩
|true =>
  obtain⟨-,x0,x1⟩:=U.out rfl
  obtain⟨y,rfl⟩:∃ n:Nat,px=(n:Int):=⟨px.toNat,by omega⟩
  simp only [Int.toNat_natCast] at K
  have wx:IntKind.u64.wrap (y:Int)=(y:Int):=by unfold IntKind.wrap;simp only [IntKind.bits,IntKind.signed];simp;omega
  have HU:=zH (fun W=>Wj y (by omega) W)
  have HX:=zH (And.intro x0 x1)
  clear x0 x1
  go_in
  go_wp2_with fail
  refine (u.out _).mono ?_;rintro e c ⟨rfl,l⟩
  rw [r.out.2.2] at l
  have j:=r.out.1.trans (l.mono (Nat.le_succ _))
  have I:w.heap.size < c.heap.size:=by have:=l.size;rw [r.out.2.2] at this;omega
  have za:c.heap[w.heap.size]?=some (.cells #[.string sh,.bool ps,y] 34 (0,0)):=(l.block _ (Nat.lt_succ_self _)).trans r.out.2.1
  have J:=zH (show ∀ H,Below c.heap.size c H->H.cell? w.heap.size=some (.string sh)/\H.cell? (w.heap.size 1)=some (.bool ps)/\H.cell? (w.heap.size 2)=some (y:Value) by
   intro H hb
   have Y:=(hb.block _ I).trans za
   exact⟨(cell_of_row _ _ _ _ _ _ Y).trans rfl,(cell_of_row _ _ _ _ _ _ Y).trans rfl,(cell_of_row _ _ _ _ _ _ Y).trans rfl⟩)
  clear za
  obtain⟨c0,-,-⟩:=J.out c (Below.refl _ _)
  go_wp2_with fail
  refine (T.out _).mono ?_;rintro e N ⟨v2,rfl,M,d⟩
  obtain⟨d0,d1,d2⟩:=J.out N d
  have zg:w.heap.size < N.heap.size:=Nat.lt_of_lt_of_le I d.size
  have zf:=j.trans (d.mono j.size)
  have zb:=zH (show (Wi.enc y).length<=10 from (Wi.BG (by have:=HX.out.2;omega)).2)
  cases ps with
 |true =>
   have R:=zH (fun W t=>AM.RJ W (1:Int) 1 rfl t)
   go_wp2_with (first
   |(at_builtin;refine Qc rfl _ _ rfl c.heap.size _ (Wi.txt o) rfl (M.alloc _) N.heap.size 1 1 [1] rfl (R.out _ _) (by have:=B.out;omega) (by have:=d.size;simp;omega) ?_;intro v3 q z a _;have f:Below c.heap.size c q:=(d.alloc d.size _).grown a (by have:=d.size;simp;omega) (fun g a=>(M.lt g a).1);clear a;obtain⟨-,-,f2⟩:=J.out q f;have ze:w.heap.size < q.heap.size:=Nat.lt_of_lt_of_le I f.size)
   |fail)
   refine (HU.out _).mono ?_;rintro e w4 ⟨v4,rfl,X,C⟩
   have k:=f.trans (C.mono f.size)
   obtain⟨a4,k4,rfl,Z,-⟩:=X.sl
   have Q:=zH (show (Wi.txt o ++ [1]).length<=1001 by rw [List.length_append];have:=B.out;simpa using this)
   go_wp2_with (at_builtin;refine Qc rfl _ _ rfl c.heap.size _ (Wi.txt o ++ [1]) rfl (z.ext C) a4 _ k4 _ rfl Z (by have:=Q.out;have:=zb.out;omega) k.size ?_;intro v5 w5 O a _;have P:Below c.heap.size c w5:=k.grown a k.size (fun g a=>(z.lt g a).1);clear a)
   go_wp2_with fail
   go_ret2
   have m:=O.mono j.size
   rw [List.append_assoc,show [1]=Wi.enc 1 by decide +kernel] at m
   have i:=K.out
   first|rw [if_pos trivial] at i|rw [if_neg id] at i|simp only [if_false,Bool.false_eq_true] at i
   rw [<-i] at m
   exact⟨_,rfl,m,j.trans (P.mono j.size)⟩
 |false =>
   have R:=zH (fun W t=>AM.RJ W (0:Int) 0 rfl t)
   go_wp2_with (first
   |(at_builtin;refine Qc rfl _ _ rfl c.heap.size _ (Wi.txt o) rfl (M.alloc _) N.heap.size 1 1 [0] rfl (R.out _ _) (by have:=B.out;omega) (by have:=d.size;simp;omega) ?_;intro v3 q z a _;have f:Below c.heap.size c q:=(d.alloc d.size _).grown a (by have:=d.size;simp;omega) (fun g a=>(M.lt g a).1);clear a;obtain⟨-,-,f2⟩:=J.out q f;have ze:w.heap.size < q.heap.size:=Nat.lt_of_lt_of_le I f.size)
   |fail)
   refine (HU.out _).mono ?_;rintro e w4 ⟨v4,rfl,X,C⟩
   have k:=f.trans (C.mono f.size)
   obtain⟨a4,k4,rfl,Z,-⟩:=X.sl
   have Q:=zH (show (Wi.txt o ++ [0]).length<=1001 by rw [List.length_append];have:=B.out;simpa using this)
   go_wp2_with (at_builtin;refine Qc rfl _ _ rfl c.heap.size _ (Wi.txt o ++ [0]) rfl (z.ext C) a4 _ k4 _ rfl Z (by have:=Q.out;have:=zb.out;omega) k.size ?_;intro v5 w5 O a _;have P:Below c.heap.size c w5:=k.grown a k.size (fun g a=>(z.lt g a).1);clear a)
   go_wp2_with fail
   go_ret2
   have m:=O.mono j.size
   rw [List.append_assoc,show [0]=Wi.enc 0 by decide +kernel] at m
   have i:=K.out
   first|rw [if_pos trivial] at i|rw [if_neg id] at i|simp only [if_false,Bool.false_eq_true] at i
   rw [<-i] at m
   exact⟨_,rfl,m,j.trans (P.mono j.size)⟩
end
section
open Go.RowKit
set_option linter.unusedSimpArgs false in
theorem Yw (β:Bool) (a:Option Addr) (n c:Nat) (b:List UInt8) (w:World) (h:AM w a n c b) (hn:n<=1000000) :
 Calls prog (cond β 159 136) #[.slice a n c] w (DW b w):=by
 have P0:=zH (@Nb β)
 have R:=Mk.mk β
 cases β <;> dsimp only [cond]
 all_goals
  have zh:=(Below.refl w.heap.size w).alloc (zN _) (.cells #[.string ⟨#[]⟩,.bool false,.int .i64 0] 34)
  have zi:(w.alloc (.cells #[.string ⟨#[]⟩,.bool false,.int .i64 0] 34)).heap.size=w.heap.size+1:=by simp
  have zf:=zH (show (w.alloc (.cells #[.string ⟨#[]⟩,.bool false,.int .i64 0] 34)).heap[w.heap.size]?=some (.cells #[.string ⟨#[]⟩,.bool false,.int .i64 0] 34 (0,0)) from Qb _ _ _ rfl)
  have r:=h.ext ((Below.refl w.heap.size w).alloc (zN _) (.cells #[.string ⟨#[]⟩,.bool false,.int .i64 0] 34))
  have H:=zH zh
  have zg:=zH zi
  have hT:=P0.out a n c b _ r hn
  have y:=h.len
  obtain⟨t,d,U,i⟩:∃ t d U,Wi.CB b=(t,d,U):=⟨_,_,_,rfl⟩
  rw [i] at hT
  dsimp only at hT
  have zl:=zH (show ∃ s,str t=s from ⟨_,rfl⟩)
  obtain⟨st,z⟩:=zl.out
  have zk:=zH z
  rw [z] at hT
  have K:=zH hT
  clear hT zh zi h
  by_cases A:U ≠ 0
  ·have o:=zH (AJ.SP i A)
   have t1:(U != 0)=true:=by simpa using A
   clear i A y z r
   go_in
   go_wp2_with fail
   refine K.out.mono ?_;rintro e T ⟨rfl,rfl⟩
   go_wp2_with fail
   refine bodyPost_ret (v:=.tuple #[.agg #[.string ⟨#[]⟩,.bool false,.int .i64 0],.int .i64 (0:Nat),U]) (by simp [results,results159,results136,go_sem]) rfl (DW.of o.out rfl ?_)
   exact H.out
  obtain rfl:U=0:=by simpa using A
  obtain⟨-,q1,q2,q3,q4⟩:=Wi.FW i
  rw [y] at q1
  have Q:d<=n:=q1
  have J:(b.drop d).length=n - d:=by rw [List.length_drop,y]
  obtain⟨l,f,C,j⟩:∃ l f C,Wi.dec (b.drop d)=(l,f,C):=⟨_,_,_,rfl⟩
  first
  |(replace R:Mk true:=R
    have zd:∀ a2 g W,AM W a2 (n - d) g (b.drop d)->Calls prog 185 #[.slice a2 (n - d) g] W fun e O=>e=.returned (.tuple #[.int .u64 (l:Nat),f,C])/\W=O:=by
     intro a2 g W hs
     have:=Kd a2 (n - d) g (b.drop d) W hs (by omega)
     rw [j] at this;exact this)
  |have zd:∀ a2 g W,AM W a2 (n - d) g (b.drop d)->Calls prog 135 #[.slice a2 (n - d) g] W fun e O=>e=.returned (.tuple #[.int .u64 (l:Nat),f,C])/\W=O:=by
    intro a2 g W hs
    have:=Xk a2 (n - d) g (b.drop d) W hs (by omega)
    rw [j] at this;exact this
  have P:=zH zd
  have m1:(0:Int)<=(d:Int):=by omega
  have m2:(d:Int)<=(n:Int):=by omega
  clear zd
  by_cases B:C ≠ 0
  ·have o:=zH (AJ.SR i j B)
   have t2:(C != 0)=true:=by simpa using B
   have k0:(f:Int)<=1000000:=by
    have:=j
    unfold Wi.dec at this
    split at this
    ·cases this;decide
    ·split at this
     ·cases this;decide
     ·split at this
      ·cases this;decide
      ·split at this
       ·cases this;decide
       ·cases this;exact absurd rfl B
   have k1:(0:Int)<=(f:Int):=by omega
   clear i j A B y z J
   go_in
   go_wp2_with fail
   refine K.out.mono ?_;rintro e T ⟨rfl,rfl⟩
   go_wp2_with (refine Qg rfl _ _ rfl rfl d _ rfl rfl r Q ?_;intro a2 u)
   refine (P.out _ _ _ u).mono ?_;rintro e w2 ⟨rfl,rfl⟩
   go_wp2_with fail
   refine bodyPost_ret (v:=.tuple #[.agg #[.string ⟨#[]⟩,.bool false,.int .i64 0],.int .i64 (0:Nat),C]) (by simp [results,results159,results136,go_sem]) rfl (DW.of o.out rfl ?_)
   exact H.out
  obtain rfl:C=0:=by simpa using B
  obtain⟨-,r1,r2,r3,r4⟩:=Wi.AY j
  rw [J] at r1
  have za:d+f<=n:=by omega
  have m3:(0:Int)<=(f:Int):=by omega
  have m4:(d:Int)+(f:Int)<=(n:Int):=by omega
  by_cases Z:1 < l
  ·have o:=zH (AJ.SS i j Z)
   have t3:(1:Int) < (l:Int):=by omega
   clear i j A B y z J
   go_in
   go_wp2_with fail
   refine K.out.mono ?_;rintro e T ⟨rfl,rfl⟩
   go_wp2_with (refine Qg rfl _ _ rfl rfl d _ rfl rfl r Q ?_;intro a2 u)
   refine (P.out _ _ _ u).mono ?_;rintro e w2 ⟨rfl,rfl⟩
   go_wp2_with fail
   refine bodyPost_ret (v:=.tuple #[.agg #[.string ⟨#[]⟩,.bool false,.int .i64 0],.int .i64 (0:Nat),.int .i64 6]) (by simp [results,results159,results136,go_sem]) rfl (DW.of o.out rfl ?_)
   exact H.out
  have t3:¬ (1:Int) < (l:Int):=by omega
  have X:(b.drop (d+f)).length=n - (d+f):=by rw [List.length_drop,y]
  obtain⟨v3,N,z3,x⟩:∃ v3 N z3,Wi.dec (b.drop (d+f))=(v3,N,z3):=⟨_,_,_,rfl⟩
  first
  |(replace R:Mk true:=R
    have ze:∀ a2 g W,AM W a2 (n - (d+f)) g (b.drop (d+f))->Calls prog 185 #[.slice a2 (n - (d+f)) g] W fun e O=>e=.returned (.tuple #[.int .u64 (v3:Nat),N,z3])/\W=O:=by
     intro a2 g W hs
     have:=Kd a2 (n - (d+f)) g (b.drop (d+f)) W hs (by omega)
     rw [x] at this;exact this)
  |have ze:∀ a2 g W,AM W a2 (n - (d+f)) g (b.drop (d+f))->Calls prog 135 #[.slice a2 (n - (d+f)) g] W fun e O=>e=.returned (.tuple #[.int .u64 (v3:Nat),N,z3])/\W=O:=by
    intro a2 g W hs
    have:=Xk a2 (n - (d+f)) g (b.drop (d+f)) W hs (by omega)
    rw [x] at this;exact this
  have zb:=zH ze
  clear ze
  by_cases M:z3 ≠ 0
  ·have o:=zH (AJ.ST i j Z x M)
   have t4:(z3 != 0)=true:=by simpa using M
   clear i j x A B M y z J X
   go_in
   go_wp2_with fail
   refine K.out.mono ?_;rintro e T ⟨rfl,rfl⟩
   go_wp2_with (refine Qg rfl _ _ rfl rfl d _ rfl rfl r Q ?_;intro a2 u)
   refine (P.out _ _ _ u).mono ?_;rintro e w2 ⟨rfl,rfl⟩
   go_wp2_with (refine Qg rfl _ _ rfl rfl (d+f) _ (by omega) rfl r za ?_;intro a3 G)
   refine (zb.out _ _ _ G).mono ?_;rintro e w3 ⟨rfl,rfl⟩
   go_wp2_with fail
   refine bodyPost_ret (v:=.tuple #[.agg #[.string ⟨#[]⟩,.bool false,.int .i64 0],.int .i64 (0:Nat),z3]) (by simp [results,results159,results136,go_sem]) rfl (DW.of o.out rfl ?_)
   exact H.out
  obtain rfl:z3=0:=by simpa using M
  obtain⟨-,s1,s2,s3,s4⟩:=Wi.AY x
  rw [X] at s1
  have m5:(0:Int)<=(N:Int):=by omega
  have m6:(d:Int)+(f:Int)+(N:Int)<=(n:Int):=by omega
  by_cases e5:1099511627776 < v3
  ·have o:=zH (AJ.SU i j Z x e5)
   have t5:(1099511627776:Int) < (v3:Int):=by omega
   clear i j x A B M y z J X
   go_in
   go_wp2_with fail
   refine K.out.mono ?_;rintro e T ⟨rfl,rfl⟩
   go_wp2_with (refine Qg rfl _ _ rfl rfl d _ rfl rfl r Q ?_;intro a2 u)
   refine (P.out _ _ _ u).mono ?_;rintro e w2 ⟨rfl,rfl⟩
   go_wp2_with (refine Qg rfl _ _ rfl rfl (d+f) _ (by omega) rfl r za ?_;intro a3 G)
   refine (zb.out _ _ _ G).mono ?_;rintro e w3 ⟨rfl,rfl⟩
   go_wp2_with fail
   refine bodyPost_ret (v:=.tuple #[.agg #[.string ⟨#[]⟩,.bool false,.int .i64 0],.int .i64 (0:Nat),.int .i64 2]) (by simp [results,results159,results136,go_sem]) rfl (DW.of o.out rfl ?_)
   exact H.out
  have t5:¬ (1099511627776:Int) < (v3:Int):=by omega
  first|(replace R:Mk true:=R;have hV:=fun W=>Xt t (by omega) W)|have hV:=fun W=>Xc t (by omega) W
  rw [z] at hV
  obtain⟨nb,Y⟩:∃ b,Ho.name t=b:=⟨_,rfl⟩
  rw [Y] at hV
  have HV:=zH hV
  clear hV
  cases nb with
 |false =>
   have o:=zH (AJ.SV i j Z x e5 Y)
   clear i j x A B M y z J X Y
   go_in
   go_wp2_with fail
   refine K.out.mono ?_;rintro e T ⟨rfl,rfl⟩
   go_wp2_with (refine Qg rfl _ _ rfl rfl d _ rfl rfl r Q ?_;intro a2 u)
   refine (P.out _ _ _ u).mono ?_;rintro e w2 ⟨rfl,rfl⟩
   go_wp2_with (refine Qg rfl _ _ rfl rfl (d+f) _ (by omega) rfl r za ?_;intro a3 G)
   refine (zb.out _ _ _ G).mono ?_;rintro e w3 ⟨rfl,rfl⟩
   go_wp2_with fail
   refine (HV.out _).mono ?_;rintro e q ⟨rfl,I⟩
   rw [zg.out] at I
   have m:q.heap[w.heap.size]?=some (.cells #[.string ⟨#[]⟩,.bool false,.int .i64 0] 34 (0,0)):=(I.block _ (Nat.lt_succ_self _)).trans zf.out
   have c0:q.cell? w.heap.size=some (.string ⟨#[]⟩):=(cell_of_row _ _ _ _ _ _ m).trans rfl
   have c1:q.cell? (w.heap.size 1)=some (.bool false):=(cell_of_row _ _ _ _ _ _ m).trans rfl
   have g:q.cell? (w.heap.size 2)=some (.int .i64 0):=(cell_of_row _ _ _ _ _ _ m).trans rfl
   have f0:∀ k,q.frozen? (w.heap.size k)=false:=fun k=>frozen_of_row _ _ _ _ _ m
   have zj:w.heap.size < q.heap.size:=Qa m
   go_wp2_with fail
   have F:=VD m (.string ⟨#[]⟩) (.bool false) (.int .i64 0)
   have d0:=(cell_of_row _ _ 0 _ _ _ F).trans rfl
   have d1:=(cell_of_row _ _ 1 _ _ _ F).trans rfl
   have d2:=(cell_of_row _ _ 2 _ _ _ F).trans rfl
   have zc:=(((H.out.trans (I.mono (Nat.le_succ _))).setCell (p:=w.heap.size) (zN _) (.string ⟨#[]⟩)).setCell (p:=(w.heap.size 1)) (zN _) (.bool false)).setCell (p:=(w.heap.size 2)) (zN _) (.int .i64 0)
   refine bodyPost_ret (v:=.tuple #[.agg #[.string ⟨#[]⟩,.bool false,.int .i64 0],.int .i64 (0:Nat),.int .i64 14]) (by simp [results,results159,results136,go_sem,d0,d1,d2]) rfl (DW.of o.out rfl ?_)
   exact zc
 |true =>
   have o:=zH (AJ.SW i j Z x e5 Y)
   have wv:IntKind.i64.wrap (v3:Int)=(v3:Int):=by rw [IntKind.wrap_i64];omega
   clear i j x A B M y J X Y z
   go_in
   go_wp2_with fail
   refine K.out.mono ?_;rintro e T ⟨rfl,rfl⟩
   go_wp2_with (refine Qg rfl _ _ rfl rfl d _ rfl rfl r Q ?_;intro a2 u)
   refine (P.out _ _ _ u).mono ?_;rintro e w2 ⟨rfl,rfl⟩
   go_wp2_with (refine Qg rfl _ _ rfl rfl (d+f) _ (by omega) rfl r za ?_;intro a3 G)
   refine (zb.out _ _ _ G).mono ?_;rintro e w3 ⟨rfl,rfl⟩
   go_wp2_with fail
   refine (HV.out _).mono ?_;rintro e q ⟨rfl,I⟩
   rw [zg.out] at I
   have m:q.heap[w.heap.size]?=some (.cells #[.string ⟨#[]⟩,.bool false,.int .i64 0] 34 (0,0)):=(I.block _ (Nat.lt_succ_self _)).trans zf.out
   have c0:q.cell? w.heap.size=some (.string ⟨#[]⟩):=(cell_of_row _ _ _ _ _ _ m).trans rfl
   have c1:q.cell? (w.heap.size 1)=some (.bool false):=(cell_of_row _ _ _ _ _ _ m).trans rfl
   have g:q.cell? (w.heap.size 2)=some (.int .i64 0):=(cell_of_row _ _ _ _ _ _ m).trans rfl
   have f0:∀ k,q.frozen? (w.heap.size k)=false:=fun k=>frozen_of_row _ _ _ _ _ m
   have zj:w.heap.size < q.heap.size:=Qa m
   go_wp2_with fail
   have F:=VD m (.string st) (.bool ((l:Int) == 1)) (v3:Value)
   have d0:=(cell_of_row _ _ 0 _ _ _ F).trans rfl
   have d1:=(cell_of_row _ _ 1 _ _ _ F).trans rfl
   have d2:=(cell_of_row _ _ 2 _ _ _ F).trans rfl
   have zc:=(((H.out.trans (I.mono (Nat.le_succ _))).setCell (p:=w.heap.size) (zN _) (.string st)).setCell (p:=(w.heap.size 1)) (zN _) (.bool ((l:Int) == 1))).setCell (p:=(w.heap.size 2)) (zN _) (v3:Value)
   have eb:decide (l=1)=((l:Int) == 1):=by rw [show ((l:Int) == 1)=decide ((l:Int)=1) from rfl];apply decide_eq_decide.2;omega
   refine bodyPost_ret (v:=.tuple #[.agg (pc ⟨t,decide (l=1),(v3:Int)⟩),.int .i64 ((d+f+N):Nat),.int .i64 0]) (by unfold pc;simp [results,results159,results136,go_sem,d0,d1,d2,zk.out,eb]) rfl (DW.of o.out rfl ?_)
   exact zc
end
section
open Go.RowKit
variable {w:World} {B:Nat} {h:ByteArray} {s:Bool} {x:Int}
def JM (w:World) (B:Nat) (h:ByteArray) (s:Bool) (x:Int):Prop:=w.heap[B]?=some (.cells #[.string h,.bool s,x] 34 (0,0))
theorem JM.cells (a:JM w B h s x):w.cell? B=some (.string h)/\w.cell? (B 1)=some (.bool s)/\w.cell? (B 2)=some (x:Value) :=
 ⟨(cell_of_row _ _ _ _ _ _ a).trans rfl,(cell_of_row _ _ _ _ _ _ a).trans rfl,(cell_of_row _ _ _ _ _ _ a).trans rfl⟩
theorem JM.ext {w':World} (a:JM w B h s x) (e:AP w w'):JM w' B h s x:=(Below.block e _ (Qa a)).trans a
theorem JM.new (w:World) (h:ByteArray) (s:Bool) (x:Int):JM (w.alloc (.cells #[.string h,.bool s,x] 34)) w.heap.size h s x:=Qb _ _ _ rfl
end
section
open Go.RowKit
variable {w:World} {B:Nat} {k x:Int} {h:ByteArray} {s:Bool}
def uc (u:BS):Array Value:=#[u.k,.string (str u.p.h),.bool u.p.s,u.p.x]
def uv (u:BS):Value:=.agg (uc u)
def BV (w:World) (B:Nat) (k:Int) (h:ByteArray) (s:Bool) (x:Int):Prop:=w.heap[B]?=some (.cells #[k,.string h,.bool s,x] 36 (0,0))
theorem BV.cells (a:BV w B k h s x):w.cell? B=some (k:Value)/\w.cell? (B 1)=some (.string h)/\w.cell? (B 2)=some (.bool s)/\w.cell? (B 3)=some (x:Value) :=
 ⟨(cell_of_row _ _ _ _ _ _ a).trans rfl,(cell_of_row _ _ _ _ _ _ a).trans rfl,(cell_of_row _ _ _ _ _ _ a).trans rfl,(cell_of_row _ _ _ _ _ _ a).trans rfl⟩
theorem BV.frz (a:BV w B k h s x):∀ j,w.frozen? (B j)=false:=fun _=>frozen_of_row _ _ _ _ _ a
theorem BV.al (a:BV w B k h s x):(w.cell? B=some (k:Value)/\w.cell? (B 1)=some (.string h)/\w.cell? (B 2)=some (.bool s)/\w.cell? (B 3)=some (x:Value))/\(∀ j,w.frozen? (B j)=false)/\B < w.heap.size:=⟨a.cells,a.frz,Qa a⟩
theorem BV.ext {w':World} (a:BV w B k h s x) (e:AP w w'):BV w' B k h s x:=(Below.block e _ (Qa a)).trans a
theorem BV.new (w:World) (k:Int) (h:ByteArray) (s:Bool) (x:Int):BV (w.alloc (.cells #[k,.string h,.bool s,x] 36)) w.heap.size k h s x:=Qb _ _ _ rfl
end
section
open Go.RowKit
theorem Uk (a:Option Addr) (n c:Nat) (l:List AJ) (w:World) (h:AT w a n c l) (hn:n<=1000000) :
 Calls prog 71 #[.slice a n c] w fun e b=>∃ v,e=.returned v/\AR w.heap.size b v l/\Below w.heap.size w b:=by
 have f:AT (w.alloc (.cells #[] 34)) a n c l:=h.ext ((Below.refl _ _).alloc (zN _) _)
 go_in
 go_wp2_with (at_builtin;refine Jj rfl _ _ rfl w.heap.size _ [] rfl (AR.empty w (zN _)) a n c l rfl f (by simp;omega) (by simp) ?_;intro v j d g)
 go_ret
 exact⟨v,rfl,d,((Below.refl _ _).alloc (zN _) _).grown g (by simp) (fun k i=>by cases i;exact zN _)⟩
theorem Kl (m:Nat) (a:Option Addr) (n c:Nat) (l:List AJ) (w:World) (h:AT w a n c l) :
 Calls prog 23 #[.slice a n c,m] w fun e J=>e=.returned (.bool (decide (n<=m) && l.all fun x=>decide (x.h.length<=300)))/\Below w.heap.size w J:=by
 have M:=h.le
 have I:=zH h.len
 obtain⟨r,hr⟩:∃ r,r=(decide (n<=m) && l.all fun x=>decide (x.h.length<=300)):=⟨_,rfl⟩
 rw [<-hr]
 have y:=zH hr
 clear hr
 by_cases N:m < n
 ·have i3:(m:Int) < (n:Int):=by omega
  have g:r=false:=by rw [y.out,decide_eq_false (by omega)];rfl
  subst g
  go_in
  go_wp2_with fail
  go_ret
  exact⟨rfl,Below.refl _ _⟩
 have T:¬ (m:Int) < (n:Int):=by omega
 have q:=zH (show r=l.all fun x=>decide (x.h.length<=300) by rw [y.out,decide_eq_true (by omega)];rfl)
 go_in
 go_wp2_with fail
 go_loopw [5] (fun i wr=>∃ k:Nat,k<=n/\i=.int .i64 k/\Hid (∀ x ∈ l.take k,x.h.length<=300)/\Below w.heap.size w wr) (fun i _=>n - (intOf i).toNat)
 case atStart=>exact⟨0,Nat.zero_le _,rfl,zH (by simp),Below.refl _ _⟩
 case round =>
  obtain⟨k,P,rfl,u,f⟩:=hrel
  have Q:(0:Int)<=(k:Int):=by omega
  by_cases F:k < n
  ·have R:(k:Int) < (n:Int):=by omega
   obtain⟨O,o,rfl,K,d,j,-,-⟩:=(h.ext f).at F
   rw [List.getElem?_eq_getElem d,Option.getD_some] at j
   have C:=zH (List.take_succ_eq_append_getElem d)
   have A:=zH (List.getElem_mem d)
   generalize l[k]=p at *
   have G:=AZ p.h
   obtain⟨z,t⟩:∃ z,str p.h=z:=⟨_,rfl⟩
   rw [t] at j G
   clear t d
   by_cases s:p.h.length<=300
   ·have i3:¬ (300:Int) < (p.h.length:Int):=by omega
    have B:=zH (show ∀ x ∈ l.take (k+1),x.h.length<=300 by
     rw [C.out];intro x b
     rcases List.mem_append.1 b with b|b
     ·exact u.out x b
     ·simp at b;subst b;exact s)
    go_wp2_with fail
    go_roundw
    case rel=>exact⟨k+1,by omega,by go_num,B,f⟩
    case measure=>simp [intOf];omega
   ·have i3:(300:Int) < (p.h.length:Int):=by omega
    have g:r=false:=by
     rw [q.out,List.all_eq_false];exact⟨p,A.out,by simpa using s⟩
    subst g
    go_wp2_with fail
    go_ret
    exact⟨rfl,f⟩
  ·obtain rfl:k=n:=by omega
   have H:r=true:=by
    rw [q.out,List.all_eq_true];have:=u.out;rw [List.take_of_length_le (by rw [I.out];exact zN _)] at this;exact fun x b=>by simpa using this x b
   subst H
   go_wp2_with fail
   go_ret
   exact⟨rfl,f⟩
theorem Wr (l k:List AJ) (i:Nat) (b:i < l.length) (c:i < k.length) (h:l.take i=k.take i):(l.take (i+1)=k.take (i+1)) ↔ l[i]=k[i]:=by
 rw [List.take_succ_eq_append_getElem b,List.take_succ_eq_append_getElem c,h]
 exact⟨fun a=>by simpa using List.append_cancel_left a,fun a=>by rw [a]⟩
theorem Bh (a b:Option Addr) (n m c d:Nat) (q p:List AJ) (w:World) (h:AT w a n c q) (G:AT w b m d p) :
 Calls prog 69 #[.slice a n c,.slice b m d] w fun e w'=>e=.returned (.bool (decide (q=p)))/\Below w.heap.size w w':=by
 have zd:=h.le
 have zb:=G.le
 have z:=h.len
 have u:=G.len
 by_cases F:n=m
 ·subst F
  obtain⟨r,hr⟩:∃ r,r=decide (q=p):=⟨_,rfl⟩
  rw [<-hr]
  have O:=zH hr;have HL:=zH z;have U:=zH u
  clear hr z u
  go_in
  go_wp2
  go_loopw [5] (fun i wr=>∃ k:Nat,k<=n/\i=.int .i64 k/\Hid (q.take k=p.take k)/\Below w.heap.size w wr) (fun i _=>n - (intOf i).toNat)
  case atStart=>exact⟨0,Nat.zero_le _,rfl,zH rfl,Below.refl _ _⟩
  case round =>
   obtain⟨k,hk,rfl,P,l⟩:=hrel
   by_cases M:k < n
   ·obtain⟨g,o,rfl,hg,C,J,K,W⟩:=(h.ext l).at M
    obtain⟨g',o',rfl,zc,B,X,Y,Z⟩:=(G.ext l).at M
    have b0:(0:Int)<=(k:Int):=by omega
    have b1:(k:Int) < (n:Int):=by omega
    have N:=zH (Wr q p k C B P.out)
    rw [List.getElem?_eq_getElem C,Option.getD_some] at J K W
    rw [List.getElem?_eq_getElem B,Option.getD_some] at X Y Z
    generalize q[k]=f at *
    generalize p[k]=j at *
    clear C B
    by_cases hu:f=j
    ·subst hu
     generalize str f.h=R at *
     generalize f.s=H at *
     generalize f.x=I at *
     go_wp2
     go_quiet (fail)
     go_wp2
     go_roundw
     case rel=>exact⟨k+1,by omega,by go_num,zH (N.out.2 trivial),l.trans (Qh _ _ _)⟩
     case measure=>simp [intOf];omega
    ·have HU:=zH hu
     have y:r=false:=by
      rw [O.out];apply decide_eq_false;intro e;exact hu (N.out.1 (by rw [e]))
     subst y
     by_cases t:f.h=j.h
     ·rw [t] at J
      generalize str j.h=R at *
      by_cases A:f.s=j.s
      ·rw [A] at K
       have Q:(f.x == j.x)=false:=by
        apply beq_eq_false_iff_ne.2;intro e;apply hu;obtain⟨a1,a2,a3⟩:=f;obtain⟨b1,b2,b3⟩:=j;simp_all
       generalize j.s=H at *
       generalize f.x=I at *
       generalize j.x=T at *
       clear t A hu
       go_wp2
       go_quiet (fail)
       go_wp2
       go_ret
       exact⟨rfl,l.trans (Qh _ _ _)⟩
      ·have Q:(f.s == j.s)=false:=beq_eq_false_iff_ne.2 A
       generalize f.s=H at *
       generalize j.s=p2 at *
       generalize f.x=I at *
       generalize j.x=T at *
       clear t A hu
       go_wp2
       go_quiet (fail)
       go_wp2
       go_ret
       exact⟨rfl,l.trans (Qh _ _ _)⟩
     ·have Q:((str f.h).toList == (str j.h).toList)=false:=by
       rw [AQ,AQ];exact beq_eq_false_iff_ne.2 t
      generalize str f.h=R at *
      generalize str j.h=s2 at *
      generalize f.s=H at *
      generalize j.s=p2 at *
      generalize f.x=I at *
      generalize j.x=T at *
      clear t hu
      go_wp2
      go_quiet (fail)
      go_wp2
      go_ret
      exact⟨rfl,l.trans (Qh _ _ _)⟩
   ·obtain rfl:k=n:=by omega
    have za:r=true:=by
     rw [O.out];apply decide_eq_true;have:=P.out
     rwa [List.take_of_length_le (by rw [HL.out];exact zN _),List.take_of_length_le (by rw [U.out];exact zN _)] at this
    subst za
    go_wp2
    go_ret
    exact⟨rfl,l⟩
 ·have y:decide (q=p)=false:=by apply decide_eq_false;intro e;apply F;rw [<-z,<-u,e]
  rw [y]
  have t1:((n:Int) != (m:Int))=true:=bne_iff_ne.2 (by omega)
  clear F y z u
  go_in
  go_wp2
  go_ret
  exact⟨rfl,Below.refl _ _⟩
end
section
open Go.RowKit
theorem Nd (L:List AJ) (m k:Nat) {p:AJ} (h:L[k]?=some p):BA.chk L (m+1) k=if AJ.AB p=false then 1 else if 0 < k/\0<=Ho.cmp (L.getD (k - 1) AJ.none).h p.h then 8 else BA.chk L m (k+1):=by
 rw [BA.chk,h]
theorem Lu (cap:Int) (a:Option Addr) (n c:Nat) (L:List AJ) (w:World) (h:AT w a n c L) (hn:n<=1000000) (hL:∀ p ∈ L,p.h.length<=1000000) :
 Calls prog 117 #[.slice a n c,cap] w fun e d=>e=.returned (.int .i64 (BA.load L cap))/\Below w.heap.size w d:=by
 have zk:=zH h.len
 have M:=zH hL
 obtain⟨r,hr⟩:∃ r,BA.load L cap=r:=⟨_,rfl⟩
 rw [hr]
 unfold BA.load at hr
 rw [h.len] at hr
 clear hL
 by_cases I:cap < 1\/1000 < cap
 ·rw [if_pos I] at hr
  subst hr
  by_cases N:cap < 1
  case' neg=>have h3:1000 < cap:=by omega
  all_goals
   clear I
   go_in
   go_wp2_with fail
   go_ret
   exact⟨rfl,Below.refl _ _⟩
 rw [if_neg I] at hr
 have g1:¬ cap < 1:=by omega
 have g2:¬ 1000 < cap:=by omega
 clear I
 by_cases N:cap < (n:Int)
 ·rw [if_pos N] at hr
  subst hr
  go_in
  go_wp2_with fail
  go_ret
  exact⟨rfl,Below.refl _ _⟩
 rw [if_neg N] at hr
 have HR:=zH hr
 clear hr
 go_in
 go_wp2_with fail
 go_loopw [5] (fun i wr=>∃ k:Nat,k<=n/\i=.int .i64 (k:Nat)/\Hid (BA.chk L (n - k) k=r)/\Below w.heap.size w wr) (fun i _=>n - (intOf i).toNat)
 case atStart=>exact⟨0,Nat.zero_le _,rfl,HR,Below.refl _ _⟩
 case round =>
  obtain⟨k,hk,rfl,HC,m⟩:=hrel
  have i0:(0:Int)<=(k:Int):=by omega
  by_cases ze:k < n
  ·have i2:(k:Int) < (n:Int):=by omega
   have hs:=h.ext m
   obtain⟨l,o,rfl,J,y,A,c2,c3⟩:=hs.at ze
   have x:=List.getElem?_eq_getElem y
   rw [x,Option.getD_some] at A c2 c3
   have Q:=zH (List.getElem_mem y)
   have f:=Nd L (n - (k+1)) k x
   rw [show n - (k+1)+1=n - k by omega,HC.out] at f
   have F:∀ b,k=b+1->∃ q,L.getD (k - 1) AJ.none=q/\q ∈ L/\GF wr l (o+b * 3) q:=by
    intro b K
    obtain⟨b2,o2,zd,-,R,zf⟩:=hs.at (show b < n by omega)
    cases zd
    refine⟨_,rfl,?_,?_⟩
    ·rw [show k - 1=b by omega,List.getD_eq_getElem?_getD,List.getElem?_eq_getElem R];exact List.getElem_mem R
    ·rw [show k - 1=b by omega,List.getD_eq_getElem?_getD];exact zf
   generalize L[k]=p at *
   have g:=zH (fun W=>Xz false p (M.out p Q.out) W)
   unfold pv at g
   cases B:AJ.AB p with
  |false =>
    rw [B] at g f
    rw [if_pos rfl] at f
    subst f
    have g:=zH g.out
    obtain⟨C,t⟩:∃ s,str p.h=s:=⟨_,rfl⟩
    rw [t] at A g
    clear F x y B t hs
    go_wp2_with fail
    refine (g.out _).mono ?_;rintro e u ⟨rfl,j⟩
    go_wp2_with fail
    go_ret
    exact⟨rfl,m.trans (j.mono m.size)⟩
  |true =>
    rw [B] at g f
    rw [if_neg (by decide)] at f
    have g:=zH g.out
    by_cases X:k=0
    ·rw [if_neg (by omega)] at f
     have H:=zH f
     have t0:decide (0 < k)=false:=by apply decide_eq_false;omega
     obtain⟨C,t⟩:∃ s,str p.h=s:=⟨_,rfl⟩
     rw [t] at A g
     clear F x y B t hs f X
     go_wp2_with fail
     refine (g.out _).mono ?_;rintro e u ⟨rfl,j⟩
     go_wp2_with fail
     go_quiet (fail)
     go_wp2_with fail
     go_roundw
     case rel=>exact⟨k+1,by omega,by go_num,zH H.out.symm,(m.trans (j.mono m.size)).trans (Qh _ _ _)⟩
     case measure=>simp [intOf];omega
    ·obtain⟨b,K⟩:∃ b,k=b+1:=⟨k - 1,by omega⟩
     obtain⟨q,hq,Y,zg⟩:=F b K
     subst K
     rw [hq] at f
     have G:=zH (fun W=>Hg q.h p.h (M.out q Y) (M.out p Q.out) W)
     obtain⟨z,hz⟩:∃ z,Ho.cmp q.h p.h=z:=⟨_,rfl⟩
     rw [hz] at G f
     have wk:IntKind.i64.wrap (b:Int)=(b:Int):=by rw [IntKind.wrap_i64];omega
     have k0:(0:Int)<=(b:Int):=by omega
     have k1:(b:Int) < (n:Int):=by omega
     have i3:(0:Int)<=(b:Int)+1:=by omega
     have i4:(b:Int)+1 < (n:Int):=by omega
     have t0:decide (0 < b+1)=true:=by apply decide_eq_true;omega
     obtain⟨d1,-,-⟩:=zg
     obtain⟨C,t⟩:∃ s,str p.h=s:=⟨_,rfl⟩
     obtain⟨O,Z⟩:∃ s,str q.h=s:=⟨_,rfl⟩
     rw [t] at A g G
     rw [Z] at d1 G
     have T:=zH (show ∀ d,Below wr.heap.size wr d->d.cell? (l (o+(b+1) * 3))=some (.string C)/\d.cell? (l (o+b * 3))=some (.string O) from fun d hb=>⟨(hb.cell (p:=(l (o+(b+1) * 3))) J).trans A,(hb.cell (p:=(l (o+b * 3))) J).trans d1⟩)
     have H:=zH f
     clear F x y B t Z hs f hz hq Y X
     go_wp2_with fail
     refine (g.out _).mono ?_;rintro e u ⟨rfl,j⟩
     obtain⟨e1,f1⟩:=T.out _ j
     have zj:l < u.heap.size:=Nat.lt_of_lt_of_le J j.size
     have P:=zH (show ∀ d,AP u d->AP u d/\d.cell? (l (o+(b+1) * 3))=some (.string C)/\d.cell? (l (o+b * 3))=some (.string O) from fun d he=>⟨he,T.out _ (j.trans (Below.mono he j.size))⟩)
     go_wp2_with fail
     go_region_held3 (fun d=>AP u d/\d.cell? (l (o+(b+1) * 3))=some (.string C)/\d.cell? (l (o+b * 3))=some (.string O)) (first|assumption|exact P.out _ (AP.drew (AP.refl _))|exact P.out _ (AP.step (by assumption) (And.left (by assumption)))) (first|(go_at_call 121;go_must (refine (G.out _).mono ?_);rintro e w9 ⟨rfl,zl⟩))
     all_goals
      have zb:AP u _:=And.left (by assumption)
      have U:=(m.trans (j.mono m.size)).trans (Below.mono zb (m.trans (j.mono m.size)).size)
      by_cases za:0<=z
      ·have zi:r=8:=by rw [H.out,if_pos ⟨by omega,za⟩]
       subst zi
       go_wp2_with fail
       go_ret
       exact⟨rfl,U⟩
      ·have zc:=zH (show BA.chk L (n - (b+1+1)) (b+1+1)=r by rw [H.out,if_neg (fun e=>za e.2)])
       go_wp2_with fail
       go_roundw
       case rel=>exact⟨b+1+1,by omega,by go_num,zc,U⟩
       case measure=>simp [intOf];omega
  ·obtain rfl:k=n:=by omega
   have zh:r=0:=by rw [<-HC.out,Nat.sub_self];rfl
   subst zh
   go_wp2_with fail
   go_ret
   exact⟨rfl,m⟩
end
section
open Go.RowKit
variable {w:World} {B:Nat} {c:Int} {v:Value}
def AE (w:World) (B:Nat) (c:Int) (v:Value):Prop:=w.heap[B]?=some (.cells #[c,v] 44 (0,0))
theorem AE.cells (a:AE w B c v):w.cell? B=some (c:Value)/\w.cell? (B 1)=some v :=
 ⟨(cell_of_row _ _ _ _ _ _ a).trans rfl,(cell_of_row _ _ _ _ _ _ a).trans rfl⟩
theorem AE.frz (a:AE w B c v):∀ j,w.frozen? (B j)=false:=fun _=>frozen_of_row _ _ _ _ _ a
theorem AE.al (a:AE w B c v):(w.cell? B=some (c:Value)/\w.cell? (B 1)=some v)/\(∀ j,w.frozen? (B j)=false)/\B < w.heap.size:=⟨a.cells,a.frz,Qa a⟩
theorem AE.ext {w':World} (a:AE w B c v) (e:AP w w'):AE w' B c v:=(Below.block e _ (Qa a)).trans a
theorem AE.new (w:World) (c:Int) (v:Value):AE (w.alloc (.cells #[c,v] 44)) w.heap.size c v:=Qb _ _ _ rfl
theorem Xo (ck:Int) (a:Option Addr) (n c:Nat) (L:List AJ) (w:World) (h:AT w a n c L) (hL:∀ p ∈ L,p.h.length<=1000000) :
 Calls prog 101 #[.agg #[ck,.slice a n c]] w fun e b=>e=.returned (.bool (AN.AK ck L))/\AP w b:=by
 have yi:=h.le
 have yg:=zH h.len
 have HL:=zH hL
 have hr:AN.AK ck L=decide (0<=ck/\ck<=1099511627776/\n<=1000/\BA.chk L (n - 0) 0=0):=by unfold AN.AK;rw [h.len,Nat.sub_zero]
 obtain⟨r,zt⟩:∃ r,AN.AK ck L=r:=⟨_,rfl⟩
 rw [zt] at hr ⊢
 have J:=(Below.refl w.heap.size w).alloc (zN _) (.cells #[ck,.slice a n c] 44)
 have zl:=AE.new w ck (.slice a n c)
 have zg:=h.ext J
 obtain⟨G,zf⟩:∃ G,w.alloc (.cells #[ck,.slice a n c] 44)=G:=⟨_,rfl⟩
 have F:G.heap.size=w.heap.size+1:=by rw [<-zf];simp
 rw [zf] at J zl zg
 have ze:=zH zf
 have t:=zH J
 have zo:=zH zl
 have zy:=zH zg
 clear zt zf zg h hL zl
 by_cases h1:ck < 0
 ·have A:r=false:=by rw [hr];exact decide_eq_false (fun e=>by omega)
  subst A
  clear hr J F
  go_in
  go_wp2_with fail
  go_ret
  exact⟨rfl,by rw [ze.out];exact t.out⟩
 have t1:decide (ck < 0)=false:=decide_eq_false h1
 by_cases h2:1099511627776 < ck
 ·have A:r=false:=by rw [hr];exact decide_eq_false (fun e=>by omega)
  subst A
  clear hr J F
  go_in
  go_wp2_with fail
  go_ret
  exact⟨rfl,by rw [ze.out];exact t.out⟩
 have t2:decide (1099511627776 < ck)=false:=decide_eq_false h2
 by_cases h3:1000 < n
 ·have ya:(1000:Int) < (n:Int):=by omega
  have A:r=false:=by rw [hr];exact decide_eq_false (fun e=>by omega)
  subst A
  clear hr J F
  go_in
  go_wp2_with fail
  go_ret
  exact⟨rfl,by rw [ze.out];exact t.out⟩
 have ya:¬ (1000:Int) < (n:Int):=by omega
 have zk:r=decide (BA.chk L (n - 0) 0=0):=by
  rw [hr];apply decide_eq_decide.2
  exact⟨fun e=>e.2.2.2,fun e=>⟨by omega,by omega,by omega,e⟩⟩
 obtain⟨z0,P⟩:∃ z,BA.chk L (n - 0) 0=z:=⟨_,rfl⟩
 rw [P] at zk
 have HR:=zH zk
 have zw:=zH P
 have zz:=zH F
 clear hr zk P J F
 go_in
 go_wp2_with fail
 rw [ze.out]
 go_loopw [22] (fun i wr=>∃ k:Nat,k<=n/\i=.int .i64 (k:Nat)/\Hid (BA.chk L (n - k) k=z0)/\AP G wr) (fun i _=>n - (intOf i).toNat)
 case atStart=>exact⟨0,Nat.zero_le _,rfl,zw,AP.refl _⟩
 case round =>
  obtain⟨k,hk,rfl,HC,H⟩:=hrel
  have i0:(0:Int)<=(k:Int):=by omega
  by_cases yc:k < n
  ·have i2:(k:Int) < (n:Int):=by omega
   have hs:=zy.out.ext H
   have hS:=zo.out.ext H
   obtain⟨f,o,rfl,zq,Y,c1,c2,c3⟩:=hs.at yc
   have X:=List.getElem?_eq_getElem Y
   rw [X,Option.getD_some] at c1 c2 c3
   have zm:=zH (List.getElem_mem Y)
   have g:=Nd L (n - (k+1)) k X
   rw [show n - (k+1)+1=n - k by omega,HC.out] at g
   have zb:∀ d,k=d+1->∃ q,L.getD (k - 1) AJ.none=q/\q ∈ L/\GF wr f (o+d * 3) q:=by
    intro d zj
    obtain⟨b2,o2,yb,-,zn,yd⟩:=hs.at (show d < n by omega)
    cases yb
    refine⟨_,rfl,?_,?_⟩
    ·rw [show k - 1=d by omega,List.getD_eq_getElem?_getD,List.getElem?_eq_getElem zn];exact List.getElem_mem zn
    ·rw [show k - 1=d by omega,List.getD_eq_getElem?_getD];exact yd
   generalize L[k]=p at *
   have l:=zH (fun W=>Xz true p (HL.out p zm.out) W)
   unfold pv at l
   have u:=(Below.refl wr.heap.size wr).alloc (zN _) (.cells #[.string (str p.h),.bool p.s,p.x] 34)
   have y:=JM.new wr (str p.h) p.s p.x
   obtain⟨Q,Z⟩:∃ s,str p.h=s:=⟨_,rfl⟩
   rw [Z] at c1 l u y
   obtain⟨j,zi⟩:∃ j,wr.alloc (.cells #[.string Q,.bool p.s,p.x] 34)=j:=⟨_,rfl⟩
   rw [zi] at u y
   have zh:=zH zi
   have T:AP G j:=H.trans (u.mono H.size)
   have U:=zo.out.ext T
   have yj:w.heap.size < G.heap.size:=by have:=zz.out;omega
   have zv:f < j.heap.size:=Nat.lt_of_lt_of_le zq u.size
   have M:∀ b,AP j b->AP j b/\b.cell? wr.heap.size=some (.string Q)/\b.cell? (wr.heap.size 1)=some (.bool p.s)/\b.cell? (wr.heap.size 2)=some (p.x:Value)/\wr.heap.size < b.heap.size/\b.cell? (w.heap.size 1)=some (.slice (f o) n c)/\w.heap.size < b.heap.size/\f < b.heap.size:=fun b m =>
    ⟨m,(y.ext m).cells.1,(y.ext m).cells.2.1,(y.ext m).cells.2.2,Qa (y.ext m),(U.ext m).cells.2,Qa (U.ext m),Nat.lt_of_lt_of_le zv (Below.size m)⟩
   have N:=zH T
   obtain⟨-,p0,p1,p2,lp,s1,ls,-⟩:=M _ (AP.refl _)
   clear zi hS
   cases hv:AJ.AB p with
  |false =>
    rw [hv] at l g
    rw [if_pos rfl] at g
    have A:r=false:=by rw [HR.out,g];rfl
    subst A
    have l:=zH l.out
    have C:=zH M
    clear zb X Y hv Z hs u y U T g M H
    go_wp2_with fail
    rw [zh.out]
    go_wp2_with fail
    refine wp_region_held_drew (S:=(fun b=>AP j b/\b.cell? wr.heap.size=some (.string Q)/\b.cell? (wr.heap.size 1)=some (.bool p.s)/\b.cell? (wr.heap.size 2)=some (p.x:Value)/\wr.heap.size < b.heap.size/\b.cell? (w.heap.size 1)=some (.slice (f o) n c)/\w.heap.size < b.heap.size/\f < b.heap.size)) (by kernel_rfl) ?_ (fun za=>?_)
    ·exact C.out _ (AP.drew (AP.refl _))
    refine LV [(0,27)] ?_
    repeat ((first|(refine UC (v:=?_) rfl (by kernel_rfl) (fun _ _ _ h=>h) (by rfl) ?_ (by assumption) ?_;rotate_left;·intro w I;(try dsimp only at I);go_simp;try with_reducible rfl)|refine UB rfl (by kernel_rfl) (fun _ _ _ h=>h) (by rfl) (by assumption) ?_);try simp only [Act.put,List.setIfInBounds_toArray,List.set])
    refine LW ?_
    refine wpAnyH_ready (rs:=[1]) (by kernel_rfl) (by simp) ?_
    refine AllReadyH.cons (o:=Oper.mk (some 28) _ _ _ _ _) rfl (fun K hK=>?_) AllReadyH.nil
    go_simp
    go_at_call 151;refine (l.out _).mono ?_;rintro e u1 ⟨rfl,zp⟩
    go_wp2_with fail
    refine hK.out _ _ ?_ (fun za=>?_)
    ·exact C.out _ (AP.step (by assumption) (And.left (by assumption)))
    clear hK K
    try simp only [Act.put,List.setIfInBounds_toArray,List.set]
    refine LV [(2,29),(3,30),(4,31),(5,32),(6,33),(7,34),(8,35),(9,36),(10,37),(11,38),(12,39),(13,40),(14,41),(15,42),(16,43),(17,44),(18,45),(19,46)] ?_
    repeat ((first|(refine UC (v:=?_) rfl (by kernel_rfl) (fun _ _ _ h=>h) (by rfl) ?_ (by assumption) ?_;rotate_left;·intro w I;(try dsimp only at I);go_simp;try with_reducible rfl)|refine UB rfl (by kernel_rfl) (fun _ _ _ h=>h) (by rfl) (by assumption) ?_);try simp only [Act.put,List.setIfInBounds_toArray,List.set])
    refine LW ?_
    refine wpAnyH_done (by kernel_rfl) ?_ _
    all_goals
     have R:AP j _:=And.left za
     have O:AP w _:=t.out.trans (Below.mono (Below.trans N.out (R.mono N.out.size)) t.out.size)
     go_wp2_with fail
     go_ret
     exact⟨rfl,O⟩
  |true =>
    rw [hv] at l g
    rw [if_neg (by decide)] at g
    have l:=zH l.out
    by_cases zr:k=0
    ·rw [if_neg (by omega)] at g
     have zd:=zH g
     have t0:decide (0 < k)=false:=by apply decide_eq_false;omega
     have C:=zH M
     clear zb X Y hv Z hs g zr u y U T M H
     go_wp2_with fail
     rw [zh.out]
     go_wp2_with fail
     refine wp_region_held_drew (S:=(fun b=>AP j b/\b.cell? wr.heap.size=some (.string Q)/\b.cell? (wr.heap.size 1)=some (.bool p.s)/\b.cell? (wr.heap.size 2)=some (p.x:Value)/\wr.heap.size < b.heap.size/\b.cell? (w.heap.size 1)=some (.slice (f o) n c)/\w.heap.size < b.heap.size/\f < b.heap.size)) (by kernel_rfl) ?_ (fun za=>?_)
     ·exact C.out _ (AP.drew (AP.refl _))
     refine LV [(0,27)] ?_
     repeat ((first|(refine UC (v:=?_) rfl (by kernel_rfl) (fun _ _ _ h=>h) (by rfl) ?_ (by assumption) ?_;rotate_left;·intro w I;(try dsimp only at I);go_simp;try with_reducible rfl)|refine UB rfl (by kernel_rfl) (fun _ _ _ h=>h) (by rfl) (by assumption) ?_);try simp only [Act.put,List.setIfInBounds_toArray,List.set])
     refine LW ?_
     refine wpAnyH_ready (rs:=[1]) (by kernel_rfl) (by simp) ?_
     refine AllReadyH.cons (o:=Oper.mk (some 28) _ _ _ _ _) rfl (fun K hK=>?_) AllReadyH.nil
     go_simp
     go_at_call 151;refine (l.out _).mono ?_;rintro e u1 ⟨rfl,zp⟩
     go_wp2_with fail
     refine hK.out _ _ ?_ (fun za=>?_)
     ·exact C.out _ (AP.step (by assumption) (And.left (by assumption)))
     clear hK K
     try simp only [Act.put,List.setIfInBounds_toArray,List.set]
     refine LV [(2,29),(3,30),(4,31),(5,32),(6,33),(7,34),(8,35),(9,36),(10,37),(11,38),(12,39),(13,40),(14,41),(15,42),(16,43),(17,44),(18,45),(19,46)] ?_
     repeat ((first|(refine UC (v:=?_) rfl (by kernel_rfl) (fun _ _ _ h=>h) (by rfl) ?_ (by assumption) ?_;rotate_left;·intro w I;(try dsimp only at I);go_simp;try with_reducible rfl)|refine UB rfl (by kernel_rfl) (fun _ _ _ h=>h) (by rfl) (by assumption) ?_);try simp only [Act.put,List.setIfInBounds_toArray,List.set])
     refine LW ?_
     refine wpAnyH_done (by kernel_rfl) ?_ _
     all_goals
      have R:AP j _:=And.left (by assumption)
      have O:AP G _:=Below.trans N.out (R.mono N.out.size)
      go_wp2_with fail
      go_roundw
      case rel=>exact⟨k+1,by omega,by go_num,zH zd.out.symm,O⟩
      case measure=>simp [intOf];omega
    ·obtain⟨d,zj⟩:∃ d,k=d+1:=⟨k - 1,by omega⟩
     obtain⟨q,hq,zs,ye⟩:=zb d zj
     subst zj
     rw [hq] at g
     have zc:=zH (fun W=>Hc q.h p.h (HL.out q zs) (HL.out p zm.out) W)
     obtain⟨z,P⟩:∃ z,Ho.cmp q.h p.h=z:=⟨_,rfl⟩
     rw [P] at zc g
     have wk:IntKind.i64.wrap (d:Int)=(d:Int):=by rw [IntKind.wrap_i64];omega
     have k0:(0:Int)<=(d:Int):=by omega
     have k1:(d:Int) < (n:Int):=by omega
     have i3:(0:Int)<=(d:Int)+1:=by omega
     have i4:(d:Int)+1 < (n:Int):=by omega
     have t0:decide (0 < d+1)=true:=by apply decide_eq_true;omega
     obtain⟨d1,-,-⟩:=ye
     obtain⟨sq,zu⟩:∃ s,str q.h=s:=⟨_,rfl⟩
     rw [Z] at zc
     rw [zu] at d1 zc
     have C:=zH (show ∀ b,AP j b->AP j b/\b.cell? wr.heap.size=some (.string Q)/\b.cell? (wr.heap.size 1)=some (.bool p.s)/\b.cell? (wr.heap.size 2)=some (p.x:Value)/\wr.heap.size < b.heap.size/\b.cell? (w.heap.size 1)=some (.slice (f o) n c)/\w.heap.size < b.heap.size/\f < b.heap.size/\b.cell? (f (o+d * 3))=some (.string sq) from fun b m=>by
      obtain⟨a1,a2,a3,a4,a5,a6,a7,a8⟩:=M b m
      exact⟨a1,a2,a3,a4,a5,a6,a7,a8,(Below.cell (u.trans (Below.mono m u.size)) (p:=(f (o+d * 3))) zq).trans d1⟩)
     have zd:=zH g
     clear zb X Y hv Z zu hs g P hq zs zr u y U T M H d1
     go_wp2_with fail
     rw [zh.out]
     go_wp2_with fail
     go_region_held3 (fun b=>AP j b/\b.cell? wr.heap.size=some (.string Q)/\b.cell? (wr.heap.size 1)=some (.bool p.s)/\b.cell? (wr.heap.size 2)=some (p.x:Value)/\wr.heap.size < b.heap.size/\b.cell? (w.heap.size 1)=some (.slice (f o) n c)/\w.heap.size < b.heap.size/\f < b.heap.size/\b.cell? (f (o+d * 3))=some (.string sq)) (first|assumption|exact C.out _ (AP.drew (AP.refl _))|exact C.out _ (AP.step (by assumption) (And.left (by assumption)))) (first|(go_at_call 151;go_must (refine (l.out _).mono ?_);rintro e u1 ⟨rfl,zp⟩)|(go_at_call 152;go_must (refine (zc.out _).mono ?_);rintro e u2 ⟨rfl,yh⟩))
     all_goals
      have R:AP j _:=And.left (by assumption)
      have O:AP G _:=Below.trans N.out (R.mono N.out.size)
      by_cases F:0<=z
      ·have A:r=false:=by rw [HR.out,zd.out,if_pos ⟨by omega,F⟩];rfl
       subst A
       go_wp2_with fail
       go_ret
       exact⟨rfl,t.out.trans (Below.mono O t.out.size)⟩
      ·have zx:=zH (show BA.chk L (n - (d+1+1)) (d+1+1)=z0 by rw [zd.out,if_neg (fun e=>F e.2)])
       go_wp2_with fail
       go_roundw
       case rel=>exact⟨d+1+1,by omega,by go_num,zx,O⟩
       case measure=>simp [intOf];omega
  ·obtain rfl:k=n:=by omega
   have yf:r=true:=by rw [HR.out,<-HC.out,Nat.sub_self];rfl
   subst yf
   go_wp2_with fail
   go_ret
   exact⟨rfl,t.out.trans (H.mono t.out.size)⟩
end
section
open Go.RowKit
variable {fn:Func} {R:Ending->World->Prop} {a:Act} {W:World} {A k j b:Nat} {x y z u e q:Value}
theorem IG (m:fn.results=#[.cell A 36,.tmp k]) (i:a.tmps[A]?.getD undef=.pointer b) (l:W.heap[b]?=some (.cells #[x,y,z,u] 36 (0,0))) (n:a.tmps[k]?.getD undef=e) (hd:a.defers=[])
 (h:R (.returned (.tuple #[.agg #[x,y,z,u],e])) W):bodyPost prog fn R .ret a W:=by
 obtain⟨c,d,f,g⟩:=YN l
 refine bodyPost_ret ?_ hd h
 unfold results
 rw [m]
 simp [go_sem,i,n,c,d,f,g]
theorem DO (l:fn.results=#[.cell A 44,.tmp k]) (g:a.tmps[A]?.getD undef=.pointer b) {c:Int} (i:AE W b c y) (m:a.tmps[k]?.getD undef=e) (hd:a.defers=[])
 (h:R (.returned (.tuple #[.agg #[c,y],e])) W):bodyPost prog fn R .ret a W:=by
 obtain⟨d,f⟩:=i.cells
 refine bodyPost_ret ?_ hd h
 unfold results
 rw [l]
 simp [go_sem,g,m,d,f]
theorem EX (l:fn.results=#[.tmp j,.cell A 44,.tmp k]) (m:a.tmps[j]?.getD undef=q) (g:a.tmps[A]?.getD undef=.pointer b) {c:Int} (i:AE W b c y) (n:a.tmps[k]?.getD undef=e) (hd:a.defers=[])
 (h:R (.returned (.tuple #[q,.agg #[c,y],e])) W):bodyPost prog fn R .ret a W:=by
 obtain⟨d,f⟩:=i.cells
 refine bodyPost_ret ?_ hd h
 unfold results
 rw [l]
 simp [go_sem,g,n,m,d,f]
end
section
open Go.RowKit
def sv (x:Int) (v:Value):Value:=.agg #[x,v]
theorem Gb (x y:Int) (a b:Option Addr) (n m c d:Nat) (i g:List AJ) (w:World) (h:AT w a n c i) (H:AT w b m d g) :
 Calls prog 22 #[sv x (.slice a n c),sv y (.slice b m d)] w fun e Q=>e=.returned (.bool (decide (x=y/\i=g)))/\AP w Q:=by
 have l:=(Below.refl w.heap.size w).alloc (zN _) (.cells #[x,.slice a n c] 44)
 have s:=AE.new w x (.slice a n c)
 unfold sv
 obtain⟨f,k⟩:∃ f,w.alloc (.cells #[x,.slice a n c] 44)=f:=⟨_,rfl⟩
 have R:f.heap.size=w.heap.size+1:=by rw [<-k];simp
 rw [k] at l s
 have q:=(Below.refl f.heap.size f).alloc (zN _) (.cells #[y,.slice b m d] 44)
 have t:=AE.new f y (.slice b m d)
 have o:=s.ext q
 have j:AP w (f.alloc (.cells #[y,.slice b m d] 44)):=l.trans (q.mono l.size)
 have F:=zH (Bh a b n m c d i g _ (h.ext j) (H.ext j))
 obtain⟨M,N⟩:=o.cells
 obtain⟨O,P⟩:=t.cells
 have J:=Qa o
 have K:=Qa t
 obtain⟨G,p⟩:∃ G,f.alloc (.cells #[y,.slice b m d] 44)=G:=⟨_,rfl⟩
 rw [p] at M N O P J K j F
 have B:=zH k
 have C:=zH p
 have z:=zH j
 clear s t o l q k p j h H
 by_cases u:x=y
 ·subst u
  have A:=zH (show decide (x=x/\i=g)=decide (i=g) by apply decide_eq_decide.2;simp)
  rw [A.out]
  generalize decide (i=g)=r at *
  go_in
  go_wp2_with fail
  rw [B.out,C.out]
  go_wp2_with fail
  refine F.out.mono ?_;rintro e U ⟨rfl,I⟩
  go_wp2_with fail
  go_ret
  exact⟨rfl,z.out.trans (I.mono z.out.size)⟩
 ·have A:=zH (show decide (x=y/\i=g)=false from decide_eq_false (fun e=>u e.1))
  rw [A.out]
  have T:(x == y)=false:=beq_eq_false_iff_ne.2 u
  go_in
  go_wp2_with fail
  rw [B.out,C.out]
  go_wp2_with fail
  go_ret
  exact⟨rfl,z.out⟩
end
section
open Go.RowKit
variable {w:World} {v:Value} {B g:Nat} {c:Int}
theorem AE.IJ (d:AE w B c v) (a:Int) (b:Value):AE ((w.setCell B (a:Value)).setCell (B 1) b) B a b :=
 heap_setCell_same _ B 1 _ _ _ (heap_setCell_same _ B 0 _ _ _ d)
theorem AE.other' (b:AE w B c v) (a:g ≠ B) (i:Nat) (u:Value):AE (w.setCell (g i) u) B c v :=
 (heap_setCell_other _ _ _ _ (fun e=>a e.symm)).trans b
theorem AR.set' {base:Nat} {l:List AJ} (h:AR base w v l) (a:v.ownBlock ≠ some g) (i:Nat) (u:Value):AR base (w.setCell (g i) u) v l :=
 h.AI fun k b=>heap_setCell_other _ _ _ _ (fun e=>a (by rw [b,e]))
theorem Hx (a:Option Addr) (n c:Nat) (l:List AJ) (w:World) (h:AT w a n c l) (hn:n<=1000000) :
 Calls prog 71 #[.slice a n c] w fun e d=>∃ a9 b,e=.returned (.slice a9 n b)/\AR w.heap.size d (.slice a9 n b) l/\Below w.heap.size w d :=
 (Uk a n c l w h hn).mono fun e d ⟨v,j,ho,i⟩=>by
  obtain⟨a9,b,f,-,-⟩:=ho.sl
  rw [h.len] at f
  subst f
  exact⟨a9,b,j,ho,i⟩
theorem Hy (x:Int) (a:Option Addr) (n c:Nat) (y:List AJ) (w:World) (h:AT w a n c y) (hn:n<=1000000) :
 Calls prog 25 #[sv x (.slice a n c)] w fun e f=>∃ a9 I,e=.returned (sv x (.slice a9 n I))/\AR w.heap.size f (.slice a9 n I) y/\AP w f:=by
 have l:=(Below.refl w.heap.size w).alloc (zN _) (.cells #[x,.slice a n c] 44)
 have t:=AE.new w x (.slice a n c)
 unfold sv
 obtain⟨b,k⟩:∃ b,w.alloc (.cells #[x,.slice a n c] 44)=b:=⟨_,rfl⟩
 have H:b.heap.size=w.heap.size+1:=by rw [<-k];simp
 rw [k] at l t
 have d:=(Below.refl b.heap.size b).alloc (zN _) (.cells #[.int .i64 0,.slice none 0 0] 44)
 have m:=AE.new b 0 (.slice none 0 0)
 rw [H] at m
 have j:=t.ext d
 have p:AP w (b.alloc (.cells #[.int .i64 0,.slice none 0 0] 44)):=l.trans (d.mono l.size)
 obtain⟨i,s⟩:∃ i,b.alloc (.cells #[.int .i64 0,.slice none 0 0] 44)=i:=⟨_,rfl⟩
 rw [s] at m j p
 have N:=zH (Hx a n c y i.drew (h.ext p.drew) hn)
 obtain⟨U,X⟩:=j.cells
 have R:=Qa j
 have q:=zH (show ∀ W,AE W w.heap.size x (.slice a n c)->AE W w.heap.size x (.slice a n c)/\W.cell? w.heap.size=some (x:Value)/\W.cell? (w.heap.size 1)=some (.slice a n c)/\w.heap.size < W.heap.size from fun W h=>⟨h,h.cells.1,h.cells.2,Qa h⟩)
 have J:=zH k
 have K:=zH s
 have u:=zH p
 have C:=zH j
 have F:=zH m
 clear t j m l d k s p h H
 go_in
 go_wp2_with fail
 rw [J.out,K.out]
 go_region_held3 (fun f=>AE f w.heap.size x (.slice a n c)/\f.cell? w.heap.size=some (x:Value)/\f.cell? (w.heap.size 1)=some (.slice a n c)/\w.heap.size < f.heap.size) (first|assumption|exact q.out _ C.out|exact q.out _ r|exact q.out _ ((r.other' (by omega) _ _).other' (by omega) _ _)) (first|(go_at_call 71;go_must (refine N.out.mono ?_);rintro e w1 ⟨a1,o,rfl,ho,d⟩;have r:AE w1 w.heap.size x (.slice a n c):=AE.ext (w:=i.drew) C.out d;have A:=zH (AE.ext (w:=i.drew) F.out d);obtain⟨⟨Y,Z⟩,Q,T⟩:=A.out.al))
 have z:=(A.out).IJ x (.slice a1 n o)
 have O:=z.cells.1
 have P:=z.cells.2
 clear Y Z Q T r U X R
 go_wp2_with fail
 have M:=u.out.drew.trans (d.mono u.out.size)
 have za:w.heap.size+1 < i.heap.size:=Qa F.out
 refine bodyPost_ret (v:=.agg #[x,.slice a1 n o]) (by simp [results,results25,go_sem,O,P]) rfl ⟨a1,o,rfl,?_,?_⟩
 ·have G:(Value.slice a1 n o).ownBlock ≠ some (w.heap.size+1):=fun e=>by
   have:=(ho.lt _ e).1
   simp at this;omega
  exact ((ho.set' G 0 _).set' G 1 _).mono u.out.size
 ·exact MC M (Nat.le_succ _)
end
section
open Go.RowKit
theorem AN.MZ (ck:Int) (L:List AJ):AN.AK ck L=decide (0<=ck/\ck<=1099511627776/\BA.load L 1000=0):=by
 unfold AN.AK BA.load
 apply decide_eq_decide.2
 rw [if_neg (by omega)]
 by_cases a:(1000:Int) < L.length
 ·rw [if_pos a]
  exact⟨fun e=>by omega,fun e=>by omega⟩
 ·rw [if_neg a]
  exact⟨fun e=>⟨e.1,e.2.1,e.2.2.2⟩,fun e=>⟨e.1,e.2.1,by omega,e.2.2⟩⟩
theorem Jv (ck:Int) (a:Option Addr) (n c:Nat) (L:List AJ) (w:World) (h:AT w a n c L) (hn:n<=1000000) (m:∀ p ∈ L,p.h.length<=1000000) :
 Calls prog 56 #[.agg #[ck,.slice a n c]] w fun e u=>e=.returned (.bool (AN.AK ck L))/\AP w u:=by
 have hr:=AN.MZ ck L
 obtain⟨r,l⟩:∃ r,AN.AK ck L=r:=⟨_,rfl⟩
 rw [l] at hr ⊢
 have g:=(Below.refl w.heap.size w).alloc (zN _) (.cells #[ck,.slice a n c] 44)
 have b:=zH g
 have k:=zH (Lu 1000 a n c L _ (h.ext g) hn m)
 have d:=h.len
 have h0:n=0->BA.load L 1000=0:=fun e=>by
  have:L=[]:=List.eq_nil_of_length_eq_zero (by omega)
  subst this;rfl
 obtain⟨z,o⟩:∃ z,BA.load L 1000=z:=⟨_,rfl⟩
 rw [o] at hr h0 k
 clear o l g h m
 by_cases y:ck < 0
 ·have j:r=false:=by rw [hr];exact decide_eq_false (fun e=>by omega)
  subst j
  clear hr d h0
  go_in
  go_wp2_with fail
  go_ret
  exact⟨rfl,b.out⟩
 have B:decide (0<=ck)=true:=decide_eq_true (by omega)
 by_cases A:1099511627776 < ck
 ·have j:r=false:=by rw [hr];exact decide_eq_false (fun e=>by omega)
  subst j
  clear hr d h0
  go_in
  go_wp2_with fail
  go_ret
  exact⟨rfl,b.out⟩
 have C:decide (ck<=1099511627776)=true:=decide_eq_true (by omega)
 have f:r=decide (z=0):=by rw [hr];apply decide_eq_decide.2;exact⟨fun e=>e.2.2,fun e=>⟨by omega,by omega,e⟩⟩
 clear hr
 by_cases i:n=0
 ·have s:r=true:=by rw [f];exact decide_eq_true (h0 i)
  subst s;subst i
  clear f h0 d
  go_in
  go_wp2_with fail
  go_ret
  exact⟨rfl,b.out⟩
 ·have t3:((n:Int) == 0)=false:=beq_eq_false_iff_ne.2 (by omega)
  have t:=zH f
  have x:=zH (show (w.alloc (.cells #[ck,.slice a n c] 44)).heap.size=w.heap.size+1 by simp)
  clear f h0 d i
  go_in
  go_wp2_with fail
  refine k.out.mono ?_;rintro e F ⟨rfl,q⟩
  go_wp2_with fail
  go_ret
  exact⟨by rw [t.out];rfl,b.out.trans (q.mono b.out.size)⟩
end
section
open Go.RowKit
theorem Ye (β:Bool) (u:BS) (hu:u.p.h.length<=1000000) (w:World) :
 Calls prog (cond β 122 57) #[uv u] w fun e w'=>e=.returned (.bool (AN.AB u))/\AP w w':=by
 have R:=zH (@Xz β)
 have M:=Mk.mk β
 cases β <;> dsimp only [cond]
 all_goals
  have g:=zH (fun W=>R.out u.p hu W)
  first|(replace M:Mk true:=M;have j:=zH (fun W=>Xt u.p.h hu W))|have j:=zH (fun W=>Xc u.p.h hu W)
  have d:=(Below.refl w.heap.size w).alloc (zN _) (.cells (uc u) 36)
  have f:=BV.new w u.k (str u.p.h) u.p.s u.p.x
  have hr:AN.AB u=if u.k=1 then AJ.AB u.p else if u.k=2 then Ho.name u.p.h && decide (u.p.s=false/\u.p.x=0) else false:=rfl
  obtain⟨r,i⟩:∃ r,AN.AB u=r:=⟨_,rfl⟩
  rw [i] at hr ⊢
  unfold uv
  unfold uc at d ⊢
  unfold pv at g
  obtain⟨vb,K⟩:∃ b,AJ.AB u.p=b:=⟨_,rfl⟩
  obtain⟨T,F⟩:∃ b,Ho.name u.p.h=b:=⟨_,rfl⟩
  rw [K] at g hr
  rw [F] at j hr
  obtain⟨A,J⟩:∃ s,str u.p.h=s:=⟨_,rfl⟩
  rw [J] at g j d f ⊢
  obtain⟨m,G⟩:∃ s,u.p.s=s:=⟨_,rfl⟩
  obtain⟨n,H⟩:∃ s,u.p.x=s:=⟨_,rfl⟩
  obtain⟨k,N⟩:∃ k,u.k=k:=⟨_,rfl⟩
  rw [G] at g hr d f ⊢
  rw [H] at g hr d f ⊢
  rw [N] at hr d f ⊢
  have O:(w.alloc (.cells #[k,.string A,.bool m,n] 36)).heap.size=w.heap.size+1:=by simp
  have o:=zH d
  have B:=zH f
  have z:=zH O
  clear i K F J G H N d f O hu
  by_cases l:k=1
  ·rw [if_pos l] at hr
   subst l
   subst hr
   go_in
   go_wp2_with fail
   refine (g.out _).mono ?_;rintro e t ⟨rfl,a⟩
   rw [z.out] at a
   go_wp2_with fail
   go_ret
   exact⟨rfl,o.out.trans (a.mono (Nat.le_succ _))⟩
  ·rw [if_neg l] at hr
   have t1:(k == 1)=false:=beq_eq_false_iff_ne.2 l
   by_cases q:k=2
   ·rw [if_pos q] at hr
    subst q
    have y:=zH hr
    clear hr l t1
    cases T with
   |false =>
     have Q:r=false:=by rw [y.out];rfl
     subst Q
     go_in
     go_wp2_with fail
     refine (j.out _).mono ?_;rintro e t ⟨rfl,a⟩
     rw [z.out] at a
     have c:BV t w.heap.size 2 A m n:=(a.block _ (Nat.lt_succ_self _)).trans B.out
     obtain⟨U,X,Y,Z⟩:=c.cells
     have P:=Qa c
     clear c
     go_wp2_with fail
     go_ret
     exact⟨rfl,o.out.trans (a.mono (Nat.le_succ _))⟩
   |true =>
     have I:r=(!m && n == 0):=by
      rw [y.out,Bool.true_and]
      cases m <;> by_cases h0:n=0 <;> simp [h0]
     have C:=zH I
     clear I y
     cases m
     all_goals
      by_cases h0:n=0
      all_goals
       first
       |(have i:r=true:=by rw [C.out,h0];rfl)
       |(have i:r=false:=by rw [C.out];simp [h0])
       subst i
       first|subst h0|skip
       go_in
       go_wp2_with fail
       refine (j.out _).mono ?_;rintro e t ⟨rfl,a⟩
       rw [z.out] at a
       have c:BV t w.heap.size 2 A _ _:=(a.block _ (Nat.lt_succ_self _)).trans B.out
       obtain⟨U,X,Y,Z⟩:=c.cells
       have P:=Qa c
       clear c
       go_wp2_with fail
       go_ret
       exact⟨rfl,o.out.trans (a.mono (Nat.le_succ _))⟩
   ·rw [if_neg q] at hr
    have t2:(k == 2)=false:=beq_eq_false_iff_ne.2 q
    subst hr
    go_in
    go_wp2_with fail
    go_ret
    exact⟨rfl,o.out⟩
end
section
open Go.RowKit
theorem Fo (p:AJ) (t:List UInt8) (f:p.h.length<=1000000) (g:t.length<=1000000) (w:World) :
 Calls prog 163 #[pv p,.string (str t)] w fun e j=>e=.returned (.int .i64 (Ho.cmp p.h t))/\Below w.heap.size w j:=by
 have c:=zH (fun W=>Hc p.h t f g W)
 have a:=(Below.refl w.heap.size w).alloc (zN _) (.cells (pc p) 34)
 obtain⟨i,k,l⟩:=p
 unfold pv
 unfold pc at a
 simp only at a c ⊢
 generalize str i=m at *
 generalize str t=n at *
 have b:=zH a
 clear a
 go_in
 go_wp2_with fail
 refine (c.out _).mono ?_;rintro e o ⟨rfl,d⟩
 go_wp2_with fail
 go_ret
 exact⟨rfl,b.out.trans (d.mono b.out.size)⟩
theorem Pc (a:Option Addr) (n c:Nat) (L:List AJ) (t:List UInt8) (w:World) (h:AT w a n c L) (hn:n<=1000000) (N:BA.FA L) (O:∀ p ∈ L,p.h.length<=1000000) (ht:t.length<=1000000) :
 Calls prog 162 #[.slice a n c,.string (str t),.func (.func 163) #[] #[]] w
  fun e w'=>e=.returned (.tuple #[.int .i64 (BA.lo L t:Nat),.bool (BA.hit L t)])/\Below w.heap.size w w':=by
 have K:=zH O
 have G:=zH h.len
 have B:=zH (fun p hp W=>Fo p t hp ht W)
 have H:=zH (fun (k:Nat) (p:AJ) (hk:L[k]?=some p)=>BA.PJ N t hk)
 have F:=zH (BA.OE L t)
 obtain⟨lo,A⟩:∃ lo,BA.lo L t=lo:=⟨_,rfl⟩
 have x:=zH (show BA.hit L t=match L[lo]? with|some p=>decide (p.h=t)|none=>false by rw [<-A];rfl)
 rw [A] at H F ⊢
 generalize BA.hit L t=hit at *
 obtain⟨Q,J⟩:∃ Q,str t=Q:=⟨_,rfl⟩
 rw [J] at B ⊢
 clear A J N O
 go_in
 go_wp2_with fail
 go_loopw [9,10] (fun i j wr=>∃ (P C:Nat),i=.int .i64 (P:Nat)/\j=.int .i64 (C:Nat)/\P<=lo/\lo<=C/\C<=n/\Below w.heap.size w wr) (fun i j _=>(intOf j).toNat - (intOf i).toNat)
 case atStart=>exact⟨0,n,rfl,rfl,Nat.zero_le _,by have:=F.out;rw [G.out] at this;exact this,zN _,Below.refl _ _⟩
 case round =>
  obtain⟨i,j,rfl,rfl,h1,h2,h3,d⟩:=hrel
  have i0:(0:Int)<=(i:Int):=by omega
  by_cases za:i < j
  ·have i1:(i:Int) < (j:Int):=by omega
   obtain⟨m,hm⟩:∃ m:Nat,(i+j) / 2=m:=⟨_,rfl⟩
   have m1:i<=m:=by omega
   have m2:m < j:=by omega
   have m3:m < n:=by omega
   have m4:(m:Int) < (n:Int):=by omega
   have m5:(0:Int)<=(m:Int):=by omega
   have e1:((i:Int)+(j:Int)) / 2=(m:Int):=by omega
   have e2:IntKind.u64.wrap ((i:Int)+(j:Int))=(i:Int)+(j:Int):=by unfold IntKind.wrap;simp only [IntKind.bits,IntKind.signed];simp;omega
   obtain⟨Z,o,rfl,U,b,l,q,r⟩:=(h.ext d).at m3
   rw [List.getElem?_eq_getElem b,Option.getD_some] at l q r
   have u:=zH (List.getElem_mem b)
   have y:=zH (H.out m _ (List.getElem?_eq_getElem b))
   generalize L[m]=p at *
   have f:=zH (fun W=>B.out p (K.out p u.out) W)
   obtain⟨s,ps,px⟩:=p
   unfold pv at f
   simp only at l q r f y
   generalize str s=sh at *
   generalize Ho.cmp s t=M at *
   clear b hm
   by_cases I:M < 0
   ·have Y:=y.out.1 I
    go_wp2_with fail
    refine (f.out _).mono ?_;rintro e R ⟨rfl,g⟩
    go_wp2_with fail
    go_roundw
    case rel=>exact⟨m+1,j,by go_num,rfl,by omega,h2,h3,d.trans (g.mono d.size)⟩
    case measure=>simp [intOf];omega
   ·have Y:¬ m < lo:=fun e=>I (y.out.2 e)
    go_wp2_with fail
    refine (f.out _).mono ?_;rintro e R ⟨rfl,g⟩
    go_wp2_with fail
    go_roundw
    case rel=>exact⟨i,m,rfl,rfl,h1,by omega,by omega,d.trans (g.mono d.size)⟩
    case measure=>simp [intOf];omega
  ·obtain rfl:i=lo:=by omega
   obtain rfl:j=i:=by omega
   by_cases X:j < n
   ·have m4:(j:Int) < (n:Int):=by omega
    obtain⟨Z,o,rfl,U,b,l,q,r⟩:=(h.ext d).at X
    rw [List.getElem?_eq_getElem b] at x
    rw [List.getElem?_eq_getElem b,Option.getD_some] at l q r
    have u:=zH (List.getElem_mem b)
    generalize L[j]=p at *
    have f:=zH (fun W=>B.out p (K.out p u.out) W)
    have z:hit=(Ho.cmp p.h t == 0):=by
     rw [x.out,Bool.eq_iff_iff];simp only [decide_eq_true_eq,beq_iff_eq]
     exact⟨fun e=>by rw [e];exact Ho.GV _,fun e=>Ho.OY e⟩
    obtain⟨s,ps,px⟩:=p
    unfold pv at f
    simp only at l q r f ⊢
    simp only at z
    generalize str s=sh at *
    generalize Ho.cmp s t=M at *
    have T:=zH z
    clear b z
    go_wp2_with fail
    refine (f.out _).mono ?_;rintro e R ⟨rfl,g⟩
    go_wp2_with fail
    go_ret2
    exact⟨by rw [T.out];rfl,d.trans (g.mono d.size)⟩
   ·obtain rfl:j=n:=by omega
    have hf:hit=false:=by rw [x.out,List.getElem?_eq_none (by rw [G.out];exact zN _)]
    subst hf
    go_wp2_with fail
    go_ret2
    exact⟨rfl,d⟩
end
section
open Go.RowKit
def KX (u:BS) (w:World) (e:Ending) (w':World):Prop:=∃ v,e=.returned (.tuple #[v,.int .i64 (if AN.AB u then 0 else 1)])/\AC w.heap.size w' v (if AN.AB u then AN.enc u else [])/\Below w.heap.size w w'
theorem Dc (u:BS) (hu:u.p.h.length<=900) (w:World) :
 Calls prog 61 #[uv u] w (KX u w):=by
 have j:=zH (fun W=>Ye true u (by omega) W)
 have m:=zH (fun W=>Uo u.p hu W)
 have P:=zH (fun a n c l W h hn=>Zd a n c l u.p.h (by omega) W h hn)
 have t:=(Below.refl w.heap.size w).alloc (zN _) (.cells (uc u) 36)
 have B:=BV.new w u.k (str u.p.h) u.p.s u.p.x
 have z:AN.AB u=true->(u.k=1/\AJ.AB u.p=true)\/u.k=2:=fun h=>by
  rcases AN.AW h with⟨R,h2⟩|⟨R,-,-⟩
  ·exact .inl ⟨R,h2⟩
  ·exact .inr R
 have F:AN.enc u=if u.k=2 then 2 :: Wi.txt u.p.h else 1 :: AJ.enc u.p:=rfl
 have I:AJ.AB u.p=true->(AJ.enc u.p).length<=1000000:=fun h=>by have:=AJ.BG h;omega
 unfold KX
 unfold IT at m
 obtain⟨r,zd⟩:∃ r,AN.AB u=r:=⟨_,rfl⟩
 obtain⟨E,hE⟩:∃ E,AN.enc u=E:=⟨_,rfl⟩
 obtain⟨pe,za⟩:∃ E,AJ.enc u.p=E:=⟨_,rfl⟩
 obtain⟨te,zg⟩:∃ E,Wi.txt u.p.h=E:=⟨_,rfl⟩
 rw [zd] at z j ⊢
 rw [hE] at F ⊢
 rw [za] at F I m
 rw [zg] at F P
 unfold uv at j ⊢
 unfold uc at t j ⊢
 unfold pv at m
 obtain⟨vb,zh⟩:∃ b,AJ.AB u.p=b:=⟨_,rfl⟩
 rw [zh] at m z I
 obtain⟨X,zf⟩:∃ s,str u.p.h=s:=⟨_,rfl⟩
 rw [zf] at j m P t B ⊢
 obtain⟨T,zb⟩:∃ s,u.p.s=s:=⟨_,rfl⟩
 obtain⟨U,zc⟩:∃ s,u.p.x=s:=⟨_,rfl⟩
 obtain⟨k,K⟩:∃ k,u.k=k:=⟨_,rfl⟩
 rw [zb] at j m t B ⊢
 rw [zc] at j m t B ⊢
 rw [K] at z F j t B ⊢
 have hz:(w.alloc (.cells #[k,.string X,.bool T,U] 36)).heap.size=w.heap.size+1:=by simp
 have M:=zH t
 have Y:=zH B
 have Q:=zH hz
 have zj:=zH I
 have Z:=zH F
 clear zd hE za zg zh zf zb zc K t B hz hu F I
 cases r with
|false =>
  clear z
  go_in
  go_wp2_with fail
  refine (j.out _).mono ?_;rintro e d ⟨rfl,f⟩
  unfold AP at f;rw [Q.out] at f
  go_wp2_with fail
  go_ret2
  exact⟨_,rfl,AC.nil _ _,M.out.trans (f.mono (Nat.le_succ _))⟩
|true =>
  rcases z rfl with⟨rfl,rfl⟩|rfl
  ·clear z
   have wk:IntKind.u8.wrap 1=1:=rfl
   go_in
   go_wp2_with fail
   refine (j.out _).mono ?_;rintro e d ⟨rfl,f⟩
   unfold AP at f;rw [Q.out] at f
   have g:BV d w.heap.size 1 X T U:=(f.block _ (Nat.lt_succ_self _)).trans Y.out
   obtain⟨q0,q1,q2,q3⟩:=g.cells
   have zm:=Qa g
   have J:w.heap.size < d.heap.size:=zm
   have i:=(Below.refl d.heap.size d).alloc (zN _) (.cells #[.int .u8 1] 5)
   have y:AC w.heap.size (d.alloc (.cells #[.int .u8 1] 5)) (.slice d.heap.size 1 1) [1]:=AC.built d [1] (Nat.le_of_lt J) (by unfold maxLen;simp)
   obtain⟨G,q⟩:∃ G,d.alloc (.cells #[.int .u8 1] 5)=G:=⟨_,rfl⟩
   rw [q] at i y
   obtain⟨q0,q1,q2,q3⟩:=(g.ext i).cells
   have zi:=Qa (g.ext i)
   have O:=zH q
   have N:=zH y
   have o:=zH (M.out.trans ((f.mono (Nat.le_succ _)).trans (i.mono (Nat.le_of_lt J))))
   obtain⟨p0,p1,p2,p3⟩:=g.cells
   clear q y i g
   go_wp2_with fail
   rw [O.out]
   go_wp2_with fail
   refine (m.out _).mono ?_;rintro e w2 ⟨v2,rfl,C,A⟩
   rw [if_pos trivial] at C
   obtain⟨a2,c2,zo,ze,-⟩:=C.sl
   subst zo
   have zk:=zH ze
   have H:=zH (N.out.ext A)
   clear C ze
   go_wp2_with (at_builtin;refine Qc rfl _ _ rfl w.heap.size _ [1] rfl H.out a2 _ c2 pe rfl zk.out (by have:=zj.out (by first|rfl|trivial);simp;omega) (by have:=A.size;omega) ?_;intro v3 w3 zn zl _)
   go_ret2
   exact⟨_,rfl,by rw [Z.out,if_neg (by decide)];exact zn,(o.out.trans (A.mono o.out.size)).grown zl (by have:=o.out.size;have:=A.size;omega) (fun k K=>(H.out.lt k K).1)⟩
  ·clear z
   have wk:IntKind.u8.wrap 2=2:=rfl
   go_in
   go_wp2_with fail
   refine (j.out _).mono ?_;rintro e d ⟨rfl,f⟩
   unfold AP at f;rw [Q.out] at f
   have g:BV d w.heap.size 2 X T U:=(f.block _ (Nat.lt_succ_self _)).trans Y.out
   have J:w.heap.size < d.heap.size:=Qa g
   have i:=(Below.refl d.heap.size d).alloc (zN _) (.cells #[.int .u8 2] 5)
   have y:AM (d.alloc (.cells #[.int .u8 2] 5)) d.heap.size 1 1 [2]:=AM.one d 2 _
   obtain⟨G,q⟩:∃ G,d.alloc (.cells #[.int .u8 2] 5)=G:=⟨_,rfl⟩
   rw [q] at i y
   obtain⟨q0,q1,q2,q3⟩:=(g.ext i).cells
   have zi:=Qa (g.ext i)
   have O:=zH q
   have N:=zH y
   have o:=zH (M.out.trans ((f.mono (Nat.le_succ _)).trans (i.mono (Nat.le_of_lt J))))
   obtain⟨p0,p1,p2,p3⟩:=g.cells
   clear q y i g
   go_wp2_with fail
   rw [O.out]
   go_wp2_with fail
   refine (P.out _ _ _ _ _ N.out (by omega)).mono ?_;rintro e w2 ⟨v2,rfl,C,A⟩
   have H:=zH C
   clear C
   go_wp2_with fail
   go_ret2
   exact⟨_,rfl,by rw [Z.out];simp only [↓reduceIte];exact H.out.mono o.out.size,o.out.trans (A.mono o.out.size)⟩
end
section
open Go.RowKit
theorem Cm (u:BS) (hu:u.p.h.length<=900) (w:World) :
 Calls prog 86 #[uv u] w (KX u w):=by
 have f:=zH (fun W=>Ye false u (by omega) W)
 have j:=zH (fun W=>Uu u.p hu W)
 have U:=zH (fun W=>Cr u.p.h (by omega) W)
 have n:=(Below.refl w.heap.size w).alloc (zN _) (.cells (uc u) 36)
 have y:=BV.new w u.k (str u.p.h) u.p.s u.p.x
 have q:AN.AB u=true->(u.k=1/\AJ.AB u.p=true)\/u.k=2:=fun h=>by
  rcases AN.AW h with⟨J,h2⟩|⟨J,-,-⟩
  ·exact .inl ⟨J,h2⟩
  ·exact .inr J
 have A:AN.enc u=if u.k=2 then 2 :: Wi.txt u.p.h else 1 :: AJ.enc u.p:=rfl
 have I:AJ.AB u.p=true->(AJ.enc u.p).length<=1000000:=fun h=>by have:=AJ.BG h;omega
 have R:(Wi.txt u.p.h).length<=1000000:=by
  have J:=Wi.BG (v:=u.p.h.length) (by omega)
  unfold Wi.txt
  simp only [List.length_append]
  omega
 unfold KX
 unfold IT at j
 obtain⟨r,zh⟩:∃ r,AN.AB u=r:=⟨_,rfl⟩
 obtain⟨E,hE⟩:∃ E,AN.enc u=E:=⟨_,rfl⟩
 obtain⟨pe,ze⟩:∃ E,AJ.enc u.p=E:=⟨_,rfl⟩
 obtain⟨te,zj⟩:∃ E,Wi.txt u.p.h=E:=⟨_,rfl⟩
 rw [zh] at q f ⊢
 rw [hE] at A ⊢
 rw [ze] at A I j
 rw [zj] at A R U
 unfold uv at f ⊢
 unfold uc at n f ⊢
 unfold pv at j
 obtain⟨vb,zk⟩:∃ b,AJ.AB u.p=b:=⟨_,rfl⟩
 rw [zk] at j q I
 obtain⟨sh,zi⟩:∃ s,str u.p.h=s:=⟨_,rfl⟩
 rw [zi] at f j U n y ⊢
 obtain⟨Z,zf⟩:∃ s,u.p.s=s:=⟨_,rfl⟩
 obtain⟨px,zg⟩:∃ s,u.p.x=s:=⟨_,rfl⟩
 obtain⟨k,B⟩:∃ k,u.k=k:=⟨_,rfl⟩
 rw [zf] at f j n y ⊢
 rw [zg] at f j n y ⊢
 rw [B] at q A f n y ⊢
 have hz:(w.alloc (.cells #[k,.string sh,.bool Z,px] 36)).heap.size=w.heap.size+1:=by simp
 have K:=zH n
 have zc:=zH y
 have X:=zH hz
 have zl:=zH I
 have zn:=zH R
 have zd:=zH A
 clear zh hE ze zj zk zi zf zg B n y hz hu A I R
 cases r with
|false =>
  clear q
  go_in
  go_wp2_with fail
  refine (f.out _).mono ?_;rintro e c ⟨rfl,a⟩
  unfold AP at a;rw [X.out] at a
  go_wp2_with fail
  go_ret2
  exact⟨_,rfl,AC.nil _ _,K.out.trans (a.mono (Nat.le_succ _))⟩
|true =>
  rcases q rfl with⟨rfl,rfl⟩|rfl
  ·clear q
   go_in
   go_wp2_with fail
   refine (f.out _).mono ?_;rintro e c ⟨rfl,a⟩
   unfold AP at a;rw [X.out] at a
   have g:BV c w.heap.size 1 sh Z px:=(a.block _ (Nat.lt_succ_self _)).trans zc.out
   obtain⟨q0,q1,q2,q3⟩:=g.cells
   have zp:=Qa g
   have za:=zH (K.out.trans (a.mono (Nat.le_succ _)))
   clear g
   go_wp2_with fail
   refine (j.out _).mono ?_;rintro e t ⟨v2,rfl,z,H⟩
   rw [if_pos trivial] at z
   obtain⟨a2,Y,T,F,-⟩:=z.sl
   subst T
   have i:=za.out.trans (H.mono za.out.size)
   have d:=(Below.refl t.heap.size t).alloc (zN _) (.cells #[.int .u8 1] 5)
   have o:AC w.heap.size (t.alloc (.cells #[.int .u8 1] 5)) (.slice t.heap.size 1 1) [1]:=AC.built t [1] i.size (by unfold maxLen;simp)
   have Q:=F.ext d
   obtain⟨G,m⟩:∃ G,t.alloc (.cells #[.int .u8 1] 5)=G:=⟨_,rfl⟩
   rw [m] at d o Q
   have N:=zH m
   have M:=zH Q
   have C:=zH o
   have l:=zH (i.trans (d.mono i.size))
   clear z F Q o m d i
   go_wp2_with (rw [N.out];at_builtin;refine Qc rfl _ _ rfl w.heap.size _ [1] rfl C.out a2 _ Y pe rfl M.out (by have:=zl.out (by first|rfl|trivial);simp;omega) (by have:=l.out.size;omega) ?_;intro v3 w3 P O _)
   go_ret2
   exact⟨_,rfl,by rw [zd.out,if_neg (by decide)];exact P,l.out.grown O l.out.size (fun k B=>(C.out.lt k B).1)⟩
  ·clear q
   go_in
   go_wp2_with fail
   refine (f.out _).mono ?_;rintro e c ⟨rfl,a⟩
   unfold AP at a;rw [X.out] at a
   have g:BV c w.heap.size 2 sh Z px:=(a.block _ (Nat.lt_succ_self _)).trans zc.out
   have zq:w.heap.size < c.heap.size:=Qa g
   have i:=K.out.trans (a.mono (Nat.le_succ _))
   have d:=(Below.refl c.heap.size c).alloc (zN _) (.cells #[.int .u8 2] 5)
   have o:AC w.heap.size (c.alloc (.cells #[.int .u8 2] 5)) (.slice c.heap.size 1 1) [2]:=AC.built c [2] i.size (by unfold maxLen;simp)
   obtain⟨G,m⟩:∃ G,c.alloc (.cells #[.int .u8 2] 5)=G:=⟨_,rfl⟩
   rw [m] at d o
   obtain⟨p0,p1,p2,p3⟩:=g.cells
   obtain⟨q0,q1,q2,q3⟩:=(g.ext d).cells
   have zo:=Qa (g.ext d)
   have N:=zH m
   have zm:=zH o
   have zb:=zH (i.trans (d.mono i.size))
   clear m o d g i
   go_wp2_with fail
   rw [N.out]
   go_wp2_with fail
   refine (U.out _).mono ?_;rintro e t ⟨v2,rfl,z,H⟩
   obtain⟨a2,Y,T,F,-⟩:=z.sl
   subst T
   have M:=zH F
   have C:=zH (zm.out.ext H)
   have l:=zH (zb.out.trans (H.mono zb.out.size))
   clear z F
   go_wp2_with (at_builtin;refine Qc rfl _ _ rfl w.heap.size _ [2] rfl C.out a2 _ Y te rfl M.out (by have:=zn.out;simp;omega) (by have:=l.out.size;omega) ?_;intro v3 w3 P O _)
   go_ret2
   exact⟨_,rfl,by rw [zd.out];simp only [↓reduceIte];exact P,l.out.grown O l.out.size (fun k B=>(C.out.lt k B).1)⟩
end
end Go.Proofs.YtmanejniepghlaaGreatDoor
