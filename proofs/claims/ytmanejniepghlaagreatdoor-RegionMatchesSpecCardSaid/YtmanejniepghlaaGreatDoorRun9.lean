import Derived.Test.YtmanejniepghlaaGreatDoorRun8
import Derived.Test.YtmanejniepghlaaGreatDoorRun3
import Derived.Test.YtmanejniepghlaaGreatDoorRun0
set_option maxHeartbeats 4000000
namespace Go.Proofs.YtmanejniepghlaaGreatDoor
section
open Go.RowKit
def splice (a:Array Value):Nat->List Value->Array Value
|_,[]=>a
|o,v :: r=>splice (a.setIfInBounds o v) (o+1) r
theorem Qn (b:List Value):∀ (a:Array Value) (o:Nat),o+b.length<=a.size->(splice a o b).toList=a.toList.take o ++ b ++ a.toList.drop (o+b.length):=by
 induction b with
|nil=>intro a o h;simp [splice]
|cons v b ih =>
  intro a o h
  simp only [List.length_cons] at h
  rw [splice,ih _ _ (by simp;omega),Array.toList_setIfInBounds,List.length_cons]
  have c:o < a.toList.length:=by simp;omega
  rw [List.take_succ_eq_append_getElem (by simpa using c),List.take_set_of_le (zN _),List.getElem_set_self,List.drop_set_of_lt (by omega)]
  simp [Nat.add_assoc,Nat.add_comm 1]
theorem Qr (b:List Value):∀ (a:Array Value) (o:Nat),(splice a o b).size=a.size:=by
 induction b with
|nil=>intro a o;rfl
|cons v b ih=>intro a o;rw [splice,ih];simp
theorem Qi (g:Nat) (t:TypeId) (b:List Value):∀ (a:Array Value) (o:Nat) (w:World),w.heap[g]?=some (.cells a t (0,0))->(w.setCells g o b).heap[g]?=some (.cells (splice a o b) t (0,0)):=by
 induction b with
|nil=>intro a o w h;exact h
|cons v b ih=>intro a o w h;exact ih _ _ _ (heap_setCell_same _ _ _ _ _ _ h)
theorem Qm (g:Nat) (a:List Value):∀ (o:Nat) (w:World),w.grownBy (w.setCells g o a) (some g):=by
 induction a with
|nil=>intro o w;exact⟨rfl,rfl,rfl,zN _,fun _ _ _=>rfl⟩
|cons v a ih =>
  intro o w
  have h:=ih (o+1) (w.setCell (g o) v)
  exact⟨h.os,h.tape,h.output,Nat.le_trans (Nat.le_of_eq (by simp)) h.size,fun k c b=>(h.block k (by simpa using c) b).trans (heap_setCell_other _ _ _ _ (fun e=>b (by rw [e])))⟩
theorem Hk {α:Type} (a b c:List α) (n:Nat) (h:n=a.length+b.length):(a ++ b ++ c).take n=a ++ b:=by
 rw [List.take_append_of_le_length (by simp [h]),List.take_of_length_le (by simp [h])]
theorem AS.fresh {base:Nat} {W:World} {g cap:Nat} {L:List Int} {A:Array Value} (h:W.heap[g]?=some (.cells A 3 (0,0))) (a:A.toList=L.map iv ++ List.replicate (cap - L.length) (iv 0)) (d:base<=g) (b:L.length<=cap) (c:cap<=maxLen) :
 AS base W (.slice g L.length cap) L:=by
 refine⟨by simp,.inr ⟨g,cap,A,rfl,d,h,b,c,?_,?_⟩⟩
 ·rw [<-Array.length_toList,a];simp;omega
 ·rw [a,List.take_append_of_le_length (by simp),List.take_of_length_le (by simp)]
theorem Yg (n:Nat):(Builtin.zeroCells (Value.int .i64 0).cells n).toList=List.replicate n (iv 0):=by
 have h0:(Value.int .i64 0).cells=#[iv 0]:=rfl
 rw [h0]
 apply List.ext_getElem
 ·simp [Builtin.zeroCells]
 ·intro i a b
  simp [Builtin.zeroCells,Nat.mod_one]
theorem Oe (A B rest:List Value) (u:Value) (a:Array Value) (h:a.toList=A ++ B ++ rest) (hr:0 < rest.length) (i:Nat) (f:i=A.length) :
 (splice (splice a (i+1) B) i [u]).toList=A ++ [u] ++ B ++ rest.drop 1:=by
 have hs:a.size=A.length+B.length+rest.length:=by rw [<-Array.length_toList,h];simp;omega
 subst f
 rw [Qn _ _ _ (by rw [Qr];simp;omega),Qn _ _ _ (by omega),h]
 have b:(A ++ B ++ rest).take (A.length+1)=A ++ (B ++ rest).take 1:=by
  rw [List.append_assoc,List.take_append,List.take_of_length_le (by omega)];congr 2;omega
 have g:((B ++ rest).take 1).length=1:=by simp;omega
 have c:(A ++ B ++ rest).drop (A.length+1+B.length)=rest.drop 1:=by
  rw [show A.length+1+B.length=(A ++ B).length+1 by simp;omega,List.drop_append];simp
 rw [b,c]
 have d:(A ++ (B ++ rest).take 1 ++ B ++ rest.drop 1).take A.length=A:=by simp [List.append_assoc]
 have e:(A ++ (B ++ rest).take 1 ++ B ++ rest.drop 1).drop (A.length+[u].length)=B ++ rest.drop 1:=by
  rw [show A.length+[u].length=(A ++ (B ++ rest).take 1).length by simp;omega,List.append_assoc (A ++ _),List.drop_left]
 rw [d,e];simp [List.append_assoc]
theorem Fz (l:List Int):∀ v ∈ l.map iv,v.oneCell'=true:=by
 intro v a
 obtain⟨z,_,rfl⟩:=List.mem_map.1 a;rfl
theorem Cu (base:Nat) (v:Value) (l:List Int) (i:Nat) (x:Int) (f:Nat) (w:World) (h:AS base w v l) (hi:i<=l.length) (hl:l.length<=1000000) (Q:base<=w.heap.size) (r:CE w f x) (zi:v.ownBlock ≠ some f) :
 Calls Tryz.prog 258 #[v,i,.slice f 1 1] w fun e q=>∃ v',e=.returned v'/\AS base q v' (Pu.ins l i x)/\w.grownBy q v.ownBlock:=by
 have y:∀ (j:Nat) u,([iv x]:List Value)[j]?=some u->w.cell? (f (0+j))=some u:=by
  intro j u b
  cases j with
 |zero=>cases b;exact r.cell
 |succ j=>simp at b
 have s:∀ u ∈ ([iv x]:List Value),u.oneCell'=true:=by intro u hu;simp at hu;subst hu;rfl
 have I:(l.map iv).length=l.length:=by simp
 have z:(Pu.ins l i x).map iv=(l.map iv).take i ++ [iv x] ++ (l.map iv).drop i:=by simp [Pu.ins]
 have c:(Pu.ins l i x).length=l.length+1:=Pu.FF _ _ _ hi
 rcases id h.2 with⟨rfl,zh⟩|⟨g,cap,o,rfl,hg,n,zm,A,zk,B⟩
 ·have zg:l=[]:=List.eq_nil_of_length_eq_zero zh
  subst zg
  obtain rfl:i=0:=by simpa using hi
  refine (Any2.slices_Insert_int_end_grow ER none 0 0 f 0 1 1 [] [iv x] w (by omega) (by omega) (by omega) (by omega) rfl rfl (fun _=>rfl) (fun a P=>by cases P) y s).mono ?_
  rintro e q ⟨rfl,rfl⟩
  have zf:=grownCap_ge w (0+1) 0 3
  have:=AS.fresh (base:=base) (W:=w.drew.alloc (.cells (([] ++ [iv x]:List Value).toArray ++ Builtin.zeroCells (Value.int .i64 0).cells (grownCap w (0+1) 0 3 - (0+1))) 3)) (g:=w.heap.size) (cap:=grownCap w (0+1) 0 3) (L:=Pu.ins [] 0 x) (Qb _ _ _ rfl) (by rw [Array.toList_append,Yg,c];simp [Pu.ins]) Q (by rw [c];exact zf) (grownCap_le_maxLen w _ _ _ (by unfold maxLen;omega))
  exact⟨_,rfl,by rw [c] at this;exact this,⟨rfl,rfl,rfl,by simp,fun k m _=>Qd w.drew _ _ m⟩⟩
 ·have U:o.size=cap:=by omega
  rw [Nat.mul_one] at B
  have C:∀ (j:Nat) u,(l.map iv)[j]?=some u->w.cell? (g (0+j))=some u:=by
   intro j u b
   rw [Nat.zero_add,cell_of_row w g j o _ _ n]
   rw [<-B,List.getElem?_take] at b
   split at b
   ·simpa using b
   ·cases b
  have T:∀ j,j < cap->(w.cell? (g (0+j))).isSome=true:=by
   intro j b
   rw [Nat.zero_add,cell_of_row w g j o _ _ n,Array.getElem?_eq_getElem (by omega)];rfl
  have Y:∀ j,w.frozen? (g (0+j))=false:=fun j=>frozen_of_row _ _ _ _ _ n
  have zd:f ≠ g:=fun e=>zi (by rw [e];rfl)
  have zl:=Qa n
  by_cases R:l.length+1<=cap
  ·by_cases H:i=l.length
   ·subst H
    refine (Any2.slices_Insert_int_end_room ER g 0 l.length cap f 0 1 1 [iv x] w (by omega) R (by unfold maxLen at A;omega) rfl (fun j b=>by rw [Nat.add_assoc];exact T _ (by omega)) (fun j b=>by rw [Nat.add_assoc];exact Y _) y s).mono ?_
    rintro e q ⟨rfl,rfl⟩
    refine⟨_,rfl,⟨by simp [Pu.ins],.inr ⟨g,cap,_,by rw [c],hg,Qi g _ [iv x] o _ w n,by omega,A,by rw [Qr];omega,?_⟩⟩,Qm _ _ _ _⟩
    rw [z,c,Qn _ _ _ (by simp;omega),Nat.mul_one,<-B]
    simp [List.take_append,List.length_take,U,show min l.length cap=l.length by omega,List.take_of_length_le]
   ·have J:((l.map iv).drop i).length=l.length - i:=by simp
    refine (Any2.slices_Insert_int_shift ER g 0 l.length cap i f 0 1 1 (l.map iv) [iv x] w (by omega) (by omega) R (by unfold maxLen at A;omega) zd I rfl C (fun j b=>T _ (by omega)) (fun j b=>Y _) y (Fz l) s 3 3 1 cap (by unfold CE at r;simp [World.shape?,r]) (by simp [World.shape?,n,U]) (by omega) r.free (by unfold CE at r;exact frozen_of_row _ _ _ _ _ r)).mono ?_
    rintro e q ⟨rfl,rfl⟩
    have M:=Qi g _ ((l.map iv).drop i) o (0+(i+1)) w.drew n
    have N:=Qi g _ [iv x] _ (0+i) _ M
    refine⟨_,rfl,⟨by simp [Pu.ins],.inr ⟨g,cap,_,by rw [c],hg,N,by omega,A,by rw [Qr,Qr];omega,?_⟩⟩,?_⟩
    ·have zc:o.toList=(l.map iv).take i ++ (l.map iv).drop i ++ o.toList.drop l.length:=by
      rw [List.take_append_drop,<-B,List.take_append_drop]
     rw [z,c,Nat.mul_one,Nat.zero_add,Nat.zero_add,Oe _ _ _ _ _ zc (by simp;omega) i (by simp;omega),List.append_assoc,List.append_assoc]
     rw [<-List.append_assoc,<-List.append_assoc]
     rw [List.append_assoc ((l.map iv).take i)]
     exact Hk _ _ _ _ (by simp <;> omega)
    ·have a1:=Qm g ((l.map iv).drop i) (0+(i+1)) w.drew
     have a2:=Qm g [iv x] (0+i) (w.drew.setCells g (0+(i+1)) ((l.map iv).drop i))
     exact⟨a2.os.trans a1.os,a2.tape.trans a1.tape,a2.output.trans a1.output,Nat.le_trans a1.size a2.size,fun k m za=>(a2.block k (Nat.lt_of_lt_of_le m a1.size) za).trans (a1.block k m za)⟩
  ·have F:l.length+1<=grownCap w (l.length+1) cap 3:=grownCap_ge _ _ _ _
   have K:=grownCap_le_maxLen w (l.length+1) cap 3 (by unfold maxLen;omega)
   by_cases H:i=l.length
   ·subst H
    refine (Any2.slices_Insert_int_end_grow ER g l.length cap f 0 1 1 (l.map iv) [iv x] w (by omega) (by omega) (by omega) (by omega) I rfl (fun e=>by cases e) (fun a P j v b=>by cases P;rw [Addr.add_lit];exact C j v b) y s).mono ?_
    rintro e q ⟨rfl,rfl⟩
    have:=AS.fresh (base:=base) (W:=w.drew.alloc (.cells ((l.map iv ++ [iv x]:List Value).toArray ++ Builtin.zeroCells (Value.int .i64 0).cells (grownCap w (l.length+1) cap 3 - (l.length+1))) 3)) (g:=w.heap.size) (cap:=grownCap w (l.length+1) cap 3) (L:=Pu.ins l l.length x) (Qb _ _ _ rfl) (by rw [Array.toList_append,Yg,c,z];simp [List.take_of_length_le]) Q (by rw [c];exact F) K
    exact⟨_,rfl,by rw [c] at this;exact this,⟨rfl,rfl,rfl,by simp,fun k m _=>Qd w.drew _ _ m⟩⟩
   ·refine (Any2.slices_Insert_int_grow ER g 0 l.length cap i f 0 1 1 (l.map iv) [iv x] w (by omega) (by omega) (by omega) (by omega) (by omega) I rfl C y (Fz l) s).mono ?_
    rintro e q ⟨rfl,rfl⟩
    obtain⟨G,hG⟩:∃ G,G=grownCap w (l.length+1) cap 3:=⟨_,rfl⟩
    have ze:(GI.t 3)=3:=rfl
    rw [ze,<-hG]
    rw [<-hG] at F K
    obtain⟨d,p⟩:∃ d,d=w.alloc (.cells (((l.map iv).take i).toArray ++ Builtin.zeroCells (Value.int .i64 0).cells (l.length+1 - i) ++ Builtin.zeroCells (Value.int .i64 0).cells (G - (l.length+1))) 3):=⟨_,rfl⟩
    have h0:d.heap[w.heap.size]?=some (.cells (((l.map iv).take i).toArray ++ Builtin.zeroCells (Value.int .i64 0).cells (l.length+1 - i) ++ Builtin.zeroCells (Value.int .i64 0).cells (G - (l.length+1))) 3 (0,0)):=by rw [p];exact Qb _ _ _ rfl
    rw [<-p]
    have zj:d.heap.size=w.heap.size+1:=by rw [p];simp
    have M:=Qi w.heap.size _ [iv x] _ i d.drew h0
    have N:=Qi w.heap.size _ ((l.map iv).drop i) _ (i+1) (d.drew.setCells w.heap.size i [iv x]).drew M
    have J:((l.map iv).drop i).length=l.length - i:=by simp
    have:=AS.fresh (base:=base) (g:=w.heap.size) (cap:=G) (L:=Pu.ins l i x) N (by
     rw [z,c]
     have zb:(((l.map iv).take i).toArray ++ Builtin.zeroCells (Value.int .i64 0).cells (l.length+1 - i) ++ Builtin.zeroCells (Value.int .i64 0).cells (G - (l.length+1)):Array Value).toList=(l.map iv).take i ++ List.replicate (l.length+1 - i) (iv 0) ++ List.replicate (G - (l.length+1)) (iv 0):=by
      rw [Array.toList_append,Array.toList_append,Yg,Yg]
     have hsz:(((l.map iv).take i).toArray ++ Builtin.zeroCells (Value.int .i64 0).cells (l.length+1 - i) ++ Builtin.zeroCells (Value.int .i64 0).cells (G - (l.length+1)):Array Value).size=G:=by
      rw [<-Array.length_toList,zb];simp;omega
     rw [Qn _ _ _ (by rw [Qr,hsz,J];omega),Qn _ _ _ (by rw [hsz];simp;omega),zb,J]
     have hA:((l.map iv).take i).length=i:=by simp;omega
     have e1:((l.map iv).take i ++ List.replicate (l.length+1 - i) (iv 0) ++ List.replicate (G - (l.length+1)) (iv 0)).take i=(l.map iv).take i:=by
      rw [List.append_assoc,List.take_append_of_le_length (by omega),List.take_of_length_le (by omega)]
     rw [e1]
     have e2:∀ Z:List Value,((l.map iv).take i ++ [iv x] ++ Z).take (i+1)=(l.map iv).take i ++ [iv x]:=fun Z=>Hk _ _ _ _ (by simp;omega)
     rw [e2]
     congr 1
     have e3:∀ Z:List Value,((l.map iv).take i ++ [iv x] ++ Z).drop (i+1+(l.length - i))=Z.drop (l.length - i):=fun Z=>by
      rw [<-List.drop_drop,List.drop_left' (by simp;omega)]
     rw [e3,List.drop_drop,List.drop_append,List.drop_append]
     have X:(List.drop (i+[iv x].length+(l.length - i)) ((l.map iv).take i))=[]:=List.drop_of_length_le (by simp;omega)
     simp only [List.length_append,List.length_replicate,hA,List.length_singleton] at X ⊢
     rw [X,List.drop_of_length_le (by simp;omega)]
     simp;omega) Q (by rw [c];exact F) K
    refine⟨_,rfl,by rw [c] at this;exact this,?_⟩
    have a1:=Qm w.heap.size [iv x] i d.drew
    have a2:=Qm w.heap.size ((l.map iv).drop i) (i+1) (d.drew.setCells w.heap.size i [iv x]).drew
    have s1:=a1.size
    have s2:=a2.size
    have O:d.drew.heap=d.heap:=rfl
    have d2:(d.drew.setCells w.heap.size i [iv x]).drew.heap=(d.drew.setCells w.heap.size i [iv x]).heap:=rfl
    rw [O] at s1;rw [d2] at s2
    refine⟨?_,?_,?_,by omega,fun k m _=>?_⟩
    ·exact a2.os.trans (a1.os.trans (by rw [p];rfl))
    ·exact a2.tape.trans (a1.tape.trans (by rw [p];rfl))
    ·exact a2.output.trans (a1.output.trans (by rw [p];rfl))
    ·have b1:=a1.block k (by rw [O];omega) (fun e=>by cases e;omega)
     have b2:=a2.block k (by rw [d2];omega) (fun e=>by cases e;omega)
     refine b2.trans (b1.trans ?_)
     rw [O,p];exact Qd _ _ _ m
end
section
open Go.RowKit
variable {w:World} {g g':Nat} {rest:List UInt8} {pts:Value} {bias i n:Int} {st:Bool}
@[simp] theorem CT (l:List UInt8):(str l).size=l.length:=by simp [str,ByteArray.size]
theorem Kc (l:List UInt8) (i:Nat) (h:i < (str l).size):(str l)[i]=l[i]'(by simpa using h):=by simp [str];rfl
theorem Nx (l:List UInt8) (k:Nat) (_h:k<=l.length):(str l).extract k (str l).size=str (l.drop k):=by
 apply ByteArray.ext
 rw [ByteArray.data_extract]
 apply Array.ext'
 simp [str,ByteArray.size]
 exact List.take_of_length_le (by simp)
def BE (w:World) (g:Nat) (rest:List UInt8) (pts:Value) (n i bias:Int) (st:Bool):Prop :=
 w.heap[g]?=some (.cells #[.string (str rest),pts,n,i,bias,.bool st] 263 (0,0))
theorem BE.cells (h:BE w g rest pts n i bias st) :
 w.cell? g=some (.string (str rest))/\w.cell? (g 1)=some pts/\w.cell? (g 2)=some (n:Value)/\w.cell? (g 3)=some (i:Value)/\w.cell? (g 4)=some (bias:Value)/\w.cell? (g 5)=some (.bool st):=by
 refine⟨?_,?_,?_,?_,?_,?_⟩ <;> rw [cell_of_row _ _ _ _ _ _ h] <;> rfl
theorem BE.free (h:BE w g rest pts n i bias st) (k:Nat):w.frozen? (g k)=false:=frozen_of_row _ _ _ _ _ h
theorem BE.ext {w':World} (h:BE w g rest pts n i bias st) (e:Below w.heap.size w w'):BE w' g rest pts n i bias st:=(e.block _ (Qa h)).trans h
theorem BE.QT (h:BE w g rest pts n i bias st) (r:List UInt8):BE (w.setCell g (.string (str r))) g r pts n i bias st:=by
 unfold BE;rw [heap_setCell_same _ _ _ _ _ _ h];rfl
theorem BE.TT (h:BE w g rest pts n i bias st) (v:Value):BE (w.setCell (g 1) v) g rest v n i bias st:=by
 unfold BE;rw [heap_setCell_same _ _ _ _ _ _ h];rfl
theorem BE.ZC (h:BE w g rest pts n i bias st) (x:Int):BE (w.setCell (g 2) (x:Value)) g rest pts x i bias st:=by
 unfold BE;rw [heap_setCell_same _ _ _ _ _ _ h];rfl
theorem BE.XA (h:BE w g rest pts n i bias st) (x:Int):BE (w.setCell (g 3) (x:Value)) g rest pts n x bias st:=by
 unfold BE;rw [heap_setCell_same _ _ _ _ _ _ h];rfl
theorem BE.VE (h:BE w g rest pts n i bias st) (x:Int):BE (w.setCell (g 4) (x:Value)) g rest pts n i x st:=by
 unfold BE;rw [heap_setCell_same _ _ _ _ _ _ h];rfl
theorem BE.ON (h:BE w g rest pts n i bias st) (x:Bool):BE (w.setCell (g 5) (.bool x)) g rest pts n i bias x:=by
 unfold BE;rw [heap_setCell_same _ _ _ _ _ _ h];rfl
theorem BE.other (h:BE w g rest pts n i bias st) (a:g ≠ g') (o:Nat) (v:Value):BE (w.setCell (g' o) v) g rest pts n i bias st:=(heap_setCell_other _ _ _ _ a).trans h
theorem CE.other' {z:Int} (h:CE w g z) (a:g ≠ g') (o:Nat) (v:Value):CE (w.setCell (g' o) v) g z:=(heap_setCell_other _ _ _ _ a).trans h
def ND (g:Nat) (l:List UInt8) (pts:Value) (n i bias:Int) (st:Bool) (w:World) (e:Ending) (w':World):Prop :=
 BQ g w w'/\((∃ a,a ≠ 0/\Pu.BK l i 1 0 bias=.error a/\e=.returned (a:Value))\/(∃ r j,Pu.BK l i 1 0 bias=.ok (r,j)/\e=.returned (.int .i64 0)/\BE w' g r pts n j bias st))
theorem Pu.OS (b:UInt8):-1<=Pu.value b/\Pu.value b<=35:=by
 have:=b.toNat_lt
 unfold Pu.value
 repeat' split
 all_goals (try simp) <;> omega
set_option maxRecDepth 100000 in
theorem Bw (g:Nat) (l:List UInt8) (pts:Value) (n i bias:Int) (st:Bool) (w:World) (h:BE w g l pts n i bias st) (h0:0<=i) (h1:i<=1099511627776) (b0:0<=bias) (b1:bias<=1000) (hl:l.length<=1000000) :
 Calls Tryz.prog 257 #[.pointer g] w (ND g l pts n i bias st w):=by
 obtain⟨R,Q⟩:∃ R,R=Pu.BK l i 1 0 bias:=⟨_,rfl⟩
 have zy:=Qa h
 have zp:=h.cells.2.2.2.2.1
 unfold ND
 rw [<-Q]
 have HR:=zH Q
 clear Q
 go_in
 go_wp2_with fail
 refine (Yv bias _).mono ?_;rintro e w1 ⟨rfl,zl,zc,O⟩
 have zm:=h.ext O
 have zs:BQ g w w1:=BQ.AL O
 have hz:w.heap.size ≠ w.heap.size+1:=by omega
 have ze:w.heap.size ≠ g:=by omega
 have P:w.heap.size+1 ≠ g:=by omega
 have zg:CE w1 (w.heap.size+1) (36 * ((0:Nat):Int)):=by simpa using zc
 clear zc O zp
 go_wp2
 go_loopw [4] (fun y wr=>∃ (k:Nat) (x j:Int) (r:List UInt8),y=.int .i64 x/\0<=x/\x<=1099511627776/\0<=j/\j<=1099511627776/\k+r.length=l.length/\BE wr g r pts n j bias st/\Hid (R=Pu.BK r j x k bias)/\CE wr w.heap.size bias/\CE wr (w.heap.size+1) (36 * (k:Int))/\BQ g w wr) (fun _ wr=>match wr.cell? g with|some (.string s)=>s.size|_=>0)
 case atStart=>exact⟨0,1,i,l,rfl,by omega,by omega,h0,h1,by omega,zm,HR,zl,zg,zs⟩
 case round =>
  obtain⟨k,x,j,r,rfl,C,yd,zz,ya,zq,m,HG,zn,zo,I⟩:=hrel
  obtain⟨c0,-,-,c3,-,-⟩:=m.cells
  have f0:=m.free 0
  have f3:=m.free 3
  cases r with
 |nil =>
   have c:=HG.out
   rw [Pu.BK] at c
   have f:=zH c
   clear c
   have hs:(str []).toList=[]:=by simp
   generalize str []=s at *
   go_wp2
   go_ret
   exact⟨I,.inl ⟨4,by decide,f.out,rfl⟩⟩
 |cons b r =>
   obtain⟨t1,t2⟩:=Pu.GP k bias
   obtain⟨v0,v1⟩:=Pu.OS b
   have c:=HG.out
   rw [Pu.BK] at c
   have hsz:=CT (b :: r)
   have zu:∀ h,(str (b :: r))[0]'h=b:=fun h=>by rw [Kc];rfl
   have yb:(str (b :: r)).toList.isEmpty=false:=by simp
   have zx:(str (b :: r)).extract 1 (r.length+1)=str r:=by
    have:=Nx (b :: r) 1 (by simp)
    rwa [CT] at this
   simp only [List.length_cons] at hsz zq
   have zv:=Qa m
   have T:=Int.mul_le_mul_of_nonneg_left v1 C
   have G:=Int.mul_le_mul_of_nonneg_left v0 C
   rw [Int.mul_comm x (Pu.value b)] at T G
   rw [Int.mul_comm x (-1)] at G
   have K:0<=Pu.value b->0<=Pu.value b * x:=fun h=>Int.mul_nonneg h C
   generalize hS:str (b :: r)=s at *
   have Z:=fun (W:World) a b=>Bz w.heap.size (w.heap.size+1) k bias W a b hz (by omega) b0 b1
   have zk:=zH Z
   have za:=fun W=>Np true b W
   have Y:=zH za
   have X:=zH (m.QT r)
   clear za
   generalize Pu.value b=u at *
   generalize Pu.thr k bias=t at *
   obtain⟨y,U⟩:∃ y,y=u * x:=⟨_,rfl⟩
   rw [<-U] at c T G K
   have HY:=zH U
   clear Z U hS
   by_cases hu:u < 0
   ·rw [if_pos hu] at c
    have f:=zH c
    clear c
    go_wp2_with fail
    refine (Y.out _).mono ?_;rintro e J ⟨rfl,rfl⟩
    go_wp2_with fail
    go_ret
    exact⟨I,.inl ⟨4,by decide,f.out,rfl⟩⟩
   rw [if_neg hu] at c
   have ye:=K (by omega)
   have yf:y<=38482906972160:=by omega
   have yc:IntKind.i64.wrap (u * x)=y:=by rw [<-HY.out,IntKind.wrap_i64];omega
   have f:=zH c
   clear K T G c
   go_wp2_with fail
   refine (Y.out _).mono ?_;rintro e J ⟨rfl,rfl⟩
   by_cases ho:1099511627776 < j+y
   ·have c:=f.out
    rw [if_pos ho] at c
    have F:=zH c
    have zj:IntKind.i64.wrap (j+y)=j+y:=by rw [IntKind.wrap_i64];omega
    clear c
    go_wp2_with fail
    go_ret
    refine⟨(I.setCell _ _).setCell _ _,.inl ⟨19,by decide,F.out,rfl⟩⟩
   have c:=f.out
   rw [if_neg ho] at c
   have F:=zH c
   have zj:IntKind.i64.wrap (j+y)=j+y:=by rw [IntKind.wrap_i64];omega
   have B:=X.out.XA (j+y)
   have d:=(I.setCell 0 (.string (str r))).setCell 3 (.int .i64 (j+y))
   have o:=(zn.other' ze 0 (.string (str r))).other' ze 3 (.int .i64 (j+y))
   have p:=(zo.other' P 0 (.string (str r))).other' P 3 (.int .i64 (j+y))
   have zb:=zH (And.intro B (And.intro d (And.intro o p)))
   clear c f B d o p
   go_wp2_with fail
   obtain⟨B,d,o,p⟩:=zb.out
   clear zb X
   generalize ((wr.setCell g (.string (str r))).setCell (g 3) (.int .i64 (j+y)))=J at *
   refine (zk.out _ o p).mono ?_;rintro e w3 ⟨rfl,zh,zi,rfl⟩
   have N:=B.other (Ne.symm P) 0 (.int .i64 (36 * ((k:Int)+1)))
   have M:BQ g w (J.setCell (w.heap.size+1:Nat) (.int .i64 (36 * ((k:Int)+1)))):=⟨d.os,d.tape,d.output,by simpa using d.size,fun q hq zr=>(heap_setCell_other _ _ _ _ (show q ≠ w.heap.size+1 by omega)).trans (d.block q hq zr)⟩
   clear B d o p
   generalize (J.setCell (w.heap.size+1:Nat) (.int .i64 (36 * ((k:Int)+1))))=w3 at *
   by_cases ht:u < t
   ·have c:=F.out
    rw [if_pos ht] at c
    have A:=zH c
    clear c
    go_wp2
    go_ret
    exact⟨M,.inr ⟨r,j+y,A.out,rfl,N⟩⟩
   have c:=F.out
   rw [if_neg ht] at c
   have zt:=Int.mul_le_mul_of_nonneg_left (show 36 - t<=35 by omega) C
   have zf:=Int.mul_nonneg C (show 0<=36 - t by omega)
   obtain⟨z,H⟩:∃ z,z=x * (36 - t):=⟨_,rfl⟩
   rw [<-H] at c zt zf
   have zw:IntKind.i64.wrap (x * (36 - t))=z:=by rw [<-H,IntKind.wrap_i64];omega
   by_cases zd:1099511627776 < z
   ·rw [if_pos zd] at c
    have A:=zH c
    clear c H
    go_wp2
    go_ret
    exact⟨M,.inl ⟨19,by decide,A.out,rfl⟩⟩
   ·rw [if_neg zd] at c
    have A:=zH c
    clear c H
    go_wp2
    go_roundw
    case rel=>exact⟨k+1,z,j+y,r,rfl,zf,by omega,by omega,by omega,by omega,N,A,zh,zi,M⟩
    case measure =>
     rw [N.cells.1,m.cells.1];simp
end
end Go.Proofs.YtmanejniepghlaaGreatDoor
