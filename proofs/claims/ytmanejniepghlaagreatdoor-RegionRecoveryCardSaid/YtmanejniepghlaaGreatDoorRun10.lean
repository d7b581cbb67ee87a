import Derived.Test.YtmanejniepghlaaGreatDoorRun9
import Derived.Test.YtmanejniepghlaaGreatDoorRun7
import Derived.Test.YtmanejniepghlaaGreatDoorRun0
namespace Go.Proofs.YtmanejniepghlaaGreatDoor
section
open Go.RowKit
def splice (cur:Array Value):Nat->List Value->Array Value
|_,[]=>cur
|o,v :: r=>splice (cur.setIfInBounds o v) (o+1) r
theorem za_n (vs:List Value):∀ (cur:Array Value) (o:Nat),o+vs.length<=cur.size->(splice cur o vs).toList=cur.toList.take o ++ vs ++ cur.toList.drop (o+vs.length):=by
 induction vs with
|nil=>intro cur o h;simp [splice]
|cons v vs ih =>
  intro cur o h
  simp only [List.length_cons] at h
  rw [splice,ih _ _ (by simp;omega),Array.toList_setIfInBounds,List.length_cons]
  have hl:o < cur.toList.length:=by simp;omega
  rw [List.take_succ_eq_append_getElem (by simpa using hl),List.take_set_of_le (zN _),List.getElem_set_self,List.drop_set_of_lt (by omega)]
  simp [Nat.add_assoc,Nat.add_comm 1]
theorem za_r (vs:List Value):∀ (cur:Array Value) (o:Nat),(splice cur o vs).size=cur.size:=by
 induction vs with
|nil=>intro cur o;rfl
|cons v vs ih=>intro cur o;rw [splice,ih];simp
theorem za_h (g:Nat) (t:TypeId) (vs:List Value):∀ (cur:Array Value) (o:Nat) (w:World),w.heap[g]?=some (.cells cur t (0,0))->(w.setCells g o vs).heap[g]?=some (.cells (splice cur o vs) t (0,0)):=by
 induction vs with
|nil=>intro cur o w h;exact h
|cons v vs ih=>intro cur o w h;exact ih _ _ _ (heap_setCell_same _ _ _ _ _ _ h)
theorem za_m (g:Nat) (vs:List Value):∀ (o:Nat) (w:World),w.grownBy (w.setCells g o vs) (some g):=by
 induction vs with
|nil=>intro o w;exact⟨rfl,rfl,rfl,zN _,fun _ _ _=>rfl⟩
|cons v vs ih =>
  intro o w
  have h:=ih (o+1) (w.setCell (g o) v)
  exact⟨h.os,h.tape,h.output,Nat.le_trans (Nat.le_of_eq (by simp)) h.size,fun k hk hne=>(h.block k (by simpa using hk) hne).trans (heap_setCell_other _ _ _ _ (fun e=>hne (by rw [e])))⟩
theorem zg_r {α:Type} (a b c:List α) (n:Nat) (h:n=a.length+b.length):(a ++ b ++ c).take n=a ++ b:=by
 rw [List.take_append_of_le_length (by simp [h]),List.take_of_length_le (by simp [h])]
theorem OwnI.fresh {base:Nat} {W:World} {g cap:Nat} {L:List Int} {A:Array Value} (h:W.heap[g]?=some (.cells A 3 (0,0))) (hA:A.toList=L.map iv ++ List.replicate (cap - L.length) (iv 0)) (hg:base<=g) (h1:L.length<=cap) (h2:cap<=maxLen) :
 OwnI base W (.slice g L.length cap) L:=by
 refine⟨by simp,.inr ⟨g,cap,A,rfl,hg,h,h1,h2,?_,?_⟩⟩
 ·rw [<-Array.length_toList,hA];simp;omega
 ·rw [hA,List.take_append_of_le_length (by simp),List.take_of_length_le (by simp)]
theorem zc_s (n:Nat):(Builtin.zeroCells (Value.int .i64 0).cells n).toList=List.replicate n (iv 0):=by
 have h0:(Value.int .i64 0).cells=#[iv 0]:=rfl
 rw [h0]
 apply List.ext_getElem
 ·simp [Builtin.zeroCells]
 ·intro i h2 h3
  simp [Builtin.zeroCells,Nat.mod_one]
theorem zi_x (A B rest:List Value) (u:Value) (cur:Array Value) (h:cur.toList=A ++ B ++ rest) (hr:0 < rest.length) (i:Nat) (hi:i=A.length) :
 (splice (splice cur (i+1) B) i [u]).toList=A ++ [u] ++ B ++ rest.drop 1:=by
 have hs:cur.size=A.length+B.length+rest.length:=by rw [<-Array.length_toList,h];simp;omega
 subst hi
 rw [za_n _ _ _ (by rw [za_r];simp;omega),za_n _ _ _ (by omega),h]
 have h1:(A ++ B ++ rest).take (A.length+1)=A ++ (B ++ rest).take 1:=by
  rw [List.append_assoc,List.take_append,List.take_of_length_le (by omega)];congr 2;omega
 have h1l:((B ++ rest).take 1).length=1:=by simp;omega
 have h2:(A ++ B ++ rest).drop (A.length+1+B.length)=rest.drop 1:=by
  rw [show A.length+1+B.length=(A ++ B).length+1 by simp;omega,List.drop_append];simp
 rw [h1,h2]
 have h3:(A ++ (B ++ rest).take 1 ++ B ++ rest.drop 1).take A.length=A:=by simp [List.append_assoc]
 have h4:(A ++ (B ++ rest).take 1 ++ B ++ rest.drop 1).drop (A.length+[u].length)=B ++ rest.drop 1:=by
  rw [show A.length+[u].length=(A ++ (B ++ rest).take 1).length by simp;omega,List.append_assoc (A ++ _),List.drop_left]
 rw [h3,h4];simp [List.append_assoc]
theorem zr_g (l:List Int):∀ v ∈ l.map iv,v.oneCell'=true:=by
 intro v hv
 obtain⟨z,_,rfl⟩:=List.mem_map.1 hv;rfl
set_option maxHeartbeats 1000000 in
theorem zo_r (base:Nat) (v:Value) (l:List Int) (i:Nat) (x:Int) (vb:Nat) (w:World) (h:OwnI base w v l) (hi:i<=l.length) (hl:l.length<=1000000) (hb:base<=w.heap.size) (hx:IBox w vb x) (hne:v.ownBlock ≠ some vb) :
 Calls Tryz.prog 258 #[v,i,.slice vb 1 1] w fun e w'=>∃ v',e=.returned v'/\OwnI base w' v' (Puny.ins l i x)/\w.grownBy w' v.ownBlock:=by
 have hvs:∀ (j:Nat) u,([iv x]:List Value)[j]?=some u->w.cell? (vb (0+j))=some u:=by
  intro j u hj
  cases j with
 |zero=>cases hj;exact hx.cell
 |succ j=>simp at hj
 have h1v:∀ u ∈ ([iv x]:List Value),u.oneCell'=true:=by intro u hu;simp at hu;subst hu;rfl
 have hcl:(l.map iv).length=l.length:=by simp
 have hins:(Puny.ins l i x).map iv=(l.map iv).take i ++ [iv x] ++ (l.map iv).drop i:=by simp [Puny.ins]
 have hil:(Puny.ins l i x).length=l.length+1:=Puny.ins_length _ _ _ hi
 rcases id h.2 with⟨rfl,hn0⟩|⟨g,cap,cur,rfl,hg,hcur,hnc,hcm,hcs,htk⟩
 ·have hl0:l=[]:=List.eq_nil_of_length_eq_zero hn0
  subst hl0
  obtain rfl:i=0:=by simpa using hi
  refine (Any2.slices_Insert_int_end_grow laysNm221 none 0 0 vb 0 1 1 [] [iv x] w (by omega) (by omega) (by omega) (by omega) rfl rfl (fun _=>rfl) (fun a ha=>by cases ha) hvs h1v).mono ?_
  rintro e w' ⟨rfl,rfl⟩
  have hgc:=grownCap_ge w (0+1) 0 3
  have:=OwnI.fresh (base:=base) (W:=w.drew.alloc (.cells (([] ++ [iv x]:List Value).toArray ++ Builtin.zeroCells (Value.int .i64 0).cells (grownCap w (0+1) 0 3 - (0+1))) 3)) (g:=w.heap.size) (cap:=grownCap w (0+1) 0 3) (L:=Puny.ins [] 0 x) (za_b _ _ _ rfl) (by rw [Array.toList_append,zc_s,hil];simp [Puny.ins]) hb (by rw [hil];exact hgc) (grownCap_le_maxLen w _ _ _ (by unfold maxLen;omega))
  exact⟨_,rfl,by rw [hil] at this;exact this,⟨rfl,rfl,rfl,by simp,fun k hk _=>za_c w.drew _ _ hk⟩⟩
 ·have hcs1:cur.size=cap:=by omega
  rw [Nat.mul_one] at htk
  have hcells:∀ (j:Nat) u,(l.map iv)[j]?=some u->w.cell? (g (0+j))=some u:=by
   intro j u hj
   rw [Nat.zero_add,cell_of_row w g j cur _ _ hcur]
   rw [<-htk,List.getElem?_take] at hj
   split at hj
   ·simpa using hj
   ·cases hj
  have hsome:∀ j,j < cap->(w.cell? (g (0+j))).isSome=true:=by
   intro j hj
   rw [Nat.zero_add,cell_of_row w g j cur _ _ hcur,Array.getElem?_eq_getElem (by omega)];rfl
  have hfz:∀ j,w.frozen? (g (0+j))=false:=fun j=>frozen_of_row _ _ _ _ _ hcur
  have hgne:vb ≠ g:=fun e=>hne (by rw [e];rfl)
  have hgw:=za_a hcur
  by_cases hroom:l.length+1<=cap
  ·by_cases hend:i=l.length
   ·subst hend
    refine (Any2.slices_Insert_int_end_room laysNm221 g 0 l.length cap vb 0 1 1 [iv x] w (by omega) hroom (by unfold maxLen at hcm;omega) rfl (fun j hj=>by rw [Nat.add_assoc];exact hsome _ (by omega)) (fun j hj=>by rw [Nat.add_assoc];exact hfz _) hvs h1v).mono ?_
    rintro e w' ⟨rfl,rfl⟩
    refine⟨_,rfl,⟨by simp [Puny.ins],.inr ⟨g,cap,_,by rw [hil],hg,za_h g _ [iv x] cur _ w hcur,by omega,hcm,by rw [za_r];omega,?_⟩⟩,za_m _ _ _ _⟩
    rw [hins,hil,za_n _ _ _ (by simp;omega),Nat.mul_one,<-htk]
    simp [List.take_append,List.length_take,hcs1,show min l.length cap=l.length by omega,List.take_of_length_le]
   ·have hdl:((l.map iv).drop i).length=l.length - i:=by simp
    refine (Any2.slices_Insert_int_shift laysNm221 g 0 l.length cap i vb 0 1 1 (l.map iv) [iv x] w (by omega) (by omega) hroom (by unfold maxLen at hcm;omega) hgne hcl rfl hcells (fun j hj=>hsome _ (by omega)) (fun j hj=>hfz _) hvs (zr_g l) h1v 3 3 1 cap (by unfold IBox at hx;simp [World.shape?,hx]) (by simp [World.shape?,hcur,hcs1]) (by omega) hx.free (by unfold IBox at hx;exact frozen_of_row _ _ _ _ _ hx)).mono ?_
    rintro e w' ⟨rfl,rfl⟩
    have hr1:=za_h g _ ((l.map iv).drop i) cur (0+(i+1)) w.drew hcur
    have hr2:=za_h g _ [iv x] _ (0+i) _ hr1
    refine⟨_,rfl,⟨by simp [Puny.ins],.inr ⟨g,cap,_,by rw [hil],hg,hr2,by omega,hcm,by rw [za_r,za_r];omega,?_⟩⟩,?_⟩
    ·have hcl3:cur.toList=(l.map iv).take i ++ (l.map iv).drop i ++ cur.toList.drop l.length:=by
      rw [List.take_append_drop,<-htk,List.take_append_drop]
     rw [hins,hil,Nat.mul_one,Nat.zero_add,Nat.zero_add,zi_x _ _ _ _ _ hcl3 (by simp;omega) i (by simp;omega),List.append_assoc,List.append_assoc]
     rw [<-List.append_assoc,<-List.append_assoc]
     rw [List.append_assoc ((l.map iv).take i)]
     exact zg_r _ _ _ _ (by simp <;> omega)
    ·have a1:=za_m g ((l.map iv).drop i) (0+(i+1)) w.drew
     have a2:=za_m g [iv x] (0+i) (w.drew.setCells g (0+(i+1)) ((l.map iv).drop i))
     exact⟨a2.os.trans a1.os,a2.tape.trans a1.tape,a2.output.trans a1.output,Nat.le_trans a1.size a2.size,fun k hk hkn=>(a2.block k (Nat.lt_of_lt_of_le hk a1.size) hkn).trans (a1.block k hk hkn)⟩
  ·have hcl2:l.length+1<=grownCap w (l.length+1) cap 3:=grownCap_ge _ _ _ _
   have hmx:=grownCap_le_maxLen w (l.length+1) cap 3 (by unfold maxLen;omega)
   by_cases hend:i=l.length
   ·subst hend
    refine (Any2.slices_Insert_int_end_grow laysNm221 g l.length cap vb 0 1 1 (l.map iv) [iv x] w (by omega) (by omega) (by omega) (by omega) hcl rfl (fun e=>by cases e) (fun a ha j v hj=>by cases ha;rw [Addr.add_lit];exact hcells j v hj) hvs h1v).mono ?_
    rintro e w' ⟨rfl,rfl⟩
    have:=OwnI.fresh (base:=base) (W:=w.drew.alloc (.cells ((l.map iv ++ [iv x]:List Value).toArray ++ Builtin.zeroCells (Value.int .i64 0).cells (grownCap w (l.length+1) cap 3 - (l.length+1))) 3)) (g:=w.heap.size) (cap:=grownCap w (l.length+1) cap 3) (L:=Puny.ins l l.length x) (za_b _ _ _ rfl) (by rw [Array.toList_append,zc_s,hil,hins];simp [List.take_of_length_le]) hb (by rw [hil];exact hcl2) hmx
    exact⟨_,rfl,by rw [hil] at this;exact this,⟨rfl,rfl,rfl,by simp,fun k hk _=>za_c w.drew _ _ hk⟩⟩
   ·refine (Any2.slices_Insert_int_grow laysNm221 g 0 l.length cap i vb 0 1 1 (l.map iv) [iv x] w (by omega) (by omega) (by omega) (by omega) (by omega) hcl rfl hcells hvs (zr_g l) h1v).mono ?_
    rintro e w' ⟨rfl,rfl⟩
    obtain⟨G,hG⟩:∃ G,G=grownCap w (l.length+1) cap 3:=⟨_,rfl⟩
    have hG2:(laysNm221_ren.t 3)=3:=rfl
    rw [hG2,<-hG]
    rw [<-hG] at hcl2 hmx
    obtain⟨W0,hW0⟩:∃ W0,W0=w.alloc (.cells (((l.map iv).take i).toArray ++ Builtin.zeroCells (Value.int .i64 0).cells (l.length+1 - i) ++ Builtin.zeroCells (Value.int .i64 0).cells (G - (l.length+1))) 3):=⟨_,rfl⟩
    have h0:W0.heap[w.heap.size]?=some (.cells (((l.map iv).take i).toArray ++ Builtin.zeroCells (Value.int .i64 0).cells (l.length+1 - i) ++ Builtin.zeroCells (Value.int .i64 0).cells (G - (l.length+1))) 3 (0,0)):=by rw [hW0];exact za_b _ _ _ rfl
    rw [<-hW0]
    have hsz0:W0.heap.size=w.heap.size+1:=by rw [hW0];simp
    have hr1:=za_h w.heap.size _ [iv x] _ i W0.drew h0
    have hr2:=za_h w.heap.size _ ((l.map iv).drop i) _ (i+1) (W0.drew.setCells w.heap.size i [iv x]).drew hr1
    have hdl:((l.map iv).drop i).length=l.length - i:=by simp
    have:=OwnI.fresh (base:=base) (g:=w.heap.size) (cap:=G) (L:=Puny.ins l i x) hr2 (by
     rw [hins,hil]
     have hs0:(((l.map iv).take i).toArray ++ Builtin.zeroCells (Value.int .i64 0).cells (l.length+1 - i) ++ Builtin.zeroCells (Value.int .i64 0).cells (G - (l.length+1)):Array Value).toList=(l.map iv).take i ++ List.replicate (l.length+1 - i) (iv 0) ++ List.replicate (G - (l.length+1)) (iv 0):=by
      rw [Array.toList_append,Array.toList_append,zc_s,zc_s]
     have hsz:(((l.map iv).take i).toArray ++ Builtin.zeroCells (Value.int .i64 0).cells (l.length+1 - i) ++ Builtin.zeroCells (Value.int .i64 0).cells (G - (l.length+1)):Array Value).size=G:=by
      rw [<-Array.length_toList,hs0];simp;omega
     rw [za_n _ _ _ (by rw [za_r,hsz,hdl];omega),za_n _ _ _ (by rw [hsz];simp;omega),hs0,hdl]
     have hA:((l.map iv).take i).length=i:=by simp;omega
     have e1:((l.map iv).take i ++ List.replicate (l.length+1 - i) (iv 0) ++ List.replicate (G - (l.length+1)) (iv 0)).take i=(l.map iv).take i:=by
      rw [List.append_assoc,List.take_append_of_le_length (by omega),List.take_of_length_le (by omega)]
     rw [e1]
     have e2:∀ Z:List Value,((l.map iv).take i ++ [iv x] ++ Z).take (i+1)=(l.map iv).take i ++ [iv x]:=fun Z=>zg_r _ _ _ _ (by simp;omega)
     rw [e2]
     congr 1
     have e3:∀ Z:List Value,((l.map iv).take i ++ [iv x] ++ Z).drop (i+1+(l.length - i))=Z.drop (l.length - i):=fun Z=>by
      rw [<-List.drop_drop,List.drop_left' (by simp;omega)]
     rw [e3,List.drop_drop,List.drop_append,List.drop_append]
     have hA2:(List.drop (i+[iv x].length+(l.length - i)) ((l.map iv).take i))=[]:=List.drop_of_length_le (by simp;omega)
     simp only [List.length_append,List.length_replicate,hA,List.length_singleton] at hA2 ⊢
     rw [hA2,List.drop_of_length_le (by simp;omega)]
     simp;omega) hb (by rw [hil];exact hcl2) hmx
    refine⟨_,rfl,by rw [hil] at this;exact this,?_⟩
    have a1:=za_m w.heap.size [iv x] i W0.drew
    have a2:=za_m w.heap.size ((l.map iv).drop i) (i+1) (W0.drew.setCells w.heap.size i [iv x]).drew
    have s1:=a1.size
    have s2:=a2.size
    have d1:W0.drew.heap=W0.heap:=rfl
    have d2:(W0.drew.setCells w.heap.size i [iv x]).drew.heap=(W0.drew.setCells w.heap.size i [iv x]).heap:=rfl
    rw [d1] at s1;rw [d2] at s2
    refine⟨?_,?_,?_,by omega,fun k hk _=>?_⟩
    ·exact a2.os.trans (a1.os.trans (by rw [hW0];rfl))
    ·exact a2.tape.trans (a1.tape.trans (by rw [hW0];rfl))
    ·exact a2.output.trans (a1.output.trans (by rw [hW0];rfl))
    ·have b1:=a1.block k (by rw [d1];omega) (fun e=>by cases e;omega)
     have b2:=a2.block k (by rw [d2];omega) (fun e=>by cases e;omega)
     refine b2.trans (b1.trans ?_)
     rw [d1,hW0];exact za_c _ _ _ hk
end
section
open Go.RowKit
variable {w:World} {g g':Nat} {rest:List UInt8} {pts:Value} {bias i n:Int} {st:Bool}
@[simp] theorem str_size (l:List UInt8):(str l).size=l.length:=by simp [str,ByteArray.size]
theorem zf_r (l:List UInt8) (i:Nat) (h:i < (str l).size):(str l)[i]=l[i]'(by simpa using h):=by simp [str];rfl
theorem zl_j (l:List UInt8) (k:Nat) (_h:k<=l.length):(str l).extract k (str l).size=str (l.drop k):=by
 apply ByteArray.ext
 rw [ByteArray.data_extract]
 apply Array.ext'
 simp [str,ByteArray.size]
 exact List.take_of_length_le (by simp)
def DBox (w:World) (g:Nat) (rest:List UInt8) (pts:Value) (n i bias:Int) (st:Bool):Prop :=
 w.heap[g]?=some (.cells #[.string (str rest),pts,n,i,bias,.bool st] 263 (0,0))
theorem DBox.cells (h:DBox w g rest pts n i bias st) :
 w.cell? g=some (.string (str rest))/\w.cell? (g 1)=some pts/\w.cell? (g 2)=some (n:Value)/\w.cell? (g 3)=some (i:Value)/\w.cell? (g 4)=some (bias:Value)/\w.cell? (g 5)=some (.bool st):=by
 refine⟨?_,?_,?_,?_,?_,?_⟩ <;> rw [cell_of_row _ _ _ _ _ _ h] <;> rfl
theorem DBox.free (h:DBox w g rest pts n i bias st) (k:Nat):w.frozen? (g k)=false:=frozen_of_row _ _ _ _ _ h
theorem DBox.ext {w':World} (h:DBox w g rest pts n i bias st) (e:Below w.heap.size w w'):DBox w' g rest pts n i bias st:=(e.block _ (za_a h)).trans h
theorem DBox.setRest (h:DBox w g rest pts n i bias st) (r:List UInt8):DBox (w.setCell g (.string (str r))) g r pts n i bias st:=by
 unfold DBox;rw [heap_setCell_same _ _ _ _ _ _ h];rfl
theorem DBox.setPts (h:DBox w g rest pts n i bias st) (v:Value):DBox (w.setCell (g 1) v) g rest v n i bias st:=by
 unfold DBox;rw [heap_setCell_same _ _ _ _ _ _ h];rfl
theorem DBox.setN (h:DBox w g rest pts n i bias st) (x:Int):DBox (w.setCell (g 2) (x:Value)) g rest pts x i bias st:=by
 unfold DBox;rw [heap_setCell_same _ _ _ _ _ _ h];rfl
theorem DBox.setI (h:DBox w g rest pts n i bias st) (x:Int):DBox (w.setCell (g 3) (x:Value)) g rest pts n x bias st:=by
 unfold DBox;rw [heap_setCell_same _ _ _ _ _ _ h];rfl
theorem DBox.setBias (h:DBox w g rest pts n i bias st) (x:Int):DBox (w.setCell (g 4) (x:Value)) g rest pts n i x st:=by
 unfold DBox;rw [heap_setCell_same _ _ _ _ _ _ h];rfl
theorem DBox.setSt (h:DBox w g rest pts n i bias st) (x:Bool):DBox (w.setCell (g 5) (.bool x)) g rest pts n i bias x:=by
 unfold DBox;rw [heap_setCell_same _ _ _ _ _ _ h];rfl
theorem DBox.other (h:DBox w g rest pts n i bias st) (hg:g ≠ g') (o:Nat) (v:Value):DBox (w.setCell (g' o) v) g rest pts n i bias st:=(heap_setCell_other _ _ _ _ hg).trans h
theorem IBox.other' {z:Int} (h:IBox w g z) (hg:g ≠ g') (o:Nat) (v:Value):IBox (w.setCell (g' o) v) g z:=(heap_setCell_other _ _ _ _ hg).trans h
def PNumPost (g:Nat) (l:List UInt8) (pts:Value) (n i bias:Int) (st:Bool) (w:World) (e:Ending) (w':World):Prop :=
 But g w w'/\((∃ er,er ≠ 0/\Puny.decNum l i 1 0 bias=.error er/\e=.returned (er:Value))\/(∃ r j,Puny.decNum l i 1 0 bias=.ok (r,j)/\e=.returned (.int .i64 0)/\DBox w' g r pts n j bias st))
theorem Puny.value_bd (b:UInt8):-1<=Puny.value b/\Puny.value b<=35:=by
 have:=b.toNat_lt
 unfold Puny.value
 repeat' split
 all_goals (try simp) <;> omega
set_option maxHeartbeats 4000000 in
set_option maxRecDepth 100000 in
theorem zn_z (g:Nat) (l:List UInt8) (pts:Value) (n i bias:Int) (st:Bool) (w:World) (h:DBox w g l pts n i bias st) (h0:0<=i) (h1:i<=1099511627776) (b0:0<=bias) (b1:bias<=1000) (hl:l.length<=1000000) :
 Calls Tryz.prog 257 #[.pointer g] w (PNumPost g l pts n i bias st w):=by
 obtain⟨R,hR⟩:∃ R,R=Puny.decNum l i 1 0 bias:=⟨_,rfl⟩
 have hg0:=za_a h
 have hc4:=h.cells.2.2.2.2.1
 unfold PNumPost
 rw [<-hR]
 have HR:=zH hR
 clear hR
 go_enter Tryz.func257,Tryz.ntmps257
 go_wp2_with fail
 refine (zd_g bias _).mono ?_;rintro e w1 ⟨rfl,hB0,hB1,hb1⟩
 have hD1:=h.ext hb1
 have hw1:But g w w1:=But.of_ext hb1
 have hz:w.heap.size ≠ w.heap.size+1:=by omega
 have hz0:w.heap.size ≠ g:=by omega
 have hz1:w.heap.size+1 ≠ g:=by omega
 have hB1':IBox w1 (w.heap.size+1) (36 * ((0:Nat):Int)):=by simpa using hB1
 clear hB1 hb1 hc4
 go_wp2
 go_loopw [4] (fun y wr=>∃ (k:Nat) (x j:Int) (r:List UInt8),y=.int .i64 x/\0<=x/\x<=1099511627776/\0<=j/\j<=1099511627776/\k+r.length=l.length/\DBox wr g r pts n j bias st/\Hid (R=Puny.decNum r j x k bias)/\IBox wr w.heap.size bias/\IBox wr (w.heap.size+1) (36 * (k:Int))/\But g w wr) (fun _ wr=>match wr.cell? g with|some (.string s)=>s.size|_=>0)
 case atStart=>exact⟨0,1,i,l,rfl,by omega,by omega,h0,h1,by omega,hD1,HR,hB0,hB1',hw1⟩
 case round =>
  obtain⟨k,x,j,r,rfl,hx0,hx1,hj0,hj1,hkr,hD,HG,hK0,hK1,hB⟩:=hrel
  obtain⟨c0,-,-,c3,-,-⟩:=hD.cells
  have f0:=hD.free 0
  have f3:=hD.free 3
  cases r with
 |nil =>
   have hg:=HG.out
   rw [Puny.decNum] at hg
   have HG2:=zH hg
   clear hg
   have hs:(str []).toList=[]:=by simp
   generalize str []=s at *
   go_wp2
   go_ret
   exact⟨hB,.inl ⟨4,by decide,HG2.out,rfl⟩⟩
 |cons b r =>
   obtain⟨t1,t2⟩:=Puny.thr_bd k bias
   obtain⟨v0,v1⟩:=Puny.value_bd b
   have hg:=HG.out
   rw [Puny.decNum] at hg
   have hsz:=str_size (b :: r)
   have hget:∀ h,(str (b :: r))[0]'h=b:=fun h=>by rw [zf_r];rfl
   have hto:(str (b :: r)).toList.isEmpty=false:=by simp
   have hex:(str (b :: r)).extract 1 (r.length+1)=str r:=by
    have:=zl_j (b :: r) 1 (by simp)
    rwa [str_size] at this
   simp only [List.length_cons] at hsz hkr
   have hlt0:=za_a hD
   have hx:=Int.mul_le_mul_of_nonneg_left v1 hx0
   have hx':=Int.mul_le_mul_of_nonneg_left v0 hx0
   rw [Int.mul_comm x (Puny.value b)] at hx hx'
   rw [Int.mul_comm x (-1)] at hx'
   have hpos:0<=Puny.value b->0<=Puny.value b * x:=fun h=>Int.mul_nonneg h hx0
   generalize hS:str (b :: r)=s at *
   have hthr:=fun (W:World) a b=>zo_b w.heap.size (w.heap.size+1) k bias W a b hz (by omega) b0 b1
   have HTH:=zH hthr
   have hval:=fun W=>zl_b true b W
   have HVAL:=zH hval
   have HSET:=zH (hD.setRest r)
   clear hval
   generalize Puny.value b=u at *
   generalize Puny.thr k bias=t at *
   obtain⟨y,hy⟩:∃ y,y=u * x:=⟨_,rfl⟩
   rw [<-hy] at hg hx hx' hpos
   have HY:=zH hy
   clear hthr hy hS
   by_cases hu:u < 0
   ·rw [if_pos hu] at hg
    have HG2:=zH hg
    clear hg
    go_wp2_with fail
    refine (HVAL.out _).mono ?_;rintro e w2 ⟨rfl,rfl⟩
    go_wp2_with fail
    go_ret
    exact⟨hB,.inl ⟨4,by decide,HG2.out,rfl⟩⟩
   rw [if_neg hu] at hg
   have hy0:=hpos (by omega)
   have hy1:y<=38482906972160:=by omega
   have hwr:IntKind.i64.wrap (u * x)=y:=by rw [<-HY.out,IntKind.wrap_i64];omega
   have HG2:=zH hg
   clear hpos hx hx' hg
   go_wp2_with fail
   refine (HVAL.out _).mono ?_;rintro e w2 ⟨rfl,rfl⟩
   by_cases ho:1099511627776 < j+y
   ·have hg:=HG2.out
    rw [if_pos ho] at hg
    have HG3:=zH hg
    have hwr2:IntKind.i64.wrap (j+y)=j+y:=by rw [IntKind.wrap_i64];omega
    clear hg
    go_wp2_with fail
    go_ret
    refine⟨(hB.setCell _ _).setCell _ _,.inl ⟨19,by decide,HG3.out,rfl⟩⟩
   have hg:=HG2.out
   rw [if_neg ho] at hg
   have HG3:=zH hg
   have hwr2:IntKind.i64.wrap (j+y)=j+y:=by rw [IntKind.wrap_i64];omega
   have hD2:=HSET.out.setI (j+y)
   have hB2:=(hB.setCell 0 (.string (str r))).setCell 3 (.int .i64 (j+y))
   have hK02:=(hK0.other' hz0 0 (.string (str r))).other' hz0 3 (.int .i64 (j+y))
   have hK12:=(hK1.other' hz1 0 (.string (str r))).other' hz1 3 (.int .i64 (j+y))
   have HS2:=zH (And.intro hD2 (And.intro hB2 (And.intro hK02 hK12)))
   clear hg HG2 hD2 hB2 hK02 hK12
   go_wp2_with fail
   obtain⟨hD2,hB2,hK02,hK12⟩:=HS2.out
   clear HS2 HSET
   generalize ((wr.setCell g (.string (str r))).setCell (g 3) (.int .i64 (j+y)))=w2 at *
   refine (HTH.out _ hK02 hK12).mono ?_;rintro e w3 ⟨rfl,hK03,hK13,rfl⟩
   have hD3:=hD2.other (Ne.symm hz1) 0 (.int .i64 (36 * ((k:Int)+1)))
   have hB3:But g w (w2.setCell (w.heap.size+1:Nat) (.int .i64 (36 * ((k:Int)+1)))):=⟨hB2.os,hB2.tape,hB2.output,by simpa using hB2.size,fun q hq hqg=>(heap_setCell_other _ _ _ _ (show q ≠ w.heap.size+1 by omega)).trans (hB2.block q hq hqg)⟩
   clear hD2 hB2 hK02 hK12
   generalize (w2.setCell (w.heap.size+1:Nat) (.int .i64 (36 * ((k:Int)+1))))=w3 at *
   by_cases ht:u < t
   ·have hg:=HG3.out
    rw [if_pos ht] at hg
    have HG4:=zH hg
    clear hg
    go_wp2
    go_ret
    exact⟨hB3,.inr ⟨r,j+y,HG4.out,rfl,hD3⟩⟩
   have hg:=HG3.out
   rw [if_neg ht] at hg
   have hz2:=Int.mul_le_mul_of_nonneg_left (show 36 - t<=35 by omega) hx0
   have hz3:=Int.mul_nonneg hx0 (show 0<=36 - t by omega)
   obtain⟨z,hzz⟩:∃ z,z=x * (36 - t):=⟨_,rfl⟩
   rw [<-hzz] at hg hz2 hz3
   have hwr3:IntKind.i64.wrap (x * (36 - t))=z:=by rw [<-hzz,IntKind.wrap_i64];omega
   by_cases ho2:1099511627776 < z
   ·rw [if_pos ho2] at hg
    have HG4:=zH hg
    clear hg hzz
    go_wp2
    go_ret
    exact⟨hB3,.inl ⟨19,by decide,HG4.out,rfl⟩⟩
   ·rw [if_neg ho2] at hg
    have HG4:=zH hg
    clear hg hzz
    go_wp2
    go_roundw
    case rel=>exact⟨k+1,z,j+y,r,rfl,hz3,by omega,by omega,by omega,by omega,hD3,HG4,hK03,hK13,hB3⟩
    case measure =>
     rw [hD3.cells.1,hD.cells.1];simp
end
end Go.Proofs.YtmanejniepghlaaGreatDoor
