import Derived.Test.YtmanejniepghlaaGreatDoorRows
import Derived.WalkKit
import Derived.WalkLawsBesides
import Derived.WalkSpells
import Derived.Outline
import Derived.Below
import Derived.Lib.Hide
import Derived.Laws.BitsAllLaws
import Derived.Laws.Rows
import Derived.Laws.Tables
import Derived.DeepKeys
import Derived.Laws.AppendOwnNone
import Derived.Laws.BytesArg
import Derived.Laws.CopyOwn
import Derived.Lib.SlBytesConst
import Derived.Deep.QuietTactic
import Derived.BigQuiet
import Derived.Deep.DeepMust
import Derived.Lib.MapLaws
import Derived.Lib.ValidLaws
import Derived.Lib.RuneCount
import Derived.Lib.RuneBytes
import Derived.RangeFuncNested
import Derived.RangeFuncBound
import Derived.RangeFuncCalls
import Derived.RangeFuncLeaves
import Derived.RangeFuncBox
import Derived.Deep.RegionHeld3
namespace Go.Proofs.YtmanejniepghlaaGreatDoor
open _root_.Go.Proofs.Tryz
section
open Go.RowKit
inductive Mk:Bool->Prop where|mk (b:Bool):Mk b
theorem zH {P:Prop} (h:P):Hid P:=Lib.hid h
theorem zN (n:Nat):n<=n:=Nat.le_refl n
instance:CoeFun Nat fun _=>Nat->Addr:=⟨fun b o=>⟨b,o,none⟩⟩
instance:Coe Nat Addr:=⟨fun b=>⟨b,0,none⟩⟩
instance:Coe Int Value:=⟨.int .i64⟩
instance:Coe Nat Value:=⟨fun n=>.int .i64 n⟩
structure Tk {α:Type} (L:List α) (p:Prop):Prop where h:p
theorem LV {α:Type} {p:Prop} (L:List α) (h:Tk L p):p:=h.1
theorem LW {α:Type} {p:Prop} (h:p):Tk ([]:List α) p:=⟨h⟩
variable {w w' w0 w1:World} {l:List UInt8} {B b base c g k n:Nat} {a:Option Addr} {v:Value} {t:TypeId} {o:Oper} {Q:Exit->Act->World->Prop} {ops:Array Oper} {rest:List Oper}
@[go_sem] theorem XD:IntKind.u32.signed=false:=rfl
@[go_sem] theorem YJ:IntKind.u32.max=4294967295:=rfl
def AM (w:World) (a:Option Addr) (n c:Nat) (l:List UInt8):Prop :=
 l.length=n/\n<=c/\c<=maxLen/\(a=none->l=[]/\c=0) ∧
  ∀ x,a=some x->∀ i (h:i < l.length),x.spot=none/\x.block < w.heap.size/\w.cell? (x.block (x.off+i))=some (.int .u8 (l[i].toNat:Int))
theorem AM.len (h:AM w a n c l):l.length=n:=h.1
theorem AM.le (h:AM w a n c l):n<=9223372036854775807:=by
 have:=h.2.1;have:=h.2.2.1;unfold maxLen at *;omega
theorem AM.at (h:AM w a n c l) (p:k < n) :
 ∃ b o,a=some ((b:Nat) o)/\b < w.heap.size/\k < l.length/\w.cell? (b (o+k))=some (.int .u8 ((l[k]?.getD 0).toNat:Int)):=by
 obtain⟨j,hn,m,h0,e⟩:=h
 cases a with
|none=>have:=(h0 rfl).1;subst this;simp at j;omega
|some x =>
  obtain⟨b,o,q⟩:=x
  have d:k < l.length:=by omega
  obtain⟨hs,f,i⟩:=e _ rfl k d
  simp only at hs;subst hs
  refine⟨b,o,rfl,f,d,?_⟩
  rw [List.getElem?_eq_getElem d]
  exact i
theorem AM.ext (h:AM w a n c l) (e:Below w.heap.size w w'):AM w' a n c l:=by
 obtain⟨q,hn,m,h0,j⟩:=h
 refine⟨q,hn,m,h0,fun x r i d=>?_⟩
 obtain⟨hs,f,d⟩:=j x r i d
 exact⟨hs,Nat.lt_of_lt_of_le f e.size,(e.cell (p:=(x.block (x.off+i))) f).trans d⟩
section
variable {P:Program}
theorem Yu (w:World) (o:Obj) (k:Nat):(w.alloc o).heap[k]?=if k=w.heap.size then some o else w.heap[k]?:=by
 show (w.heap.push o)[k]?=_
 rw [Array.getElem?_push]
theorem Qd (w:World) (o:Obj) (k:Nat) (h:k < w.heap.size):(w.alloc o).heap[k]?=w.heap[k]?:=by
 rw [Yu,if_neg (by omega)]
theorem Qa {o:Obj} (h:w.heap[k]?=some o):k < w.heap.size:=(Array.getElem?_eq_some_iff.1 h).1
theorem Qb (w:World) (o:Obj) (k:Nat) (h:k=w.heap.size):(w.alloc o).heap[k]?=some o:=by
 rw [Yu,if_pos h]
theorem Ol {a:Act} {K:Act->World->Prop} (f:TypeId) (x y:Operand) (ho:o.op=.store f x y)
 (g:Nat) (q:a.eval x=.pointer g) (t:TypeId) (e d:Array Value) (r:a.eval y=.agg d) (m:w.heap[g]?=some (.cells e t (0,0)))
 (p:(P.info? f).map (·.size)=some d.size) (i:e.size=d.size) (j:d.all (·.oneCell')=true)
 (h:K (a.put o.dst undef) (w.setRow g d)):o.wp P a w K Q:=by
 unfold Oper.wp execOp
 simp only [ho,q,r,Instr.storeAt,Instr.sureAddr,Sem.run_bind,Sem.run_pure,Result.andThen_ok,run_storeVar_row w g t f e d m p i j]
 exact h
theorem Qp {a:Act} (hgd:o.guard=none) (f:TypeId) (x y:Operand) (ho:o.op=.store f x y)
 (g:Nat) (r:a.eval x=.pointer g) (t:TypeId) (e d:Array Value) (s:a.eval y=.agg d) (p:w.heap[g]?=some (.cells e t (0,0)))
 (q:(P.info? f).map (·.size)=some d.size) (i:e.size=d.size) (j:d.all (·.oneCell')=true)
 (h:wpList P ops Q rest (a.put o.dst undef) (w.setRow g d)):wpList P ops Q (o :: rest) a w :=
 wpList_plain hgd fun _ m=>Ol f x y ho g r t e d s p q i j (m _ _ h)
theorem Jp (e:Below B w0 w) (f:B<=g) (d:Array Value):Below B w0 (w.setRow g d) :=
 e.trans ⟨rfl,rfl,rfl,by simp,fun k h=>setRow_other w g k d (by omega)⟩
end
def bv (b:UInt8):Value:=.int .u8 (b.toNat:Int)
def AC (base:Nat) (w:World) (v:Value) (l:List UInt8):Prop:=w.ownsRow base 5 1 v l.length (l.map bv)
theorem AC.sl (h:AC base w v l) :
 ∃ a c,v=.slice a l.length c/\AM w a l.length c l/\∀ x,a=some x->x=x.block/\base<=x.block/\∀ i,w.frozen? (x.block i)=false:=by
 rcases id h.2 with⟨e,hn⟩|⟨g,cap,u,e,q,f,p,m,y,s⟩
 ·have r:l=[]:=List.eq_nil_of_length_eq_zero hn
  subst r
  exact⟨none,0,e,⟨rfl,Nat.le_refl _,by unfold maxLen;omega,fun _=>⟨rfl,rfl⟩,fun x d=>by cases d⟩,fun x d=>by cases d⟩
 ·refine⟨.some g,cap,e,⟨rfl,p,m,(fun h=>by cases h),fun x d i j=>?_⟩,fun x d=>?_⟩
  ·cases d
   refine⟨rfl,(Array.getElem?_eq_some_iff.1 f).1,?_⟩
   have:=World.ownsRow.cellAt (g:=g) (cap:=cap) (by rw [<-e];exact h) i (by simpa using j)
   simp only [Nat.zero_add]
   rw [this];simp [bv,j]
  ·cases d
   exact⟨rfl,q,fun i=>frozen_of_row _ _ _ _ _ f⟩
theorem AC.lt (h:AC base w v l):∀ k,v.ownBlock=some k->base<=k/\k < w.heap.size:=World.ownsRow.lt h
theorem AC.ext (h:AC base w v l) (e:Below w.heap.size w w'):AC base w' v l:=by
 refine⟨h.1,?_⟩
 rcases h.2 with hn|⟨g,cap,f,rfl,i,d,rest⟩
 ·exact .inl hn
 ·exact .inr ⟨g,cap,f,rfl,i,(e.block g (Array.getElem?_eq_some_iff.1 d).1).trans d,rest⟩
theorem AC.alloc (h:AC base w v l) (o:Obj):AC base (w.alloc o) v l:=World.ownsRow.alloc h o
theorem AC.mono {b':Nat} (h:AC b w v l) (f:b'<=b):AC b' w v l:=by
 refine⟨h.1,?_⟩
 rcases h.2 with hn|⟨g,cap,d,rfl,e,rest⟩
 ·exact .inl hn
 ·exact .inr ⟨g,cap,d,rfl,Nat.le_trans f e,rest⟩
theorem AC.nil (base:Nat) (w:World):AC base w (.slice none 0 0) []:=World.ownsRow_nil w base _ _
theorem AC.empty (w:World) (d:base<=w.heap.size):AC base (w.alloc (.cells #[] 5)) (.slice w.heap.size 0 0) [] :=
 World.ownsRow_made w #[] 0 d (by unfold maxLen;omega) rfl
theorem AC.set (h:AC base w (.slice g n c) l) (j:Nat) (b:UInt8) :
 AC base (w.setCell (g j) (bv b)) (.slice g n c) (l.set j b):=by
 have hn:n=l.length:=by
  obtain⟨a,d,e,-,-⟩:=h.sl
  injection e
 subst hn
 have:=(World.ownsRow.stored h j (bv b)).1
 unfold AC
 rw [List.length_set,List.map_set];exact this
theorem AC.row (h:AC base w (.slice g n c) l) (k:Nat) (d:k < l.length) :
 w.cell? (g k)=some (bv (l[k]?.getD 0)):=by
 have hn:n=l.length:=by
  obtain⟨a,f,e,-,-⟩:=h.sl
  injection e
 subst hn
 rw [World.ownsRow.cellAt h k (by simpa using d)];simp [d]
theorem AC.free (h:AC base w (.slice g n c) l) (k:Nat):w.frozen? (g k)=false:=by
 have hn:n=l.length:=by
  obtain⟨a,d,e,-,-⟩:=h.sl
  injection e
 subst hn
 exact World.ownsRow.frozenAt h k
theorem AM.one (w:World) (b:UInt8) (t:TypeId):AM (w.alloc (.cells #[bv b] t)) w.heap.size 1 1 [b]:=by
 refine⟨rfl,Nat.le_refl _,by unfold maxLen;omega,(fun h=>by cases h),fun x e i d=>?_⟩
 cases e
 refine⟨rfl,by simp,?_⟩
 obtain rfl:i=0:=by simpa using d
 rw [World.cell?_alloc_at _ _ _ _ rfl];rfl
theorem AM.built (w:World) (A:Array Value) (l:List UInt8) (n k:Nat) (t:TypeId) (d:Nat × Nat) (e:A=(l.map bv).toArray) (hn:l.length=n) (m:n<=maxLen) (j:k=w.heap.size) :
 AM (w.alloc (.cells A t d)) k n n l:=by
 subst e;subst j
 refine⟨hn,Nat.le_refl _,m,(fun h=>by cases h),fun x p i f=>?_⟩
 cases p
 refine⟨rfl,by simp,?_⟩
 rw [cell_of_row _ _ _ _ _ _ (Qb w _ _ rfl)];simp [bv,f]
theorem AC.built (w:World) (l:List UInt8) (d:base<=w.heap.size) (e:l.length<=maxLen) :
 AC base (w.alloc (.cells (l.map bv).toArray 5)) (.slice w.heap.size l.length l.length) l:=by
 refine⟨by simp,.inr ⟨w.heap.size,l.length,(l.map bv).toArray,rfl,d,Qb _ _ _ rfl,Nat.le_refl _,e,by simp,by simp [List.take_of_length_le]⟩⟩
theorem JX:(prog.info? 5).map (fun i=>(i.zero,i.size,i.bytes))=some (some (.int .u8 0),1,1):=by kernel_rfl
theorem Qc {a:Act} (hgd:o.guard=none) (s x:Operand)
 (ho:o.op=.call { callee:=.builtin .append,args:=#[s,x],argTypes:=#[70,70] })
 (base:Nat) (v:Value) (l:List UInt8) (hs:a.eval s=v) (p:AC base w v l) (b:Option Addr) (m c:Nat) (l2:List UInt8) (F:a.eval x=.slice b m c) (i:AM w b m c l2)
 (T:l.length+m<=140737488355328) (H:base<=w.heap.size)
 (h:∀ e w',AC base w' e (l ++ l2)->w.grownBy w' v.ownBlock->(e=.slice none 0 0 ↔ v=.slice none 0 0/\l2=[])->wpList prog ops Q rest (a.put o.dst e) w'):wpList prog ops Q (o :: rest) a w:=by
 obtain⟨G,A,J,K,M⟩:=info_parts JX
 cases b with
|none =>
  obtain⟨rfl,rfl⟩:=i.2.2.2.1 rfl
  obtain rfl:m=0:=i.1.symm
  refine wpList_append_own_none hgd s x 70 ho base 5 G 1 underlying70 A v l.length _ hs p F ?_
  exact h v w (by simpa using p) ⟨rfl,rfl,rfl,Nat.le_refl _,fun _ _ _=>rfl⟩ (by simp)
|some d =>
  have f:=i.len
  refine wpList_append_own w hgd s x 70 ho base 5 G (.int .u8 0) 1 1 underlying70 A J K M rfl (by decide) v l.length _ hs p d m c (l2.map bv) F (by simp [f]) ?_ ?_ ?_ ?_ H ?_
  ·intro j u C
   have y:j < l2.length:=by
    have:=(List.getElem?_eq_some_iff.1 C).1;simpa using this
   obtain⟨z,U,this⟩:=i.2.2.2.2 d rfl j y
   have I:d.add j=(d.block (d.off+j)):=by
    obtain⟨b,o,W⟩:=d;simp only at z;subst z;unfold Addr.add;split <;> simp_all
   rw [I,this];rw [<-C];simp [bv,y]
  ·intro u hu
   obtain⟨b,_,rfl⟩:=List.mem_map.1 hu;rfl
  ·unfold maxLen;omega
  ·omega
  ·intro e w' N O R
   refine h e w' ?_ O ?_
   ·unfold AC;rw [List.length_append,List.map_append,f];exact N
   ·rw [R];constructor
    ·rintro⟨q,r⟩;exact⟨q,List.eq_nil_of_length_eq_zero (f.trans r)⟩
    ·rintro⟨q,r⟩;subst r;exact⟨q,f.symm⟩
@[go_sem] theorem TP (w:World) (k:Nat) (C:Array Value) (n c:Nat) (d:k=w.heap.size) :
 (convert 70 70 (.slice k n c)).run prog (w.alloc (.cells C 5))=.ok (.slice k n c) (w.alloc (.cells C 5 (C.size,C.size+1))):=by
 subst d
 exact Go.Lib.run_convert_bytes_const w _ _ C n c underlying70 underlying5
def str (l:List UInt8):ByteArray:=⟨l.toArray⟩
@[simp] theorem AQ (l:List UInt8):(str l).toList=l:=ByteArray.toList_mk l
theorem Qs (h:AM w a n c l) :
 (convert 70 9 (.slice a n c)).run prog w=.ok (.string (str l)) w:=by
 cases a with
|none =>
  obtain⟨rfl,rfl⟩:=h.2.2.2.1 rfl
  exact run_convert_bytes_nil w _ _ underlying70 underlying5 _ _ _ underlying9
|some x =>
  by_cases e:l=[]
  ·subst e
   obtain rfl:n=0:=h.1.symm
   rw [run_convert_bytes_string w _ _ _ _ 0 c underlying70 underlying5 underlying9,run_bytesToString w x 0 c [] (by simp [loadCells,loadCellsFrom])]
   rfl
  have f:0 < l.length:=List.length_pos_iff.2 e
  obtain⟨b,o,p⟩:=x
  have hs:=(h.2.2.2.2 _ rfl 0 f).1
  have m:∀ i (h:i < l.length),_:=fun i d=>(h.2.2.2.2 _ rfl i d).2.2
  simp only at hs;subst hs
  rw [run_convert_bytes_arg w _ _ underlying70 underlying5 b o n c (l.map fun b=>(b.toNat:Int)) (by simp [h.len]) (fun i j=>?_) _ underlying9]
  ·congr 2
   simp only [strOfNums,str,List.map_map]
   congr 1
   rw [show ((fun n:Int=>UInt8.ofNat n.toNat) ∘ fun b:UInt8=>(b.toNat:Int))=id from funext fun b=>by simp]
   simp
  ·have d:i < l.length:=by rw [h.len];exact j
   rw [m i d];simp [d]
theorem AM.take (h:AM w a n c l) (s:k<=n):AM w a k c (l.take k):=by
 obtain⟨u,hn,p,h0,j⟩:=h
 refine⟨by simp;omega,by omega,p,fun e=>by simp [h0 e],fun x r i q=>?_⟩
 have f:i < l.length:=by simp at q;omega
 obtain⟨hs,m,d⟩:=j x r i f
 exact⟨hs,m,by rw [d];simp⟩
theorem AM.drop {o:Nat} (h:AM w (b o) n c l) (s:k<=n):AM w (b (o+k)) (n - k) (c - k) (l.drop k):=by
 obtain⟨u,hn,r,h0,j⟩:=h
 refine⟨by simp;omega,by omega,by omega,(fun e=>by cases e),fun x q i p=>?_⟩
 cases q
 have f:k+i < l.length:=by simp at p;omega
 obtain⟨hs,m,d⟩:=j _ rfl (k+i) f
 refine⟨rfl,m,?_⟩
 simp only [Nat.add_assoc] at d ⊢
 rw [d];simp
def AP (w w':World):Prop:=Below w.heap.size w w'
theorem AP.refl (w:World):AP w w:=Below.refl _ _
theorem AP.step {d:World} (e:Below w1.heap.size w1 d) (h:AP w w1):AP w d:=Below.trans h (e.mono (Below.size h))
theorem AP.drew (h:AP w w1):AP w w1.drew:=Below.drew h
theorem AP.alloc (h:AP w w1) (o:Obj):AP w (w1.alloc o):=Below.alloc h (Below.size h) o
theorem AM.ext' (h:AM w a n c l) (e:AP w w'):AM w' a n c l:=h.ext e
def RowIs (w:World) (g:Nat) (t:TypeId) (l:List UInt8):Prop:=w.heap[g]?=some (.cells (l.map bv).toArray t (0,0))
theorem RowIs.slb (h:RowIs w g t l) (o n c:Nat) (hn:o+n<=l.length) (d:n<=c) (f:c<=maxLen):AM w (g o) n c ((l.drop o).take n):=by
 refine⟨by simp;omega,d,f,(fun h=>by cases h),fun x j i e=>?_⟩
 cases j
 simp at e
 refine⟨rfl,(Array.getElem?_eq_some_iff.1 h).1,?_⟩
 rw [cell_of_row _ _ _ _ _ _ h]
 simp [bv,show o+i < l.length by omega]
theorem RowIs.cell (h:RowIs w g t l) (k:Nat) (d:k < l.length):w.cell? (g k)=some (bv (l[k]?.getD 0)):=by
 rw [cell_of_row _ _ _ _ _ _ h];simp [d]
theorem RowIs.free (h:RowIs w g t l) (k:Nat):w.frozen? (g k)=false:=frozen_of_row _ _ _ _ _ h
theorem RowIs.set (h:RowIs w g t l) (k:Nat) (b:UInt8):RowIs (w.setCell (g k) (bv b)) g t (l.set k b):=by
 unfold RowIs
 rw [heap_setCell_same _ _ _ _ _ _ h,List.map_set];simp
theorem RowIs.keep (h:RowIs w g t l) (d:w'.heap[g]?=w.heap[g]?):RowIs w' g t l:=d.trans h
structure BQ (g:Nat) (w w':World):Prop where
 os:w'.os=w.os
 tape:w'.tape=w.tape
 output:w'.output=w.output
 size:w.heap.size<=w'.heap.size
 block:∀ k,k < w.heap.size->k ≠ g->w'.heap[k]?=w.heap[k]?
theorem BQ.refl (g:Nat) (w:World):BQ g w w:=⟨rfl,rfl,rfl,Nat.le_refl _,fun _ _ _=>rfl⟩
theorem BQ.trans {a b c:World} (h:BQ g a b) (k:BQ g b c):BQ g a c :=
 ⟨k.os.trans h.os,k.tape.trans h.tape,k.output.trans h.output,Nat.le_trans h.size k.size,fun i e d=>(k.block i (Nat.lt_of_lt_of_le e h.size) d).trans (h.block i e d)⟩
theorem BQ.setCell {a:World} (h:BQ g a w) (o:Nat) (v:Value):BQ g a (w.setCell (g o) v) :=
 h.trans ⟨rfl,rfl,rfl,by simp,fun k _ d=>heap_setCell_other _ _ _ _ d⟩
theorem BQ.drew {a:World} (h:BQ g a w):BQ g a w.drew:=⟨h.os,h.tape,h.output,h.size,h.block⟩
theorem BQ.setRow {a:World} (h:BQ g a w) (d:Array Value):BQ g a (w.setRow g d) :=
 h.trans ⟨rfl,rfl,rfl,by simp,fun k _ e=>setRow_other w g k d e⟩
theorem BQ.AL (h:Below w.heap.size w w'):BQ g w w':=⟨h.os,h.tape,h.output,h.size,fun k d _=>h.block k d⟩
theorem BQ.below (h0:Below B w0 w) (h:BQ g w w') (e:B<=g) (d:B<=w.heap.size):Below B w0 w' :=
 h0.trans ⟨h.os,h.tape,h.output,h.size,fun k f=>h.block k (by omega) (by omega)⟩
theorem Kg {P:Program} {a:Act} (hgd:o.guard=none) (d s:Operand) (dT sT:TypeId)
 (ho:o.op=.call { callee:=.builtin .copy,args:=#[d,s],argTypes:=#[dT,sT] }) (elem:TypeId) (hu:P.underlying dT=some (.slice elem)) (hsz:(P.info? elem).map (·.size)=some 1)
 (g off dLen dCap:Nat) (x:ByteArray) (hd:a.eval d=.slice (g off) dLen dCap) (hs:a.eval s=.string x) (hn:x.size<=dLen)
 (t:TypeId) (l:List UInt8) (hr:RowIs w g t l) (hfit:off+x.size<=l.length)
 (h:∀ w',RowIs w' g t (l.take off ++ x.data.toList ++ l.drop (off+x.size))->BQ g w w'->wpList P ops Q rest (a.put o.dst (goInt x.size)) w'):wpList P ops Q (o :: rest) a w:=by
 refine wpList_plain hgd fun K p=>?_
 have j:=run_storeCells_at P g off t (x.data.toList.map bv) 0 _ w hr (by simp;exact hfit) (fun v q=>by obtain⟨b,_,rfl⟩:=List.mem_map.1 q;rfl)
 unfold Oper.wp
 cases e:P.info? elem with
|none=>simp [e] at hsz
|some i =>
  have f:Nat.min x.size dLen=x.size:=Nat.min_eq_left hn
  have m:List.take x.size (List.map (fun b:UInt8=>Value.int .u8 (b.toNat:Int)) x.data.toList)=x.data.toList.map bv:=by
   rw [List.take_of_length_le (by simp)];rfl
  simp [execOp,ho,resolve,invoke,builtin,hd,hs,Builtin.copy_,run_underlying hu,Builtin.lenOf,Builtin.firstCells,sizeOf,typeInfo,e,f,Result.andThen]
  rw [m,j]
  refine p _ _ (h _ ?_ ((BQ.refl _ _).setRow _))
  unfold RowIs
  rw [setRow_heap w g _ _ t _ hr]
  simp
theorem YN {w:World} {b:Nat} {t:TypeId} {x y z u:Value} (h:w.heap[b]?=some (.cells #[x,y,z,u] t (0,0))):w.cell? b=some x/\w.cell? (b 1)=some y/\w.cell? (b 2)=some z/\w.cell? (b 3)=some u :=
 ⟨(cell_of_row _ _ 0 _ _ _ h).trans rfl,(cell_of_row _ _ 1 _ _ _ h).trans rfl,(cell_of_row _ _ 2 _ _ _ h).trans rfl,(cell_of_row _ _ 3 _ _ _ h).trans rfl⟩
theorem MC {B b:Nat} {w W:World} {x y:Value} (h:Below B w W) (d:B<=b):Below B w ((W.setCell b x).setCell (b 1) y):=(h.setCell (p:=b) d _).setCell (p:=(b 1)) d _
theorem DA {B b:Nat} {w W:World} {x y z u:Value} (h:Below B w W) (d:B<=b):Below B w ((((W.setCell b x).setCell (b 1) y).setCell (b 2) z).setCell (b 3) u):=((MC h d).setCell (p:=(b 2)) d _).setCell (p:=(b 3)) d _
end
section
open Go.RowKit
variable {w w':World} {l:List (List UInt8)} {b base c k n:Nat} {v:Value} {a:Option Addr}
def tv (z:List UInt8):Value:=.string (str z)
def KW (w:World) (a:Option Addr) (n c:Nat) (l:List (List UInt8)):Prop :=
 l.length=n/\n<=c/\c<=maxLen/\(a=none->l=[]/\c=0) ∧
  ∀ x,a=some x->∀ i (h:i < l.length),x.spot=none/\x.block < w.heap.size/\w.cell? (x.block (x.off+i))=some (tv l[i])
theorem KW.len (h:KW w a n c l):l.length=n:=h.1
theorem KW.nil (w:World):KW w none 0 0 []:=⟨rfl,zN _,by unfold maxLen;omega,fun _=>⟨rfl,rfl⟩,fun x d=>by cases d⟩
theorem KW.at (h:KW w a n c l) (m:k < n) :
 ∃ b o,a=some ((b:Nat) o)/\b < w.heap.size/\k < l.length/\w.cell? (b (o+k))=some (tv (l[k]?.getD [])):=by
 obtain⟨i,hn,j,h0,e⟩:=h
 cases a with
|none=>have:=(h0 rfl).1;subst this;simp at i;omega
|some x =>
  obtain⟨b,o,p⟩:=x
  have d:k < l.length:=by omega
  obtain⟨hs,f,g⟩:=e _ rfl k d
  simp only at hs;subst hs
  refine⟨b,o,rfl,f,d,?_⟩
  rw [List.getElem?_eq_getElem d]
  exact g
theorem KW.ext (h:KW w a n c l) (e:Below w.heap.size w w'):KW w' a n c l:=by
 obtain⟨m,hn,j,h0,g⟩:=h
 refine⟨m,hn,j,h0,fun x o i d=>?_⟩
 obtain⟨hs,f,d⟩:=g x o i d
 exact⟨hs,Nat.lt_of_lt_of_le f e.size,(e.cell (p:=(x.block (x.off+i))) f).trans d⟩
theorem KW.take (h:KW w a n c l) (q:k<=n):KW w a k c (l.take k):=by
 obtain⟨r,hn,m,h0,g⟩:=h
 refine⟨by simp;omega,by omega,m,fun e=>by simp [h0 e],fun x p i o=>?_⟩
 have f:i < l.length:=by simp at o;omega
 obtain⟨hs,j,d⟩:=g x p i f
 exact⟨hs,j,by rw [d];simp⟩
def CW (base:Nat) (w:World) (v:Value) (l:List (List UInt8)):Prop:=w.ownsRow base 9 1 v l.length (l.map tv)
theorem CW.sl (h:CW base w v l):∃ a c,v=.slice a l.length c/\KW w a l.length c l:=by
 rcases id h.2 with⟨d,hn⟩|⟨g,cap,r,d,t,m,j,f,s,q⟩
 ·have o:l=[]:=List.eq_nil_of_length_eq_zero hn
  subst o
  exact⟨none,0,d,KW.nil w⟩
 ·refine⟨.some g,cap,d,⟨rfl,j,f,(fun h=>by cases h),fun x p i e=>?_⟩⟩
  cases p
  refine⟨rfl,(Array.getElem?_eq_some_iff.1 m).1,?_⟩
  have:=World.ownsRow.cellAt (g:=g) (cap:=cap) (by rw [<-d];exact h) i (by simpa using e)
  simp only [Nat.zero_add]
  rw [this];simp [e]
theorem CW.lt (h:CW base w v l):∀ k,v.ownBlock=some k->base<=k/\k < w.heap.size:=World.ownsRow.lt h
theorem CW.alloc (h:CW base w v l) (o:Obj):CW base (w.alloc o) v l:=World.ownsRow.alloc h o
theorem CW.nil (base:Nat) (w:World):CW base w (.slice none 0 0) []:=World.ownsRow_nil w base _ _
theorem QC:(prog.info? 9).map (fun i=>(i.zero,i.size,i.bytes))=some (some (.string ⟨#[]⟩),1,16):=by kernel_rfl
theorem KW.one (w:World) (z:List UInt8) (t:TypeId):KW (w.alloc (.cells #[tv z] t)) w.heap.size 1 1 [z]:=by
 refine⟨rfl,zN _,by unfold maxLen;omega,(fun h=>by cases h),fun x e i d=>?_⟩
 cases e
 refine⟨rfl,by simp,?_⟩
 obtain rfl:i=0:=by simpa using d
 rw [World.cell?_alloc_at _ _ _ _ rfl];rfl
theorem Xb {r:Array Oper} {rest:List Oper} {o:Oper} {a:Act} {Q:Exit->Act->World->Prop} (hgd:o.guard=none) (s x:Operand)
 (ho:o.op=.call { callee:=.builtin .append,args:=#[s,x],argTypes:=#[200,200] })
 (base:Nat) (v:Value) (l:List (List UInt8)) (hs:a.eval s=v) (g:CW base w v l) (b:Option Addr) (m c:Nat) (l2:List (List UInt8)) (z:a.eval x=.slice b m c) (e:KW w b m c l2)
 (K:l.length+m<=1000000000000) (B:base<=w.heap.size)
 (h:∀ f w',CW base w' f (l ++ l2)->w.grownBy w' v.ownBlock->wpList prog r Q rest (a.put o.dst f) w'):wpList prog r Q (o :: rest) a w:=by
 obtain⟨A,t,F,G,H⟩:=info_parts QC
 cases b with
|none =>
  obtain⟨rfl,rfl⟩:=e.2.2.2.1 rfl
  obtain rfl:m=0:=e.1.symm
  refine wpList_append_own_none hgd s x 200 ho base 9 A 1 underlying200 t v l.length _ hs g z ?_
  exact h v w (by simpa using g) ⟨rfl,rfl,rfl,zN _,fun _ _ _=>rfl⟩
|some d =>
  have p:=e.len
  refine wpList_append_own w hgd s x 200 ho base 9 A (.string ⟨#[]⟩) 1 16 underlying200 t F G H rfl (by decide) v l.length _ hs g d m c (l2.map tv) z (by simp [p]) ?_ ?_ (by unfold maxLen;omega) (by omega) B ?_
  ·intro j u y
   have i:j < l2.length:=by
    have:=(List.getElem?_eq_some_iff.1 y).1;simpa using this
   obtain⟨q,M,this⟩:=e.2.2.2.2 d rfl j i
   have C:d.add j=(d.block (d.off+j)):=by
    obtain⟨b,o,N⟩:=d;simp only at q;subst q;unfold Addr.add;split <;> simp_all
   rw [C,this];rw [<-y];simp [i]
  ·intro u hu
   obtain⟨b,_,rfl⟩:=List.mem_map.1 hu;rfl
  ·intro f w' I J _
   refine h f w' ?_ J
   unfold CW;rw [List.length_append,List.map_append,p];exact I
end
end Go.Proofs.YtmanejniepghlaaGreatDoor
namespace Go.Proofs.YtmanejniepghlaaGreatDoor.Pu
def point (n:Int):Bool:=decide (0<=n) && decide (n<=1114111) && (decide (n < 55296) || decide (57343 < n))
theorem BC (n:Int):point n=true ↔ 0<=n/\n<=1114111/\(n < 55296\/57343 < n):=by simp [point,and_assoc]
def thr (k:Nat) (a:Int):Int:=min (max (36 * ((k:Int)+1) - a) 1) 26
theorem GP (k:Nat) (a:Int):1<=thr k a/\thr k a<=26:=by unfold thr;omega
def EC:Nat->Int->Int->Int
|0,_,k=>k
|f+1,d,k=>if 455 < d then EC f (d / 35) (k+36) else k+36 * d / (d+38)
def DG (delta:Int) (count:Int) (first:Bool):Int:=(if first then delta / 700 else delta / 2)+(if first then delta / 700 else delta / 2) / count
def adapt (delta:Int) (count:Int) (first:Bool):Int:=EC ((DG delta count first).toNat+1) (DG delta count first) 0
theorem Oq (f:Nat):∀ d k:Int,0<=d->0<=k->k<=EC f d k/\(d < 35 ^ f->EC f d k<=k+36 * f+36):=by
 induction f with
|zero=>intro d k hd g;simp [EC];omega
|succ f ih =>
  intro d k hd g
  rw [EC]
  by_cases h:455 < d
  ·rw [if_pos h]
   obtain⟨a,b⟩:=ih (d / 35) (k+36) (by omega) (by omega)
   refine⟨by omega,fun e=>?_⟩
   have c:d / 35 < 35 ^ f:=by
    have:d < 35 ^ f * 35:=by rw [<-Int.pow_succ];exact e
    omega
   have:=b c
   rw [Int.natCast_add];omega
  ·rw [if_neg h]
   have h0:0<=36 * d / (d+38):=Int.ediv_nonneg (by omega) (by omega)
   have a:36 * d / (d+38) < 36:=Int.ediv_lt_of_lt_mul (by omega) (by omega)
   exact⟨by omega,fun _=>by rw [Int.natCast_add];omega⟩
theorem JP (delta count:Int) (first:Bool) (h:0<=delta) (d:1<=count):0<=DG delta count first/\DG delta count first<=2 * delta:=by
 have a:∀ x:Int,0<=x->0<=x / count/\x / count<=x:=fun x b=>⟨Int.ediv_nonneg b (by omega),Int.ediv_le_self _ b⟩
 unfold DG
 cases first
 ·have c:=a (delta / 2) (by omega)
  simp only [Bool.false_eq_true,if_false]
  generalize (delta / 2) / count=y at *
  omega
 ·have c:=a (delta / 700) (by omega)
  simp only [if_true]
  generalize (delta / 700) / count=y at *
  omega
theorem Pg (f:Nat):∀ (g:Nat) (d k:Int),0<=d->d < f->d < g->EC f d k=EC g d k:=by
 induction f with
|zero=>intro g d k h0 b;omega
|succ f ih =>
  intro g d k h0 b c
  obtain⟨g,rfl⟩:∃ a,g=a+1:=⟨g - 1,by omega⟩
  rw [EC,EC]
  by_cases h:455 < d
  ·rw [if_pos h,if_pos h];exact ih g _ _ (by omega) (by omega) (by omega)
  ·rw [if_neg h,if_neg h]
theorem GR (delta count:Int) (first:Bool) (h:0<=delta) (b:delta<=2199023255552) (o:1<=count):0<=adapt delta count first/\adapt delta count first<=1000:=by
 obtain⟨a,p⟩:=JP delta count first h o
 unfold adapt
 generalize DG delta count first=s at *
 refine⟨(Oq _ s 0 a (by omega)).1,?_⟩
 by_cases hs:s < 10
 ·rw [Pg _ 10 s 0 a (by omega) (by omega)]
  have:=(Oq 10 s 0 a (by omega)).2 (Int.lt_of_lt_of_le (show s < 4398046511105 by omega) (by decide))
  omega
 ·have e:EC (s.toNat+1) s 0=EC 10 s 0:=by
   have key:∀ (f g:Nat) (d k:Int),0<=d->d < f->d < 35 ^ g->(455:Int) < 35 ^ g->EC f d k=EC (g+1) d k:=by
    intro f
    induction f with
   |zero=>intro g d k h0 j;omega
   |succ f ih =>
     intro g d k h0 j b l
     rw [EC,EC]
     by_cases h:455 < d
     ·rw [if_pos h,if_pos h]
      cases g with
     |zero=>simp at l
     |succ g =>
       have m:d / 35 < 35 ^ g:=by
        have:d < 35 ^ g * 35:=by rw [<-Int.pow_succ];exact b
        omega
       by_cases n:(455:Int) < 35 ^ g
       ·exact ih g _ _ (by omega) (by omega) m n
       ·have c:¬ 455 < d / 35:=by omega
        obtain⟨f,rfl⟩:∃ i,f=i+1:=⟨f - 1,by omega⟩
        rw [EC,EC,if_neg c,if_neg c]
     ·rw [if_neg h,if_neg h]
   exact key _ 9 s 0 a (by omega) (Int.lt_of_le_of_lt (show s<=4398046511104 by omega) (by decide)) (by decide)
  rw [e]
  have:=(Oq 10 s 0 a (by omega)).2 (Int.lt_of_lt_of_le (show s < 4398046511105 by omega) (by decide))
  omega
def digit (d:Int):UInt8:=UInt8.ofNat (if d < 26 then 97+d else 48+d - 26).toNat
def value (b:UInt8):Int :=
 if 97<=b.toNat/\b.toNat<=122 then (b.toNat:Int) - 97 else if 65<=b.toNat/\b.toNat<=90 then (b.toNat:Int) - 65 else if 48<=b.toNat/\b.toNat<=57 then (b.toNat:Int) - 48+26 else -1
def digs:Nat->Int->Nat->Int->List UInt8
|0,_,_,_=>[]
|f+1,q,k,bias=>if q < thr k bias then [digit q] else digit (thr k bias+(q - thr k bias) % (36 - thr k bias)) :: digs f ((q - thr k bias) / (36 - thr k bias)) (k+1) bias
def MT (q a:Int):List UInt8:=digs (q.toNat+1) q 0 a
theorem MS (q t:Int) (a:1<=t) (b:t<=26) (h:t<=q):0<=(q - t) / (36 - t)/\(q - t) / (36 - t) < q/\10 * ((q - t) / (36 - t))<=q:=by
 have h0:0<=(q - t) / (36 - t):=Int.ediv_nonneg (by omega) (by omega)
 have c:(36 - t) * ((q - t) / (36 - t))<=q - t:=Int.mul_ediv_self_le (by omega)
 have d:10 * ((q - t) / (36 - t))<=(36 - t) * ((q - t) / (36 - t)):=Int.mul_le_mul_of_nonneg_right (by omega) h0
 omega
theorem Ow (m:Nat):∀ (f:Nat) (q:Int) (k:Nat) (a:Int),0<=q->q < 10 ^ m->(digs f q k a).length<=m+1:=by
 induction m with
|zero =>
  intro f q k a h0 b
  have:q=0:=by simp at b;omega
  subst this
  have:=GP k a
  cases f with
 |zero=>simp [digs]
 |succ f=>rw [digs,if_pos (by omega)];simp
|succ m ih =>
  intro f q k a h0 b
  cases f with
 |zero=>simp [digs]
 |succ f =>
   rw [digs]
   have c:=GP k a
   by_cases h:q < thr k a
   ·rw [if_pos h];simp
   ·rw [if_neg h]
    obtain⟨d,e,g⟩:=MS q _ c.1 c.2 (by omega)
    have:=ih f ((q - thr k a) / (36 - thr k a)) (k+1) a d (by rw [Int.pow_succ] at b;omega)
    simp;omega
structure E where
 out:List UInt8
 delta:Int
 bias:Int
 done:Nat
def CY (n:Int) (a:Nat) (s:E) (p:Int):E :=
 if p < n then { s with delta:=s.delta+1 }
 else if p=n then ⟨s.out ++ MT s.delta s.bias,0,adapt s.delta (s.done+1) (s.done == a),s.done+1⟩
 else s
def least (n:Int) (m:Int) (a:List Int):Int:=a.foldl (fun m p=>if n<=p then min m p else m) m
def GH (a:List Int) (b:Nat):Nat->Int->E->List UInt8
|0,_,s=>s.out
|f+1,n,s =>
  if s.done < a.length then
   let m:=least n 1114112 a
   let c:=a.foldl (CY m b) { s with delta:=s.delta+(m - n) * (s.done+1) }
   GH a b f (m+1) { c with delta:=c.delta+1 }
  else s.out
def basics (a:List Int):List UInt8:=(a.filter fun p=>decide (p < 128)).map fun p=>UInt8.ofNat p.toNat
def front (a:List Int):List UInt8:=basics a ++ (if basics a=[] then [] else [45])
def encode (a:List Int):List UInt8:=GH a (basics a).length (a.length+1) 128 ⟨front a,0,72,(basics a).length⟩
def enc (a:List Int):List UInt8 × Int :=
 if 256 < a.length then ([],3) else if a.all point then (encode a,0) else ([],2)
def BK:List UInt8->Int->Int->Nat->Int->Except Int (List UInt8 × Int)
|[],_,_,_,_=>.error 4
|b :: l,i,w,k,bias =>
  if value b < 0 then .error 4
  else if 1099511627776 < i+value b * w then .error 19
  else if value b < thr k bias then .ok (l,i+value b * w)
  else if 1099511627776 < w * (36 - thr k bias) then .error 19
  else BK l (i+value b * w) (w * (36 - thr k bias)) (k+1) bias
structure D where
 pts:List Int
 n:Int
 i:Int
 bias:Int
 first:Bool
def ins (l:List Int) (i:Nat) (n:Int):List Int:=l.take i ++ n :: l.drop i
def BT (l:List UInt8) (s:D):Except Int (List UInt8 × D) :=
 match BK l s.i 1 0 s.bias with
|.error e=>.error e
|.ok (r,j) =>
  let c:Int:=s.pts.length+1
  let n:=s.n+j / c
  if point n=false then .error 2
  else if 256 < c then .error 3
  else .ok (r,⟨ins s.pts (j % c).toNat n,n,j % c+1,adapt (j - s.i) c s.first,false⟩)
def CQ:Nat->List UInt8->D->Except Int (List Int)
|0,_,s=>.ok s.pts
|f+1,l,s =>
  if l=[] then .ok s.pts else
  match BT l s with
 |.error e=>.error e
 |.ok (r,s')=>CQ f r s'
def cut (l:List UInt8):Nat:=l.length - 1 - (l.reverse.takeWhile (· != 45)).length
def decode (l:List UInt8):Except Int (List Int) :=
 if 1024 < l.length then .error 3
 else if (l.all fun b=>decide (b.toNat < 128))=false then .error 4
 else if 256 < cut l then .error 3
 else CQ (l.length+1) (if cut l=0 then l else l.drop (cut l+1)) ⟨(l.take (cut l)).map fun b=>(b.toNat:Int),128,0,72,true⟩
def dec (l:List UInt8):List Int × Int:=match decode l with
|.error e=>([],e)
|.ok p=>(p,0)
end Go.Proofs.YtmanejniepghlaaGreatDoor.Pu
namespace Go.Proofs.YtmanejniepghlaaGreatDoor.Pu
variable {t:List UInt8}
theorem FF (l:List Int) (i:Nat) (n:Int) (h:i<=l.length):(ins l i n).length=l.length+1:=by simp [ins];omega
theorem Eg (n:Int) (a:List Int):∀ m,least n m a<=m:=by
 induction a with
|nil=>intro m;exact Int.le_refl _
|cons p a ih =>
  intro m
  have:=ih (if n<=p then min m p else m)
  rw [least,List.foldl_cons]
  refine Int.le_trans this ?_
  split <;> omega
theorem Bk (n:Int) (b:List Int):∀ m,∀ p ∈ b,n<=p->least n m b<=p:=by
 induction b with
|nil=>intro m p a;cases a
|cons q b ih =>
  intro m p a hn
  rw [least,List.foldl_cons]
  rcases List.mem_cons.1 a with rfl|a
  ·refine Int.le_trans (Eg n b _) ?_
   rw [if_pos hn];omega
  ·exact ih _ p a hn
theorem Bl (n:Int) (a:List Int):∀ m,least n m a=m\/(least n m a ∈ a/\n<=least n m a):=by
 induction a with
|nil=>intro m;exact .inl rfl
|cons q a ih =>
  intro m
  have e:least n m (q :: a)=least n (if n<=q then min m q else m) a:=rfl
  rw [e]
  rcases ih (if n<=q then min m q else m) with h|⟨d,f⟩
  ·by_cases c:n<=q
   ·rw [if_pos c] at h ⊢
    rcases Int.le_total q m with b|b
    ·rw [h,Int.min_eq_right b];exact .inr ⟨List.mem_cons_self ..,c⟩
    ·rw [h,Int.min_eq_left b];exact .inl rfl
   ·rw [if_neg c] at h ⊢;exact .inl h
  ·exact .inr ⟨List.mem_cons_of_mem _ d,f⟩
theorem Zm (n M:Int) (a:List Int) (d:∃ p ∈ a,n<=p) (g:∀ p ∈ a,p < M):least n M a ∈ a/\n<=least n M a/\∀ p ∈ a,n<=p->least n M a<=p:=by
 obtain⟨p,c,hn⟩:=d
 have b:=Bk n a M
 rcases Bl n a M with h|⟨e,f⟩
 ·have:=b p c hn;have:=g p c;omega
 ·exact⟨e,f,b⟩
theorem Bj (n M b:Int) (a:List Int) (c:∃ p ∈ a,n<=p) (h:∀ p ∈ a,p < M) (d:∀ p ∈ a,p < b):least n M a=least n b a:=by
 obtain⟨a1,a2,a3⟩:=Zm n M a c h
 obtain⟨e,f,g⟩:=Zm n b a c d
 have:=a3 _ e f
 have:=g _ a1 a2
 omega
def below (n:Int) (a:List Int):List Int:=a.filter fun p=>decide (p < n)
theorem Kt (n:Int) (a:List Int) (h:(below n a).length < a.length):∃ p ∈ a,n<=p:=by
 refine Classical.byContradiction fun c=>?_
 have:(below n a).length=a.length:=(List.length_filter_eq_length_iff).2 fun p d=>decide_eq_true (by
  rcases Int.lt_or_le p n with b|b
  ·exact b
  ·exact absurd ⟨p,d,b⟩ c)
 omega
theorem Wy (a:List Int) (c:∀ p ∈ a,point p=true):(basics a).map (fun b=>(b.toNat:Int))=below 128 a:=by
 unfold basics below
 rw [List.map_map]
 have:∀ p ∈ a.filter fun p=>decide (p < 128),((fun b:UInt8=>(b.toNat:Int)) ∘ fun p:Int=>UInt8.ofNat p.toNat) p=p:=by
  intro p f
  obtain⟨d,e⟩:=List.mem_filter.1 f
  have g:=of_decide_eq_true e
  have h:=(BC p).1 (c p d)
  have:(UInt8.ofNat p.toNat).toNat=p.toNat:=by simp;omega
  simp only [Function.comp,this];omega
 rw [List.map_congr_left this];simp
theorem RA (b t:List UInt8) (a:∀ x ∈ t,x ≠ 45):cut (b ++ 45 :: t)=b.length:=by
 unfold cut
 have:(b ++ 45 :: t).reverse.takeWhile (· != 45)=t.reverse:=by
  rw [List.reverse_append,List.reverse_cons,List.append_assoc]
  rw [List.takeWhile_append_of_pos (by intro x c;have:=a x (List.mem_reverse.1 c);simpa using this)]
  simp
 rw [this];simp
theorem SF (t:List UInt8) (a:∀ x ∈ t,x ≠ 45):cut t=0:=by
 unfold cut
 have:t.reverse.takeWhile (· != 45)=t.reverse:=by
  have:=List.takeWhile_append_of_pos (p:=(· != (45:UInt8))) (l₁:=t.reverse) (l₂:=[]) (by intro x b;have:=a x (List.mem_reverse.1 b);simpa using this)
  simpa using this
 rw [this];simp
theorem WN (l:List UInt8) (h:cut l ≠ 0):cut l < l.length/\l=l.take (cut l) ++ 45 :: l.drop (cut l+1):=by
 unfold cut at h ⊢
 have hs:=List.takeWhile_append_dropWhile (p:=(· != (45:UInt8))) (l:=l.reverse)
 generalize f:l.reverse.takeWhile (· != 45)=t at *
 generalize hd:l.reverse.dropWhile (· != 45)=d at *
 have a:=congrArg List.length hs
 simp at a
 cases d with
|nil=>simp at a;omega
|cons x d =>
  have e:x=45:=by
   have:=List.head?_dropWhile_not (p:=(· != (45:UInt8))) (l:=l.reverse)
   rw [hd] at this
   simpa using this
  subst e
  have b:l=d.reverse ++ 45 :: t.reverse:=by
   have:=congrArg List.reverse hs
   rw [List.reverse_reverse] at this
   rw [<-this];simp
  simp at a
  have c:l.length - 1 - t.length=d.reverse.length:=by simp;omega
  rw [c]
  refine⟨by simp;omega,?_⟩
  conv=>lhs;rw [b]
  congr 1
  ·rw [b,List.take_left]
  ·rw [b]
   rw [show d.reverse.length+1=(d.reverse ++ [45]).length by simp,show d.reverse ++ 45 :: t.reverse=(d.reverse ++ [45]) ++ t.reverse by simp,List.drop_left]
theorem Rb (l:List UInt8) (h:(l.all fun b=>decide (b.toNat < 128))=true) (k:Nat):∀ p ∈ (l.take k).map (fun b=>(b.toNat:Int)),point p=true/\p < 128:=by
 intro p c
 obtain⟨b,a,rfl⟩:=List.mem_map.1 c
 have:=of_decide_eq_true (List.all_eq_true.1 h b (List.mem_of_mem_take a))
 exact⟨(BC _).2 (by omega),by omega⟩
theorem Ps (f:Nat):∀ (l:List UInt8) (s:D) (p:List Int),(∀ x ∈ s.pts,point x=true)->s.pts.length<=256->CQ f l s=.ok p->(∀ x ∈ p,point x=true)/\p.length<=256:=by
 induction f with
|zero=>intro l s p b c h;cases h;exact⟨b,c⟩
|succ f ih =>
  intro l s p b c h
  rw [CQ] at h
  split at h
  ·cases h;exact⟨b,c⟩
  ·split at h
   ·cases h
   ·rename_i r s' hs
    unfold BT at hs
    split at hs
    ·cases hs
    ·rename_i r0 j _
     dsimp only at hs
     split at hs
     ·cases hs
     ·rename_i hp
      split at hs
      ·cases hs
      ·rename_i hc
       cases hs
       have d:=Int.emod_nonneg j (show ((s.pts.length:Int)+1) ≠ 0 by omega)
       have e:=Int.emod_lt_of_pos j (show 0 < (s.pts.length:Int)+1 by omega)
       refine ih _ _ _ (fun x a=>?_) ?_ h
       ·rcases List.mem_append.1 a with a|a
        ·exact b x (List.mem_of_mem_take a)
        ·rcases List.mem_cons.1 a with rfl|a
         ·simpa using hp
         ·exact b x (List.mem_of_mem_drop a)
       ·rw [FF _ _ _ (by omega)];omega
theorem LF (l:List UInt8) (p:List Int) (h:decode l=.ok p):(∀ x ∈ p,point x=true)/\p.length<=256:=by
 unfold decode at h
 split at h
 ·cases h
 ·split at h
  ·cases h
  ·rename_i h2
   split at h
   ·cases h
   ·exact Ps _ _ _ _ (fun x a=>(Rb l (by simpa using h2) (cut l) x a).1) (by simp;omega) h
end Go.Proofs.YtmanejniepghlaaGreatDoor.Pu
namespace Go.Proofs.YtmanejniepghlaaGreatDoor.BL
open Go.Lib
def pre:List UInt8:=[120,110,45,45]
def canon (b:UInt8):Bool:=(decide (97<=b.toNat) && decide (b.toNat<=122)) || (decide (48<=b.toNat) && decide (b.toNat<=57)) || decide (b.toNat=45) || decide (b.toNat=95)
def JH (r:List UInt8) (p:List Int):Bool:=p.all (fun x=>!(decide (65<=x) && decide (x<=90))) && p.any (fun x=>decide (128<=x)) && decide (Pu.encode p=r)
def proper (r:List UInt8):Bool:=match Pu.decode r with
|.error _=>false
|.ok p=>JH r p
def frame (l:List UInt8):Bool:=decide (l ≠ []) && decide (l.length<=63) && decide (l.head? ≠ some 45) && decide (l.getLast? ≠ some 45) && l.all canon
def AB (l:List UInt8):Bool:=frame l && (!(pre.isPrefixOf l) || proper (l.drop 4))
end Go.Proofs.YtmanejniepghlaaGreatDoor.BL
namespace Go.Proofs.YtmanejniepghlaaGreatDoor.Wi
variable {b s:List UInt8} {k n v:Nat} {x:UInt8}
def enc (v:Nat):List UInt8:=if v < 128 then [UInt8.ofNat v] else UInt8.ofNat (v % 128+128) :: enc (v / 128)
termination_by v
decreasing_by omega
theorem FO (h:v < 128):enc v=[UInt8.ofNat v]:=by rw [enc,if_pos h]
theorem GZ (h:¬ v < 128):enc v=UInt8.ofNat (v % 128+128) :: enc (v / 128):=by rw [enc,if_neg h]
theorem BN:∀ (k v:Nat),v < 128 ^ (k+1)->1<=(enc v).length/\(enc v).length<=k+1
|0,v,h=>by rw [FO (by omega)];simp
|k+1,v,h=>by
  by_cases a:v < 128
  ·rw [FO a];simp
  ·rw [GZ a]
   have c:v / 128 < 128 ^ (k+1):=by
    rw [Nat.div_lt_iff_lt_mul (by omega)];rw [Nat.pow_succ] at h;exact h
   have:=BN k (v / 128) c
   simp only [List.length_cons];omega
theorem BG (h:v < 18446744073709551616):1<=(enc v).length/\(enc v).length<=10:=BN 9 v (by omega)
def big (x:UInt8):Bool:=decide (128<=x.toNat)
def val:List UInt8->Nat
|[]=>0
|x :: l=>x.toNat % 128+128 * val l
def run (b:List UInt8):Nat:=(b.takeWhile big).length
def dec (b:List UInt8):Nat × Nat × Int :=
 if 10<=run b then (0,0,19) else if run b=b.length then (0,0,5) else if run b=9/\1 < (b.getD 9 0).toNat then (0,0,19) else
  if 0 < run b/\b.getD (run b) 0=0 then (0,0,6) else (val (b.take (run b+1)),run b+1,0)
theorem Ms (b:List UInt8):run b<=b.length:=(List.takeWhile_sublist big).length_le
theorem Zv (h:128<=x.toNat):run (x :: b)=run b+1:=by
 unfold run;rw [List.takeWhile_cons_of_pos (by simpa [big] using h)];rfl
theorem Za (h:x.toNat < 128):run (x :: b)=0:=by
 unfold run;rw [List.takeWhile_cons_of_neg (by simp [big];omega)];rfl
theorem Co:∀ (b:List UInt8) (k:Nat),k < run b->∃ h:k < b.length,128<=(b[k]).toNat
|[],k,hk=>by simp [run] at hk
|x :: b,k,hk=>by
  by_cases h:128<=x.toNat
  ·rw [Zv h] at hk
   cases k with
  |zero=>exact⟨by simp,h⟩
  |succ k =>
    obtain⟨c,a⟩:=Co b k (by omega)
    exact⟨by simp;omega,a⟩
  ·rw [Za (by omega)] at hk;omega
theorem Vh:∀ (b:List UInt8) (h:run b < b.length),(b[run b]).toNat < 128
|[],h=>by simp at h
|x :: b,h=>by
  by_cases c:128<=x.toNat
  ·have e:=Zv (b:=b) c
   have a:run b < b.length:=by rw [e] at h;simpa using h
   have:=Vh b a
   simp only [e,List.getElem_cons_succ];exact this
  ·have e:=Za (b:=b) (show x.toNat < 128 by omega)
   simp only [e,List.getElem_cons_zero];omega
theorem Ic (h:∀ i (e:i < b.length),i < k->128<=(b[i]).toNat) (f:k<=b.length) (hs:∀ h:k < b.length,(b[k]).toNat < 128):run b=k:=by
 rcases Nat.lt_trichotomy (run b) k with a|a|a
 ·have c:run b < b.length:=by omega
  have:=Vh b c
  have:=h _ c a
  omega
 ·exact a
 ·obtain⟨c,d⟩:=Co b k a
  have:=hs c
  omega
theorem Mr (h:∀ i (d:i < b.length),i < k->128<=(b[i]).toNat) (e:k<=b.length):k<=run b:=by
 rcases Nat.lt_or_ge (run b) k with a|a
 ·have c:run b < b.length:=by omega
  have:=Vh b c
  have:=h _ c a
  omega
 ·exact a
theorem Vj:∀ (l:List UInt8) (x:UInt8),val (l ++ [x])=val l+128 ^ l.length * (x.toNat % 128)
|[],x=>by simp [val]
|y :: l,x=>by
  have:=Vj l x
  simp only [List.cons_append,val,this,List.length_cons,Nat.pow_succ]
  rw [Nat.mul_add,Nat.mul_comm (128 ^ l.length) 128,Nat.mul_assoc,Nat.add_assoc]
theorem De:∀ (l:List UInt8),val l < 128 ^ l.length
|[]=>by simp [val]
|y :: l=>by
  have:=De l
  simp only [val,List.length_cons,Nat.pow_succ]
  have a:y.toNat % 128 < 128:=Nat.mod_lt _ (by omega)
  omega
theorem EF (h:n < 256):(UInt8.ofNat n).toNat=n:=by simp;omega
theorem Pv:∀ (l:List UInt8) (x:UInt8),(∀ y ∈ l,128<=y.toNat)->x.toNat < 128->(l=[]\/x ≠ 0)->enc (val (l ++ [x]))=l ++ [x]/\(x ≠ 0->0 < val (l ++ [x]))
|[],x,_,hx,_=>by
  have e:val ([] ++ [x])=x.toNat:=by simp [val];omega
  rw [e,FO hx]
  refine⟨by simp,fun h=>?_⟩
  rcases Nat.eq_zero_or_pos x.toNat with h0|h0
  ·exact absurd (UInt8.toNat_inj.1 (by rw [h0];rfl)) h
  ·exact h0
|y :: l,x,hl,hx,h0=>by
  have a:x ≠ 0:=by
   rcases h0 with h|h
   ·cases h
   ·exact h
  obtain⟨d,f⟩:=Pv l x (fun z g=>hl z (List.mem_cons_of_mem _ g)) hx (.inr a)
  have j:=f a
  have m:=hl y List.mem_cons_self
  have i:=y.toNat_lt
  have e:val (y :: l ++ [x])=y.toNat % 128+128 * val (l ++ [x]):=rfl
  have c:¬ val (y :: l ++ [x]) < 128:=by rw [e];omega
  refine⟨?_,fun _=>by omega⟩
  rw [GZ c,e]
  rw [show (y.toNat % 128+128 * val (l ++ [x])) / 128=val (l ++ [x]) by omega,d]
  rw [show (y.toNat % 128+128 * val (l ++ [x])) % 128+128=y.toNat by omega]
  simp
theorem Fk (b:List UInt8):b.take (run b)=b.takeWhile big:=by
 unfold run
 conv=>lhs;rw [<-List.takeWhile_append_dropWhile (p:=big) (l:=b)]
 rw [List.take_left']
 rw [List.takeWhile_append_dropWhile]
theorem Yp:∀ (b:List UInt8) (y:UInt8),y ∈ b.takeWhile big->big y=true
|[],y,h=>by simp at h
|x :: b,y,h=>by
  by_cases a:big x=true
  ·rw [List.takeWhile_cons_of_pos a] at h
   rcases List.mem_cons.1 h with e|e
   ·rw [e];exact a
   ·exact Yp b y e
  ·rw [List.takeWhile_cons_of_neg a] at h;cases h
theorem AY (h:dec b=(v,n,0)):b.take n=enc v/\n<=b.length/\1<=n/\n<=10/\v < 18446744073709551616:=by
 unfold dec at h
 by_cases j:10<=run b
 ·rw [if_pos j] at h;cases h
 rw [if_neg j] at h
 by_cases l:run b=b.length
 ·rw [if_pos l] at h;cases h
 rw [if_neg l] at h
 by_cases c:run b=9/\1 < (b.getD 9 0).toNat
 ·rw [if_pos c] at h;cases h
 rw [if_neg c] at h
 by_cases d:0 < run b/\b.getD (run b) 0=0
 ·rw [if_pos d] at h;cases h
 rw [if_neg d] at h
 injection h with u e
 injection e with e _
 subst u;subst e
 have F:=Ms b
 have a:run b < b.length:=by omega
 have t:=Vh b a
 have g:b.getD (run b) 0=b[run b]:=by rw [List.getD_eq_getElem?_getD,List.getElem?_eq_getElem a,Option.getD_some]
 have i:b.take (run b+1)=b.take (run b) ++ [b[run b]]:=(List.take_append_getElem a).symm
 have q:∀ y ∈ b.take (run b),128<=y.toNat:=by
  intro y o
  rw [Fk] at o
  have:=Yp b y o
  simpa [big] using this
 refine⟨?_,by omega,by omega,by omega,?_⟩
 ·rw [i]
  refine (Pv _ _ q t ?_).1.symm
  by_cases h0:run b=0
  ·left;rw [h0];rfl
  ·right;intro B;exact d ⟨by omega,by rw [g];exact B⟩
 ·rw [i,Vj]
  have m:=De (b.take (run b))
  have r:(b.take (run b)).length=run b:=by rw [List.length_take];omega
  rw [r] at m ⊢
  by_cases f:run b=9
  ·have C:(b[run b]).toNat<=1:=by
    have:b.getD 9 0=b[run b]:=by rw [<-f];exact g
    rcases Nat.lt_or_ge 1 (b.getD 9 0).toNat with h|h
    ·exact absurd ⟨f,h⟩ c
    ·rw [this] at h;exact h
   have p:(b[run b]).toNat % 128<=1:=by omega
   generalize (b[run b]).toNat % 128=z at *
   have A:128 ^ run b=9223372036854775808:=by rw [f]
   rw [A] at m ⊢
   omega
  ·have w:128 ^ (run b+1)<=128 ^ 9:=Nat.pow_le_pow_right (by omega) (by omega)
   have p:(b[run b]).toNat % 128<=127:=by omega
   have G:128 ^ run b * ((b[run b]).toNat % 128)<=128 ^ run b * 127:=Nat.mul_le_mul_left _ p
   rw [Nat.pow_succ] at w
   omega
def txt (s:List UInt8):List UInt8:=enc s.length ++ s
def CB (b:List UInt8):List UInt8 × Nat × Int :=
 if (dec b).2.2 ≠ 0 then ([],0,(dec b).2.2) else if 4096 < (dec b).1 then ([],0,3) else if b.length - (dec b).2.1 < (dec b).1 then ([],0,5) else
  ((b.drop (dec b).2.1).take (dec b).1,(dec b).2.1+(dec b).1,0)
theorem FW (h:CB b=(s,n,0)):b.take n=txt s/\n<=b.length/\s.length<=4096/\1<=n/\n<=s.length+10:=by
 unfold CB at h
 by_cases a:(dec b).2.2 ≠ 0
 ·rw [if_pos a] at h
  injection h with _ h;injection h with _ h
  exact absurd h a
 rw [if_neg a] at h
 by_cases c:4096 < (dec b).1
 ·rw [if_pos c] at h;cases h
 rw [if_neg c] at h
 by_cases d:b.length - (dec b).2.1 < (dec b).1
 ·rw [if_pos d] at h;cases h
 rw [if_neg d] at h
 injection h with e h;injection h with f _
 have hd:dec b=((dec b).1,(dec b).2.1,0):=by
  have:(dec b).2.2=0:=by simpa using a
  rw [<-this]
 obtain⟨g,j,l,m,o⟩:=AY hd
 have i:s.length=(dec b).1:=by rw [<-e,List.length_take,List.length_drop];omega
 refine⟨?_,by omega,by omega,by omega,by omega⟩
 unfold txt
 rw [i,<-g,<-e,<-f,List.take_add]
end Go.Proofs.YtmanejniepghlaaGreatDoor.Wi
namespace Go.Proofs.YtmanejniepghlaaGreatDoor.Ho
variable {a b c x y:List UInt8}
def split:List UInt8->List (List UInt8)
|[]=>[[]]
|x :: l=>if x=46 then [] :: split l else (x :: (split l).headD []) :: (split l).tail
theorem Vy:split []=[[]]:=rfl
theorem Jr (l:List UInt8):split (46 :: l)=[] :: split l:=by rw [split,if_pos rfl]
theorem Jc {x:UInt8} (h:x ≠ 46) (l:List UInt8):split (x :: l)=(x :: (split l).headD []) :: (split l).tail:=by rw [split,if_neg h]
theorem BH (l:List UInt8):split l ≠ []:=by
 cases l with
|nil=>simp [split]
|cons x l=>unfold split;split <;> simp
theorem Qx:∀ p:List UInt8,(∀ x ∈ p,x ≠ 46)->split p=[p]
|[],_=>rfl
|x :: p,h=>by
  rw [Jc (h x List.mem_cons_self),Qx p (fun y d=>h y (List.mem_cons_of_mem _ d))];rfl
theorem Xw:∀ a b:List UInt8,split (a ++ 46 :: b)=split a ++ split b
|[],b=>by rw [List.nil_append,Jr,Vy];rfl
|x :: a,b=>by
  have ih:=Xw a b
  rw [List.cons_append]
  by_cases d:x=46
  ·subst d;rw [Jr,Jr,ih];rfl
  ·rw [Jc d,Jc d,ih]
   cases hs:split a with
  |nil=>exact absurd hs (BH a)
  |cons p e=>rfl
theorem Vx (p t:List UInt8) (h:∀ x ∈ p,x ≠ 46):split (p ++ 46 :: t)=p :: split t:=by rw [Xw,Qx p h];rfl
theorem Yd (p t:List UInt8) (h:∀ x ∈ t,x ≠ 46):split (p ++ 46 :: t)=split p ++ [t]:=by rw [Xw,Qx t h]
theorem Xa:∀ (l p:List UInt8),p ∈ split l->∀ x ∈ p,x ≠ 46
|[],p,hp,x,hx=>by
  rw [Vy,List.mem_singleton] at hp;subst hp;cases hx
|y :: l,p,hp,x,hx=>by
  by_cases d:y=46
  ·subst d
   rw [Jr] at hp
   rcases List.mem_cons.1 hp with e|e
   ·subst e;cases hx
   ·exact Xa l p e x hx
  ·rw [Jc d] at hp
   cases hs:split l with
  |nil=>exact absurd hs (BH l)
  |cons q f =>
    rw [hs] at hp
    rcases List.mem_cons.1 hp with e|e
    ·subst e
     rcases List.mem_cons.1 hx with e|e
     ·subst e;exact d
     ·exact Xa l q (by rw [hs];exact List.mem_cons_self) x e
    ·exact Xa l p (by rw [hs];exact List.mem_cons_of_mem _ e) x hx
theorem DD:∀ l:List UInt8,(split l).length<=l.length+1
|[]=>by simp [split]
|x :: l=>by
  have ih:=DD l
  have e:=List.length_pos_iff.2 (BH l)
  by_cases d:x=46
  ·subst d;rw [Jr];simp only [List.length_cons];omega
  ·rw [Jc d];simp only [List.length_cons,List.length_tail];omega
theorem BW:∀ (l p:List UInt8),p ∈ split l->p.length<=l.length
|[],p,hp=>by rw [Vy,List.mem_singleton] at hp;subst hp;simp
|x :: l,p,hp=>by
  by_cases d:x=46
  ·subst d
   rw [Jr] at hp
   rcases List.mem_cons.1 hp with e|e
   ·subst e;simp
   ·have:=BW l p e;simp only [List.length_cons];omega
  ·rw [Jc d] at hp
   cases hs:split l with
  |nil=>exact absurd hs (BH l)
  |cons q f =>
    rw [hs] at hp
    rcases List.mem_cons.1 hp with e|e
    ·have:=BW l q (by rw [hs];exact List.mem_cons_self)
     subst e;simp only [List.headD_cons,List.length_cons];omega
    ·have:=BW l p (by rw [hs];exact List.mem_cons_of_mem _ e);simp only [List.length_cons];omega
def join:List (List UInt8)->List UInt8
|[]=>[]
|[p]=>p
|p :: q :: r=>p ++ 46 :: join (q :: r)
theorem Vp (p:List UInt8) {r:List (List UInt8)} (h:r ≠ []):join (p :: r)=p ++ 46 :: join r:=by
 cases r with
|nil=>exact absurd rfl h
|cons q r=>rfl
theorem Jl:∀ l:List UInt8,join (split l)=l
|[]=>rfl
|x :: l=>by
  have ih:=Jl l
  by_cases d:x=46
  ·subst d;rw [Jr,Vp _ (BH l),ih];rfl
  ·rw [Jc d]
   cases hs:split l with
  |nil=>exact absurd hs (BH l)
  |cons q e =>
    rw [hs] at ih
    cases e with
   |nil=>rw [<-ih];rfl
   |cons r f=>rw [<-ih];rfl
theorem Cx (h:split a=split b):a=b:=by rw [<-Jl a,h,Jl]
abbrev lb:=Op.bytesLess
theorem DC:∀ x:List UInt8,lb x x=false
|[]=>rfl
|a :: x=>by
  have:=DC x
  unfold lb at *
  unfold Op.bytesLess
  simp [this]
theorem Ha (a:UInt8) (x:List UInt8) (b:UInt8) (y:List UInt8):lb (a :: x) (b :: y)=true ↔ a.toNat < b.toNat\/(a=b/\lb x y=true):=by
 unfold lb
 rw [Op.bytesLess]
 simp [UInt8.lt_iff_toNat_lt]
theorem Nn:∀ x y:List UInt8,lb x y=true->lb y x=false
|_,[],h=>by simp [lb,Op.bytesLess] at h
|[],b :: y,_=>rfl
|a :: x,b :: y,h=>by
  rw [<-Bool.not_eq_true]
  intro g
  rcases (Ha a x b y).1 h with f|⟨e,f⟩
  ·rcases (Ha b y a x).1 g with d|⟨e,d⟩
   ·omega
   ·subst e;omega
  ·subst e
   rcases (Ha a y a x).1 g with d|⟨_,d⟩
   ·omega
   ·rw [Nn x y f] at d;cases d
theorem ES:∀ x y:List UInt8,lb x y=false->lb y x=false->x=y
|[],[],_,_=>rfl
|[],b :: y,h,_=>by cases h
|a :: x,[],_,h=>by cases h
|a :: x,b :: y,h,k=>by
  have d:=mt (Ha a x b y).2 (by simp [h])
  have f:=mt (Ha b y a x).2 (by simp [k])
  have e:a=b:=by
   apply UInt8.toNat_inj.1
   have:¬ a.toNat < b.toNat:=fun e=>d (.inl e)
   have:¬ b.toNat < a.toNat:=fun e=>f (.inl e)
   omega
  subst e
  rw [ES x y (by rw [<-Bool.not_eq_true];exact fun e=>d (.inr ⟨rfl,e⟩)) (by rw [<-Bool.not_eq_true];exact fun e=>f (.inr ⟨rfl,e⟩))]
theorem No:∀ x y z:List UInt8,lb x y=true->lb y z=true->lb x z=true
|_,[],_,h,_=>by simp [lb,Op.bytesLess] at h
|_,_ :: _,[],_,h=>by simp [lb,Op.bytesLess] at h
|[],b :: y,c :: z,_,_=>rfl
|a :: x,b :: y,c :: z,h,k=>by
  rw [Ha] at h k ⊢
  rcases h with h|⟨rfl,h⟩
  ·rcases k with k|⟨rfl,k⟩
   ·exact .inl (by omega)
   ·exact .inl h
  ·rcases k with k|⟨rfl,k⟩
   ·exact .inl k
   ·exact .inr ⟨rfl,No x y z h k⟩
def CJ:List (List UInt8)->List (List UInt8)->Int
|[],[]=>0
|[],_ :: _=>-1
|_ :: _,[]=>1
|x :: xs,y :: ys=>if lb x y then -1 else if lb y x then 1 else CJ xs ys
def cmp (a b:List UInt8):Int:=CJ (split a).reverse (split b).reverse
theorem Ng:∀ d e,CJ d e=-1\/CJ d e=0\/CJ d e=1
|[],[]=>.inr (.inl rfl)
|[],_ :: _=>.inl rfl
|_ :: _,[]=>.inr (.inr rfl)
|x :: d,y :: e=>by
  unfold CJ
  split
  ·exact .inl rfl
  ·split
   ·exact .inr (.inr rfl)
   ·exact Ng d e
theorem Ua:∀ d,CJ d d=0
|[]=>rfl
|x :: d=>by rw [CJ,if_neg (by simp [DC]),if_neg (by simp [DC]),Ua d]
theorem Po:∀ d e,CJ d e=0->d=e
|[],[],_=>rfl
|[],_ :: _,h=>by cases h
|_ :: _,[],h=>by cases h
|x :: d,y :: e,h=>by
  rw [CJ] at h
  by_cases f:lb x y=true
  ·rw [if_pos f] at h;cases h
  ·rw [if_neg f] at h
   by_cases g:lb y x=true
   ·rw [if_pos g] at h;cases h
   ·rw [if_neg g] at h
    rw [ES x y (by simpa using f) (by simpa using g),Po d e h]
theorem Nf:∀ f g,CJ g f=- CJ f g
|[],[]=>rfl
|[],_ :: _=>rfl
|_ :: _,[]=>rfl
|x :: f,y :: g=>by
  rw [CJ,CJ]
  by_cases d:lb x y=true
  ·rw [if_pos d,if_neg (by simp [Nn x y d]),if_pos d];rfl
  ·by_cases e:lb y x=true
   ·rw [if_pos e,if_neg d,if_pos e]
   ·rw [if_neg e,if_neg d,if_neg d,if_neg e,Nf f g]
theorem Ku:∀ g i j,CJ g i<=0->CJ i j<=0->CJ g j<=0
|[],_,[],_,_=>by decide
|[],_,_ :: _,_,_=>by simp [CJ]
|_ :: _,[],_,h,_=>by simp [CJ] at h
|_ :: _,_ :: _,[],_,h=>by simp [CJ] at h
|x :: g,y :: i,z :: j,h,k=>by
  rw [CJ] at h k ⊢
  by_cases f:lb x y=true
  ·by_cases d:lb y z=true
   ·rw [if_pos (No x y z f d)];decide
   ·rw [if_neg d] at k
    by_cases e:lb z y=true
    ·rw [if_pos e] at k;exact absurd k (by decide)
    ·obtain rfl:=ES y z (by simpa using d) (by simpa using e)
     rw [if_pos f];decide
  ·rw [if_neg f] at h
   by_cases l:lb y x=true
   ·rw [if_pos l] at h;exact absurd h (by decide)
   ·rw [if_neg l] at h
    obtain rfl:=ES x y (by simpa using f) (by simpa using l)
    by_cases d:lb x z=true
    ·rw [if_pos d];decide
    ·rw [if_neg d] at k ⊢
     by_cases e:lb z x=true
     ·rw [if_pos e] at k;exact absurd k (by decide)
     ·rw [if_neg e] at k ⊢
      exact Ku g i j h k
theorem In (a b:List UInt8):cmp a b=-1\/cmp a b=0\/cmp a b=1:=Ng _ _
theorem GV (a:List UInt8):cmp a a=0:=Ua _
theorem OY (h:cmp a b=0):a=b:=Cx (List.reverse_inj.1 (Po _ _ h))
theorem MH (a b:List UInt8):cmp b a=- cmp a b:=Nf _ _
theorem Pq (h:cmp a b<=0) (k:cmp b c<=0):cmp a c<=0:=Ku _ _ _ h k
theorem FD (h:cmp a b < 0) (k:cmp b c < 0):cmp a c < 0:=by
 have d:=Pq (a:=a) (b:=b) (c:=c) (by omega) (by omega)
 rcases In a c with e|e|e
 ·omega
 ·exfalso
  have:=OY e;subst this
  have:=MH a b;omega
 ·omega
theorem Nh (d:∀ c ∈ x,c ≠ 46) (e:∀ c ∈ y,c ≠ 46):cmp (a ++ 46 :: x) (b ++ 46 :: y)=if lb x y then -1 else if lb y x then 1 else cmp a b:=by
 unfold cmp
 rw [Yd a x d,Yd b y e,List.reverse_append,List.reverse_append];rfl
theorem Ni (d:∀ c ∈ x,c ≠ 46) (e:∀ c ∈ y,c ≠ 46):cmp x (b ++ 46 :: y)=if lb x y then -1 else if lb y x then 1 else -1:=by
 unfold cmp
 rw [Qx x d,Yd b y e,List.reverse_append]
 cases h:(split b).reverse with
|nil=>exact absurd (List.reverse_eq_nil_iff.1 h) (BH b)
|cons _ _=>rfl
theorem Ub (d:∀ c ∈ x,c ≠ 46) (e:∀ c ∈ y,c ≠ 46):cmp (a ++ 46 :: x) y=if lb x y then -1 else if lb y x then 1 else 1:=by
 unfold cmp
 rw [Qx y e,Yd a x d,List.reverse_append]
 cases h:(split a).reverse with
|nil=>exact absurd (List.reverse_eq_nil_iff.1 h) (BH a)
|cons _ _=>rfl
theorem Nj (d:∀ c ∈ x,c ≠ 46) (e:∀ c ∈ y,c ≠ 46):cmp x y=if lb x y then -1 else if lb y x then 1 else 0:=by
 unfold cmp
 rw [Qx x d,Qx y e];rfl
def decd (x:UInt8):Bool:=decide (48<=x.toNat) && decide (x.toNat<=57)
def hexd (x:UInt8):Bool:=decd x || (decide (97<=x.toNat) && decide (x.toNat<=102)) || (decide (65<=x.toNat) && decide (x.toNat<=70))
def pre (l:List UInt8):Bool:=decide (l.take 2=[48,120]) || decide (l.take 2=[48,88])
def parts (l:List UInt8):List (List UInt8):=if 1 < (split l).length/\(split l).getLastD []=[] then (split l).dropLast else split l
def last (l:List UInt8):List UInt8:=(parts l).getLastD []
def num (t:List UInt8):Bool:=if pre t then (t.drop 2).all hexd else t.all decd && !t.isEmpty
def numeric (l:List UInt8):Bool:=num (last l)
def name (l:List UInt8):Bool:=decide (l.length<=253) && (!numeric l && (split l).all BL.AB)
theorem IC (l:List UInt8):parts l ≠ []:=by
 unfold parts
 split
 ·rename_i h;intro e
  have:=congrArg List.length e
  rw [List.length_dropLast] at this;simp only [List.length_nil] at this;omega
 ·exact BH l
theorem LO (l:List UInt8):(parts l).length<=l.length+1:=by
 have:=DD l
 unfold parts
 split
 ·rw [List.length_dropLast];omega
 ·exact this
theorem Bq {l p:List UInt8} (h:p ∈ parts l):p ∈ split l:=by
 unfold parts at h
 split at h
 ·exact (List.dropLast_sublist _).subset h
 ·exact h
end Go.Proofs.YtmanejniepghlaaGreatDoor.Ho
namespace Go.Proofs.YtmanejniepghlaaGreatDoor
open _root_.Go.Proofs.Tryz
open Go.RowKit
variable {w w':World} {l:List Int} {b base c k n:Nat} {v:Value} {a:Option Addr}
def iv (z:Int):Value:=.int .i64 z
def DX (w:World) (a:Option Addr) (n c:Nat) (l:List Int):Prop :=
 l.length=n/\n<=c/\c<=maxLen/\(a=none->l=[]/\c=0) ∧
  ∀ x,a=some x->∀ i (h:i < l.length),x.spot=none/\x.block < w.heap.size/\w.cell? (x.block (x.off+i))=some (.int .i64 l[i])
theorem DX.len (h:DX w a n c l):l.length=n:=h.1
theorem DX.le (h:DX w a n c l):n<=9223372036854775807:=by
 have:=h.2.1;have:=h.2.2.1;unfold maxLen at *;omega
theorem DX.nil (w:World):DX w none 0 0 []:=⟨rfl,zN _,by unfold maxLen;omega,fun _=>⟨rfl,rfl⟩,fun x d=>by cases d⟩
theorem DX.at (h:DX w a n c l) (m:k < n) :
 ∃ b o,a=some ((b:Nat) o)/\b < w.heap.size/\k < l.length/\w.cell? (b (o+k))=some (.int .i64 (l[k]?.getD 0)):=by
 obtain⟨i,hn,j,h0,e⟩:=h
 cases a with
|none=>have:=(h0 rfl).1;subst this;simp at i;omega
|some x =>
  obtain⟨b,o,p⟩:=x
  have d:k < l.length:=by omega
  obtain⟨hs,f,g⟩:=e _ rfl k d
  simp only at hs;subst hs
  refine⟨b,o,rfl,f,d,?_⟩
  rw [List.getElem?_eq_getElem d]
  exact g
theorem DX.ext (h:DX w a n c l) (e:Below w.heap.size w w'):DX w' a n c l:=by
 obtain⟨m,hn,j,h0,g⟩:=h
 refine⟨m,hn,j,h0,fun x o i d=>?_⟩
 obtain⟨hs,f,d⟩:=g x o i d
 exact⟨hs,Nat.lt_of_lt_of_le f e.size,(e.cell (p:=(x.block (x.off+i))) f).trans d⟩
theorem DX.take (h:DX w a n c l) (q:k<=n):DX w a k c (l.take k):=by
 obtain⟨r,hn,m,h0,g⟩:=h
 refine⟨by simp;omega,by omega,m,fun e=>by simp [h0 e],fun x p i o=>?_⟩
 have f:i < l.length:=by simp at o;omega
 obtain⟨hs,j,d⟩:=g x p i f
 exact⟨hs,j,by rw [d];simp⟩
theorem DX.drop {o:Nat} (h:DX w (b o) n c l) (r:k<=n):DX w (b (o+k)) (n - k) (c - k) (l.drop k):=by
 obtain⟨s,hn,q,h0,g⟩:=h
 refine⟨by simp;omega,by omega,by omega,(fun e=>by cases e),fun x p i m=>?_⟩
 cases p
 have f:k+i < l.length:=by simp at m;omega
 obtain⟨hs,j,d⟩:=g _ rfl (k+i) f
 refine⟨rfl,j,?_⟩
 simp only [Nat.add_assoc] at d ⊢
 rw [d];simp
theorem DX.zero (w:World) (x:Addr) (c:Nat) (d:c<=maxLen):DX w (some x) 0 c []:=⟨rfl,Nat.zero_le _,d,(fun h=>by cases h),fun y _ i e=>by simp at e⟩
def AS (base:Nat) (w:World) (v:Value) (l:List Int):Prop:=w.ownsRow base 3 1 v l.length (l.map iv)
theorem AS.sl (h:AS base w v l):∃ a c,v=.slice a l.length c/\DX w a l.length c l:=by
 rcases id h.2 with⟨d,hn⟩|⟨g,cap,r,d,t,m,j,f,s,q⟩
 ·have o:l=[]:=List.eq_nil_of_length_eq_zero hn
  subst o
  exact⟨none,0,d,DX.nil w⟩
 ·refine⟨.some g,cap,d,⟨rfl,j,f,(fun h=>by cases h),fun x p i e=>?_⟩⟩
  cases p
  refine⟨rfl,(Array.getElem?_eq_some_iff.1 m).1,?_⟩
  have:=World.ownsRow.cellAt (g:=g) (cap:=cap) (by rw [<-d];exact h) i (by simpa using e)
  simp only [Nat.zero_add]
  rw [this];simp [iv,e]
theorem AS.lt (h:AS base w v l):∀ k,v.ownBlock=some k->base<=k/\k < w.heap.size:=World.ownsRow.lt h
theorem AS.ext (h:AS base w v l) (e:Below w.heap.size w w'):AS base w' v l:=by
 refine⟨h.1,?_⟩
 rcases h.2 with hn|⟨g,cap,f,rfl,i,d,rest⟩
 ·exact .inl hn
 ·exact .inr ⟨g,cap,f,rfl,i,(e.block g (Array.getElem?_eq_some_iff.1 d).1).trans d,rest⟩
theorem AS.mono {b':Nat} (h:AS b w v l) (f:b'<=b):AS b' w v l:=by
 refine⟨h.1,?_⟩
 rcases h.2 with hn|⟨g,cap,d,rfl,e,rest⟩
 ·exact .inl hn
 ·exact .inr ⟨g,cap,d,rfl,Nat.le_trans f e,rest⟩
theorem AS.alloc (h:AS base w v l) (o:Obj):AS base (w.alloc o) v l:=World.ownsRow.alloc h o
theorem AS.nil (base:Nat) (w:World):AS base w (.slice none 0 0) []:=World.ownsRow_nil w base _ _
theorem AS.empty (w:World) (d:base<=w.heap.size):AS base (w.alloc (.cells #[] 3)) (.slice w.heap.size 0 0) [] :=
 World.ownsRow_made w #[] 0 d (by unfold maxLen;omega) rfl
theorem MO:(prog.info? 3).map (fun i=>(i.zero,i.size,i.bytes))=some (some (.int .i64 0),1,8):=by kernel_rfl
theorem DX.one (w:World) (z:Int) (t:TypeId):DX (w.alloc (.cells #[z] t)) w.heap.size 1 1 [z]:=by
 refine⟨rfl,zN _,by unfold maxLen;omega,(fun h=>by cases h),fun x e i d=>?_⟩
 cases e
 refine⟨rfl,by simp,?_⟩
 obtain rfl:i=0:=by simpa using d
 rw [World.cell?_alloc_at _ _ _ _ rfl];rfl
theorem Xf {r:Array Oper} {rest:List Oper} {o:Oper} {a:Act} {Q:Exit->Act->World->Prop} (hgd:o.guard=none) (s x:Operand)
 (ho:o.op=.call { callee:=.builtin .append,args:=#[s,x],argTypes:=#[81,81] })
 (base:Nat) (v:Value) (l:List Int) (hs:a.eval s=v) (g:AS base w v l) (b:Option Addr) (m c:Nat) (l2:List Int) (z:a.eval x=.slice b m c) (e:DX w b m c l2)
 (K:l.length+m<=10000000000000) (B:base<=w.heap.size)
 (h:∀ f w',AS base w' f (l ++ l2)->w.grownBy w' v.ownBlock->wpList prog r Q rest (a.put o.dst f) w'):wpList prog r Q (o :: rest) a w:=by
 obtain⟨A,t,F,G,H⟩:=info_parts MO
 cases b with
|none =>
  obtain⟨rfl,rfl⟩:=e.2.2.2.1 rfl
  obtain rfl:m=0:=e.1.symm
  refine wpList_append_own_none hgd s x 81 ho base 3 A 1 underlying81 t v l.length _ hs g z ?_
  exact h v w (by simpa using g) ⟨rfl,rfl,rfl,zN _,fun _ _ _=>rfl⟩
|some d =>
  have p:=e.len
  refine wpList_append_own w hgd s x 81 ho base 3 A (.int .i64 0) 1 8 underlying81 t F G H rfl (by decide) v l.length _ hs g d m c (l2.map iv) z (by simp [p]) ?_ ?_ (by unfold maxLen;omega) (by omega) B ?_
  ·intro j u y
   have i:j < l2.length:=by
    have:=(List.getElem?_eq_some_iff.1 y).1;simpa using this
   obtain⟨q,M,this⟩:=e.2.2.2.2 d rfl j i
   have C:d.add j=(d.block (d.off+j)):=by
    obtain⟨b,o,N⟩:=d;simp only at q;subst q;unfold Addr.add;split <;> simp_all
   rw [C,this];rw [<-y];simp [iv,i]
  ·intro u hu
   obtain⟨b,_,rfl⟩:=List.mem_map.1 hu;rfl
  ·intro f w' I J _
   refine h f w' ?_ J
   unfold AS;rw [List.length_append,List.map_append,p];exact I
theorem Qh (B:Nat) (w:World) (n:Nat):Below B w (w.drewN n):=(Below.refl B w).trans ⟨rfl,rfl,rfl,zN _,fun _ _=>rfl⟩
end Go.Proofs.YtmanejniepghlaaGreatDoor
namespace Go.Proofs.YtmanejniepghlaaGreatDoor.Pu
variable {n p:Int} {basic:Nat}
theorem GY {s:E} (h:p < n):CY n basic s p={ s with delta:=s.delta+1 }:=if_pos h
theorem GW {s:E} (h:¬ p < n) (a:p=n):CY n basic s p=⟨s.out ++ MT s.delta s.bias,0,adapt s.delta (s.done+1) (s.done == basic),s.done+1⟩:=by unfold CY;rw [if_neg h,if_pos a]
theorem GX {s:E} (h:¬ p < n) (a:¬ p=n):CY n basic s p=s:=by unfold CY;rw [if_neg h,if_neg a]
theorem Ug (m:Int) (basic:Nat) (l:List Int):∀ e:E,(l.foldl (CY m basic) e).done=e.done+(l.filter fun p=>decide (p=m)).length:=by
 induction l with
|nil=>intro e;rfl
|cons p l ih =>
  intro e
  rw [List.foldl_cons,ih]
  by_cases h:p < m
  ·rw [GY h,List.filter_cons_of_neg (by simp;omega)]
  ·by_cases a:p=m
   ·rw [GW h a,List.filter_cons_of_pos (by simp [a]),List.length_cons];simp only;omega
   ·rw [GX h a,List.filter_cons_of_neg (by simp [a])]
theorem Kx (m:Int) (basic:Nat) (l:List Int):∀ e:E,0<=e.delta->0<=(l.foldl (CY m basic) e).delta/\(l.foldl (CY m basic) e).delta<=e.delta+l.length/\(m ∈ l->(l.foldl (CY m basic) e).delta<=l.length):=by
 induction l with
|nil=>intro e h;exact⟨h,by simp,fun a=>by cases a⟩
|cons p l ih =>
  intro e h
  rw [List.foldl_cons]
  by_cases b:p < m
  ·rw [GY b]
   obtain⟨a1,a2,a3⟩:=ih { e with delta:=e.delta+1 } (by simp only;omega)
   simp only at a2
   refine⟨a1,by rw [List.length_cons];omega,fun a=>?_⟩
   rcases List.mem_cons.1 a with rfl|a
   ·omega
   ·have:=a3 a;rw [List.length_cons];omega
  ·by_cases c:p=m
   ·rw [GW b c]
    obtain⟨a1,a2,a3⟩:=ih ⟨e.out ++ MT e.delta e.bias,0,adapt e.delta (e.done+1) (e.done == basic),e.done+1⟩ (Int.le_refl _)
    simp only at a2
    exact⟨a1,by rw [List.length_cons];omega,fun _=>by rw [List.length_cons];omega⟩
   ·rw [GX b c]
    obtain⟨a1,a2,a3⟩:=ih e h
    refine⟨a1,by rw [List.length_cons];omega,fun a=>?_⟩
    rcases List.mem_cons.1 a with d|a
    ·exact absurd d.symm c
    ·have:=a3 a;rw [List.length_cons];omega
theorem Pz (m:Int) (basic:Nat) (l:List Int):∀ e:E,0<=e.delta->e.delta+l.length<=400000000->0<=e.bias->e.bias<=1000 →
 0<=(l.foldl (CY m basic) e).bias/\(l.foldl (CY m basic) e).bias<=1000/\(l.foldl (CY m basic) e).out.length+10 * e.done<=e.out.length+10 * (l.foldl (CY m basic) e).done:=by
 induction l with
|nil=>intro e h0 d a b;exact⟨a,b,Nat.le_refl _⟩
|cons p l ih =>
  intro e h0 d a b
  rw [List.length_cons] at d
  rw [List.foldl_cons]
  by_cases g1:p < m
  ·rw [GY g1]
   exact ih { e with delta:=e.delta+1 } (by simp only;omega) (by simp only;omega) a b
  ·by_cases c:p=m
   ·rw [GW g1 c]
    obtain⟨f,g⟩:=GR e.delta (e.done+1) (e.done == basic) h0 (by omega) (by omega)
    obtain⟨a1,a2,a3⟩:=ih ⟨e.out ++ MT e.delta e.bias,0,adapt e.delta (e.done+1) (e.done == basic),e.done+1⟩ (Int.le_refl _) (by simp only;omega) f g
    simp only [List.length_append] at a3
    have h:(MT e.delta e.bias).length<=10:=Ow 9 (e.delta.toNat+1) e.delta 0 e.bias h0 (Int.lt_of_le_of_lt (show e.delta<=400000000 by omega) (by decide))
    exact⟨a1,a2,by omega⟩
   ·rw [GX g1 c]
    exact ih e h0 (by omega) a b
theorem Re (n m:Int) (c:n<=m) (l:List Int) (h:∀ p ∈ l,n<=p->m<=p):(below (m+1) l).length=(below n l).length+(l.filter fun p=>decide (p=m)).length:=by
 induction l with
|nil=>rfl
|cons p l ih =>
  have a:=h p (List.mem_cons_self ..)
  have:=ih fun q b=>h q (List.mem_cons_of_mem _ b)
  unfold below at this ⊢
  by_cases d:p < n
  ·rw [List.filter_cons_of_pos (by simp;omega),List.filter_cons_of_pos (by simp;omega),List.filter_cons_of_neg (by simp;omega),List.length_cons,List.length_cons];omega
  ·have e:=a (by omega)
   by_cases f:p=m
   ·rw [List.filter_cons_of_pos (by simp;omega),List.filter_cons_of_neg (by simp;omega),List.filter_cons_of_pos (by simp;omega),List.length_cons,List.length_cons];omega
   ·rw [List.filter_cons_of_neg (by simp;omega),List.filter_cons_of_neg (by simp;omega),List.filter_cons_of_neg (by simp;omega)];exact this
structure JK (ps:List Int) (n:Int) (e:E):Prop where
 done:e.done=(below n ps).length
 n1:128<=n
 n2:n<=1114112
 d0:0<=e.delta
 d1:e.delta<=300
 b0:0<=e.bias
 b1:e.bias<=1000
 o:e.out.length<=300+10 * e.done
def FR (n m:Int) (e:E):E:={ e with delta:=e.delta+(m - n) * (e.done+1) }
def IB (a:List Int) (n m:Int) (basic:Nat) (e:E) (k:Nat):E:=(a.take k).foldl (CY m basic) (FR n m e)
def next (a:List Int) (n m:Int) (basic:Nat) (e:E):E:={ IB a n m basic e a.length with delta:=(IB a n m basic e a.length).delta+1 }
theorem RI (a:List Int) (n m:Int) (basic:Nat) (e:E) (k:Nat) (b:k < a.length):IB a n m basic e (k+1)=CY m basic (IB a n m basic e k) a[k]:=by
 unfold IB
 rw [List.take_succ_eq_append_getElem b,List.foldl_append];rfl
theorem PA (a:List Int) (n:Int) (basic:Nat) (e:E) (f:Nat) (h:e.done < a.length):GH a basic (f+1) n e=GH a basic f (least n 1114112 a+1) (next a n (least n 1114112 a) basic e):=by
 rw [GH,if_pos h]
 unfold next IB
 rw [List.take_length];rfl
theorem RC (a:List Int) (n:Int) (basic:Nat) (e:E) (f:Nat) (h:¬ e.done < a.length):GH a basic f n e=e.out:=by
 cases f with
|zero=>rfl
|succ f=>rw [GH,if_neg h]
structure VN (e':E):Prop where
 d0:0<=e'.delta
 d1:e'.delta<=400000000
 b0:0<=e'.bias
 b1:e'.bias<=1000
 o:e'.out.length<=300+10 * e'.done
 k:e'.done<=600
theorem MM (d:List Int) (l:∀ p ∈ d,point p=true) (J:d.length<=256) (basic:Nat) (n:Int) (e:E) (h:JK d n e) (s:e.done < d.length) :
 let m:=least n 1114112 d
 n<=m/\m<=1114111/\0<=(m - n) * (e.done+1)/\(m - n) * (e.done+1)<=300000000/\(∀ k,k<=d.length->VN (IB d n m basic e k))/\JK d (m+1) (next d n m basic e)/\e.done < (next d n m basic e).done:=by
 intro m
 obtain⟨g,q,y⟩:=Zm n 1114112 d (Kt n d (by rw [<-h.done];exact s)) (fun p x=>by have:=(BC p).1 (l p x);omega)
 have w:=(BC m).1 (l m g)
 have C:=h.n1
 have u:0<=(m - n) * ((e.done:Int)+1):=Int.mul_nonneg (by omega) (by omega)
 have F:(m - n) * ((e.done:Int)+1)<=1114111 * 257:=Int.mul_le_mul (by omega) (by omega) (by omega) (by omega)
 have A:=h.d0
 have B:=h.d1
 have r:∀ k,((d.take k).filter fun p=>decide (p=m)).length<=256:=fun k=>Nat.le_trans (List.length_filter_le _ _) (by rw [List.length_take];omega)
 have i:∀ k,k<=d.length->VN (IB d n m basic e k):=by
  intro k I
  have a:=Kx m basic (d.take k) (FR n m e) (by unfold FR;simp only;omega)
  have b:=Pz m basic (d.take k) (FR n m e) (by unfold FR;simp only;omega) (by unfold FR;simp only [List.length_take];omega) (by unfold FR;exact h.b0) (by unfold FR;exact h.b1)
  have c:=Ug m basic (d.take k) (FR n m e)
  have:=r k
  have ho:=h.o
  unfold IB
  generalize (d.take k).foldl (CY m basic) (FR n m e)=G at *
  unfold FR at a b c
  simp only [List.length_take] at a b c
  exact⟨a.1,by omega,b.1,b.2.1,by omega,by omega⟩
 have f:=i d.length (Nat.le_refl _)
 have c:=Ug m basic d (FR n m e)
 have a:=Kx m basic d (FR n m e) (by unfold FR;simp only;omega)
 have H:=Re n m q d y
 have j:IB d n m basic e d.length=d.foldl (CY m basic) (FR n m e):=by unfold IB;rw [List.take_length]
 have z:0 < (d.filter fun p=>decide (p=m)).length:=List.length_pos_iff.2 (List.ne_nil_of_mem (List.mem_filter.2 ⟨g,decide_eq_true rfl⟩))
 refine⟨q,w.2.1,u,by omega,i,?_,?_⟩
 ·have hn:=a.2.2 g
  unfold next
  rw [<-j] at c hn
  have t:(FR n m e).done=e.done:=rfl
  have hd:=h.done
  exact⟨by simp only;omega,by omega,by omega,by simp only;have:=f.d0;omega,by simp only;omega,f.b0,f.b1,f.o⟩
 ·unfold next
  rw [<-j] at c
  have t:(FR n m e).done=e.done:=rfl
  simp only;omega
theorem MN (a:List Int) (b:∀ p ∈ a,point p=true):JK a 128 ⟨front a,0,72,(basics a).length⟩:=by
 have c:(basics a).length=(below 128 a).length:=by rw [<-Wy a b,List.length_map]
 refine⟨c,by omega,by omega,by simp,by simp,by simp,by simp,?_⟩
 unfold front
 simp only [List.length_append]
 split <;> simp <;> omega
theorem JY (n M:Int) (l:List Int) (p:Int):least n M (l ++ [p])=if n<=p then min (least n M l) p else least n M l:=by
 unfold least
 rw [List.foldl_append];rfl
theorem NK (l:List Int) (p:Int):basics (l ++ [p])=if p < 128 then basics l ++ [UInt8.ofNat p.toNat] else basics l:=by
 unfold basics
 rw [List.filter_append]
 by_cases h:p < 128
 ·rw [if_pos h,List.filter_cons_of_pos (by simp [h])];simp
 ·rw [if_neg h,List.filter_cons_of_neg (by simp [h])];simp
theorem LD (l:List Int):(basics l).length<=l.length:=by unfold basics;rw [List.length_map];exact List.length_filter_le _ _
theorem RG (a:List Int) (c:∀ p ∈ a,point p=true) (n:Int) (h:(below n a).length < a.length):least n 1073741824 a=least n 1114112 a :=
 Bj n _ _ a (Kt n a h) (fun p b=>by have:=(BC p).1 (c p b);omega) (fun p b=>by have:=(BC p).1 (c p b);omega)
end Go.Proofs.YtmanejniepghlaaGreatDoor.Pu
namespace Go.Proofs.YtmanejniepghlaaGreatDoor.Pu
theorem Rg (l:List UInt8):∀ (i w:Int) (k:Nat) (a:Int) (e:Int),BK l i w k a=.error e->e ≠ 0:=by
 induction l with
|nil=>intro i w k a e h;simp [BK] at h;omega
|cons b l ih =>
  intro i w k a e h
  rw [BK] at h
  split at h
  ·cases h;decide
  split at h
  ·cases h;decide
  split at h
  ·cases h
  split at h
  ·cases h;decide
  exact ih _ _ _ _ _ h
theorem Ov (l:List UInt8) (s:D) (e:Int) (h:BT l s=.error e):e ≠ 0:=by
 unfold BT at h
 cases hd:BK l s.i 1 0 s.bias with
|error a=>rw [hd] at h;cases h;exact Rg _ _ _ _ _ _ hd
|ok x =>
  rw [hd] at h
  simp only at h
  split at h
  ·cases h;decide
  split at h
  ·cases h;decide
  cases h
theorem Pr (f:Nat):∀ (l:List UInt8) (s:D) (e:Int),CQ f l s=.error e->e ≠ 0:=by
 induction f with
|zero=>intro l s e h;cases h
|succ f ih =>
  intro l s e h
  rw [CQ] at h
  split at h
  ·cases h
  cases hd:BT l s with
 |error a=>rw [hd] at h;cases h;exact Ov _ _ _ hd
 |ok x=>rw [hd] at h;exact ih _ _ _ h
theorem JW (l:List UInt8) (e:Int) (h:decode l=.error e):e ≠ 0:=by
 unfold decode at h
 split at h
 ·cases h;decide
 split at h
 ·cases h;decide
 split at h
 ·cases h;decide
 exact Pr _ _ _ _ h
end Go.Proofs.YtmanejniepghlaaGreatDoor.Pu
namespace Go.Proofs.YtmanejniepghlaaGreatDoor.BL
open Go.Lib
theorem OJ (l:List UInt8):pre.isPrefixOf l=(decide (4<=l.length) && (l.take 4 == pre)):=by
 rw [Bool.eq_iff_iff,List.isPrefixOf_iff_prefix,List.prefix_iff_eq_take]
 simp only [Bool.and_eq_true,decide_eq_true_eq,beq_iff_eq,show pre.length=4 from rfl]
 constructor
 ·intro h
  have:=congrArg List.length h
  rw [List.length_take] at this
  simp [pre] at this
  exact⟨by omega,h.symm⟩
 ·rintro⟨-,h⟩;exact h.symm
end Go.Proofs.YtmanejniepghlaaGreatDoor.BL
namespace Go.Proofs.YtmanejniepghlaaGreatDoor
open _root_.Go.Proofs.Tryz
section
open Go.RowKit
def RX (F:Fence) (n:Nat) (P:Program) (g:Nat) (lb:Array Value) (enc:Nat->Array Value) (Kp:World->World->Prop) (N:Nat) (d:Nat) (w:World):Prop :=
 ∀ (l:Nat) (J c:Nat->World->Prop) (W:World),Below w.heap.size w W->(∀ k b v,J k b->J k (b.setCell d v)) →
  (∀ k b,J k b->k < N->YieldAt F (n - 1) P l (enc k) b fun e a=>(e=.returned (.bool true)/\J (k+1) a/\Kp b a)\/(e=.returned (.bool false)/\c (k+1) a)) →
  J 0 W->CallsIn F n P g (#[.func (.yield l) #[] #[]] ++ lb) W fun e a=>(∃ v,e=.returned v)/\(J N a\/∃ k,k<=N/\c k a)
def OU (B:Nat) (Kp:World->World->Prop) (I:Nat->World->Prop) (a:Code->Nat->World->Prop) (k:Nat) (W:World):Exit->Act->World->Prop
|.normal,_,W'=>KeepsFrom B W W'/\Kp W W'/\I k W'
|.ret,_,W'=>KeepsFrom B W W'/\a .ret k W'
|.exit id,_,W'=>KeepsFrom B W W'/\a (.exit id) k W'
|_,_,_=>False
def MA (B:Nat) (I:Nat->World->Prop):Prop:=∀ k W l o a,I k W->B<=l->W.heap[l]?=some o->o.isCells=false->I k (W.putObj l a)
theorem Wu {F:Fence} {n:Nat} {P:Program} {g:Operand} {G:Array Tmp} {assign body:Code} {Q:Exit->Act->World->Prop} {a:Act} {w:World}
 (ya:F.round=none) (h1:1<=n) {gf:Nat} {lb:Array Value} (hg:a.eval g=.func (.func gf) #[] lb) (zn:F.fn gf) (eg:∀ args w,(callFunc gf args).run P w=.ok (.enter gf args) w)
 {enc:Nat->Array Value} {Kp:World->World->Prop} {N:Nat} {U:World} {Bs:Nat} (yc:Bs < w.heap.size) (zm:RX F (n - 1) P gf lb enc Kp N Bs U)
 (zc:∀ {A B C:World},Kp A B->Kp B C->Kp A C) (ze:∀ (W:World) (l:Nat) (o o':Obj),w.heap.size<=l->W.heap[l]?=some o->o.isCells=false->Kp W (W.putObj l o')) (zd:Below U.heap.size U w) (zz:∀ k,(enc k).size=G.size)
 (I:Nat->World->Prop) (Z:Code->Nat->World->Prop) (hI:MA w.heap.size I) (zb:∀ c,MA w.heap.size (Z c)) (zp:∀ k W v,I k W->I k (W.setCell Bs v)) (h0:∀ o o',I 0 ((w.alloc o).alloc o')) (Y:Nat->Act->World->Prop) (zo:∀ a1,MA w.heap.size (fun k W=>Y k a1 W))
 (zh:∀ (l:Nat) (k:Nat) (W:World),I k W->k < N →
  assign.wpIn (F.inRound l) (n - 1 - 1) P (Exit.then (fun a1 f=>KeepsFrom w.heap.size W f/\Kp W f/\Y k a1 f) (fun _ _ _=>False)) { tmps:=(G.zip (enc k)).foldl (fun t (p,v)=>t.setIfInBounds p v) a.tmps,defers:=[] } W)
 (zi:∀ (l:Nat) (k:Nat) (a1:Act) (W:World),Y k a1 W->k < N->body.wpIn (F.inRound l) (n - 1 - 1) P (OU w.heap.size Kp I Z (k+1) W) a1 W)
 (zj:∀ (D:Nat) (W:World),w.heap.size<=D->I N W->W.heap[D]?=some (.deferred (some []))->Q .normal { a with defers:={ target:=.collected D,args:=#[] } :: a.defers } W)
 (zk:∀ (D:Nat) (c:Code) (k:Nat) (W:World),w.heap.size<=D->k<=N->Z c k W->W.heap[D]?=some (.deferred (some []))->c.wpIn F n P Q { a with defers:={ target:=.collected D,args:=#[] } :: a.defers } W) :
 (Code.rangeFunc g G assign body).wpIn F n P Q a w:=by
 refine wpIn_rangeFunc (fun fn zu=>?_)
 rw [ya]
 obtain⟨R,O⟩:∃ R:LoopState->Option Code->Loop,R=fun u s=>{ state:=u,pending:=s,fn,tmps:=a.tmps,params:=G,assign,body,defers:=w.heap.size }:=⟨_,rfl⟩
 have y:∀ u s,(R u s).state=u/\(R u s).params=G/\(R u s).pending=s:=by intro u s;rw [O];exact⟨rfl,rfl,rfl⟩
 have zl:∀ f,f=(w.alloc (.deferred (some []))).alloc (.loop (R .ready none))->f.heap[w.heap.size+1]?=some (.loop (R .ready none))/\f.heap[w.heap.size]?=some (.deferred (some []))/\Below U.heap.size U f/\I 0 f:=by
  rintro f rfl
  refine⟨Qb _ _ _ (by simp),(Qd _ _ _ (by simp)).trans (Qb _ _ _ rfl),?_,h0 _ _⟩
  exact (zd.alloc zd.size _).alloc (by have:=zd.size;simp;omega) _
 obtain⟨zx,zs,zq,zv⟩:=zl _ rfl
 refine⟨w.heap.size+1,[{ target:=.collected w.heap.size,args:=#[] }],(w.alloc (.deferred (some []))).alloc (.loop (R .ready none)),{ target:=.fn (.func gf) lb,args:=#[.func (.yield (w.heap.size+1)) #[] #[]] },(w.alloc (.deferred (some []))).alloc (.loop (R .ready none)),gf,
  #[.func (.yield (w.heap.size+1)) #[] #[]] ++ lb,(w.alloc (.deferred (some []))).alloc (.loop (R .ready none)),?_,?_,?_,?_,fun _=>h1,?_⟩
 ·rw [O];exact run_enterLoop_outer _ _ _ _ _
 ·simp only [resolve,hg];simp [go_sem]
 ·intro f' zf;simp [Target.leads] at zf;subst zf;exact zn
 ·simp [invoke,go_sem,eg]
 ·refine (zm (w.heap.size+1)
   (fun k W=>I k W/\W.heap[w.heap.size+1]?=some (.loop (R .ready none))/\W.heap[w.heap.size]?=some (.deferred (some [])))
   (fun k W=>∃ c,Z c k W/\W.heap[w.heap.size+1]?=some (.loop (R .done (some c)))/\W.heap[w.heap.size]?=some (.deferred (some [])))
   _ zq (fun k W v h=>⟨zp k W v h.1,(heap_setCell_other _ _ _ _ (by simp only;omega)).trans h.2.1,(heap_setCell_other _ _ _ _ (by simp only;omega)).trans h.2.2⟩) ?_ ⟨zv,zx,zs⟩).mono ?_
  ·
   rintro k W ⟨T,m,hd⟩ hk
   have hy:=run_yield (P:=P) (args:=enc k) m (by rw [(y _ _).2.1];exact zz k)
   have yb:(Instr.yield (w.heap.size+1) (enc k)).run P W=.ok (.round (w.heap.size+1) fn ((G.zip (enc k)).foldl (fun t (p,v)=>t.setIfInBounds p v) a.tmps) assign body) W:=by rw [O] at hy;exact hy
   refine⟨fn,_,assign,body,yb,roundIn_of_wpIn zu (wpIn_mono (zh _ k W T hk) ?_)⟩
   rintro e1 a1 q x
   cases e1 with
  |ret=>exact x.elim
  |exit id=>exact x.elim
  |goto t=>exact x.elim
  |panic ch=>exact x.elim
  |outgrown=>exact x.elim
  |normal =>
   obtain⟨g1,g2,g3⟩:=(show KeepsFrom w.heap.size W q/\Kp W q/\Y k a1 q from x)
   have X:=g1.same _ _ (by omega) m rfl
   have zr:=g1.same _ _ (zN _) hd rfl
   refine⟨_,run_beginRound X (y _ _).1,?_⟩
   obtain⟨b,hb⟩:∃ b:Loop,b={ R .ready none with state:=.busy }:=⟨_,rfl⟩
   rw [<-hb]
   have zy:(q.putObj (w.heap.size+1) (.loop b)).heap[w.heap.size+1]?=some (.loop b):=World.putObj_heap_same (Qa X)
   have zt:(q.putObj (w.heap.size+1) (.loop b)).heap[w.heap.size]?=some (.deferred (some [])):=(World.putObj_heap_other (by omega)).trans zr
   have zw:Kp W (q.putObj (w.heap.size+1) (.loop b)):=zc g2 (ze _ _ _ _ (by omega) X rfl)
   have za:∀ (j:Option Code) (i:World),KeepsFrom w.heap.size (q.putObj (w.heap.size+1) (.loop b)) i →
    ∃ r,r=i.putObj (w.heap.size+1) (.loop (R (if j.isNone then .ready else .done) j))/\(Instr.endRound (w.heap.size+1) j).run P i=.ok (.bool j.isNone) r/\i.heap[w.heap.size+1]?=some (.loop b) ∧
     r.heap[w.heap.size+1]?=some (.loop (R (if j.isNone then .ready else .done) j))/\r.heap[w.heap.size]?=some (.deferred (some [])):=by
    intro j i zg
    have d:=zg.same _ _ (by omega) zy rfl
    refine⟨_,rfl,?_,d,World.putObj_heap_same (Qa d),(World.putObj_heap_other (by omega)).trans (zg.same _ _ (zN _) zt rfl)⟩
    have:=run_endRound (P:=P) j d
    rw [hb,O] at this;rw [O];exact this
   refine wpIn_mono (zi _ k a1 _ (zo a1 _ _ _ _ _ g3 (by omega) X rfl) hk) ?_
   rintro e a3 i z
   cases e with
  |normal =>
    obtain⟨K,h4,M⟩:=z
    obtain⟨r,rfl,hr,d,J,H⟩:=za none i K
    exact⟨_,_,hr,.inl ⟨rfl,⟨hI _ _ _ _ _ M (by omega) d rfl,J,H⟩,zc (zc zw h4) (ze _ _ _ _ (by omega) d rfl)⟩⟩
  |ret =>
    obtain⟨K,M⟩:=z
    obtain⟨r,rfl,hr,d,J,H⟩:=za (some .ret) i K
    exact⟨_,_,hr,.inr ⟨rfl,.ret,zb _ _ _ _ _ _ M (by omega) d rfl,J,H⟩⟩
  |exit id =>
    obtain⟨K,M⟩:=z
    obtain⟨r,rfl,hr,d,J,H⟩:=za (some (.exit id)) i K
    exact⟨_,_,hr,.inr ⟨rfl,.exit id,zb _ _ _ _ _ _ M (by omega) d rfl,J,H⟩⟩
  |goto t=>exact z.elim
  |panic ch=>exact z.elim
  |outgrown=>exact z.elim
  ·
   rintro e W2 ⟨⟨v,rfl⟩,(⟨T,m,hd⟩|⟨k,hk,c,T,m,hd⟩)⟩
   ·have hr:=run_endLoop (P:=P) m (by rw [(y _ _).1];simp)
    rw [(y _ _).2.2] at hr
    exact⟨none,_,hr,zj _ _ (zN _) (hI _ _ _ _ _ T (by omega) m rfl) ((World.putObj_heap_other (by omega)).trans hd)⟩
   ·have hr:=run_endLoop (P:=P) m (by rw [(y _ _).1];simp)
    rw [(y _ _).2.2] at hr
    exact⟨some c,_,hr,zk _ c k _ (zN _) hk (zb _ _ _ _ _ _ T (by omega) m rfl) ((World.putObj_heap_other (by omega)).trans hd)⟩
end
section
structure AJ where
 h:List UInt8
 s:Bool
 x:Int
 deriving DecidableEq
namespace AJ
def none:AJ:=⟨[],false,0⟩
def AB (p:AJ):Bool:=Ho.name p.h && (decide (0<=p.x) && decide (p.x<=1099511627776))
def enc (p:AJ):List UInt8:=Wi.txt p.h ++ (Wi.enc (if p.s then 1 else 0) ++ Wi.enc p.x.toNat)
def FE (t:List UInt8) (n:Nat) (b:List UInt8):AJ × Nat × Int :=
 if (Wi.dec (b.drop n)).2.2 ≠ 0 then (none,0,(Wi.dec (b.drop n)).2.2) else if 1 < (Wi.dec (b.drop n)).1 then (none,0,6) else
  if (Wi.dec (b.drop (n+(Wi.dec (b.drop n)).2.1))).2.2 ≠ 0 then (none,0,(Wi.dec (b.drop (n+(Wi.dec (b.drop n)).2.1))).2.2) else
   if 1099511627776 < (Wi.dec (b.drop (n+(Wi.dec (b.drop n)).2.1))).1 then (none,0,2) else if Ho.name t=false then (none,0,14) else
    (⟨t,decide ((Wi.dec (b.drop n)).1=1),((Wi.dec (b.drop (n+(Wi.dec (b.drop n)).2.1))).1:Int)⟩,n+(Wi.dec (b.drop n)).2.1+(Wi.dec (b.drop (n+(Wi.dec (b.drop n)).2.1))).2.1,0)
def dec (b:List UInt8):AJ × Nat × Int :=
 if (Wi.CB b).2.2 ≠ 0 then (none,0,(Wi.CB b).2.2) else FE (Wi.CB b).1 (Wi.CB b).2.1 b
theorem BY (p:AJ):AB p=true ↔ Ho.name p.h=true/\0<=p.x/\p.x<=1099511627776:=by
 unfold AB;simp
theorem CI {l:List UInt8} (h:Ho.name l=true):l.length<=253:=by
 unfold Ho.name at h;rw [Bool.and_eq_true] at h;simpa using h.1
theorem BG {p:AJ} (h:AB p=true):(enc p).length<=283/\4<=(enc p).length:=by
 obtain⟨a,c,d⟩:=(BY p).1 h
 have f:=CI a
 have a1:=Wi.BG (v:=p.h.length) (by omega)
 have a2:=Wi.BG (v:=if p.s then 1 else 0) (by split <;> omega)
 have a3:=Wi.BG (v:=p.x.toNat) (by omega)
 have a4:1<=p.h.length:=by
  rcases Nat.eq_zero_or_pos p.h.length with e|e
  ·exfalso
   have b:=List.eq_nil_of_length_eq_zero e
   rw [b] at a
   have:Ho.name []=false:=by decide +kernel
   rw [this] at a;cases a
  ·exact e
 unfold enc Wi.txt
 simp only [List.length_append]
 have a5:(Wi.enc p.h.length).length<=10:=a1.2
 omega
theorem AY {b:List UInt8} {p:AJ} {n:Nat} (h:dec b=(p,n,0)):AB p=true/\b.take n=enc p/\n<=b.length:=by
 unfold dec at h
 by_cases a:(Wi.CB b).2.2 ≠ 0
 ·rw [if_pos a] at h;injection h with _ h;injection h with _ h;exact absurd h a
 rw [if_neg a] at h
 obtain⟨t,d,l,q⟩:∃ t d l,Wi.CB b=(t,d,l):=⟨_,_,_,rfl⟩
 rw [q] at h a
 have a:l=0:=by simpa using a
 subst a
 obtain⟨x,C,F,G,f5⟩:=Wi.FW q
 change FE t d b=_ at h
 unfold FE at h
 obtain⟨c,k,i,r⟩:∃ c k i,Wi.dec (b.drop d)=(c,k,i):=⟨_,_,_,rfl⟩
 rw [r] at h
 dsimp only at h
 by_cases f:i ≠ 0
 ·rw [if_pos f] at h;injection h with _ h;injection h with _ h;exact absurd h f
 rw [if_neg f] at h
 obtain rfl:i=0:=by simpa using f
 obtain⟨g1,y,H,I,J⟩:=Wi.AY r
 by_cases m:1 < c
 ·rw [if_pos m] at h;cases h
 rw [if_neg m] at h
 obtain⟨v3,u,z3,s⟩:∃ v3 u z3,Wi.dec (b.drop (d+k))=(v3,u,z3):=⟨_,_,_,rfl⟩
 rw [s] at h
 dsimp only at h
 by_cases g:z3 ≠ 0
 ·rw [if_pos g] at h;injection h with _ h;injection h with _ h;exact absurd h g
 rw [if_neg g] at h
 obtain rfl:z3=0:=by simpa using g
 obtain⟨A,B,K,M,N⟩:=Wi.AY s
 by_cases o:1099511627776 < v3
 ·rw [if_pos o] at h;cases h
 rw [if_neg o] at h
 by_cases j:Ho.name t=false
 ·rw [if_pos j] at h;cases h
 rw [if_neg j] at h
 injection h with z h
 injection h with hn _
 subst z
 subst hn
 have w:(if decide (c=1)=true then 1 else 0)=c:=by
  rcases Nat.eq_zero_or_pos c with e|e
  ·subst e;rfl
  ·obtain rfl:c=1:=by omega
   rfl
 rw [List.length_drop] at y B
 refine⟨(BY _).2 ⟨by simpa using j,by simp,by simp only;omega⟩,?_,by omega⟩
 rw [Nat.add_assoc,List.take_add,x,List.take_add,g1,List.drop_drop,A]
 unfold enc
 simp only [w,Int.toNat_natCast]
end AJ
end
end Go.Proofs.YtmanejniepghlaaGreatDoor
namespace Go.Proofs.YtmanejniepghlaaGreatDoor.BA
variable {L:List AJ} {k:Nat} {p:AJ} {h:List UInt8}
def FA (L:List AJ):Prop:=L.Pairwise fun a b=>Ho.cmp a.h b.h < 0
def lo (L:List AJ) (h:List UInt8):Nat:=(L.takeWhile fun p=>decide (Ho.cmp p.h h < 0)).length
def hit (L:List AJ) (h:List UInt8):Bool:=match L[lo L h]? with
|some p=>decide (p.h=h)
|none=>false
def put (L:List AJ) (cap:Int) (p:AJ):List AJ × Int :=
 if AJ.AB p=false then (L,1) else if hit L p.h then (L.set (lo L p.h) p,0) else if (L.length:Int)=cap then (L,11) else (L.take (lo L p.h) ++ p :: L.drop (lo L p.h),0)
def remove (L:List AJ) (h:List UInt8):List AJ × Bool:=if hit L h then (L.take (lo L h) ++ L.drop (lo L h+1),true) else (L,false)
def chk (L:List AJ):Nat->Nat->Int
|0,_=>0
|n+1,k=>match L[k]? with
 |none=>0
 |some p=>if AJ.AB p=false then 1 else if 0 < k/\0<=Ho.cmp (L.getD (k - 1) AJ.none).h p.h then 8 else chk L n (k+1)
def load (L:List AJ) (cap:Int):Int:=if cap < 1\/1000 < cap then 2 else if cap < L.length then 11 else chk L L.length 0
theorem Wx (h:FA L) {i j:Nat} (c:i < j) {a b:AJ} (f:L[i]?=some a) (g:L[j]?=some b):Ho.cmp a.h b.h < 0:=by
 obtain⟨d,rfl⟩:=List.getElem?_eq_some_iff.1 f
 obtain⟨e,rfl⟩:=List.getElem?_eq_some_iff.1 g
 exact List.pairwise_iff_getElem.1 h i j d e c
theorem OE (L:List AJ) (h:List UInt8):lo L h<=L.length:=(List.takeWhile_sublist _).length_le
theorem Xu:∀ (L:List AJ) (h:List UInt8) (k:Nat),k < lo L h->∃ p,L[k]?=some p/\Ho.cmp p.h h < 0
|[],h,k,hk=>by simp [lo] at hk
|p :: L,h,k,hk=>by
  by_cases a:Ho.cmp p.h h < 0
  ·cases k with
  |zero=>exact⟨p,rfl,a⟩
  |succ k =>
    have e:lo (p :: L) h=lo L h+1:=by unfold lo;rw [List.takeWhile_cons_of_pos (by simpa using a)];rfl
    rw [e] at hk
    obtain⟨q,b,c⟩:=Xu L h k (by omega)
    exact⟨q,by simpa using b,c⟩
  ·have e:lo (p :: L) h=0:=by unfold lo;rw [List.takeWhile_cons_of_neg (by simpa using a)];rfl
   omega
theorem Ei:∀ (L:List AJ) (h:List UInt8) (p:AJ),L[lo L h]?=some p->¬ Ho.cmp p.h h < 0
|[],h,p,e=>by simp [lo] at e
|q :: L,h,p,e=>by
  by_cases b:Ho.cmp q.h h < 0
  ·have a:lo (q :: L) h=lo L h+1:=by unfold lo;rw [List.takeWhile_cons_of_pos (by simpa using b)];rfl
   rw [a,List.getElem?_cons_succ] at e
   exact Ei L h p e
  ·have a:lo (q :: L) h=0:=by unfold lo;rw [List.takeWhile_cons_of_neg (by simpa using b)];rfl
   rw [a] at e
   cases e
   exact b
theorem PJ (g:FA L) (h:List UInt8) (c:L[k]?=some p):Ho.cmp p.h h < 0 ↔ k < lo L h:=by
 constructor
 ·intro b
  rcases Nat.lt_trichotomy k (lo L h) with e|e|e
  ·exact e
  ·subst e;exact absurd b (Ei L h p c)
  ·have i:=(List.getElem?_eq_some_iff.1 c).1
   have d:lo L h < L.length:=by omega
   have a:=Wx g e (List.getElem?_eq_getElem d) c
   exact absurd (Ho.FD a b) (Ei L h _ (List.getElem?_eq_getElem d))
 ·intro b
  obtain⟨q,a,f⟩:=Xu L h k b
  rw [c] at a;cases a;exact f
theorem QG (g:k<=L.length) (b:∀ i p,i < k->L[i]?=some p->Ho.cmp p.h h < 0) (c:∀ p,L[k]?=some p->¬ Ho.cmp p.h h < 0):lo L h=k:=by
 rcases Nat.lt_trichotomy (lo L h) k with e|e|e
 ·have a:lo L h < L.length:=by omega
  exact absurd (b _ _ e (List.getElem?_eq_getElem a)) (Ei L h _ (List.getElem?_eq_getElem a))
 ·exact e
 ·obtain⟨p,d,f⟩:=Xu L h k e
  exact absurd f (c p d)
theorem Zk (_hL:FA L) (h:List UInt8):hit L h=true ↔ ∃ p,L[lo L h]?=some p/\p.h=h:=by
 unfold hit
 cases e:L[lo L h]? with
|none=>simp
|some p=>simp
theorem place (c:FA L) (b:L[k]?=some p):lo L p.h=k:=by
 refine QG (Nat.le_of_lt (List.getElem?_eq_some_iff.1 b).1) (fun i q d a=>Wx c d a b) fun q a=>?_
 rw [b] at a;cases a
 rw [Ho.GV];omega
theorem Iq (a:FA L) (b:L[k]?=some p):hit L p.h=true:=by
 rw [Zk a,place a b];exact⟨p,b,rfl⟩
theorem Vd (a:FA L) (hn:hit L h=false):∀ p ∈ L,p.h ≠ h:=by
 intro p c e
 obtain⟨k,b,rfl⟩:=List.mem_iff_getElem.1 c
 have:=Iq a (List.getElem?_eq_getElem b)
 rw [e,hn] at this;cases this
theorem Dn (h:FA L) (k:Nat):FA (L.take k):=h.sublist (List.take_sublist _ _)
theorem Dm (h:FA L) (k:Nat):FA (L.drop k):=h.sublist (List.drop_sublist _ _)
theorem Ks (h:FA L) (k:Nat):FA (L.take k ++ L.drop (k+1)):=by
 refine h.sublist ?_
 have:L.take k ++ L.drop (k+1)=L.eraseIdx k:=by rw [List.eraseIdx_eq_take_drop_succ]
 rw [this];exact List.eraseIdx_sublist _ _
theorem Ij (l:FA L) {q:AJ} (c:L[k]?=some q) (n:q.h=p.h):FA (L.set k p):=by
 have o:=(List.getElem?_eq_some_iff.1 c).1
 rw [FA,List.pairwise_iff_getElem]
 intro i j a b f
 rw [List.length_set] at a b
 have g:∀ m (d:m < L.length),(((L.set k p)[m]'(by rw [List.length_set];exact d)).h)=(L[m]).h:=by
  intro m d
  rw [List.getElem_set]
  split
  ·rename_i e;subst e
   have:=(List.getElem?_eq_some_iff.1 c).2
   rw [this,n]
  ·rfl
 rw [g i a,g j b]
 exact List.pairwise_iff_getElem.1 l i j a b f
theorem Rc (c:FA L) (hn:hit L p.h=false):FA (L.take (lo L p.h) ++ p :: L.drop (lo L p.h)):=by
 have q:=OE L p.h
 rw [FA,List.pairwise_append,List.pairwise_cons]
 have key:∀ x ∈ L.drop (lo L p.h),Ho.cmp p.h x.h < 0:=by
  intro x o
  obtain⟨j,d,rfl⟩:=List.mem_iff_getElem.1 o
  rw [List.length_drop] at d
  have f:L[lo L p.h+j]?=some ((L.drop (lo L p.h))[j]'(by rw [List.length_drop];exact d)):=by
   rw [List.getElem_drop,List.getElem?_eq_getElem]
  have r:¬ Ho.cmp ((L.drop (lo L p.h))[j]'(by rw [List.length_drop];exact d)).h p.h < 0:=by
   rw [PJ c p.h f];omega
  have s:=Ho.MH p.h ((L.drop (lo L p.h))[j]'(by rw [List.length_drop];exact d)).h
  have t:Ho.cmp p.h ((L.drop (lo L p.h))[j]'(by rw [List.length_drop];exact d)).h ≠ 0:=by
   intro e
   exact Vd c hn _ (List.mem_of_getElem? f) (Ho.OY e).symm
  omega
 refine⟨Dn c _,⟨key,Dm c _⟩,?_⟩
 intro a m b n
 have g:Ho.cmp a.h p.h < 0:=by
  obtain⟨i,l,rfl⟩:=List.mem_iff_getElem.1 m
  rw [List.length_take] at l
  have f:L[i]?=some ((L.take (lo L p.h))[i]'(by rw [List.length_take];exact l)):=by
   rw [List.getElem_take,List.getElem?_eq_getElem]
  rw [PJ c p.h f];omega
 rcases List.mem_cons.1 n with e|e
 ·rw [e];exact g
 ·exact Ho.FD g (key b e)
theorem VB (a:FA L) (cap:Int) (p:AJ):FA (put L cap p).1:=by
 unfold put
 split
 ·exact a
 ·split
  ·rename_i h
   obtain⟨q,b,c⟩:=(Zk a p.h).1 h
   exact Ij a b c
  ·split
   ·exact a
   ·rename_i h _
    exact Rc a (by simpa using h)
theorem PM (a:FA L) (h:List UInt8):FA (remove L h).1:=by
 unfold remove
 split
 ·exact Ks a _
 ·exact a
theorem PN (L:List AJ) (h:List UInt8):(remove L h).1.length<=L.length:=by
 unfold remove
 split
 ·simp only [List.length_append,List.length_take,List.length_drop];omega
 ·exact zN _
theorem Pm (L:List AJ):∀ n k,n+k=L.length->(chk L n k=0 ↔ (∀ i p,k<=i->L[i]?=some p->AJ.AB p=true)/\∀ i p q,k<=i+1->L[i]?=some p->L[i+1]?=some q->Ho.cmp p.h q.h < 0)
|0,k,hk=>by
  refine⟨fun _=>⟨fun i p b a=>?_,fun i p q b a c=>?_⟩,fun _=>rfl⟩
  ·have:=(List.getElem?_eq_some_iff.1 a).1;omega
  ·have:=(List.getElem?_eq_some_iff.1 c).1;omega
|n+1,k,hk=>by
  have r:k < L.length:=by omega
  have d:=List.getElem?_eq_getElem r
  have ih:=Pm L n (k+1) (by omega)
  rw [chk,d]
  dsimp only
  by_cases f:AJ.AB L[k]=false
  ·rw [if_pos f]
   refine⟨(fun h=>by cases h),fun h=>?_⟩
   rw [h.1 k _ (zN _) d] at f;cases f
  ·rw [if_neg f]
   have s:AJ.AB L[k]=true:=by simpa using f
   by_cases g:0 < k/\0<=Ho.cmp (L.getD (k - 1) AJ.none).h L[k].h
   ·rw [if_pos g]
    refine⟨(fun h=>by cases h),fun h=>?_⟩
    have o:k - 1 < L.length:=by omega
    have j:L.getD (k - 1) AJ.none=L[k - 1]:=by rw [List.getD_eq_getElem?_getD,List.getElem?_eq_getElem o];rfl
    have:=h.2 (k - 1) _ _ (by omega) (List.getElem?_eq_getElem o) (by rw [show k - 1+1=k by omega];exact d)
    rw [j] at g;omega
   ·rw [if_neg g,ih]
    constructor
    ·rintro⟨l,m⟩
     refine⟨fun i p b a=>?_,fun i p q b a c=>?_⟩
     ·rcases Nat.eq_or_lt_of_le b with e|e
      ·subst e;rw [d] at a;cases a;exact s
      ·exact l i p e a
     ·rcases Nat.eq_or_lt_of_le b with e|e
      ·subst e
       rw [d] at c;cases c
       have j:L.getD i AJ.none=p:=by rw [List.getD_eq_getElem?_getD,a];rfl
       rw [Nat.add_sub_cancel,j] at g
       omega
      ·exact m i p q (by omega) a c
    ·rintro⟨l,m⟩
     exact⟨fun i p b a=>l i p (by omega) a,fun i p q b a c=>m i p q (by omega) a c⟩
theorem Ot (h:∀ i p q,L[i]?=some p->L[i+1]?=some q->Ho.cmp p.h q.h < 0):FA L:=by
 rw [FA,List.pairwise_iff_getElem]
 intro i j e f a
 obtain⟨d,rfl⟩:∃ d,j=i+1+d:=⟨j - (i+1),by omega⟩
 clear a
 induction d with
|zero=>exact h i _ _ (List.getElem?_eq_getElem e) (List.getElem?_eq_getElem f)
|succ d ih =>
  have hd:i+1+d < L.length:=by omega
  have b:=ih hd
  have c:=h (i+1+d) _ _ (List.getElem?_eq_getElem hd) (List.getElem?_eq_getElem (show i+1+d+1 < L.length by omega))
  exact Ho.FD b c
theorem SD (L:List AJ):chk L L.length 0=0 ↔ (∀ p ∈ L,AJ.AB p=true)/\FA L:=by
 rw [Pm L L.length 0 rfl]
 constructor
 ·rintro⟨b,c⟩
  refine⟨fun p a=>?_,Ot fun i p q a d=>c i p q (by omega) a d⟩
  obtain⟨i,e,rfl⟩:=List.mem_iff_getElem.1 a
  exact b i _ (by omega) (List.getElem?_eq_getElem e)
 ·rintro⟨b,c⟩
  exact⟨fun i p _ a=>b p (List.mem_of_getElem? a),fun i p q _ a d=>Wx c (by omega) a d⟩
end Go.Proofs.YtmanejniepghlaaGreatDoor.BA
namespace Go.Proofs.YtmanejniepghlaaGreatDoor
open _root_.Go.Proofs.Tryz
open Go.RowKit
variable {P:Program} {ops:Array Oper} {Q:Exit->Act->World->Prop} {md:Region.Mode} {S:World->Prop} {o:Op} {t:TypeId} {p:String} {af:Array Edge} {gd:Option (Nat × Bool)} {v:Value} {fuel:Nat} {AG:Array Bool} {a:Act} {w:World}
theorem UC {i d:Nat} {L:List (Nat × Nat)} (g:ops[i]?=some ⟨some d,o,t,p,af,gd⟩) (j:(Region.noSelect ops && (Region.free md ops AG i && (Region.ready md ops AG).contains i))=true)
 (e:∀ c a w,Q (.panic c) (a.put (some d) v) w->Q (.panic c) a w) (l:Region.wanted ⟨some d,o,t,p,af,gd⟩ (yielded ops a.tmps)=true) (m:∀ w,S w->(execOp a.eval ⟨some d,o,t,p,af,gd⟩).run P w=.ok (.value v) w) (f:S w)
 (h:Tk L (wpAnyH P md ops Q S fuel (AG.setIfInBounds i true) (a.put (some d) v) w)):Tk ((i,d)::L) (wpAnyH P md ops Q S (fuel+1) AG a w) :=
 have k:=Bool.and_eq_true_iff.1 j
 have b:=Bool.and_eq_true_iff.1 k.2
 ⟨wpAnyH_take g k.1 b.1 b.2 e (.inl ⟨l,m⟩) f h.1⟩
theorem UB {i d:Nat} {L:List (Nat × Nat)} (g:ops[i]?=some ⟨some d,o,t,p,af,gd⟩) (j:(Region.noSelect ops && (Region.free md ops AG i && (Region.ready md ops AG).contains i))=true)
 (e:∀ c a w,Q (.panic c) (a.put (some d) undef) w->Q (.panic c) a w) (l:Region.wanted ⟨some d,o,t,p,af,gd⟩ (yielded ops a.tmps)=false) (f:S w)
 (h:Tk L (wpAnyH P md ops Q S fuel (AG.setIfInBounds i true) (a.put (some d) undef) w)):Tk ((i,d)::L) (wpAnyH P md ops Q S (fuel+1) AG a w) :=
 have k:=Bool.and_eq_true_iff.1 j
 have b:=Bool.and_eq_true_iff.1 k.2
 ⟨wpAnyH_take g k.1 b.1 b.2 e (.inr ⟨l,rfl⟩) f h.1⟩
end Go.Proofs.YtmanejniepghlaaGreatDoor
