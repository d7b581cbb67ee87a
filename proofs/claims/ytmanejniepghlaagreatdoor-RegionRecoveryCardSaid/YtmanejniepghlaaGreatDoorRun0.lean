import Derived.Test.YtmanejniepghlaaGreatDoorRows
import Derived.WalkKit
import Derived.WalkLawsBesides
import Derived.WalkSpells
import Derived.Outline
import Derived.Below
import Derived.Lib.Hide
import Derived.Laws.BitsAllLaws
import Derived.Laws.Rows
import Derived.Laws.Tables
import Derived.DeepKeys
import Derived.Laws.AppendOwnNone
import Derived.Laws.BytesArg
import Derived.Laws.CopyOwn
import Derived.Lib.SlBytesConst
import Derived.Deep.QuietTactic
import Derived.BigQuiet
import Derived.Deep.DeepMust
import Derived.Lib.MapLaws
import Derived.Lib.ValidLaws
import Derived.Lib.RuneCount
import Derived.Lib.RuneBytes
import Derived.RangeFuncNested
import Derived.RangeFuncBound
import Derived.RangeFuncCalls
import Derived.RangeFuncLeaves
import Derived.RangeFuncBox
import Derived.Deep.RegionHeld3
namespace Go.Proofs.YtmanejniepghlaaGreatDoor
section
open Go.RowKit
inductive Mk:Bool->Prop where|mk (b:Bool):Mk b
theorem zH {P:Prop} (h:P):Hid P:=Lib.hid h
theorem zN (n:Nat):n<=n:=Nat.le_refl n
instance:CoeFun Nat fun _=>Nat->Addr:=⟨fun b o=>⟨b,o,none⟩⟩
instance:Coe Nat Addr:=⟨fun b=>⟨b,0,none⟩⟩
instance:Coe Int Value:=⟨.int .i64⟩
instance:Coe Nat Value:=⟨fun n=>.int .i64 n⟩
structure Tk {α:Type} (L:List α) (p:Prop):Prop where h:p
theorem tkB {α:Type} {p:Prop} (L:List α) (h:Tk L p):p:=h.1
theorem tkE {α:Type} {p:Prop} (h:p):Tk ([]:List α) p:=⟨h⟩
variable {w w' w0 w1:World} {l:List UInt8} {B b base c g k n:Nat} {a:Option Addr} {v:Value} {t:TypeId} {o:Oper} {Q:Exit->Act->World->Prop} {ops:Array Oper} {rest:List Oper}
@[go_sem] theorem u32_signed:IntKind.u32.signed=false:=rfl
@[go_sem] theorem u32_max:IntKind.u32.max=4294967295:=rfl
def SlB (w:World) (a:Option Addr) (n c:Nat) (l:List UInt8):Prop :=
 l.length=n/\n<=c/\c<=maxLen/\(a=none->l=[]/\c=0) ∧
  ∀ x,a=some x->∀ i (h:i < l.length),x.spot=none/\x.block < w.heap.size/\w.cell? (x.block (x.off+i))=some (.int .u8 (l[i].toNat:Int))
theorem SlB.len (h:SlB w a n c l):l.length=n:=h.1
theorem SlB.le (h:SlB w a n c l):n<=9223372036854775807:=by
 have:=h.2.1;have:=h.2.2.1;unfold maxLen at *;omega
theorem SlB.at (h:SlB w a n c l) (hk:k < n) :
 ∃ b o,a=some ((b:Nat) o)/\b < w.heap.size/\k < l.length/\w.cell? (b (o+k))=some (.int .u8 ((l[k]?.getD 0).toNat:Int)):=by
 obtain⟨hl,hn,hc,h0,h1⟩:=h
 cases a with
|none=>have:=(h0 rfl).1;subst this;simp at hl;omega
|some x =>
  obtain⟨b,o,sp⟩:=x
  have hk':k < l.length:=by omega
  obtain⟨hs,hb,hi⟩:=h1 _ rfl k hk'
  simp only at hs;subst hs
  refine⟨b,o,rfl,hb,hk',?_⟩
  rw [List.getElem?_eq_getElem hk']
  exact hi
theorem SlB.ext (h:SlB w a n c l) (e:Below w.heap.size w w'):SlB w' a n c l:=by
 obtain⟨hl,hn,hc,h0,h1⟩:=h
 refine⟨hl,hn,hc,h0,fun x hx i hi=>?_⟩
 obtain⟨hs,hb,hi⟩:=h1 x hx i hi
 exact⟨hs,Nat.lt_of_lt_of_le hb e.size,(e.cell (p:=(x.block (x.off+i))) hb).trans hi⟩
section
variable {P:Program}
theorem zd_f (w:World) (o:Obj) (k:Nat):(w.alloc o).heap[k]?=if k=w.heap.size then some o else w.heap[k]?:=by
 show (w.heap.push o)[k]?=_
 rw [Array.getElem?_push]
theorem za_c (w:World) (o:Obj) (k:Nat) (h:k < w.heap.size):(w.alloc o).heap[k]?=w.heap[k]?:=by
 rw [zd_f,if_neg (by omega)]
theorem za_a {o:Obj} (h:w.heap[k]?=some o):k < w.heap.size:=(Array.getElem?_eq_some_iff.1 h).1
theorem za_b (w:World) (o:Obj) (k:Nat) (h:k=w.heap.size):(w.alloc o).heap[k]?=some o:=by
 rw [zd_f,if_pos h]
theorem zj_e {a:Act} {K:Act->World->Prop} (ty:TypeId) (x y:Operand) (ho:o.op=.store ty x y)
 (g:Nat) (hx:a.eval x=.pointer g) (t:TypeId) (old cs:Array Value) (hy:a.eval y=.agg cs) (hg:w.heap[g]?=some (.cells old t (0,0)))
 (hi:(P.info? ty).map (·.size)=some cs.size) (hos:old.size=cs.size) (h1:cs.all (·.oneCell')=true)
 (h:K (a.put o.dst undef) (w.setRow g cs)):o.wp P a w K Q:=by
 unfold Oper.wp execOp
 simp only [ho,hx,hy,Instr.storeAt,Instr.sureAddr,Sem.run_bind,Sem.run_pure,Result.andThen_ok,run_storeVar_row w g t ty old cs hg hi hos h1]
 exact h
theorem za_p {a:Act} (hgd:o.guard=none) (ty:TypeId) (x y:Operand) (ho:o.op=.store ty x y)
 (g:Nat) (hx:a.eval x=.pointer g) (t:TypeId) (old cs:Array Value) (hy:a.eval y=.agg cs) (hg:w.heap[g]?=some (.cells old t (0,0)))
 (hi:(P.info? ty).map (·.size)=some cs.size) (hos:old.size=cs.size) (h1:cs.all (·.oneCell')=true)
 (h:wpList P ops Q rest (a.put o.dst undef) (w.setRow g cs)):wpList P ops Q (o :: rest) a w :=
 wpList_plain hgd fun _ hK=>zj_e ty x y ho g hx t old cs hy hg hi hos h1 (hK _ _ h)
theorem zb_i (hb:Below B w0 w) (hBg:B<=g) (cs:Array Value):Below B w0 (w.setRow g cs) :=
 hb.trans ⟨rfl,rfl,rfl,by simp,fun k hk=>setRow_other w g k cs (by omega)⟩
end
def bv (b:UInt8):Value:=.int .u8 (b.toNat:Int)
def OwnB (base:Nat) (w:World) (v:Value) (l:List UInt8):Prop:=w.ownsRow base 5 1 v l.length (l.map bv)
theorem OwnB.sl (h:OwnB base w v l) :
 ∃ a c,v=.slice a l.length c/\SlB w a l.length c l/\∀ x,a=some x->x=x.block/\base<=x.block/\∀ i,w.frozen? (x.block i)=false:=by
 rcases id h.2 with⟨hv,hn⟩|⟨g,cap,cur,hv,hg,hc,hnc,hcm,hcs,htake⟩
 ·have hl:l=[]:=List.eq_nil_of_length_eq_zero hn
  subst hl
  exact⟨none,0,hv,⟨rfl,Nat.le_refl _,by unfold maxLen;omega,fun _=>⟨rfl,rfl⟩,fun x hx=>by cases hx⟩,fun x hx=>by cases hx⟩
 ·refine⟨.some g,cap,hv,⟨rfl,hnc,hcm,(fun h=>by cases h),fun x hx i hi=>?_⟩,fun x hx=>?_⟩
  ·cases hx
   refine⟨rfl,(Array.getElem?_eq_some_iff.1 hc).1,?_⟩
   have:=World.ownsRow.cellAt (g:=g) (cap:=cap) (by rw [<-hv];exact h) i (by simpa using hi)
   simp only [Nat.zero_add]
   rw [this];simp [bv,hi]
  ·cases hx
   exact⟨rfl,hg,fun i=>frozen_of_row _ _ _ _ _ hc⟩
theorem OwnB.lt (h:OwnB base w v l):∀ k,v.ownBlock=some k->base<=k/\k < w.heap.size:=World.ownsRow.lt h
theorem OwnB.ext (h:OwnB base w v l) (e:Below w.heap.size w w'):OwnB base w' v l:=by
 refine⟨h.1,?_⟩
 rcases h.2 with hn|⟨g,cap,cur,rfl,hb,hgg,rest⟩
 ·exact .inl hn
 ·exact .inr ⟨g,cap,cur,rfl,hb,(e.block g (Array.getElem?_eq_some_iff.1 hgg).1).trans hgg,rest⟩
theorem OwnB.alloc (h:OwnB base w v l) (o:Obj):OwnB base (w.alloc o) v l:=World.ownsRow.alloc h o
theorem OwnB.mono {b':Nat} (h:OwnB b w v l) (hb:b'<=b):OwnB b' w v l:=by
 refine⟨h.1,?_⟩
 rcases h.2 with hn|⟨g,cap,cur,rfl,hbg,rest⟩
 ·exact .inl hn
 ·exact .inr ⟨g,cap,cur,rfl,Nat.le_trans hb hbg,rest⟩
theorem OwnB.nil (base:Nat) (w:World):OwnB base w (.slice none 0 0) []:=World.ownsRow_nil w base _ _
theorem OwnB.empty (w:World) (hb:base<=w.heap.size):OwnB base (w.alloc (.cells #[] 5)) (.slice w.heap.size 0 0) [] :=
 World.ownsRow_made w #[] 0 hb (by unfold maxLen;omega) rfl
theorem OwnB.set (h:OwnB base w (.slice g n c) l) (j:Nat) (b:UInt8) :
 OwnB base (w.setCell (g j) (bv b)) (.slice g n c) (l.set j b):=by
 have hn:n=l.length:=by
  obtain⟨a,c',e,-,-⟩:=h.sl
  injection e
 subst hn
 have:=(World.ownsRow.stored h j (bv b)).1
 unfold OwnB
 rw [List.length_set,List.map_set];exact this
theorem OwnB.row (h:OwnB base w (.slice g n c) l) (k:Nat) (hk:k < l.length) :
 w.cell? (g k)=some (bv (l[k]?.getD 0)):=by
 have hn:n=l.length:=by
  obtain⟨a,c',e,-,-⟩:=h.sl
  injection e
 subst hn
 rw [World.ownsRow.cellAt h k (by simpa using hk)];simp [hk]
theorem OwnB.free (h:OwnB base w (.slice g n c) l) (k:Nat):w.frozen? (g k)=false:=by
 have hn:n=l.length:=by
  obtain⟨a,c',e,-,-⟩:=h.sl
  injection e
 subst hn
 exact World.ownsRow.frozenAt h k
theorem SlB.one (w:World) (b:UInt8) (t:TypeId):SlB (w.alloc (.cells #[bv b] t)) w.heap.size 1 1 [b]:=by
 refine⟨rfl,Nat.le_refl _,by unfold maxLen;omega,(fun h=>by cases h),fun x hx i hi=>?_⟩
 cases hx
 refine⟨rfl,by simp,?_⟩
 obtain rfl:i=0:=by simpa using hi
 rw [World.cell?_alloc_at _ _ _ _ rfl];rfl
theorem SlB.built (w:World) (A:Array Value) (l:List UInt8) (n k:Nat) (t:TypeId) (fr:Nat × Nat) (hA:A=(l.map bv).toArray) (hn:l.length=n) (hm:n<=maxLen) (hk:k=w.heap.size) :
 SlB (w.alloc (.cells A t fr)) k n n l:=by
 subst hA;subst hk
 refine⟨hn,Nat.le_refl _,hm,(fun h=>by cases h),fun x hx i hi=>?_⟩
 cases hx
 refine⟨rfl,by simp,?_⟩
 rw [cell_of_row _ _ _ _ _ _ (za_b w _ _ rfl)];simp [bv,hi]
theorem OwnB.built (w:World) (l:List UInt8) (hb:base<=w.heap.size) (hm:l.length<=maxLen) :
 OwnB base (w.alloc (.cells (l.map bv).toArray 5)) (.slice w.heap.size l.length l.length) l:=by
 refine⟨by simp,.inr ⟨w.heap.size,l.length,(l.map bv).toArray,rfl,hb,za_b _ _ _ rfl,Nat.le_refl _,hm,by simp,by simp [List.take_of_length_le]⟩⟩
theorem info5:(Tryz.prog.info? 5).map (fun i=>(i.zero,i.size,i.bytes))=some (some (.int .u8 0),1,1):=by kernel_rfl
theorem za_d {a:Act} (hgd:o.guard=none) (s x:Operand)
 (ho:o.op=.call { callee:=.builtin .append,args:=#[s,x],argTypes:=#[70,70] })
 (base:Nat) (v:Value) (l:List UInt8) (hs:a.eval s=v) (hown:OwnB base w v l) (b:Option Addr) (m c:Nat) (l2:List UInt8) (hx:a.eval x=.slice b m c) (hsl:SlB w b m c l2)
 (hlen:l.length+m<=140737488355328) (hbase:base<=w.heap.size)
 (h:∀ v' w',OwnB base w' v' (l ++ l2)->w.grownBy w' v.ownBlock->(v'=.slice none 0 0 ↔ v=.slice none 0 0/\l2=[])->wpList Tryz.prog ops Q rest (a.put o.dst v') w'):wpList Tryz.prog ops Q (o :: rest) a w:=by
 obtain⟨i0,hi,hz0,hz1,hz2⟩:=info_parts info5
 cases b with
|none =>
  obtain⟨rfl,rfl⟩:=hsl.2.2.2.1 rfl
  obtain rfl:m=0:=hsl.1.symm
  refine wpList_append_own_none hgd s x 70 ho base 5 i0 1 Tryz.underlying70 hi v l.length _ hs hown hx ?_
  exact h v w (by simpa using hown) ⟨rfl,rfl,rfl,Nat.le_refl _,fun _ _ _=>rfl⟩ (by simp)
|some ad =>
  have hl2:=hsl.len
  refine wpList_append_own w hgd s x 70 ho base 5 i0 (.int .u8 0) 1 1 Tryz.underlying70 hi hz0 hz1 hz2 rfl (by decide) v l.length _ hs hown ad m c (l2.map bv) hx (by simp [hl2]) ?_ ?_ ?_ ?_ hbase ?_
  ·intro j u hj
   have hjl:j < l2.length:=by
    have:=(List.getElem?_eq_some_iff.1 hj).1;simpa using this
   obtain⟨hsp,hb,this⟩:=hsl.2.2.2.2 ad rfl j hjl
   have hadd:ad.add j=(ad.block (ad.off+j)):=by
    obtain⟨b,o,sp⟩:=ad;simp only at hsp;subst hsp;unfold Addr.add;split <;> simp_all
   rw [hadd,this];rw [<-hj];simp [bv,hjl]
  ·intro u hu
   obtain⟨b,_,rfl⟩:=List.mem_map.1 hu;rfl
  ·unfold maxLen;omega
  ·omega
  ·intro v' w' h1 h2 h3
   refine h v' w' ?_ h2 ?_
   ·unfold OwnB;rw [List.length_append,List.map_append,hl2];exact h1
   ·rw [h3];constructor
    ·rintro⟨h4,h5⟩;exact⟨h4,List.eq_nil_of_length_eq_zero (hl2.trans h5)⟩
    ·rintro⟨h4,h5⟩;subst h5;exact⟨h4,hl2.symm⟩
@[go_sem] theorem run_conv_const (w:World) (k:Nat) (C:Array Value) (n c:Nat) (hk:k=w.heap.size) :
 (convert 70 70 (.slice k n c)).run Tryz.prog (w.alloc (.cells C 5))=.ok (.slice k n c) (w.alloc (.cells C 5 (C.size,C.size+1))):=by
 subst hk
 exact Go.Lib.run_convert_bytes_const w _ _ C n c Tryz.underlying70 Tryz.underlying5
def str (l:List UInt8):ByteArray:=⟨l.toArray⟩
@[simp] theorem str_toList (l:List UInt8):(str l).toList=l:=ByteArray.toList_mk l
theorem za_t (h:SlB w a n c l) :
 (convert 70 9 (.slice a n c)).run Tryz.prog w=.ok (.string (str l)) w:=by
 cases a with
|none =>
  obtain⟨rfl,rfl⟩:=h.2.2.2.1 rfl
  exact run_convert_bytes_nil w _ _ Tryz.underlying70 Tryz.underlying5 _ _ _ Tryz.underlying9
|some x =>
  by_cases hl0:l=[]
  ·subst hl0
   obtain rfl:n=0:=h.1.symm
   rw [run_convert_bytes_string w _ _ _ _ 0 c Tryz.underlying70 Tryz.underlying5 Tryz.underlying9,run_bytesToString w x 0 c [] (by simp [loadCells,loadCellsFrom])]
   rfl
  have h0l:0 < l.length:=List.length_pos_iff.2 hl0
  obtain⟨b,o,sp⟩:=x
  have hs:=(h.2.2.2.2 _ rfl 0 h0l).1
  have hi:∀ i (h:i < l.length),_:=fun i hil=>(h.2.2.2.2 _ rfl i hil).2.2
  simp only at hs;subst hs
  rw [run_convert_bytes_arg w _ _ Tryz.underlying70 Tryz.underlying5 b o n c (l.map fun b=>(b.toNat:Int)) (by simp [h.len]) (fun i hin=>?_) _ Tryz.underlying9]
  ·congr 2
   simp only [strOfNums,str,List.map_map]
   congr 1
   rw [show ((fun n:Int=>UInt8.ofNat n.toNat) ∘ fun b:UInt8=>(b.toNat:Int))=id from funext fun b=>by simp]
   simp
  ·have hil:i < l.length:=by rw [h.len];exact hin
   rw [hi i hil];simp [hil]
theorem SlB.take (h:SlB w a n c l) (hk:k<=n):SlB w a k c (l.take k):=by
 obtain⟨hl,hn,hc,h0,h1⟩:=h
 refine⟨by simp;omega,by omega,hc,fun e=>by simp [h0 e],fun x hx i hi=>?_⟩
 have hi':i < l.length:=by simp at hi;omega
 obtain⟨hs,hb,hcl⟩:=h1 x hx i hi'
 exact⟨hs,hb,by rw [hcl];simp⟩
theorem SlB.drop {o:Nat} (h:SlB w (b o) n c l) (hk:k<=n):SlB w (b (o+k)) (n - k) (c - k) (l.drop k):=by
 obtain⟨hl,hn,hc,h0,h1⟩:=h
 refine⟨by simp;omega,by omega,by omega,(fun e=>by cases e),fun x hx i hi=>?_⟩
 cases hx
 have hi':k+i < l.length:=by simp at hi;omega
 obtain⟨hs,hb,hcl⟩:=h1 _ rfl (k+i) hi'
 refine⟨rfl,hb,?_⟩
 simp only [Nat.add_assoc] at hcl ⊢
 rw [hcl];simp
def Ext (w w':World):Prop:=Below w.heap.size w w'
theorem Ext.refl (w:World):Ext w w:=Below.refl _ _
theorem Ext.step {w2:World} (h2:Below w1.heap.size w1 w2) (h:Ext w w1):Ext w w2:=Below.trans h (h2.mono (Below.size h))
theorem Ext.drew (h:Ext w w1):Ext w w1.drew:=Below.drew h
theorem Ext.alloc (h:Ext w w1) (o:Obj):Ext w (w1.alloc o):=Below.alloc h (Below.size h) o
theorem SlB.ext' (h:SlB w a n c l) (e:Ext w w'):SlB w' a n c l:=h.ext e
def RowIs (w:World) (g:Nat) (t:TypeId) (l:List UInt8):Prop:=w.heap[g]?=some (.cells (l.map bv).toArray t (0,0))
theorem RowIs.slb (h:RowIs w g t l) (o n c:Nat) (hn:o+n<=l.length) (hc:n<=c) (hm:c<=maxLen):SlB w (g o) n c ((l.drop o).take n):=by
 refine⟨by simp;omega,hc,hm,(fun h=>by cases h),fun x hx i hi=>?_⟩
 cases hx
 simp at hi
 refine⟨rfl,(Array.getElem?_eq_some_iff.1 h).1,?_⟩
 rw [cell_of_row _ _ _ _ _ _ h]
 simp [bv,show o+i < l.length by omega]
theorem RowIs.cell (h:RowIs w g t l) (k:Nat) (hk:k < l.length):w.cell? (g k)=some (bv (l[k]?.getD 0)):=by
 rw [cell_of_row _ _ _ _ _ _ h];simp [hk]
theorem RowIs.free (h:RowIs w g t l) (k:Nat):w.frozen? (g k)=false:=frozen_of_row _ _ _ _ _ h
theorem RowIs.set (h:RowIs w g t l) (k:Nat) (b:UInt8):RowIs (w.setCell (g k) (bv b)) g t (l.set k b):=by
 unfold RowIs
 rw [heap_setCell_same _ _ _ _ _ _ h,List.map_set];simp
theorem RowIs.keep (h:RowIs w g t l) (hb:w'.heap[g]?=w.heap[g]?):RowIs w' g t l:=hb.trans h
structure But (g:Nat) (w w':World):Prop where
 os:w'.os=w.os
 tape:w'.tape=w.tape
 output:w'.output=w.output
 size:w.heap.size<=w'.heap.size
 block:∀ k,k < w.heap.size->k ≠ g->w'.heap[k]?=w.heap[k]?
theorem But.refl (g:Nat) (w:World):But g w w:=⟨rfl,rfl,rfl,Nat.le_refl _,fun _ _ _=>rfl⟩
theorem But.trans {a b c:World} (h:But g a b) (k:But g b c):But g a c :=
 ⟨k.os.trans h.os,k.tape.trans h.tape,k.output.trans h.output,Nat.le_trans h.size k.size,fun i hi hg=>(k.block i (Nat.lt_of_lt_of_le hi h.size) hg).trans (h.block i hi hg)⟩
theorem But.setCell {a:World} (h:But g a w) (o:Nat) (v:Value):But g a (w.setCell (g o) v) :=
 h.trans ⟨rfl,rfl,rfl,by simp,fun k _ hk=>heap_setCell_other _ _ _ _ hk⟩
theorem But.drew {a:World} (h:But g a w):But g a w.drew:=⟨h.os,h.tape,h.output,h.size,h.block⟩
theorem But.setRow {a:World} (h:But g a w) (cs:Array Value):But g a (w.setRow g cs) :=
 h.trans ⟨rfl,rfl,rfl,by simp,fun k _ hk=>setRow_other w g k cs hk⟩
theorem But.of_ext (h:Below w.heap.size w w'):But g w w':=⟨h.os,h.tape,h.output,h.size,fun k hk _=>h.block k hk⟩
theorem But.below (h0:Below B w0 w) (h:But g w w') (hg:B<=g) (hB:B<=w.heap.size):Below B w0 w' :=
 h0.trans ⟨h.os,h.tape,h.output,h.size,fun k hk=>h.block k (by omega) (by omega)⟩
theorem zf_t {P:Program} {a:Act} (hgd:o.guard=none) (d s:Operand) (dT sT:TypeId)
 (ho:o.op=.call { callee:=.builtin .copy,args:=#[d,s],argTypes:=#[dT,sT] }) (elem:TypeId) (hu:P.underlying dT=some (.slice elem)) (hsz:(P.info? elem).map (·.size)=some 1)
 (g off dLen dCap:Nat) (x:ByteArray) (hd:a.eval d=.slice (g off) dLen dCap) (hs:a.eval s=.string x) (hn:x.size<=dLen)
 (t:TypeId) (l:List UInt8) (hr:RowIs w g t l) (hfit:off+x.size<=l.length)
 (h:∀ w',RowIs w' g t (l.take off ++ x.data.toList ++ l.drop (off+x.size))->But g w w'->wpList P ops Q rest (a.put o.dst (goInt x.size)) w'):wpList P ops Q (o :: rest) a w:=by
 refine wpList_plain hgd fun K hK=>?_
 have hst:=run_storeCells_at P g off t (x.data.toList.map bv) 0 _ w hr (by simp;exact hfit) (fun v hv=>by obtain⟨b,_,rfl⟩:=List.mem_map.1 hv;rfl)
 unfold Oper.wp
 cases hq:P.info? elem with
|none=>simp [hq] at hsz
|some i =>
  have hmin:Nat.min x.size dLen=x.size:=Nat.min_eq_left hn
  have htk:List.take x.size (List.map (fun b:UInt8=>Value.int .u8 (b.toNat:Int)) x.data.toList)=x.data.toList.map bv:=by
   rw [List.take_of_length_le (by simp)];rfl
  simp [execOp,ho,resolve,invoke,builtin,hd,hs,Builtin.copy_,run_underlying hu,Builtin.lenOf,Builtin.firstCells,sizeOf,typeInfo,hq,hmin,Result.andThen]
  rw [htk,hst]
  refine hK _ _ (h _ ?_ ((But.refl _ _).setRow _))
  unfold RowIs
  rw [setRow_heap w g _ _ t _ hr]
  simp
theorem cel4 {w:World} {b:Nat} {t:TypeId} {x y z u:Value} (h:w.heap[b]?=some (.cells #[x,y,z,u] t (0,0))):w.cell? b=some x/\w.cell? (b 1)=some y/\w.cell? (b 2)=some z/\w.cell? (b 3)=some u :=
 ⟨(cell_of_row _ _ 0 _ _ _ h).trans rfl,(cell_of_row _ _ 1 _ _ _ h).trans rfl,(cell_of_row _ _ 2 _ _ _ h).trans rfl,(cell_of_row _ _ 3 _ _ _ h).trans rfl⟩
theorem below2 {B b:Nat} {w W:World} {x y:Value} (h:Below B w W) (hb:B<=b):Below B w ((W.setCell b x).setCell (b 1) y):=(h.setCell (p:=b) hb _).setCell (p:=(b 1)) hb _
theorem below4 {B b:Nat} {w W:World} {x y z u:Value} (h:Below B w W) (hb:B<=b):Below B w ((((W.setCell b x).setCell (b 1) y).setCell (b 2) z).setCell (b 3) u):=((below2 h hb).setCell (p:=(b 2)) hb _).setCell (p:=(b 3)) hb _
end
section
open Go.RowKit
variable {w w':World} {l:List (List UInt8)} {b base c k n:Nat} {v:Value} {a:Option Addr}
def tv (z:List UInt8):Value:=.string (str z)
def SlT (w:World) (a:Option Addr) (n c:Nat) (l:List (List UInt8)):Prop :=
 l.length=n/\n<=c/\c<=maxLen/\(a=none->l=[]/\c=0) ∧
  ∀ x,a=some x->∀ i (h:i < l.length),x.spot=none/\x.block < w.heap.size/\w.cell? (x.block (x.off+i))=some (tv l[i])
theorem SlT.len (h:SlT w a n c l):l.length=n:=h.1
theorem SlT.nil (w:World):SlT w none 0 0 []:=⟨rfl,zN _,by unfold maxLen;omega,fun _=>⟨rfl,rfl⟩,fun x hx=>by cases hx⟩
theorem SlT.at (h:SlT w a n c l) (hk:k < n) :
 ∃ b o,a=some ((b:Nat) o)/\b < w.heap.size/\k < l.length/\w.cell? (b (o+k))=some (tv (l[k]?.getD [])):=by
 obtain⟨hl,hn,hc,h0,h1⟩:=h
 cases a with
|none=>have:=(h0 rfl).1;subst this;simp at hl;omega
|some x =>
  obtain⟨b,o,sp⟩:=x
  have hk':k < l.length:=by omega
  obtain⟨hs,hb,hi⟩:=h1 _ rfl k hk'
  simp only at hs;subst hs
  refine⟨b,o,rfl,hb,hk',?_⟩
  rw [List.getElem?_eq_getElem hk']
  exact hi
theorem SlT.ext (h:SlT w a n c l) (e:Below w.heap.size w w'):SlT w' a n c l:=by
 obtain⟨hl,hn,hc,h0,h1⟩:=h
 refine⟨hl,hn,hc,h0,fun x hx i hi=>?_⟩
 obtain⟨hs,hb,hi⟩:=h1 x hx i hi
 exact⟨hs,Nat.lt_of_lt_of_le hb e.size,(e.cell (p:=(x.block (x.off+i))) hb).trans hi⟩
theorem SlT.take (h:SlT w a n c l) (hk:k<=n):SlT w a k c (l.take k):=by
 obtain⟨hl,hn,hc,h0,h1⟩:=h
 refine⟨by simp;omega,by omega,hc,fun e=>by simp [h0 e],fun x hx i hi=>?_⟩
 have hi':i < l.length:=by simp at hi;omega
 obtain⟨hs,hb,hcl⟩:=h1 x hx i hi'
 exact⟨hs,hb,by rw [hcl];simp⟩
def OwnT (base:Nat) (w:World) (v:Value) (l:List (List UInt8)):Prop:=w.ownsRow base 9 1 v l.length (l.map tv)
theorem OwnT.sl (h:OwnT base w v l):∃ a c,v=.slice a l.length c/\SlT w a l.length c l:=by
 rcases id h.2 with⟨hv,hn⟩|⟨g,cap,cur,hv,hg,hc,hnc,hcm,hcs,htake⟩
 ·have hl:l=[]:=List.eq_nil_of_length_eq_zero hn
  subst hl
  exact⟨none,0,hv,SlT.nil w⟩
 ·refine⟨.some g,cap,hv,⟨rfl,hnc,hcm,(fun h=>by cases h),fun x hx i hi=>?_⟩⟩
  cases hx
  refine⟨rfl,(Array.getElem?_eq_some_iff.1 hc).1,?_⟩
  have:=World.ownsRow.cellAt (g:=g) (cap:=cap) (by rw [<-hv];exact h) i (by simpa using hi)
  simp only [Nat.zero_add]
  rw [this];simp [hi]
theorem OwnT.lt (h:OwnT base w v l):∀ k,v.ownBlock=some k->base<=k/\k < w.heap.size:=World.ownsRow.lt h
theorem OwnT.alloc (h:OwnT base w v l) (o:Obj):OwnT base (w.alloc o) v l:=World.ownsRow.alloc h o
theorem OwnT.nil (base:Nat) (w:World):OwnT base w (.slice none 0 0) []:=World.ownsRow_nil w base _ _
theorem infoStr:(Tryz.prog.info? 9).map (fun i=>(i.zero,i.size,i.bytes))=some (some (.string ⟨#[]⟩),1,16):=by kernel_rfl
theorem SlT.one (w:World) (z:List UInt8) (t:TypeId):SlT (w.alloc (.cells #[tv z] t)) w.heap.size 1 1 [z]:=by
 refine⟨rfl,zN _,by unfold maxLen;omega,(fun h=>by cases h),fun x hx i hi=>?_⟩
 cases hx
 refine⟨rfl,by simp,?_⟩
 obtain rfl:i=0:=by simpa using hi
 rw [World.cell?_alloc_at _ _ _ _ rfl];rfl
theorem zb_r {ops:Array Oper} {rest:List Oper} {o:Oper} {a:Act} {Q:Exit->Act->World->Prop} (hgd:o.guard=none) (s x:Operand)
 (ho:o.op=.call { callee:=.builtin .append,args:=#[s,x],argTypes:=#[200,200] })
 (base:Nat) (v:Value) (l:List (List UInt8)) (hs:a.eval s=v) (hown:OwnT base w v l) (b:Option Addr) (m c:Nat) (l2:List (List UInt8)) (hx:a.eval x=.slice b m c) (hsl:SlT w b m c l2)
 (hlen:l.length+m<=1000000000000) (hbase:base<=w.heap.size)
 (h:∀ v' w',OwnT base w' v' (l ++ l2)->w.grownBy w' v.ownBlock->wpList Tryz.prog ops Q rest (a.put o.dst v') w'):wpList Tryz.prog ops Q (o :: rest) a w:=by
 obtain⟨i0,hi,hz0,hz1,hz2⟩:=info_parts infoStr
 cases b with
|none =>
  obtain⟨rfl,rfl⟩:=hsl.2.2.2.1 rfl
  obtain rfl:m=0:=hsl.1.symm
  refine wpList_append_own_none hgd s x 200 ho base 9 i0 1 Tryz.underlying200 hi v l.length _ hs hown hx ?_
  exact h v w (by simpa using hown) ⟨rfl,rfl,rfl,zN _,fun _ _ _=>rfl⟩
|some ad =>
  have hl2:=hsl.len
  refine wpList_append_own w hgd s x 200 ho base 9 i0 (.string ⟨#[]⟩) 1 16 Tryz.underlying200 hi hz0 hz1 hz2 rfl (by decide) v l.length _ hs hown ad m c (l2.map tv) hx (by simp [hl2]) ?_ ?_ (by unfold maxLen;omega) (by omega) hbase ?_
  ·intro j u hj
   have hjl:j < l2.length:=by
    have:=(List.getElem?_eq_some_iff.1 hj).1;simpa using this
   obtain⟨hsp,hb,this⟩:=hsl.2.2.2.2 ad rfl j hjl
   have hadd:ad.add j=(ad.block (ad.off+j)):=by
    obtain⟨b,o,sp⟩:=ad;simp only at hsp;subst hsp;unfold Addr.add;split <;> simp_all
   rw [hadd,this];rw [<-hj];simp [hjl]
  ·intro u hu
   obtain⟨b,_,rfl⟩:=List.mem_map.1 hu;rfl
  ·intro v' w' h1 h2 _
   refine h v' w' ?_ h2
   unfold OwnT;rw [List.length_append,List.map_append,hl2];exact h1
end
end Go.Proofs.YtmanejniepghlaaGreatDoor
namespace Go.Proofs.YtmanejniepghlaaGreatDoor.Puny
def point (n:Int):Bool:=decide (0<=n) && decide (n<=1114111) && (decide (n < 55296) || decide (57343 < n))
theorem point_iff (n:Int):point n=true ↔ 0<=n/\n<=1114111/\(n < 55296\/57343 < n):=by simp [point,and_assoc]
def thr (k:Nat) (bias:Int):Int:=min (max (36 * ((k:Int)+1) - bias) 1) 26
theorem thr_bd (k:Nat) (bias:Int):1<=thr k bias/\thr k bias<=26:=by unfold thr;omega
def adGo:Nat->Int->Int->Int
|0,_,k=>k
|f+1,d,k=>if 455 < d then adGo f (d / 35) (k+36) else k+36 * d / (d+38)
def adStart (delta:Int) (count:Int) (first:Bool):Int:=(if first then delta / 700 else delta / 2)+(if first then delta / 700 else delta / 2) / count
def adapt (delta:Int) (count:Int) (first:Bool):Int:=adGo ((adStart delta count first).toNat+1) (adStart delta count first) 0
theorem zj_g (f:Nat):∀ d k:Int,0<=d->0<=k->k<=adGo f d k/\(d < 35 ^ f->adGo f d k<=k+36 * f+36):=by
 induction f with
|zero=>intro d k hd hk;simp [adGo];omega
|succ f ih =>
  intro d k hd hk
  rw [adGo]
  by_cases h:455 < d
  ·rw [if_pos h]
   obtain⟨h1,h2⟩:=ih (d / 35) (k+36) (by omega) (by omega)
   refine⟨by omega,fun hh=>?_⟩
   have h3:d / 35 < 35 ^ f:=by
    have:d < 35 ^ f * 35:=by rw [<-Int.pow_succ];exact hh
    omega
   have:=h2 h3
   rw [Int.natCast_add];omega
  ·rw [if_neg h]
   have h0:0<=36 * d / (d+38):=Int.ediv_nonneg (by omega) (by omega)
   have h1:36 * d / (d+38) < 36:=Int.ediv_lt_of_lt_mul (by omega) (by omega)
   exact⟨by omega,fun _=>by rw [Int.natCast_add];omega⟩
theorem adStart_bd (delta count:Int) (first:Bool) (h:0<=delta) (hc:1<=count):0<=adStart delta count first/\adStart delta count first<=2 * delta:=by
 have hq:∀ x:Int,0<=x->0<=x / count/\x / count<=x:=fun x hx=>⟨Int.ediv_nonneg hx (by omega),Int.ediv_le_self _ hx⟩
 unfold adStart
 cases first
 ·have h1:=hq (delta / 2) (by omega)
  simp only [Bool.false_eq_true,if_false]
  generalize (delta / 2) / count=y at *
  omega
 ·have h1:=hq (delta / 700) (by omega)
  simp only [if_true]
  generalize (delta / 700) / count=y at *
  omega
theorem zm_m (f:Nat):∀ (g:Nat) (d k:Int),0<=d->d < f->d < g->adGo f d k=adGo g d k:=by
 induction f with
|zero=>intro g d k h0 h1;omega
|succ f ih =>
  intro g d k h0 h1 h2
  obtain⟨g,rfl⟩:∃ g',g=g'+1:=⟨g - 1,by omega⟩
  rw [adGo,adGo]
  by_cases h:455 < d
  ·rw [if_pos h,if_pos h];exact ih g _ _ (by omega) (by omega) (by omega)
  ·rw [if_neg h,if_neg h]
theorem adapt_bd (delta count:Int) (first:Bool) (h:0<=delta) (h2:delta<=2199023255552) (hc:1<=count):0<=adapt delta count first/\adapt delta count first<=1000:=by
 obtain⟨s0,s1⟩:=adStart_bd delta count first h hc
 unfold adapt
 generalize adStart delta count first=s at *
 refine⟨(zj_g _ s 0 s0 (by omega)).1,?_⟩
 by_cases hs:s < 10
 ·rw [zm_m _ 10 s 0 s0 (by omega) (by omega)]
  have:=(zj_g 10 s 0 s0 (by omega)).2 (Int.lt_of_lt_of_le (show s < 4398046511105 by omega) (by decide))
  omega
 ·have h10:adGo (s.toNat+1) s 0=adGo 10 s 0:=by
   have key:∀ (f g:Nat) (d k:Int),0<=d->d < f->d < 35 ^ g->(455:Int) < 35 ^ g->adGo f d k=adGo (g+1) d k:=by
    intro f
    induction f with
   |zero=>intro g d k h0 h1;omega
   |succ f ih =>
     intro g d k h0 h1 h2 h3
     rw [adGo,adGo]
     by_cases h:455 < d
     ·rw [if_pos h,if_pos h]
      cases g with
     |zero=>simp at h3
     |succ g =>
       have h4:d / 35 < 35 ^ g:=by
        have:d < 35 ^ g * 35:=by rw [<-Int.pow_succ];exact h2
        omega
       by_cases h5:(455:Int) < 35 ^ g
       ·exact ih g _ _ (by omega) (by omega) h4 h5
       ·have h6:¬ 455 < d / 35:=by omega
        obtain⟨f,rfl⟩:∃ f',f=f'+1:=⟨f - 1,by omega⟩
        rw [adGo,adGo,if_neg h6,if_neg h6]
     ·rw [if_neg h,if_neg h]
   exact key _ 9 s 0 s0 (by omega) (Int.lt_of_le_of_lt (show s<=4398046511104 by omega) (by decide)) (by decide)
  rw [h10]
  have:=(zj_g 10 s 0 s0 (by omega)).2 (Int.lt_of_lt_of_le (show s < 4398046511105 by omega) (by decide))
  omega
def digit (d:Int):UInt8:=UInt8.ofNat (if d < 26 then 97+d else 48+d - 26).toNat
def value (b:UInt8):Int :=
 if 97<=b.toNat/\b.toNat<=122 then (b.toNat:Int) - 97 else if 65<=b.toNat/\b.toNat<=90 then (b.toNat:Int) - 65 else if 48<=b.toNat/\b.toNat<=57 then (b.toNat:Int) - 48+26 else -1
def digs:Nat->Int->Nat->Int->List UInt8
|0,_,_,_=>[]
|f+1,q,k,bias=>if q < thr k bias then [digit q] else digit (thr k bias+(q - thr k bias) % (36 - thr k bias)) :: digs f ((q - thr k bias) / (36 - thr k bias)) (k+1) bias
def numE (q bias:Int):List UInt8:=digs (q.toNat+1) q 0 bias
theorem next_lt (q t:Int) (h1:1<=t) (h2:t<=26) (h:t<=q):0<=(q - t) / (36 - t)/\(q - t) / (36 - t) < q/\10 * ((q - t) / (36 - t))<=q:=by
 have h0:0<=(q - t) / (36 - t):=Int.ediv_nonneg (by omega) (by omega)
 have h3:(36 - t) * ((q - t) / (36 - t))<=q - t:=Int.mul_ediv_self_le (by omega)
 have h4:10 * ((q - t) / (36 - t))<=(36 - t) * ((q - t) / (36 - t)):=Int.mul_le_mul_of_nonneg_right (by omega) h0
 omega
theorem zj_k (m:Nat):∀ (f:Nat) (q:Int) (k:Nat) (bias:Int),0<=q->q < 10 ^ m->(digs f q k bias).length<=m+1:=by
 induction m with
|zero =>
  intro f q k bias h0 h1
  have:q=0:=by simp at h1;omega
  subst this
  have:=thr_bd k bias
  cases f with
 |zero=>simp [digs]
 |succ f=>rw [digs,if_pos (by omega)];simp
|succ m ih =>
  intro f q k bias h0 h1
  cases f with
 |zero=>simp [digs]
 |succ f =>
   rw [digs]
   have ht:=thr_bd k bias
   by_cases h:q < thr k bias
   ·rw [if_pos h];simp
   ·rw [if_neg h]
    obtain⟨n0,n1,n2⟩:=next_lt q _ ht.1 ht.2 (by omega)
    have:=ih f ((q - thr k bias) / (36 - thr k bias)) (k+1) bias n0 (by rw [Int.pow_succ] at h1;omega)
    simp;omega
structure E where
 out:List UInt8
 delta:Int
 bias:Int
 done:Nat
def encPt (n:Int) (basic:Nat) (s:E) (p:Int):E :=
 if p < n then { s with delta:=s.delta+1 }
 else if p=n then ⟨s.out ++ numE s.delta s.bias,0,adapt s.delta (s.done+1) (s.done == basic),s.done+1⟩
 else s
def least (n:Int) (m:Int) (ps:List Int):Int:=ps.foldl (fun m p=>if n<=p then min m p else m) m
def encGo (ps:List Int) (basic:Nat):Nat->Int->E->List UInt8
|0,_,s=>s.out
|f+1,n,s =>
  if s.done < ps.length then
   let m:=least n 1114112 ps
   let s':=ps.foldl (encPt m basic) { s with delta:=s.delta+(m - n) * (s.done+1) }
   encGo ps basic f (m+1) { s' with delta:=s'.delta+1 }
  else s.out
def basics (ps:List Int):List UInt8:=(ps.filter fun p=>decide (p < 128)).map fun p=>UInt8.ofNat p.toNat
def front (ps:List Int):List UInt8:=basics ps ++ (if basics ps=[] then [] else [45])
def encode (ps:List Int):List UInt8:=encGo ps (basics ps).length (ps.length+1) 128 ⟨front ps,0,72,(basics ps).length⟩
def enc (ps:List Int):List UInt8 × Int :=
 if 256 < ps.length then ([],3) else if ps.all point then (encode ps,0) else ([],2)
def decNum:List UInt8->Int->Int->Nat->Int->Except Int (List UInt8 × Int)
|[],_,_,_,_=>.error 4
|b :: l,i,w,k,bias =>
  if value b < 0 then .error 4
  else if 1099511627776 < i+value b * w then .error 19
  else if value b < thr k bias then .ok (l,i+value b * w)
  else if 1099511627776 < w * (36 - thr k bias) then .error 19
  else decNum l (i+value b * w) (w * (36 - thr k bias)) (k+1) bias
structure D where
 pts:List Int
 n:Int
 i:Int
 bias:Int
 first:Bool
def ins (l:List Int) (i:Nat) (n:Int):List Int:=l.take i ++ n :: l.drop i
def decStep (l:List UInt8) (s:D):Except Int (List UInt8 × D) :=
 match decNum l s.i 1 0 s.bias with
|.error e=>.error e
|.ok (r,j) =>
  let c:Int:=s.pts.length+1
  let n:=s.n+j / c
  if point n=false then .error 2
  else if 256 < c then .error 3
  else .ok (r,⟨ins s.pts (j % c).toNat n,n,j % c+1,adapt (j - s.i) c s.first,false⟩)
def decGo:Nat->List UInt8->D->Except Int (List Int)
|0,_,s=>.ok s.pts
|f+1,l,s =>
  if l=[] then .ok s.pts else
  match decStep l s with
 |.error e=>.error e
 |.ok (r,s')=>decGo f r s'
def cut (l:List UInt8):Nat:=l.length - 1 - (l.reverse.takeWhile (· != 45)).length
def decode (l:List UInt8):Except Int (List Int) :=
 if 1024 < l.length then .error 3
 else if (l.all fun b=>decide (b.toNat < 128))=false then .error 4
 else if 256 < cut l then .error 3
 else decGo (l.length+1) (if cut l=0 then l else l.drop (cut l+1)) ⟨(l.take (cut l)).map fun b=>(b.toNat:Int),128,0,72,true⟩
def dec (l:List UInt8):List Int × Int:=match decode l with
|.error e=>([],e)
|.ok p=>(p,0)
end Go.Proofs.YtmanejniepghlaaGreatDoor.Puny
namespace Go.Proofs.YtmanejniepghlaaGreatDoor.Puny
variable {t:List UInt8}
theorem ins_length (l:List Int) (i:Nat) (n:Int) (h:i<=l.length):(ins l i n).length=l.length+1:=by simp [ins];omega
theorem zq_a (n:Int) (ps:List Int):∀ m,least n m ps<=m:=by
 induction ps with
|nil=>intro m;exact Int.le_refl _
|cons p ps ih =>
  intro m
  have:=ih (if n<=p then min m p else m)
  rw [least,List.foldl_cons]
  refine Int.le_trans this ?_
  split <;> omega
theorem zn_n (n:Int) (ps:List Int):∀ m,∀ p ∈ ps,n<=p->least n m ps<=p:=by
 induction ps with
|nil=>intro m p hp;cases hp
|cons q ps ih =>
  intro m p hp hn
  rw [least,List.foldl_cons]
  rcases List.mem_cons.1 hp with rfl|hp
  ·refine Int.le_trans (zq_a n ps _) ?_
   rw [if_pos hn];omega
  ·exact ih _ p hp hn
theorem zn_o (n:Int) (ps:List Int):∀ m,least n m ps=m\/(least n m ps ∈ ps/\n<=least n m ps):=by
 induction ps with
|nil=>intro m;exact .inl rfl
|cons q ps ih =>
  intro m
  have e:least n m (q :: ps)=least n (if n<=q then min m q else m) ps:=rfl
  rw [e]
  rcases ih (if n<=q then min m q else m) with h|⟨h1,h2⟩
  ·by_cases hq:n<=q
   ·rw [if_pos hq] at h ⊢
    rcases Int.le_total q m with hm|hm
    ·rw [h,Int.min_eq_right hm];exact .inr ⟨List.mem_cons_self ..,hq⟩
    ·rw [h,Int.min_eq_left hm];exact .inl rfl
   ·rw [if_neg hq] at h ⊢;exact .inl h
  ·exact .inr ⟨List.mem_cons_of_mem _ h1,h2⟩
theorem ze_a (n M:Int) (ps:List Int) (hex:∃ p ∈ ps,n<=p) (hM:∀ p ∈ ps,p < M):least n M ps ∈ ps/\n<=least n M ps/\∀ p ∈ ps,n<=p->least n M ps<=p:=by
 obtain⟨p,hp,hn⟩:=hex
 have h1:=zn_n n ps M
 rcases zn_o n ps M with h|⟨h2,h3⟩
 ·have:=h1 p hp hn;have:=hM p hp;omega
 ·exact⟨h2,h3,h1⟩
theorem zn_m (n M M':Int) (ps:List Int) (hex:∃ p ∈ ps,n<=p) (hM:∀ p ∈ ps,p < M) (hM':∀ p ∈ ps,p < M'):least n M ps=least n M' ps:=by
 obtain⟨a1,a2,a3⟩:=ze_a n M ps hex hM
 obtain⟨b1,b2,b3⟩:=ze_a n M' ps hex hM'
 have:=a3 _ b1 b2
 have:=b3 _ a1 a2
 omega
def below (n:Int) (ps:List Int):List Int:=ps.filter fun p=>decide (p < n)
theorem zg_b (n:Int) (ps:List Int) (h:(below n ps).length < ps.length):∃ p ∈ ps,n<=p:=by
 refine Classical.byContradiction fun hne=>?_
 have:(below n ps).length=ps.length:=(List.length_filter_eq_length_iff).2 fun p hp=>decide_eq_true (by
  rcases Int.lt_or_le p n with h1|h1
  ·exact h1
  ·exact absurd ⟨p,hp,h1⟩ hne)
 omega
theorem zh_u (ps:List Int) (hps:∀ p ∈ ps,point p=true):(basics ps).map (fun b=>(b.toNat:Int))=below 128 ps:=by
 unfold basics below
 rw [List.map_map]
 have:∀ p ∈ ps.filter fun p=>decide (p < 128),((fun b:UInt8=>(b.toNat:Int)) ∘ fun p:Int=>UInt8.ofNat p.toNat) p=p:=by
  intro p hp
  obtain⟨h1,h2⟩:=List.mem_filter.1 hp
  have h3:=of_decide_eq_true h2
  have h4:=(point_iff p).1 (hps p h1)
  have:(UInt8.ofNat p.toNat).toNat=p.toNat:=by simp;omega
  simp only [Function.comp,this];omega
 rw [List.map_congr_left this];simp
theorem cut_front (b t:List UInt8) (ht:∀ x ∈ t,x ≠ 45):cut (b ++ 45 :: t)=b.length:=by
 unfold cut
 have:(b ++ 45 :: t).reverse.takeWhile (· != 45)=t.reverse:=by
  rw [List.reverse_append,List.reverse_cons,List.append_assoc]
  rw [List.takeWhile_append_of_pos (by intro x hx;have:=ht x (List.mem_reverse.1 hx);simpa using this)]
  simp
 rw [this];simp
theorem cut_none (t:List UInt8) (ht:∀ x ∈ t,x ≠ 45):cut t=0:=by
 unfold cut
 have:t.reverse.takeWhile (· != 45)=t.reverse:=by
  have:=List.takeWhile_append_of_pos (p:=(· != (45:UInt8))) (l₁:=t.reverse) (l₂:=[]) (by intro x hx;have:=ht x (List.mem_reverse.1 hx);simpa using this)
  simpa using this
 rw [this];simp
theorem cut_lt (l:List UInt8) (h:cut l ≠ 0):cut l < l.length/\l=l.take (cut l) ++ 45 :: l.drop (cut l+1):=by
 unfold cut at h ⊢
 have hs:=List.takeWhile_append_dropWhile (p:=(· != (45:UInt8))) (l:=l.reverse)
 generalize ht:l.reverse.takeWhile (· != 45)=t at *
 generalize hd:l.reverse.dropWhile (· != 45)=d at *
 have hlen:=congrArg List.length hs
 simp at hlen
 cases d with
|nil=>simp at hlen;omega
|cons x d =>
  have hx:x=45:=by
   have:=List.head?_dropWhile_not (p:=(· != (45:UInt8))) (l:=l.reverse)
   rw [hd] at this
   simpa using this
  subst hx
  have hl:l=d.reverse ++ 45 :: t.reverse:=by
   have:=congrArg List.reverse hs
   rw [List.reverse_reverse] at this
   rw [<-this];simp
  simp at hlen
  have hc:l.length - 1 - t.length=d.reverse.length:=by simp;omega
  rw [hc]
  refine⟨by simp;omega,?_⟩
  conv=>lhs;rw [hl]
  congr 1
  ·rw [hl,List.take_left]
  ·rw [hl]
   rw [show d.reverse.length+1=(d.reverse ++ [45]).length by simp,show d.reverse ++ 45 :: t.reverse=(d.reverse ++ [45]) ++ t.reverse by simp,List.drop_left]
theorem zl_l (l:List UInt8) (h:(l.all fun b=>decide (b.toNat < 128))=true) (k:Nat):∀ p ∈ (l.take k).map (fun b=>(b.toNat:Int)),point p=true/\p < 128:=by
 intro p hp
 obtain⟨b,hb,rfl⟩:=List.mem_map.1 hp
 have:=of_decide_eq_true (List.all_eq_true.1 h b (List.mem_of_mem_take hb))
 exact⟨(point_iff _).2 (by omega),by omega⟩
theorem zm_x (f:Nat):∀ (l:List UInt8) (s:D) (p:List Int),(∀ x ∈ s.pts,point x=true)->s.pts.length<=256->decGo f l s=.ok p->(∀ x ∈ p,point x=true)/\p.length<=256:=by
 induction f with
|zero=>intro l s p h1 h2 h;cases h;exact⟨h1,h2⟩
|succ f ih =>
  intro l s p h1 h2 h
  rw [decGo] at h
  split at h
  ·cases h;exact⟨h1,h2⟩
  ·split at h
   ·cases h
   ·rename_i r s' hs
    unfold decStep at hs
    split at hs
    ·cases hs
    ·rename_i r0 j _
     dsimp only at hs
     split at hs
     ·cases hs
     ·rename_i hp
      split at hs
      ·cases hs
      ·rename_i hc
       cases hs
       have m0:=Int.emod_nonneg j (show ((s.pts.length:Int)+1) ≠ 0 by omega)
       have m1:=Int.emod_lt_of_pos j (show 0 < (s.pts.length:Int)+1 by omega)
       refine ih _ _ _ (fun x hx=>?_) ?_ h
       ·rcases List.mem_append.1 hx with hx|hx
        ·exact h1 x (List.mem_of_mem_take hx)
        ·rcases List.mem_cons.1 hx with rfl|hx
         ·simpa using hp
         ·exact h1 x (List.mem_of_mem_drop hx)
       ·rw [ins_length _ _ _ (by omega)];omega
theorem decode_ok (l:List UInt8) (p:List Int) (h:decode l=.ok p):(∀ x ∈ p,point x=true)/\p.length<=256:=by
 unfold decode at h
 split at h
 ·cases h
 ·split at h
  ·cases h
  ·rename_i h2
   split at h
   ·cases h
   ·exact zm_x _ _ _ _ (fun x hx=>(zl_l l (by simpa using h2) (cut l) x hx).1) (by simp;omega) h
end Go.Proofs.YtmanejniepghlaaGreatDoor.Puny
namespace Go.Proofs.YtmanejniepghlaaGreatDoor.Lab
open Go.Lib
def pre:List UInt8:=[120,110,45,45]
def canon (b:UInt8):Bool:=(decide (97<=b.toNat) && decide (b.toNat<=122)) || (decide (48<=b.toNat) && decide (b.toNat<=57)) || decide (b.toNat=45) || decide (b.toNat=95)
def properP (r:List UInt8) (p:List Int):Bool:=p.all (fun x=>!(decide (65<=x) && decide (x<=90))) && p.any (fun x=>decide (128<=x)) && decide (Puny.encode p=r)
def proper (r:List UInt8):Bool:=match Puny.decode r with
|.error _=>false
|.ok p=>properP r p
def frame (l:List UInt8):Bool:=decide (l ≠ []) && decide (l.length<=63) && decide (l.head? ≠ some 45) && decide (l.getLast? ≠ some 45) && l.all canon
def valid (l:List UInt8):Bool:=frame l && (!(pre.isPrefixOf l) || proper (l.drop 4))
end Go.Proofs.YtmanejniepghlaaGreatDoor.Lab
namespace Go.Proofs.YtmanejniepghlaaGreatDoor.Wire
variable {b s:List UInt8} {k n v:Nat} {x:UInt8}
def enc (v:Nat):List UInt8:=if v < 128 then [UInt8.ofNat v] else UInt8.ofNat (v % 128+128) :: enc (v / 128)
termination_by v
decreasing_by omega
theorem enc_last (h:v < 128):enc v=[UInt8.ofNat v]:=by rw [enc,if_pos h]
theorem enc_step (h:¬ v < 128):enc v=UInt8.ofNat (v % 128+128) :: enc (v / 128):=by rw [enc,if_neg h]
theorem enc_len_bound:∀ (k v:Nat),v < 128 ^ (k+1)->1<=(enc v).length/\(enc v).length<=k+1
|0,v,h=>by rw [enc_last (by omega)];simp
|k+1,v,h=>by
  by_cases hv:v < 128
  ·rw [enc_last hv];simp
  ·rw [enc_step hv]
   have h2:v / 128 < 128 ^ (k+1):=by
    rw [Nat.div_lt_iff_lt_mul (by omega)];rw [Nat.pow_succ] at h;exact h
   have:=enc_len_bound k (v / 128) h2
   simp only [List.length_cons];omega
theorem enc_len (h:v < 18446744073709551616):1<=(enc v).length/\(enc v).length<=10:=enc_len_bound 9 v (by omega)
def big (x:UInt8):Bool:=decide (128<=x.toNat)
def val:List UInt8->Nat
|[]=>0
|x :: l=>x.toNat % 128+128 * val l
def run (b:List UInt8):Nat:=(b.takeWhile big).length
def dec (b:List UInt8):Nat × Nat × Int :=
 if 10<=run b then (0,0,19) else if run b=b.length then (0,0,5) else if run b=9/\1 < (b.getD 9 0).toNat then (0,0,19) else
  if 0 < run b/\b.getD (run b) 0=0 then (0,0,6) else (val (b.take (run b+1)),run b+1,0)
theorem zt_j (b:List UInt8):run b<=b.length:=(List.takeWhile_sublist big).length_le
theorem ze_n (h:128<=x.toNat):run (x :: b)=run b+1:=by
 unfold run;rw [List.takeWhile_cons_of_pos (by simpa [big] using h)];rfl
theorem zd_k (h:x.toNat < 128):run (x :: b)=0:=by
 unfold run;rw [List.takeWhile_cons_of_neg (by simp [big];omega)];rfl
theorem zo_m:∀ (b:List UInt8) (k:Nat),k < run b->∃ h:k < b.length,128<=(b[k]).toNat
|[],k,hk=>by simp [run] at hk
|x :: b,k,hk=>by
  by_cases h:128<=x.toNat
  ·rw [ze_n h] at hk
   cases k with
  |zero=>exact⟨by simp,h⟩
  |succ k =>
    obtain⟨h1,h2⟩:=zo_m b k (by omega)
    exact⟨by simp;omega,h2⟩
  ·rw [zd_k (by omega)] at hk;omega
theorem ze_w:∀ (b:List UInt8) (h:run b < b.length),(b[run b]).toNat < 128
|[],h=>by simp at h
|x :: b,h=>by
  by_cases hx:128<=x.toNat
  ·have e:=ze_n (b:=b) hx
   have h':run b < b.length:=by rw [e] at h;simpa using h
   have:=ze_w b h'
   simp only [e,List.getElem_cons_succ];exact this
  ·have e:=zd_k (b:=b) (show x.toNat < 128 by omega)
   simp only [e,List.getElem_cons_zero];omega
theorem zr_j (h:∀ i (hi:i < b.length),i < k->128<=(b[i]).toNat) (hk:k<=b.length) (hs:∀ h:k < b.length,(b[k]).toNat < 128):run b=k:=by
 rcases Nat.lt_trichotomy (run b) k with h1|h1|h1
 ·have hl:run b < b.length:=by omega
  have:=ze_w b hl
  have:=h _ hl h1
  omega
 ·exact h1
 ·obtain⟨hl,h2⟩:=zo_m b k h1
  have:=hs hl
  omega
theorem zt_i (h:∀ i (hi:i < b.length),i < k->128<=(b[i]).toNat) (hk:k<=b.length):k<=run b:=by
 rcases Nat.lt_or_ge (run b) k with h1|h1
 ·have hl:run b < b.length:=by omega
  have:=ze_w b hl
  have:=h _ hl h1
  omega
 ·exact h1
theorem ze_y:∀ (l:List UInt8) (x:UInt8),val (l ++ [x])=val l+128 ^ l.length * (x.toNat % 128)
|[],x=>by simp [val]
|y :: l,x=>by
  have:=ze_y l x
  simp only [List.cons_append,val,this,List.length_cons,Nat.pow_succ]
  rw [Nat.mul_add,Nat.mul_comm (128 ^ l.length) 128,Nat.mul_assoc,Nat.add_assoc]
theorem zp_a:∀ (l:List UInt8),val l < 128 ^ l.length
|[]=>by simp [val]
|y :: l=>by
  have:=zp_a l
  simp only [val,List.length_cons,Nat.pow_succ]
  have h2:y.toNat % 128 < 128:=Nat.mod_lt _ (by omega)
  omega
theorem ofNat_toNat (h:n < 256):(UInt8.ofNat n).toNat=n:=by simp;omega
theorem zm_z:∀ (l:List UInt8) (x:UInt8),(∀ y ∈ l,128<=y.toNat)->x.toNat < 128->(l=[]\/x ≠ 0)->enc (val (l ++ [x]))=l ++ [x]/\(x ≠ 0->0 < val (l ++ [x]))
|[],x,_,hx,_=>by
  have e:val ([] ++ [x])=x.toNat:=by simp [val];omega
  rw [e,enc_last hx]
  refine⟨by simp,fun h=>?_⟩
  rcases Nat.eq_zero_or_pos x.toNat with h0|h0
  ·exact absurd (UInt8.toNat_inj.1 (by rw [h0];rfl)) h
  ·exact h0
|y :: l,x,hl,hx,h0=>by
  have hx0:x ≠ 0:=by
   rcases h0 with h|h
   ·cases h
   ·exact h
  obtain⟨h1,h2⟩:=zm_z l x (fun z hz=>hl z (List.mem_cons_of_mem _ hz)) hx (.inr hx0)
  have hp:=h2 hx0
  have hy:=hl y List.mem_cons_self
  have hy2:=y.toNat_lt
  have e:val (y :: l ++ [x])=y.toNat % 128+128 * val (l ++ [x]):=rfl
  have hge:¬ val (y :: l ++ [x]) < 128:=by rw [e];omega
  refine⟨?_,fun _=>by omega⟩
  rw [enc_step hge,e]
  rw [show (y.toNat % 128+128 * val (l ++ [x])) / 128=val (l ++ [x]) by omega,h1]
  rw [show (y.toNat % 128+128 * val (l ++ [x])) % 128+128=y.toNat by omega]
  simp
theorem zq_x (b:List UInt8):b.take (run b)=b.takeWhile big:=by
 unfold run
 conv=>lhs;rw [<-List.takeWhile_append_dropWhile (p:=big) (l:=b)]
 rw [List.take_left']
 rw [List.takeWhile_append_dropWhile]
theorem zd_a:∀ (b:List UInt8) (y:UInt8),y ∈ b.takeWhile big->big y=true
|[],y,h=>by simp at h
|x :: b,y,h=>by
  by_cases hx:big x=true
  ·rw [List.takeWhile_cons_of_pos hx] at h
   rcases List.mem_cons.1 h with e|e
   ·rw [e];exact hx
   ·exact zd_a b y e
  ·rw [List.takeWhile_cons_of_neg hx] at h;cases h
theorem enc_dec (h:dec b=(v,n,0)):b.take n=enc v/\n<=b.length/\1<=n/\n<=10/\v < 18446744073709551616:=by
 unfold dec at h
 by_cases c1:10<=run b
 ·rw [if_pos c1] at h;cases h
 rw [if_neg c1] at h
 by_cases c2:run b=b.length
 ·rw [if_pos c2] at h;cases h
 rw [if_neg c2] at h
 by_cases c3:run b=9/\1 < (b.getD 9 0).toNat
 ·rw [if_pos c3] at h;cases h
 rw [if_neg c3] at h
 by_cases c4:0 < run b/\b.getD (run b) 0=0
 ·rw [if_pos c4] at h;cases h
 rw [if_neg c4] at h
 injection h with e1 e2
 injection e2 with e2 _
 subst e1;subst e2
 have hle:=zt_j b
 have hlt:run b < b.length:=by omega
 have hst:=ze_w b hlt
 have hget:b.getD (run b) 0=b[run b]:=by rw [List.getD_eq_getElem?_getD,List.getElem?_eq_getElem hlt,Option.getD_some]
 have hsn:b.take (run b+1)=b.take (run b) ++ [b[run b]]:=(List.take_append_getElem hlt).symm
 have hall:∀ y ∈ b.take (run b),128<=y.toNat:=by
  intro y hy
  rw [zq_x] at hy
  have:=zd_a b y hy
  simpa [big] using this
 refine⟨?_,by omega,by omega,by omega,?_⟩
 ·rw [hsn]
  refine (zm_z _ _ hall hst ?_).1.symm
  by_cases h0:run b=0
  ·left;rw [h0];rfl
  ·right;intro hx;exact c4 ⟨by omega,by rw [hget];exact hx⟩
 ·rw [hsn,ze_y]
  have h1:=zp_a (b.take (run b))
  have hlen:(b.take (run b)).length=run b:=by rw [List.length_take];omega
  rw [hlen] at h1 ⊢
  by_cases h9:run b=9
  ·have hb9:(b[run b]).toNat<=1:=by
    have:b.getD 9 0=b[run b]:=by rw [<-h9];exact hget
    rcases Nat.lt_or_ge 1 (b.getD 9 0).toNat with h|h
    ·exact absurd ⟨h9,h⟩ c3
    ·rw [this] at h;exact h
   have hz:(b[run b]).toNat % 128<=1:=by omega
   generalize (b[run b]).toNat % 128=z at *
   have h5:128 ^ run b=9223372036854775808:=by rw [h9]
   rw [h5] at h1 ⊢
   omega
  ·have h3:128 ^ (run b+1)<=128 ^ 9:=Nat.pow_le_pow_right (by omega) (by omega)
   have hz:(b[run b]).toNat % 128<=127:=by omega
   have h4:128 ^ run b * ((b[run b]).toNat % 128)<=128 ^ run b * 127:=Nat.mul_le_mul_left _ hz
   rw [Nat.pow_succ] at h3
   omega
def txt (s:List UInt8):List UInt8:=enc s.length ++ s
def decT (b:List UInt8):List UInt8 × Nat × Int :=
 if (dec b).2.2 ≠ 0 then ([],0,(dec b).2.2) else if 4096 < (dec b).1 then ([],0,3) else if b.length - (dec b).2.1 < (dec b).1 then ([],0,5) else
  ((b.drop (dec b).2.1).take (dec b).1,(dec b).2.1+(dec b).1,0)
theorem txt_decT (h:decT b=(s,n,0)):b.take n=txt s/\n<=b.length/\s.length<=4096/\1<=n/\n<=s.length+10:=by
 unfold decT at h
 by_cases c1:(dec b).2.2 ≠ 0
 ·rw [if_pos c1] at h
  injection h with _ h;injection h with _ h
  exact absurd h c1
 rw [if_neg c1] at h
 by_cases c2:4096 < (dec b).1
 ·rw [if_pos c2] at h;cases h
 rw [if_neg c2] at h
 by_cases c3:b.length - (dec b).2.1 < (dec b).1
 ·rw [if_pos c3] at h;cases h
 rw [if_neg c3] at h
 injection h with e1 h;injection h with e2 _
 have hd:dec b=((dec b).1,(dec b).2.1,0):=by
  have:(dec b).2.2=0:=by simpa using c1
  rw [<-this]
 obtain⟨h1,h2,h3,h4,h5⟩:=enc_dec hd
 have hl:s.length=(dec b).1:=by rw [<-e1,List.length_take,List.length_drop];omega
 refine⟨?_,by omega,by omega,by omega,by omega⟩
 unfold txt
 rw [hl,<-h1,<-e1,<-e2,List.take_add]
end Go.Proofs.YtmanejniepghlaaGreatDoor.Wire
namespace Go.Proofs.YtmanejniepghlaaGreatDoor.Host
variable {a b c x y:List UInt8}
def split:List UInt8->List (List UInt8)
|[]=>[[]]
|x :: l=>if x=46 then [] :: split l else (x :: (split l).headD []) :: (split l).tail
theorem zf_n:split []=[[]]:=rfl
theorem zb_k (l:List UInt8):split (46 :: l)=[] :: split l:=by rw [split,if_pos rfl]
theorem za_z {x:UInt8} (h:x ≠ 46) (l:List UInt8):split (x :: l)=(x :: (split l).headD []) :: (split l).tail:=by rw [split,if_neg h]
theorem split_ne (l:List UInt8):split l ≠ []:=by
 cases l with
|nil=>simp [split]
|cons x l=>unfold split;split <;> simp
theorem za_w:∀ p:List UInt8,(∀ x ∈ p,x ≠ 46)->split p=[p]
|[],_=>rfl
|x :: p,h=>by
  rw [za_z (h x List.mem_cons_self),za_w p (fun y hy=>h y (List.mem_cons_of_mem _ hy))];rfl
theorem zc_l:∀ a b:List UInt8,split (a ++ 46 :: b)=split a ++ split b
|[],b=>by rw [List.nil_append,zb_k,zf_n];rfl
|x :: a,b=>by
  have ih:=zc_l a b
  rw [List.cons_append]
  by_cases hx:x=46
  ·subst hx;rw [zb_k,zb_k,ih];rfl
  ·rw [za_z hx,za_z hx,ih]
   cases hs:split a with
  |nil=>exact absurd hs (split_ne a)
  |cons p ps=>rfl
theorem zf_m (p t:List UInt8) (h:∀ x ∈ p,x ≠ 46):split (p ++ 46 :: t)=p :: split t:=by rw [zc_l,za_w p h];rfl
theorem zc_r (p t:List UInt8) (h:∀ x ∈ t,x ≠ 46):split (p ++ 46 :: t)=split p ++ [t]:=by rw [zc_l,za_w t h]
theorem zb_q:∀ (l p:List UInt8),p ∈ split l->∀ x ∈ p,x ≠ 46
|[],p,hp,x,hx=>by
  rw [zf_n,List.mem_singleton] at hp;subst hp;cases hx
|y :: l,p,hp,x,hx=>by
  by_cases hy:y=46
  ·subst hy
   rw [zb_k] at hp
   rcases List.mem_cons.1 hp with e|e
   ·subst e;cases hx
   ·exact zb_q l p e x hx
  ·rw [za_z hy] at hp
   cases hs:split l with
  |nil=>exact absurd hs (split_ne l)
  |cons q qs =>
    rw [hs] at hp
    rcases List.mem_cons.1 hp with e|e
    ·subst e
     rcases List.mem_cons.1 hx with e|e
     ·subst e;exact hy
     ·exact zb_q l q (by rw [hs];exact List.mem_cons_self) x e
    ·exact zb_q l p (by rw [hs];exact List.mem_cons_of_mem _ e) x hx
theorem split_len:∀ l:List UInt8,(split l).length<=l.length+1
|[]=>by simp [split]
|x :: l=>by
  have ih:=split_len l
  have hp:=List.length_pos_iff.2 (split_ne l)
  by_cases hx:x=46
  ·subst hx;rw [zb_k];simp only [List.length_cons];omega
  ·rw [za_z hx];simp only [List.length_cons,List.length_tail];omega
theorem split_part_len:∀ (l p:List UInt8),p ∈ split l->p.length<=l.length
|[],p,hp=>by rw [zf_n,List.mem_singleton] at hp;subst hp;simp
|x :: l,p,hp=>by
  by_cases hx:x=46
  ·subst hx
   rw [zb_k] at hp
   rcases List.mem_cons.1 hp with e|e
   ·subst e;simp
   ·have:=split_part_len l p e;simp only [List.length_cons];omega
  ·rw [za_z hx] at hp
   cases hs:split l with
  |nil=>exact absurd hs (split_ne l)
  |cons q qs =>
    rw [hs] at hp
    rcases List.mem_cons.1 hp with e|e
    ·have:=split_part_len l q (by rw [hs];exact List.mem_cons_self)
     subst e;simp only [List.headD_cons,List.length_cons];omega
    ·have:=split_part_len l p (by rw [hs];exact List.mem_cons_of_mem _ e);simp only [List.length_cons];omega
def join:List (List UInt8)->List UInt8
|[]=>[]
|[p]=>p
|p :: q :: r=>p ++ 46 :: join (q :: r)
theorem zf_e (p:List UInt8) {r:List (List UInt8)} (h:r ≠ []):join (p :: r)=p ++ 46 :: join r:=by
 cases r with
|nil=>exact absurd rfl h
|cons q r=>rfl
theorem zb_f:∀ l:List UInt8,join (split l)=l
|[]=>rfl
|x :: l=>by
  have ih:=zb_f l
  by_cases hx:x=46
  ·subst hx;rw [zb_k,zf_e _ (split_ne l),ih];rfl
  ·rw [za_z hx]
   cases hs:split l with
  |nil=>exact absurd hs (split_ne l)
  |cons q qs =>
    rw [hs] at ih
    cases qs with
   |nil=>rw [<-ih];rfl
   |cons r rs=>rw [<-ih];rfl
theorem zo_u (h:split a=split b):a=b:=by rw [<-zb_f a,h,zb_f]
abbrev lb:=Op.bytesLess
theorem lb_irrefl:∀ x:List UInt8,lb x x=false
|[]=>rfl
|a :: x=>by
  have:=lb_irrefl x
  unfold lb at *
  unfold Op.bytesLess
  simp [this]
theorem zg_h (a:UInt8) (x:List UInt8) (b:UInt8) (y:List UInt8):lb (a :: x) (b :: y)=true ↔ a.toNat < b.toNat\/(a=b/\lb x y=true):=by
 unfold lb
 rw [Op.bytesLess]
 simp [UInt8.lt_iff_toNat_lt]
theorem zk_z:∀ x y:List UInt8,lb x y=true->lb y x=false
|_,[],h=>by simp [lb,Op.bytesLess] at h
|[],b :: y,_=>rfl
|a :: x,b :: y,h=>by
  rw [<-Bool.not_eq_true]
  intro h2
  rcases (zg_h a x b y).1 h with h1|⟨e,h1⟩
  ·rcases (zg_h b y a x).1 h2 with h3|⟨e,h3⟩
   ·omega
   ·subst e;omega
  ·subst e
   rcases (zg_h a y a x).1 h2 with h3|⟨_,h3⟩
   ·omega
   ·rw [zk_z x y h1] at h3;cases h3
theorem lb_total:∀ x y:List UInt8,lb x y=false->lb y x=false->x=y
|[],[],_,_=>rfl
|[],b :: y,h,_=>by cases h
|a :: x,[],_,h=>by cases h
|a :: x,b :: y,h,k=>by
  have h':=mt (zg_h a x b y).2 (by simp [h])
  have k':=mt (zg_h b y a x).2 (by simp [k])
  have e:a=b:=by
   apply UInt8.toNat_inj.1
   have:¬ a.toNat < b.toNat:=fun e=>h' (.inl e)
   have:¬ b.toNat < a.toNat:=fun e=>k' (.inl e)
   omega
  subst e
  rw [lb_total x y (by rw [<-Bool.not_eq_true];exact fun e=>h' (.inr ⟨rfl,e⟩)) (by rw [<-Bool.not_eq_true];exact fun e=>k' (.inr ⟨rfl,e⟩))]
theorem zl_a:∀ x y z:List UInt8,lb x y=true->lb y z=true->lb x z=true
|_,[],_,h,_=>by simp [lb,Op.bytesLess] at h
|_,_ :: _,[],_,h=>by simp [lb,Op.bytesLess] at h
|[],b :: y,c :: z,_,_=>rfl
|a :: x,b :: y,c :: z,h,k=>by
  rw [zg_h] at h k ⊢
  rcases h with h|⟨rfl,h⟩
  ·rcases k with k|⟨rfl,k⟩
   ·exact .inl (by omega)
   ·exact .inl h
  ·rcases k with k|⟨rfl,k⟩
   ·exact .inl k
   ·exact .inr ⟨rfl,zl_a x y z h k⟩
def cmpL:List (List UInt8)->List (List UInt8)->Int
|[],[]=>0
|[],_ :: _=>-1
|_ :: _,[]=>1
|x :: xs,y :: ys=>if lb x y then -1 else if lb y x then 1 else cmpL xs ys
def cmp (a b:List UInt8):Int:=cmpL (split a).reverse (split b).reverse
theorem zk_r:∀ xs ys,cmpL xs ys=-1\/cmpL xs ys=0\/cmpL xs ys=1
|[],[]=>.inr (.inl rfl)
|[],_ :: _=>.inl rfl
|_ :: _,[]=>.inr (.inr rfl)
|x :: xs,y :: ys=>by
  unfold cmpL
  split
  ·exact .inl rfl
  ·split
   ·exact .inr (.inr rfl)
   ·exact zk_r xs ys
theorem zh_w:∀ xs,cmpL xs xs=0
|[]=>rfl
|x :: xs=>by rw [cmpL,if_neg (by simp [lb_irrefl]),if_neg (by simp [lb_irrefl]),zh_w xs]
theorem zm_t:∀ xs ys,cmpL xs ys=0->xs=ys
|[],[],_=>rfl
|[],_ :: _,h=>by cases h
|_ :: _,[],h=>by cases h
|x :: xs,y :: ys,h=>by
  rw [cmpL] at h
  by_cases h1:lb x y=true
  ·rw [if_pos h1] at h;cases h
  ·rw [if_neg h1] at h
   by_cases h2:lb y x=true
   ·rw [if_pos h2] at h;cases h
   ·rw [if_neg h2] at h
    rw [lb_total x y (by simpa using h1) (by simpa using h2),zm_t xs ys h]
theorem zk_q:∀ xs ys,cmpL ys xs=- cmpL xs ys
|[],[]=>rfl
|[],_ :: _=>rfl
|_ :: _,[]=>rfl
|x :: xs,y :: ys=>by
  rw [cmpL,cmpL]
  by_cases h1:lb x y=true
  ·rw [if_pos h1,if_neg (by simp [zk_z x y h1]),if_pos h1];rfl
  ·by_cases h2:lb y x=true
   ·rw [if_pos h2,if_neg h1,if_pos h2]
   ·rw [if_neg h2,if_neg h1,if_neg h1,if_neg h2,zk_q xs ys]
theorem zg_c:∀ xs ys zs,cmpL xs ys<=0->cmpL ys zs<=0->cmpL xs zs<=0
|[],_,[],_,_=>by decide
|[],_,_ :: _,_,_=>by simp [cmpL]
|_ :: _,[],_,h,_=>by simp [cmpL] at h
|_ :: _,_ :: _,[],_,h=>by simp [cmpL] at h
|x :: xs,y :: ys,z :: zs,h,k=>by
  rw [cmpL] at h k ⊢
  by_cases h1:lb x y=true
  ·by_cases k1:lb y z=true
   ·rw [if_pos (zl_a x y z h1 k1)];decide
   ·rw [if_neg k1] at k
    by_cases k2:lb z y=true
    ·rw [if_pos k2] at k;exact absurd k (by decide)
    ·obtain rfl:=lb_total y z (by simpa using k1) (by simpa using k2)
     rw [if_pos h1];decide
  ·rw [if_neg h1] at h
   by_cases h2:lb y x=true
   ·rw [if_pos h2] at h;exact absurd h (by decide)
   ·rw [if_neg h2] at h
    obtain rfl:=lb_total x y (by simpa using h1) (by simpa using h2)
    by_cases k1:lb x z=true
    ·rw [if_pos k1];decide
    ·rw [if_neg k1] at k ⊢
     by_cases k2:lb z x=true
     ·rw [if_pos k2] at k;exact absurd k (by decide)
     ·rw [if_neg k2] at k ⊢
      exact zg_c xs ys zs h k
theorem zr_r (a b:List UInt8):cmp a b=-1\/cmp a b=0\/cmp a b=1:=zk_r _ _
theorem cmp_self (a:List UInt8):cmp a a=0:=zh_w _
theorem cmp_eq (h:cmp a b=0):a=b:=zo_u (List.reverse_inj.1 (zm_t _ _ h))
theorem cmp_neg (a b:List UInt8):cmp b a=- cmp a b:=zk_q _ _
theorem zm_v (h:cmp a b<=0) (k:cmp b c<=0):cmp a c<=0:=zg_c _ _ _ h k
theorem cmp_lt_trans (h:cmp a b < 0) (k:cmp b c < 0):cmp a c < 0:=by
 have h1:=zm_v (a:=a) (b:=b) (c:=c) (by omega) (by omega)
 rcases zr_r a c with e|e|e
 ·omega
 ·exfalso
  have:=cmp_eq e;subst this
  have:=cmp_neg a b;omega
 ·omega
theorem zk_s (hx:∀ c ∈ x,c ≠ 46) (hy:∀ c ∈ y,c ≠ 46):cmp (a ++ 46 :: x) (b ++ 46 :: y)=if lb x y then -1 else if lb y x then 1 else cmp a b:=by
 unfold cmp
 rw [zc_r a x hx,zc_r b y hy,List.reverse_append,List.reverse_append];rfl
theorem zk_t (hx:∀ c ∈ x,c ≠ 46) (hy:∀ c ∈ y,c ≠ 46):cmp x (b ++ 46 :: y)=if lb x y then -1 else if lb y x then 1 else -1:=by
 unfold cmp
 rw [za_w x hx,zc_r b y hy,List.reverse_append]
 cases h:(split b).reverse with
|nil=>exact absurd (List.reverse_eq_nil_iff.1 h) (split_ne b)
|cons _ _=>rfl
theorem zh_x (hx:∀ c ∈ x,c ≠ 46) (hy:∀ c ∈ y,c ≠ 46):cmp (a ++ 46 :: x) y=if lb x y then -1 else if lb y x then 1 else 1:=by
 unfold cmp
 rw [za_w y hy,zc_r a x hx,List.reverse_append]
 cases h:(split a).reverse with
|nil=>exact absurd (List.reverse_eq_nil_iff.1 h) (split_ne a)
|cons _ _=>rfl
theorem zk_u (hx:∀ c ∈ x,c ≠ 46) (hy:∀ c ∈ y,c ≠ 46):cmp x y=if lb x y then -1 else if lb y x then 1 else 0:=by
 unfold cmp
 rw [za_w x hx,za_w y hy];rfl
def decd (x:UInt8):Bool:=decide (48<=x.toNat) && decide (x.toNat<=57)
def hexd (x:UInt8):Bool:=decd x || (decide (97<=x.toNat) && decide (x.toNat<=102)) || (decide (65<=x.toNat) && decide (x.toNat<=70))
def pre (l:List UInt8):Bool:=decide (l.take 2=[48,120]) || decide (l.take 2=[48,88])
def parts (l:List UInt8):List (List UInt8):=if 1 < (split l).length/\(split l).getLastD []=[] then (split l).dropLast else split l
def last (l:List UInt8):List UInt8:=(parts l).getLastD []
def num (t:List UInt8):Bool:=if pre t then (t.drop 2).all hexd else t.all decd && !t.isEmpty
def numeric (l:List UInt8):Bool:=num (last l)
def name (l:List UInt8):Bool:=decide (l.length<=253) && (!numeric l && (split l).all Lab.valid)
theorem parts_ne (l:List UInt8):parts l ≠ []:=by
 unfold parts
 split
 ·rename_i h;intro e
  have:=congrArg List.length e
  rw [List.length_dropLast] at this;simp only [List.length_nil] at this;omega
 ·exact split_ne l
theorem parts_len (l:List UInt8):(parts l).length<=l.length+1:=by
 have:=split_len l
 unfold parts
 split
 ·rw [List.length_dropLast];omega
 ·exact this
theorem zn_u {l p:List UInt8} (h:p ∈ parts l):p ∈ split l:=by
 unfold parts at h
 split at h
 ·exact (List.dropLast_sublist _).subset h
 ·exact h
end Go.Proofs.YtmanejniepghlaaGreatDoor.Host
namespace Go.Proofs.YtmanejniepghlaaGreatDoor
open Go.RowKit
variable {w w':World} {l:List Int} {b base c k n:Nat} {v:Value} {a:Option Addr}
def iv (z:Int):Value:=.int .i64 z
def SlI (w:World) (a:Option Addr) (n c:Nat) (l:List Int):Prop :=
 l.length=n/\n<=c/\c<=maxLen/\(a=none->l=[]/\c=0) ∧
  ∀ x,a=some x->∀ i (h:i < l.length),x.spot=none/\x.block < w.heap.size/\w.cell? (x.block (x.off+i))=some (.int .i64 l[i])
theorem SlI.len (h:SlI w a n c l):l.length=n:=h.1
theorem SlI.le (h:SlI w a n c l):n<=9223372036854775807:=by
 have:=h.2.1;have:=h.2.2.1;unfold maxLen at *;omega
theorem SlI.nil (w:World):SlI w none 0 0 []:=⟨rfl,zN _,by unfold maxLen;omega,fun _=>⟨rfl,rfl⟩,fun x hx=>by cases hx⟩
theorem SlI.at (h:SlI w a n c l) (hk:k < n) :
 ∃ b o,a=some ((b:Nat) o)/\b < w.heap.size/\k < l.length/\w.cell? (b (o+k))=some (.int .i64 (l[k]?.getD 0)):=by
 obtain⟨hl,hn,hc,h0,h1⟩:=h
 cases a with
|none=>have:=(h0 rfl).1;subst this;simp at hl;omega
|some x =>
  obtain⟨b,o,sp⟩:=x
  have hk':k < l.length:=by omega
  obtain⟨hs,hb,hi⟩:=h1 _ rfl k hk'
  simp only at hs;subst hs
  refine⟨b,o,rfl,hb,hk',?_⟩
  rw [List.getElem?_eq_getElem hk']
  exact hi
theorem SlI.ext (h:SlI w a n c l) (e:Below w.heap.size w w'):SlI w' a n c l:=by
 obtain⟨hl,hn,hc,h0,h1⟩:=h
 refine⟨hl,hn,hc,h0,fun x hx i hi=>?_⟩
 obtain⟨hs,hb,hi⟩:=h1 x hx i hi
 exact⟨hs,Nat.lt_of_lt_of_le hb e.size,(e.cell (p:=(x.block (x.off+i))) hb).trans hi⟩
theorem SlI.take (h:SlI w a n c l) (hk:k<=n):SlI w a k c (l.take k):=by
 obtain⟨hl,hn,hc,h0,h1⟩:=h
 refine⟨by simp;omega,by omega,hc,fun e=>by simp [h0 e],fun x hx i hi=>?_⟩
 have hi':i < l.length:=by simp at hi;omega
 obtain⟨hs,hb,hcl⟩:=h1 x hx i hi'
 exact⟨hs,hb,by rw [hcl];simp⟩
theorem SlI.drop {o:Nat} (h:SlI w (b o) n c l) (hk:k<=n):SlI w (b (o+k)) (n - k) (c - k) (l.drop k):=by
 obtain⟨hl,hn,hc,h0,h1⟩:=h
 refine⟨by simp;omega,by omega,by omega,(fun e=>by cases e),fun x hx i hi=>?_⟩
 cases hx
 have hi':k+i < l.length:=by simp at hi;omega
 obtain⟨hs,hb,hcl⟩:=h1 _ rfl (k+i) hi'
 refine⟨rfl,hb,?_⟩
 simp only [Nat.add_assoc] at hcl ⊢
 rw [hcl];simp
theorem SlI.zero (w:World) (x:Addr) (c:Nat) (hc:c<=maxLen):SlI w (some x) 0 c []:=⟨rfl,Nat.zero_le _,hc,(fun h=>by cases h),fun y _ i hi=>by simp at hi⟩
def OwnI (base:Nat) (w:World) (v:Value) (l:List Int):Prop:=w.ownsRow base 3 1 v l.length (l.map iv)
theorem OwnI.sl (h:OwnI base w v l):∃ a c,v=.slice a l.length c/\SlI w a l.length c l:=by
 rcases id h.2 with⟨hv,hn⟩|⟨g,cap,cur,hv,hg,hc,hnc,hcm,hcs,htake⟩
 ·have hl:l=[]:=List.eq_nil_of_length_eq_zero hn
  subst hl
  exact⟨none,0,hv,SlI.nil w⟩
 ·refine⟨.some g,cap,hv,⟨rfl,hnc,hcm,(fun h=>by cases h),fun x hx i hi=>?_⟩⟩
  cases hx
  refine⟨rfl,(Array.getElem?_eq_some_iff.1 hc).1,?_⟩
  have:=World.ownsRow.cellAt (g:=g) (cap:=cap) (by rw [<-hv];exact h) i (by simpa using hi)
  simp only [Nat.zero_add]
  rw [this];simp [iv,hi]
theorem OwnI.lt (h:OwnI base w v l):∀ k,v.ownBlock=some k->base<=k/\k < w.heap.size:=World.ownsRow.lt h
theorem OwnI.mono {b':Nat} (h:OwnI b w v l) (hb:b'<=b):OwnI b' w v l:=by
 refine⟨h.1,?_⟩
 rcases h.2 with hn|⟨g,cap,cur,rfl,hbg,rest⟩
 ·exact .inl hn
 ·exact .inr ⟨g,cap,cur,rfl,Nat.le_trans hb hbg,rest⟩
theorem OwnI.alloc (h:OwnI base w v l) (o:Obj):OwnI base (w.alloc o) v l:=World.ownsRow.alloc h o
theorem OwnI.nil (base:Nat) (w:World):OwnI base w (.slice none 0 0) []:=World.ownsRow_nil w base _ _
theorem OwnI.empty (w:World) (hb:base<=w.heap.size):OwnI base (w.alloc (.cells #[] 3)) (.slice w.heap.size 0 0) [] :=
 World.ownsRow_made w #[] 0 hb (by unfold maxLen;omega) rfl
theorem infoInt:(Tryz.prog.info? 3).map (fun i=>(i.zero,i.size,i.bytes))=some (some (.int .i64 0),1,8):=by kernel_rfl
theorem SlI.one (w:World) (z:Int) (t:TypeId):SlI (w.alloc (.cells #[z] t)) w.heap.size 1 1 [z]:=by
 refine⟨rfl,zN _,by unfold maxLen;omega,(fun h=>by cases h),fun x hx i hi=>?_⟩
 cases hx
 refine⟨rfl,by simp,?_⟩
 obtain rfl:i=0:=by simpa using hi
 rw [World.cell?_alloc_at _ _ _ _ rfl];rfl
theorem zd_q {ops:Array Oper} {rest:List Oper} {o:Oper} {a:Act} {Q:Exit->Act->World->Prop} (hgd:o.guard=none) (s x:Operand)
 (ho:o.op=.call { callee:=.builtin .append,args:=#[s,x],argTypes:=#[81,81] })
 (base:Nat) (v:Value) (l:List Int) (hs:a.eval s=v) (hown:OwnI base w v l) (b:Option Addr) (m c:Nat) (l2:List Int) (hx:a.eval x=.slice b m c) (hsl:SlI w b m c l2)
 (hlen:l.length+m<=10000000000000) (hbase:base<=w.heap.size)
 (h:∀ v' w',OwnI base w' v' (l ++ l2)->w.grownBy w' v.ownBlock->wpList Tryz.prog ops Q rest (a.put o.dst v') w'):wpList Tryz.prog ops Q (o :: rest) a w:=by
 obtain⟨i0,hi,hz0,hz1,hz2⟩:=info_parts infoInt
 cases b with
|none =>
  obtain⟨rfl,rfl⟩:=hsl.2.2.2.1 rfl
  obtain rfl:m=0:=hsl.1.symm
  refine wpList_append_own_none hgd s x 81 ho base 3 i0 1 Tryz.underlying81 hi v l.length _ hs hown hx ?_
  exact h v w (by simpa using hown) ⟨rfl,rfl,rfl,zN _,fun _ _ _=>rfl⟩
|some ad =>
  have hl2:=hsl.len
  refine wpList_append_own w hgd s x 81 ho base 3 i0 (.int .i64 0) 1 8 Tryz.underlying81 hi hz0 hz1 hz2 rfl (by decide) v l.length _ hs hown ad m c (l2.map iv) hx (by simp [hl2]) ?_ ?_ (by unfold maxLen;omega) (by omega) hbase ?_
  ·intro j u hj
   have hjl:j < l2.length:=by
    have:=(List.getElem?_eq_some_iff.1 hj).1;simpa using this
   obtain⟨hsp,hb,this⟩:=hsl.2.2.2.2 ad rfl j hjl
   have hadd:ad.add j=(ad.block (ad.off+j)):=by
    obtain⟨b,o,sp⟩:=ad;simp only at hsp;subst hsp;unfold Addr.add;split <;> simp_all
   rw [hadd,this];rw [<-hj];simp [iv,hjl]
  ·intro u hu
   obtain⟨b,_,rfl⟩:=List.mem_map.1 hu;rfl
  ·intro v' w' h1 h2 _
   refine h v' w' ?_ h2
   unfold OwnI;rw [List.length_append,List.map_append,hl2];exact h1
theorem za_i (B:Nat) (w:World) (n:Nat):Below B w (w.drewN n):=(Below.refl B w).trans ⟨rfl,rfl,rfl,zN _,fun _ _=>rfl⟩
end Go.Proofs.YtmanejniepghlaaGreatDoor
namespace Go.Proofs.YtmanejniepghlaaGreatDoor.Puny
variable {n p:Int} {basic:Nat}
theorem encPt_lt {s:E} (h:p < n):encPt n basic s p={ s with delta:=s.delta+1 }:=if_pos h
theorem encPt_eq {s:E} (h:¬ p < n) (h2:p=n):encPt n basic s p=⟨s.out ++ numE s.delta s.bias,0,adapt s.delta (s.done+1) (s.done == basic),s.done+1⟩:=by unfold encPt;rw [if_neg h,if_pos h2]
theorem encPt_gt {s:E} (h:¬ p < n) (h2:¬ p=n):encPt n basic s p=s:=by unfold encPt;rw [if_neg h,if_neg h2]
theorem zi_c (m:Int) (basic:Nat) (l:List Int):∀ e:E,(l.foldl (encPt m basic) e).done=e.done+(l.filter fun p=>decide (p=m)).length:=by
 induction l with
|nil=>intro e;rfl
|cons p l ih =>
  intro e
  rw [List.foldl_cons,ih]
  by_cases h:p < m
  ·rw [encPt_lt h,List.filter_cons_of_neg (by simp;omega)]
  ·by_cases h2:p=m
   ·rw [encPt_eq h h2,List.filter_cons_of_pos (by simp [h2]),List.length_cons];simp only;omega
   ·rw [encPt_gt h h2,List.filter_cons_of_neg (by simp [h2])]
theorem zg_f (m:Int) (basic:Nat) (l:List Int):∀ e:E,0<=e.delta->0<=(l.foldl (encPt m basic) e).delta/\(l.foldl (encPt m basic) e).delta<=e.delta+l.length/\(m ∈ l->(l.foldl (encPt m basic) e).delta<=l.length):=by
 induction l with
|nil=>intro e h;exact⟨h,by simp,fun hm=>by cases hm⟩
|cons p l ih =>
  intro e h
  rw [List.foldl_cons]
  by_cases h1:p < m
  ·rw [encPt_lt h1]
   obtain⟨a1,a2,a3⟩:=ih { e with delta:=e.delta+1 } (by simp only;omega)
   simp only at a2
   refine⟨a1,by rw [List.length_cons];omega,fun hm=>?_⟩
   rcases List.mem_cons.1 hm with rfl|hm
   ·omega
   ·have:=a3 hm;rw [List.length_cons];omega
  ·by_cases h2:p=m
   ·rw [encPt_eq h1 h2]
    obtain⟨a1,a2,a3⟩:=ih ⟨e.out ++ numE e.delta e.bias,0,adapt e.delta (e.done+1) (e.done == basic),e.done+1⟩ (Int.le_refl _)
    simp only at a2
    exact⟨a1,by rw [List.length_cons];omega,fun _=>by rw [List.length_cons];omega⟩
   ·rw [encPt_gt h1 h2]
    obtain⟨a1,a2,a3⟩:=ih e h
    refine⟨a1,by rw [List.length_cons];omega,fun hm=>?_⟩
    rcases List.mem_cons.1 hm with e1|hm
    ·exact absurd e1.symm h2
    ·have:=a3 hm;rw [List.length_cons];omega
theorem zn_d (m:Int) (basic:Nat) (l:List Int):∀ e:E,0<=e.delta->e.delta+l.length<=400000000->0<=e.bias->e.bias<=1000 →
 0<=(l.foldl (encPt m basic) e).bias/\(l.foldl (encPt m basic) e).bias<=1000/\(l.foldl (encPt m basic) e).out.length+10 * e.done<=e.out.length+10 * (l.foldl (encPt m basic) e).done:=by
 induction l with
|nil=>intro e h0 h1 h2 h3;exact⟨h2,h3,Nat.le_refl _⟩
|cons p l ih =>
  intro e h0 h1 h2 h3
  rw [List.length_cons] at h1
  rw [List.foldl_cons]
  by_cases g1:p < m
  ·rw [encPt_lt g1]
   exact ih { e with delta:=e.delta+1 } (by simp only;omega) (by simp only;omega) h2 h3
  ·by_cases g2:p=m
   ·rw [encPt_eq g1 g2]
    obtain⟨b0,b1⟩:=adapt_bd e.delta (e.done+1) (e.done == basic) h0 (by omega) (by omega)
    obtain⟨a1,a2,a3⟩:=ih ⟨e.out ++ numE e.delta e.bias,0,adapt e.delta (e.done+1) (e.done == basic),e.done+1⟩ (Int.le_refl _) (by simp only;omega) b0 b1
    simp only [List.length_append] at a3
    have hdl:(numE e.delta e.bias).length<=10:=zj_k 9 (e.delta.toNat+1) e.delta 0 e.bias h0 (Int.lt_of_le_of_lt (show e.delta<=400000000 by omega) (by decide))
    exact⟨a1,a2,by omega⟩
   ·rw [encPt_gt g1 g2]
    exact ih e h0 (by omega) h2 h3
theorem zl_o (n m:Int) (hnm:n<=m) (l:List Int) (h:∀ p ∈ l,n<=p->m<=p):(below (m+1) l).length=(below n l).length+(l.filter fun p=>decide (p=m)).length:=by
 induction l with
|nil=>rfl
|cons p l ih =>
  have hp:=h p (List.mem_cons_self ..)
  have:=ih fun q hq=>h q (List.mem_cons_of_mem _ hq)
  unfold below at this ⊢
  by_cases h1:p < n
  ·rw [List.filter_cons_of_pos (by simp;omega),List.filter_cons_of_pos (by simp;omega),List.filter_cons_of_neg (by simp;omega),List.length_cons,List.length_cons];omega
  ·have h2:=hp (by omega)
   by_cases h3:p=m
   ·rw [List.filter_cons_of_pos (by simp;omega),List.filter_cons_of_neg (by simp;omega),List.filter_cons_of_pos (by simp;omega),List.length_cons,List.length_cons];omega
   ·rw [List.filter_cons_of_neg (by simp;omega),List.filter_cons_of_neg (by simp;omega),List.filter_cons_of_neg (by simp;omega)];exact this
structure HeadOk (ps:List Int) (n:Int) (e:E):Prop where
 done:e.done=(below n ps).length
 n1:128<=n
 n2:n<=1114112
 d0:0<=e.delta
 d1:e.delta<=300
 b0:0<=e.bias
 b1:e.bias<=1000
 o:e.out.length<=300+10 * e.done
def mid0 (n m:Int) (e:E):E:={ e with delta:=e.delta+(m - n) * (e.done+1) }
def midK (ps:List Int) (n m:Int) (basic:Nat) (e:E) (k:Nat):E:=(ps.take k).foldl (encPt m basic) (mid0 n m e)
def next (ps:List Int) (n m:Int) (basic:Nat) (e:E):E:={ midK ps n m basic e ps.length with delta:=(midK ps n m basic e ps.length).delta+1 }
theorem midK_succ (ps:List Int) (n m:Int) (basic:Nat) (e:E) (k:Nat) (hk:k < ps.length):midK ps n m basic e (k+1)=encPt m basic (midK ps n m basic e k) ps[k]:=by
 unfold midK
 rw [List.take_succ_eq_append_getElem hk,List.foldl_append];rfl
theorem encGo_next (ps:List Int) (n:Int) (basic:Nat) (e:E) (f:Nat) (h:e.done < ps.length):encGo ps basic (f+1) n e=encGo ps basic f (least n 1114112 ps+1) (next ps n (least n 1114112 ps) basic e):=by
 rw [encGo,if_pos h]
 unfold next midK
 rw [List.take_length];rfl
theorem encGo_end (ps:List Int) (n:Int) (basic:Nat) (e:E) (f:Nat) (h:¬ e.done < ps.length):encGo ps basic f n e=e.out:=by
 cases f with
|zero=>rfl
|succ f=>rw [encGo,if_neg h]
structure MidOk (e':E):Prop where
 d0:0<=e'.delta
 d1:e'.delta<=400000000
 b0:0<=e'.bias
 b1:e'.bias<=1000
 o:e'.out.length<=300+10 * e'.done
 k:e'.done<=600
theorem headOk_round (ps:List Int) (hps:∀ p ∈ ps,point p=true) (hl:ps.length<=256) (basic:Nat) (n:Int) (e:E) (h:HeadOk ps n e) (hlt:e.done < ps.length) :
 let m:=least n 1114112 ps
 n<=m/\m<=1114111/\0<=(m - n) * (e.done+1)/\(m - n) * (e.done+1)<=300000000/\(∀ k,k<=ps.length->MidOk (midK ps n m basic e k))/\HeadOk ps (m+1) (next ps n m basic e)/\e.done < (next ps n m basic e).done:=by
 intro m
 obtain⟨l1,l2,l3⟩:=ze_a n 1114112 ps (zg_b n ps (by rw [<-h.done];exact hlt)) (fun p hp=>by have:=(point_iff p).1 (hps p hp);omega)
 have hm:=(point_iff m).1 (hps m l1)
 have hn1:=h.n1
 have hp0:0<=(m - n) * ((e.done:Int)+1):=Int.mul_nonneg (by omega) (by omega)
 have hp1:(m - n) * ((e.done:Int)+1)<=1114111 * 257:=Int.mul_le_mul (by omega) (by omega) (by omega) (by omega)
 have hd0:=h.d0
 have hd1:=h.d1
 have hcount:∀ k,((ps.take k).filter fun p=>decide (p=m)).length<=256:=fun k=>Nat.le_trans (List.length_filter_le _ _) (by rw [List.length_take];omega)
 have hmid:∀ k,k<=ps.length->MidOk (midK ps n m basic e k):=by
  intro k hk
  have a:=zg_f m basic (ps.take k) (mid0 n m e) (by unfold mid0;simp only;omega)
  have b:=zn_d m basic (ps.take k) (mid0 n m e) (by unfold mid0;simp only;omega) (by unfold mid0;simp only [List.length_take];omega) (by unfold mid0;exact h.b0) (by unfold mid0;exact h.b1)
  have c:=zi_c m basic (ps.take k) (mid0 n m e)
  have:=hcount k
  have ho:=h.o
  unfold midK
  generalize (ps.take k).foldl (encPt m basic) (mid0 n m e)=e' at *
  unfold mid0 at a b c
  simp only [List.length_take] at a b c
  exact⟨a.1,by omega,b.1,b.2.1,by omega,by omega⟩
 have hlast:=hmid ps.length (Nat.le_refl _)
 have c:=zi_c m basic ps (mid0 n m e)
 have a:=zg_f m basic ps (mid0 n m e) (by unfold mid0;simp only;omega)
 have hb:=zl_o n m l2 ps l3
 have hme:midK ps n m basic e ps.length=ps.foldl (encPt m basic) (mid0 n m e):=by unfold midK;rw [List.take_length]
 have hpos:0 < (ps.filter fun p=>decide (p=m)).length:=List.length_pos_iff.2 (List.ne_nil_of_mem (List.mem_filter.2 ⟨l1,decide_eq_true rfl⟩))
 refine⟨l2,hm.2.1,hp0,by omega,hmid,?_,?_⟩
 ·have hn:=a.2.2 l1
  unfold next
  rw [<-hme] at c hn
  have hm0:(mid0 n m e).done=e.done:=rfl
  have hd:=h.done
  exact⟨by simp only;omega,by omega,by omega,by simp only;have:=hlast.d0;omega,by simp only;omega,hlast.b0,hlast.b1,hlast.o⟩
 ·unfold next
  rw [<-hme] at c
  have hm0:(mid0 n m e).done=e.done:=rfl
  simp only;omega
theorem headOk_start (ps:List Int) (hps:∀ p ∈ ps,point p=true):HeadOk ps 128 ⟨front ps,0,72,(basics ps).length⟩:=by
 have hb:(basics ps).length=(below 128 ps).length:=by rw [<-zh_u ps hps,List.length_map]
 refine⟨hb,by omega,by omega,by simp,by simp,by simp,by simp,?_⟩
 unfold front
 simp only [List.length_append]
 split <;> simp <;> omega
theorem least_snoc (n M:Int) (l:List Int) (p:Int):least n M (l ++ [p])=if n<=p then min (least n M l) p else least n M l:=by
 unfold least
 rw [List.foldl_append];rfl
theorem basics_snoc (l:List Int) (p:Int):basics (l ++ [p])=if p < 128 then basics l ++ [UInt8.ofNat p.toNat] else basics l:=by
 unfold basics
 rw [List.filter_append]
 by_cases h:p < 128
 ·rw [if_pos h,List.filter_cons_of_pos (by simp [h])];simp
 ·rw [if_neg h,List.filter_cons_of_neg (by simp [h])];simp
theorem basics_le (l:List Int):(basics l).length<=l.length:=by unfold basics;rw [List.length_map];exact List.length_filter_le _ _
theorem least_big (ps:List Int) (hps:∀ p ∈ ps,point p=true) (n:Int) (h:(below n ps).length < ps.length):least n 1073741824 ps=least n 1114112 ps :=
 zn_m n _ _ ps (zg_b n ps h) (fun p hp=>by have:=(point_iff p).1 (hps p hp);omega) (fun p hp=>by have:=(point_iff p).1 (hps p hp);omega)
end Go.Proofs.YtmanejniepghlaaGreatDoor.Puny
namespace Go.Proofs.YtmanejniepghlaaGreatDoor.Puny
theorem zl_q (l:List UInt8):∀ (i w:Int) (k:Nat) (bias:Int) (e:Int),decNum l i w k bias=.error e->e ≠ 0:=by
 induction l with
|nil=>intro i w k bias e h;simp [decNum] at h;omega
|cons b l ih =>
  intro i w k bias e h
  rw [decNum] at h
  split at h
  ·cases h;decide
  split at h
  ·cases h;decide
  split at h
  ·cases h
  split at h
  ·cases h;decide
  exact ih _ _ _ _ _ h
theorem zj_j (l:List UInt8) (s:D) (e:Int) (h:decStep l s=.error e):e ≠ 0:=by
 unfold decStep at h
 cases hd:decNum l s.i 1 0 s.bias with
|error e'=>rw [hd] at h;cases h;exact zl_q _ _ _ _ _ _ hd
|ok x =>
  rw [hd] at h
  simp only at h
  split at h
  ·cases h;decide
  split at h
  ·cases h;decide
  cases h
theorem zm_w (f:Nat):∀ (l:List UInt8) (s:D) (e:Int),decGo f l s=.error e->e ≠ 0:=by
 induction f with
|zero=>intro l s e h;cases h
|succ f ih =>
  intro l s e h
  rw [decGo] at h
  split at h
  ·cases h
  cases hd:decStep l s with
 |error e'=>rw [hd] at h;cases h;exact zj_j _ _ _ hd
 |ok x=>rw [hd] at h;exact ih _ _ _ h
theorem decode_err (l:List UInt8) (e:Int) (h:decode l=.error e):e ≠ 0:=by
 unfold decode at h
 split at h
 ·cases h;decide
 split at h
 ·cases h;decide
 split at h
 ·cases h;decide
 exact zm_w _ _ _ _ h
end Go.Proofs.YtmanejniepghlaaGreatDoor.Puny
namespace Go.Proofs.YtmanejniepghlaaGreatDoor.Lab
open Go.Lib
theorem prefix_take (l:List UInt8):pre.isPrefixOf l=(decide (4<=l.length) && (l.take 4 == pre)):=by
 rw [Bool.eq_iff_iff,List.isPrefixOf_iff_prefix,List.prefix_iff_eq_take]
 simp only [Bool.and_eq_true,decide_eq_true_eq,beq_iff_eq,show pre.length=4 from rfl]
 constructor
 ·intro h
  have:=congrArg List.length h
  rw [List.length_take] at this
  simp [pre] at this
  exact⟨by omega,h.symm⟩
 ·rintro⟨-,h⟩;exact h.symm
end Go.Proofs.YtmanejniepghlaaGreatDoor.Lab
namespace Go.Proofs.YtmanejniepghlaaGreatDoor
section
open Go.RowKit
def SeqIxS (F:Fence) (n:Nat) (P:Program) (g:Nat) (lb:Array Value) (enc:Nat->Array Value) (Kp:World->World->Prop) (N:Nat) (Bs:Nat) (w:World):Prop :=
 ∀ (l:Nat) (J Jx:Nat->World->Prop) (W:World),Below w.heap.size w W->(∀ k W1 v,J k W1->J k (W1.setCell Bs v)) →
  (∀ k W1,J k W1->k < N->YieldAt F (n - 1) P l (enc k) W1 fun e W'=>(e=.returned (.bool true)/\J (k+1) W'/\Kp W1 W')\/(e=.returned (.bool false)/\Jx (k+1) W')) →
  J 0 W->CallsIn F n P g (#[.func (.yield l) #[] #[]] ++ lb) W fun e W'=>(∃ v,e=.returned v)/\(J N W'\/∃ k,k<=N/\Jx k W')
def RoundEndsS (B:Nat) (Kp:World->World->Prop) (I:Nat->World->Prop) (Ix:Code->Nat->World->Prop) (k:Nat) (W:World):Exit->Act->World->Prop
|.normal,_,W'=>KeepsFrom B W W'/\Kp W W'/\I k W'
|.ret,_,W'=>KeepsFrom B W W'/\Ix .ret k W'
|.exit id,_,W'=>KeepsFrom B W W'/\Ix (.exit id) k W'
|_,_,_=>False
def StableS (B:Nat) (I:Nat->World->Prop):Prop:=∀ k W l o o',I k W->B<=l->W.heap[l]?=some o->o.isCells=false->I k (W.putObj l o')
theorem zh_q {F:Fence} {n:Nat} {P:Program} {g:Operand} {ps:Array Tmp} {assign body:Code} {Q:Exit->Act->World->Prop} {a:Act} {w:World}
 (hro:F.round=none) (h1:1<=n) {gf:Nat} {lb:Array Value} (hg:a.eval g=.func (.func gf) #[] lb) (hFg:F.fn gf) (eg:∀ args w,(callFunc gf args).run P w=.ok (.enter gf args) w)
 {enc:Nat->Array Value} {Kp:World->World->Prop} {N:Nat} {w0:World} {Bs:Nat} (hBs:Bs < w.heap.size) (hseq:SeqIxS F (n - 1) P gf lb enc Kp N Bs w0)
 (hKt:∀ {A B C:World},Kp A B->Kp B C->Kp A C) (hKb:∀ (W:World) (l:Nat) (o o':Obj),w.heap.size<=l->W.heap[l]?=some o->o.isCells=false->Kp W (W.putObj l o')) (hb0:Below w0.heap.size w0 w) (hps:∀ k,(enc k).size=ps.size)
 (I:Nat->World->Prop) (Ix:Code->Nat->World->Prop) (hI:StableS w.heap.size I) (hIx:∀ c,StableS w.heap.size (Ix c)) (hIs:∀ k W v,I k W->I k (W.setCell Bs v)) (h0:∀ o o',I 0 ((w.alloc o).alloc o')) (I':Nat->Act->World->Prop) (hI':∀ a1,StableS w.heap.size (fun k W=>I' k a1 W))
 (hassign:∀ (l:Nat) (k:Nat) (W:World),I k W->k < N →
  assign.wpIn (F.inRound l) (n - 1 - 1) P (Exit.then (fun a1 W1=>KeepsFrom w.heap.size W W1/\Kp W W1/\I' k a1 W1) (fun _ _ _=>False)) { tmps:=(ps.zip (enc k)).foldl (fun t (p,v)=>t.setIfInBounds p v) a.tmps,defers:=[] } W)
 (hbody:∀ (l:Nat) (k:Nat) (a1:Act) (W:World),I' k a1 W->k < N->body.wpIn (F.inRound l) (n - 1 - 1) P (RoundEndsS w.heap.size Kp I Ix (k+1) W) a1 W)
 (hdone:∀ (D:Nat) (W:World),w.heap.size<=D->I N W->W.heap[D]?=some (.deferred (some []))->Q .normal { a with defers:={ target:=.collected D,args:=#[] } :: a.defers } W)
 (hstop:∀ (D:Nat) (c:Code) (k:Nat) (W:World),w.heap.size<=D->k<=N->Ix c k W->W.heap[D]?=some (.deferred (some []))->c.wpIn F n P Q { a with defers:={ target:=.collected D,args:=#[] } :: a.defers } W) :
 (Code.rangeFunc g ps assign body).wpIn F n P Q a w:=by
 refine wpIn_rangeFunc (fun fn hfn=>?_)
 rw [hro]
 obtain⟨R,hR⟩:∃ R:LoopState->Option Code->Loop,R=fun st pe=>{ state:=st,pending:=pe,fn,tmps:=a.tmps,params:=ps,assign,body,defers:=w.heap.size }:=⟨_,rfl⟩
 have e0:∀ st pe,(R st pe).state=st/\(R st pe).params=ps/\(R st pe).pending=pe:=by intro st pe;rw [hR];exact⟨rfl,rfl,rfl⟩
 have hW1a:∀ W1,W1=(w.alloc (.deferred (some []))).alloc (.loop (R .ready none))->W1.heap[w.heap.size+1]?=some (.loop (R .ready none))/\W1.heap[w.heap.size]?=some (.deferred (some []))/\Below w0.heap.size w0 W1/\I 0 W1:=by
  rintro W1 rfl
  refine⟨za_b _ _ _ (by simp),(za_c _ _ _ (by simp)).trans (za_b _ _ _ rfl),?_,h0 _ _⟩
  exact (hb0.alloc hb0.size _).alloc (by have:=hb0.size;simp;omega) _
 obtain⟨hl1,hd1,hb1,hi1⟩:=hW1a _ rfl
 refine⟨w.heap.size+1,[{ target:=.collected w.heap.size,args:=#[] }],(w.alloc (.deferred (some []))).alloc (.loop (R .ready none)),{ target:=.fn (.func gf) lb,args:=#[.func (.yield (w.heap.size+1)) #[] #[]] },(w.alloc (.deferred (some []))).alloc (.loop (R .ready none)),gf,
  #[.func (.yield (w.heap.size+1)) #[] #[]] ++ lb,(w.alloc (.deferred (some []))).alloc (.loop (R .ready none)),?_,?_,?_,?_,fun _=>h1,?_⟩
 ·rw [hR];exact run_enterLoop_outer _ _ _ _ _
 ·simp only [resolve,hg];simp [go_sem]
 ·intro f' hf';simp [Target.leads] at hf';subst hf';exact hFg
 ·simp [invoke,go_sem,eg]
 ·refine (hseq (w.heap.size+1)
   (fun k W=>I k W/\W.heap[w.heap.size+1]?=some (.loop (R .ready none))/\W.heap[w.heap.size]?=some (.deferred (some [])))
   (fun k W=>∃ c,Ix c k W/\W.heap[w.heap.size+1]?=some (.loop (R .done (some c)))/\W.heap[w.heap.size]?=some (.deferred (some [])))
   _ hb1 (fun k W v h=>⟨hIs k W v h.1,(heap_setCell_other _ _ _ _ (by simp only;omega)).trans h.2.1,(heap_setCell_other _ _ _ _ (by simp only;omega)).trans h.2.2⟩) ?_ ⟨hi1,hl1,hd1⟩).mono ?_
  ·
   rintro k W ⟨hi,hl,hd⟩ hk
   have hy:=run_yield (P:=P) (args:=enc k) hl (by rw [(e0 _ _).2.1];exact hps k)
   have hyR:(Instr.yield (w.heap.size+1) (enc k)).run P W=.ok (.round (w.heap.size+1) fn ((ps.zip (enc k)).foldl (fun t (p,v)=>t.setIfInBounds p v) a.tmps) assign body) W:=by rw [hR] at hy;exact hy
   refine⟨fn,_,assign,body,hyR,roundIn_of_wpIn hfn (wpIn_mono (hassign _ k W hi hk) ?_)⟩
   rintro e1 a1 W0 hp0
   cases e1 with
  |ret=>exact hp0.elim
  |exit id=>exact hp0.elim
  |goto t=>exact hp0.elim
  |panic ch=>exact hp0.elim
  |outgrown=>exact hp0.elim
  |normal =>
   obtain⟨g1,g2,g3⟩:=(show KeepsFrom w.heap.size W W0/\Kp W W0/\I' k a1 W0 from hp0)
   have hl0:=g1.same _ _ (by omega) hl rfl
   have hd0:=g1.same _ _ (zN _) hd rfl
   refine⟨_,run_beginRound hl0 (e0 _ _).1,?_⟩
   obtain⟨b,hb⟩:∃ b:Loop,b={ R .ready none with state:=.busy }:=⟨_,rfl⟩
   rw [<-hb]
   have hl2:(W0.putObj (w.heap.size+1) (.loop b)).heap[w.heap.size+1]?=some (.loop b):=World.putObj_heap_same (za_a hl0)
   have hd2:(W0.putObj (w.heap.size+1) (.loop b)).heap[w.heap.size]?=some (.deferred (some [])):=(World.putObj_heap_other (by omega)).trans hd0
   have hk2:Kp W (W0.putObj (w.heap.size+1) (.loop b)):=hKt g2 (hKb _ _ _ _ (by omega) hl0 rfl)
   have ends:∀ (j:Option Code) (W3:World),KeepsFrom w.heap.size (W0.putObj (w.heap.size+1) (.loop b)) W3 →
    ∃ W4,W4=W3.putObj (w.heap.size+1) (.loop (R (if j.isNone then .ready else .done) j))/\(Instr.endRound (w.heap.size+1) j).run P W3=.ok (.bool j.isNone) W4/\W3.heap[w.heap.size+1]?=some (.loop b) ∧
     W4.heap[w.heap.size+1]?=some (.loop (R (if j.isNone then .ready else .done) j))/\W4.heap[w.heap.size]?=some (.deferred (some [])):=by
    intro j W3 hk3
    have hl3:=hk3.same _ _ (by omega) hl2 rfl
    refine⟨_,rfl,?_,hl3,World.putObj_heap_same (za_a hl3),(World.putObj_heap_other (by omega)).trans (hk3.same _ _ (zN _) hd2 rfl)⟩
    have:=run_endRound (P:=P) j hl3
    rw [hb,hR] at this;rw [hR];exact this
   refine wpIn_mono (hbody _ k a1 _ (hI' a1 _ _ _ _ _ g3 (by omega) hl0 rfl) hk) ?_
   rintro e a3 W3 hp
   cases e with
  |normal =>
    obtain⟨h3,h4,h5⟩:=hp
    obtain⟨W4,rfl,hr,hl3,hl4,hd4⟩:=ends none W3 h3
    exact⟨_,_,hr,.inl ⟨rfl,⟨hI _ _ _ _ _ h5 (by omega) hl3 rfl,hl4,hd4⟩,hKt (hKt hk2 h4) (hKb _ _ _ _ (by omega) hl3 rfl)⟩⟩
  |ret =>
    obtain⟨h3,h5⟩:=hp
    obtain⟨W4,rfl,hr,hl3,hl4,hd4⟩:=ends (some .ret) W3 h3
    exact⟨_,_,hr,.inr ⟨rfl,.ret,hIx _ _ _ _ _ _ h5 (by omega) hl3 rfl,hl4,hd4⟩⟩
  |exit id =>
    obtain⟨h3,h5⟩:=hp
    obtain⟨W4,rfl,hr,hl3,hl4,hd4⟩:=ends (some (.exit id)) W3 h3
    exact⟨_,_,hr,.inr ⟨rfl,.exit id,hIx _ _ _ _ _ _ h5 (by omega) hl3 rfl,hl4,hd4⟩⟩
  |goto t=>exact hp.elim
  |panic ch=>exact hp.elim
  |outgrown=>exact hp.elim
  ·
   rintro e W2 ⟨⟨v,rfl⟩,(⟨hi,hl,hd⟩|⟨k,hk,c,hi,hl,hd⟩)⟩
   ·have hr:=run_endLoop (P:=P) hl (by rw [(e0 _ _).1];simp)
    rw [(e0 _ _).2.2] at hr
    exact⟨none,_,hr,hdone _ _ (zN _) (hI _ _ _ _ _ hi (by omega) hl rfl) ((World.putObj_heap_other (by omega)).trans hd)⟩
   ·have hr:=run_endLoop (P:=P) hl (by rw [(e0 _ _).1];simp)
    rw [(e0 _ _).2.2] at hr
    exact⟨some c,_,hr,hstop _ c k _ (zN _) hk (hIx _ _ _ _ _ _ hi (by omega) hl rfl) ((World.putObj_heap_other (by omega)).trans hd)⟩
end
section
structure Pin where
 h:List UInt8
 s:Bool
 x:Int
 deriving DecidableEq
namespace Pin
def none:Pin:=⟨[],false,0⟩
def valid (p:Pin):Bool:=Host.name p.h && (decide (0<=p.x) && decide (p.x<=1099511627776))
def enc (p:Pin):List UInt8:=Wire.txt p.h ++ (Wire.enc (if p.s then 1 else 0) ++ Wire.enc p.x.toNat)
def decR (t:List UInt8) (n:Nat) (b:List UInt8):Pin × Nat × Int :=
 if (Wire.dec (b.drop n)).2.2 ≠ 0 then (none,0,(Wire.dec (b.drop n)).2.2) else if 1 < (Wire.dec (b.drop n)).1 then (none,0,6) else
  if (Wire.dec (b.drop (n+(Wire.dec (b.drop n)).2.1))).2.2 ≠ 0 then (none,0,(Wire.dec (b.drop (n+(Wire.dec (b.drop n)).2.1))).2.2) else
   if 1099511627776 < (Wire.dec (b.drop (n+(Wire.dec (b.drop n)).2.1))).1 then (none,0,2) else if Host.name t=false then (none,0,14) else
    (⟨t,decide ((Wire.dec (b.drop n)).1=1),((Wire.dec (b.drop (n+(Wire.dec (b.drop n)).2.1))).1:Int)⟩,n+(Wire.dec (b.drop n)).2.1+(Wire.dec (b.drop (n+(Wire.dec (b.drop n)).2.1))).2.1,0)
def dec (b:List UInt8):Pin × Nat × Int :=
 if (Wire.decT b).2.2 ≠ 0 then (none,0,(Wire.decT b).2.2) else decR (Wire.decT b).1 (Wire.decT b).2.1 b
theorem valid_iff (p:Pin):valid p=true ↔ Host.name p.h=true/\0<=p.x/\p.x<=1099511627776:=by
 unfold valid;simp
theorem name_len {l:List UInt8} (h:Host.name l=true):l.length<=253:=by
 unfold Host.name at h;rw [Bool.and_eq_true] at h;simpa using h.1
theorem enc_len {p:Pin} (h:valid p=true):(enc p).length<=283/\4<=(enc p).length:=by
 obtain⟨h1,h2,h3⟩:=(valid_iff p).1 h
 have h4:=name_len h1
 have a1:=Wire.enc_len (v:=p.h.length) (by omega)
 have a2:=Wire.enc_len (v:=if p.s then 1 else 0) (by split <;> omega)
 have a3:=Wire.enc_len (v:=p.x.toNat) (by omega)
 have a4:1<=p.h.length:=by
  rcases Nat.eq_zero_or_pos p.h.length with e|e
  ·exfalso
   have e0:=List.eq_nil_of_length_eq_zero e
   rw [e0] at h1
   have:Host.name []=false:=by decide +kernel
   rw [this] at h1;cases h1
  ·exact e
 unfold enc Wire.txt
 simp only [List.length_append]
 have a5:(Wire.enc p.h.length).length<=10:=a1.2
 omega
theorem enc_dec {b:List UInt8} {p:Pin} {n:Nat} (h:dec b=(p,n,0)):valid p=true/\b.take n=enc p/\n<=b.length:=by
 unfold dec at h
 by_cases c1:(Wire.decT b).2.2 ≠ 0
 ·rw [if_pos c1] at h;injection h with _ h;injection h with _ h;exact absurd h c1
 rw [if_neg c1] at h
 obtain⟨t,n1,z1,e1⟩:∃ t n1 z1,Wire.decT b=(t,n1,z1):=⟨_,_,_,rfl⟩
 rw [e1] at h c1
 have c1:z1=0:=by simpa using c1
 subst c1
 obtain⟨f1,f2,f3,f4,f5⟩:=Wire.txt_decT e1
 change decR t n1 b=_ at h
 unfold decR at h
 obtain⟨v2,n2,z2,e2⟩:∃ v2 n2 z2,Wire.dec (b.drop n1)=(v2,n2,z2):=⟨_,_,_,rfl⟩
 rw [e2] at h
 dsimp only at h
 by_cases c2:z2 ≠ 0
 ·rw [if_pos c2] at h;injection h with _ h;injection h with _ h;exact absurd h c2
 rw [if_neg c2] at h
 obtain rfl:z2=0:=by simpa using c2
 obtain⟨g1,g2,g3,g4,g5⟩:=Wire.enc_dec e2
 by_cases c3:1 < v2
 ·rw [if_pos c3] at h;cases h
 rw [if_neg c3] at h
 obtain⟨v3,n3,z3,e3⟩:∃ v3 n3 z3,Wire.dec (b.drop (n1+n2))=(v3,n3,z3):=⟨_,_,_,rfl⟩
 rw [e3] at h
 dsimp only at h
 by_cases c4:z3 ≠ 0
 ·rw [if_pos c4] at h;injection h with _ h;injection h with _ h;exact absurd h c4
 rw [if_neg c4] at h
 obtain rfl:z3=0:=by simpa using c4
 obtain⟨k1,k2,k3,k4,k5⟩:=Wire.enc_dec e3
 by_cases c5:1099511627776 < v3
 ·rw [if_pos c5] at h;cases h
 rw [if_neg c5] at h
 by_cases c6:Host.name t=false
 ·rw [if_pos c6] at h;cases h
 rw [if_neg c6] at h
 injection h with hp h
 injection h with hn _
 subst hp
 subst hn
 have hv2:(if decide (v2=1)=true then 1 else 0)=v2:=by
  rcases Nat.eq_zero_or_pos v2 with e|e
  ·subst e;rfl
  ·obtain rfl:v2=1:=by omega
   rfl
 rw [List.length_drop] at g2 k2
 refine⟨(valid_iff _).2 ⟨by simpa using c6,by simp,by simp only;omega⟩,?_,by omega⟩
 rw [Nat.add_assoc,List.take_add,f1,List.take_add,g1,List.drop_drop,k1]
 unfold enc
 simp only [hv2,Int.toNat_natCast]
end Pin
end
section
open Go.RowKit
variable {w w' w1 w2:World} {F F' F2 G:Nat->Prop} {B c g n:Nat} {a:Option Addr} {l:List (Int × Int)} {x:Addr}
structure Upd (F:Nat->Prop) (w:World) (F':Nat->Prop) (w':World):Prop where
 os:w'.os=w.os
 tape:w'.tape=w.tape
 output:w'.output=w.output
 size:w.heap.size<=w'.heap.size
 block:∀ k,k < w.heap.size->¬ F k->w'.heap[k]?=w.heap[k]?
 new:∀ k,F' k->F k\/w.heap.size<=k
theorem Upd.refl (F:Nat->Prop) (w:World):Upd F w F w:=⟨rfl,rfl,rfl,zN _,fun _ _ _=>rfl,fun _ h=>.inl h⟩
theorem Upd.trans {F1:Nat->Prop} (h:Upd F w F1 w1) (k:Upd F1 w1 F2 w2):Upd F w F2 w2 where
 os:=k.os.trans h.os
 tape:=k.tape.trans h.tape
 output:=k.output.trans h.output
 size:=Nat.le_trans h.size k.size
 block i hi hF:=(k.block i (Nat.lt_of_lt_of_le hi h.size) (fun e=>by rcases h.new i e with e1|e1;exact hF e1;omega)).trans (h.block i hi hF)
 new i hi:=by
  rcases k.new i hi with e|e
  ·exact h.new i e
  ·exact .inr (Nat.le_trans h.size e)
theorem Upd.of_ext (h:Below w.heap.size w w'):Upd F w F w':=⟨h.os,h.tape,h.output,h.size,fun k hk _=>h.block k hk,fun _ h=>.inl h⟩
theorem Upd.ext (h:Upd F w F' w1) (k:Below w1.heap.size w1 w2):Upd F w F' w2:=h.trans (Upd.of_ext k)
theorem Upd.drew (h:Upd F w F' w1):Upd F w F' w1.drew:=⟨h.os,h.tape,h.output,h.size,h.block,h.new⟩
theorem Upd.drewN (h:Upd F w F' w1) (n:Nat):Upd F w F' (w1.drewN n):=⟨h.os,h.tape,h.output,h.size,h.block,h.new⟩
theorem Upd.alloc (h:Upd F w F' w1) (o:Obj):Upd F w F' (w1.alloc o):=h.ext ((Below.refl _ _).alloc (zN _) o)
theorem Upd.setCell (h:Upd F w F' w1) (hg:F g\/w.heap.size<=g) (o:Nat) (v:Value):Upd F w F' (w1.setCell (g o) v) where
 os:=h.os
 tape:=h.tape
 output:=h.output
 size:=by simpa using h.size
 block k hk hF:=(heap_setCell_other _ _ _ _ (fun e=>by subst e;rcases hg with e1|e1;exact hF e1;omega)).trans (h.block k hk hF)
 new:=h.new
theorem Upd.but (h:Upd F w F' w1) (hg:F g\/w.heap.size<=g) (k:But g w1 w2):Upd F w F' w2 where
 os:=k.os.trans h.os
 tape:=k.tape.trans h.tape
 output:=k.output.trans h.output
 size:=Nat.le_trans h.size k.size
 block i hi hF:=(k.block i (Nat.lt_of_lt_of_le hi h.size) (fun e=>by subst e;rcases hg with e1|e1;exact hF e1;omega)).trans (h.block i hi hF)
 new:=h.new
theorem Upd.grown {row:Option Nat} (h:Upd F w F' w1) (hg:∀ g,row=some g->F g\/w.heap.size<=g) (k:w1.grownBy w2 row):Upd F w F' w2 where
 os:=k.os.trans h.os
 tape:=k.tape.trans h.tape
 output:=k.output.trans h.output
 size:=Nat.le_trans h.size k.size
 block i hi hF:=(k.block i (Nat.lt_of_lt_of_le hi h.size) (fun e=>by rcases hg i e.symm with e1|e1;exact hF e1;omega)).trans (h.block i hi hF)
 new:=h.new
theorem Upd.grow (h:Upd F w F' w1) (h2:∀ k,F2 k->F k\/w.heap.size<=k):Upd F w F2 w1:=⟨h.os,h.tape,h.output,h.size,h.block,h2⟩
theorem Upd.below {w0:World} (h:Upd F w F' w') (hb:Below B w0 w) (hF:∀ k,F k->B<=k) (hB:B<=w.heap.size):Below B w0 w' :=
 hb.trans ⟨h.os,h.tape,h.output,h.size,fun k hk=>h.block k (by omega) (fun e=>by have:=hF k e;omega)⟩
theorem Upd.lo (h:Upd F w F' w') (hF:∀ k,F k->B<=k) (hB:B<=w.heap.size):∀ k,F' k->B<=k:=fun k hk=>by
 rcases h.new k hk with e|e
 ·exact hF k e
 ·omega
theorem SlB.stay {l:List UInt8} (h:SlB w a n c l) (e:∀ x,a=some x->l ≠ []->w'.heap[x.block]?=w.heap[x.block]?) (hz:w.heap.size<=w'.heap.size):SlB w' a n c l:=by
 obtain⟨hl,hn,hc,h0,h1⟩:=h
 refine⟨hl,hn,hc,h0,fun x hx i hi=>?_⟩
 obtain⟨hs,hb,hi'⟩:=h1 x hx i hi
 exact⟨hs,Nat.lt_of_lt_of_le hb hz,(World.cell?_of_block (a:=(x.block (x.off+i))) (e x hx (by rintro rfl;simp at hi))).trans hi'⟩
theorem SlB.upd {l:List UInt8} (h:SlB w a n c l) (k:Upd F w F' w') (hF:∀ x,a=some x->l ≠ []->¬ F x.block):SlB w' a n c l :=
 h.stay (fun x hx hl=>k.block _ ((h.2.2.2.2 x hx 0 (List.length_pos_iff.2 hl)).2.1) (hF x hx hl)) k.size
theorem SlB.blt {l:List UInt8} (h:SlB w (some x) n c l) (hl:l ≠ []):x.block < w.heap.size:=(h.2.2.2.2 x rfl 0 (List.length_pos_iff.2 hl)).2.1
theorem OwnB.upd {base:Nat} {v:Value} {l:List UInt8} (h:OwnB base w v l) (k:Upd F w F' w') (hF:∀ g,v.ownBlock=some g->¬ F g):OwnB base w' v l:=by
 refine⟨h.1,?_⟩
 rcases h.2 with hn|⟨g,cap,cur,rfl,hb,hgg,rest⟩
 ·exact .inl hn
 ·exact .inr ⟨g,cap,cur,rfl,hb,(k.block g (Array.getElem?_eq_some_iff.1 hgg).1 (hF g rfl)).trans hgg,rest⟩
def SlP (w:World) (a:Option Addr) (n c:Nat) (l:List (Int × Int)):Prop :=
 l.length=n/\n<=c/\c<=maxLen/\(a=none->l=[]/\c=0) ∧
  ∀ x,a=some x->∀ i (h:i < l.length),x.spot=none/\x.block < w.heap.size/\w.cell? (x.block (x.off+i * 2))=some (.int .i64 l[i].1)/\w.cell? (x.block (x.off+i * 2+1))=some (.int .i64 l[i].2)
theorem SlP.len (h:SlP w a n c l):l.length=n:=h.1
theorem SlP.le (h:SlP w a n c l):n<=9223372036854775807:=by
 have:=h.2.1;have:=h.2.2.1;unfold maxLen at *;omega
theorem SlP.nil (w:World):SlP w none 0 0 []:=⟨rfl,zN _,by unfold maxLen;omega,fun _=>⟨rfl,rfl⟩,fun x hx=>by cases hx⟩
theorem SlP.at (h:SlP w a n c l) {k:Nat} (hk:k < n) :
 ∃ b o,a=some ((b:Nat) o)/\b < w.heap.size/\w.cell? (b (o+k * 2))=some (.int .i64 (l[k]?.getD (0,0)).1)/\w.cell? (b (o+k * 2+1))=some (.int .i64 (l[k]?.getD (0,0)).2):=by
 obtain⟨hl,hn,hc,h0,h1⟩:=h
 cases a with
|none=>have:=(h0 rfl).1;subst this;simp at hl;omega
|some x =>
  obtain⟨b,o,sp⟩:=x
  have hk':k < l.length:=by omega
  obtain⟨hs,hb,hi⟩:=h1 _ rfl k hk'
  simp only at hs;subst hs
  refine⟨b,o,rfl,hb,?_⟩
  rw [List.getElem?_eq_getElem hk']
  exact hi
theorem SlP.stay (h:SlP w a n c l) (e:∀ x,a=some x->l ≠ []->w'.heap[x.block]?=w.heap[x.block]?) (hz:w.heap.size<=w'.heap.size):SlP w' a n c l:=by
 obtain⟨hl,hn,hc,h0,h1⟩:=h
 refine⟨hl,hn,hc,h0,fun x hx i hi=>?_⟩
 obtain⟨hs,hb,hi1,hi2⟩:=h1 x hx i hi
 have e':=e x hx (by rintro rfl;simp at hi)
 exact⟨hs,Nat.lt_of_lt_of_le hb hz,(World.cell?_of_block (a:=(x.block (x.off+i * 2))) e').trans hi1,(World.cell?_of_block (a:=(x.block (x.off+i * 2+1))) e').trans hi2⟩
theorem SlP.ext (h:SlP w a n c l) (e:Below w.heap.size w w'):SlP w' a n c l :=
 h.stay (fun x hx hl=>e.block _ ((h.2.2.2.2 x hx 0 (List.length_pos_iff.2 hl)).2.1)) e.size
theorem SlP.upd (h:SlP w a n c l) (k:Upd F w F' w') (hF:∀ x,a=some x->l ≠ []->¬ F x.block):SlP w' a n c l :=
 h.stay (fun x hx hl=>k.block _ ((h.2.2.2.2 x hx 0 (List.length_pos_iff.2 hl)).2.1) (hF x hx hl)) k.size
theorem SlP.blt (h:SlP w (some x) n c l) (hl:l ≠ []):x.block < w.heap.size:=(h.2.2.2.2 x rfl 0 (List.length_pos_iff.2 hl)).2.1
end
section
open Go.RowKit
variable {P:Program} {ops:Array Oper} {Q:Exit->Act->World->Prop} {md:Region.Mode} {S:World->Prop} {o:Op} {t:TypeId} {p:String} {af:Array Edge} {gd:Option (Nat × Bool)} {v:Value} {fuel:Nat} {listed:Array Bool} {a:Act} {w:World}
theorem tkY {i d:Nat} {L:List (Nat × Nat)} (hi:ops[i]?=some ⟨some d,o,t,p,af,gd⟩) (hk:(Region.noSelect ops && (Region.free md ops listed i && (Region.ready md ops listed).contains i))=true)
 (hQ:∀ c a w,Q (.panic c) (a.put (some d) v) w->Q (.panic c) a w) (hw:Region.wanted ⟨some d,o,t,p,af,gd⟩ (yielded ops a.tmps)=true) (hy:∀ w,S w->(execOp a.eval ⟨some d,o,t,p,af,gd⟩).run P w=.ok (.value v) w) (hS:S w)
 (h:Tk L (wpAnyH P md ops Q S fuel (listed.setIfInBounds i true) (a.put (some d) v) w)):Tk ((i,d)::L) (wpAnyH P md ops Q S (fuel+1) listed a w) :=
 have k:=Bool.and_eq_true_iff.1 hk
 have k2:=Bool.and_eq_true_iff.1 k.2
 ⟨wpAnyH_take hi k.1 k2.1 k2.2 hQ (.inl ⟨hw,hy⟩) hS h.1⟩
theorem tkN {i d:Nat} {L:List (Nat × Nat)} (hi:ops[i]?=some ⟨some d,o,t,p,af,gd⟩) (hk:(Region.noSelect ops && (Region.free md ops listed i && (Region.ready md ops listed).contains i))=true)
 (hQ:∀ c a w,Q (.panic c) (a.put (some d) undef) w->Q (.panic c) a w) (hw:Region.wanted ⟨some d,o,t,p,af,gd⟩ (yielded ops a.tmps)=false) (hS:S w)
 (h:Tk L (wpAnyH P md ops Q S fuel (listed.setIfInBounds i true) (a.put (some d) undef) w)):Tk ((i,d)::L) (wpAnyH P md ops Q S (fuel+1) listed a w) :=
 have k:=Bool.and_eq_true_iff.1 hk
 have k2:=Bool.and_eq_true_iff.1 k.2
 ⟨wpAnyH_take hi k.1 k2.1 k2.2 hQ (.inr ⟨hw,rfl⟩) hS h.1⟩
end
end Go.Proofs.YtmanejniepghlaaGreatDoor
namespace Go.Proofs.YtmanejniepghlaaGreatDoor.Crc
variable {c:Nat}
def step (c:Nat):Nat:=if c % 2=0 then c / 2 else (c / 2) ^^^ 3988292384
def steps:Nat->Nat->Nat
|0,c=>c
|n+1,c=>steps n (step c)
def byte (c:Nat) (b:UInt8):Nat:=steps 8 (c ^^^ b.toNat)
def update (s:Nat) (l:List UInt8):Nat:=4294967295 - l.foldl byte (4294967295 - s)
theorem xor_lt {a b:Nat} (ha:a < 4294967296) (hb:b < 4294967296):a ^^^ b < 4294967296:=Nat.xor_lt_two_pow (n:=32) ha hb
theorem zs_v (h:c < 4294967296):step c < 4294967296:=by
 unfold step;split
 ·omega
 ·exact xor_lt (by omega) (by decide)
theorem steps_lt (n:Nat) (h:c < 4294967296):steps n c < 4294967296:=by
 induction n generalizing c with
|zero=>exact h
|succ n ih=>exact ih (zs_v h)
theorem steps_succ' (n c:Nat):steps (n+1) c=step (steps n c):=by
 induction n generalizing c with
|zero=>rfl
|succ n ih=>exact ih (step c)
theorem zr_p (h:c < 4294967296) (b:UInt8):byte c b < 4294967296 :=
 steps_lt 8 (xor_lt h (by have:=b.toNat_lt;omega))
theorem fold_lt (l:List UInt8) (h:c < 4294967296):l.foldl byte c < 4294967296:=by
 induction l generalizing c with
|nil=>exact h
|cons b l ih=>exact ih (zr_p h b)
theorem update_lt (s:Nat) (l:List UInt8):update s l < 4294967296:=by unfold update;omega
end Go.Proofs.YtmanejniepghlaaGreatDoor.Crc
