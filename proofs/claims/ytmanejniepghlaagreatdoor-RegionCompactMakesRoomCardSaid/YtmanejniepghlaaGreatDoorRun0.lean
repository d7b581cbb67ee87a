import Derived.Test.YtmanejniepghlaaGreatDoorRows
import Derived.WalkKit
import Derived.WalkLawsBesides
import Derived.WalkSpells
import Derived.Outline
import Derived.Below
import Derived.Lib.Hide
import Derived.Laws.BitsAllLaws
import Derived.Laws.Rows
import Derived.Laws.Tables
import Derived.DeepKeys
import Derived.Laws.AppendOwnNone
import Derived.Laws.BytesArg
import Derived.Laws.CopyOwn
import Derived.Lib.SlBytesConst
import Derived.Deep.QuietTactic
import Derived.BigQuiet
import Derived.Deep.DeepMust
import Derived.RangeFuncNested
import Derived.RangeFuncBound
import Derived.RangeFuncCalls
import Derived.RangeFuncLeaves
import Derived.RangeFuncBox
import Derived.Maps.RangeRun
import Derived.Maps.OwnSet
import Derived.Maps.RangeWalk
import Derived.Shelf.RegionOpen
import Derived.OwnWalkIn
namespace Go.Proofs.YtmanejniepghlaaGreatDoor
open Go.RowKit
theorem zH {P:Prop} (h:P):Hid P:=Lib.hid h
theorem zN (n:Nat):n<=n:=Nat.le_refl n
variable {w w' w0 w1:World} {l:List UInt8} {B b base c g k n:Nat} {a:Option Addr} {v:Value} {t:TypeId} {o:Oper} {Q:Exit->Act->World->Prop} {ops:Array Oper} {rest:List Oper}
@[go_sem] theorem u32_signed:IntKind.u32.signed=false:=rfl
@[go_sem] theorem u32_max:IntKind.u32.max=4294967295:=rfl
def SlB (w:World) (a:Option Addr) (n c:Nat) (l:List UInt8):Prop :=
 l.length=n/\n<=c/\c<=maxLen/\(a=none->l=[]/\c=0) ∧
  ∀ x,a=some x->∀ i (h:i < l.length),x.spot=none/\x.block < w.heap.size/\w.cell? ⟨x.block,x.off+i,none⟩=some (.int .u8 (l[i].toNat:Int))
theorem SlB.len (h:SlB w a n c l):l.length=n:=h.1
theorem SlB.le (h:SlB w a n c l):n<=9223372036854775807:=by
 have:=h.2.1;have:=h.2.2.1;unfold maxLen at *;omega
theorem SlB.at (h:SlB w a n c l) (hk:k < n) :
 ∃ b o,a=some ⟨b,o,none⟩/\b < w.heap.size/\k < l.length/\w.cell? ⟨b,o+k,none⟩=some (.int .u8 ((l[k]?.getD 0).toNat:Int)):=by
 obtain⟨hl,hn,hc,h0,h1⟩:=h
 cases a with
|none=>have:=(h0 rfl).1;subst this;simp at hl;omega
|some x =>
  obtain⟨b,o,sp⟩:=x
  have hk':k < l.length:=by omega
  obtain⟨hs,hb,hi⟩:=h1 _ rfl k hk'
  simp only at hs;subst hs
  refine⟨b,o,rfl,hb,hk',?_⟩
  rw [List.getElem?_eq_getElem hk']
  exact hi
theorem SlB.ext (h:SlB w a n c l) (e:Below w.heap.size w w'):SlB w' a n c l:=by
 obtain⟨hl,hn,hc,h0,h1⟩:=h
 refine⟨hl,hn,hc,h0,fun x hx i hi=>?_⟩
 obtain⟨hs,hb,hi⟩:=h1 x hx i hi
 exact⟨hs,Nat.lt_of_lt_of_le hb e.size,(e.cell (p:=⟨x.block,x.off+i,none⟩) hb).trans hi⟩
section
variable {P:Program}
theorem zd_i (w:World) (o:Obj) (k:Nat):(w.alloc o).heap[k]?=if k=w.heap.size then some o else w.heap[k]?:=by
 show (w.heap.push o)[k]?=_
 rw [Array.getElem?_push]
theorem za_c (w:World) (o:Obj) (k:Nat) (h:k < w.heap.size):(w.alloc o).heap[k]?=w.heap[k]?:=by
 rw [zd_i,if_neg (by omega)]
theorem za_a {o:Obj} (h:w.heap[k]?=some o):k < w.heap.size:=(Array.getElem?_eq_some_iff.1 h).1
theorem za_b (w:World) (o:Obj) (k:Nat) (h:k=w.heap.size):(w.alloc o).heap[k]?=some o:=by
 rw [zd_i,if_pos h]
theorem zh_z {a:Act} {K:Act->World->Prop} (ty:TypeId) (x y:Operand) (ho:o.op=.store ty x y)
 (g:Nat) (hx:a.eval x=.pointer (some ⟨g,0,none⟩)) (t:TypeId) (old cs:Array Value) (hy:a.eval y=.agg cs) (hg:w.heap[g]?=some (.cells old t (0,0)))
 (hi:(P.info? ty).map (·.size)=some cs.size) (hos:old.size=cs.size) (h1:cs.all (·.oneCell')=true)
 (h:K (a.put o.dst undef) (w.setRow g cs)):o.wp P a w K Q:=by
 unfold Oper.wp execOp
 simp only [ho,hx,hy,Instr.storeAt,Instr.sureAddr,Sem.run_bind,Sem.run_pure,Result.andThen_ok,run_storeVar_row w g t ty old cs hg hi hos h1]
 exact h
theorem za_z {a:Act} (hgd:o.guard=none) (ty:TypeId) (x y:Operand) (ho:o.op=.store ty x y)
 (g:Nat) (hx:a.eval x=.pointer (some ⟨g,0,none⟩)) (t:TypeId) (old cs:Array Value) (hy:a.eval y=.agg cs) (hg:w.heap[g]?=some (.cells old t (0,0)))
 (hi:(P.info? ty).map (·.size)=some cs.size) (hos:old.size=cs.size) (h1:cs.all (·.oneCell')=true)
 (h:wpList P ops Q rest (a.put o.dst undef) (w.setRow g cs)):wpList P ops Q (o :: rest) a w :=
 wpList_plain hgd fun _ hK=>zh_z ty x y ho g hx t old cs hy hg hi hos h1 (hK _ _ h)
theorem zd_w (hb:Below B w0 w) (hBg:B<=g) (cs:Array Value):Below B w0 (w.setRow g cs) :=
 hb.trans ⟨rfl,rfl,rfl,by simp,fun k hk=>setRow_other w g k cs (by omega)⟩
end
def bv (b:UInt8):Value:=.int .u8 (b.toNat:Int)
def OwnB (base:Nat) (w:World) (v:Value) (l:List UInt8):Prop:=w.ownsRow base 5 1 v l.length (l.map bv)
theorem OwnB.sl (h:OwnB base w v l) :
 ∃ a c,v=.slice a l.length c/\SlB w a l.length c l/\∀ x,a=some x->x=⟨x.block,0,none⟩/\base<=x.block/\∀ i,w.frozen? ⟨x.block,i,none⟩=false:=by
 rcases id h.2 with⟨hv,hn⟩|⟨g,cap,cur,hv,hg,hc,hnc,hcm,hcs,htake⟩
 ·have hl:l=[]:=List.eq_nil_of_length_eq_zero hn
  subst hl
  exact⟨none,0,hv,⟨rfl,Nat.le_refl _,by unfold maxLen;omega,fun _=>⟨rfl,rfl⟩,fun x hx=>by cases hx⟩,fun x hx=>by cases hx⟩
 ·refine⟨some ⟨g,0,none⟩,cap,hv,⟨rfl,hnc,hcm,(fun h=>by cases h),fun x hx i hi=>?_⟩,fun x hx=>?_⟩
  ·cases hx
   refine⟨rfl,(Array.getElem?_eq_some_iff.1 hc).1,?_⟩
   have:=World.ownsRow.cellAt (g:=g) (cap:=cap) (by rw [<-hv];exact h) i (by simpa using hi)
   simp only [Nat.zero_add]
   rw [this];simp [bv,hi]
  ·cases hx
   exact⟨rfl,hg,fun i=>frozen_of_row _ _ _ _ _ hc⟩
theorem OwnB.lt (h:OwnB base w v l):∀ k,v.ownBlock=some k->base<=k/\k < w.heap.size:=World.ownsRow.lt h
theorem OwnB.ext (h:OwnB base w v l) (e:Below w.heap.size w w'):OwnB base w' v l:=by
 refine⟨h.1,?_⟩
 rcases h.2 with hn|⟨g,cap,cur,rfl,hb,hgg,rest⟩
 ·exact .inl hn
 ·exact .inr ⟨g,cap,cur,rfl,hb,(e.block g (Array.getElem?_eq_some_iff.1 hgg).1).trans hgg,rest⟩
theorem OwnB.alloc (h:OwnB base w v l) (o:Obj):OwnB base (w.alloc o) v l:=World.ownsRow.alloc h o
theorem OwnB.mono {b':Nat} (h:OwnB b w v l) (hb:b'<=b):OwnB b' w v l:=by
 refine⟨h.1,?_⟩
 rcases h.2 with hn|⟨g,cap,cur,rfl,hbg,rest⟩
 ·exact .inl hn
 ·exact .inr ⟨g,cap,cur,rfl,Nat.le_trans hb hbg,rest⟩
theorem OwnB.nil (base:Nat) (w:World):OwnB base w (.slice none 0 0) []:=World.ownsRow_nil w base _ _
theorem OwnB.empty (w:World) (hb:base<=w.heap.size):OwnB base (w.alloc (.cells #[] 5)) (.slice (some ⟨w.heap.size,0,none⟩) 0 0) [] :=
 World.ownsRow_made w #[] 0 hb (by unfold maxLen;omega) rfl
theorem OwnB.set (h:OwnB base w (.slice (some ⟨g,0,none⟩) n c) l) (j:Nat) (b:UInt8) :
 OwnB base (w.setCell ⟨g,j,none⟩ (bv b)) (.slice (some ⟨g,0,none⟩) n c) (l.set j b):=by
 have hn:n=l.length:=by
  obtain⟨a,c',e,-,-⟩:=h.sl
  injection e
 subst hn
 have:=(World.ownsRow.stored h j (bv b)).1
 unfold OwnB
 rw [List.length_set,List.map_set];exact this
theorem OwnB.row (h:OwnB base w (.slice (some ⟨g,0,none⟩) n c) l) (k:Nat) (hk:k < l.length) :
 w.cell? ⟨g,k,none⟩=some (bv (l[k]?.getD 0)):=by
 have hn:n=l.length:=by
  obtain⟨a,c',e,-,-⟩:=h.sl
  injection e
 subst hn
 rw [World.ownsRow.cellAt h k (by simpa using hk)];simp [hk]
theorem OwnB.free (h:OwnB base w (.slice (some ⟨g,0,none⟩) n c) l) (k:Nat):w.frozen? ⟨g,k,none⟩=false:=by
 have hn:n=l.length:=by
  obtain⟨a,c',e,-,-⟩:=h.sl
  injection e
 subst hn
 exact World.ownsRow.frozenAt h k
theorem SlB.one (w:World) (b:UInt8) (t:TypeId):SlB (w.alloc (.cells #[bv b] t)) (some ⟨w.heap.size,0,none⟩) 1 1 [b]:=by
 refine⟨rfl,Nat.le_refl _,by unfold maxLen;omega,(fun h=>by cases h),fun x hx i hi=>?_⟩
 cases hx
 refine⟨rfl,by simp,?_⟩
 obtain rfl:i=0:=by simpa using hi
 rw [World.cell?_alloc_at _ _ _ _ rfl];rfl
theorem SlB.built (w:World) (A:Array Value) (l:List UInt8) (n k:Nat) (t:TypeId) (fr:Nat × Nat) (hA:A=(l.map bv).toArray) (hn:l.length=n) (hm:n<=maxLen) (hk:k=w.heap.size) :
 SlB (w.alloc (.cells A t fr)) (some ⟨k,0,none⟩) n n l:=by
 subst hA;subst hk
 refine⟨hn,Nat.le_refl _,hm,(fun h=>by cases h),fun x hx i hi=>?_⟩
 cases hx
 refine⟨rfl,by simp,?_⟩
 rw [cell_of_row _ _ _ _ _ _ (za_b w _ _ rfl)];simp [bv,hi]
theorem OwnB.built (w:World) (l:List UInt8) (hb:base<=w.heap.size) (hm:l.length<=maxLen) :
 OwnB base (w.alloc (.cells (l.map bv).toArray 5)) (.slice (some ⟨w.heap.size,0,none⟩) l.length l.length) l:=by
 refine⟨by simp,.inr ⟨w.heap.size,l.length,(l.map bv).toArray,rfl,hb,za_b _ _ _ rfl,Nat.le_refl _,hm,by simp,by simp [List.take_of_length_le]⟩⟩
theorem info5:(Tryz.prog.info? 5).map (fun i=>(i.zero,i.size,i.bytes))=some (some (.int .u8 0),1,1):=by kernel_rfl
theorem za_e {a:Act} (hgd:o.guard=none) (s x:Operand)
 (ho:o.op=.call { callee:=.builtin .append,args:=#[s,x],argTypes:=#[70,70] })
 (base:Nat) (v:Value) (l:List UInt8) (hs:a.eval s=v) (hown:OwnB base w v l) (b:Option Addr) (m c:Nat) (l2:List UInt8) (hx:a.eval x=.slice b m c) (hsl:SlB w b m c l2)
 (hlen:l.length+m<=140737488355328) (hbase:base<=w.heap.size)
 (h:∀ v' w',OwnB base w' v' (l ++ l2)->w.grownBy w' v.ownBlock->(v'=.slice none 0 0 ↔ v=.slice none 0 0/\l2=[])->wpList Tryz.prog ops Q rest (a.put o.dst v') w'):wpList Tryz.prog ops Q (o :: rest) a w:=by
 obtain⟨i0,hi,hz0,hz1,hz2⟩:=info_parts info5
 cases b with
|none =>
  obtain⟨rfl,rfl⟩:=hsl.2.2.2.1 rfl
  obtain rfl:m=0:=hsl.1.symm
  refine wpList_append_own_none hgd s x 70 ho base 5 i0 1 Tryz.underlying70 hi v l.length _ hs hown hx ?_
  exact h v w (by simpa using hown) ⟨rfl,rfl,rfl,Nat.le_refl _,fun _ _ _=>rfl⟩ (by simp)
|some ad =>
  have hl2:=hsl.len
  refine wpList_append_own w hgd s x 70 ho base 5 i0 (.int .u8 0) 1 1 Tryz.underlying70 hi hz0 hz1 hz2 rfl (by decide) v l.length _ hs hown ad m c (l2.map bv) hx (by simp [hl2]) ?_ ?_ ?_ ?_ hbase ?_
  ·intro j u hj
   have hjl:j < l2.length:=by
    have:=(List.getElem?_eq_some_iff.1 hj).1;simpa using this
   obtain⟨hsp,hb,this⟩:=hsl.2.2.2.2 ad rfl j hjl
   have hadd:ad.add j=⟨ad.block,ad.off+j,none⟩:=by
    obtain⟨b,o,sp⟩:=ad;simp only at hsp;subst hsp;unfold Addr.add;split <;> simp_all
   rw [hadd,this];rw [<-hj];simp [bv,hjl]
  ·intro u hu
   obtain⟨b,_,rfl⟩:=List.mem_map.1 hu;rfl
  ·unfold maxLen;omega
  ·omega
  ·intro v' w' h1 h2 h3
   refine h v' w' ?_ h2 ?_
   ·unfold OwnB;rw [List.length_append,List.map_append,hl2];exact h1
   ·rw [h3];constructor
    ·rintro⟨h4,h5⟩;exact⟨h4,List.eq_nil_of_length_eq_zero (hl2.trans h5)⟩
    ·rintro⟨h4,h5⟩;subst h5;exact⟨h4,hl2.symm⟩
@[go_sem] theorem run_conv_const (w:World) (k:Nat) (C:Array Value) (n c:Nat) (hk:k=w.heap.size) :
 (convert 70 70 (.slice (some ⟨k,0,none⟩) n c)).run Tryz.prog (w.alloc (.cells C 5))=.ok (.slice (some ⟨k,0,none⟩) n c) (w.alloc (.cells C 5 (C.size,C.size+1))):=by
 subst hk
 exact Go.Lib.run_convert_bytes_const w _ _ C n c Tryz.underlying70 Tryz.underlying5
def str (l:List UInt8):ByteArray:=⟨l.toArray⟩
@[simp] theorem str_toList (l:List UInt8):(str l).toList=l:=ByteArray.toList_mk l
theorem za_t (h:SlB w a n c l) :
 (convert 70 9 (.slice a n c)).run Tryz.prog w=.ok (.string (str l)) w:=by
 cases a with
|none =>
  obtain⟨rfl,rfl⟩:=h.2.2.2.1 rfl
  exact run_convert_bytes_nil w _ _ Tryz.underlying70 Tryz.underlying5 _ _ _ Tryz.underlying9
|some x =>
  by_cases hl0:l=[]
  ·subst hl0
   obtain rfl:n=0:=h.1.symm
   rw [run_convert_bytes_string w _ _ _ _ 0 c Tryz.underlying70 Tryz.underlying5 Tryz.underlying9,run_bytesToString w x 0 c [] (by simp [loadCells,loadCellsFrom])]
   rfl
  have h0l:0 < l.length:=List.length_pos_iff.2 hl0
  obtain⟨b,o,sp⟩:=x
  have hs:=(h.2.2.2.2 _ rfl 0 h0l).1
  have hi:∀ i (h:i < l.length),_:=fun i hil=>(h.2.2.2.2 _ rfl i hil).2.2
  simp only at hs;subst hs
  rw [run_convert_bytes_arg w _ _ Tryz.underlying70 Tryz.underlying5 b o n c (l.map fun b=>(b.toNat:Int)) (by simp [h.len]) (fun i hin=>?_) _ Tryz.underlying9]
  ·congr 2
   simp only [strOfNums,str,List.map_map]
   congr 1
   rw [show ((fun n:Int=>UInt8.ofNat n.toNat) ∘ fun b:UInt8=>(b.toNat:Int))=id from funext fun b=>by simp]
   simp
  ·have hil:i < l.length:=by rw [h.len];exact hin
   rw [hi i hil];simp [hil]
theorem SlB.take (h:SlB w a n c l) (hk:k<=n):SlB w a k c (l.take k):=by
 obtain⟨hl,hn,hc,h0,h1⟩:=h
 refine⟨by simp;omega,by omega,hc,fun e=>by simp [h0 e],fun x hx i hi=>?_⟩
 have hi':i < l.length:=by simp at hi;omega
 obtain⟨hs,hb,hcl⟩:=h1 x hx i hi'
 exact⟨hs,hb,by rw [hcl];simp⟩
theorem SlB.drop {o:Nat} (h:SlB w (some ⟨b,o,none⟩) n c l) (hk:k<=n):SlB w (some ⟨b,o+k,none⟩) (n - k) (c - k) (l.drop k):=by
 obtain⟨hl,hn,hc,h0,h1⟩:=h
 refine⟨by simp;omega,by omega,by omega,(fun e=>by cases e),fun x hx i hi=>?_⟩
 cases hx
 have hi':k+i < l.length:=by simp at hi;omega
 obtain⟨hs,hb,hcl⟩:=h1 _ rfl (k+i) hi'
 refine⟨rfl,hb,?_⟩
 simp only [Nat.add_assoc] at hcl ⊢
 rw [hcl];simp
def Ext (w w':World):Prop:=Below w.heap.size w w'
theorem Ext.refl (w:World):Ext w w:=Below.refl _ _
theorem Ext.step {w2:World} (h2:Below w1.heap.size w1 w2) (h:Ext w w1):Ext w w2:=Below.trans h (h2.mono (Below.size h))
theorem Ext.drew (h:Ext w w1):Ext w w1.drew:=Below.drew h
theorem Ext.alloc (h:Ext w w1) (o:Obj):Ext w (w1.alloc o):=Below.alloc h (Below.size h) o
theorem SlB.ext' (h:SlB w a n c l) (e:Ext w w'):SlB w' a n c l:=h.ext e
def RowIs (w:World) (g:Nat) (t:TypeId) (l:List UInt8):Prop:=w.heap[g]?=some (.cells (l.map bv).toArray t (0,0))
theorem RowIs.slb (h:RowIs w g t l) (o n c:Nat) (hn:o+n<=l.length) (hc:n<=c) (hm:c<=maxLen):SlB w (some ⟨g,o,none⟩) n c ((l.drop o).take n):=by
 refine⟨by simp;omega,hc,hm,(fun h=>by cases h),fun x hx i hi=>?_⟩
 cases hx
 simp at hi
 refine⟨rfl,(Array.getElem?_eq_some_iff.1 h).1,?_⟩
 rw [cell_of_row _ _ _ _ _ _ h]
 simp [bv,show o+i < l.length by omega]
theorem RowIs.cell (h:RowIs w g t l) (k:Nat) (hk:k < l.length):w.cell? ⟨g,k,none⟩=some (bv (l[k]?.getD 0)):=by
 rw [cell_of_row _ _ _ _ _ _ h];simp [hk]
theorem RowIs.free (h:RowIs w g t l) (k:Nat):w.frozen? ⟨g,k,none⟩=false:=frozen_of_row _ _ _ _ _ h
theorem RowIs.set (h:RowIs w g t l) (k:Nat) (b:UInt8):RowIs (w.setCell ⟨g,k,none⟩ (bv b)) g t (l.set k b):=by
 unfold RowIs
 rw [heap_setCell_same _ _ _ _ _ _ h,List.map_set];simp
theorem RowIs.keep (h:RowIs w g t l) (hb:w'.heap[g]?=w.heap[g]?):RowIs w' g t l:=hb.trans h
structure But (g:Nat) (w w':World):Prop where
 os:w'.os=w.os
 tape:w'.tape=w.tape
 output:w'.output=w.output
 size:w.heap.size<=w'.heap.size
 block:∀ k,k < w.heap.size->k ≠ g->w'.heap[k]?=w.heap[k]?
theorem But.refl (g:Nat) (w:World):But g w w:=⟨rfl,rfl,rfl,Nat.le_refl _,fun _ _ _=>rfl⟩
theorem But.trans {a b c:World} (h:But g a b) (k:But g b c):But g a c :=
 ⟨k.os.trans h.os,k.tape.trans h.tape,k.output.trans h.output,Nat.le_trans h.size k.size,fun i hi hg=>(k.block i (Nat.lt_of_lt_of_le hi h.size) hg).trans (h.block i hi hg)⟩
theorem But.setCell {a:World} (h:But g a w) (o:Nat) (v:Value):But g a (w.setCell ⟨g,o,none⟩ v) :=
 h.trans ⟨rfl,rfl,rfl,by simp,fun k _ hk=>heap_setCell_other _ _ _ _ hk⟩
theorem But.drew {a:World} (h:But g a w):But g a w.drew:=⟨h.os,h.tape,h.output,h.size,h.block⟩
theorem But.setRow {a:World} (h:But g a w) (cs:Array Value):But g a (w.setRow g cs) :=
 h.trans ⟨rfl,rfl,rfl,by simp,fun k _ hk=>setRow_other w g k cs hk⟩
theorem But.of_ext (h:Below w.heap.size w w'):But g w w':=⟨h.os,h.tape,h.output,h.size,fun k hk _=>h.block k hk⟩
theorem But.below (h0:Below B w0 w) (h:But g w w') (hg:B<=g) (hB:B<=w.heap.size):Below B w0 w' :=
 h0.trans ⟨h.os,h.tape,h.output,h.size,fun k hk=>h.block k (by omega) (by omega)⟩
theorem SlB.but {x:Addr} (h:SlB w (some x) n c l) (e:But g w w') (hx:x.block ≠ g):SlB w' (some x) n c l:=by
 obtain⟨hl,hn,hc,h0,h1⟩:=h
 refine⟨hl,hn,hc,h0,fun y hy i hi=>?_⟩
 cases hy
 obtain⟨hs,hb,hi⟩:=h1 x rfl i hi
 exact⟨hs,Nat.lt_of_lt_of_le hb e.size,(World.cell?_of_block (a:=⟨x.block,x.off+i,none⟩) (e.block _ hb hx)).trans hi⟩
theorem zf_u {P:Program} {a:Act} (hgd:o.guard=none) (d s:Operand) (dT sT:TypeId)
 (ho:o.op=.call { callee:=.builtin .copy,args:=#[d,s],argTypes:=#[dT,sT] }) (elem:TypeId) (hu:P.underlying dT=some (.slice elem)) (hsz:(P.info? elem).map (·.size)=some 1)
 (g off dLen dCap:Nat) (x:ByteArray) (hd:a.eval d=.slice (some ⟨g,off,none⟩) dLen dCap) (hs:a.eval s=.string x) (hn:x.size<=dLen)
 (t:TypeId) (l:List UInt8) (hr:RowIs w g t l) (hfit:off+x.size<=l.length)
 (h:∀ w',RowIs w' g t (l.take off ++ x.data.toList ++ l.drop (off+x.size))->But g w w'->wpList P ops Q rest (a.put o.dst (goInt x.size)) w'):wpList P ops Q (o :: rest) a w:=by
 refine wpList_plain hgd fun K hK=>?_
 have hst:=run_storeCells_at P g off t (x.data.toList.map bv) 0 _ w hr (by simp;exact hfit) (fun v hv=>by obtain⟨b,_,rfl⟩:=List.mem_map.1 hv;rfl)
 unfold Oper.wp
 cases hq:P.info? elem with
|none=>simp [hq] at hsz
|some i =>
  have hmin:Nat.min x.size dLen=x.size:=Nat.min_eq_left hn
  have htk:List.take x.size (List.map (fun b:UInt8=>Value.int .u8 (b.toNat:Int)) x.data.toList)=x.data.toList.map bv:=by
   rw [List.take_of_length_le (by simp)];rfl
  simp [execOp,ho,resolve,invoke,builtin,hd,hs,Builtin.copy_,run_underlying hu,Builtin.lenOf,Builtin.firstCells,sizeOf,typeInfo,hq,hmin,Result.andThen]
  rw [htk,hst]
  refine hK _ _ (h _ ?_ ((But.refl _ _).setRow _))
  unfold RowIs
  rw [setRow_heap w g _ _ t _ hr]
  simp
end Go.Proofs.YtmanejniepghlaaGreatDoor
namespace Go.Proofs.YtmanejniepghlaaGreatDoor.Crc
variable {c:Nat}
def step (c:Nat):Nat:=if c % 2=0 then c / 2 else (c / 2) ^^^ 3988292384
def steps:Nat->Nat->Nat
|0,c=>c
|n+1,c=>steps n (step c)
def byte (c:Nat) (b:UInt8):Nat:=steps 8 (c ^^^ b.toNat)
def update (s:Nat) (l:List UInt8):Nat:=4294967295 - l.foldl byte (4294967295 - s)
theorem xor_lt {a b:Nat} (ha:a < 4294967296) (hb:b < 4294967296):a ^^^ b < 4294967296:=Nat.xor_lt_two_pow (n:=32) ha hb
theorem zr_n (h:c < 4294967296):step c < 4294967296:=by
 unfold step;split
 ·omega
 ·exact xor_lt (by omega) (by decide)
theorem steps_lt (n:Nat) (h:c < 4294967296):steps n c < 4294967296:=by
 induction n generalizing c with
|zero=>exact h
|succ n ih=>exact ih (zr_n h)
theorem steps_succ' (n c:Nat):steps (n+1) c=step (steps n c):=by
 induction n generalizing c with
|zero=>rfl
|succ n ih=>exact ih (step c)
theorem zs_w (h:c < 4294967296) (b:UInt8):byte c b < 4294967296 :=
 steps_lt 8 (xor_lt h (by have:=b.toNat_lt;omega))
theorem fold_lt (l:List UInt8) (h:c < 4294967296):l.foldl byte c < 4294967296:=by
 induction l generalizing c with
|nil=>exact h
|cons b l ih=>exact ih (zs_w h b)
theorem update_lt (s:Nat) (l:List UInt8):update s l < 4294967296:=by unfold update;omega
end Go.Proofs.YtmanejniepghlaaGreatDoor.Crc
namespace Go.Proofs.YtmanejniepghlaaGreatDoor.Crc
def F (c:Nat) (l:List UInt8):Nat:=l.foldl byte c
theorem toNat_ofNat8 {n:Nat} (h:n < 256):(UInt8.ofNat n).toNat=n:=by simp [Nat.mod_eq_of_lt h]
def fix4 (v:Nat):List UInt8:=[UInt8.ofNat (v % 256),UInt8.ofNat (v / 256 % 256),UInt8.ofNat (v / 65536 % 256),UInt8.ofNat (v / 16777216)]
def unfix4 (l:List UInt8):Nat:=(l[0]?.getD 0).toNat+(l[1]?.getD 0).toNat * 256+(l[2]?.getD 0).toNat * 65536+(l[3]?.getD 0).toNat * 16777216
theorem zj_k {v:Nat} (hv:v < 4294967296):unfix4 (fix4 v)=v:=by
 simp only [unfix4,fix4,List.getElem?_cons_zero,List.getElem?_cons_succ,Option.getD_some]
 rw [toNat_ofNat8 (by omega),toNat_ofNat8 (by omega),toNat_ofNat8 (by omega),toNat_ofNat8 (by omega)];omega
end Go.Proofs.YtmanejniepghlaaGreatDoor.Crc
namespace Go.Proofs.YtmanejniepghlaaGreatDoor.Super
open Crc
def le:Nat->Nat->List UInt8
|0,_=>[]
|n+1,v=>UInt8.ofNat (v % 256) :: le n (v / 256)
def unle:List UInt8->Nat
|[]=>0
|b :: l=>b.toNat+256 * unle l
theorem le_length (n v:Nat):(le n v).length=n:=by
 induction n generalizing v with
|zero=>rfl
|succ n ih=>simp [le,ih]
theorem zc_i (n v:Nat):unle (le n v)=v % 256 ^ n:=by
 induction n generalizing v with
|zero=>simp [le,unle,Nat.mod_one]
|succ n ih =>
  rw [le,unle,ih,toNat_ofNat8 (Nat.mod_lt _ (by decide)),Nat.pow_succ,Nat.mul_comm (256 ^ n) 256,Nat.mod_mul]
theorem unle_lt (l:List UInt8):unle l < 256 ^ l.length:=by
 induction l with
|nil=>simp [unle]
|cons b l ih =>
  have:=b.toNat_lt
  rw [unle,List.length_cons,Nat.pow_succ];omega
theorem unle_append (a b:List UInt8):unle (a ++ b)=unle a+256 ^ a.length * unle b:=by
 induction a with
|nil=>simp [unle]
|cons x a ih=>rw [List.cons_append,unle,unle,ih,List.length_cons,Nat.pow_succ,Nat.mul_add,Nat.mul_comm (256 ^ a.length) 256,Nat.mul_assoc,Nat.add_assoc]
theorem zr_y (v:Nat) (hv:v < 4294967296):le 4 v=fix4 v:=by
 simp only [le,fix4]
 rw [show v / 256 / 256=v / 65536 by omega,show v / 65536 / 256=v / 16777216 by omega,show v / 16777216 % 256=v / 16777216 by omega]
theorem unle_four (l:List UInt8) (h:l.length=4):unle l=unfix4 l:=by
 match l,h with
|[a,b,c,d],_=>simp only [unle,unfix4,List.getElem?_cons_zero,List.getElem?_cons_succ,Option.getD_some];omega
def spl (l:List UInt8) (o:Nat) (xs:List UInt8):List UInt8:=l.take o ++ xs ++ l.drop (o+xs.length)
theorem spl_length (l:List UInt8) (o:Nat) (xs:List UInt8) (h:o+xs.length<=l.length):(spl l o xs).length=l.length:=by simp [spl];omega
theorem spl_nil (l:List UInt8) (o:Nat):spl l o []=l:=by simp [spl]
theorem spl_snoc (l:List UInt8) (o:Nat) (xs:List UInt8) (b:UInt8) (h:o+xs.length < l.length):(spl l o xs).set (o+xs.length) b=spl l o (xs ++ [b]):=by
 unfold spl
 have h1:(l.take o ++ xs).length=o+xs.length:=by simp;omega
 rw [List.set_append_right _ _ (by omega),h1,Nat.sub_self,List.drop_eq_getElem_cons h,List.set_cons_zero]
 simp [Nat.add_assoc]
theorem le_succ (k v:Nat):le (k+1) v=le k v ++ [UInt8.ofNat (v / 256 ^ k % 256)]:=by
 induction k generalizing v with
|zero=>simp [le]
|succ k ih =>
  rw [le,ih (v / 256),le,List.cons_append]
  congr 3
  rw [Nat.div_div_eq_div_mul,Nat.pow_succ,Nat.mul_comm 256]
structure S where
 gen:Nat
 act:Int
 epoch:Nat
 len:Int
 sum:Nat
 deriving DecidableEq
def zero:S:=⟨0,0,0,0,0⟩
def S.fits (s:S):Prop:=s.gen < 18446744073709551616/\s.epoch < 4294967296/\s.sum < 4294967296
def valid (s:S):Bool:=(s.act == 0 || s.act == 1) && decide (0<=s.len) && decide (s.len<=262144)
def body (s:S):List UInt8:=[72,83,84,83,1,UInt8.ofNat s.act.toNat] ++ le 8 s.gen ++ le 4 s.epoch ++ le 4 s.len.toNat ++ le 4 s.sum ++ List.replicate 34 0
def enc (s:S):List UInt8:=body s ++ fix4 (update 0 (body s))
def field (b:List UInt8) (i n:Nat):Nat:=unle ((b.drop i).take n)
def fields (b:List UInt8):S:=⟨field b 6 8,((b[5]?.getD 0).toNat:Int),field b 14 4,(field b 18 4:Int),field b 22 4⟩
def dec (b:List UInt8):S × Int :=
 if b.length ≠ 64 then (zero,5)
 else if unfix4 (b.drop 60) ≠ update 0 (b.take 60) then (zero,7)
 else if valid (fields b)=true/\enc (fields b)=b then (fields b,0) else (zero,6)
theorem zb_k (s:S):(body s).length=60:=by simp [body,le_length]
theorem enc_length (s:S):(enc s).length=64:=by simp [enc,zb_k,fix4]
theorem zm_j (s:S) (hv:valid s=true) (hf:s.fits):fields (enc s)=s:=by
 obtain⟨g,a,e,l,m⟩:=s
 obtain⟨h1,h2,h3⟩:=hf
 simp only [valid,Bool.and_eq_true,Bool.or_eq_true,beq_iff_eq,decide_eq_true_eq] at hv
 obtain⟨⟨ha,hl0⟩,hl1⟩:=hv
 have e1:((enc ⟨g,a,e,l,m⟩).drop 6).take 8=le 8 g:=rfl
 have e2:((enc ⟨g,a,e,l,m⟩).drop 14).take 4=le 4 e:=rfl
 have e3:((enc ⟨g,a,e,l,m⟩).drop 18).take 4=le 4 l.toNat:=rfl
 have e4:((enc ⟨g,a,e,l,m⟩).drop 22).take 4=le 4 m:=rfl
 have e5:(enc ⟨g,a,e,l,m⟩)[5]?.getD 0=UInt8.ofNat a.toNat:=rfl
 simp only at h1 h2 h3 ha hl0 hl1
 unfold fields field
 rw [e1,e2,e3,e4,e5,zc_i,zc_i,zc_i,zc_i,toNat_ofNat8 (by omega)]
 congr 1
 ·omega
 ·omega
 ·omega
 ·omega
 ·omega
theorem zp_g (s:S):(enc s).take 60=body s:=by
 rw [enc,<-zb_k s,List.take_left]
theorem zp_e (s:S):(enc s).drop 60=fix4 (update 0 (body s)):=by
 rw [enc,<-zb_k s,List.drop_left]
theorem dec_enc (s:S) (hv:valid s=true) (hf:s.fits):dec (enc s)=(s,0):=by
 unfold dec
 rw [if_neg (by simp [enc_length]),if_neg (by rw [zp_g,zp_e,zj_k (update_lt _ _)];simp),zm_j s hv hf,if_pos ⟨hv,rfl⟩]
def choose (a b:List UInt8):Int × S × Int :=
 if (dec a).2 ≠ 0/\(dec b).2 ≠ 0 then (0,zero,13)
 else if (dec a).2 ≠ 0\/((dec b).2=0/\(dec a).1.gen < (dec b).1.gen) then (1,(dec b).1,0)
 else (0,(dec a).1,0)
def lay (gen act epoch len sum:Nat):List UInt8 :=
 spl (spl (spl (spl (((List.take 0 (List.replicate 64 (0:UInt8)) ++ (ByteArray.mk #[72,83,84,83]).data.toList ++ List.drop (0+(ByteArray.mk #[72,83,84,83]).size) (List.replicate 64 0)).set 4 1).set 5 (UInt8.ofNat act)) 6 (le 8 gen)) 14 (le 4 epoch)) 18 (le 4 len)) 22 (le 4 sum)
theorem zr_f (gen act epoch len sum:Nat):lay gen act epoch len sum=body ⟨gen,act,epoch,len,sum⟩ ++ [0,0,0,0]:=rfl
theorem lay_take (gen act epoch len sum:Nat):((lay gen act epoch len sum).drop 0).take 60=body ⟨gen,act,epoch,len,sum⟩:=by
 rw [zr_f,List.drop_zero,<-zb_k ⟨gen,act,epoch,len,sum⟩,List.take_left]
theorem lay_enc (gen act epoch len sum:Nat):spl (lay gen act epoch len sum) 60 (le 4 (update 0 (body ⟨gen,act,epoch,len,sum⟩)))=enc ⟨gen,act,epoch,len,sum⟩:=by
 have h:=zb_k ⟨gen,act,epoch,len,sum⟩
 rw [zr_y _ (update_lt _ _),spl,zr_f,List.take_append_of_le_length (by omega),List.take_of_length_le (by omega),List.drop_eq_nil_of_le (by simp [h,fix4]),List.append_nil];rfl
theorem valid_cases {s:S} (hv:valid s=true) (hf:s.fits):∃ gen act epoch len sum:Nat,s=⟨gen,act,epoch,len,sum⟩/\gen < 18446744073709551616/\epoch < 4294967296/\sum < 4294967296/\len<=262144/\act < 2:=by
 obtain⟨g,a,e,l,m⟩:=s
 obtain⟨h1,h2,h3⟩:=hf
 simp only [valid,Bool.and_eq_true,Bool.or_eq_true,beq_iff_eq,decide_eq_true_eq] at hv
 obtain⟨⟨ha,hl0⟩,hl1⟩:=hv
 simp only at h1 h2 h3 ha hl0 hl1
 refine⟨g,a.toNat,e,l.toNat,m,?_,h1,h2,h3,by omega,by omega⟩
 congr 1 <;> omega
end Go.Proofs.YtmanejniepghlaaGreatDoor.Super
namespace Go.Proofs.YtmanejniepghlaaGreatDoor
section
open Go.RowKit
variable {w w':World} {l:List Int} {b base c k n:Nat} {v:Value} {a:Option Addr}
def iv (z:Int):Value:=.int .i64 z
def SlI (w:World) (a:Option Addr) (n c:Nat) (l:List Int):Prop :=
 l.length=n/\n<=c/\c<=maxLen/\(a=none->l=[]/\c=0) ∧
  ∀ x,a=some x->∀ i (h:i < l.length),x.spot=none/\x.block < w.heap.size/\w.cell? ⟨x.block,x.off+i,none⟩=some (.int .i64 l[i])
theorem SlI.len (h:SlI w a n c l):l.length=n:=h.1
theorem SlI.le (h:SlI w a n c l):n<=9223372036854775807:=by
 have:=h.2.1;have:=h.2.2.1;unfold maxLen at *;omega
theorem SlI.nil (w:World):SlI w none 0 0 []:=⟨rfl,zN _,by unfold maxLen;omega,fun _=>⟨rfl,rfl⟩,fun x hx=>by cases hx⟩
theorem SlI.at (h:SlI w a n c l) (hk:k < n) :
 ∃ b o,a=some ⟨b,o,none⟩/\b < w.heap.size/\k < l.length/\w.cell? ⟨b,o+k,none⟩=some (.int .i64 (l[k]?.getD 0)):=by
 obtain⟨hl,hn,hc,h0,h1⟩:=h
 cases a with
|none=>have:=(h0 rfl).1;subst this;simp at hl;omega
|some x =>
  obtain⟨b,o,sp⟩:=x
  have hk':k < l.length:=by omega
  obtain⟨hs,hb,hi⟩:=h1 _ rfl k hk'
  simp only at hs;subst hs
  refine⟨b,o,rfl,hb,hk',?_⟩
  rw [List.getElem?_eq_getElem hk']
  exact hi
theorem SlI.ext (h:SlI w a n c l) (e:Below w.heap.size w w'):SlI w' a n c l:=by
 obtain⟨hl,hn,hc,h0,h1⟩:=h
 refine⟨hl,hn,hc,h0,fun x hx i hi=>?_⟩
 obtain⟨hs,hb,hi⟩:=h1 x hx i hi
 exact⟨hs,Nat.lt_of_lt_of_le hb e.size,(e.cell (p:=⟨x.block,x.off+i,none⟩) hb).trans hi⟩
theorem SlI.take (h:SlI w a n c l) (hk:k<=n):SlI w a k c (l.take k):=by
 obtain⟨hl,hn,hc,h0,h1⟩:=h
 refine⟨by simp;omega,by omega,hc,fun e=>by simp [h0 e],fun x hx i hi=>?_⟩
 have hi':i < l.length:=by simp at hi;omega
 obtain⟨hs,hb,hcl⟩:=h1 x hx i hi'
 exact⟨hs,hb,by rw [hcl];simp⟩
theorem SlI.drop {o:Nat} (h:SlI w (some ⟨b,o,none⟩) n c l) (hk:k<=n):SlI w (some ⟨b,o+k,none⟩) (n - k) (c - k) (l.drop k):=by
 obtain⟨hl,hn,hc,h0,h1⟩:=h
 refine⟨by simp;omega,by omega,by omega,(fun e=>by cases e),fun x hx i hi=>?_⟩
 cases hx
 have hi':k+i < l.length:=by simp at hi;omega
 obtain⟨hs,hb,hcl⟩:=h1 _ rfl (k+i) hi'
 refine⟨rfl,hb,?_⟩
 simp only [Nat.add_assoc] at hcl ⊢
 rw [hcl];simp
theorem SlI.zero (w:World) (x:Addr) (c:Nat) (hc:c<=maxLen):SlI w (some x) 0 c []:=⟨rfl,Nat.zero_le _,hc,(fun h=>by cases h),fun y _ i hi=>by simp at hi⟩
def OwnI (base:Nat) (w:World) (v:Value) (l:List Int):Prop:=w.ownsRow base 3 1 v l.length (l.map iv)
theorem OwnI.sl (h:OwnI base w v l):∃ a c,v=.slice a l.length c/\SlI w a l.length c l:=by
 rcases id h.2 with⟨hv,hn⟩|⟨g,cap,cur,hv,hg,hc,hnc,hcm,hcs,htake⟩
 ·have hl:l=[]:=List.eq_nil_of_length_eq_zero hn
  subst hl
  exact⟨none,0,hv,SlI.nil w⟩
 ·refine⟨some ⟨g,0,none⟩,cap,hv,⟨rfl,hnc,hcm,(fun h=>by cases h),fun x hx i hi=>?_⟩⟩
  cases hx
  refine⟨rfl,(Array.getElem?_eq_some_iff.1 hc).1,?_⟩
  have:=World.ownsRow.cellAt (g:=g) (cap:=cap) (by rw [<-hv];exact h) i (by simpa using hi)
  simp only [Nat.zero_add]
  rw [this];simp [iv,hi]
theorem OwnI.lt (h:OwnI base w v l):∀ k,v.ownBlock=some k->base<=k/\k < w.heap.size:=World.ownsRow.lt h
theorem OwnI.ext (h:OwnI base w v l) (e:Below w.heap.size w w'):OwnI base w' v l:=by
 refine⟨h.1,?_⟩
 rcases h.2 with hn|⟨g,cap,cur,rfl,hb,hgg,rest⟩
 ·exact .inl hn
 ·exact .inr ⟨g,cap,cur,rfl,hb,(e.block g (Array.getElem?_eq_some_iff.1 hgg).1).trans hgg,rest⟩
theorem OwnI.mono {b':Nat} (h:OwnI b w v l) (hb:b'<=b):OwnI b' w v l:=by
 refine⟨h.1,?_⟩
 rcases h.2 with hn|⟨g,cap,cur,rfl,hbg,rest⟩
 ·exact .inl hn
 ·exact .inr ⟨g,cap,cur,rfl,Nat.le_trans hb hbg,rest⟩
theorem OwnI.alloc (h:OwnI base w v l) (o:Obj):OwnI base (w.alloc o) v l:=World.ownsRow.alloc h o
theorem OwnI.nil (base:Nat) (w:World):OwnI base w (.slice none 0 0) []:=World.ownsRow_nil w base _ _
theorem OwnI.empty (w:World) (hb:base<=w.heap.size):OwnI base (w.alloc (.cells #[] 3)) (.slice (some ⟨w.heap.size,0,none⟩) 0 0) [] :=
 World.ownsRow_made w #[] 0 hb (by unfold maxLen;omega) rfl
theorem OwnI.kept {row:Option Nat} (h:OwnI base w v l) (hg:w.grownBy w' row) (hne:∀ k,v.ownBlock=some k->row ≠ some k):OwnI base w' v l :=
 World.ownsRow.kept h hg (by
  cases hv:v.ownBlock with
 |none=>exact .inl rfl
 |some k=>exact .inr (fun e=>hne k hv e.symm))
theorem infoInt:(Tryz.prog.info? 3).map (fun i=>(i.zero,i.size,i.bytes))=some (some (.int .i64 0),1,8):=by kernel_rfl
theorem SlI.one (w:World) (z:Int) (t:TypeId):SlI (w.alloc (.cells #[.int .i64 z] t)) (some ⟨w.heap.size,0,none⟩) 1 1 [z]:=by
 refine⟨rfl,zN _,by unfold maxLen;omega,(fun h=>by cases h),fun x hx i hi=>?_⟩
 cases hx
 refine⟨rfl,by simp,?_⟩
 obtain rfl:i=0:=by simpa using hi
 rw [World.cell?_alloc_at _ _ _ _ rfl];rfl
theorem SlI.built (w:World) (A:Array Value) (l:List Int) (n k:Nat) (t:TypeId) (fr:Nat × Nat) (hA:A=(l.map iv).toArray) (hn:l.length=n) (hm:n<=maxLen) (hk:k=w.heap.size) :
 SlI (w.alloc (.cells A t fr)) (some ⟨k,0,none⟩) n n l:=by
 subst hA;subst hk
 refine⟨hn,zN _,hm,(fun h=>by cases h),fun x hx i hi=>?_⟩
 cases hx
 refine⟨rfl,by simp,?_⟩
 rw [cell_of_row _ _ _ _ _ _ (za_b w _ _ rfl)];simp [iv,hi]
theorem zd_d {ops:Array Oper} {rest:List Oper} {o:Oper} {a:Act} {Q:Exit->Act->World->Prop} (hgd:o.guard=none) (s x:Operand)
 (ho:o.op=.call { callee:=.builtin .append,args:=#[s,x],argTypes:=#[81,81] })
 (base:Nat) (v:Value) (l:List Int) (hs:a.eval s=v) (hown:OwnI base w v l) (b:Option Addr) (m c:Nat) (l2:List Int) (hx:a.eval x=.slice b m c) (hsl:SlI w b m c l2)
 (hlen:l.length+m<=10000000000000) (hbase:base<=w.heap.size)
 (h:∀ v' w',OwnI base w' v' (l ++ l2)->w.grownBy w' v.ownBlock->wpList Tryz.prog ops Q rest (a.put o.dst v') w'):wpList Tryz.prog ops Q (o :: rest) a w:=by
 obtain⟨i0,hi,hz0,hz1,hz2⟩:=info_parts infoInt
 cases b with
|none =>
  obtain⟨rfl,rfl⟩:=hsl.2.2.2.1 rfl
  obtain rfl:m=0:=hsl.1.symm
  refine wpList_append_own_none hgd s x 81 ho base 3 i0 1 Tryz.underlying81 hi v l.length _ hs hown hx ?_
  exact h v w (by simpa using hown) ⟨rfl,rfl,rfl,zN _,fun _ _ _=>rfl⟩
|some ad =>
  have hl2:=hsl.len
  refine wpList_append_own w hgd s x 81 ho base 3 i0 (.int .i64 0) 1 8 Tryz.underlying81 hi hz0 hz1 hz2 rfl (by decide) v l.length _ hs hown ad m c (l2.map iv) hx (by simp [hl2]) ?_ ?_ (by unfold maxLen;omega) (by omega) hbase ?_
  ·intro j u hj
   have hjl:j < l2.length:=by
    have:=(List.getElem?_eq_some_iff.1 hj).1;simpa using this
   obtain⟨hsp,hb,this⟩:=hsl.2.2.2.2 ad rfl j hjl
   have hadd:ad.add j=⟨ad.block,ad.off+j,none⟩:=by
    obtain⟨b,o,sp⟩:=ad;simp only at hsp;subst hsp;unfold Addr.add;split <;> simp_all
   rw [hadd,this];rw [<-hj];simp [iv,hjl]
  ·intro u hu
   obtain⟨b,_,rfl⟩:=List.mem_map.1 hu;rfl
  ·intro v' w' h1 h2 _
   refine h v' w' ?_ h2
   unfold OwnI;rw [List.length_append,List.map_append,hl2];exact h1
theorem za_x (B:Nat) (w:World) (n:Nat):Below B w (w.drewN n):=(Below.refl B w).trans ⟨rfl,rfl,rfl,zN _,fun _ _=>rfl⟩
end
section
open Go.RowKit
variable {w w' w1 w2:World} {F F' F2:Nat->Prop} {B c g n:Nat} {a:Option Addr} {l:List (Int × Int)} {x:Addr}
structure Upd (F:Nat->Prop) (w:World) (F':Nat->Prop) (w':World):Prop where
 os:w'.os=w.os
 tape:w'.tape=w.tape
 output:w'.output=w.output
 size:w.heap.size<=w'.heap.size
 block:∀ k,k < w.heap.size->¬ F k->w'.heap[k]?=w.heap[k]?
 new:∀ k,F' k->F k\/w.heap.size<=k
theorem Upd.refl (F:Nat->Prop) (w:World):Upd F w F w:=⟨rfl,rfl,rfl,zN _,fun _ _ _=>rfl,fun _ h=>.inl h⟩
theorem Upd.trans {F1:Nat->Prop} (h:Upd F w F1 w1) (k:Upd F1 w1 F2 w2):Upd F w F2 w2 where
 os:=k.os.trans h.os
 tape:=k.tape.trans h.tape
 output:=k.output.trans h.output
 size:=Nat.le_trans h.size k.size
 block i hi hF:=(k.block i (Nat.lt_of_lt_of_le hi h.size) (fun e=>by rcases h.new i e with e1|e1;exact hF e1;omega)).trans (h.block i hi hF)
 new i hi:=by
  rcases k.new i hi with e|e
  ·exact h.new i e
  ·exact .inr (Nat.le_trans h.size e)
theorem Upd.of_ext (h:Below w.heap.size w w'):Upd F w F w':=⟨h.os,h.tape,h.output,h.size,fun k hk _=>h.block k hk,fun _ h=>.inl h⟩
theorem Upd.ext (h:Upd F w F' w1) (k:Below w1.heap.size w1 w2):Upd F w F' w2:=h.trans (Upd.of_ext k)
theorem Upd.drew (h:Upd F w F' w1):Upd F w F' w1.drew:=⟨h.os,h.tape,h.output,h.size,h.block,h.new⟩
theorem Upd.drewN (h:Upd F w F' w1) (n:Nat):Upd F w F' (w1.drewN n):=⟨h.os,h.tape,h.output,h.size,h.block,h.new⟩
theorem Upd.alloc (h:Upd F w F' w1) (o:Obj):Upd F w F' (w1.alloc o):=h.ext ((Below.refl _ _).alloc (zN _) o)
theorem Upd.setCell (h:Upd F w F' w1) (hg:F g\/w.heap.size<=g) (o:Nat) (v:Value):Upd F w F' (w1.setCell ⟨g,o,none⟩ v) where
 os:=h.os
 tape:=h.tape
 output:=h.output
 size:=by simpa using h.size
 block k hk hF:=(heap_setCell_other _ _ _ _ (fun e=>by subst e;rcases hg with e1|e1;exact hF e1;omega)).trans (h.block k hk hF)
 new:=h.new
theorem Upd.but (h:Upd F w F' w1) (hg:F g\/w.heap.size<=g) (k:But g w1 w2):Upd F w F' w2 where
 os:=k.os.trans h.os
 tape:=k.tape.trans h.tape
 output:=k.output.trans h.output
 size:=Nat.le_trans h.size k.size
 block i hi hF:=(k.block i (Nat.lt_of_lt_of_le hi h.size) (fun e=>by subst e;rcases hg with e1|e1;exact hF e1;omega)).trans (h.block i hi hF)
 new:=h.new
theorem Upd.grown {row:Option Nat} (h:Upd F w F' w1) (hg:∀ g,row=some g->F g\/w.heap.size<=g) (k:w1.grownBy w2 row):Upd F w F' w2 where
 os:=k.os.trans h.os
 tape:=k.tape.trans h.tape
 output:=k.output.trans h.output
 size:=Nat.le_trans h.size k.size
 block i hi hF:=(k.block i (Nat.lt_of_lt_of_le hi h.size) (fun e=>by rcases hg i e.symm with e1|e1;exact hF e1;omega)).trans (h.block i hi hF)
 new:=h.new
theorem Upd.grow (h:Upd F w F' w1) (h2:∀ k,F2 k->F k\/w.heap.size<=k):Upd F w F2 w1:=⟨h.os,h.tape,h.output,h.size,h.block,h2⟩
theorem Upd.below {w0:World} (h:Upd F w F' w') (hb:Below B w0 w) (hF:∀ k,F k->B<=k) (hB:B<=w.heap.size):Below B w0 w' :=
 hb.trans ⟨h.os,h.tape,h.output,h.size,fun k hk=>h.block k (by omega) (fun e=>by have:=hF k e;omega)⟩
theorem Upd.lo (h:Upd F w F' w') (hF:∀ k,F k->B<=k) (hB:B<=w.heap.size):∀ k,F' k->B<=k:=fun k hk=>by
 rcases h.new k hk with e|e
 ·exact hF k e
 ·omega
theorem Upd.apart {G:Nat->Prop} (h:Upd F w F' w') (hF:∀ k,F k->¬ G k) (hG:∀ k,G k->k < w.heap.size):∀ k,F' k->¬ G k:=fun k hk hg=>by
 rcases h.new k hk with e|e
 ·exact hF k e hg
 ·have:=hG k hg;omega
theorem SlB.stay {l:List UInt8} (h:SlB w a n c l) (e:∀ x,a=some x->l ≠ []->w'.heap[x.block]?=w.heap[x.block]?) (hz:w.heap.size<=w'.heap.size):SlB w' a n c l:=by
 obtain⟨hl,hn,hc,h0,h1⟩:=h
 refine⟨hl,hn,hc,h0,fun x hx i hi=>?_⟩
 obtain⟨hs,hb,hi'⟩:=h1 x hx i hi
 exact⟨hs,Nat.lt_of_lt_of_le hb hz,(World.cell?_of_block (a:=⟨x.block,x.off+i,none⟩) (e x hx (by rintro rfl;simp at hi))).trans hi'⟩
theorem SlB.upd {l:List UInt8} (h:SlB w a n c l) (k:Upd F w F' w') (hF:∀ x,a=some x->l ≠ []->¬ F x.block):SlB w' a n c l :=
 h.stay (fun x hx hl=>k.block _ ((h.2.2.2.2 x hx 0 (List.length_pos_iff.2 hl)).2.1) (hF x hx hl)) k.size
theorem SlB.blt {l:List UInt8} (h:SlB w (some x) n c l) (hl:l ≠ []):x.block < w.heap.size:=(h.2.2.2.2 x rfl 0 (List.length_pos_iff.2 hl)).2.1
theorem OwnB.upd {base:Nat} {v:Value} {l:List UInt8} (h:OwnB base w v l) (k:Upd F w F' w') (hF:∀ g,v.ownBlock=some g->¬ F g):OwnB base w' v l:=by
 refine⟨h.1,?_⟩
 rcases h.2 with hn|⟨g,cap,cur,rfl,hb,hgg,rest⟩
 ·exact .inl hn
 ·exact .inr ⟨g,cap,cur,rfl,hb,(k.block g (Array.getElem?_eq_some_iff.1 hgg).1 (hF g rfl)).trans hgg,rest⟩
def SlP (w:World) (a:Option Addr) (n c:Nat) (l:List (Int × Int)):Prop :=
 l.length=n/\n<=c/\c<=maxLen/\(a=none->l=[]/\c=0) ∧
  ∀ x,a=some x->∀ i (h:i < l.length),x.spot=none/\x.block < w.heap.size/\w.cell? ⟨x.block,x.off+i * 2,none⟩=some (.int .i64 l[i].1)/\w.cell? ⟨x.block,x.off+i * 2+1,none⟩=some (.int .i64 l[i].2)
theorem SlP.len (h:SlP w a n c l):l.length=n:=h.1
theorem SlP.le (h:SlP w a n c l):n<=9223372036854775807:=by
 have:=h.2.1;have:=h.2.2.1;unfold maxLen at *;omega
theorem SlP.nil (w:World):SlP w none 0 0 []:=⟨rfl,zN _,by unfold maxLen;omega,fun _=>⟨rfl,rfl⟩,fun x hx=>by cases hx⟩
theorem SlP.at (h:SlP w a n c l) {k:Nat} (hk:k < n) :
 ∃ b o,a=some ⟨b,o,none⟩/\b < w.heap.size/\w.cell? ⟨b,o+k * 2,none⟩=some (.int .i64 (l[k]?.getD (0,0)).1)/\w.cell? ⟨b,o+k * 2+1,none⟩=some (.int .i64 (l[k]?.getD (0,0)).2):=by
 obtain⟨hl,hn,hc,h0,h1⟩:=h
 cases a with
|none=>have:=(h0 rfl).1;subst this;simp at hl;omega
|some x =>
  obtain⟨b,o,sp⟩:=x
  have hk':k < l.length:=by omega
  obtain⟨hs,hb,hi⟩:=h1 _ rfl k hk'
  simp only at hs;subst hs
  refine⟨b,o,rfl,hb,?_⟩
  rw [List.getElem?_eq_getElem hk']
  exact hi
theorem SlP.stay (h:SlP w a n c l) (e:∀ x,a=some x->l ≠ []->w'.heap[x.block]?=w.heap[x.block]?) (hz:w.heap.size<=w'.heap.size):SlP w' a n c l:=by
 obtain⟨hl,hn,hc,h0,h1⟩:=h
 refine⟨hl,hn,hc,h0,fun x hx i hi=>?_⟩
 obtain⟨hs,hb,hi1,hi2⟩:=h1 x hx i hi
 have e':=e x hx (by rintro rfl;simp at hi)
 exact⟨hs,Nat.lt_of_lt_of_le hb hz,(World.cell?_of_block (a:=⟨x.block,x.off+i * 2,none⟩) e').trans hi1,(World.cell?_of_block (a:=⟨x.block,x.off+i * 2+1,none⟩) e').trans hi2⟩
theorem SlP.ext (h:SlP w a n c l) (e:Below w.heap.size w w'):SlP w' a n c l :=
 h.stay (fun x hx hl=>e.block _ ((h.2.2.2.2 x hx 0 (List.length_pos_iff.2 hl)).2.1)) e.size
theorem SlP.upd (h:SlP w a n c l) (k:Upd F w F' w') (hF:∀ x,a=some x->l ≠ []->¬ F x.block):SlP w' a n c l :=
 h.stay (fun x hx hl=>k.block _ ((h.2.2.2.2 x hx 0 (List.length_pos_iff.2 hl)).2.1) (hF x hx hl)) k.size
theorem SlP.blt (h:SlP w (some x) n c l) (hl:l ≠ []):x.block < w.heap.size:=(h.2.2.2.2 x rfl 0 (List.length_pos_iff.2 hl)).2.1
end
section
open Go.RowKit
def SeqIx (F:Fence) (n:Nat) (P:Program) (g:Nat) (lb:Array Value) (enc:Nat->Array Value) (Kp:World->World->Prop) (N:Nat) (w:World):Prop :=
 ∀ (l:Nat) (J Jx:Nat->World->Prop) (W:World),Below w.heap.size w W →
  (∀ k W1,J k W1->k < N->YieldAt F (n - 1) P l (enc k) W1 fun e W'=>(e=.returned (.bool true)/\J (k+1) W'/\Kp W1 W')\/(e=.returned (.bool false)/\Jx (k+1) W')) →
  J 0 W->CallsIn F n P g (#[.func (.yield l) #[] #[]] ++ lb) W fun e W'=>(∃ v,e=.returned v)/\(J N W'\/∃ k,k<=N/\Jx k W')
def RoundEnds (B:Nat) (Kp:World->World->Prop) (I:Nat->World->Prop) (Ix:Code->Nat->World->Prop) (k:Nat) (W:World):Exit->Act->World->Prop
|.normal,_,W'=>KeepsFrom B W W'/\Kp W W'/\I k W'
|.ret,_,W'=>KeepsFrom B W W'/\Ix .ret k W'
|.exit id,_,W'=>KeepsFrom B W W'/\Ix (.exit id) k W'
|_,_,_=>False
def Stable (B:Nat) (I:Nat->World->Prop):Prop:=∀ k W l o o',I k W->B<=l->W.heap[l]?=some o->o.isCells=false->I k (W.putObj l o')
theorem ze_n {F:Fence} {n:Nat} {P:Program} {g:Operand} {ps:Array Tmp} {assign body:Code} {Q:Exit->Act->World->Prop} {a:Act} {w:World}
 (hro:F.round=none) (h1:1<=n) {gf:Nat} {lb:Array Value} (hg:a.eval g=.func (.func gf) #[] lb) (hFg:F.fn gf) (eg:∀ args w,(callFunc gf args).run P w=.ok (.enter gf args) w)
 {enc:Nat->Array Value} {Kp:World->World->Prop} {N:Nat} {w0:World} (hseq:SeqIx F (n - 1) P gf lb enc Kp N w0)
 (hKt:∀ {A B C:World},Kp A B->Kp B C->Kp A C) (hKb:∀ (W:World) (l:Nat) (o o':Obj),w.heap.size<=l->W.heap[l]?=some o->o.isCells=false->Kp W (W.putObj l o')) (hb0:Below w0.heap.size w0 w) (hps:∀ k,(enc k).size=ps.size)
 (I:Nat->World->Prop) (Ix:Code->Nat->World->Prop) (hI:Stable w.heap.size I) (hIx:∀ c,Stable w.heap.size (Ix c)) (h0:∀ o o',I 0 ((w.alloc o).alloc o')) (I':Nat->Act->World->Prop) (hI':∀ a1,Stable w.heap.size (fun k W=>I' k a1 W))
 (hassign:∀ (l:Nat) (k:Nat) (W:World),I k W->k < N →
  assign.wpIn (F.inRound l) (n - 1 - 1) P (Exit.then (fun a1 W1=>KeepsFrom w.heap.size W W1/\Kp W W1/\I' k a1 W1) (fun _ _ _=>False)) { tmps:=(ps.zip (enc k)).foldl (fun t (p,v)=>t.setIfInBounds p v) a.tmps,defers:=[] } W)
 (hbody:∀ (l:Nat) (k:Nat) (a1:Act) (W:World),I' k a1 W->k < N->body.wpIn (F.inRound l) (n - 1 - 1) P (RoundEnds w.heap.size Kp I Ix (k+1) W) a1 W)
 (hdone:∀ (D:Nat) (W:World),w.heap.size<=D->I N W->W.heap[D]?=some (.deferred (some []))->Q .normal { a with defers:={ target:=.collected D,args:=#[] } :: a.defers } W)
 (hstop:∀ (D:Nat) (c:Code) (k:Nat) (W:World),w.heap.size<=D->k<=N->Ix c k W->W.heap[D]?=some (.deferred (some []))->c.wpIn F n P Q { a with defers:={ target:=.collected D,args:=#[] } :: a.defers } W) :
 (Code.rangeFunc g ps assign body).wpIn F n P Q a w:=by
 refine wpIn_rangeFunc (fun fn hfn=>?_)
 rw [hro]
 obtain⟨R,hR⟩:∃ R:LoopState->Option Code->Loop,R=fun st pe=>{ state:=st,pending:=pe,fn,tmps:=a.tmps,params:=ps,assign,body,defers:=w.heap.size }:=⟨_,rfl⟩
 have e0:∀ st pe,(R st pe).state=st/\(R st pe).params=ps/\(R st pe).pending=pe:=by intro st pe;rw [hR];exact⟨rfl,rfl,rfl⟩
 have hW1a:∀ W1,W1=(w.alloc (.deferred (some []))).alloc (.loop (R .ready none))->W1.heap[w.heap.size+1]?=some (.loop (R .ready none))/\W1.heap[w.heap.size]?=some (.deferred (some []))/\Below w0.heap.size w0 W1/\I 0 W1:=by
  rintro W1 rfl
  refine⟨za_b _ _ _ (by simp),(za_c _ _ _ (by simp)).trans (za_b _ _ _ rfl),?_,h0 _ _⟩
  exact (hb0.alloc hb0.size _).alloc (by have:=hb0.size;simp;omega) _
 obtain⟨hl1,hd1,hb1,hi1⟩:=hW1a _ rfl
 refine⟨w.heap.size+1,[{ target:=.collected w.heap.size,args:=#[] }],(w.alloc (.deferred (some []))).alloc (.loop (R .ready none)),{ target:=.fn (.func gf) lb,args:=#[.func (.yield (w.heap.size+1)) #[] #[]] },(w.alloc (.deferred (some []))).alloc (.loop (R .ready none)),gf,
  #[.func (.yield (w.heap.size+1)) #[] #[]] ++ lb,(w.alloc (.deferred (some []))).alloc (.loop (R .ready none)),?_,?_,?_,?_,fun _=>h1,?_⟩
 ·rw [hR];exact run_enterLoop_outer _ _ _ _ _
 ·simp only [resolve,hg];simp [go_sem]
 ·intro f' hf';simp [Target.leads] at hf';subst hf';exact hFg
 ·simp [invoke,go_sem,eg]
 ·refine (hseq (w.heap.size+1)
   (fun k W=>I k W/\W.heap[w.heap.size+1]?=some (.loop (R .ready none))/\W.heap[w.heap.size]?=some (.deferred (some [])))
   (fun k W=>∃ c,Ix c k W/\W.heap[w.heap.size+1]?=some (.loop (R .done (some c)))/\W.heap[w.heap.size]?=some (.deferred (some [])))
   _ hb1 ?_ ⟨hi1,hl1,hd1⟩).mono ?_
  ·
   rintro k W ⟨hi,hl,hd⟩ hk
   have hy:=run_yield (P:=P) (args:=enc k) hl (by rw [(e0 _ _).2.1];exact hps k)
   have hyR:(Instr.yield (w.heap.size+1) (enc k)).run P W=.ok (.round (w.heap.size+1) fn ((ps.zip (enc k)).foldl (fun t (p,v)=>t.setIfInBounds p v) a.tmps) assign body) W:=by rw [hR] at hy;exact hy
   refine⟨fn,_,assign,body,hyR,roundIn_of_wpIn hfn (wpIn_mono (hassign _ k W hi hk) ?_)⟩
   rintro e1 a1 W0 hp0
   cases e1 with
  |ret=>exact hp0.elim
  |exit id=>exact hp0.elim
  |goto t=>exact hp0.elim
  |panic ch=>exact hp0.elim
  |outgrown=>exact hp0.elim
  |normal =>
   obtain⟨g1,g2,g3⟩:=(show KeepsFrom w.heap.size W W0/\Kp W W0/\I' k a1 W0 from hp0)
   have hl0:=g1.same _ _ (by omega) hl rfl
   have hd0:=g1.same _ _ (zN _) hd rfl
   refine⟨_,run_beginRound hl0 (e0 _ _).1,?_⟩
   obtain⟨b,hb⟩:∃ b:Loop,b={ R .ready none with state:=.busy }:=⟨_,rfl⟩
   rw [<-hb]
   have hl2:(W0.putObj (w.heap.size+1) (.loop b)).heap[w.heap.size+1]?=some (.loop b):=World.putObj_heap_same (za_a hl0)
   have hd2:(W0.putObj (w.heap.size+1) (.loop b)).heap[w.heap.size]?=some (.deferred (some [])):=(World.putObj_heap_other (by omega)).trans hd0
   have hk2:Kp W (W0.putObj (w.heap.size+1) (.loop b)):=hKt g2 (hKb _ _ _ _ (by omega) hl0 rfl)
   have ends:∀ (j:Option Code) (W3:World),KeepsFrom w.heap.size (W0.putObj (w.heap.size+1) (.loop b)) W3 →
    ∃ W4,W4=W3.putObj (w.heap.size+1) (.loop (R (if j.isNone then .ready else .done) j))/\(Instr.endRound (w.heap.size+1) j).run P W3=.ok (.bool j.isNone) W4/\W3.heap[w.heap.size+1]?=some (.loop b) ∧
     W4.heap[w.heap.size+1]?=some (.loop (R (if j.isNone then .ready else .done) j))/\W4.heap[w.heap.size]?=some (.deferred (some [])):=by
    intro j W3 hk3
    have hl3:=hk3.same _ _ (by omega) hl2 rfl
    refine⟨_,rfl,?_,hl3,World.putObj_heap_same (za_a hl3),(World.putObj_heap_other (by omega)).trans (hk3.same _ _ (zN _) hd2 rfl)⟩
    have:=run_endRound (P:=P) j hl3
    rw [hb,hR] at this;rw [hR];exact this
   refine wpIn_mono (hbody _ k a1 _ (hI' a1 _ _ _ _ _ g3 (by omega) hl0 rfl) hk) ?_
   rintro e a3 W3 hp
   cases e with
  |normal =>
    obtain⟨h3,h4,h5⟩:=hp
    obtain⟨W4,rfl,hr,hl3,hl4,hd4⟩:=ends none W3 h3
    exact⟨_,_,hr,.inl ⟨rfl,⟨hI _ _ _ _ _ h5 (by omega) hl3 rfl,hl4,hd4⟩,hKt (hKt hk2 h4) (hKb _ _ _ _ (by omega) hl3 rfl)⟩⟩
  |ret =>
    obtain⟨h3,h5⟩:=hp
    obtain⟨W4,rfl,hr,hl3,hl4,hd4⟩:=ends (some .ret) W3 h3
    exact⟨_,_,hr,.inr ⟨rfl,.ret,hIx _ _ _ _ _ _ h5 (by omega) hl3 rfl,hl4,hd4⟩⟩
  |exit id =>
    obtain⟨h3,h5⟩:=hp
    obtain⟨W4,rfl,hr,hl3,hl4,hd4⟩:=ends (some (.exit id)) W3 h3
    exact⟨_,_,hr,.inr ⟨rfl,.exit id,hIx _ _ _ _ _ _ h5 (by omega) hl3 rfl,hl4,hd4⟩⟩
  |goto t=>exact hp.elim
  |panic ch=>exact hp.elim
  |outgrown=>exact hp.elim
  ·
   rintro e W2 ⟨⟨v,rfl⟩,(⟨hi,hl,hd⟩|⟨k,hk,c,hi,hl,hd⟩)⟩
   ·have hr:=run_endLoop (P:=P) hl (by rw [(e0 _ _).1];simp)
    rw [(e0 _ _).2.2] at hr
    exact⟨none,_,hr,hdone _ _ (zN _) (hI _ _ _ _ _ hi (by omega) hl rfl) ((World.putObj_heap_other (by omega)).trans hd)⟩
   ·have hr:=run_endLoop (P:=P) hl (by rw [(e0 _ _).1];simp)
    rw [(e0 _ _).2.2] at hr
    exact⟨some c,_,hr,hstop _ c k _ (zN _) hk (hIx _ _ _ _ _ _ hi (by omega) hl rfl) ((World.putObj_heap_other (by omega)).trans hd)⟩
end
section
namespace Disk
structure Dk where
 st:List (List UInt8)
 ca:List (Option (List UInt8))
 fs:List (Int × Int)
 cnt:Int
 off:Bool
structure Dk.Ok (d:Dk):Prop where
 len:d.ca.length=d.st.length
 pos:1<=d.st.length
 max:d.st.length<=4096
 st64:∀ x ∈ d.st,x.length=64
 ca64:∀ x,some x ∈ d.ca->x.length=64
def new (n:Nat):Dk:=⟨List.replicate n (List.replicate 64 0),List.replicate n none,[],0,false⟩
def chunks (n:Nat) (l:List UInt8):List (List UInt8):=(List.range n).map fun i=>(l.drop (64 * i)).take 64
def load (n:Nat) (l:List UInt8):Dk:=⟨chunks n l,List.replicate n none,[],0,false⟩
def fault (d:Dk):Int:=((d.fs.find? fun f=>f.1 == d.cnt).map (·.2)).getD 0
def tick (d:Dk):Dk:={ d with cnt:=Go.RowKit.wrap64 (d.cnt+1) }
def cut (d:Dk):Dk:={ d with off:=true }
def begin (d:Dk) (fits:Bool):Bool × Int × Dk :=
 if d.off then (false,10,d) else if fits then (if fault d=1 then (false,9,tick d) else if fault d=2 then (true,0,tick d) else (false,0,tick d)) else (false,2,d)
def content (d:Dk) (i:Nat):List UInt8:=((d.ca[i]?.getD none).getD (d.st[i]?.getD []))
def fits (d:Dk) (i:Int):Bool:=decide (0<=i) && decide (i < (d.st.length:Int))
def put (d:Dk) (i:Nat) (x:List UInt8):Dk:={ d with ca:=d.ca.set i (some x) }
def flush (d:Dk):Dk:={ d with st:=(List.range d.st.length).map (content d),ca:=List.replicate d.ca.length none }
def read (d:Dk) (i:Int):List UInt8 × Int × Dk :=
 match begin d (fits d i) with
|(true,_,d')=>([],10,cut d')
|(false,e,d')=>if e=0 then (content d i.toNat,0,d') else ([],e,d')
def write (d:Dk) (i:Int) (x:List UInt8):Int × Dk :=
 match begin d (fits d i && decide (x.length=64)) with
|(true,_,d')=>(10,cut (put d' i.toNat x))
|(false,e,d')=>if e=0 then (0,put d' i.toNat x) else (e,d')
def sync (d:Dk):Int × Dk :=
 match begin d true with
|(true,_,d')=>(10,cut d')
|(false,e,d')=>if e=0 then (0,flush d') else (e,d')
def tear (d:Dk) (k:Int × Int):Dk :=
 if 0<=k.1 then
  match d.ca[k.1.toNat]? with
 |some (some x)=>{ d with st:=d.st.set k.1.toNat (x.take (min (max k.2 0) 64).toNat ++ (d.st[k.1.toNat]?.getD []).drop (min (max k.2 0) 64).toNat) }
 |_=>d
 else d
def restart (d:Dk) (keep:List (Int × Int)):Dk :=
 { keep.foldl tear d with ca:=List.replicate d.ca.length none,fs:=[],cnt:=0,off:=false }
theorem flat_length (st:List (List UInt8)) (h:∀ x ∈ st,x.length=64):st.flatten.length=64 * st.length:=by
 induction st with
|nil=>rfl
|cons a st ih =>
  have h1:=h a (by simp)
  have h2:=ih (fun x hx=>h x (by simp [hx]))
  simp only [List.flatten_cons,List.length_append,List.length_cons];omega
theorem zc_h (st:List (List UInt8)) (h:∀ x ∈ st,x.length=64) (i:Nat):st.flatten.drop (64 * i)=(st.drop i).flatten:=by
 induction st generalizing i with
|nil=>simp
|cons a st ih =>
  have h1:=h a (by simp)
  cases i with
 |zero=>simp
 |succ i =>
   rw [List.flatten_cons,List.drop_append,List.drop_of_length_le (by omega),h1,show 64 * (i+1) - 64=64 * i by omega,ih (fun x hx=>h x (by simp [hx]))];simp
theorem zd_x (st:List (List UInt8)) (h:∀ x ∈ st,x.length=64) (i:Nat):st.flatten.take (64 * i)=(st.take i).flatten:=by
 induction st generalizing i with
|nil=>simp
|cons a st ih =>
  have h1:=h a (by simp)
  cases i with
 |zero=>simp
 |succ i =>
   rw [List.flatten_cons,List.take_append,List.take_of_length_le (by omega),h1,show 64 * (i+1) - 64=64 * i by omega,ih (fun x hx=>h x (by simp [hx]))];simp
theorem flat_slot (st:List (List UInt8)) (h:∀ x ∈ st,x.length=64) (i:Nat) (hi:i < st.length):(st.flatten.drop (64 * i)).take 64=st[i]?.getD []:=by
 rw [zc_h st h,List.drop_eq_getElem_cons hi,List.flatten_cons,List.take_append,List.take_of_length_le (by have:=h st[i] (List.getElem_mem hi);omega),h st[i] (List.getElem_mem hi)]
 simp [hi]
theorem flat_set (st:List (List UInt8)) (h:∀ x ∈ st,x.length=64) (i:Nat) (hi:i < st.length) (x:List UInt8) (m:Nat) (hx:x.length=m) (hm:m<=64) :
 st.flatten.take (64 * i) ++ x ++ st.flatten.drop (64 * i+m)=(st.set i (x ++ (st[i]?.getD []).drop m)).flatten:=by
 have h1:=h st[i] (List.getElem_mem hi)
 rw [zd_x st h,<-List.drop_drop,zc_h st h,List.set_eq_take_append_cons_drop,if_pos hi,List.flatten_append,List.flatten_cons,List.drop_eq_getElem_cons hi,List.flatten_cons,List.drop_append]
 simp only [List.getElem?_eq_getElem hi,Option.getD_some]
 rw [show m - st[i].length=0 by omega]
 simp
theorem chunks_flat (n:Nat) (l:List UInt8) (h:l.length=64 * n):(chunks n l).flatten=l:=by
 induction n generalizing l with
|zero=>simp [chunks];exact List.eq_nil_of_length_eq_zero (by omega)
|succ n ih =>
  have:=ih (l.drop 64) (by simp;omega)
  unfold chunks at this ⊢
  rw [List.range_succ_eq_map]
  simp only [List.map_cons,List.map_map,List.flatten_cons]
  have e:((fun i=>(l.drop (64 * i)).take 64) ∘ Nat.succ)=fun i=>((l.drop 64).drop (64 * i)).take 64:=by
   funext i;simp only [Function.comp,List.drop_drop];congr 2;omega
  rw [e,this];simp
theorem chunks_length (n:Nat) (l:List UInt8):(chunks n l).length=n:=by simp [chunks]
theorem chunks_mem (n:Nat) (l:List UInt8) (h:l.length=64 * n):∀ x ∈ chunks n l,x.length=64:=by
 intro x hx
 obtain⟨i,hi,rfl⟩:=List.mem_map.1 hx
 have:=List.mem_range.1 hi
 rw [List.length_take,List.length_drop];omega
theorem Dk.Ok.tick {d:Dk} (h:d.Ok):(tick d).Ok:=⟨h.len,h.pos,h.max,h.st64,h.ca64⟩
theorem Dk.Ok.cut {d:Dk} (h:d.Ok):(cut d).Ok:=⟨h.len,h.pos,h.max,h.st64,h.ca64⟩
theorem Dk.Ok.put {d:Dk} (h:d.Ok) (i:Nat) (x:List UInt8) (hx:x.length=64):(put d i x).Ok :=
 ⟨by simp [Disk.put,h.len],h.pos,h.max,h.st64,fun y hy=>by
  rcases List.mem_or_eq_of_mem_set hy with h1|h1
  ·exact h.ca64 y h1
  ·cases h1;exact hx⟩
theorem content64 {d:Dk} (h:d.Ok) (i:Nat) (hi:i < d.st.length):(content d i).length=64:=by
 unfold content
 have h1:i < d.ca.length:=by rw [h.len];exact hi
 rw [List.getElem?_eq_getElem h1,List.getElem?_eq_getElem hi]
 simp only [Option.getD_some]
 cases hc:d.ca[i] with
|none=>simpa using h.st64 _ (List.getElem_mem hi)
|some x=>simpa using h.ca64 x (by rw [<-hc];exact List.getElem_mem h1)
theorem Dk.Ok.flush {d:Dk} (h:d.Ok):(flush d).Ok:=by
 refine⟨by simp [Disk.flush,h.len],by simpa [Disk.flush] using h.pos,by simpa [Disk.flush] using h.max,fun x hx=>?_,fun x hx=>?_⟩
 ·simp [Disk.flush] at hx
  obtain⟨i,hi,rfl⟩:=hx
  exact content64 h i hi
 ·simp [Disk.flush] at hx
theorem Dk.Ok.begin {d:Dk} (h:d.Ok) (b:Bool):(begin d b).2.2.Ok:=by
 unfold Disk.begin;repeat' split
 all_goals first|exact h|exact h.tick
theorem begin_st (d:Dk) (b:Bool):(begin d b).2.2.st=d.st/\(begin d b).2.2.ca=d.ca:=by
 unfold Disk.begin;repeat' split
 all_goals exact⟨rfl,rfl⟩
theorem Dk.Ok.read {d:Dk} (h:d.Ok) (i:Int):(read d i).2.2.Ok:=by
 have hb:=h.begin (fits d i)
 unfold Disk.read;split
 ·rename_i e;rw [e] at hb;exact hb.cut
 ·rename_i e;rw [e] at hb;split <;> exact hb
theorem Dk.Ok.write {d:Dk} (h:d.Ok) (i:Int) (x:List UInt8):(write d i x).2.Ok:=by
 have hb:=h.begin (fits d i && decide (x.length=64))
 have hx:∀ e,(Disk.begin d (fits d i && decide (x.length=64))).2.1=e->e=0->x.length=64:=by
  intro e h1 h2
  by_cases hx:x.length=64
  ·exact hx
  ·subst h2
   unfold Disk.begin at h1
   rw [decide_eq_false hx,Bool.and_false] at h1
   by_cases ho:d.off=true
   ·rw [if_pos ho] at h1;cases h1
   ·rw [if_neg ho] at h1;simp at h1
 have h3:∀ r,Disk.begin d (fits d i && decide (x.length=64))=(true,r)->x.length=64:=by
  intro r h1
  by_cases hx:x.length=64
  ·exact hx
  ·unfold Disk.begin at h1
   rw [decide_eq_false hx,Bool.and_false] at h1
   by_cases ho:d.off=true
   ·rw [if_pos ho] at h1;cases h1
   ·rw [if_neg ho] at h1;simp at h1
 unfold Disk.write;split
 ·rename_i e;rw [e] at hb;exact (hb.put _ _ (h3 _ e)).cut
 ·rename_i e;rw [e] at hb hx;split
  ·rename_i e2;exact hb.put _ _ (hx _ rfl e2)
  ·exact hb
theorem Dk.Ok.sync {d:Dk} (h:d.Ok):(sync d).2.Ok:=by
 have hb:=h.begin true
 unfold Disk.sync;split
 ·rename_i e;rw [e] at hb;exact hb.cut
 ·rename_i e;rw [e] at hb;split
  ·exact hb.flush
  ·exact hb
theorem zn_v (d:Dk) (k:Int × Int):(tear d k).ca=d.ca/\(tear d k).st.length=d.st.length:=by
 unfold tear;split
 ·split <;> simp
 ·exact⟨rfl,rfl⟩
theorem Dk.Ok.tear {d:Dk} (h:d.Ok) (k:Int × Int):(tear d k).Ok:=by
 obtain⟨h1,h2⟩:=zn_v d k
 refine⟨by rw [h1,h2];exact h.len,by rw [h2];exact h.pos,by rw [h2];exact h.max,fun x hx=>?_,fun x hx=>h.ca64 x (by rw [h1] at hx;exact hx)⟩
 unfold Disk.tear at hx
 split at hx
 ·split at hx
  ·rename_i y hy
   rcases List.mem_or_eq_of_mem_set hx with h3|h3
   ·exact h.st64 x h3
   ·have hk:k.1.toNat < d.st.length:=by rw [<-h.len];exact (List.getElem?_eq_some_iff.1 hy).1
    have h4:=h.ca64 y (List.mem_of_getElem? hy)
    have h5:=h.st64 _ (List.getElem_mem hk)
    rw [h3,List.getElem?_eq_getElem hk,Option.getD_some,List.length_append,List.length_take,List.length_drop]
    omega
  ·exact h.st64 x hx
 ·exact h.st64 x hx
theorem Dk.Ok.tears {d:Dk} (h:d.Ok) (ks:List (Int × Int)):(ks.foldl Disk.tear d).Ok/\(ks.foldl Disk.tear d).ca=d.ca/\(ks.foldl Disk.tear d).st.length=d.st.length:=by
 induction ks generalizing d with
|nil=>exact⟨h,rfl,rfl⟩
|cons k ks ih =>
  obtain⟨h1,h2,h3⟩:=ih (h.tear k)
  obtain⟨h4,h5⟩:=zn_v d k
  exact⟨h1,h2.trans h4,h3.trans h5⟩
theorem Dk.Ok.restart {d:Dk} (h:d.Ok) (ks:List (Int × Int)):(restart d ks).Ok:=by
 obtain⟨h1,h2,h3⟩:=h.tears ks
 exact⟨by simp [Disk.restart,h3,h.len],by simpa [Disk.restart,h3] using h.pos,by simpa [Disk.restart,h3] using h.max,h1.st64,fun x hx=>by simp [Disk.restart] at hx⟩
theorem new_ok (n:Nat) (h1:1<=n) (h2:n<=4096):(new n).Ok :=
 ⟨by simp [new],by simpa [new] using h1,by simpa [new] using h2,fun x hx=>by simp [new] at hx;simp [hx.2],fun x hx=>by simp [new] at hx⟩
theorem new_flat (n:Nat):(new n).st.flatten=List.replicate (64 * n) 0:=by
 induction n with
|zero=>rfl
|succ n ih =>
  have e:(new (n+1)).st=List.replicate 64 0 :: (new n).st:=rfl
  rw [e,List.flatten_cons,ih,List.replicate_append_replicate];congr 1;omega
end Disk
end
section
namespace Extent
open Disk (Dk)
def pos (off e k:Nat):Nat:=max off (min e (64 * (off / 64+k)))
def cnt (off e:Nat):Nat:=if off < e then (e+63) / 64 - off / 64 else 0
def step (e p:Nat):Nat:=min (64 - p % 64) (e - p)
theorem pos_zero (off e:Nat):pos off e 0=off:=by unfold pos;omega
theorem pos_lt (off e k:Nat) (h:off<=e):pos off e k < e ↔ k < cnt off e:=by unfold pos cnt;split <;> omega
theorem pos_le (off e k:Nat) (h:off<=e):pos off e k<=e:=by unfold pos;omega
theorem pos_ge (off e k:Nat):off<=pos off e k:=by unfold pos;omega
theorem pos_succ (off e k:Nat) (h:k < cnt off e):pos off e (k+1)=pos off e k+step e (pos off e k):=by
 unfold cnt at h;split at h
 ·unfold step pos;omega
 ·omega
theorem pos_cnt (off e:Nat) (h:off<=e):pos off e (cnt off e)=e:=by
 have h1:=pos_lt off e (cnt off e) h
 have h2:=pos_le off e (cnt off e) h
 omega
theorem step_pos {e p:Nat} (h:p < e):1<=step e p/\step e p<=64/\p % 64+step e p<=64/\p+step e p<=e:=by unfold step;omega
def rd (first off e:Nat):Nat->Nat->List UInt8->Dk->List UInt8 × Int × Dk
|0,_,acc,d=>(acc,0,d)
|m+1,k,acc,d =>
  match Disk.read d ((first+pos off e k / 64:Nat):Int) with
 |(b,z,d')=>if z=0 then rd first off e m (k+1) (acc ++ (b.drop (pos off e k % 64)).take (step e (pos off e k))) d' else ([],z,d')
def wr (first off e:Nat):Nat->Nat->List UInt8->Dk->Int × Dk
|0,_,_,d=>(0,d)
|m+1,k,data,d =>
  if step e (pos off e k) < 64 then
   match Disk.read d ((first+pos off e k / 64:Nat):Int) with
  |(b,z,d1) =>
    if z=0 then
     match Disk.write d1 ((first+pos off e k / 64:Nat):Int) (b.take (pos off e k % 64) ++ data.take (step e (pos off e k)) ++ b.drop (pos off e k % 64+step e (pos off e k))) with
    |(z2,d2)=>if z2=0 then wr first off e m (k+1) (data.drop (step e (pos off e k))) d2 else (z2,d2)
    else (z,d1)
  else
   match Disk.write d ((first+pos off e k / 64:Nat):Int) (data.take (step e (pos off e k))) with
  |(z2,d2)=>if z2=0 then wr first off e m (k+1) (data.drop (step e (pos off e k))) d2 else (z2,d2)
def valid (n:Nat) (first count:Int):Bool:=decide (0<=first) && (decide (1<=count) && (decide (count<=(n:Int)) && decide (first<=(n:Int) - count)))
def size (count:Int):Int:=if count < 0\/4096 < count then 0 else count * 64
def check (n:Nat) (first count off len:Int):Int :=
 if valid n first count then (if off < 0\/len < 0\/size count < off\/size count - off < len then 2 else 0) else 1
def read (d:Dk) (first count off len:Int):List UInt8 × Int × Dk :=
 if check d.st.length first count off len=0 then rd first.toNat off.toNat (off+len).toNat (cnt off.toNat (off+len).toNat) 0 [] d else ([],check d.st.length first count off len,d)
def write (d:Dk) (first count off:Int) (data:List UInt8):Int × Dk :=
 if check d.st.length first count off data.length=0 then wr first.toNat off.toNat (off+data.length).toNat (cnt off.toNat (off+data.length).toNat) 0 data d else (check d.st.length first count off data.length,d)
theorem check_ok {n:Nat} {first count off len:Int} (h:check n first count off len=0):0<=first/\1<=count/\count<=n/\first<=n - count/\0<=off/\0<=len/\off+len<=size count:=by
 unfold check at h
 split at h
 ·rename_i hv
  unfold valid at hv
  simp at hv
  split at h
  ·cases h
  ·omega
 ·cases h
end Extent
end
section
open Go.RowKit
open Go.MapKept (Stamped IsKey findNow_spec run_findKey run_checkKey run_keyThatStays stamped_push stamped_modify stamped_empty)
open Go.ChangeMaps (setBlock)
variable {w w':World} {R R':Nat->Prop} {ca:List (Option (List UInt8))} {b clock cnt m r:Nat} {done:Nat->Bool} {ops:Array Oper} {rest:List Oper} {o:Oper} {a:Act} {Q:Exit->Act->World->Prop}
def EntryIs (R:Nat->Prop) (w:World) (ca:List (Option (List UInt8))) (e:MapEntry):Prop :=
 ∃ (i:Nat) (x:List UInt8) (a:Addr) (c:Nat),ca[i]?=some (some x)/\e.key=.int .i64 (i:Int)/\e.val=.slice (some a) x.length c/\SlB w (some a) x.length c x/\R a.block/\x ≠ []
structure EsIs (R:Nat->Prop) (w:World) (ca:List (Option (List UInt8))) (es:Array MapEntry) (clock:Nat):Prop where
 stamped:Stamped es clock
 size:es.size=ca.countP (·.isSome)
 mem:∀ e ∈ es.toList,EntryIs R w ca e
 all:∀ (i:Nat) (x:List UInt8),ca[i]?=some (some x)->∃ e ∈ es.toList,e.key=.int .i64 (i:Int)
def MapIs (R:Nat->Prop) (w:World) (m:Nat) (ca:List (Option (List UInt8))):Prop :=
 ∃ es clock,w.heap[m]?=some (.map es clock)/\EsIs R w ca es clock
theorem EntryIs.stay {e:MapEntry} (h:EntryIs R w ca e) (k:∀ b,R b->b < w.heap.size->w'.heap[b]?=w.heap[b]?) (hz:w.heap.size<=w'.heap.size):EntryIs R w' ca e:=by
 obtain⟨i,x,a,c,h1,h2,h3,h4,h5,h6⟩:=h
 exact⟨i,x,a,c,h1,h2,h3,h4.stay (fun y hy _=>by cases hy;exact k _ h5 (h4.blt h6)) hz,h5,h6⟩
theorem EntryIs.mono {e:MapEntry} (h:EntryIs R w ca e) (k:∀ b,R b->R' b):EntryIs R' w ca e:=by
 obtain⟨i,x,a,c,h1,h2,h3,h4,h5,h6⟩:=h
 exact⟨i,x,a,c,h1,h2,h3,h4,k _ h5,h6⟩
theorem EsIs.stay {es:Array MapEntry} (h:EsIs R w ca es clock) (k:∀ b,R b->b < w.heap.size->w'.heap[b]?=w.heap[b]?) (hz:w.heap.size<=w'.heap.size):EsIs R w' ca es clock :=
 ⟨h.stamped,h.size,fun e he=>(h.mem e he).stay k hz,h.all⟩
theorem MapIs.lt (h:MapIs R w m ca):m < w.heap.size:=by
 obtain⟨es,clock,hb,-⟩:=h;exact za_a hb
theorem MapIs.stay (h:MapIs R w m ca) (k:∀ b,R b->b < w.heap.size->w'.heap[b]?=w.heap[b]?) (hm:w'.heap[m]?=w.heap[m]?) (hz:w.heap.size<=w'.heap.size):MapIs R w' m ca:=by
 obtain⟨es,clock,hb,hE⟩:=h
 exact⟨es,clock,hm.trans hb,hE.stay k hz⟩
theorem MapIs.mono (h:MapIs R w m ca) (k:∀ b,R b->R' b):MapIs R' w m ca:=by
 obtain⟨es,clock,hb,hE⟩:=h
 exact⟨es,clock,hb,hE.stamped,hE.size,fun e he=>(hE.mem e he).mono k,hE.all⟩
theorem EntryIs.ne {e:MapEntry} (h:EntryIs R w ca e) {es:Array MapEntry} (hm:w.heap[m]?=some (.map es clock)):EntryIs (fun b=>R b/\b ≠ m) w ca e:=by
 obtain⟨i,x,a,c,h1,h2,h3,h4,h5,h6⟩:=h
 refine⟨i,x,a,c,h1,h2,h3,h4,⟨h5,fun e=>?_⟩,h6⟩
 have h7:=(h4.2.2.2.2 a rfl 0 (List.length_pos_iff.2 h6)).2.2
 simp only [World.cell?] at h7
 rw [e,hm] at h7
 cases h7
theorem zk_z {es:Array MapEntry} (h:EsIs R w ca es clock):∀ x ∈ es.toList,IsKey (.int .i64) x.key:=by
 intro x hx
 obtain⟨i,y,a,c,-,h2,-⟩:=h.mem x hx
 rw [h2];rfl
theorem MapIs.look (h:MapIs R w m ca) (z:Int) :
 (∃ (i:Nat) (x:List UInt8) (a:Addr) (c:Nat),z=i/\ca[i]?=some (some x)/\SlB w (some a) x.length c x/\R a.block/\x ≠ []/\∀ W:World,W.heap=w.heap->(Instr.lookup 85 (.map (some m)) (.int .i64 z) true).run Tryz.prog W=.ok (.tuple #[.slice (some a) x.length c,.bool true]) W) ∨
 ((∀ i:Nat,z=i->ca[i]?.getD none=none)/\∀ W:World,W.heap=w.heap->(Instr.lookup 85 (.map (some m)) (.int .i64 z) true).run Tryz.prog W=.ok (.tuple #[.slice none 0 0,.bool false]) W):=by
 obtain⟨es,clock,hb,hE⟩:=h
 have hk:IsKey (.int .i64) (.int .i64 z):=rfl
 have hu:=Tryz.underlying85
 have hd:=Tryz.underlying3
 have hz:=fun w=>Tryz.zeroValue70 w
 rcases findNow_spec hk es.toList 0 (zk_z hE) with⟨h1,h2⟩|⟨j,e,h1,h2,h3⟩
 ·refine .inr ⟨fun i hi=>?_,?_⟩
  ·subst hi
   cases hc:ca[i]? with
  |none=>rfl
  |some o =>
    cases o with
   |none=>rfl
   |some x =>
     obtain⟨e,he,hek⟩:=hE.all i x hc
     exact absurd hek (h2 e he)
  ·intro W hW
   rw [<-hW] at hb
   simp [Instr.lookup,run_underlying hu,MapKept.run_getObj_map hb,run_checkKey hd hk,run_findKey hd h1,hz,Result.andThen]
 ·obtain⟨i,x,a,c,q1,q2,q3,q4,q5,q6⟩:=hE.mem e (List.mem_of_getElem? h2)
  have hzi:z=i:=by rw [h3] at q2;injection q2
  refine .inl ⟨i,x,a,c,hzi,q1,q4,q5,q6,fun W hW=>?_⟩
  rw [<-hW] at hb
  simp [Instr.lookup,run_underlying hu,MapKept.run_getObj_map hb,run_checkKey hd hk,run_findKey hd h1,Result.andThen,q3]
theorem zb_j {o o':Obj} (h:w.heap[b]?=some o):(setBlock w b o').heap[b]?=some o':=(MapKept.heap_set h).1
theorem za_n (w:World) (o':Obj) {k:Nat} (hk:k ≠ b):(setBlock w b o').heap[k]?=w.heap[k]?:=by
 show (w.heap.setIfInBounds b o')[k]?=_
 simp [Ne.symm hk]
theorem za_v (w:World) (b:Nat) (o':Obj):(setBlock w b o').heap.size=w.heap.size:=by
 show (w.heap.setIfInBounds b o').size=_
 simp
theorem Upd.setBlock {F F':Nat->Prop} {w1:World} (h:Upd F w F' w1) {g:Nat} (hg:F g\/w.heap.size<=g) (o:Obj):Upd F w F' (setBlock w1 g o) where
 os:=h.os
 tape:=h.tape
 output:=h.output
 size:=by rw [za_v];exact h.size
 block k hk hF:=(za_n _ _ (fun e=>by subst e;rcases hg with e1|e1;exact hF e1;omega)).trans (h.block k hk hF)
 new:=h.new
set_option maxRecDepth 100000 in
theorem zm_v {es:Array MapEntry} (h:EsIs R w ca es clock) (i:Nat) (hi:i < ca.length) (x:List UInt8) (a:Addr) (c:Nat)
 (hs:SlB w (some a) x.length c x) (hR:R a.block) (hx:x ≠ []) {m:Nat} (hb:w.heap[m]?=some (.map es clock)) :
 ∃ es' clock',(Instr.mapUpdate 85 (.map (some m)) (.int .i64 (i:Int)) (.slice (some a) x.length c)).run Tryz.prog w=.ok () (setBlock w m (.map es' clock'))/\EsIs R w (ca.set i (some x)) es' clock':=by
 have hk:IsKey (.int .i64) (.int .i64 (i:Int)):=rfl
 have hu:=Tryz.underlying85
 have hd:=Tryz.underlying3
 have hold:∀ e,EntryIs R w ca e->e.key ≠ .int .i64 (i:Int)->EntryIs R w (ca.set i (some x)) e:=by
  rintro e ⟨j,y,b,d,q1,q2,q3,q4,q5,q6⟩ hne
  refine⟨j,y,b,d,?_,q2,q3,q4,q5,q6⟩
  rw [List.getElem?_set_ne (fun e=>hne (by rw [q2,e]))];exact q1
 have hnew:∀ born,EntryIs R w (ca.set i (some x)) ⟨.int .i64 (i:Int),.slice (some a) x.length c,born⟩:=fun born =>
  ⟨i,x,a,c,by rw [List.getElem?_set_self hi],rfl,rfl,hs,hR,hx⟩
 have hall:∀ (es':Array MapEntry),(∃ e ∈ es'.toList,e.key=.int .i64 (i:Int))->(∀ e ∈ es.toList,e.key ≠ .int .i64 (i:Int)->e ∈ es'.toList)->∀ (k:Nat) (y:List UInt8),(ca.set i (some x))[k]?=some (some y)->∃ e ∈ es'.toList,e.key=.int .i64 (k:Int):=by
  intro es' h1 h2 k y hy
  by_cases hki:i=k
  ·subst hki;exact h1
  ·rw [List.getElem?_set_ne hki] at hy
   obtain⟨e,he,hek⟩:=h.all k y hy
   exact⟨e,h2 e he (by rw [hek];intro e2;injection e2 with _ e3;omega),hek⟩
 rcases findNow_spec hk es.toList 0 (zk_z h) with⟨h1,h2⟩|⟨j,e,h1,h2,h3⟩
 ·refine⟨es.push ⟨.int .i64 (i:Int),.slice (some a) x.length c,clock⟩,clock+1,?_,stamped_push h.stamped h2,?_,?_,?_⟩
  ·simp [Instr.mapUpdate,run_underlying hu,MapKept.run_getObj_map hb,run_checkKey hd hk,run_findKey hd h1,MapKept.run_setObj_map _ hb,Result.andThen,setBlock]
  ·have hnone:ca[i]=none:=by
    cases hc:ca[i] with
   |none=>rfl
   |some y =>
     obtain⟨e,he,hek⟩:=h.all i y (by rw [List.getElem?_eq_getElem hi,hc])
     exact absurd hek (h2 e he)
   rw [Array.size_push,h.size,List.countP_set hi,hnone];simp
  ·intro e he
   simp only [Array.toList_push,List.mem_append,List.mem_singleton] at he
   rcases he with he|rfl
   ·exact hold e (h.mem e he) (h2 e he)
   ·exact hnew _
  ·refine hall _ ⟨⟨.int .i64 (i:Int),.slice (some a) x.length c,clock⟩,by simp,rfl⟩ (fun e he _=>?_)
   rw [Array.toList_push];exact List.mem_append_left _ he
 ·have hj:es[j]?=some e:=by simpa using h2
  have hjl:j < es.toList.length:=(List.getElem?_eq_some_iff.1 h2).1
  have hkeyf:∀ e',es[j]?=some e'->({ e' with key:=.int .i64 (i:Int),val:=.slice (some a) x.length c }:MapEntry).key=e'.key:=fun e' he'=>by rw [hj] at he';cases he';exact h3.symm
  have hlist:(es.modify j (fun e'=>{ e' with key:=.int .i64 (i:Int),val:=.slice (some a) x.length c })).toList=es.toList.set j { e with key:=.int .i64 (i:Int),val:=.slice (some a) x.length c }:=by rw [Array.toList_modify,ChangeMaps.modify_eq_set _ _ _ _ h2]
  refine⟨es.modify j (fun e'=>{ e' with key:=.int .i64 (i:Int),val:=.slice (some a) x.length c }),clock,?_,stamped_modify h.stamped _ _ (fun _ _=>rfl) (fun e' _ he'=>hkeyf e' he'),?_,?_,?_⟩
  ·simp [Instr.mapUpdate,run_underlying hu,MapKept.run_getObj_map hb,run_checkKey hd hk,run_findKey hd h1,hj,h3,run_keyThatStays hk,MapKept.run_setObj_map _ hb,Result.andThen,setBlock]
  ·obtain⟨k,y,b,d,q1,q2,-⟩:=h.mem e (List.mem_of_getElem? h2)
   have hki:k=i:=by rw [h3] at q2;injection q2 with _ e2;omega
   subst hki
   rw [List.getElem?_eq_getElem hi] at q1
   have q1':=Option.some.inj q1
   have hpos:0 < ca.countP (·.isSome):=List.countP_pos_iff.2 ⟨_,List.getElem_mem hi,by rw [q1'];rfl⟩
   rw [Array.size_modify,h.size,List.countP_set hi,q1'];simp;omega
  ·intro e' he'
   rw [hlist] at he'
   obtain⟨p,hp,ep⟩:=List.getElem_of_mem he'
   rw [List.getElem_set] at ep
   split at ep
   ·subst ep;exact hnew _
   ·rename_i hne
    have hp':p < es.toList.length:=by simpa using hp
    refine hold e' (h.mem e' (ep ▸ List.getElem_mem hp')) ?_
    intro ek
    have h5:=((MapKept.stamped_iff es clock).1 h.stamped).2.2
    have hpe:es.toList[p]=e':=ep
    have hje:es.toList[j]=e:=by rw [List.getElem?_eq_getElem hjl] at h2;exact Option.some.inj h2
    rcases Nat.lt_or_gt_of_ne hne with hlt|hlt
    ·exact List.pairwise_iff_getElem.1 h5 j p hjl hp' hlt (by rw [hpe,hje,ek,h3])
    ·exact List.pairwise_iff_getElem.1 h5 p j hp' hjl hlt (by rw [hpe,hje,ek,h3])
  ·refine hall _ ?_ ?_
   ·exact⟨{ e with key:=.int .i64 (i:Int),val:=.slice (some a) x.length c },by rw [hlist];exact List.mem_iff_getElem.2 ⟨j,by simpa using hjl,by simp⟩,rfl⟩
   ·intro e' he' hne
    rw [hlist]
    obtain⟨p,hp,ep⟩:=List.getElem_of_mem he'
    have hpj:j ≠ p:=by
     rintro rfl
     have hje:es.toList[j]=e:=by rw [List.getElem?_eq_getElem hjl] at h2;exact Option.some.inj h2
     exact hne (by rw [<-ep,hje,h3])
    exact List.mem_iff_getElem.2 ⟨p,by simpa using hp,by rw [List.getElem_set_ne hpj];exact ep⟩
theorem MapIs.update (h:MapIs R w m ca) (i:Nat) (hi:i < ca.length) (x:List UInt8) (a:Addr) (c:Nat) (hs:SlB w (some a) x.length c x) (hR:R a.block) (hx:x ≠ []) (hm:¬ R m) :
 ∃ o,(Instr.mapUpdate 85 (.map (some m)) (.int .i64 (i:Int)) (.slice (some a) x.length c)).run Tryz.prog w=.ok () (setBlock w m o)/\MapIs R (setBlock w m o) m (ca.set i (some x)):=by
 obtain⟨es,clock,hb,hE⟩:=h
 obtain⟨es',clock',hrun,hE'⟩:=zm_v hE i hi x a c hs hR hx hb
 exact⟨_,hrun,es',clock',zb_j hb,hE'.stay (fun b hb _=>za_n _ _ (fun e=>hm (e ▸ hb))) (by rw [za_v];exact zN _)⟩
theorem MapIs.clear (h:MapIs R w m ca) (ty:TypeId) :
 ∃ o,(Builtin.clear_ #[85] ty #[.map (some m)]).run Tryz.prog w=.ok (.tuple #[]) (setBlock w m o)/\∀ R' n,MapIs R' (setBlock w m o) m (List.replicate n none):=by
 obtain⟨es,clock,hb,hE⟩:=h
 have hu:=Tryz.underlying85
 refine⟨.map #[] clock,?_,fun R' n=>⟨#[],clock,zb_j hb,stamped_empty _,?_,?_,?_⟩⟩
 ·simp [Builtin.clear_,run_underlying hu,MapKept.run_getObj_map hb,MapKept.run_setObj_map _ hb,Result.andThen,setBlock]
 ·simp [List.countP_replicate]
 ·intro e he;simp at he
 ·intro i x hx
  rw [List.getElem?_replicate] at hx;split at hx <;> simp at hx
theorem MapIs.made (R:Nat->Prop) (w:World) (n:Nat):MapIs R (w.alloc (.map #[] 0)) w.heap.size (List.replicate n none) :=
 ⟨#[],0,(MapKept.heap_alloc w _).1,stamped_empty _,by simp [List.countP_replicate],fun e he=>by simp at he,fun i x hx=>by rw [List.getElem?_replicate] at hx;split at hx <;> simp at hx⟩
theorem ze_l (hgd:o.guard=none) (x:Operand)
 (ho:o.op=.call { callee:=.builtin .clear,args:=#[x],argTypes:=#[85] }) {m:Nat} {ca:List (Option (List UInt8))} (hx:a.eval x=.map (some m)) (h:MapIs R w m ca)
 (hK:∀ o',(∀ R' n,MapIs R' (setBlock w m o') m (List.replicate n none))->wpList Tryz.prog ops Q rest (a.put o.dst (.tuple #[])) (setBlock w m o')):wpList Tryz.prog ops Q (o :: rest) a w:=by
 refine wpList_plain hgd fun K hK'=>?_
 obtain⟨o',hrun,hM⟩:=h.clear o.type
 unfold Oper.wp
 simp [execOp,ho,resolve,invoke,builtin,hx,hrun,Result.andThen]
 exact hK' _ _ (hK o' hM)
def MRange (R:Nat->Prop) (w:World) (m r:Nat) (ca:List (Option (List UInt8))) (done:Nat->Bool) (cnt:Nat):Prop :=
 ∃ es clock since seen c0,w.heap[m]?=some (.map es clock)/\EsIs R w ca es clock/\w.heap[r]?=some (.mapIter (some m) since seen c0)/\(∀ x ∈ es.toList,x.born < since)/\(leftOf es seen).size=cnt/\since<=c0/\since<=clock ∧
  ∀ e ∈ es.toList,∀ i:Nat,e.key=.int .i64 (i:Int)->done i=seen.contains e.born
theorem MRange.map (h:MRange R w m r ca done cnt):MapIs R w m ca:=by
 obtain⟨es,clock,_,_,_,hb,hE,_⟩:=h;exact⟨es,clock,hb,hE⟩
theorem MRange.ne (h:MRange R w m r ca done cnt):r ≠ m:=by
 obtain⟨es,clock,since,seen,c0,hb,_,hr,_⟩:=h
 intro e;rw [e,hb] at hr;cases hr
theorem MRange.lt (h:MRange R w m r ca done cnt):r < w.heap.size:=by
 obtain⟨es,clock,since,seen,c0,hb,_,hr,_⟩:=h;exact za_a hr
theorem MRange.stay (h:MRange R w m r ca done cnt) (k:∀ b,R b->b < w.heap.size->w'.heap[b]?=w.heap[b]?) (hm:w'.heap[m]?=w.heap[m]?) (hr:w'.heap[r]?=w.heap[r]?) (hz:w.heap.size<=w'.heap.size):MRange R w' m r ca done cnt:=by
 obtain⟨es,clock,since,seen,c0,hb,hE,h2,rest⟩:=h
 exact⟨es,clock,since,seen,c0,hm.trans hb,hE.stay k hz,hr.trans h2,rest⟩
theorem MRange.left_eq (h:MRange R w m r ca done cnt):w.rangeLeft m r=cnt:=by
 obtain⟨es,clock,since,seen,c0,hb,_,hr,_,hc,_⟩:=h
 simp only [World.rangeLeft,hb,hr]
 exact hc
theorem zd_k (hgd:o.guard=none) (p:Operand)
 (ho:o.op=Op.range 85 p) {m:Nat} {ca:List (Option (List UInt8))} (hp:a.eval p=.map (some m)) (h:MapIs R w m ca) (hR:∀ b,R b->b < w.heap.size)
 (hK:∀ o' cnt,MRange R (w.alloc o') m w.heap.size ca (fun _=>false) cnt->wpList Tryz.prog ops Q rest (a.put o.dst (.pointer (some ⟨w.heap.size,0,none⟩))) (w.alloc o')):wpList Tryz.prog ops Q (o :: rest) a w:=by
 have hlt:=h.lt
 obtain⟨es,clock,hb,hE⟩:=h
 have hrun:=run_range_map (P:=Tryz.prog) w _ _ _ m es clock Tryz.underlying85 hb
 have hM:MRange R (w.alloc (.mapIter (some m) clock #[] clock)) m w.heap.size ca (fun _=>false) (leftOf es #[]).size :=
  ⟨es,clock,clock,#[],clock,((MapKept.heap_alloc w _).2 m hlt).trans hb,hE.stay (fun b hb' _=>(MapKept.heap_alloc w _).2 b (hR b hb')) (by simp),(MapKept.heap_alloc w _).1,hE.stamped.1,rfl,zN _,zN _,fun e _ i _=>by simp⟩
 refine wpList_plain hgd fun K hK'=>?_
 unfold Oper.wp
 simp [execOp,ho,hp,hrun,Result.andThen]
 exact hK' _ _ (hK _ _ hM)
theorem ze_i (hgd:o.guard=none) (p:Operand)
 (ho:o.op=Op.next p false) {m r:Nat} {ca:List (Option (List UInt8))} {done:Nat->Bool} {cnt:Nat} (hp:a.eval p=.pointer (some ⟨r,0,none⟩)) (h:MRange R w m r ca done cnt) (hR:∀ b,R b->b ≠ r)
 (hDone:(∀ (i:Nat) (x:List UInt8),ca[i]?=some (some x)->done i=true)->wpList Tryz.prog ops Q rest (a.put o.dst (.tuple #[.bool false])) w)
 (hMore:∀ (i:Nat) (x:List UInt8) (b:Addr) (c:Nat) (w1:World) (o':Obj) (cnt':Nat),ca[i]?=some (some x)->i < ca.length->done i=false->(w1=w\/w1=w.drew)->SlB (setBlock w1 r o') (some b) x.length c x->R b.block →
  MRange R (setBlock w1 r o') m r ca (fun k=>done k || k == i) cnt'->cnt' < cnt->(Instr.entry (.pointer (some ⟨r,0,none⟩))).run Tryz.prog (setBlock w1 r o')=.ok (.tuple #[.int .i64 (i:Int),.slice (some b) x.length c]) (setBlock w1 r o') →
  wpList Tryz.prog ops Q rest (a.put o.dst (.tuple #[.bool true,.int .i64 (i:Int),.slice (some b) x.length c])) (setBlock w1 r o')):wpList Tryz.prog ops Q (o :: rest) a w:=by
 have hne:=h.ne
 obtain⟨es,clock,since,seen,c0,hb,hE,hr,hold,hcnt,hsc,hsk,hdn⟩:=h
 refine wpList_plain hgd fun K hK'=>?_
 unfold Oper.wp
 have hst:=(MapKept.stamped_iff es clock).1 hE.stamped
 rcases run_next_at (P:=Tryz.prog) w o.type r m since c0 seen es clock hr hb hold hsc with⟨h0,hrun⟩|⟨e,he,w1,hal,hrun⟩
 ·simp [execOp,ho,hp,hrun,Result.andThen]
  refine hK' _ _ (hDone fun i x hx=>?_)
  obtain⟨e,he,hek⟩:=hE.all i x hx
  rw [hdn e he i hek]
  exact all_seen es seen h0 e he
 ·have hem:e ∈ es.toList/\seen.contains e.born=false:=by
   unfold leftOf at he
   simp at he
   exact⟨by simpa using he.1,by simpa using he.2⟩
  obtain⟨i,x,b,c,q1,q2,q3,q4,q5,q6⟩:=hE.mem e hem.1
  have hr1:w1.heap[r]?=some (.mapIter (some m) since seen c0):=by rcases hal with rfl|rfl <;> exact hr
  have hb1:w1.heap[m]?=some (.map es clock):=by rcases hal with rfl|rfl <;> exact hb
  have hz1:w.heap.size<=w1.heap.size:=by rcases hal with rfl|rfl <;> exact zN _
  have hkeep:∀ k,R k->k < w.heap.size->(setBlock w1 r (.mapIter (some m) since (seen.push e.born) clock)).heap[k]?=w.heap[k]?:=fun k hk _=>(za_n _ _ (hR k hk)).trans (by rcases hal with rfl|rfl <;> rfl)
  have hsz:w.heap.size<=(setBlock w1 r (.mapIter (some m) since (seen.push e.born) clock)).heap.size:=by rw [za_v];exact hz1
  have hb2:(setBlock w1 r (.mapIter (some m) since (seen.push e.born) clock)).heap[m]?=some (.map es clock):=(za_n _ _ (Ne.symm hne)).trans hb1
  have hen:=run_entry_at (P:=Tryz.prog) (setBlock w1 r (.mapIter (some m) since (seen.push e.born) clock)) r m since seen es clock e (zb_j hr1) hb2 hem.1 hst.2.1
  rw [q2,q3] at hen hrun
  simp [execOp,ho,hp,hrun,Result.andThen]
  refine hK' _ _ (hMore i x b c w1 _ (leftOf es (seen.push e.born)).size q1 (List.getElem?_eq_some_iff.1 q1).1 ?_ hal (q4.stay (fun y hy _=>by cases hy;exact hkeep _ q5 (q4.blt q6)) hsz) q5 ?_ ?_ hen)
  ·rw [hdn e hem.1 i q2];exact hem.2
  ·refine⟨es,clock,since,seen.push e.born,clock,hb2,hE.stay hkeep hsz,zb_j hr1,hold,rfl,hsk,hsk,fun e' he' k hk=>?_⟩
   show (done k || k == i)=_
   rw [hdn e' he' k hk]
   have:(k == i)=(e'.born == e.born):=by
    by_cases hbe:e'.born=e.born
    ·have:=born_inj hst.2.1 he' hem.1 hbe
     subst this
     rw [q2] at hk;injection hk with _ hk
     simp;omega
    ·have h1:(e'.born == e.born)=false:=by simp [hbe]
     rw [h1]
     apply beq_eq_false_iff_ne.2
     rintro rfl
     exact hbe (congrArg MapEntry.born (entry_eq_of_key hst.2.2 he' hem.1 (by rw [hk,q2])))
   rw [this,contains_push]
  ·rw [<-hcnt];exact left_shrinks es seen e he
end
section
open Go.RowKit
variable {w:World} {base g n:Nat} {l:List UInt8}
theorem zb_c {ops:Array Oper} {rest:List Oper} {o:Oper} {a:Act} {Q:Exit->Act->World->Prop} (hgd:o.guard=none) (d s:Operand)
 (ho:o.op=.call { callee:=.builtin .copy,args:=#[d,s],argTypes:=#[70,70] })
 (g off dLen dCap:Nat) (sp:Option Addr) (sLen sCap:Nat) (l2:List UInt8) (hd:a.eval d=.slice (some ⟨g,off,none⟩) dLen dCap) (hs:a.eval s=.slice sp sLen sCap)
 (t:TypeId) (l:List UInt8) (hr:RowIs w g t l) (hsl:SlB w sp sLen sCap l2) (hfit:off+min sLen dLen<=l.length)
 (h:∀ w',RowIs w' g t (l.take off ++ l2.take dLen ++ l.drop (off+min sLen dLen))->But g w w'->wpList Tryz.prog ops Q rest (a.put o.dst (goInt (min sLen dLen:Nat))) w'):wpList Tryz.prog ops Q (o :: rest) a w:=by
 have hsz:(Tryz.prog.info? 5).map (·.size)=some 1:=by kernel_rfl
 have hl2:=hsl.len
 by_cases h0:min sLen dLen=0
 ·refine wpList_copy_nothing hgd d s _ _ ho 5 Tryz.underlying70 hsz _ sp dLen dCap sLen sCap hd hs h0 ?_
  rw [h0] at h
  refine h w ?_ (But.refl _ _)
  have:l2.take dLen=[]:=List.eq_nil_of_length_eq_zero (by rw [List.length_take];omega)
  rw [this];simpa using hr
 ·cases sp with
 |none=>have:=(hsl.2.2.2.1 rfl).1;subst this;simp at hl2;omega
 |some ad =>
   have hcl:((l2.take dLen).map bv).length=min sLen dLen:=by rw [List.length_map,List.length_take];omega
   refine wpList_copy_own hgd d s _ _ ho 5 Tryz.underlying70 hsz g off dLen dCap ad sLen sCap hd hs (l.map bv).toArray t hr ((l2.take dLen).map bv) hcl ?_ ?_ ?_ ?_
   ·intro j v hj
    have hj':j < min sLen dLen:=by rw [<-hcl];exact (List.getElem?_eq_some_iff.1 hj).1
    obtain⟨hsp,hb,hc⟩:=hsl.2.2.2.2 ad rfl j (by omega)
    have hadd:ad.add j=⟨ad.block,ad.off+j,none⟩:=by
     obtain⟨b,o,sp⟩:=ad;simp only at hsp;subst hsp;unfold Addr.add;split <;> simp_all
    rw [hadd,hc,<-hj]
    simp [bv,show j < dLen by omega,show j < l2.length by omega]
   ·rw [hcl];simpa using hfit
   ·intro v hv
    obtain⟨b,_,rfl⟩:=List.mem_map.1 hv;rfl
   ·rw [hcl]
    refine h _ ?_ ((But.refl _ _).setRow _)
    unfold RowIs
    rw [setRow_heap w g _ _ t _ hr]
    simp [List.map_take,List.map_drop]
theorem OwnB.isRow (h:OwnB base w (.slice (some ⟨g,0,none⟩) n n) l):base<=g/\RowIs w g 5 l:=by
 rcases h.2 with⟨hv,_⟩|⟨g',cap,cur,hv,hb,hc,hnc,hcm,hcs,ht⟩
 ·cases hv
 ·injection hv with e1 e2 e3
  cases e1
  subst e2;subst e3
  refine⟨hb,?_⟩
  unfold RowIs
  rw [hc,<-ht,List.take_of_length_le (by simp;omega)]
theorem RowIs.own (h:RowIs w g 5 l) (hb:base<=g) (hn:l.length=n) (hm:n<=maxLen):OwnB base w (.slice (some ⟨g,0,none⟩) n n) l:=by
 subst hn
 exact⟨by simp,.inr ⟨g,l.length,(l.map bv).toArray,rfl,hb,h,zN _,hm,by simp,by simp [List.take_of_length_le]⟩⟩
end
section
open Go.RowKit
variable {i n:Nat} {ops:Array Oper} {l:Array Bool} {dst:Option Nat} {deps:List Nat} {P:Program} {Q:Exit->Act->World->Prop} {a:Act} {w:World}
theorem zf_r {md:Region.Mode} (h:i ∈ Region.ready md ops l):i < ops.size/\l.getD i true=false:=by
 unfold Region.ready at h
 obtain⟨h1,h2⟩:=List.mem_filter.1 h
 simp only [Bool.and_eq_true] at h2
 exact⟨List.mem_range.1 h1,by have:=h2.1;simpa using this⟩
theorem zi_i (h:l.getD i true=false) (hi:i < l.size):0 < l.toList.countP (fun b=>b == false):=by
 refine List.countP_pos_iff.2 ⟨l[i],by simp,?_⟩
 have:l.getD i true=l[i]:=by simp [hi]
 rw [<-this,h];rfl
theorem zm_m (h:l.getD i true=false) (hi:i < l.size):(l.setIfInBounds i true).toList.countP (fun b=>b == false)+1=l.toList.countP (fun b=>b == false):=by
 have h1:=zi_i h hi
 have hli:l.toList[i]'(by simpa using hi)=false:=by
  have:l.getD i true=l[i]:=by simp [hi]
  rw [<-h,this];simp
 rw [Array.toList_setIfInBounds,List.countP_set (by simpa using hi),hli]
 have e:(true == false)=false:=rfl
 simp only [beq_self_eq_true,if_true,e,Bool.false_eq_true,if_false]
 omega
theorem zj_d {F:Fence} (Inv:Array Bool->Act->World->Prop) (hsz:∀ l a W,Inv l a W->l.size=ops.size)
 (hdone:∀ l a W,Inv l a W->Region.ready .any ops l=[]->Q .normal a W)
 (hstep:∀ l a W i,Inv l a W->i ∈ Region.ready .any ops l->∀ K':Act->World->Prop,(∀ a' W',Inv (l.setIfInBounds i true) a' W'->K' a' W')->wpOpIn F n P ops Q i K' a W) :
 ∀ (fuel:Nat) (l:Array Bool) (a:Act) (W:World),Inv l a W->l.toList.countP (fun b=>b == false)<=fuel->wpAnyIn F n P .any ops Q fuel l a W:=by
 intro fuel
 induction fuel with
|zero =>
  intro l a W hi hc
  have hr:Region.ready .any ops l=[]:=by
   cases hrd:Region.ready .any ops l with
  |nil=>rfl
  |cons i r =>
    have hm:i ∈ Region.ready .any ops l:=by rw [hrd];exact List.mem_cons_self
    obtain⟨h1,h2⟩:=zf_r hm
    have:=zi_i h2 (by rw [hsz l a W hi];exact h1)
    omega
  exact⟨hr,hdone l a W hi hr⟩
|succ fuel ih =>
  intro l a W hi hc
  refine⟨fun hr=>hdone l a W hi hr,fun i hm=>?_⟩
  obtain⟨h1,h2⟩:=zf_r hm
  have h3:=zm_m h2 (by rw [hsz l a W hi];exact h1)
  exact hstep l a W i hi hm _ (fun a' W' hi'=>ih _ a' W' hi' (by omega))
theorem zq_a (a:Act) (d:Nat) (v:Value) (k:Nat) (hd:d < a.tmps.size):(a.put (some d) v).tmps.getD k undef=if k=d then v else a.tmps.getD k undef:=by
 show (a.tmps.setIfInBounds d v).getD k undef=_
 by_cases h:k=d
 ·subst h;simp [hd]
 ·simp [Ne.symm h,h]
theorem zq_e (a:Act) (d:Nat) (v:Value):(a.put (some d) v).tmps.size=a.tmps.size:=by
 show (a.tmps.setIfInBounds d v).size=_
 simp
theorem zm_y (l:Array Bool) (i j:Nat) (d:Bool) (hi:i < l.size):(l.setIfInBounds i true).getD j d=if j=i then true else l.getD j d:=by
 by_cases h:j=i
 ·subst h;simp [hi]
 ·simp [Ne.symm h,h]
structure OpIs (ops:Array Oper) (i:Nat) (op:Op) (dst:Option Nat) (deps:List Nat):Prop where
 ex:∃ o,ops[i]?=some o/\o.op=op/\o.guard=none/\o.dst=dst/\o.after.toList.map (fun e=>(e.on,Region.binds .any e))=deps.map (fun j=>(j,true))
theorem OpIs.dep {op:Op} (h:OpIs ops i op dst deps) (hm:i ∈ Region.ready .any ops l) {j:Nat} (hj:j ∈ deps):l.getD j false=true:=by
 obtain⟨o,h1,h2,h3,h4,h5⟩:=h.ex
 unfold Region.ready at hm
 obtain⟨_,hm⟩:=List.mem_filter.1 hm
 simp only [Bool.and_eq_true,h1,Option.map_some,Option.getD_some,Array.all_eq_true_iff_forall_mem] at hm
 have:(j,true) ∈ o.after.toList.map (fun e=>(e.on,Region.binds .any e)):=by rw [h5];exact List.mem_map.2 ⟨j,hj,rfl⟩
 obtain⟨e,he,h6⟩:=List.mem_map.1 this
 have h7:=hm.2 e (by simpa using he)
 injection h6 with h8 h9
 rw [h9,h8] at h7
 simpa using h7
theorem OpIs.listed {op:Op} (h:OpIs ops i op dst deps) (hr:Region.ready .any ops l=[]) (hd:∀ j ∈ deps,l.getD j false=true) (hi:i < ops.size):l.getD i true=true:=by
 obtain⟨o,h1,h2,h3,h4,h5⟩:=h.ex
 cases hl:l.getD i true with
|true=>rfl
|false =>
  exfalso
  have:i ∈ Region.ready .any ops l:=by
   unfold Region.ready
   refine List.mem_filter.2 ⟨List.mem_range.2 hi,?_⟩
   simp only [Bool.and_eq_true,h1,Option.map_some,Option.getD_some,Array.all_eq_true_iff_forall_mem]
   refine⟨by rw [hl];rfl,fun e he=>?_⟩
   have h6:(e.on,Region.binds .any e) ∈ deps.map (fun j=>(j,true)):=by rw [<-h5];exact List.mem_map.2 ⟨e,by simpa using he,rfl⟩
   obtain⟨j,hj,h7⟩:=List.mem_map.1 h6
   injection h7 with h8 h9
   rw [<-h8,hd j hj];simp
  rw [hr] at this;cases this
theorem OpIs.value {F:Fence} {op:Op} (h:OpIs ops i op dst deps) (hd:∀ c,op ≠ .defer c)
 (hab:∀ o:Oper,o.op=op->o.about P w a.eval=none) {v:Value} {w':World} (hr:∀ o:Oper,o.op=op->(execOp a.eval o).run P w=.ok (.value v) w') {K:Act->World->Prop} (hK:K (a.put dst v) w'):wpOpIn F n P ops Q i K a w:=by
 obtain⟨o,h1,h2,h3,h4,h5⟩:=h.ex
 unfold wpOpIn
 rw [h1]
 simp only [Region.wanted,h3,if_true]
 unfold Oper.wpIn
 rw [Oper.semAt_plain F _ _ (by rw [h2];exact hd),hr o h2]
 refine⟨(fun f hf=>by rw [hab o h2] at hf;cases hf),?_⟩
 rw [Oper.uponIn_value,h4];exact hK
theorem OpIs.skip {F:Fence} {op:Op} (h:OpIs ops i op dst deps) (hd:∀ c,op ≠ .defer c)
 (hab:∀ o:Oper,o.op=op->o.about P w a.eval=none) {w':World} (hr:∀ o:Oper,o.op=op->(execOp a.eval o).run P w=.ok .skip w') {K:Act->World->Prop} (hK:K (a.put dst undef) w'):wpOpIn F n P ops Q i K a w:=by
 obtain⟨o,h1,h2,h3,h4,h5⟩:=h.ex
 unfold wpOpIn
 rw [h1]
 simp only [Region.wanted,h3,if_true]
 unfold Oper.wpIn
 rw [Oper.semAt_plain F _ _ (by rw [h2];exact hd),hr o h2]
 refine⟨(fun f hf=>by rw [hab o h2] at hf;cases hf),?_⟩
 rw [Oper.uponIn_skip,h4];exact hK
end
section
open Go.RowKit
variable {w:World} {ops:Array Oper} {rest:List Oper} {o:Oper} {a:Act} {Q:Exit->Act->World->Prop}
theorem ze_q (ty:TypeId) (base:Nat) (v:Value) (l:List UInt8) (hown:OwnB base w v l) (b:Option Addr) (m c:Nat) (l2:List UInt8) (hsl:SlB w b m c l2) (hlen:l.length+m<=140737488355328) (hbase:base<=w.heap.size) :
 ∃ v' w',(Builtin.append_ #[70,70] ty #[v,.slice b m c]).run Tryz.prog w=.ok v' w'/\OwnB base w' v' (l ++ l2)/\w.grownBy w' v.ownBlock:=by
 obtain⟨i0,hi,hz0,hz1,hz2⟩:=info_parts info5
 cases b with
|none =>
  obtain⟨rfl,rfl⟩:=hsl.2.2.2.1 rfl
  obtain rfl:m=0:=hsl.1.symm
  exact⟨v,w,run_append_owned_none (P:=Tryz.prog) (w:=w) base 70 ty 5 i0 1 Tryz.underlying70 hi v l.length _ hown,by simpa using hown,⟨rfl,rfl,rfl,zN _,fun _ _ _=>rfl⟩⟩
|some ad =>
  have hl2:=hsl.len
  obtain⟨v',w',hrun,h1,h2,_⟩:=run_append_own (P:=Tryz.prog) w base 70 ty 5 i0 (.int .u8 0) 1 1 Tryz.underlying70 hi hz0 hz1 hz2 rfl (by decide) v l.length _ hown ad m c (l2.map bv) (by simp [hl2]) (fun j u hj=>by
   have hjl:j < l2.length:=by
    have:=(List.getElem?_eq_some_iff.1 hj).1;simpa using this
   obtain⟨hsp,hb,this⟩:=hsl.2.2.2.2 ad rfl j hjl
   have hadd:ad.add j=⟨ad.block,ad.off+j,none⟩:=by
    obtain⟨b,o,sp⟩:=ad;simp only at hsp;subst hsp;unfold Addr.add;split <;> simp_all
   rw [hadd,this];rw [<-hj];simp [bv,hjl]) (fun u hu=>by obtain⟨b,_,rfl⟩:=List.mem_map.1 hu;rfl) (by unfold maxLen;omega) (by omega) hbase
  refine⟨v',w',hrun,?_,h2⟩
  unfold OwnB;rw [List.length_append,List.map_append,hl2];exact h1
theorem zk_g {α:Type} (L B:List α) (n off m:Nat) (hB:B.length=m) (h:off+m<=n) (hL:n<=L.length):(L.take off ++ B ++ L.drop (off+m)).take n=(L.take n).take off ++ B ++ (L.take n).drop (off+m):=by
 subst hB
 have e1:(L.take n).take off=L.take off:=by rw [List.take_take,Nat.min_eq_left (by omega)]
 have e2:(L.take off ++ B).length=off+B.length:=by rw [List.length_append,List.length_take];omega
 rw [e1,List.take_append,List.take_of_length_le (by omega),e2,List.drop_take]
theorem zg_u (ty:TypeId) {base g n c:Nat} {l:List UInt8} (h:OwnB base w (.slice (some ⟨g,0,none⟩) n c) l) (off dLen dCap:Nat) (sp:Option Addr) (sLen sCap:Nat) (l2:List UInt8) (hsl:SlB w sp sLen sCap l2) (hle:sLen=dLen) (hfit:off+dLen<=l.length) :
 ∃ w',(Builtin.copy_ #[70,70] ty #[.slice (some ⟨g,off,none⟩) dLen dCap,.slice sp sLen sCap]).run Tryz.prog w=.ok (goInt dLen) w'/\OwnB base w' (.slice (some ⟨g,0,none⟩) n c) (l.take off ++ l2 ++ l.drop (off+dLen))/\But g w w':=by
 subst hle
 have hsz:(Tryz.prog.info? 5).map (·.size)=some 1:=by kernel_rfl
 have hl2:=hsl.len
 by_cases h0:sLen=0
 ·have hrun:=run_copy_none (P:=Tryz.prog) w 70 70 ty 5 (some ⟨g,off,none⟩) sp sLen dCap sLen sCap Tryz.underlying70 hsz (by rw [h0];rfl)
  refine⟨w,by rw [hrun,h0];rfl,?_,But.refl _ _⟩
  have:l2=[]:=List.eq_nil_of_length_eq_zero (by omega)
  rw [this,h0];simpa using h
 ·cases sp with
 |none=>have:=(hsl.2.2.2.1 rfl).1;subst this;simp at hl2;omega
 |some ad =>
   have hn:n=l.length:=by obtain⟨a,c',e,-,-⟩:=h.sl;injection e
   subst hn
   rcases h.2 with⟨hv,_⟩|⟨g',cap,cur,hv,hb,hc,hnc,hcm,hcs,ht⟩
   ·cases hv
   ·injection hv with e1 e2 e3
    cases e1
    subst e3
    have hmin:Nat.min sLen sLen=sLen:=Nat.min_self _
    have hrun:=run_copy_row (P:=Tryz.prog) w 70 70 ty 5 g off sLen dCap ad sLen sCap cur 5 (l2.map bv) Tryz.underlying70 hsz hc (by rw [List.length_map,hl2,hmin]) (fun j v hj=>by
     have hj':j < l2.length:=by have:=(List.getElem?_eq_some_iff.1 hj).1;simpa using this
     obtain⟨hsp,hbl,hcc⟩:=hsl.2.2.2.2 ad rfl j hj'
     have hadd:ad.add j=⟨ad.block,ad.off+j,none⟩:=by
      obtain⟨b,o,sp⟩:=ad;simp only at hsp;subst hsp;unfold Addr.add;split <;> simp_all
     rw [hadd,hcc,<-hj];simp [bv,hj']) (by rw [List.length_map,hl2,hcs];omega) (fun v hv=>by obtain⟨b,_,rfl⟩:=List.mem_map.1 hv;rfl)
    refine⟨_,by rw [hrun,List.length_map,hl2],?_,(But.refl _ _).setRow _⟩
    have hnew:(w.setRow g (cur.toList.take off ++ l2.map bv ++ cur.toList.drop (off+sLen)).toArray).heap[g]?=some (.cells (cur.toList.take off ++ l2.map bv ++ cur.toList.drop (off+sLen)).toArray 5 (0,0)):=setRow_heap w g _ _ _ _ hc
    have hcl:cur.toList.length=c:=by simpa using hcs
    have hll:(l.take off ++ l2 ++ l.drop (off+sLen)).length=l.length:=by simp;omega
    refine⟨by rw [List.length_map];simp,.inr ⟨g,c,_,by rw [hll],hb,hnew,by rw [hll];exact hnc,hcm,?_,?_⟩⟩
    ·simp;omega
    ·rw [hll]
     rw [Nat.mul_one] at ht ⊢
     rw [zk_g cur.toList (l2.map bv) l.length off sLen (by rw [List.length_map,hl2]) hfit (by omega),ht]
     simp only [List.map_append,List.map_take,List.map_drop]
theorem zb_o {F:Fence} {n0:Nat} (hgd:o.guard=none) (d s:Operand)
 (ho:o.op=.call { callee:=.builtin .copy,args:=#[d,s],argTypes:=#[70,70] })
 {base g n c:Nat} {l:List UInt8} (h:OwnB base w (.slice (some ⟨g,0,none⟩) n c) l) (off dLen dCap:Nat) (sp:Option Addr) (sLen sCap:Nat) (l2:List UInt8) (hd:a.eval d=.slice (some ⟨g,off,none⟩) dLen dCap) (hs:a.eval s=.slice sp sLen sCap) (hsl:SlB w sp sLen sCap l2) (hle:sLen=dLen) (hfit:off+dLen<=l.length)
 (hK:∀ w',OwnB base w' (.slice (some ⟨g,0,none⟩) n c) (l.take off ++ l2 ++ l.drop (off+dLen))->But g w w'->wpListIn F n0 Tryz.prog ops Q rest (a.put o.dst (goInt dLen)) w'):wpListIn F n0 Tryz.prog ops Q (o :: rest) a w:=by
 refine wpListIn_plain hgd fun K hK'=>?_
 obtain⟨w',hrun,r1,r2⟩:=zg_u o.type h off dLen dCap sp sLen sCap l2 hsl hle hfit
 unfold Oper.wpIn
 refine⟨?_,?_⟩
 ·simp [Oper.about,ho,resolve,Target.leads,Sem.run_pure]
 ·rw [Oper.semAt_plain F _ _ (by rw [ho];intro c hc';cases hc')]
  simp [execOp,ho,resolve,invoke,builtin,hd,hs,hrun,Result.andThen]
  exact hK' _ _ (hK w' r1 r2)
theorem zg_p (hg:o.guard=none) (l c:Operand) (hop:o.op=Op.makeSlice 70 l c)
 (base:Nat) (n:Nat) (C:Int) (hl:a.eval l=.int .i64 0) (hc:a.eval c=.int .i64 C) (hC:C=(n:Int)) (b2:n<=281474976710656) (b4:base<=w.heap.size)
 (hK:∀ v w',OwnB base w' v []->Below w.heap.size w w'->wpList Tryz.prog ops Q rest (a.put o.dst v) w'):wpList Tryz.prog ops Q (o :: rest) a w:=by
 obtain⟨i0,hi,hz0,hz1,hz2⟩:=info_parts info5
 refine wpList_make_own w hg l c 70 hop base 5 i0 _ 1 Tryz.underlying70 hi hz0 hz1 .i64 .i64 C n hl hc hC (by rw [hz2];omega) (by unfold maxLen;omega) b4 ?_
 intro w' hown hg'
 exact hK _ w' hown ((Below.refl _ _).grown hg' (zN _) (fun k hk=>by cases hk))
end
end Go.Proofs.YtmanejniepghlaaGreatDoor
