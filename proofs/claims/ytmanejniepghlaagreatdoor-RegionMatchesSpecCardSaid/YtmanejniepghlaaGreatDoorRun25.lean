import Derived.Test.YtmanejniepghlaaGreatDoorRun1
import Derived.OwnWalk
import Derived.Lib.SlBytesConst
import Derived.RangeFuncBox
import Derived.Shelf.Abstract
namespace Go.Proofs.YtmanejniepghlaaGreatDoor
open Go.RowKit
variable {base:Nat} {w:World}
theorem Zb (a:Option Addr) (n c:Nat) (l:List UInt8) (w:World) (h:AM w a n c l) (hn:n<=140737488355328) :
 Calls Tryz.prog 75 #[.slice a n c] w fun e d=>∃ v,e=.returned v/\AC w.heap.size d v l/\Below w.heap.size w d:=by
 cases a with
|none =>
  obtain⟨rfl,rfl⟩:=h.2.2.2.1 rfl
  obtain rfl:n=0:=h.1.symm
  have f:=fun (w:World)=>Lib.run_eql_slice_nil (P:=Tryz.prog) w 70 5 none 0 0 0 0 Tryz.underlying70
  go_in
  go_wp2
  go_ret
  exact⟨_,rfl,AC.nil _ _,Below.refl _ _⟩
|some b =>
  have i:AM (w.alloc (.cells #[] 5)) (some b) n c l:=h.ext ((Below.refl _ _).alloc (zN _) _)
  have f:=fun (w:World)=>Lib.run_eql_slice_nil (P:=Tryz.prog) w 70 5 (some b) n c 0 0 Tryz.underlying70
  go_in
  go_wp2_with (at_builtin;refine Qc rfl _ _ rfl w.heap.size _ [] rfl (AC.empty w (zN _)) (some b) n c l rfl i (by simpa using hn) (by simp) ?_;intro v o g j _)
  go_ret
  exact⟨v,rfl,g,((Below.refl _ _).alloc (zN _) _).grown j (by simp) (fun k m=>by cases m;exact zN _)⟩
def pq (p:Int × Int):List Value:=[p.1,p.2]
def JA (base:Nat) (w:World) (v:Value) (l:List (Int × Int)):Prop:=w.ownsRow base 123 2 v l.length (l.flatMap pq)
theorem Yh (l:List (Int × Int)):(l.flatMap pq).length=l.length * 2:=by
 induction l with
|nil=>rfl
|cons a l ih=>simp [pq,ih];omega
theorem Vo (l:List (Int × Int)) (i:Nat) (b:i < l.length):(l.flatMap pq)[i * 2]?=some (.int .i64 l[i].1)/\(l.flatMap pq)[i * 2+1]?=some (.int .i64 l[i].2):=by
 induction l generalizing i with
|nil=>simp at b
|cons a l ih =>
  cases i with
 |zero=>exact⟨rfl,rfl⟩
 |succ i =>
   have:=ih i (by simpa using b)
   rw [List.flatMap_cons,show (i+1) * 2=(i * 2)+2 by omega]
   simpa [pq] using this
theorem JA.sl {v:Value} {l:List (Int × Int)} (h:JA base w v l):∃ a c,v=.slice a l.length c/\CZ w a l.length c l/\∀ x,a=some x->base<=x.block/\x.block < w.heap.size:=by
 rcases id h.2 with⟨e,hn⟩|⟨g,cap,u,e,q,d,n,m,y,k⟩
 ·have t:l=[]:=List.eq_nil_of_length_eq_zero hn
  subst t
  exact⟨none,0,e,CZ.nil w,fun x b=>by cases b⟩
 ·refine⟨.some g,cap,e,⟨rfl,n,m,(fun h=>by cases h),fun x b i r=>?_⟩,fun x b=>by cases b;exact⟨q,Qa d⟩⟩
  cases b
  have f:∀ j,j < l.length * 2->w.cell? (g j)=(l.flatMap pq)[j]?:=by
   intro j s
   rw [cell_of_row _ _ _ _ _ _ d,<-k,List.getElem?_take_of_lt s];simp
  obtain⟨o,p⟩:=Vo l i r
  refine⟨rfl,Qa d,?_,?_⟩
  ·simp only [Nat.zero_add];rw [f _ (by omega),o]
  ·simp only [Nat.zero_add];rw [f _ (by omega),p]
theorem JA.empty (w:World) (a:base<=w.heap.size):JA base (w.alloc (.cells #[] 123)) (.slice w.heap.size 0 0) [] :=
 ⟨rfl,.inr ⟨w.heap.size,0,#[],rfl,a,Qb _ _ _ rfl,zN _,by unfold maxLen;omega,rfl,rfl⟩⟩
theorem LI:(Tryz.prog.info? 123).map (fun i=>(i.zero,i.size,i.bytes))=some (some (.agg #[.int .i64 0,.int .i64 0]),2,16):=by kernel_rfl
theorem Ju {t:Array Oper} {rest:List Oper} {o:Oper} {a:Act} {Q:Exit->Act->World->Prop} (hgd:o.guard=none) (s x:Operand)
 (ho:o.op=.call { callee:=.builtin .append,args:=#[s,x],argTypes:=#[61,61] })
 (base:Nat) (v:Value) (l:List (Int × Int)) (hs:a.eval s=v) (G:JA base w v l) (d:Addr) (m c:Nat) (l2:List (Int × Int)) (O:a.eval x=.slice (some d) m c) (q:CZ w (some d) m c l2)
 (R:l.length+m<=1000000000) (C:base<=w.heap.size)
 (h:∀ g f,JA base f g (l ++ l2)->w.grownBy f v.ownBlock->wpList Tryz.prog t Q rest (a.put o.dst g) f):wpList Tryz.prog t Q (o :: rest) a w:=by
 obtain⟨P,N,H,I,J⟩:=info_parts LI
 have n:=q.len
 refine wpList_append_own w hgd s x 61 ho base 123 P _ 2 16 Tryz.underlying61 N H I J rfl (by decide) v l.length _ hs G d m c (l2.flatMap pq) O (by rw [Yh,n]) ?_ ?_ (by unfold maxLen;omega) (by omega) C ?_
 ·intro j u i
  have T:j < l2.length * 2:=by
   have:=(List.getElem?_eq_some_iff.1 i).1;rwa [Yh] at this
  have k:j / 2 < l2.length:=by omega
  obtain⟨r,U,y,z⟩:=q.2.2.2.2 d rfl (j / 2) k
  obtain⟨g1,A⟩:=Vo l2 (j / 2) k
  have F:d.add j=(d.block (d.off+j)):=by
   obtain⟨b,o,W⟩:=d;simp only at r;subst r;unfold Addr.add;split <;> simp_all
  rw [F]
  rcases Nat.mod_two_eq_zero_or_one j with h0|h0
  ·have e:j / 2 * 2=j:=by omega
   rw [e] at y g1
   rw [y,<-i,g1]
  ·have e:j / 2 * 2+1=j:=by omega
   rw [Nat.add_assoc,e] at z
   rw [e] at A
   rw [z,<-i,A]
 ·intro u hu
  obtain⟨p,_,B⟩:=List.mem_flatMap.1 hu
  simp [pq] at B
  rcases B with rfl|rfl <;> rfl
 ·intro g f K M _
  refine h g f ?_ M
  unfold JA;rw [List.length_append,List.flatMap_append,n];exact K
theorem Vw (a:Option Addr) (n c:Nat) (l:List (Int × Int)) (w:World) (h:CZ w a n c l) (hn:n<=1000000) :
 Calls Tryz.prog 74 #[.slice a n c] w fun e d=>∃ v,e=.returned v/\JA w.heap.size d v l/\Below w.heap.size w d:=by
 cases a with
|none =>
  obtain⟨rfl,rfl⟩:=h.2.2.2.1 rfl
  obtain rfl:n=0:=h.1.symm
  have f:=fun (w:World)=>Lib.run_eql_slice_nil (P:=Tryz.prog) w 61 123 none 0 0 0 0 Tryz.underlying61
  go_in
  go_wp2
  go_ret
  exact⟨_,rfl,⟨rfl,.inl ⟨rfl,rfl⟩⟩,Below.refl _ _⟩
|some b =>
  have i:CZ (w.alloc (.cells #[] 123)) (some b) n c l:=h.ext ((Below.refl _ _).alloc (zN _) _)
  have f:=fun (w:World)=>Lib.run_eql_slice_nil (P:=Tryz.prog) w 61 123 (some b) n c 0 0 Tryz.underlying61
  go_in
  go_wp2_with (at_builtin;refine Ju rfl _ _ rfl w.heap.size _ [] rfl (JA.empty w (zN _)) b n c l rfl i (by simp;omega) (by simp) ?_;intro v o g j)
  go_ret
  exact⟨v,rfl,g,((Below.refl _ _).alloc (zN _) _).grown j (by simp) (fun k m=>by cases m;exact zN _)⟩
end Go.Proofs.YtmanejniepghlaaGreatDoor
