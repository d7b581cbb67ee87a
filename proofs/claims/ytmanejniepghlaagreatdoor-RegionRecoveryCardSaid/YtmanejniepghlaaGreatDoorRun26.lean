import Derived.Test.YtmanejniepghlaaGreatDoorRun0
import Derived.OwnWalk
import Derived.Lib.SlBytesConst
import Derived.RangeFuncBox
import Derived.Shelf.Abstract
namespace Go.Proofs.YtmanejniepghlaaGreatDoor
open Go.RowKit
variable {base:Nat} {w:World}
theorem zd_l (a:Option Addr) (n c:Nat) (l:List UInt8) (w:World) (h:SlB w a n c l) (hn:n<=140737488355328) :
 Calls Tryz.prog 75 #[.slice a n c] w fun e w'=>∃ v,e=.returned v/\OwnB w.heap.size w' v l/\Below w.heap.size w w':=by
 cases a with
|none =>
  obtain⟨rfl,rfl⟩:=h.2.2.2.1 rfl
  obtain rfl:n=0:=h.1.symm
  have hnil:=fun (w:World)=>Lib.run_eql_slice_nil (P:=Tryz.prog) w 70 5 none 0 0 0 0 Tryz.underlying70
  go_enter Tryz.func75,Tryz.ntmps75
  go_wp2
  go_ret
  exact⟨_,rfl,OwnB.nil _ _,Below.refl _ _⟩
|some ad =>
  have h2:SlB (w.alloc (.cells #[] 5)) (some ad) n c l:=h.ext ((Below.refl _ _).alloc (zN _) _)
  have hnil:=fun (w:World)=>Lib.run_eql_slice_nil (P:=Tryz.prog) w 70 5 (some ad) n c 0 0 Tryz.underlying70
  go_enter Tryz.func75,Tryz.ntmps75
  go_wp2_with (at_builtin;refine za_d rfl _ _ rfl w.heap.size _ [] rfl (OwnB.empty w (zN _)) (some ad) n c l rfl h2 (by simpa using hn) (by simp) ?_;intro v w1 hown hg _)
  go_ret
  exact⟨v,rfl,hown,((Below.refl _ _).alloc (zN _) _).grown hg (by simp) (fun k hk=>by cases hk;exact zN _)⟩
def pq (p:Int × Int):List Value:=[p.1,p.2]
def OwnP (base:Nat) (w:World) (v:Value) (l:List (Int × Int)):Prop:=w.ownsRow base 123 2 v l.length (l.flatMap pq)
theorem zc_u (l:List (Int × Int)):(l.flatMap pq).length=l.length * 2:=by
 induction l with
|nil=>rfl
|cons a l ih=>simp [pq,ih];omega
theorem zf_d (l:List (Int × Int)) (i:Nat) (hi:i < l.length):(l.flatMap pq)[i * 2]?=some (.int .i64 l[i].1)/\(l.flatMap pq)[i * 2+1]?=some (.int .i64 l[i].2):=by
 induction l generalizing i with
|nil=>simp at hi
|cons a l ih =>
  cases i with
 |zero=>exact⟨rfl,rfl⟩
 |succ i =>
   have:=ih i (by simpa using hi)
   rw [List.flatMap_cons,show (i+1) * 2=(i * 2)+2 by omega]
   simpa [pq] using this
theorem OwnP.sl {v:Value} {l:List (Int × Int)} (h:OwnP base w v l):∃ a c,v=.slice a l.length c/\SlP w a l.length c l/\∀ x,a=some x->base<=x.block/\x.block < w.heap.size:=by
 rcases id h.2 with⟨hv,hn⟩|⟨g,cap,cur,hv,hg,hc,hnc,hcm,hcs,htake⟩
 ·have hl:l=[]:=List.eq_nil_of_length_eq_zero hn
  subst hl
  exact⟨none,0,hv,SlP.nil w,fun x hx=>by cases hx⟩
 ·refine⟨.some g,cap,hv,⟨rfl,hnc,hcm,(fun h=>by cases h),fun x hx i hi=>?_⟩,fun x hx=>by cases hx;exact⟨hg,za_a hc⟩⟩
  cases hx
  have hcell:∀ j,j < l.length * 2->w.cell? (g j)=(l.flatMap pq)[j]?:=by
   intro j hj
   rw [cell_of_row _ _ _ _ _ _ hc,<-htake,List.getElem?_take_of_lt hj];simp
  obtain⟨h1,h2⟩:=zf_d l i hi
  refine⟨rfl,za_a hc,?_,?_⟩
  ·simp only [Nat.zero_add];rw [hcell _ (by omega),h1]
  ·simp only [Nat.zero_add];rw [hcell _ (by omega),h2]
theorem OwnP.empty (w:World) (hb:base<=w.heap.size):OwnP base (w.alloc (.cells #[] 123)) (.slice w.heap.size 0 0) [] :=
 ⟨rfl,.inr ⟨w.heap.size,0,#[],rfl,hb,za_b _ _ _ rfl,zN _,by unfold maxLen;omega,rfl,rfl⟩⟩
theorem infoFault:(Tryz.prog.info? 123).map (fun i=>(i.zero,i.size,i.bytes))=some (some (.agg #[.int .i64 0,.int .i64 0]),2,16):=by kernel_rfl
theorem zc_t {ops:Array Oper} {rest:List Oper} {o:Oper} {a:Act} {Q:Exit->Act->World->Prop} (hgd:o.guard=none) (s x:Operand)
 (ho:o.op=.call { callee:=.builtin .append,args:=#[s,x],argTypes:=#[61,61] })
 (base:Nat) (v:Value) (l:List (Int × Int)) (hs:a.eval s=v) (hown:OwnP base w v l) (ad:Addr) (m c:Nat) (l2:List (Int × Int)) (hx:a.eval x=.slice (some ad) m c) (hsl:SlP w (some ad) m c l2)
 (hlen:l.length+m<=1000000000) (hbase:base<=w.heap.size)
 (h:∀ v' w',OwnP base w' v' (l ++ l2)->w.grownBy w' v.ownBlock->wpList Tryz.prog ops Q rest (a.put o.dst v') w'):wpList Tryz.prog ops Q (o :: rest) a w:=by
 obtain⟨i0,hi,hz0,hz1,hz2⟩:=info_parts infoFault
 have hl2:=hsl.len
 refine wpList_append_own w hgd s x 61 ho base 123 i0 _ 2 16 Tryz.underlying61 hi hz0 hz1 hz2 rfl (by decide) v l.length _ hs hown ad m c (l2.flatMap pq) hx (by rw [zc_u,hl2]) ?_ ?_ (by unfold maxLen;omega) (by omega) hbase ?_
 ·intro j u hj
  have hjl:j < l2.length * 2:=by
   have:=(List.getElem?_eq_some_iff.1 hj).1;rwa [zc_u] at this
  have hi2:j / 2 < l2.length:=by omega
  obtain⟨hsp,hb,c1,c2⟩:=hsl.2.2.2.2 ad rfl (j / 2) hi2
  obtain⟨g1,g2⟩:=zf_d l2 (j / 2) hi2
  have hadd:ad.add j=(ad.block (ad.off+j)):=by
   obtain⟨b,o,sp⟩:=ad;simp only at hsp;subst hsp;unfold Addr.add;split <;> simp_all
  rw [hadd]
  rcases Nat.mod_two_eq_zero_or_one j with h0|h0
  ·have e:j / 2 * 2=j:=by omega
   rw [e] at c1 g1
   rw [c1,<-hj,g1]
  ·have e:j / 2 * 2+1=j:=by omega
   rw [Nat.add_assoc,e] at c2
   rw [e] at g2
   rw [c2,<-hj,g2]
 ·intro u hu
  obtain⟨p,_,hp⟩:=List.mem_flatMap.1 hu
  simp [pq] at hp
  rcases hp with rfl|rfl <;> rfl
 ·intro v' w' h1 h2 _
  refine h v' w' ?_ h2
  unfold OwnP;rw [List.length_append,List.flatMap_append,hl2];exact h1
theorem zf_l (a:Option Addr) (n c:Nat) (l:List (Int × Int)) (w:World) (h:SlP w a n c l) (hn:n<=1000000) :
 Calls Tryz.prog 74 #[.slice a n c] w fun e w'=>∃ v,e=.returned v/\OwnP w.heap.size w' v l/\Below w.heap.size w w':=by
 cases a with
|none =>
  obtain⟨rfl,rfl⟩:=h.2.2.2.1 rfl
  obtain rfl:n=0:=h.1.symm
  have hnil:=fun (w:World)=>Lib.run_eql_slice_nil (P:=Tryz.prog) w 61 123 none 0 0 0 0 Tryz.underlying61
  go_enter Tryz.func74,Tryz.ntmps74
  go_wp2
  go_ret
  exact⟨_,rfl,⟨rfl,.inl ⟨rfl,rfl⟩⟩,Below.refl _ _⟩
|some ad =>
  have h2:SlP (w.alloc (.cells #[] 123)) (some ad) n c l:=h.ext ((Below.refl _ _).alloc (zN _) _)
  have hnil:=fun (w:World)=>Lib.run_eql_slice_nil (P:=Tryz.prog) w 61 123 (some ad) n c 0 0 Tryz.underlying61
  go_enter Tryz.func74,Tryz.ntmps74
  go_wp2_with (at_builtin;refine zc_t rfl _ _ rfl w.heap.size _ [] rfl (OwnP.empty w (zN _)) ad n c l rfl h2 (by simp;omega) (by simp) ?_;intro v w1 hown hg)
  go_ret
  exact⟨v,rfl,hown,((Below.refl _ _).alloc (zN _) _).grown hg (by simp) (fun k hk=>by cases hk;exact zN _)⟩
end Go.Proofs.YtmanejniepghlaaGreatDoor
