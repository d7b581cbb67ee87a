import Derived.RangeFuncNested
import Derived.RangeFuncBound
import Derived.RangeFuncCalls
import Derived.RangeFuncLeaves
import Derived.RangeFuncBox
import Derived.Shelf.Abstract
import Derived.Shelf.RegionOpen
import Derived.WalkKit
import Derived.OwnWalkIn
import Derived.TacticsInMore
import Derived.LoopNIn
import Derived.LoopIn
import Derived.Test.YtmanejniepghlaaGreatDoorRun4
import Derived.Test.YtmanejniepghlaaGreatDoorRun1
set_option maxHeartbeats 2000000
namespace Go.Proofs.YtmanejniepghlaaGreatDoor
open _root_.Go.Proofs.Tryz
open Go.RowKit Go.Shelf
set_option maxRecDepth 100000
variable {Bs n₀:Nat}
attribute [local go_sem] Oper.semAt_some
theorem Hw (n:Int) (b:-9223372036854775808<=n) (c:n<=9223372036854775807) (w:World):Calls prog 170 #[n] w fun e a=>e=.returned (.int .i64 (Fr.size n))/\w=a:=by
 by_cases h:n < 0
 ·rw [show Fr.size n=0 from if_pos (by omega)]
  go_in
  go_wp2
  go_ret
  exact⟨rfl,rfl⟩
 by_cases d:1024 < n
 ·rw [show Fr.size n=0 from if_pos (by omega)]
  go_in
  go_wp2
  go_ret
  exact⟨rfl,rfl⟩
 ·rw [show Fr.size n=14+n from if_neg (by omega)]
  go_in
  go_wp2
  go_ret
  exact⟨rfl,rfl⟩
theorem AM.WV (w:World) (y:Nat) (t:TypeId):AM (w.alloc (.cells #[.int .u8 ((y:Int) % 256)] t)) w.heap.size 1 1 [UInt8.ofNat (y % 256)]:=by
 have h:=AM.one w (UInt8.ofNat (y % 256)) t
 rw [bv,AX.BJ (Nat.mod_lt _ (by decide))] at h
 simpa using h
theorem Yt (base:Nat) (v:Value) (l:List UInt8) (x n:Nat) (w:World) (h:AC base w v l) (C:base<=w.heap.size) (_hx:x < 4294967296) (G:l.length<=1000000) (hn:n<=8) (N:Int) (s:N=(n:Int)) :
 Calls prog 171 #[v,.int .u32 x,N] w fun e j=>∃ d,e=.returned d/\AC base j d (l ++ Su.le n x)/\Below base w j:=by
 subst s
 go_in
 go_wp2
 go_loopw [0,1,8] (fun u y i wr=>∃ k:Nat,k<=n/\i=.int .i64 k/\y=.int .u32 (x / 256 ^ k:Nat)/\AC base wr u (l ++ Su.le k x)/\Below base w wr) (fun _ _ i _=>n - (intOf i).toNat)
 case atStart=>exact⟨0,Nat.zero_le _,rfl,by simp,by simpa [Su.le] using h,Below.refl _ _⟩
 case round =>
  obtain⟨k,F,rfl,rfl,c,b⟩:=hrel
  by_cases A:k < n
  ·have z:(l ++ Su.le k x).length<=1000008:=by rw [List.length_append,Su.AU];omega
   have hs:=Su.le_succ k x
   have hd:x / 256 ^ k / 256=x / 256 ^ (k+1):=by rw [Nat.div_div_eq_div_mul,Nat.pow_succ]
   have f:=AM.WV wr (x / 256 ^ k)
   generalize x / 256 ^ k=y at *
   have B:(0:Int)<=(y:Int):=Int.natCast_nonneg _
   have r:=zH hs;have q:=zH hd;have m:=zH f
   have hsz:=b.size
   clear hs hd f
   go_wp2_with (at_builtin;refine Qc rfl _ _ rfl base _ (l ++ Su.le k x) rfl (c.alloc _) wr.heap.size 1 1 [UInt8.ofNat (y % 256)] rfl (m.out _) (by omega) (by simp;omega) ?_;intro d t o a _)
   have p:Below base w t:=(b.alloc (by omega) _).grown a (by simp;omega) (fun g a=>(c.lt g a).1)
   clear a
   go_wp2
   go_roundw
   case rel =>
    refine⟨k+1,by omega,by go_num,?_,?_,p⟩
    ·rw [<-q.out];simp
    ·rw [r.out,<-List.append_assoc];exact o
   case measure=>simp [intOf];omega
  ·obtain rfl:k=n:=by omega
   go_wp2
   go_ret
   exact⟨_,rfl,c,b⟩
theorem Dy (a:Option Addr) (n c:Nat) (l:List UInt8) (w:World) (h:AM w a n c l) (hn:n<=140737488355328) :
 Calls prog 75 #[.slice a n c] w fun e d=>∃ v,e=.returned v/\AC w.heap.size d v l/\Below w.heap.size w d:=by
 cases a with
|none =>
  obtain⟨rfl,rfl⟩:=h.2.2.2.1 rfl
  obtain rfl:n=0:=h.1.symm
  have f:=fun (w:World)=>Lib.run_eql_slice_nil (P:=prog) w 70 5 none 0 0 0 0 underlying70
  go_in
  go_wp2
  go_ret
  exact⟨_,rfl,AC.nil _ _,Below.refl _ _⟩
|some b =>
  have i:AM (w.alloc (.cells #[] 5)) (some b) n c l:=h.ext ((Below.refl _ _).alloc (zN _) _)
  have f:=fun (w:World)=>Lib.run_eql_slice_nil (P:=prog) w 70 5 (some b) n c 0 0 underlying70
  go_in
  go_wp2_with (at_builtin;refine Qc rfl _ _ rfl w.heap.size _ [] rfl (AC.empty w (zN _)) (some b) n c l rfl i (by simpa using hn) (by simp) ?_;intro v o g j _)
  go_ret
  exact⟨v,rfl,g,((Below.refl _ _).alloc (zN _) _).grown j (by simp) (fun k m=>by cases m;exact zN _)⟩
def upto {α:Type} (f:Nat->α) (k:Nat):List α:=(List.range k).map f
theorem Oh {α:Type} (f:Nat->α) (k:Nat):upto f (k+1)=upto f k ++ [f k]:=by simp [upto,List.range_succ]
theorem Gw {α:Type} (f:Nat->α) (k:Nat):(upto f k).length=k:=by simp [upto]
def back (l:List UInt8) (n k:Nat):Int × UInt8:=((n:Int) - 1 - (k:Int),l[n - 1 - k]?.getD 0)
def VM (n₀ Bs:Nat) (A B:World):Prop:=Below n₀ A B/\B.heap[Bs]?=A.heap[Bs]?
theorem Mh {A B C:World} (h:VM n₀ Bs A B) (k:VM n₀ Bs B C):VM n₀ Bs A C:=⟨h.1.trans k.1,k.2.trans h.2⟩
theorem Mz {w:World} (hn:n₀<=w.heap.size) (d:Bs < w.heap.size) (W:World) (l:Nat) (o o':Obj) (c:w.heap.size<=l) (h:W.heap[l]?=some o) (a:o.isCells=false) (b:o.isWalk=false):VM n₀ Bs W (W.putObj l o') :=
 ⟨belowK_b hn W l o o' c h a b,(grownBy_putObj' W l o').block Bs (by have:=Qa h;omega) (fun e=>by cases e;omega)⟩
theorem Do (F:Fence) (n:Nat) (H:F.fn 241) (C:F.round=none) (hn:1<=n) (l Bs n₀:Nat) (a:Option Addr) (len cap:Nat) (d:List UInt8) (M:∀ x,a=some x->0 < len->x.block < n₀) (J s:List (Int × UInt8)->World->Prop)
 (K:∀ pre x W,J pre W->pre.length < len->YieldAt F (n - 1) prog l #[x.1,.int .u8 (x.2.toNat:Int)] W fun e c =>
  (e=.returned (.bool true)/\J (pre ++ [x]) c/\VM n₀ Bs W c)\/(e=.returned (.bool false)/\s (pre ++ [x]) c))
 (W:World) (y:W.cell? Bs=some (.slice a len cap)) (f:AM W a len cap d) (h0:J [] W) :
 CallsIn F n prog 241 #[.func (.yield l) #[] #[],.pointer Bs] W fun e c=>(∃ v,e=.returned v) ∧
  ((∃ u,u=upto (back d len) len/\J u c)\/(∃ pre,(∃ k,k<=len/\pre=upto (back d len) k)/\s pre c)):=by
 have U:=f.le
 have g:∀ k,k < len->∀ c,VM n₀ Bs W c->∃ b o,a=some ((b:Nat) o)/\c.cell? (b (o+(len - 1 - k)))=some (.int .u8 (((back d len k).2).toNat:Int))/\c.cell? Bs=some (.slice (b o) len cap):=by
  intro k N c t
  obtain⟨b,o,e,_,_,h⟩:=f.at (show len - 1 - k < len by omega)
  refine⟨b,o,e,(t.1.cell (p:=(b (o+(len - 1 - k)))) (M (b o) e (by omega))).trans h,?_⟩
  rw [<-e];exact (World.cell?_of_block (a:=Bs) t.2).trans y
 have G:=zH g
 clear f g
 refine callsIn_of_wp func241 rfl H ?_ C
 simp only [ntmps241,List.size_toArray,List.length_cons,List.length_nil,Nat.reduceAdd,Nat.reduceSub,Array.replicate_succ,Array.replicate_zero,List.push_toArray,List.append_toArray,List.nil_append,List.cons_append]
 gi_wp2
 gi_loopw [3] (fun i wr=>∃ k:Nat,k<=len/\i=.int .i64 ((len:Int) - 1 - k)/\J (upto (back d len) k) wr/\VM n₀ Bs W wr)
  (fun i _=>(intOf i+1).toNat)
 case atStart=>exact⟨0,Nat.zero_le _,by simp,h0,Below.refl _ _,rfl⟩
 case round =>
  obtain⟨k,N,rfl,j,r⟩:=hrel
  by_cases q:k < len
  ·obtain⟨b,o,rfl,R,Q⟩:=G.out k q wr r
   obtain⟨fn,tmps,assign,body,O,I⟩:=K _ (back d len k) wr j (by rw [Gw];exact q)
   have m:(back d len k).1=(len:Int) - 1 - k:=rfl
   rw [m] at O
   have P:((len:Int) - 1 - k).toNat=len - 1 - k:=by omega
   have A:0<=(len:Int) - 1 - k:=by omega
   have T:(len:Int) - 1 - k < len:=by omega
   clear m
   gi_wp2
   refine I.mono ?_
   rintro e X (⟨rfl,z,B⟩|⟨rfl,w⟩)
   ·gi_wp2
    go_roundw
    case rel=>exact⟨k+1,by omega,by go_num,by rw [Oh];exact z,Mh r B⟩
    case measure=>simp [intOf];omega
   ·gi_wp2
    refine bodyPost_ret (results_none rfl _ _ _) rfl ?_
    exact⟨⟨_,rfl⟩,.inr ⟨_,⟨k+1,by omega,(Oh _ _).symm⟩,w⟩⟩
  ·obtain rfl:k=len:=by omega
   have A:¬ 0<=(k:Int) - 1 - k:=by omega
   gi_wp2
   go_end0
   exact⟨⟨_,rfl⟩,.inl j⟩
theorem Ik (F:Fence) (n:Nat) (c:F.fn 221) (b:F.round=none) (a:Option Addr) (len cap:Nat) (w:World) :
 CallsIn F n prog 221 #[.slice a len cap] w fun e d=>e=.returned (.func (.func 241) #[] #[.pointer w.heap.size])/\d=w.alloc (.cells #[.slice a len cap] 70):=by
 refine callsIn_of_wp func221 rfl c ?_ b
 simp only [ntmps221,List.size_toArray,List.length_cons,List.length_nil,Nat.reduceAdd,Nat.reduceSub,Array.replicate_succ,Array.replicate_zero,List.push_toArray,List.append_toArray,List.nil_append,List.cons_append]
 gi_wp2
 go_ret
 exact⟨rfl,rfl⟩
theorem Rd (F:Fence) (n:Nat) (g:F.fn 241) (e:F.round=none) (hn:1<=n) (Bs n₀:Nat) (a:Option Addr) (len cap:Nat) (b:List UInt8) (j:∀ x,a=some x->0 < len->x.block < n₀) (w:World) (d:Bs < w.heap.size)
 (m:w.cell? Bs=some (.slice a len cap)) (h:AM w a len cap b) :
 SeqStopsK F n prog 241 #[.pointer Bs] (fun x:Int × UInt8=>#[x.1,Value.int .u8 (x.2.toNat:Int)]) (VM n₀ Bs) (fun o=>o=upto (back b len) len)
  (fun pre=>∃ k,k<=len/\pre=upto (back b len) k) len w:=fun l J f W c _ _ i h0 =>
 Do F n g e hn l Bs n₀ a len cap b j J f i W ((c.cell (p:=Bs) d).trans m) (h.ext c) h0
def acc (p:List (Int × UInt8)):Nat:=p.foldl (fun v x=>(v * 256) % 4294967296 ||| x.2.toNat) 0
theorem Dl (p:List (Int × UInt8)) (x:Int × UInt8):acc (p ++ [x])=(acc p * 256) % 4294967296 ||| x.2.toNat:=by simp [acc]
theorem Dj (l:List UInt8) (h:l.length<=4):acc (upto (back l l.length) l.length)=Su.unle l:=by
 have c:∀ p:List (Int × UInt8),acc p=(p.map (·.2)).foldl (fun v x=>(v * 256) % 4294967296 ||| x.toNat) 0:=fun p=>by simp [acc,List.foldl_map]
 have a:(upto (back l l.length) l.length).map (·.2)=l.reverse:=by
  apply List.ext_getElem
  ·simp [upto]
  ·intro i g e
   simp at e
   simp only [upto,List.map_map,List.getElem_map,List.getElem_range,Function.comp,back,List.getElem_reverse]
   rw [List.getElem?_eq_getElem (by omega)];rfl
 rw [c,a]
 clear c a
 induction l with
|nil=>rfl
|cons b l ih =>
  rw [List.reverse_cons,List.foldl_append,ih (by simp at h;omega),Su.unle]
  have d:=Su.CV l
  have j:Su.unle l < 16777216:=Nat.lt_of_lt_of_le d (Nat.le_trans (Nat.pow_le_pow_right (by decide) (show l.length<=3 by simp at h;omega)) (by decide))
  have f:=b.toNat_lt
  simp only [List.foldl_cons,List.foldl_nil]
  rw [Nat.mod_eq_of_lt (by omega),show Su.unle l * 256=2 ^ 8 * Su.unle l by omega,Nat.or_comm,Nat.or_comm,<-Nat.two_pow_add_eq_or_of_lt f];omega
theorem Iw (v:Nat) (b:UInt8):bits BinOp.or IntKind.u32 (IntKind.u32.wrap ((v:Int) * 2 ^ 8)) (b.toNat:Int)=(((v * 256) % 4294967296 ||| b.toNat:Nat):Int):=by
 have a:IntKind.u32.wrap ((v:Int) * 2 ^ 8)=((v * 256 % 4294967296:Nat):Int):=by
  simp [IntKind.wrap,IntKind.bits,IntKind.signed]
 rw [a,u32_or_nat _ _ (Nat.mod_lt _ (by decide)) (Nat.lt_of_lt_of_le b.toNat_lt (by decide))]
theorem Rk (F:Fence) (n:Nat) (I:F.fn 195) (J:F.fn 221) (q:F.fn 241) (d:F.round=none) (hn:3<=n) (a:Option Addr) (len cap:Nat) (i:List UInt8) (w:World) (r:AM w a len cap i) :
 CallsIn F n prog 195 #[.slice a len cap] w fun e G=>e=.returned (.int .u32 (acc (upto (back i len) len):Nat))/\Below w.heap.size w G:=by
 have H:1<=n:=by omega
 have z:∀ x,a=some x->0 < len->x.block < w.heap.size:=by
  intro x Q P
  obtain⟨b,o,e,N,-⟩:=r.at P
  rw [Q] at e;cases e;exact N
 refine callsIn_of_wp_marks func195 rfl I ?_ d
 simp only [ntmps195,List.size_toArray,List.length_cons,List.length_nil,Nat.reduceAdd,Nat.reduceSub,Array.replicate_succ,Array.replicate_zero,List.push_toArray,List.append_toArray,List.nil_append,List.cons_append]
 gi_wp2_with (gi_at_call 221;refine (Ik F (n - 1) J d _ _ _ _).mono ?_;rintro e T ⟨rfl,rfl⟩)
 have m:=Boxed.new w 91 (.int .u32 0)
 have k:=Boxed.new (w.alloc (.cells #[.int .u32 0] 91)) 70 (.slice a len cap)
 rw [World.size_alloc] at k
 have j:Below w.heap.size w ((w.alloc (.cells #[.int .u32 0] 91)).alloc (.cells #[.slice a len cap] 70)):=((Below.refl _ w).alloc (zN _) _).alloc (by simp) _
 refine wpIn_rangeFunc_ownG d H (gf:=241) (lb:=#[.pointer (w.heap.size+1:Nat)]) rfl q (enters_of func241 (by kernel_rfl) rfl)
  (Rd F (n - 1) q d (by omega) (w.heap.size+1) w.heap.size a len cap i z _ (by simp) k.cell (r.ext j)) Mh (Mz (by simp;omega) (by simp)) (Below.refl _ _) (fun _=>rfl)
  (fun pre W=>(W.cell? w.heap.size=some (.int .u32 (acc pre:Nat))/\W.frozen? w.heap.size=false)/\Below w.heap.size w W)
  (fun _ _ _=>False)
  (OwnFrom.and (Own.from (fun s A B row hs u hr=>⟨cell_kept hs.1 u hr,(frozen_kept hs.1 u hr).trans hs.2⟩) _) (ownFrom_below (zN _) (by simp;omega)))
  (fun _ _ _ _ _ hs _ _=>hs)
  ⟨⟨(m.alloc _).cell,(m.alloc _).frozen⟩,j⟩
  (fun x=>{ tmps:=#[.slice a len cap,undef,.int .u32 0,.pointer w.heap.size,undef,.int .u8 (x.2.toNat:Int),.slice a len cap,.func (.func 241) #[] #[.pointer (w.heap.size+1:Nat)],x.1,.int .u8 (x.2.toNat:Int),undef,undef,undef,undef,undef,undef],defers:=[] }) ?assign ?body ?done ?stop
 case assign =>
  intro l x W K f
  gi_wp2
  exact f
 case body =>
  rintro l pre x W ⟨⟨t,O⟩,g⟩ _
  have C:=zH (Iw (acc pre) x.2)
  have y:=zH (Dl pre x)
  have R:=x.2.toNat_lt
  gi_wp2
  exact⟨(KeepsOthers.setCell _ _ _).from _,⟨(Below.refl w.heap.size W).setCell (p:=w.heap.size) (zN _) _,heap_setCell_other _ _ _ _ (by simp)⟩,⟨by rw [y.out,<-C.out];exact World.cell?_setCell_same' _ _ _ (by rw [t];rfl),by rw [World.frozen?_setCell];exact O⟩,g.setCell (p:=w.heap.size) (zN _) _⟩
 case done =>
  rintro D U W M rfl ⟨⟨t,_⟩,g⟩ f
  gi_wp2
  refine⟨by simp,.inl ⟨_,_,rfl,run_takeDeferred f,?_⟩⟩
  exact⟨_,results_tmp rfl _ _ _,rfl,g.trans (belowK_b (w:=w) (zN _) W D _ _ (by simp at M;omega) f rfl rfl)⟩
 case stop =>
  rintro D c pre W _ _ h _
  exact h.elim
theorem Xm (a:Option Addr) (n c:Nat) (l:List UInt8) (w:World) (h:AM w a n c l) (hn:n<=4) :
 Calls prog 195 #[.slice a n c] w fun e b=>e=.returned (.int .u32 (Su.unle l:Nat))/\Below w.heap.size w b:=by
 have:=callsIn_wide.1 (Rk Fence.wide 3 trivial trivial trivial rfl (zN _) a n c l w h)
 obtain rfl:=h.len
 rw [Dj l hn] at this
 exact this
end Go.Proofs.YtmanejniepghlaaGreatDoor
