import Derived.Test.YtmanejniepghlaaGreatDoorRun2
import Derived.Test.YtmanejniepghlaaGreatDoorRun1
import Derived.Test.YtmanejniepghlaaGreatDoorRun26
import Derived.Shelf.Abstract
import Derived.Shelf.RegionOpen
import Derived.WalkKit
import Derived.OwnWalkIn
import Derived.TacticsInMore
import Derived.LoopNIn
import Derived.LoopIn
set_option maxHeartbeats 2000000
set_option maxRecDepth 100000
namespace Go.Proofs.YtmanejniepghlaaGreatDoor
open _root_.Go.Proofs.Tryz
section
open Go.RowKit Go.Shelf
variable {F:Nat->Prop} {w:World} {fc fn g m s:Nat} {fa:Option Addr} {d:Dd.Dk}
attribute [local go_sem] Oper.semAt_some
theorem Zj (f c:Int) (i:-9223372036854775808<=c/\c<=9223372036854775807) (w:World):Calls prog 110 #[.agg #[f,c]] w fun e j=>e=.returned (.int .i64 (Ex.size c))/\Below w.heap.size w j:=by
 have a:=(Below.refl _ w).alloc (zN _) (.cells #[f,c] 23)
 obtain⟨k,l⟩:=i
 unfold Ex.size
 by_cases h:c < 0
 ·rw [if_pos (.inl h)]
  go_in
  go_wp2
  go_ret
  exact⟨rfl,a⟩
 by_cases b:4096 < c
 ·rw [if_pos (.inr b)]
  go_in
  go_wp2
  go_ret
  exact⟨rfl,a⟩
 ·rw [if_neg (by omega)]
  go_in
  go_wp2
  go_ret
  exact⟨rfl,a⟩
def ib (z:Int):Prop:=-9223372036854775808<=z/\z<=9223372036854775807
theorem Ue (p:Value) (n:Nat) (hn:n<=4096) (f c:Int) (w:World) (q:∀ b:World,Below w.heap.size w b->Calls prog 45 #[p] b fun e o=>e=.returned (n:Value)/\b=o) :
 Calls prog 182 #[p,.agg #[f,c]] w fun e o=>e=.returned (.bool (Ex.AB n f c))/\Below w.heap.size w o:=by
 have i:=(Below.refl _ w).alloc (zN _) (.cells #[f,c] 23)
 have j:=zH (q _ i)
 obtain⟨r,hr⟩:∃ r,r=Ex.AB n f c:=⟨_,rfl⟩
 rw [<-hr]
 unfold Ex.AB at hr
 clear q
 by_cases h:0<=f
 ·by_cases k:1<=c
  ·by_cases l:c<=(n:Int)
   ·have a:r=decide (f<=(n:Int) - c):=by rw [hr,decide_eq_true h,decide_eq_true k,decide_eq_true l];rfl
    have u:=zH a
    clear hr a
    by_cases x:f<=(n:Int) - c
    all_goals
     go_in
     go_wp2_with (go_at_call 45;refine j.out.mono ?_;rintro e b ⟨rfl,rfl⟩)
     go_ret
     exact⟨by rw [u.out];simp [x],i⟩
   ·have a:r=false:=by rw [hr,decide_eq_true h,decide_eq_true k,decide_eq_false l];rfl
    have t:decide (c<=(n:Int))=false:=decide_eq_false l
    subst a;clear hr
    go_in
    go_wp2_with (go_at_call 45;refine j.out.mono ?_;rintro e b ⟨rfl,rfl⟩)
    go_ret
    exact⟨rfl,i⟩
  ·have a:r=false:=by rw [hr,decide_eq_true h,decide_eq_false k];rfl
   have t:decide (1<=c)=false:=decide_eq_false k
   subst a;clear hr
   go_in
   go_wp2_with (go_at_call 45;refine j.out.mono ?_;rintro e b ⟨rfl,rfl⟩)
   go_ret
   exact⟨rfl,i⟩
 ·have a:r=false:=by rw [hr,decide_eq_false h];rfl
  have t:decide (0<=f)=false:=decide_eq_false h
  subst a;clear hr
  go_in
  go_wp2_with (go_at_call 45;refine j.out.mono ?_;rintro e b ⟨rfl,rfl⟩)
  go_ret
  exact⟨rfl,i⟩
theorem Dt (h:PD F w g s m fa fn fc d) (f c:Int) :
 Calls prog 182 #[.pointer g,.agg #[f,c]] w fun e b=>e=.returned (.bool (Ex.AB d.st.length f c))/\Below w.heap.size w b :=
 Ue _ _ h.ok.max f c w (fun _ a=>Yc (h.ext a))
theorem Nm (h:PD F w g s m fa fn fc d) (f c off len:Int) (R:ib c) (ho:ib off) (T:ib len) :
 Calls prog 154 #[.pointer g,.agg #[f,c],off,len] w fun e X=>e=.returned (.int .i64 (Ex.check d.st.length f c off len))/\Below w.heap.size w X:=by
 have K:=(Below.refl _ w).alloc (zN _) (.cells #[f,c] 23)
 have l:=zH (Dt (h.alloc (.cells #[f,c] 23)) f c)
 have z:=zH (Zj f c R)
 obtain⟨r,hr⟩:∃ r,r=Ex.check d.st.length f c off len:=⟨_,rfl⟩
 rw [<-hr]
 unfold Ex.check at hr
 obtain⟨zc,zd⟩:=ho
 obtain⟨za,zb⟩:=T
 have hsz:0<=Ex.size c/\Ex.size c<=262144:=by unfold Ex.size;split <;> omega
 generalize Ex.AB d.st.length f c=v at *
 generalize Ex.size c=t at *
 obtain⟨ze,zf⟩:=hsz
 cases v with
|false =>
  rw [if_neg (by decide)] at hr
  have b:=zH hr;clear hr
  go_in
  go_wp2_with (go_at_call 182;refine l.out.mono ?_;rintro e u ⟨rfl,a⟩)
  go_ret
  exact⟨by rw [b.out];rfl,K.trans (Below.mono a (by simp))⟩
|true =>
  rw [if_pos rfl] at hr
  have C:∀ W:World,Below (w.heap.size+1) (w.alloc (.cells #[f,c] 23)) W->W.cell? w.heap.size=some (f:Value)/\W.cell? (w.heap.size 1)=some (c:Value)/\Below w.heap.size w W/\w.heap.size+1<=W.heap.size:=by
   intro W q
   refine⟨(q.cell (p:=w.heap.size) (by simp)).trans ?_,(q.cell (p:=(w.heap.size 1)) (by simp)).trans ?_,K.trans (q.mono (by omega)),by have:=q.size;simpa using this⟩
   ·rw [World.cell?_alloc_at _ _ _ _ rfl];rfl
   ·rw [World.cell?_alloc_at _ _ _ _ rfl];rfl
  have i:=zH C
  clear C
  have M:(w.alloc (.cells #[f,c] 23)).heap.size=w.heap.size+1:=by simp
  have o:=zH M
  clear M
  by_cases y:off < 0
  ·rw [if_pos (.inl y)] at hr
   have b:=zH hr;clear hr
   go_in
   go_wp2_with (go_at_call 182;refine l.out.mono ?_;rintro e u ⟨rfl,a⟩;rw [o.out] at a;obtain⟨A,B,j,k⟩:=i.out _ a)
   go_ret
   exact⟨by rw [b.out];rfl,j⟩
  by_cases I:len < 0
  ·rw [if_pos (.inr (.inl I))] at hr
   have b:=zH hr;clear hr
   have U:decide (off < 0)=false:=decide_eq_false y
   go_in
   go_wp2_with (go_at_call 182;refine l.out.mono ?_;rintro e u ⟨rfl,a⟩;rw [o.out] at a;obtain⟨A,B,j,k⟩:=i.out _ a)
   go_ret
   exact⟨by rw [b.out];rfl,j⟩
  have U:decide (off < 0)=false:=decide_eq_false y
  have t2:decide (len < 0)=false:=decide_eq_false I
  have b1:0<=off:=by omega
  have b2:0<=len:=by omega
  by_cases J:t < off
  ·rw [if_pos (.inr (.inr (.inl J)))] at hr
   have b:=zH hr;clear hr
   go_in
   go_wp2_with (first|(go_at_call 182;refine l.out.mono ?_;rintro e u ⟨rfl,a⟩;rw [o.out] at a;obtain⟨A,B,j,k⟩:=i.out _ a)|(go_at_call 110;refine (z.out _).mono ?_;rintro e Y ⟨rfl,x⟩;have n:=a.trans (Below.mono x k);obtain⟨Z,y1,G,H⟩:=i.out _ n))
   go_ret
   exact⟨by rw [b.out];rfl,G⟩
  have t3:decide (t < off)=false:=decide_eq_false J
  have b3:0<=t - off:=by omega
  by_cases Q:t - off < len
  case' pos=>rw [if_pos (.inr (.inr (.inr Q)))] at hr
  case' neg=>rw [if_neg (by omega)] at hr
  all_goals
   have b:=zH hr;clear hr
   go_in
   go_wp2_with fail
   refine l.out.mono ?_;rintro e u ⟨rfl,a⟩;rw [o.out] at a;obtain⟨A,B,j,k⟩:=i.out _ a
   go_wp2_with fail
   refine (z.out _).mono ?_;rintro e Y ⟨rfl,x⟩;have n:=a.trans (Below.mono x k);obtain⟨Z,y1,G,H⟩:=i.out _ n
   go_wp2_with fail
   refine (z.out _).mono ?_;rintro e w6 ⟨rfl,N⟩;have O:=n.trans (Below.mono N H);obtain⟨z0,z1,P,zg⟩:=i.out _ O
   go_wp2_with fail
   go_ret
   exact⟨by rw [b.out];rfl,P⟩
def LG (first off e:Nat) (k:Nat):Array Value :=
 #[.agg #[.int .i64 ((first:Int)+(Ex.pos off e k:Int) / 64),.int .i64 ((Ex.pos off e k:Int) % 64),.int .i64 ((Ex.pos off e k:Int) % 64+(Ex.step e (Ex.pos off e k):Int))]]
def UE (c b a:Nat) (A B:World):Prop:=B.heap[c]?=A.heap[c]?/\B.heap[b]?=A.heap[b]?/\B.heap[a]?=A.heap[a]?
theorem Is {c b a:Nat} {A B C:World} (h:UE c b a A B) (k:UE c b a B C):UE c b a A C:=⟨k.1.trans h.1,k.2.1.trans h.2.1,k.2.2.trans h.2.2⟩
theorem Vm (F:Fence) (n:Nat) (b:F.fn 155) (a:F.round=none) (f c off len:Int) (w:World) :
 CallsIn F n prog 155 #[.agg #[f,c],off,len] w fun e h=>e=.returned (.func (.func 183) #[] #[.pointer (w.heap.size+1:Nat),.pointer (w.heap.size+2:Nat),.pointer w.heap.size]) ∧
  h=((w.alloc (.cells #[f,c] 23)).alloc (.cells #[off] 3)).alloc (.cells #[len] 3):=by
 refine callsIn_of_wp func155 rfl b ?_ a
 simp only [ntmps155,List.size_toArray,List.length_cons,List.length_nil,Nat.reduceAdd,Nat.reduceSub,Array.replicate_succ,Array.replicate_zero,List.push_toArray,List.append_toArray,List.nil_append,List.cons_append]
 gi_wp2
 go_ret
 exact⟨rfl,rfl⟩
theorem Fx (F:Fence) (n:Nat) (h8:F.fn 183) (zb:F.round=none) (hn:1<=n) (h f b:Nat) (first off len:Nat) (c:Int) (hf:first<=5000) (ho:off+len<=1000000) (w:World)
 (b1:h < w.heap.size) (b2:f < w.heap.size) (b3:b < w.heap.size)
 (M:w.cell? h=some (off:Value)) (O:w.cell? f=some (len:Value)) (P:w.cell? b=some (first:Value)) (_x4:w.cell? (b 1)=some (c:Value)) :
 VQ F n prog 183 #[.pointer h,.pointer f,.pointer b] (LG first off (off+len)) (UE h f b) (Ex.cnt off (off+len)) w:=by
 intro l J Jx W y z I
 have y1:W.cell? h=_:=(y.cell (p:=h) b1).trans M
 have Q:W.cell? f=_:=(y.cell (p:=f) b2).trans O
 have R:W.cell? b=_:=(y.cell (p:=b) b3).trans P
 have HC:=zH (show ∀ o,UE h f b W o->o.cell? h=some (off:Value)/\o.cell? f=some (len:Value)/\o.cell? b=some (first:Value) from
  fun o r=>⟨(World.cell?_of_block (a:=h) r.1).trans y1,(World.cell?_of_block (a:=f) r.2.1).trans Q,(World.cell?_of_block (a:=b) r.2.2).trans R⟩)
 obtain⟨N,x⟩:∃ N,N=Ex.cnt off (off+len):=⟨_,rfl⟩
 have HN:=zH x
 rw [<-x] at z ⊢
 have HY:=zH z
 have C:=Ex.DZ off (off+len)
 have U:=zH C
 have HJ:=zH I
 clear M O P _x4 Q R x z C I
 refine callsIn_of_wp func183 rfl h8 ?_ zb
 simp only [ntmps183,List.size_toArray,List.length_cons,List.length_nil,Nat.reduceAdd,Nat.reduceSub,Array.replicate_succ,Array.replicate_zero,List.push_toArray,List.append_toArray,List.nil_append,List.cons_append]
 gi_wp2
 gi_loopw [5] (fun i wr=>∃ k:Nat,k<=N/\i=.int .i64 ((Ex.pos off (off+len) k:Nat):Int)/\J k wr/\UE h f b W wr) (fun i _=>off+len - (intOf i).toNat)
 case atStart=>exact⟨0,Nat.zero_le _,by rw [U.out],HJ.out,rfl,rfl,rfl⟩
 case round =>
  obtain⟨k,r,rfl,G,H⟩:=hrel
  obtain⟨z1,z2,z3⟩:=HC.out _ H
  have j:=Ex.GN off (off+len) k (by omega)
  have zd:=Ex.TN off (off+len) k (by omega)
  have u:=Ex.FT off (off+len) k
  have t:=@Ex.EY (off+len) (Ex.pos off (off+len) k)
  rw [<-HN.out] at j u
  have A:Ex.step (off+len) (Ex.pos off (off+len) k)=min (64 - Ex.pos off (off+len) k % 64) (off+len - Ex.pos off (off+len) k):=rfl
  have B:=zH (HY.out k wr G)
  unfold LG at B
  generalize Ex.pos off (off+len) k=p at *
  generalize Ex.step (off+len) p=st at *
  have X:=zH u
  clear u
  by_cases q:k < N
  ·have K:=j.2 q
   obtain⟨s1,s2,s3,s4⟩:=t K
   obtain⟨fn,tmps,assign,body,hy,hR⟩:=B.out q
   have zc:(if (p:Int) % 64+(off:Int)+(len:Int) - (p:Int) < 64 then (p:Int) % 64+(off:Int)+(len:Int) - (p:Int) else 64)=(p:Int) % 64+(st:Int):=by omega
   clear j t A
   have za:(p:Int) < (off:Int)+(len:Int):=by omega
   gi_wp2
   refine hR.mono ?_
   rintro e W3 (⟨rfl,Y,Z⟩|⟨rfl,T⟩)
   ·gi_wp2
    go_roundw
    case rel=>exact⟨k+1,by omega,by rw [X.out q];go_num,Y,Is H Z⟩
    case measure=>simp [intOf];omega
   ·gi_wp2
    refine bodyPost_ret (results_none rfl _ _ _) rfl ?_
    exact⟨⟨_,rfl⟩,.inr ⟨k+1,by omega,T⟩⟩
  ·have K:¬ p < off+len:=fun e=>q (j.1 e)
   obtain rfl:k=N:=by omega
   clear j t A
   have za:¬ (p:Int) < (off:Int)+(len:Int):=by omega
   gi_wp2
   go_end0
   exact⟨⟨_,rfl⟩,.inl G⟩
end
section
open Go.RowKit Go.Shelf
variable {W W' w:World} {B N X b base e f0 fc first fn g k m n o0 off r s:Nat} {F F':Nat->Prop} {d d':Dd.Dk} {fa:Option Addr} {v:Value} {c f:Int} {o o':Obj} {t:TypeId} {acc l:List UInt8} {R:List UInt8 × Int × Dd.Dk} {cs:Array Value} {fr:Nat × Nat}
attribute [local go_sem] Oper.semAt_some
def GL (F:Nat->Prop) (w:World) (g s m:Nat) (fa:Option Addr) (fn fc:Nat) (r:List UInt8 × Int × Dd.Dk) (e:Ending) (w':World):Prop :=
 ∃ v,e=.returned (.tuple #[v,r.2.1])/\AC w.heap.size w' v r.1/\PD F w' g s m fa fn fc r.2.2/\AD F w F w'
theorem Qj (h:Boxed W B t v) (e:Below W.heap.size W W'):Boxed W' B t v:=(e.block _ h.lt).trans h
theorem Qe (h:Boxed W B t v) (e:W'.heap[B]?=W.heap[B]?):Boxed W' B t v:=e.trans h
structure DN (W:World) (b g:Nat) (f c:Int):Prop where
 ptr:Boxed W b 37 (.pointer g)
 ext:W.heap[b+1]?=some (.cells #[f,c] 23 (0,0))
theorem DN.cells (h:DN W b g f c):W.cell? b=some (.pointer g)/\W.cell? (b+1:Nat)=some (f:Value)/\W.cell? ((b+1) 1)=some (c:Value) :=
 ⟨h.ptr.cell,by rw [cell_of_row _ _ _ _ _ _ h.ext];rfl,by rw [cell_of_row _ _ _ _ _ _ h.ext];rfl⟩
theorem DN.AI (h:DN W b g f c) (a:W'.heap[b]?=W.heap[b]?) (i:W'.heap[b+1]?=W.heap[b+1]?):DN W' b g f c:=⟨Qe h.ptr a,i.trans h.ext⟩
theorem DN.ext' (h:DN W b g f c) (e:Below W.heap.size W W'):DN W' b g f c:=h.AI (e.block _ h.ptr.lt) (e.block _ (Qa h.ext))
def YT (b g f0:Nat) (c:Int) (o0 a X:Nat) (j:Option Addr) (p:Nat) (h i:Value):Array Value:=#[Value.pointer g,Value.agg #[f0,c],(o0:Value),(a:Value),Value.pointer b,Value.pointer (b+1:Nat),undef,undef,Value.pointer (b+1+1:Nat),Value.pointer (b+1+1+1:Nat),Value.int IntKind.i64 0,Value.pointer X,h,undef,undef,Value.pointer g,Value.agg #[f0,c],(o0:Value),(a:Value),Value.int IntKind.i64 0,Value.int IntKind.i64 0,Value.bool false,undef,(a:Value),Value.slice j 0 p,Value.agg #[f0,c],(o0:Value),(a:Value),Value.func (Fn.func 183) #[] #[Value.pointer (X+1+1:Nat),Value.pointer (X+1+2:Nat),Value.pointer (X+1:Nat)],i,undef,undef,undef,undef,undef,undef,undef,undef,undef,undef,undef,undef,undef,undef,undef,undef,undef,undef,undef]
structure UK (F:Nat->Prop) (w:World) (g s m:Nat) (fa:Option Addr) (fn fc:Nat) (f0:Nat) (c:Int) (o0 e N:Nat) (X:Nat) (n:Nat) (R:List UInt8 × Int × Dd.Dk) (k:Nat) (W:World):Prop where
 acc:∃ acc d' v,Hid (R=Ex.rd f0 o0 e (N - k) k acc d')/\PD F W g s m fa fn fc d'/\d'.st.length=n/\Boxed W X 70 v/\AC (w.heap.size+4) W v acc/\acc.length<=64 * k
 upd:AD F w F W
 big:X+4<=W.heap.size
 itr:W.heap[X+1]?=some (.cells #[f0,c] 23 (0,0))/\(∃ z,Boxed W (X+1+1) 3 z)/\∃ z,Boxed W (X+1+2) 3 z
 args:DN W w.heap.size g (f0:Int) c
 res:Boxed W (w.heap.size+1+1) 70 (.slice none 0 0)
 err:Boxed W (w.heap.size+1+1+1) 27 (.int .i64 0)
def YH (F:Nat->Prop) (w:World) (g s m:Nat) (fa:Option Addr) (fn fc:Nat) (R:List UInt8 × Int × Dd.Dk) (a:Code) (_k:Nat) (W:World):Prop :=
 a=.ret/\∃ z d',Hid (R=([],z,d'))/\PD F W g s m fa fn fc d'/\AD F w F W/\Boxed W (w.heap.size+1+1) 70 (.slice none 0 0)/\Boxed W (w.heap.size+1+1+1) 27 (z:Value)
theorem Ex.KH {b:List UInt8} {z:Int} (hr:Dd.read d ((first+Ex.pos off e k / 64:Nat):Int)=(b,z,d')) (a:¬ z=0):Ex.rd first off e (m+1) k acc d=([],z,d'):=by
 rw [Ex.rd,hr];exact if_neg a
theorem Ex.OK {b:List UInt8} (hr:Dd.read d ((first+Ex.pos off e k / 64:Nat):Int)=(b,0,d')) :
 Ex.rd first off e (m+1) k acc d=Ex.rd first off e m (k+1) (acc ++ (b.drop (Ex.pos off e k % 64)).take (Ex.step e (Ex.pos off e k))) d':=by
 rw [Ex.rd,hr];exact if_pos rfl
theorem Dd.BM (d:Dd.Dk) (i:Int):(Dd.read d i).2.2.st=d.st/\(Dd.read d i).2.2.ca=d.ca:=by
 rcases a:Dd.begin d (Dd.fits d i) with⟨b,e,d'⟩
 have h:=Dd.NL d (Dd.fits d i)
 rw [a] at h
 cases b
 ·by_cases j:e=0
  ·subst j;rw [Cd a];exact h
  ·rw [We a j];exact h
 ·rw [Ns a];exact h
theorem Dd.RZ {b t:Bool} (h:Dd.begin d b=(t,0,d')):b=true:=by
 unfold Dd.begin at h
 split at h
 ·injection h with _ h;injection h with h _;cases h
 ·split at h
  ·assumption
  ·injection h with _ h;injection h with h _;cases h
theorem Dd.CS (h:d.Ok) {i:Int} {b:List UInt8} (hr:Dd.read d i=(b,0,d')):b.length=64:=by
 unfold Dd.read at hr
 rcases p:Dd.begin d (Dd.fits d i) with⟨t,e,q⟩
 rw [p] at hr
 cases t
 ·have hr:(if e=0 then (Dd.content d i.toNat,0,q) else ([],e,q):List UInt8 × Int × Dd.Dk)=(b,0,d'):=hr
  by_cases j:e=0
  ·rw [if_pos j] at hr
   injection hr with u _
   rw [j] at p
   have:=Dd.RZ p
   unfold Dd.fits at this
   simp at this
   rw [<-u];exact Dd.GB h _ (by omega)
  ·rw [if_neg j] at hr;injection hr with _ a;injection a with a _;exact absurd a j
 ·injection hr with _ a;injection a with a _;cases a
theorem AC.cells (h:AC base W v l) (a:v.ownBlock=some k):∃ cs,W.heap[k]?=some (.cells cs 5 (0,0)):=by
 rcases h.2 with⟨i,_⟩|⟨g,cap,p,i,q,j,rest⟩
 ·rw [i] at a;cases a
 ·rw [i] at a;cases a;exact⟨_,j⟩
theorem AC.ET (h:AC base W v l) (i:W.heap[k]?=some (.cells cs t fr)) (j:t ≠ 5):v.ownBlock ≠ some k:=fun e=>by
 obtain⟨p,a⟩:=h.cells e
 rw [i] at a;injection a with a;injection a with _ a _;exact j a
theorem AD.LJ (h:AD F W F' W') (hF:∀ k,F k->k < B):KeepsFrom B W W' :=
 ⟨h.size,fun k o a ho _=>(h.block k (Qa ho) (fun e=>by have:=hF k e;omega)).trans ho⟩
theorem Qq {l:Nat} (h:W.heap[b]?=some (.cells cs t fr)) (a:W.heap[l]?=some o) (ho:o.isCells=false):b ≠ l:=by
 rintro rfl;rw [h] at a;cases a;cases ho
theorem Mx {x:Addr} {c:Nat} (h:AM W (some x) n c l) (j:l ≠ []) (hr:W.heap[r]?=some o) (ho:o.isCells=false):x.block ≠ r:=by
 have p:=(h.2.2.2.2 x rfl 0 (List.length_pos_iff.2 j)).2.2
 obtain⟨o',a,i⟩:=cells_of_cell p
 rintro rfl
 rw [hr] at a;cases a;rw [ho] at i;cases i
theorem AC.CH (h:AC base W v l) (hr:W.heap[r]?=some o) (ho:o.isCells=false):AC base (W.putObj r o') v l:=by
 refine⟨h.1,?_⟩
 rcases h.2 with hn|⟨g,cap,i,rfl,j,a,rest⟩
 ·exact .inl hn
 ·exact .inr ⟨g,cap,i,rfl,j,(World.putObj_heap_other (Qq a hr ho)).trans a,rest⟩
theorem PD.CH (h:PD F W g s m fa fn fc d) (hr:¬ F r) (o:Obj):PD F (W.putObj r o) g s m fa fn fc d :=
 h.AI (fun b a=>World.putObj_heap_other (by rintro rfl;exact hr a)) (by simp)
theorem AD.CH (h:AD F w F' W) (hr:F r\/w.heap.size<=r) (o:Obj):AD F w F' (W.putObj r o) :=
 ⟨h.os,h.tape,h.output,by simpa using h.size,fun k a hF=>(World.putObj_heap_other (by rintro rfl;rcases hr with e|e;exact hF e;omega)).trans (h.block k a hF),h.new⟩
theorem UK.CH (h:UK F w g s m fa fn fc f0 c o0 e N X n R k W) (hF:∀ b,F b->b < w.heap.size) {l:Nat} (q:w.heap.size<=l) (a:W.heap[l]?=some o) (i:o.isCells=false):UK F w g s m fa fn fc f0 c o0 e N X n R k (W.putObj l o'):=by
 have p:¬ F l:=fun e=>by have:=hF l e;omega
 obtain⟨acc,d',v,u,x,y,j,A,C⟩:=h.acc
 exact⟨⟨acc,d',v,u,x.CH p _,y,Qe j (World.putObj_heap_other (Qq j a i)),A.CH a i,C⟩,h.upd.CH (.inr q) _,by simpa using h.big,⟨(World.putObj_heap_other (Qq h.itr.1 a i)).trans h.itr.1,h.itr.2.1.imp fun z e=>Qe e (World.putObj_heap_other (Qq e a i)),h.itr.2.2.imp fun z e=>Qe e (World.putObj_heap_other (Qq e a i))⟩,h.args.AI (World.putObj_heap_other (Qq h.args.ptr a i)) (World.putObj_heap_other (Qq h.args.ext a i)),Qe h.res (World.putObj_heap_other (Qq h.res a i)),Qe h.err (World.putObj_heap_other (Qq h.err a i))⟩
theorem UK.ext (h:UK F w g s m fa fn fc f0 c o0 e N X n R k W) (a:Below W.heap.size W W'):UK F w g s m fa fn fc f0 c o0 e N X n R k W':=by
 obtain⟨acc,d',v,i,j,p,q,u,x⟩:=h.acc
 exact⟨⟨acc,d',v,i,j.ext a,p,Qj q a,u.ext a,x⟩,h.upd.ext a,Nat.le_trans h.big a.size,⟨(a.block _ (Qa h.itr.1)).trans h.itr.1,h.itr.2.1.imp fun z e=>Qj e a,h.itr.2.2.imp fun z e=>Qj e a⟩,h.args.ext' a,Qj h.res a,Qj h.err a⟩
theorem YH.CH {a:Code} (h:YH F w g s m fa fn fc R a k W) (hF:∀ b,F b->b < w.heap.size) {l:Nat} (x:w.heap.size<=l) (i:W.heap[l]?=some o) (j:o.isCells=false):YH F w g s m fa fn fc R a k (W.putObj l o'):=by
 have u:¬ F l:=fun e=>by have:=hF l e;omega
 obtain⟨rfl,z,d',y,A,C,p,q⟩:=h
 exact⟨rfl,z,d',y,A.CH u _,C.CH (.inr x) _,Qe p (World.putObj_heap_other (Qq p i j)),Qe q (World.putObj_heap_other (Qq q i j))⟩
theorem Rj (h:PD F w g s m fa fn fc d) (f c off len:Int) (hf:ib f) (hc:ib c) (ho:ib off) (hl:ib len) :
 CallsIn Fence.wide 4 prog 127 #[.pointer g,.agg #[f,c],off,len] w (GL F w g s m fa fn fc (Ex.read d f c off len)):=by
 obtain⟨W0,za⟩:∃ W0,W0=((((w.alloc (.cells #[.pointer g] 37)).alloc (.cells #[f,c] 23)).alloc (.cells #[.slice none 0 0] 70)).alloc (.cells #[.int .i64 0] 27)):=⟨_,rfl⟩
 have zl:Below w.heap.size w W0:=by
  rw [za];exact (((((Below.refl _ w).alloc (zN _) _).alloc (by simp) _).alloc (by simp;omega) _).alloc (by simp;omega) _)
 have vp:W0.heap.size=w.heap.size+4:=by rw [za];simp
 have yy:DN W0 w.heap.size g f c:=by
  rw [za]
  refine⟨?_,?_⟩
  ·exact ((((Boxed.new w _ _).alloc _).alloc _).alloc _)
  ·rw [Qd _ _ _ (by simp),Qd _ _ _ (by simp),Qb _ _ _ (by simp)]
 have yi:Boxed W0 (w.heap.size+1+1) 70 (.slice none 0 0):=by
  rw [za];unfold Boxed;rw [Qd _ _ _ (by simp),Qb _ _ _ (by simp)]
 have yc:Boxed W0 (w.heap.size+1+1+1) 27 (.int .i64 0):=by
  rw [za];unfold Boxed;rw [Qb _ _ _ (by simp)]
 have zz:=zH za
 have zr:=zH (Nm (h.ext zl) f c off len hc ho hl)
 have yg:=h.ext zl
 obtain⟨r,hr⟩:∃ r,r=Ex.read d f c off len:=⟨_,rfl⟩
 rw [<-hr]
 unfold Ex.read at hr
 clear za
 refine callsIn_of_wp_marks func127 rfl trivial ?_ rfl
 simp only [ntmps127,List.size_toArray,List.length_cons,List.length_nil,Nat.reduceAdd,Nat.reduceSub,Array.replicate_succ,Array.replicate_zero,List.push_toArray,List.append_toArray,List.nil_append,List.cons_append]
 refine wpIn_wide.2 ?_
 have zi:w.heap.size+1+1+1 ≠ w.heap.size+1+1:=by omega
 by_cases zb:Ex.check d.st.length f c off len=0
 ·rw [if_pos zb] at hr
  obtain⟨q1,q2,q3,q4,q5,q6,q7⟩:=Ex.EQ zb
  have yu:Ex.size c=c * 64:=by unfold Ex.size;rw [if_neg (by have:=h.ok.max;omega)]
  have vy:=h.ok.max
  obtain⟨f0,rfl⟩:=Int.eq_ofNat_of_zero_le q1
  obtain⟨o0,rfl⟩:=Int.eq_ofNat_of_zero_le q5
  obtain⟨i,rfl⟩:=Int.eq_ofNat_of_zero_le q6
  rw [zb] at zr
  have HR:=zH hr
  rw [yu] at q7
  have vz:o0+i<=262144:=by omega
  have vv:f0<=4096:=by omega
  clear hr yu zb
  go_wp2_with fail
  rw [<-zz.out]
  refine zr.out.mono ?_;rintro e w1 ⟨rfl,I⟩
  have zu:=yg.ext I
  have zk:=yy.ext' I
  have zg:=Qj yi I
  have ze:=Qj yc I
  obtain⟨x0,x1,x2⟩:=zk.cells
  have HX:=zH zk.cells
  have xq:w.heap.size+4<=w1.heap.size:=by have:=I.size;omega
  go_wp2_with (first|((show wpList _ _ _ (Oper.mk (some 24) _ _ _ _ _ :: _) _ _);go_must (refine Wv rfl _ _ rfl (w.heap.size+4) i _ rfl rfl rfl (by omega) (by omega) ?_);intro v2 x zf zm;obtain⟨Q,T,rfl,-,-⟩:=id zf.sl;rw [List.length_nil] at zf ⊢;obtain⟨y0,y1,y2⟩:=(zk.ext' zm).cells;have xm:w.heap.size+4<=x.heap.size:=(by have:=zm.size;omega);have xp:w.heap.size+1 < x.heap.size:=(by omega))|(go_at_call 155;refine (callsIn_wide.1 (Vm Fence.wide 3 trivial rfl (f0:Int) c (o0:Int) (i:Int) _)).mono ?_;rintro e w3 ⟨rfl,rfl⟩))
  have yl:=((((Below.refl _ x).alloc (zN _) (.cells #[.slice Q 0 T] 70)).alloc (by simp) (.cells #[f0,c] 23)).alloc (by simp;omega) (.cells #[o0] 3)).alloc (by simp;omega) (.cells #[i] 3)
  have vg:Boxed ((((x.alloc (.cells #[.slice Q 0 T] 70)).alloc (.cells #[f0,c] 23)).alloc (.cells #[o0] 3)).alloc (.cells #[i] 3)) x.heap.size 70 (.slice Q 0 T):=(((Boxed.new x _ _).alloc _).alloc _).alloc _
  have yn:Boxed ((((x.alloc (.cells #[.slice Q 0 T] 70)).alloc (.cells #[f0,c] 23)).alloc (.cells #[o0] 3)).alloc (.cells #[i] 3)) (x.heap.size+1+1) 3 (o0:Value):=by
   unfold Boxed;rw [Qd _ _ _ (by simp),Qb _ _ _ (by simp)]
  have ym:Boxed ((((x.alloc (.cells #[.slice Q 0 T] 70)).alloc (.cells #[f0,c] 23)).alloc (.cells #[o0] 3)).alloc (.cells #[i] 3)) (x.heap.size+1+2) 3 (i:Value):=by
   unfold Boxed;rw [Qb _ _ _ (by simp)]
  have zq:((((x.alloc (.cells #[.slice Q 0 T] 70)).alloc (.cells #[f0,c] 23)).alloc (.cells #[o0] 3)).alloc (.cells #[i] 3)).heap[x.heap.size+1]?=some (.cells #[f0,c] 23 (0,0)):=by
   rw [Qd _ _ _ (by simp),Qd _ _ _ (by simp),Qb _ _ _ (by simp)]
  have kd:((((x.alloc (.cells #[.slice Q 0 T] 70)).alloc (.cells #[f0,c] 23)).alloc (.cells #[o0] 3)).alloc (.cells #[i] 3)).heap.size=x.heap.size+4:=by simp
  generalize (((x.alloc (.cells #[.slice Q 0 T] 70)).alloc (.cells #[f0,c] 23)).alloc (.cells #[o0] 3)).alloc (.cells #[i] 3)=w3 at *
  have zd:=zm.trans (yl.mono zm.size)
  have vc:=zu.ext zd
  have xy:=zk.ext' zd
  have vd:=Qj zg zd
  have xz:=Qj ze zd
  have vb:=zf.ext yl
  have ve:AD F w F w3:=((AD.AL zl).ext I).ext zd
  have y:∀ k,F k->k < w.heap.size:=h.lt
  obtain⟨N,hN⟩:∃ N,N=Ex.cnt o0 (o0+i):=⟨_,rfl⟩
  have zj:r=Ex.rd f0 o0 (o0+i) (N - 0) 0 [] d:=by
   rw [HR.out,hN]
   have e1:((o0:Int)+(i:Int)).toNat=o0+i:=by omega
   rw [e1];rfl
  have xv:=zH zj
  have zy:=Fx Fence.wide 3 trivial rfl (by omega) (x.heap.size+1+1) (x.heap.size+1+2) (x.heap.size+1) f0 o0 i c (by omega) (by omega) w3 (by omega) (by omega) (by omega) yn.cell ym.cell (by rw [cell_of_row _ _ _ _ _ _ zq];rfl) (by rw [cell_of_row _ _ _ _ _ _ zq];rfl)
  rw [<-hN] at zy
  have xn:=zH zy
  have HN:=zH hN
  have vq:w.heap.size+8<=w3.heap.size:=by omega
  have vs:w.heap.size+4<=x.heap.size:=xm
  clear HR zj zy hN HX x0 x1 x2 y0 y1 y2 zm yl zd zu zk zg ze zf yg yi yc I zl vp yy zr zz xp xm xq
  generalize x.heap.size=X at *
  refine (wpIn_wide (n:=4)).1 ?_
  refine Zz (Kp:=UE (X+1+1) (X+1+2) (X+1)) rfl (by omega) (gf:=183) (lb:=#[.pointer (X+1+1:Nat),.pointer (X+1+2:Nat),.pointer (X+1:Nat)]) rfl trivial (enters_of func183 (by kernel_rfl) rfl) xn.out Is
   (fun W l o o' hl J G=>⟨World.putObj_heap_other (by omega),World.putObj_heap_other (by omega),World.putObj_heap_other (by omega)⟩) (Below.refl _ _) (fun _=>rfl)
   (UK F w g s m fa fn fc f0 c o0 (o0+i) N X d.st.length r) (YH F w g s m fa fn fc r) (fun k W l o o' a hl J G=>a.CH y (by omega) J G) (fun cd k W l o o' a hl J G=>a.CH y (by omega) J G)
   ?h0 (fun k a1 W=>∃ Z,a1={ tmps:=YT w.heap.size g f0 c o0 i X Q T (.pointer (Z:Nat)) ((LG f0 o0 (o0+i) k).getD 0 undef),defers:=[] }/\W.heap[Z]?=some (.cells #[.int .i64 ((f0:Int)+(Ex.pos o0 (o0+i) k:Int) / 64),.int .i64 ((Ex.pos o0 (o0+i) k:Int) % 64),.int .i64 ((Ex.pos o0 (o0+i) k:Int) % 64+(Ex.step (o0+i) (Ex.pos o0 (o0+i) k):Int))] 194 (0,0))/\w3.heap.size<=Z/\UK F w g s m fa fn fc f0 c o0 (o0+i) N X d.st.length r k W)
   (fun a1 k W l o o' a hl J G=>by
    obtain⟨Z,e1,M,e3,e4⟩:=a
    exact⟨Z,e1,(World.putObj_heap_other (Qq M J G)).trans M,e3,e4.CH y (by omega) J G⟩)
   ?assign ?body ?done ?stop
  case h0 =>
   intro o o'
   have K:=((Below.refl _ w3).alloc (zN _) o).alloc (by simp) o'
   exact⟨⟨[],d,_,xv,vc.ext K,rfl,Qj vg K,vb.ext K,by simp⟩,ve.ext K,by have:=K.size;omega,⟨(K.block _ (Qa zq)).trans zq,⟨_,Qj yn K⟩,⟨_,Qj ym K⟩⟩,xy.ext' K,Qj vd K,Qj xz K⟩
  case assign =>
   intro l k W a A
   have zn:=(Below.refl W.heap.size W).alloc (zN _) (.cells #[.int .i64 ((f0:Int)+(Ex.pos o0 (o0+i) k:Int) / 64),.int .i64 ((Ex.pos o0 (o0+i) k:Int) % 64),.int .i64 ((Ex.pos o0 (o0+i) k:Int) % 64+(Ex.step (o0+i) (Ex.pos o0 (o0+i) k):Int))] 194)
   have xt:=zH zn
   clear zn
   unfold LG
   gi_wp2
   have zn:=xt.out
   have vl:∀ (k:Nat) (o:Obj) (v:Obj),W.heap[k]?=some o->(W.alloc v).heap[k]?=some o:=fun k o v A=>(Qd _ _ _ (Qa A)).trans A
   refine⟨⟨zn.size,fun k o _ A _=>vl k o _ A⟩,⟨Qd _ _ _ (by have:=a.big;omega),Qd _ _ _ (by have:=a.big;omega),Qd _ _ _ (by have:=a.big;omega)⟩,W.heap.size,rfl,Qb _ _ _ rfl,by have:=a.big;omega,a.ext zn⟩
  case body =>
   rintro l k a1 W ⟨Z,rfl,Y,ka,a⟩ A
   obtain⟨acc,d1,v,HA,hP,yp,hX,C,vi⟩:=a.acc
   have ys:=(Ex.GN o0 (o0+i) k (by omega)).2 (by rw [<-HN.out];exact A)
   obtain⟨xh,xi,xj,xk⟩:=Ex.EY ys
   obtain⟨p,hp⟩:∃ p,p=Ex.pos o0 (o0+i) k:=⟨_,rfl⟩
   obtain⟨t,ht⟩:∃ t,t=Ex.step (o0+i) p:=⟨_,rfl⟩
   have HP:=zH hp
   have HT:=zH ht
   rw [<-hp] at ys xh xi xj xk Y
   rw [<-ht] at xh xi xj xk Y
   obtain⟨iz,xd⟩:∃ iz:Int,iz=((f0+p / 64:Nat):Int):=⟨_,rfl⟩
   obtain⟨q,hq⟩:∃ q,q=p % 64:=⟨_,rfl⟩
   obtain⟨u,hu⟩:∃ u,u=q+t:=⟨_,rfl⟩
   have yo:((f0:Int)+(p:Int) / 64)=iz:=by omega
   have yq:((p:Int) % 64)=(q:Int):=by omega
   have xf:((q:Int)+(t:Int))=(u:Int):=by omega
   rw [yq,xf,yo] at Y
   have HQ:=zH hq
   have HU:=zH hu
   have yv:=zH xd
   have zo:q<=u/\u<=64/\q < 64:=by omega
   clear hq hu xd
   clear hp ht
   obtain⟨x0,x1,x2⟩:=a.args.cells
   have y0:=cell_of_row _ _ 0 _ _ _ Y
   have y1:=cell_of_row _ _ 1 _ _ _ Y
   have y2:=cell_of_row _ _ 2 _ _ _ Y
   simp only [List.getElem?_toArray,List.getElem?_cons_zero,List.getElem?_cons_succ] at y0 y1 y2
   rcases zj:Dd.read d1 iz with⟨bs,z,U⟩
   have yx:=zH Y
   clear Y yo yq xf
   have HC:=zH ((callsIn_wide (n:=1)).2 (Zp hP _ zj))
   have zp:=zH zj
   have yz:N - k=(N - (k+1))+1:=by omega
   have yw:=zH yz
   clear zj yz
   have xo:=a.big
   have vw:k<=5000:=by have:=HN.out;unfold Ex.cnt at this;split at this <;> omega
   by_cases hz:z=0
   ·subst hz
    have xr:Fence.wide.fn 112:=trivial
    unfold YT
    gi_wp2_with (gi_at_call 112;go_must (refine (HC.out.inRound l).mono ?_);rintro e H ⟨v4,rfl,ye,yh,O⟩)
    have zh:∀ q,w.heap.size<=q->q < W.heap.size->H.heap[q]?=W.heap[q]?:=fun q J G=>O.block q G (fun e=>by have:=y q e;omega)
    have yk:=Qe hX (zh X (by omega) (by omega))
    have yr:=(zh Z (by omega) (Qa yx.out)).trans yx.out
    have z1:=cell_of_row _ _ 1 _ _ _ yr
    have z2:=cell_of_row _ _ 2 _ _ _ yr
    simp only [List.getElem?_toArray,List.getElem?_cons_zero,List.getElem?_cons_succ] at z1 z2
    have yf:AC (w.heap.size+4) H v acc:=C.upd O (fun k A e=>by have:=(C.lt k A).1;have:=y k e;omega)
    have xw:=Dd.CS hP.ok zp.out
    obtain⟨bb,cc,rfl,vk,vt⟩:∃ bb cc,v4=.slice (bb:Nat) 64 cc/\64<=cc/\W.heap.size<=bb:=by
     rcases ye.2 with⟨hv,hn⟩|⟨bb,cap,vr,hv,vj,vu,xg,vx,kb,kc⟩
     ·omega
     ·rw [xw] at hv xg
      exact⟨bb,cap,hv,xg,vj⟩
    obtain⟨a',c',e1,xl,-⟩:=ye.sl
    injection e1 with M e3 e4
    subst M e4
    rw [<-e3] at xl
    have yt:=(xl.take (k:=u) zo.2.1).drop (k:=q) zo.1
    rw [Nat.zero_add] at yt
    have vm:u - q=t:=by have:=HU.out;omega
    have xe:(bs.take u).drop q=(bs.drop (p % 64)).take t:=by rw [List.drop_take,vm,HQ.out]
    refine wpIn_region_any (by kernel_rfl) ?_
    refine Cb (W:=H.drew) (X:=X) (pb:=Z) (bb:=bb) (q:=q) (u:=u) (cc:=cc) (base:=w.heap.size+4) (vo:=v) (acc:=acc) (l2:=(bs.take u).drop q) rfl ⟨_,rfl,rfl,rfl,rfl,rfl⟩ ⟨_,rfl,rfl,rfl,rfl,rfl⟩ ⟨_,rfl,rfl,rfl,rfl,rfl⟩ ⟨_,rfl,rfl,rfl,rfl,rfl⟩ ⟨_,rfl,rfl,rfl,rfl,rfl⟩ ⟨_,rfl,rfl,rfl,rfl,rfl⟩ ⟨_,rfl,rfl,rfl,rfl,rfl⟩ ⟨_,rfl,rfl,rfl,rfl,rfl⟩ ⟨_,rfl,rfl,rfl,rfl,rfl⟩
     rfl rfl rfl rfl yk z1 z2 zo.1 zo.2.1 vk zo.2.2 yf (by have:=O.size;show _<=H.heap.size;omega) ?_ yt (by omega) ?_
    ·intro k A e
     rw [e] at A
     exact (yk.not_row (by decide) yf) A.symm
    ·intro a' v' W' xa zc
     have o1:v.ownBlock ≠ some (X+1):=C.ET a.itr.1 (by decide)
     have o2:v.ownBlock ≠ some (X+1+1):=by obtain⟨z,e⟩:=a.itr.2.1;exact C.ET e (by decide)
     have o3:v.ownBlock ≠ some (X+1+2):=by obtain⟨z,e⟩:=a.itr.2.2;exact C.ET e (by decide)
     have zw:∀ q,q < w.heap.size+4->v.ownBlock ≠ some q:=fun q J e=>by have:=(C.lt q e).1;omega
     have vh:v.ownBlock ≠ some X:=C.ET hX (by decide)
     have ke:W.heap.size<=H.heap.size:=O.size
     have P:∀ q,w.heap.size<=q->q < W.heap.size->q ≠ X->v.ownBlock ≠ some q->(W'.setCell X v').heap[q]?=W.heap[q]?:=fun q J G h3 h4 =>
      (heap_setCell_other _ _ _ _ h3).trans ((zc.block q (by show q < H.heap.size;omega) (fun e=>h4 e.symm)).trans (zh q J G))
     have xc:Boxed W' X 70 v:=Boxed.kept (W:=H.drew) yk zc (fun e=>vh e.symm)
     have vf:AD F w F (W'.setCell X v'):=((((a.upd.trans O).drew).grown (fun k e=>.inr (by have:=(C.lt k e).1;omega)) zc)).setCell (.inr (by omega)) _ _
     have kf:H.heap.size<=W'.heap.size:=zc.size
     show KeepsFrom w3.heap.size W _/\UE (X+1+1) (X+1+2) (X+1) W _/\UK F w g s m fa fn fc f0 c o0 (o0+i) N X d.st.length r (k+1) _
     refine⟨(((O.LJ (fun k e=>by have:=y k e;omega)).trans ((KeepsOthers.drew _).from _)).trans ((KeepsOthers.of_grownBy zc (fun j o e1 M=>?_)).from _)).trans ((KeepsOthers.setCell _ _ _).from _),
      ⟨P _ (by omega) (by omega) (by omega) o2,P _ (by omega) (by omega) (by omega) o3,P _ (by omega) (by omega) (by omega) o1⟩,⟨acc ++ (bs.take u).drop q,U,v',?_,?_,?_,xc.set v',?_,?_⟩,vf,by simp;omega,
      ⟨(P _ (by omega) (by omega) (by omega) o1).trans a.itr.1,a.itr.2.1.imp fun z e=>Qe e (P _ (by omega) (by omega) (by omega) o2),a.itr.2.2.imp fun z e=>Qe e (P _ (by omega) (by omega) (by omega) o3)⟩,
      a.args.AI (P _ (by omega) (by omega) (by omega) (zw _ (by omega))) (P _ (by omega) (by omega) (by omega) (zw _ (by omega))),Qe a.res (P _ (by omega) (by omega) (by omega) (zw _ (by omega))),Qe a.err (P _ (by omega) (by omega) (by omega) (zw _ (by omega)))⟩
     ·obtain⟨cs,e3⟩:=yf.cells e1
      rw [show H.drew.heap[j]?=H.heap[j]? from rfl,e3] at M;cases M;rfl
     ·refine zH ?_
      rw [HA.out,yw.out,xe,HT.out,HP.out]
      refine Ex.OK ?_
      rw [<-HP.out,<-yv.out];exact zp.out
     ·refine ((yh.drew).AI (fun b hb=>zc.block b (by show b < H.heap.size;have:=y b hb;have:=a.upd.size;omega) (fun e=>by have:=(C.lt b e.symm).1;have:=y b hb;omega)) zc.size).other (fun e=>by have:=y _ e;omega) _ _
     ·have:=(Dd.BM d1 iz).1;rw [zp.out] at this;rw [<-yp];exact congrArg List.length this
     ·exact xa.upd ((AD.refl (fun k=>k=X) W').setCell (.inl rfl) 0 v') (fun k e M=>by subst M;exact (xa.ET xc (by decide)) e)
     ·rw [xe,List.length_append,List.length_take,List.length_drop];omega
   ·have t1:(z != 0)=true:=by simpa using hz
    have xs:Hid (r=([],z,U)):=by
     refine zH ?_
     rw [HA.out,yw.out]
     refine Ex.KH (b:=bs) ?_ hz
     rw [<-HP.out,<-yv.out];exact zp.out
    have xr:Fence.wide.fn 112:=trivial
    unfold YT
    gi_wp2_with (gi_at_call 112;go_must (refine (HC.out.inRound l).mono ?_);rintro e H ⟨v4,rfl,ye,yh,O⟩;have zh:∀ q,w.heap.size<=q->q < W.heap.size->H.heap[q]?=W.heap[q]?:=(fun q J G=>O.block q G (fun e=>by have:=y q e;omega));have yj:=Qe a.res (zh _ (by omega) a.res.lt);have yd:=Qe a.err (zh _ (by omega) a.err.lt);have c2:=yj.cell;have f2:=yj.frozen;have c3:=yd.cell;have f3:=yd.frozen;have HF:=zH (And.intro ((yj.set (.slice none 0 0)).other (B':=w.heap.size+1+1+1) (Ne.symm zi) (z:Value)) ((yd.other zi (.slice none 0 0)).set (z:Value))))
    refine⟨((O.LJ (fun k e=>by have:=y k e;omega)).trans ((KeepsOthers.setCell _ _ _).from _)).trans ((KeepsOthers.setCell _ _ _).from _),rfl,z,U,xs,(yh.other (fun e=>by have:=y _ e;omega) _ _).other (fun e=>by have:=y _ e;omega) _ _,((a.upd.trans O).setCell (.inr (by omega)) _ _).setCell (.inr (by omega)) _ _,HF.out.1,HF.out.2⟩
  case done =>
   intro D W hD a hK
   obtain⟨acc,d1,v,HA,hP,yp,hX,C,vi⟩:=a.acc
   have xb:r=(acc,0,d1):=by rw [HA.out,Nat.sub_self];rfl
   have c0:=hX.cell
   have f2:=a.res.frozen
   have f3:=a.err.frozen
   have c2:=a.res.cell
   have c3:=a.err.cell
   have HF:=zH (And.intro ((a.res.set v).other (B':=w.heap.size+1+1+1) (Ne.symm zi) (.int .i64 0)) ((a.err.other zi v).set (.int .i64 0)))
   have xu:=zH xb
   clear xb
   obtain⟨ya,yb,vn,-,-⟩:=id C.sl
   subst vn
   gi_wp2
   go_wp2
   obtain⟨zv,zt⟩:=HF.out
   have xo:=a.big
   have zs:(((W.setCell (w.heap.size+1+1:Nat) (.slice ya acc.length yb)).setCell (w.heap.size+1+1+1:Nat) (.int .i64 0))).heap[D]?=some (.deferred (some []))  :=
    (heap_setCell_other _ _ _ _ (show D ≠ w.heap.size+1+1+1 by omega)).trans ((heap_setCell_other _ _ _ _ (show D ≠ w.heap.size+1+1 by omega)).trans hK)
   have U:=(Qe zv (World.putObj_heap_other (o:=.deferred none) (Qq zv zs rfl))).cell
   have d3:=(Qe zt (World.putObj_heap_other (o:=.deferred none) (Qq zt zs rfl))).cell
   refine⟨by simp,.inl ⟨_,_,rfl,run_takeDeferred zs,⟨.tuple #[.slice ya acc.length yb,.int .i64 0],by simp [results,results127,go_sem,U,d3],?_⟩⟩⟩
   rw [xu.out]
   have zx:∀ k,w.heap.size<=k->¬ F k:=fun k A e=>by have:=y k e;omega
   have zf:=(((C.upd ((AD.refl (fun k=>k=w.heap.size+1+1) W).setCell (.inl rfl) 0 (.slice ya acc.length yb)) (fun k e M=>by have:=(C.lt k e).1;omega)).upd ((AD.refl (fun k=>k=w.heap.size+1+1+1) _).setCell (.inl rfl) 0 (.int .i64 0)) (fun k e M=>by have:=(C.lt k e).1;omega)).CH (o':=.deferred none) zs rfl).mono (b':=w.heap.size) (by omega)
   exact⟨_,rfl,zf,((hP.other (zx _ (by omega)) _ _).other (zx _ (by omega)) _ _).CH (zx _ (by omega)) _,((a.upd.setCell (.inr (by omega)) _ _).setCell (.inr (by omega)) _ _).CH (.inr (by omega)) _⟩
  case stop =>
   rintro D cd k W hD A a hK
   have va:=a.CH y (o':=.deferred none) (by omega:w.heap.size<=D) hK rfl
   obtain⟨rfl,z,d1,HA,hP,hU,hR,hE⟩:=va
   have U:=hR.cell
   have d3:=hE.cell
   gi_wp2
   refine⟨by simp,.inl ⟨_,_,rfl,run_takeDeferred hK,⟨.tuple #[.slice none 0 0,z],by simp [results,results127,go_sem,U,d3],?_⟩⟩⟩
   rw [HA.out]
   exact⟨_,rfl,AC.nil _ _,hP,hU⟩
 ·rw [if_neg zb] at hr
  have HR:=zH hr
  have t1:(Ex.check d.st.length f c off len != 0)=true:=by simpa using zb
  generalize Ex.check d.st.length f c off len=z at *
  clear hr zb
  go_wp2_with fail
  rw [<-zz.out]
  refine zr.out.mono ?_;rintro e w1 ⟨rfl,I⟩
  have zu:=yg.ext I
  have zg:=Qj yi I
  have ze:=Qj yc I
  have c2:=zg.cell
  have f2:=zg.frozen
  have c3:=ze.cell
  have f3:=ze.frozen
  have HF:=zH (And.intro ((zg.set (.slice none 0 0)).other (B':=w.heap.size+1+1+1) (Ne.symm zi) (z:Value)) ((ze.other zi (.slice none 0 0)).set (z:Value)))
  go_wp2
  obtain⟨zv,zt⟩:=HF.out
  have U:=zv.cell
  have d3:=zt.cell
  refine⟨.tuple #[.slice none 0 0,z],by simp [results,results127,go_sem,U,d3],?_⟩
  have y:∀ k,w.heap.size<=k->¬ F k:=fun k A e=>by have:=h.lt k e;omega
  rw [HR.out]
  refine⟨_,rfl,AC.nil _ _,(zu.other (y _ (by omega)) _ _).other (y _ (by omega)) _ _,?_⟩
  exact ((((AD.AL zl).ext I).setCell (.inr (by omega)) _ _).setCell (.inr (by omega)) _ _)
theorem Io (h:PD F w g s m fa fn fc d) (f c off len:Int) (i:ib f) (a:ib c) (ho:ib off) (j:ib len) :
 Calls prog 127 #[.pointer g,.agg #[f,c],off,len] w (GL F w g s m fa fn fc (Ex.read d f c off len)) :=
 callsIn_wide.1 (Rj h f c off len i a ho j)
end
section
open Go.RowKit Go.Shelf
variable {B N X b c e f0 fc first fn g k l m n o0 off s:Nat} {W W' w:World} {F F':Nat->Prop} {fa:Option Addr} {d d1 d2:Dd.Dk} {o o':Obj} {data:List UInt8} {R:Int × Dd.Dk} {v:Value} {z2:Int}
attribute [local go_sem] Oper.semAt_some
def AV (w:World) (b:Nat):Prop:=∃ a t f,w.heap[b]?=some (.cells a t f)
theorem Vk {o:Nat} (h:w.cell? (b o)=some v):AV w b:=by
 obtain⟨o',a,f⟩:=cells_of_cell h
 cases o' with
|cells i t j=>exact⟨_,_,_,a⟩
|_=>cases f
theorem Cw {x:Addr} {l:List UInt8} (h:AM w (some x) n c l) (a:l ≠ []):AV w x.block:=by
 exact Vk (h.2.2.2.2 x rfl 0 (List.length_pos_iff.2 a)).2.2
theorem PD.tight (h:PD F w g s m fa fn fc d):PD (fun b=>F b/\(b=m\/AV w b)) w g s m fa fn fc d:=by
 refine⟨h.ok,h.box,h.row,?_,h.flt,fun x u t=>?_,fun k I=>h.lt k I.1,⟨h.Fg,.inr ⟨_,_,_,h.box⟩⟩,⟨h.Fs,.inr ⟨_,_,_,h.row⟩⟩,⟨h.Fm,.inl rfl⟩⟩
 ·obtain⟨z,y,G,j⟩:=h.map
  refine⟨z,y,G,j.stamped,j.size,fun e H=>?_,j.all⟩
  obtain⟨i,x,a,c,f,A,C,p,q,r⟩:=j.mem e H
  exact⟨i,x,a,c,f,A,C,p,⟨⟨q.1,.inr (Cw p r)⟩,q.2⟩,r⟩
 ·have f:=h.fltF x u t
  refine⟨⟨f.1,.inr ?_⟩,f.2⟩
  exact Vk (h.flt.2.2.2.2 x u 0 (List.length_pos_iff.2 t)).2.2.1
def FJ (F:Nat->Prop) (w:World) (g s m:Nat) (fa:Option Addr) (fn fc:Nat) (r:Int × Dd.Dk) (e:Ending) (w':World):Prop :=
 e=.returned (r.1:Value)/\∃ F',PD F' w' g s m fa fn fc r.2/\AD F w F' w'
theorem AC.VZ {base:Nat} {l:List UInt8} (h:AC base w v l) (q:l.length=64):∃ a j,v=.slice (a:Nat) 64 j/\64<=j/\base<=a:=by
 rcases h.2 with⟨f,hn⟩|⟨a,cap,r,f,p,t,i,u,x,y⟩
 ·omega
 ·rw [q] at f i
  exact⟨a,cap,f,i,p⟩
def RE (b g f0:Nat) (c:Int) (o0:Nat) (a:Option Addr) (n ca X:Nat) (f h:Value):Array Value:=#[Value.pointer g,Value.agg #[f0,c],(o0:Value),Value.slice a n ca,Value.pointer b,Value.pointer (b+1:Nat),undef,Value.pointer (b+1+1:Nat),Value.pointer (b+1+1+1:Nat),Value.int IntKind.i64 0,f,undef,undef,undef,undef,undef,Value.pointer g,Value.agg #[f0,c],(o0:Value),Value.slice a n ca,(n:Value),Value.int IntKind.i64 0,Value.int IntKind.i64 0,Value.bool false,undef,Value.agg #[f0,c],(o0:Value),Value.slice a n ca,(n:Value),Value.func (Fn.func 183) #[] #[Value.pointer (X+1:Nat),Value.pointer (X+2:Nat),Value.pointer X],h,undef,undef,undef,undef,undef,undef,undef,undef,undef,undef,undef,undef,undef,undef,undef,undef,undef,undef,undef,undef,undef,undef,undef,undef,undef,undef,undef,undef,undef,undef,undef,undef,undef,undef,undef,undef,undef,undef,undef,undef]
theorem AV.CH (h:AV W b) (i:W.heap[l]?=some o) (j:o.isCells=false):AV (W.putObj l o') b:=by
 obtain⟨a,t,f,h⟩:=h;exact⟨a,t,f,(World.putObj_heap_other (Qq h i j)).trans h⟩
theorem AV.not (a:W.heap[l]?=some o) (f:o.isCells=false):¬ AV W l:=by
 rintro⟨i,t,j,h⟩;rw [a] at h;cases h;cases f
theorem AV.same (h:AV W b) (e:W'.heap[b]?=W.heap[b]?):AV W' b:=by
 obtain⟨a,t,f,h⟩:=h;exact⟨a,t,f,e.trans h⟩
theorem AD.PF (h:AD F W F' W') (hF:∀ k,F k->k=m\/AV W k) (i:m < B):KeepsFrom B W W' :=
 ⟨h.size,fun k o f ho a=>(h.block k (Qa ho) (fun e=>by
  rcases hF k e with e|e
  ·omega
  ·exact AV.not ho a e)).trans ho⟩
theorem AM.CH {a:Option Addr} {l:List UInt8} (h:AM W a n c l) {r:Nat} (f:W.heap[r]?=some o) (i:o.isCells=false):AM (W.putObj r o') a n c l :=
 h.AI (fun x p j=>by subst p;exact World.putObj_heap_other (Mx h j f i)) (by simp)
theorem Dd.BI (d:Dd.Dk) (i:Int) (x:List UInt8):(Dd.write d i x).2.st=d.st:=by
 rcases a:Dd.begin d (Dd.fits d i && decide (x.length=64)) with⟨b,e,j⟩
 have h:=(Dd.NL d (Dd.fits d i && decide (x.length=64))).1
 rw [a] at h
 cases b
 ·by_cases f:e=0
  ·subst f;rw [Ny a];exact h
  ·rw [Zg a f];exact h
 ·rw [Om a];exact h
theorem Ex.IL (hs:¬ Ex.step e (Ex.pos off e k) < 64) (a:Dd.write d ((first+Ex.pos off e k / 64:Nat):Int) (data.take (Ex.step e (Ex.pos off e k)))=(z2,d2)) :
 Ex.wr first off e (m+1) k data d=if z2=0 then Ex.wr first off e m (k+1) (data.drop (Ex.step e (Ex.pos off e k))) d2 else (z2,d2):=by
 rw [Ex.wr,if_neg hs,a]
theorem Ex.IP {b:List UInt8} {z:Int} (hs:Ex.step e (Ex.pos off e k) < 64) (hr:Dd.read d ((first+Ex.pos off e k / 64:Nat):Int)=(b,z,d1)) (a:¬ z=0) :
 Ex.wr first off e (m+1) k data d=(z,d1):=by
 rw [Ex.wr,if_pos hs,hr];exact if_neg a
theorem Ex.IM {b:List UInt8} (hs:Ex.step e (Ex.pos off e k) < 64) (hr:Dd.read d ((first+Ex.pos off e k / 64:Nat):Int)=(b,0,d1))
 (a:Dd.write d1 ((first+Ex.pos off e k / 64:Nat):Int) (b.take (Ex.pos off e k % 64) ++ data.take (Ex.step e (Ex.pos off e k)) ++ b.drop (Ex.pos off e k % 64+Ex.step e (Ex.pos off e k)))=(z2,d2)) :
 Ex.wr first off e (m+1) k data d=if z2=0 then Ex.wr first off e m (k+1) (data.drop (Ex.step e (Ex.pos off e k))) d2 else (z2,d2):=by
 rw [Ex.wr,if_pos hs,hr]
 show (if (0:Int)=0 then _ else _)=_
 rw [if_pos rfl,a]
structure UM (F:Nat->Prop) (w:World) (g s m:Nat) (fa:Option Addr) (fn fc:Nat) (f0:Nat) (c:Int) (o0 e N:Nat) (X B n:Nat) (R:Int × Dd.Dk) (F':Nat->Prop) (k:Nat) (W:World):Prop where
 acc:∃ l d' a' n' c',Hid (R=Ex.wr f0 o0 e (N - k) k l d')/\PD F' W g s m fa fn fc d'/\d'.st.length=n/\Boxed W (w.heap.size+1+1) 70 (.slice a' n' c')/\AM W a' n' c' l/\l.length=e - Ex.pos o0 e k/\(∀ y,a'=some y->l ≠ []->y.block < w.heap.size/\¬ F y.block)
 upd:AD F w F' W
 tight:∀ b,F' b->b=m\/AV W b
 lo:∀ b,F' b->F b\/B<=b
 big:B<=W.heap.size
 args:DN W w.heap.size g (f0:Int) c
 err:Boxed W (w.heap.size+1+1+1) 27 (.int .i64 0)
def XK (F:Nat->Prop) (w:World) (g s m:Nat) (fa:Option Addr) (fn fc:Nat) (R:Int × Dd.Dk) (f:Code) (_k:Nat) (W:World):Prop :=
 f=.ret/\∃ z a F',Hid (R=(z,a))/\PD F' W g s m fa fn fc a/\AD F w F' W/\(∀ b,F' b->b=m\/AV W b)/\Boxed W (w.heap.size+1+1+1) 27 (z:Value)
theorem UM.CH {c:Int} (h:UM F w g s m fa fn fc f0 c o0 e N X B n R F' k W) (J:m < w.heap.size) (u:w.heap.size<=l) (a:W.heap[l]?=some o) (f:o.isCells=false):UM F w g s m fa fn fc f0 c o0 e N X B n R F' k (W.putObj l o'):=by
 have j:¬ F' l:=fun e=>by
  rcases h.tight l e with e|e
  ·omega
  ·exact AV.not a f e
 obtain⟨x,r,p,y,q,z,A,C,i,G,H,I⟩:=h.acc
 exact⟨⟨x,r,p,y,q,z,A.CH j _,C,Qe i (World.putObj_heap_other (Qq i a f)),G.CH a f,H,I⟩,h.upd.CH (.inr u) _,fun b t=>(h.tight b t).imp id (·.CH a f),h.lo,by simpa using h.big,
  h.args.AI (World.putObj_heap_other (Qq h.args.ptr a f)) (World.putObj_heap_other (Qq h.args.ext a f)),Qe h.err (World.putObj_heap_other (Qq h.err a f))⟩
theorem UM.ext {c:Int} (h:UM F w g s m fa fn fc f0 c o0 e N X B n R F' k W) (a:Below W.heap.size W W'):UM F w g s m fa fn fc f0 c o0 e N X B n R F' k W':=by
 obtain⟨r,q,j,t,p,u,i,x,y,z,A,C⟩:=h.acc
 exact⟨⟨r,q,j,t,p,u,i.ext a,x,Qj y a,z.ext a,A,C⟩,h.upd.ext a,fun b f=>(h.tight b f).imp id (fun e=>e.same (a.block b (i.lt b f))),h.lo,Nat.le_trans h.big a.size,h.args.ext' a,Qj h.err a⟩
theorem XK.CH {i:Code} (h:XK F w g s m fa fn fc R i k W) (C:m < w.heap.size) (u:w.heap.size<=l) (a:W.heap[l]?=some o) (f:o.isCells=false):XK F w g s m fa fn fc R i k (W.putObj l o'):=by
 obtain⟨rfl,z,r,F',x,y,A,j,p⟩:=h
 have q:¬ F' l:=fun e=>by
  rcases j l e with e|e
  ·omega
  ·exact AV.not a f e
 exact⟨rfl,z,r,F',x,y.CH q _,A.CH (.inr u) _,fun b t=>(j b t).imp id (·.CH a f),Qe p (World.putObj_heap_other (Qq p a f))⟩
theorem Ox (h:PD F w g s m fa fn fc d) (f c off:Int) (hf:ib f) (hc:ib c) (ho:ib off) (a:Option Addr) (n ca:Nat) (x:List UInt8) (hx:AM w a n ca x) (hF:∀ y,a=some y->x ≠ []->¬ F y.block) :
 CallsIn Fence.wide 4 prog 108 #[.pointer g,.agg #[f,c],off,.slice a n ca] w (FJ F w g s m fa fn fc (Ex.write d f c off x)):=by
 obtain⟨W0,zl⟩:∃ W0,W0=((((w.alloc (.cells #[.pointer g] 37)).alloc (.cells #[f,c] 23)).alloc (.cells #[.slice a n ca] 70)).alloc (.cells #[.int .i64 0] 27)):=⟨_,rfl⟩
 have zt:Below w.heap.size w W0:=by
  rw [zl];exact (((((Below.refl _ w).alloc (zN _) _).alloc (by simp) _).alloc (by simp;omega) _).alloc (by simp;omega) _)
 have jv:W0.heap.size=w.heap.size+4:=by rw [zl];simp
 have ka:DN W0 w.heap.size g f c:=by
  rw [zl]
  refine⟨?_,?_⟩
  ·exact ((((Boxed.new w _ _).alloc _).alloc _).alloc _)
  ·rw [Qd _ _ _ (by simp),Qd _ _ _ (by simp),Qb _ _ _ (by simp)]
 have va:Boxed W0 (w.heap.size+1+1) 70 (.slice a n ca):=by
  rw [zl];unfold Boxed;rw [Qd _ _ _ (by simp),Qb _ _ _ (by simp)]
 have xt:Boxed W0 (w.heap.size+1+1+1) 27 (.int .i64 0):=by
  rw [zl];unfold Boxed;rw [Qb _ _ _ (by simp)]
 have xq:=zH zl
 have js:=hx.len
 have qh:=hx.le
 have kw:ib (n:Int):=by unfold ib;omega
 have yu:=zH (Nm (h.ext zt) f c off n hc ho kw)
 have xy:=h.ext zt
 have ks:=hx.ext zt
 obtain⟨r,hr⟩:∃ r,r=Ex.write d f c off x:=⟨_,rfl⟩
 rw [<-hr]
 unfold Ex.write at hr
 rw [js] at hr
 clear zl
 have jl:=va.cell
 refine callsIn_of_wp_marks func108 rfl trivial ?_ rfl
 simp only [ntmps108,List.size_toArray,List.length_cons,List.length_nil,Nat.reduceAdd,Nat.reduceSub,Array.replicate_succ,Array.replicate_zero,List.push_toArray,List.append_toArray,List.nil_append,List.cons_append]
 refine wpIn_wide.2 ?_
 by_cases zn:Ex.check d.st.length f c off n=0
 ·rw [if_pos zn] at hr
  obtain⟨q1,q2,q3,q4,q5,q6,q7⟩:=Ex.EQ zn
  have vu:Ex.size c=c * 64:=by unfold Ex.size;rw [if_neg (by have:=h.ok.max;omega)]
  have qi:=h.ok.max
  obtain⟨f0,rfl⟩:=Int.eq_ofNat_of_zero_le q1
  obtain⟨o0,rfl⟩:=Int.eq_ofNat_of_zero_le q5
  rw [zn] at yu
  have HR:=zH hr
  rw [vu] at q7
  have qj:o0+n<=262144:=by omega
  have qg:f0<=4096:=by omega
  clear hr vu zn
  go_wp2_with fail
  rw [<-xq.out]
  refine yu.out.mono ?_;rintro e Y ⟨rfl,zb⟩
  have yw:=xy.ext zb
  have yv:=ka.ext' zb
  have vb:=Qj va zb
  have zu:=Qj xt zb
  have kt:=ks.ext zb
  obtain⟨x0,x1,x2⟩:=yv.cells
  have HX:=zH yv.cells
  have kv:=vb.cell
  have vt:w.heap.size+4<=Y.heap.size:=by have:=zb.size;omega
  go_wp2_with (go_at_call 155;refine (callsIn_wide.1 (Vm Fence.wide 3 trivial rfl (f0:Int) c (o0:Int) (n:Int) _)).mono ?_;rintro e w3 ⟨rfl,rfl⟩)
  have zm:=(((Below.refl _ Y).alloc (zN _) (.cells #[f0,c] 23)).alloc (by simp) (.cells #[o0] 3)).alloc (by simp;omega) (.cells #[n] 3)
  have vm:Boxed (((Y.alloc (.cells #[f0,c] 23)).alloc (.cells #[o0] 3)).alloc (.cells #[n] 3)) (Y.heap.size+1) 3 (o0:Value):=by
   unfold Boxed;rw [Qd _ _ _ (by simp),Qb _ _ _ (by simp)]
  have vl:Boxed (((Y.alloc (.cells #[f0,c] 23)).alloc (.cells #[o0] 3)).alloc (.cells #[n] 3)) (Y.heap.size+2) 3 (n:Value):=by
   unfold Boxed;rw [Qb _ _ _ (by simp)]
  have xi:(((Y.alloc (.cells #[f0,c] 23)).alloc (.cells #[o0] 3)).alloc (.cells #[n] 3)).heap[Y.heap.size]?=some (.cells #[f0,c] 23 (0,0)):=by
   rw [Qd _ _ _ (by simp;omega),Qd _ _ _ (by simp),Qb _ _ _ (by simp)]
  have xb:(((Y.alloc (.cells #[f0,c] 23)).alloc (.cells #[o0] 3)).alloc (.cells #[n] 3)).heap.size=Y.heap.size+3:=by simp
  generalize ((Y.alloc (.cells #[f0,c] 23)).alloc (.cells #[o0] 3)).alloc (.cells #[n] 3)=w3 at *
  have kg:=(yw.ext zm).tight
  have jg:=yv.ext' zm
  have jk:=Qj vb zm
  have jh:=Qj zu zm
  have jt:=kt.ext zm
  have jo:AD F w F w3:=((AD.AL zt).ext zb).ext zm
  have yl:∀ k,F k->k < w.heap.size:=h.lt
  have yz:m < w.heap.size:=yl m h.Fm
  have ju:∀ y,a=some y->x ≠ []->y.block < w.heap.size/\¬ F y.block:=fun y J H=>by subst J;exact⟨hx.blt H,hF y rfl H⟩
  obtain⟨N,hN⟩:∃ N,N=Ex.cnt o0 (o0+n):=⟨_,rfl⟩
  have zw:r=Ex.wr f0 o0 (o0+n) (N - 0) 0 x d:=by
   rw [HR.out,hN]
   have e1:((o0:Int)+(n:Int)).toNat=o0+n:=by omega
   rw [e1];rfl
  have je:=zH zw
  have xl:=Fx Fence.wide 3 trivial rfl (by omega) (Y.heap.size+1) (Y.heap.size+2) Y.heap.size f0 o0 n c (by omega) (by omega) w3 (by omega) (by omega) (by omega) vm.cell vl.cell (by rw [cell_of_row _ _ _ _ _ _ xi];rfl) (by rw [cell_of_row _ _ _ _ _ _ xi];rfl)
  rw [<-hN] at xl
  have ku:=zH xl
  have HN:=zH hN
  have qe:=vt
  clear HR zw xl hN HX x0 x1 x2 zm yw yv vb zu xy va xt zb zt jv ka yu xq vt jl kv ks kt vm vl xi
  generalize Y.heap.size=X at *
  clear Y
  refine (wpIn_wide (n:=4)).1 ?_
  refine Zz (Kp:=UE (X+1) (X+2) X) rfl (by omega) (gf:=183) (lb:=#[.pointer (X+1:Nat),.pointer (X+2:Nat),.pointer X]) rfl trivial (enters_of func183 (by kernel_rfl) rfl) ku.out Is
   (fun W l o o' hl J H=>⟨World.putObj_heap_other (by omega),World.putObj_heap_other (by omega),World.putObj_heap_other (by omega)⟩) (Below.refl _ _) (fun _=>rfl)
   (fun k W=>∃ F',UM F w g s m fa fn fc f0 c o0 (o0+n) N X (X+3) d.st.length r F' k W) (XK F w g s m fa fn fc r) (fun k W l o o' A hl J H=>A.imp fun F' A=>A.CH yz (by omega) J H) (fun cd k W l o o' A hl J H=>A.CH yz (by omega) J H)
   ?h0 (fun k a1 W=>∃ pb F',a1={ tmps:=RE w.heap.size g f0 c o0 a n ca X (.pointer (pb:Nat)) ((LG f0 o0 (o0+n) k).getD 0 undef),defers:=[] }/\W.heap[pb]?=some (.cells #[.int .i64 ((f0:Int)+(Ex.pos o0 (o0+n) k:Int) / 64),.int .i64 ((Ex.pos o0 (o0+n) k:Int) % 64),.int .i64 ((Ex.pos o0 (o0+n) k:Int) % 64+(Ex.step (o0+n) (Ex.pos o0 (o0+n) k):Int))] 194 (0,0))/\w3.heap.size<=pb/\¬ F' pb/\UM F w g s m fa fn fc f0 c o0 (o0+n) N X (X+3) d.st.length r F' k W)
   (fun a1 k W l o o' A hl J H=>by
    obtain⟨pb,F',e1,Q,e3,e4,e5⟩:=A
    exact⟨pb,F',e1,(World.putObj_heap_other (Qq Q J H)).trans Q,e3,e4,e5.CH yz (by omega) J H⟩)
   ?assign ?body ?done ?stop
  case h0 =>
   intro o o'
   have zh:=((Below.refl _ w3).alloc (zN _) o).alloc (by simp) o'
   exact⟨_,⟨x,d,_,_,_,je,kg.ext zh,rfl,Qj jk zh,jt.ext zh,by rw [Ex.DZ];omega,ju⟩,(jo.ext zh).grow (fun k U=>.inl U.1),fun b K=>K.2.imp id (fun e=>e.same (zh.block b (kg.lt b K))),fun b K=>.inl K.1,by have:=zh.size;omega,jg.ext' zh,Qj jh zh⟩
  case assign =>
   rintro l k W ⟨F',A⟩ U
   have yj:=(Below.refl W.heap.size W).alloc (zN _) (.cells #[.int .i64 ((f0:Int)+(Ex.pos o0 (o0+n) k:Int) / 64),.int .i64 ((Ex.pos o0 (o0+n) k:Int) % 64),.int .i64 ((Ex.pos o0 (o0+n) k:Int) % 64+(Ex.step (o0+n) (Ex.pos o0 (o0+n) k):Int))] 194)
   have jc:=zH yj
   clear yj
   unfold LG
   gi_wp2
   have yj:=jc.out
   have jr:∀ (k:Nat) (o:Obj) (v:Obj),W.heap[k]?=some o->(W.alloc v).heap[k]?=some o:=fun k o v U=>(Qd _ _ _ (Qa U)).trans U
   have vj:=A.big
   obtain⟨_,_,_,_,_,_,jj,_⟩:=A.acc
   refine⟨⟨yj.size,fun k o _ U _=>jr k o _ U⟩,⟨Qd _ _ _ (by omega),Qd _ _ _ (by omega),Qd _ _ _ (by omega)⟩,W.heap.size,F',rfl,Qb _ _ _ rfl,by omega,fun e=>by have:=jj.lt _ e;omega,A.ext yj⟩
  case body =>
   rintro l k a1 W ⟨pb,F',rfl,zi,qk,vr,A⟩ U
   obtain⟨l',d1,a',n',O,HA,hP,xj,hX,hS,yy,K⟩:=A.acc
   have vs:=(Ex.GN o0 (o0+n) k (by omega)).2 (by rw [<-HN.out];exact U)
   obtain⟨kn,ko,kp,kq⟩:=Ex.EY vs
   have xe:=Ex.FT o0 (o0+n) k (by rw [<-HN.out];exact U)
   obtain⟨p,hp⟩:∃ p,p=Ex.pos o0 (o0+n) k:=⟨_,rfl⟩
   obtain⟨t,ht⟩:∃ t,t=Ex.step (o0+n) p:=⟨_,rfl⟩
   have HP:=zH hp
   have HT:=zH ht
   rw [<-hp] at vs kn ko kp kq zi yy xe
   rw [<-ht] at kn ko kp kq zi xe
   obtain⟨iz,kj⟩:∃ iz:Int,iz=((f0+p / 64:Nat):Int):=⟨_,rfl⟩
   obtain⟨q,hq⟩:∃ q,q=p % 64:=⟨_,rfl⟩
   obtain⟨u,hu⟩:∃ u,u=q+t:=⟨_,rfl⟩
   have vo:((f0:Int)+(p:Int) / 64)=iz:=by omega
   have vq:((p:Int) % 64)=(q:Int):=by omega
   have kk:((q:Int)+(t:Int))=(u:Int):=by omega
   rw [vq,kk,vo] at zi
   have HQ:=zH hq
   have HU:=zH hu
   have xm:=zH kj
   have qm:q<=u/\u<=64/\q < 64:=by omega
   have ql:q+t<=64:=by omega
   clear hq hu kj
   clear hp ht
   have vj:=A.big
   have qa:=hS.len
   have xk:l' ≠ []:=by rintro rfl;simp at yy;omega
   obtain⟨db,dd,rfl⟩:∃ db dd,a'=some ((db:Nat) dd):=by
    cases a' with
   |none=>exact absurd (hS.2.2.2.1 rfl).1 xk
   |some y =>
     obtain⟨yb,yo,ys⟩:=y
     have:=(hS.2.2.2.2 _ rfl 0 (List.length_pos_iff.2 xk)).1
     simp only at this;subst this;exact⟨_,_,rfl⟩
   obtain⟨ki,ve⟩:=K _ rfl xk
   simp only at ki ve
   have xa:t<=n':=by omega
   have jz:n'<=O:=hS.2.1
   have qf:O<=maxLen:=hS.2.2.1
   have zq:∀ q,w.heap.size<=q->q < X+3->¬ F' q:=fun q J H e=>by
    rcases A.lo q e with e|e
    ·have:=yl q e;omega
    ·omega
   have yt:¬ F' db:=fun e=>by
    rcases A.lo db e with e|e
    ·exact ve e
    ·omega
   have km:∀ (j:World) (G:Nat->Prop) (C:Dd.Dk),PD G j g s m fa fn fc C->AD F' W G j->KeepsFrom w3.heap.size W j->C.st.length=d.st.length->Hid (r=Ex.wr f0 o0 (o0+n) (N - (k+1)) (k+1) (l'.drop t) C) →
    KeepsFrom w3.heap.size W (j.setCell (w.heap.size+1+1:Nat) (.slice (if O=t then some (db dd) else some (db (dd+t))) (n' - t) (O - t)))/\UE (X+1) (X+2) X W (j.setCell (w.heap.size+1+1:Nat) (.slice (if O=t then some (db dd) else some (db (dd+t))) (n' - t) (O - t))) ∧
     ∃ F',UM F w g s m fa fn fc f0 c o0 (o0+n) N X (X+3) d.st.length r F' (k+1) (j.setCell (w.heap.size+1+1:Nat) (.slice (if O=t then some (db dd) else some (db (dd+t))) (n' - t) (O - t))):=by
    intro j G C zc M xv kz xo
    have yp:∀ q,w.heap.size<=q->q < X+3->¬ G q:=fun q J H e=>by
     rcases M.new q e with e|e
     ·exact zq q J H e
     ·omega
    have yx:∀ q,w.heap.size<=q->q < X+3->j.heap[q]?=W.heap[q]?:=fun q J H=>M.block q (by omega) (zq q J H)
    have zv:∀ v q,w.heap.size<=q->q < X+3->q ≠ w.heap.size+1+1->(j.setCell (w.heap.size+1+1:Nat) v).heap[q]?=W.heap[q]?:=fun v q J H h3=>(heap_setCell_other _ _ _ _ h3).trans (yx q J H)
    have jm:=hS.upd M (fun y hy _=>by cases hy;exact yt)
    have qp:W.heap.size<=j.heap.size:=M.size
    have jn:AM (j.setCell (w.heap.size+1+1:Nat) (.slice (if O=t then some (db dd) else some (db (dd+t))) (n' - t) (O - t))) (if O=t then some (db dd) else some (db (dd+t))) (n' - t) (O - t) (l'.drop t):=by
     refine AM.AI (w:=j) ?_ (fun y hy _=>heap_setCell_other _ _ _ _ ?_) (by simp)
     ·by_cases h8:O=t
      ·rw [if_pos h8]
       exact⟨by simp;omega,by omega,by omega,(fun e=>by cases e),fun x hx i hi=>by simp at hi;omega⟩
      ·rw [if_neg h8];exact jm.drop xa
     ·split at hy <;> (cases hy;simp only;omega)
    refine⟨xv.trans ((KeepsOthers.setCell _ _ _).from _),⟨zv _ _ (by omega) (by omega) (by omega),zv _ _ (by omega) (by omega) (by omega),zv _ _ (by omega) (by omega) (by omega)⟩,fun b=>G b/\(b=m\/AV j b),⟨_,C,_,_,_,xo,zc.tight.other (fun e=>yp _ (by omega) (by omega) e.1) _ _,kz,(Qe hX (yx _ (by omega) (by omega))).set _,jn,?_,?_⟩,
     ((A.upd.trans M).setCell (.inr (by omega)) _ _).grow (fun b K=>(A.upd.trans M).new b K.1),?_,fun b K=>?_,by simp;omega,A.args.AI (zv _ _ (by omega) (by omega) (by omega)) (zv _ _ (by omega) (by omega) (by omega)),Qe A.err (zv _ _ (by omega) (by omega) (by omega))⟩
    ·rw [List.length_drop,yy,xe];omega
    ·intro y hy _
     split at hy <;> (cases hy;exact⟨ki,ve⟩)
    ·intro b K
     refine K.2.imp id (fun e=>e.same (heap_setCell_other _ _ _ _ ?_))
     rintro rfl;exact yp (w.heap.size+1+1) (by omega) (by omega) K.1
    ·rcases M.new b K.1 with e|e
     ·exact A.lo b e
     ·exact .inr (by omega)
   have vn:∀ (j:World) (G:Nat->Prop) (C:Dd.Dk) (z:Int),PD G j g s m fa fn fc C->AD F' W G j->KeepsFrom w3.heap.size W j->Hid (r=(z,C)) →
    KeepsFrom w3.heap.size W (j.setCell (w.heap.size+1+1+1:Nat) (z:Value))/\XK F w g s m fa fn fc r .ret (k+1) (j.setCell (w.heap.size+1+1+1:Nat) (z:Value)):=by
    intro j G C z zc M xv xo
    have yp:∀ q,w.heap.size<=q->q < X+3->¬ G q:=fun q J H e=>by
     rcases M.new q e with e|e
     ·exact zq q J H e
     ·omega
    have yx:∀ q,w.heap.size<=q->q < X+3->j.heap[q]?=W.heap[q]?:=fun q J H=>M.block q (by omega) (zq q J H)
    refine⟨xv.trans ((KeepsOthers.setCell _ _ _).from _),rfl,z,C,fun b=>G b/\(b=m\/AV j b),xo,zc.tight.other (fun e=>yp _ (by omega) (by omega) e.1) _ _,
     ((A.upd.trans M).setCell (.inr (by omega)) _ _).grow (fun b K=>(A.upd.trans M).new b K.1),?_,(Qe A.err (yx _ (by omega) (by omega))).set _⟩
    intro b K
    refine K.2.imp id (fun e=>e.same (heap_setCell_other _ _ _ _ ?_))
    rintro rfl;exact yp (w.heap.size+1+1+1) (by omega) (by omega) K.1
   have vx:=zH km
   have xf:=zH vn
   clear km vn
   obtain⟨x0,x1,x2⟩:=A.args.cells
   have y0:=cell_of_row _ _ 0 _ _ _ zi
   have y1:=cell_of_row _ _ 1 _ _ _ zi
   have y2:=cell_of_row _ _ 2 _ _ _ zi
   simp only [List.getElem?_toArray,List.getElem?_cons_zero,List.getElem?_cons_succ] at y0 y1 y2
   have zs:=zH zi
   clear zi vo vq kk
   have xX:=hX.cell
   have qq:=hX.frozen
   have kf:N - k=(N - (k+1))+1:=by omega
   have xn:=zH kf
   clear kf
   have qc:Fence.wide.fn 53:=trivial
   have qd:Fence.wide.fn 112:=trivial
   have qb:((u:Int) - (q:Int))=(t:Int):=by have:=HU.out;omega
   have qn:t<=O:=by omega
   by_cases zr:t < 64
   ·have k1:decide ((t:Int) < 64)=true:=by simp;omega
    rcases zw:Dd.read d1 iz with⟨bs,z,d2⟩
    have HC:=zH ((callsIn_wide (n:=1)).2 (Zp hP _ zw))
    have yq:=zH zw
    clear zw
    have ke:∀ I:World,AD F' W F' I->KeepsFrom w3.heap.size W I:=fun I hU=>hU.PF A.tight (by omega)
    have vk:∀ I:World,AD F' W F' I->∀ q,w.heap.size<=q->q < X+3->I.heap[q]?=W.heap[q]?:=fun I hU q J H=>hU.block q (by omega) (zq q J H)
    have vv:=zH ke
    have zx:=zH vk
    clear ke vk
    by_cases hz:z=0
    ·subst hz
     have vz:=Dd.CS hP.ok yq.out
     rcases yn:Dd.write d2 iz (bs.take q ++ l'.take t ++ bs.drop (q+t)) with⟨z2,C⟩
     have zk:=zH yn
     clear yn
     have yf:Hid (r=if z2=0 then Ex.wr f0 o0 (o0+n) (N - (k+1)) (k+1) (l'.drop t) C else (z2,C)):=by
      refine zH ?_
      rw [HA.out,xn.out]
      have e1:=yq.out
      have Q:=zk.out
      rw [xm.out,HP.out] at e1 Q
      rw [HQ.out,HT.out,HP.out] at Q
      rw [HT.out,HP.out] at zr ⊢
      exact Ex.IM zr e1 Q
     have yr:=zH vz
     clear vz
     have yc:∀ (j:World) (G:Nat->Prop),AD F' W G j->∀ q,w.heap.size<=q->q < X+3->j.heap[q]?=W.heap[q]?:=fun j G hU q J H=>hU.block q (by omega) (zq q J H)
     have zy:=zH yc
     have qo:u - q=t:=by omega
     have kr:Dd.write d2 iz (bs.take q ++ l'.take t ++ bs.drop (q+t))=(z2,C):=zk.out
     have vy:=zH kr
     have vp:∀ (I Z:World) (T cc:Nat) (y:List UInt8),PD F' I g s m fa fn fc d2->AD F' W F' I->AC W.heap.size I (.slice T 64 cc) y->W.heap.size<=T->BQ T I Z →
      PD (fun b=>F' b/\(b=m\/AV I b)) Z g s m fa fn fc d2/\KeepsFrom w3.heap.size W Z/\(∀ b,(F' b/\(b=m\/AV I b))->b=m\/AV Z b)/\AD F' W (fun b=>F' b/\(b=m\/AV I b)) Z:=by
      intro I Z T cc y zf P zd zg za
      have nb:∀ b,F' b->b ≠ T:=fun b e Q=>by subst Q;have:=hP.lt _ e;omega
      obtain⟨cs,jq⟩:=zd.cells (k:=T) rfl
      refine⟨zf.tight.AI (fun b K=>za.block b (zf.lt b K.1) (nb b K.1)) za.size,(vv.out _ P).trans ⟨za.size,fun k o _ U ho=>(za.block k (Qa U) (fun e=>?_)).trans U⟩,fun b K=>K.2.imp id (fun e=>e.same (za.block b (zf.lt b K.1) (nb b K.1))),(P.but (.inr zg) za).grow (fun b K=>.inl K.1)⟩
      subst e;rw [jq] at U;cases U;cases ho
     have vi:=zH vp
     have kl:∀ (T:Nat),W.heap.size<=T->∀ (I:World) (y:Addr),some (T:Addr)=some y->(bs.take q ++ l'.take t ++ bs.drop (q+t)) ≠ []->¬ (F' y.block/\(y.block=m\/AV I y.block)):=fun T zg I y hy _ e=>by
      cases hy;have:=hP.lt T e.1;omega
     have vw:=zH kl
     have yk:∀ (Z j:World) (F5 G:Nat->Prop),KeepsFrom w3.heap.size W Z->(∀ b,F5 b->b=m\/AV Z b)->AD F5 Z G j->KeepsFrom w3.heap.size W j:=fun Z j F5 G J H h3=>J.trans (h3.PF H (by omega))
     have ye:=zH yk
     have ym:C.st.length=d.st.length:=by
      have e1:=(Dd.BM d1 iz).1
      have Q:=Dd.BI d2 iz (bs.take q ++ l'.take t ++ bs.drop (q+t))
      rw [yq.out] at e1;rw [zk.out] at Q
      simp only at e1 Q
      rw [Q,e1];exact xj
     have xp:=zH ym
     clear yc kr vp yk ym kl
     by_cases zp:z2=0
     ·subst zp
      have zj:Hid (r=Ex.wr f0 o0 (o0+n) (N - (k+1)) (k+1) (l'.drop t) C):=zH (yf.out.trans (if_pos rfl))
      unfold RE
      gi_wp2_with (first
      |(gi_at_call 112;go_must (refine (HC.out.inRound l).mono ?_);rintro e I ⟨v4,rfl,zd,zf,P⟩;obtain⟨T,cc,rfl,jp,zg⟩:=zd.VZ yr.out;have ky:¬ cc=q:=(by omega);have ja:u<=cc:=(by omega);have z0:=(Qe A.args.ptr (zx.out _ P _ (by omega) (by omega))).cell;have ze:=(P.block pb (Qa zs.out) vr).trans zs.out;have vg:=cell_of_row _ _ 1 _ _ _ ze;have vh:=cell_of_row _ _ 2 _ _ _ ze;simp only [List.getElem?_toArray,List.getElem?_cons_zero,List.getElem?_cons_succ] at vg vh;have xg:=zH ze;clear ze)
      |((show wpListIn _ _ _ _ _ (Oper.mk (some 58) _ _ _ _ _ :: _) _ _);go_must (refine Xe rfl _ _ rfl zd q t (cc - q) (db dd) t O (l'.take t) rfl rfl ((hS.upd P (fun y hy _=>by cases hy;exact yt)).take xa) rfl (by have:=yr.out;omega) ?_);intro Z xw za;obtain⟨ab,cb,eb,yi,-⟩:=id xw.sl;injection eb with xr yg xs;subst xr xs;rw [<-yg] at yi;clear yg;have jw:W.heap.size<=I.heap.size:=P.size;have kx:=Qa zs.out;have xd:Z.heap[w.heap.size]?=W.heap[w.heap.size]?:=(za.block _ (by omega) (by omega)).trans (zx.out _ P _ (by omega) (by omega));have jy:=(Qe A.args.ptr xd).cell;have yd:=(za.block pb (by omega) (by omega)).trans xg.out;have vf:=cell_of_row _ _ 0 _ _ _ yd;simp only [List.getElem?_toArray,List.getElem?_cons_zero] at vf;clear yd)
      |(gi_at_call 53;obtain⟨xz,xu,vc,vd⟩:=vi.out I Z T cc _ zf P zd zg za;have xc:=CallsIn.inRound l ((callsIn_wide (n:=1)).2 (Xn xz iz yi (vw.out T zg I) vy.out));go_must (refine xc.mono ?_);rintro e j ⟨rfl,G,zc,M⟩;have zz:=vd.trans M;have xh:=ye.out _ _ _ _ xu vc M;have ya:=Qe hX (zy.out _ _ zz _ (by omega) (by omega));have jx:=ya.cell;have jb:=ya.frozen))
      all_goals
       have h9:=vx.out j G C zc zz xh xp.out zj
      ·have zo:O=t:=by assumption
       rw [if_pos zo,show O - t=0 by omega] at h9
       rw [xb] at h9;exact h9
      ·have zo:¬ O=t:=by assumption
       rw [if_neg zo] at h9
       rw [xb] at h9;exact h9
     ·have t2:(z2 != 0)=true:=by simpa using zp
      have zj:Hid (r=(z2,C)):=zH (yf.out.trans (if_neg zp))
      unfold RE
      gi_wp2_with (first
      |(gi_at_call 112;go_must (refine (HC.out.inRound l).mono ?_);rintro e I ⟨v4,rfl,zd,zf,P⟩;obtain⟨T,cc,rfl,jp,zg⟩:=zd.VZ yr.out;have ky:¬ cc=q:=(by omega);have ja:u<=cc:=(by omega);have z0:=(Qe A.args.ptr (zx.out _ P _ (by omega) (by omega))).cell;have ze:=(P.block pb (Qa zs.out) vr).trans zs.out;have vg:=cell_of_row _ _ 1 _ _ _ ze;have vh:=cell_of_row _ _ 2 _ _ _ ze;simp only [List.getElem?_toArray,List.getElem?_cons_zero,List.getElem?_cons_succ] at vg vh;have xg:=zH ze;clear ze)
      |((show wpListIn _ _ _ _ _ (Oper.mk (some 58) _ _ _ _ _ :: _) _ _);go_must (refine Xe rfl _ _ rfl zd q t (cc - q) (db dd) t O (l'.take t) rfl rfl ((hS.upd P (fun y hy _=>by cases hy;exact yt)).take xa) rfl (by have:=yr.out;omega) ?_);intro Z xw za;obtain⟨ab,cb,eb,yi,-⟩:=id xw.sl;injection eb with xr yg xs;subst xr xs;rw [<-yg] at yi;clear yg;have jw:W.heap.size<=I.heap.size:=P.size;have kx:=Qa zs.out;have xd:Z.heap[w.heap.size]?=W.heap[w.heap.size]?:=(za.block _ (by omega) (by omega)).trans (zx.out _ P _ (by omega) (by omega));have jy:=(Qe A.args.ptr xd).cell;have yd:=(za.block pb (by omega) (by omega)).trans xg.out;have vf:=cell_of_row _ _ 0 _ _ _ yd;simp only [List.getElem?_toArray,List.getElem?_cons_zero] at vf;clear yd)
      |(gi_at_call 53;obtain⟨xz,xu,vc,vd⟩:=vi.out I Z T cc _ zf P zd zg za;have xc:=CallsIn.inRound l ((callsIn_wide (n:=1)).2 (Xn xz iz yi (vw.out T zg I) vy.out));go_must (refine xc.mono ?_);rintro e j ⟨rfl,G,zc,M⟩;have zz:=vd.trans M;have xh:=ye.out _ _ _ _ xu vc M;have yh:=Qe A.err (zy.out _ _ zz _ (by omega) (by omega));have c3:=yh.cell;have f3:=yh.frozen))
      exact xf.out j G C z2 zc zz xh zj
    ·have t1:(z != 0)=true:=by simpa using hz
     have jf:Hid (r=(z,d2)):=by
      refine zH ?_
      rw [HA.out,xn.out]
      have e1:=yq.out
      rw [xm.out,HP.out] at e1
      rw [HT.out,HP.out] at zr
      exact Ex.IP zr e1 hz
     unfold RE
     gi_wp2_with (gi_at_call 112;go_must (refine (HC.out.inRound l).mono ?_);rintro e I ⟨v4,rfl,zd,zf,P⟩;have kd:=Qe A.err (zx.out _ P _ (by omega) (by omega));have c3:=kd.cell;have f3:=kd.frozen)
     exact xf.out I _ d2 z zf P (vv.out _ P) jf
   ·have k1:decide ((t:Int) < 64)=false:=by simp;omega
    rcases yn:Dd.write d1 iz (l'.take t) with⟨z2,C⟩
    have zk:=zH yn
    clear yn
    have yf:Hid (r=if z2=0 then Ex.wr f0 o0 (o0+n) (N - (k+1)) (k+1) (l'.drop t) C else (z2,C)):=by
     refine zH ?_
     rw [HA.out,xn.out]
     have Q:=zk.out
     rw [xm.out,HP.out] at Q
     rw [HT.out,HP.out] at Q zr ⊢
     exact Ex.IL zr Q
    have ym:C.st.length=d.st.length:=by
     have Q:=Dd.BI d1 iz (l'.take t)
     rw [zk.out] at Q
     simp only at Q
     rw [Q];exact xj
    have yc:∀ (j:World) (G:Nat->Prop),AD F' W G j->∀ q,w.heap.size<=q->q < X+3->j.heap[q]?=W.heap[q]?:=fun j G hU q J H=>hU.block q (by omega) (zq q J H)
    have yk:∀ (j:World) (G:Nat->Prop),AD F' W G j->KeepsFrom w3.heap.size W j:=fun j G h3=>h3.PF A.tight (by omega)
    have zy:=zH yc
    have ye:=zH yk
    have xp:=zH ym
    have HC:=zH ((callsIn_wide (n:=1)).2 (Xn hP iz (hS.take xa) (fun y hy _=>by cases hy;exact yt) zk.out))
    clear ym yc yk
    by_cases zp:z2=0
    ·subst zp
     have zj:Hid (r=Ex.wr f0 o0 (o0+n) (N - (k+1)) (k+1) (l'.drop t) C):=zH (yf.out.trans (if_pos rfl))
     unfold RE
     gi_wp2_with (gi_at_call 53;go_must (refine (HC.out.inRound l).mono ?_);rintro e j ⟨rfl,G,zc,M⟩;have ya:=Qe hX (zy.out _ _ M _ (by omega) (by omega));have jx:=ya.cell;have jb:=ya.frozen)
     all_goals
      have h9:=vx.out j G C zc M (ye.out _ _ M) xp.out zj
     ·have zo:O=t:=by assumption
      rw [if_pos zo,show O - t=0 by omega] at h9
      rw [xb] at h9;exact h9
     ·have zo:¬ O=t:=by assumption
      rw [if_neg zo] at h9
      rw [xb] at h9;exact h9
    ·have t2:(z2 != 0)=true:=by simpa using zp
     have zj:Hid (r=(z2,C)):=zH (yf.out.trans (if_neg zp))
     unfold RE
     gi_wp2_with (gi_at_call 53;go_must (refine (HC.out.inRound l).mono ?_);rintro e j ⟨rfl,G,zc,M⟩;have yh:=Qe A.err (zy.out _ _ M _ (by omega) (by omega));have c3:=yh.cell;have f3:=yh.frozen)
     exact xf.out j G C z2 zc M (ye.out _ _ M) zj
  case done =>
   rintro D W hD ⟨F',A⟩ hK
   obtain⟨l',d1,a',n',O,HA,hP,xj,hX,hS,yy,K⟩:=A.acc
   have kh:r=(0,d1):=by rw [HA.out,Nat.sub_self];rfl
   have f3:=A.err.frozen
   have c3:=A.err.cell
   have HF:=zH (A.err.set (.int .i64 0))
   have jd:=zH kh
   clear kh
   gi_wp2
   go_wp2
   have kc:=HF.out
   have vj:=A.big
   have kb:(W.setCell (w.heap.size+1+1+1:Nat) (.int .i64 0)).heap[D]?=some (.deferred (some [])) :=
    (heap_setCell_other _ _ _ _ (show D ≠ w.heap.size+1+1+1 by omega)).trans hK
   have C:=(Qe kc (World.putObj_heap_other (o:=.deferred none) (Qq kc kb rfl))).cell
   refine⟨by simp,.inl ⟨_,_,rfl,run_takeDeferred kb,⟨.int .i64 0,by simp [results,results108,go_sem,C],?_⟩⟩⟩
   rw [jd.out]
   have n3:¬ F' (w.heap.size+1+1+1):=fun e=>by
    rcases A.lo _ e with e|e
    ·have:=yl _ e;omega
    ·omega
   have nD:¬ F' D:=fun e=>by
    rcases A.tight D e with e|e
    ·omega
    ·exact AV.not hK rfl e
   exact⟨rfl,F',(hP.other n3 _ _).CH nD _,(A.upd.setCell (.inr (by omega)) _ _).CH (.inr (by omega)) _⟩
  case stop =>
   rintro D cd k W hD U A hK
   have ji:=A.CH yz (o':=.deferred none) (by omega:w.heap.size<=D) hK rfl
   obtain⟨rfl,z,d1,F',HA,hP,hU,hT,hE⟩:=ji
   have C:=hE.cell
   gi_wp2
   refine⟨by simp,.inl ⟨_,_,rfl,run_takeDeferred hK,⟨.int .i64 z,by simp [results,results108,go_sem,C],?_⟩⟩⟩
   rw [HA.out]
   exact⟨rfl,F',hP,hU⟩
 ·rw [if_neg zn] at hr
  have HR:=zH hr
  have t1:(Ex.check d.st.length f c off n != 0)=true:=by simpa using zn
  generalize Ex.check d.st.length f c off n=z at *
  clear hr zn
  go_wp2_with fail
  rw [<-xq.out]
  refine yu.out.mono ?_;rintro e Y ⟨rfl,zb⟩
  have yw:=xy.ext zb
  have zu:=Qj xt zb
  have c3:=zu.cell
  have f3:=zu.frozen
  have HF:=zH (zu.set (z:Value))
  go_wp2
  have C:=HF.out.cell
  refine⟨.int .i64 z,by simp [results,results108,go_sem,C],?_⟩
  have yl:∀ k,w.heap.size<=k->¬ F k:=fun k U e=>by have:=h.lt k e;omega
  rw [HR.out]
  exact⟨rfl,F,yw.other (yl _ (by omega)) _ _,((AD.AL zt).ext zb).setCell (.inr (by omega)) _ _⟩
theorem Du (h:PD F w g s m fa fn fc d) (f c off:Int) (j:ib f) (i:ib c) (ho:ib off) (a:Option Addr) (n ca:Nat) (x:List UInt8) (p:AM w a n ca x) (hF:∀ y,a=some y->x ≠ []->¬ F y.block) :
 Calls prog 108 #[.pointer g,.agg #[f,c],off,.slice a n ca] w (FJ F w g s m fa fn fc (Ex.write d f c off x)) :=
 callsIn_wide.1 (Ox h f c off j i ho a n ca x p hF)
end
section
open Go.RowKit
theorem Yn (f c:Int) (i:-9223372036854775808<=c/\c<=9223372036854775807) (w:World):Calls prog 79 #[.agg #[f,c]] w fun e w'=>e=.returned (.int .i64 (Ex.size c))/\Below w.heap.size w w':=by
 have a:=(Below.refl _ w).alloc (zN _) (.cells #[f,c] 23)
 obtain⟨j,k⟩:=i
 unfold Ex.size
 by_cases h:c < 0
 ·rw [if_pos (.inl h)]
  go_in
  go_wp2
  go_ret
  exact⟨rfl,a⟩
 by_cases b:4096 < c
 ·rw [if_pos (.inr b)]
  go_in
  go_wp2
  go_ret
  exact⟨rfl,a⟩
 ·rw [if_neg (by omega)]
  go_in
  go_wp2
  go_ret
  exact⟨rfl,a⟩
section
variable {F:Nat->Prop} {w w':World} {g sb cb sc:Nat} {fa:Option Addr} {fn fc:Nat} {d d':Dd.Dk}
theorem Nr (h:RD F w g sb cb sc fa fn fc d) (f c:Int) :
 Calls prog 138 #[.pointer g,.agg #[f,c]] w fun e w'=>e=.returned (.bool (Ex.AB d.st.length f c))/\Below w.heap.size w w':=by
 have u:=(Below.refl _ w).alloc (zN _) (.cells #[f,c] 23)
 have hn:=h.ok.max
 have t:=h.ext u
 have l:∀ q,Calls prog 76 #[.pointer g] ((w.alloc (.cells #[f,c] 23)).drewN q) fun e w'=>e=.returned (.int .i64 (d.st.length:Nat))/\w'=(w.alloc (.cells #[f,c] 23)).drewN q:=fun q=>(Ya (t.drewN q)).mono (by rintro e w' ⟨rfl,rfl⟩;exact⟨rfl,rfl⟩)
 have i:∀ q,Below w.heap.size w ((w.alloc (.cells #[f,c] 23)).drewN q):=fun q=>u.trans (Ou _ _ _)
 generalize d.st.length=n at *
 clear t h
 have k:=zH l
 clear l
 have z0:(w.alloc (.cells #[f,c] 23)).cell? w.heap.size=some (f:Value):=by rw [World.cell?_alloc_at _ _ _ _ rfl];rfl
 have y:(w.alloc (.cells #[f,c] 23)).cell? (w.heap.size 1)=some (c:Value):=by rw [World.cell?_alloc_at _ _ _ _ rfl];rfl
 obtain⟨r,hr⟩:∃ r,r=Ex.AB n f c:=⟨_,rfl⟩
 rw [<-hr]
 unfold Ex.AB at hr
 by_cases m:0<=f
 ·have b:decide (0<=f)=true:=decide_eq_true m
  by_cases o:1<=c
  ·have j:decide (1<=c)=true:=decide_eq_true o
   by_cases p:c<=(n:Int)
   ·have t3:decide (c<=(n:Int))=true:=decide_eq_true p
    have a:r=decide (f<=(n:Int) - c):=by rw [hr,b,j,t3];rfl
    have x:=zH a
    clear hr a
    by_cases s:f<=(n:Int) - c
    case' pos=>have t4:decide (f<=(n:Int) - c)=true:=decide_eq_true s
    case' neg=>have t4:decide (f<=(n:Int) - c)=false:=decide_eq_false s
    all_goals
     go_in
     go_wp2
     go_quiet (first|(go_at_call 76;with_reducible exact Calls.quiet_of_same (k.out _)))
     go_wp2
     go_ret
     exact⟨by rw [x.out,t4];rfl,i _⟩
   ·have t3:decide (c<=(n:Int))=false:=decide_eq_false p
    have a:r=false:=by rw [hr,b,j,t3];rfl
    subst a;clear hr
    go_in
    go_wp2
    go_quiet (first|(go_at_call 76;with_reducible exact Calls.quiet_of_same (k.out _)))
    go_wp2
    go_ret
    exact⟨rfl,i _⟩
  ·have j:decide (1<=c)=false:=decide_eq_false o
   have a:r=false:=by rw [hr,b,j];rfl
   subst a;clear hr
   go_in
   go_wp2
   go_quiet (fail)
   go_wp2
   go_ret
   exact⟨rfl,i _⟩
 ·have b:decide (0<=f)=false:=decide_eq_false m
  have a:r=false:=by rw [hr,b];rfl
  subst a;clear hr
  go_in
  go_wp2
  go_quiet (fail)
  go_wp2
  go_ret
  exact⟨rfl,i _⟩
theorem Nq (h:RD F w g sb cb sc fa fn fc d) (f c off len:Int) (R:ib c) (ho:ib off) (T:ib len) :
 Calls prog 134 #[.pointer g,.agg #[f,c],off,len] w fun e w'=>e=.returned (.int .i64 (Ex.check d.st.length f c off len))/\Below w.heap.size w w':=by
 have J:=(Below.refl _ w).alloc (zN _) (.cells #[f,c] 23)
 have m:=zH (Nr (h.ext ((Below.refl _ w).alloc (zN _) (.cells #[f,c] 23))) f c)
 have x:=zH (Yn f c R)
 obtain⟨r,hr⟩:∃ r,r=Ex.check d.st.length f c off len:=⟨_,rfl⟩
 rw [<-hr]
 unfold Ex.check at hr
 have C:∀ b:Int,(if off < 0\/len < 0\/b < off\/b - off < len then (2:Int) else 0)=if off < 0\/len < 0\/b < len\/b - len < off then 2 else 0:=fun b=>by
  by_cases K:off < 0\/len < 0\/b < off\/b - off < len
  ·rw [if_pos K,if_pos (by omega)]
  ·rw [if_neg K,if_neg (by omega)]
 rw [C] at hr
 clear C
 obtain⟨zc,zd⟩:=ho
 obtain⟨za,zb⟩:=T
 have hsz:0<=Ex.size c/\Ex.size c<=262144:=by unfold Ex.size;split <;> omega
 generalize Ex.AB d.st.length f c=v at *
 generalize Ex.size c=b at *
 obtain⟨ze,zf⟩:=hsz
 cases v with
|false =>
  rw [if_neg (by decide)] at hr
  have i:=zH hr;clear hr
  go_in
  go_wp2_with (go_at_call 138;refine m.out.mono ?_;rintro e s ⟨rfl,a⟩)
  go_ret
  exact⟨by rw [i.out];rfl,J.trans (Below.mono a (by simp))⟩
|true =>
  rw [if_pos rfl] at hr
  have A:∀ W:World,Below (w.heap.size+1) (w.alloc (.cells #[f,c] 23)) W->W.cell? w.heap.size=some (f:Value)/\W.cell? (w.heap.size 1)=some (c:Value)/\Below w.heap.size w W/\w.heap.size+1<=W.heap.size:=by
   intro W q
   refine⟨(q.cell (p:=w.heap.size) (by simp)).trans ?_,(q.cell (p:=(w.heap.size 1)) (by simp)).trans ?_,J.trans (q.mono (by omega)),by have:=q.size;simpa using this⟩
   ·rw [World.cell?_alloc_at _ _ _ _ rfl];rfl
   ·rw [World.cell?_alloc_at _ _ _ _ rfl];rfl
  have j:=zH A
  clear A
  have M:(w.alloc (.cells #[f,c] 23)).heap.size=w.heap.size+1:=by simp
  have o:=zH M
  clear M
  by_cases u:off < 0
  ·rw [if_pos (.inl u)] at hr
   have i:=zH hr;clear hr
   go_in
   go_wp2_with (go_at_call 138;refine m.out.mono ?_;rintro e s ⟨rfl,a⟩;rw [o.out] at a;obtain⟨y,z,k,l⟩:=j.out _ a)
   go_ret
   exact⟨by rw [i.out];rfl,k⟩
  by_cases H:len < 0
  ·rw [if_pos (.inr (.inl H))] at hr
   have i:=zH hr;clear hr
   have U:decide (off < 0)=false:=decide_eq_false u
   go_in
   go_wp2_with (go_at_call 138;refine m.out.mono ?_;rintro e s ⟨rfl,a⟩;rw [o.out] at a;obtain⟨y,z,k,l⟩:=j.out _ a)
   go_ret
   exact⟨by rw [i.out];rfl,k⟩
  have U:decide (off < 0)=false:=decide_eq_false u
  have t2:decide (len < 0)=false:=decide_eq_false H
  have b1:0<=off:=by omega
  have b2:0<=len:=by omega
  by_cases I:b < len
  ·rw [if_pos (.inr (.inr (.inl I)))] at hr
   have i:=zH hr;clear hr
   go_in
   go_wp2_with (first|(go_at_call 138;refine m.out.mono ?_;rintro e s ⟨rfl,a⟩;rw [o.out] at a;obtain⟨y,z,k,l⟩:=j.out _ a)|(go_at_call 79;refine (x.out _).mono ?_;rintro e X ⟨rfl,t⟩;have n:=a.trans (Below.mono t l);obtain⟨Y,Z,B,G⟩:=j.out _ n))
   go_ret
   exact⟨by rw [i.out];rfl,B⟩
  have t3:decide (b < len)=false:=decide_eq_false I
  have b3:0<=b - len:=by omega
  by_cases Q:b - len < off
  case' pos=>rw [if_pos (.inr (.inr (.inr Q)))] at hr
  case' neg=>rw [if_neg (by omega)] at hr
  all_goals
   have i:=zH hr;clear hr
   go_in
   go_wp2_with fail
   refine m.out.mono ?_;rintro e s ⟨rfl,a⟩;rw [o.out] at a;obtain⟨y,z,k,l⟩:=j.out _ a
   go_wp2_with fail
   refine (x.out _).mono ?_;rintro e X ⟨rfl,t⟩;have n:=a.trans (Below.mono t l);obtain⟨Y,Z,B,G⟩:=j.out _ n
   go_wp2_with fail
   refine (x.out _).mono ?_;rintro e w6 ⟨rfl,N⟩;have O:=n.trans (Below.mono N G);obtain⟨z0,z1,P,zg⟩:=j.out _ O
   go_wp2_with fail
   go_ret
   exact⟨by rw [i.out];rfl,P⟩
end
end
end Go.Proofs.YtmanejniepghlaaGreatDoor
