import Derived.Laws.OwnMore
import Derived.RangeFuncBox
import Derived.Test.YtmanejniepghlaaGreatDoorRun0
import Derived.Test.YtmanejniepghlaaGreatDoorRun6
import Derived.Test.YtmanejniepghlaaGreatDoorRun14
import Derived.Shelf.Abstract
import Derived.Shelf.RegionOpen
import Derived.OwnWalkIn
import Derived.TacticsInMore
import Derived.LoopNIn
import Derived.LoopIn
set_option maxHeartbeats 4000000
set_option maxRecDepth 100000
namespace Go.Proofs.YtmanejniepghlaaGreatDoor
section
open Go.RowKit Go.Shelf
variable {l:List UInt8} {k:Nat}
attribute [local go_sem] Oper.semAt_some
namespace Ho
theorem Ky:∀ l:List UInt8,Lib.indexByte l 46=-1->∀ x ∈ l,x ≠ 46
|[],_,x,hx=>by cases hx
|b :: l,h,x,hx=>by
  rw [Lib.indexByte] at h
  by_cases a:(b == 46)=true
  ·rw [if_pos a] at h;cases h
  ·rw [if_neg a] at h
   have d:b ≠ 46:=by simpa using a
   by_cases c:(Lib.indexByte l 46 == -1)=true
   ·rcases List.mem_cons.1 hx with e|e
    ·rw [e];exact d
    ·exact Ky l (by simpa using c) x e
   ·rw [if_neg c] at h
    have:=Lib.indexByte_ge l 46
    omega
theorem Zl:∀ l:List UInt8,Lib.indexByte l 46 ≠ -1->∃ k:Nat,Lib.indexByte l 46=(k:Int)/\k < l.length/\l=l.take k ++ 46 :: l.drop (k+1)/\∀ x ∈ l.take k,x ≠ 46
|[],h=>absurd rfl h
|b :: l,h=>by
  rw [Lib.indexByte] at h ⊢
  by_cases a:(b == 46)=true
  ·have c:b=46:=by simpa using a
   rw [if_pos a]
   exact⟨0,rfl,by simp,by simp [c],by simp⟩
  ·rw [if_neg a] at h ⊢
   have c:b ≠ 46:=by simpa using a
   by_cases d:(Lib.indexByte l 46 == -1)=true
   ·rw [if_pos d] at h;exact absurd rfl h
   ·rw [if_neg d]
    obtain⟨k,g,m,i,j⟩:=Zl l (by simpa using d)
    refine⟨k+1,by rw [g];rfl,by simp;omega,?_,?_⟩
    ·simp only [List.take_succ_cons,List.drop_succ_cons,List.cons_append];rw [<-i]
    ·intro x f
     rw [List.take_succ_cons] at f
     rcases List.mem_cons.1 f with e|e
     ·rw [e];exact c
     ·exact j x e
def rest (l:List UInt8):Nat->List UInt8
|0=>l
|k+1=>match split (rest l k) with
 |_ :: q :: r=>join (q :: r)
 |_=>[]
theorem Zo (l:List UInt8):∀ k,k < (split l).length->split (rest l k)=(split l).drop k
|0,_=>rfl
|k+1,h=>by
  have ih:=Zo l k (by omega)
  have b:(split (rest l k)).length=(split l).length - k:=by rw [ih,List.length_drop]
  unfold rest
  cases hs:split (rest l k) with
 |nil=>exact absurd hs (BH _)
 |cons p r =>
   cases r with
  |nil=>rw [hs] at b;simp at b;omega
  |cons q r =>
    have e:rest l k=p ++ 46 :: join (q :: r):=by rw [<-Jl (rest l k),hs,Vp p (by simp)]
    have f:∀ x ∈ p,x ≠ 46:=Xa (rest l k) p (by rw [hs];exact List.mem_cons_self)
    have a:split (rest l k)=p :: split (join (q :: r)):=(congrArg split e).trans (Vx p _ f)
    have c:split (join (q :: r))=q :: r:=by rw [hs] at a;injection a with _ a;exact a.symm
    show split (join (q :: r))=_
    rw [c]
    have d:p :: q :: r=(split l).drop k:=by rw [<-hs,ih]
    rw [<-List.drop_drop,<-d];rfl
theorem KL (l:List UInt8):∀ k,(rest l k).length<=l.length
|0=>zN _
|k+1=>by
  have ih:=KL l k
  unfold rest
  cases hs:split (rest l k) with
 |nil=>exact Nat.zero_le _
 |cons p r =>
   cases r with
  |nil=>exact Nat.zero_le _
  |cons q r =>
    have a:rest l k=p ++ 46 :: join (q :: r):=by rw [<-Jl (rest l k),hs,Vp p (by simp)]
    have:=congrArg List.length a
    simp at this ⊢;omega
theorem LQ (h:k+1=(split l).length):Lib.indexByte (rest l k) 46=-1/\(split l)[k]?.getD []=rest l k:=by
 have a:=Zo l k (by omega)
 have b:(split (rest l k)).length=1:=by rw [a,List.length_drop];omega
 have hn:∀ x ∈ rest l k,x ≠ 46:=by
  intro x i e
  cases hs:split (rest l k) with
 |nil=>exact BH _ hs
 |cons p r =>
   cases r with
  |cons q r=>rw [hs] at b;simp at b
  |nil =>
    have c:=Jl (rest l k)
    rw [hs] at c
    have d:=Xa (rest l k) p (by rw [hs];exact List.mem_cons_self) x
    rw [show p=rest l k from c] at d
    exact d i e
 refine⟨?_,?_⟩
 ·rcases Decidable.em (Lib.indexByte (rest l k) 46=-1) with e|e
  ·exact e
  ·exfalso
   obtain⟨j,m,n,g,o⟩:=Zl _ e
   refine hn 46 ?_ rfl
   rw [g];simp
 ·have f:=congrArg (fun z:List (List UInt8)=>z[0]?) a
  simp only [List.getElem?_drop,Nat.add_zero] at f
  rw [<-f,Qx _ hn];rfl
theorem LS (h:k+1 < (split l).length):∃ j:Nat,Lib.indexByte (rest l k) 46=(j:Int)/\j < (rest l k).length/\(split l)[k]?.getD []=(rest l k).take j/\rest l (k+1)=(rest l k).drop (j+1):=by
 have a:=Zo l k (by omega)
 have b:1 < (split (rest l k)).length:=by rw [a,List.length_drop];omega
 have f:Lib.indexByte (rest l k) 46 ≠ -1:=by
  intro e
  rw [Qx _ (Ky _ e)] at b;simp at b
 obtain⟨j,g,i,m,n⟩:=Zl _ f
 have c:split (rest l k)=(rest l k).take j :: split ((rest l k).drop (j+1)):=by
  conv=>lhs;rw [m]
  rw [Vx _ _ n]
 refine⟨j,g,i,?_,?_⟩
 ·have d:=congrArg (fun z:List (List UInt8)=>z[0]?) a
  simp only [List.getElem?_drop,Nat.add_zero] at d
  rw [<-d,c];rfl
 ·show (match split (rest l k) with
  |_ :: q :: r=>join (q :: r)
  |_=>[])=_
  rw [c]
  cases hs:split ((rest l k).drop (j+1)) with
 |nil=>exact absurd hs (BH _)
 |cons q r =>
   show join (q :: r)=_
   rw [<-hs,Jl]
end Ho
theorem Kr (F:Fence) (n:Nat) (c:F.fn 218) (b:F.round=none) (s a:ByteArray) (z:Int) (w:World) :
 CallsIn F n Tryz.prog 218 #[.string s,.string a,z] w fun e d=>e=.returned (.func (.func 235) #[] #[.pointer (w.heap.size+1:Nat),.pointer w.heap.size,.pointer (w.heap.size+2:Nat)]) ∧
  d=((w.alloc (.cells #[.string s] 9)).alloc (.cells #[.string a] 9)).alloc (.cells #[z] 3):=by
 refine callsIn_of_wp Tryz.func218 rfl c ?_ b
 simp only [Tryz.ntmps218,List.size_toArray,List.length_cons,List.length_nil,Nat.reduceAdd,Nat.reduceSub,Array.replicate_succ,Array.replicate_zero,List.push_toArray,List.append_toArray,List.nil_append,List.cons_append]
 gi_wp2
 go_ret
 exact⟨rfl,rfl⟩
def TZ (l:List UInt8) (k:Nat):Array Value:=#[.string (str ((Ho.split l)[k]?.getD []))]
def XF (c b a:Nat) (A B:World):Prop:=B.heap[c]?=A.heap[c]?/\B.heap[b]?=A.heap[b]?/\B.heap[a]?=A.heap[a]?
theorem Sa {c b a:Nat} {A B C:World} (h:XF c b a A B) (k:XF c b a B C):XF c b a A C:=⟨k.1.trans h.1,k.2.1.trans h.2.1,k.2.2.trans h.2.2⟩
def MD (w:World) (b:Nat):Nat:=match w.cell? b with
|some (.string s)=>s.size
|_=>0
theorem Wz {w:World} {b:Nat} (h:Boxed w b 9 (.string (str l))):MD w b=l.length:=by
 unfold MD;rw [h.cell];exact AZ l
def VT (l:List UInt8) (N a c b:Nat) (J:Nat->World->Prop) (W wr:World):Prop :=
 ∃ k,k < N/\J k wr/\Boxed wr c 9 (.string (str (Ho.rest l k)))/\wr.heap[a]?=W.heap[a]?/\wr.heap[b]?=W.heap[b]?
theorem My (n:Nat) (hn:1<=n) (c b d:Nat) (l:List UInt8) (hl:l.length<=1000000) (w:World)
 (b1:c < w.heap.size) (b2:b < w.heap.size) (b3:d < w.heap.size) (d1:b ≠ c) (d2:b ≠ d)
 (x1:w.cell? c=some (.string ⟨#[46]⟩)) (x2:Boxed w b 9 (.string (str l))) (x3:w.cell? d=some (.int .i64 0)) :
 RX Fence.wide n Tryz.prog 235 #[.pointer c,.pointer b,.pointer d] (TZ l) (XF c b d) (Ho.split l).length b w:=by
 intro lp J Jx W hW zd x hJ
 have y1:W.cell? c=_:=(hW.cell (p:=c) b1).trans x1
 have y2:Boxed W b 9 (.string (str l)):=(hW.block b b2).trans x2
 have y3:W.cell? d=_:=(hW.cell (p:=d) b3).trans x3
 have zt:=y2.cell
 have HC:=zH (show ∀ t:World,t.heap[c]?=W.heap[c]?->t.heap[d]?=W.heap[d]?->t.cell? c=some (.string ⟨#[46]⟩)/\t.cell? d=some (.int .i64 0) from
  fun t F G=>⟨(World.cell?_of_block (a:=c) F).trans y1,(World.cell?_of_block (a:=d) G).trans y3⟩)
 have P:=List.length_pos_iff.2 (Ho.BH l)
 have I:=zH (fun k=>Ho.LQ (l:=l) (k:=k))
 have K:=zH (fun k=>Ho.LS (l:=l) (k:=k))
 have zn:=zH (fun k=>Nat.le_trans (Ho.KL l k) hl)
 unfold TZ at x
 obtain⟨ps,zg⟩:∃ ps,Ho.split l=ps:=⟨_,rfl⟩
 rw [zg] at x P I K ⊢
 obtain⟨N,hN⟩:∃ N,ps.length=N:=⟨_,rfl⟩
 rw [hN] at x P I K ⊢
 have HY:=zH x
 have zj:=zH zd
 have zo:VT l N c b d J W W:=⟨0,P,hJ,y2,rfl,rfl⟩
 clear x1 x2 x3 y2 x zg hN zd hJ
 refine callsIn_of_wp Tryz.func235 rfl trivial ?_ rfl
 simp only [Tryz.ntmps235,List.size_toArray,List.length_cons,List.length_nil,Nat.reduceAdd,Nat.reduceSub,Array.replicate_succ,Array.replicate_zero,List.push_toArray,List.append_toArray,List.nil_append,List.cons_append]
 gi_wp2
 gi_loopw [7,8] (fun _ _ wr=>VT l N c b d J W wr) (fun _ _ wr=>MD wr b)
 case atStart=>exact zo
 case round =>
  obtain⟨k,hk,zq,h,F,G⟩:=hrel
  obtain⟨z1,z3⟩:=HC.out _ F G
  have z:=h.cell
  have zr:=h.frozen
  have R:=Wz h
  have zh:=zn.out k
  have f:=fun m W=>(callsIn_wide (n:=m)).2 (Nv (str (Ho.rest l k)) 46 W)
  have X:(str (Ho.rest l k)).data.toList=Ho.rest l k:=rfl
  rw [X] at f
  have hcut:=EL (Ho.rest l k)
  have hsz:=AZ (Ho.rest l k)
  have g:=zH (HY.out k wr zq)
  have zs:Fence.wide.fn 237:=trivial
  by_cases ze:k+1 < N
  ·obtain⟨j,i,u,Z,C⟩:=K.out k ze
   obtain⟨r,hr⟩:∃ r,Ho.rest l k=r:=⟨_,rfl⟩
   rw [hr] at i u Z C hcut hsz f z R zh h
   rw [i] at f
   rw [Z] at g
   have q:=zH f
   have T:=hcut 0 j
   have U:=hcut (j+1) r.length
   rw [List.drop_zero] at T
   rw [List.take_length,<-C] at U
   have zm:=zH (show (Ho.rest l (k+1)).length < r.length by rw [C,List.length_drop];omega)
   obtain⟨y,Y⟩:∃ y,str (Ho.rest l (k+1))=y:=⟨_,rfl⟩
   obtain⟨s1,zi⟩:∃ s1,str (r.take j)=s1:=⟨_,rfl⟩
   obtain⟨o,s⟩:∃ o,str r=o:=⟨_,rfl⟩
   rw [Y] at U
   rw [zi] at T g
   rw [s] at T U hsz q z h
   have zc:=zH Y
   obtain⟨fn,tmps,assign,body,hy,H⟩:=g.out hk
   have i0:(0:Int)<=(j:Int):=by omega
   have i1:(j:Int)<=(r.length:Int):=by omega
   have i2:(j:Int)+1<=(r.length:Int):=by omega
   have i3:((j:Int)+1).toNat=j+1:=by omega
   clear f hcut hr zi Y s i Z C X g
   gi_wp2_with (gi_at_call 237;refine (q.out _ _).mono ?_;rintro e W1 ⟨rfl,rfl⟩)
   refine H.mono ?_
   rintro e B (⟨rfl,Q,A⟩|⟨rfl,M⟩)
   ·have O:Boxed B b 9 (.string o):=A.2.1.trans h
    have v2:=O.cell
    have vf:=O.frozen
    have k1:=A.1.trans F
    have k2:=A.2.2.trans G
    obtain⟨v1,v3⟩:=HC.out _ k1 k2
    have zb:=O.set (.string y)
    have zp:=zj.out (k+1) B (.string y) Q
    have za:MD (B.setCell b (.string y)) b=(Ho.rest l (k+1)).length:=Wz (by rw [zc.out];exact zb)
    have zl:=zH za
    clear za z1 z z3 zr hy H
    gi_wp2
    go_roundw
    case rel=>exact⟨k+1,ze,zp,by rw [zc.out];exact zb,(heap_setCell_other _ _ _ _ (fun e=>d1 e.symm)).trans k1,(heap_setCell_other _ _ _ _ (fun e=>d2 e.symm)).trans k2⟩
    case measure=>rw [zl.out,R];exact zm.out
   ·gi_wp2
    refine bodyPost_ret (results_none rfl _ _ _) rfl ?_
    exact⟨⟨_,rfl⟩,.inr ⟨k+1,by omega,M⟩⟩
  ·obtain⟨i,u⟩:=I.out k (by omega)
   obtain⟨r,hr⟩:∃ r,Ho.rest l k=r:=⟨_,rfl⟩
   rw [hr] at i u hsz f z R zh h
   rw [i] at f
   rw [u] at g
   have q:=zH f
   obtain⟨o,s⟩:∃ o,str r=o:=⟨_,rfl⟩
   rw [s] at hsz q z h g
   obtain⟨fn,tmps,assign,body,hy,H⟩:=g.out hk
   clear f hcut hr s i u X g
   have zf:k+1=N:=by omega
   have zk:=zH zf
   clear zf
   gi_wp2_with (gi_at_call 237;refine (q.out _ _).mono ?_;rintro e W1 ⟨rfl,rfl⟩)
   refine H.mono ?_
   rintro e B (⟨rfl,Q,A⟩|⟨rfl,M⟩)
   ·gi_wp2
    go_end0
    exact⟨⟨_,rfl⟩,.inl (by rw [<-zk.out];exact Q)⟩
   ·gi_wp2
    go_end0
    exact⟨⟨_,rfl⟩,.inr ⟨k+1,by omega,M⟩⟩
end
section
open Go.RowKit
variable {base c g n:Nat} {w:World} {l:List (List UInt8)}
namespace Ho
theorem IV:∀ l:List UInt8,(split l).length=l.count 46+1
|[]=>rfl
|x :: l=>by
  have ih:=IV l
  by_cases a:x=46
  ·subst a;rw [Jr,List.length_cons,ih,List.count_cons_self]
  ·rw [Jc a,List.count_cons_of_ne a]
   have b:=List.length_pos_iff.2 (BH l)
   simp only [List.length_cons,List.length_tail];omega
end Ho
theorem CW.set (h:CW base w (.slice g n c) l) (j:Nat) (b:List UInt8) :
 CW base (w.setCell (g j) (tv b)) (.slice g n c) (l.set j b):=by
 have hn:n=l.length:=by
  obtain⟨a,d,e,-⟩:=h.sl
  injection e
 subst hn
 have:=(World.ownsRow.stored h j (tv b)).1
 unfold CW
 rw [List.length_set,List.map_set];exact this
theorem CW.free (h:CW base w (.slice g n c) l) (k:Nat):w.frozen? (g k)=false:=by
 have hn:n=l.length:=by
  obtain⟨a,b,e,-⟩:=h.sl
  injection e
 subst hn
 exact World.ownsRow.frozenAt h k
theorem XY (n:Nat):(madeCells (Value.string ⟨#[]⟩).cells (n * 1)).toList=(List.replicate n ([]:List UInt8)).map tv:=by
 rw [Nat.mul_one,show madeCells (Value.string ⟨#[]⟩).cells n=madeCells #[.string ⟨#[]⟩] n from rfl,toList_madeCells_one];simp [tv,str]
theorem Cq (n:Nat) (hn:n<=1000001) (w:World):∃ a,Sem.run Tryz.prog (Instr.makeSlice 200 (n:Value) (n:Value)) w=.ok (Value.slice w.heap.size n n) a/\CW w.heap.size a (Value.slice w.heap.size n n) (List.replicate n [])/\Below w.heap.size w a:=by
 obtain⟨m,i,e,f,h⟩:=info_parts QC
 obtain⟨a,d,b,o⟩:=run_make_full (P:=Tryz.prog) w w.heap.size 200 9 m (.string ⟨#[]⟩) 1 Tryz.underlying200 i e f .i64 .i64 n (by rw [h];omega) (by unfold maxLen;omega) (zN _)
 rw [XY n] at b
 refine⟨a,d,?_,(Below.refl _ _).grown o (zN _) (fun k j=>by cases j)⟩
 unfold CW;rw [List.length_replicate];exact b
def VL (l:List UInt8) (a:List (List UInt8)) (N g base:Nat) (w:World) (s i:Value) (wr:World):Prop :=
 ∃ k,k < N/\i=.int .i64 (k:Nat)/\s=.string (str (Ho.rest l k))/\CW base wr (.slice g N N) (a.take k ++ List.replicate (N - k) [])/\Below base w wr
theorem Gv (l:List UInt8) (hl:l.length<=1000000) (w:World) :
 Calls Tryz.prog 243 #[.string (str l),.string ⟨#[46]⟩,.int .i64 0,.int .i64 (-1)] w fun e w'=>∃ v,e=.returned v/\CW w.heap.size w' v (Ho.split l)/\Below w.heap.size w w':=by
 have hsz:=AZ l
 have A:=fun W=>Fe (str l) 46 W
 have h:(str l).data.toList=l:=rfl
 rw [h] at A
 have T:=Ho.IV l
 have zv:l.count 46<=l.length:=List.count_le_length
 have P:=List.length_pos_iff.2 (Ho.BH l)
 have I:=zH (fun k=>Ho.LQ (l:=l) (k:=k))
 have J:=zH (fun k=>Ho.LS (l:=l) (k:=k))
 have zr:=zH (fun k=>Nat.le_trans (Ho.KL l k) hl)
 have ze:=zH (show str l=str (Ho.rest l 0) from rfl)
 obtain⟨b,zk⟩:∃ b,Ho.split l=b:=⟨_,rfl⟩
 rw [zk] at P I J T ⊢
 obtain⟨N,Z⟩:∃ N,b.length=N:=⟨_,rfl⟩
 rw [Z] at P I J T
 have U:=zH Z
 have zg:Lib.countByte l 46=N - 1:=by unfold Lib.countByte;omega
 rw [zg] at A
 have zb:=zH A
 have i0:((N - 1:Nat):Int)=(N:Int) - 1:=by omega
 have i1:(N:Int)<=(l.length:Int)+1:=by omega
 have i2:0<=(N:Int) - 1:=by omega
 have zu:N<=1000001:=by omega
 obtain⟨sv,zn⟩:∃ sv,str l=sv:=⟨_,rfl⟩
 rw [zn] at hsz zb ze ⊢
 clear A h T zv zk Z zg zn
 go_in
 go_wp2_with fail
 refine (zb.out _).mono ?_;rintro e q ⟨rfl,rfl⟩
 rw [i0]
 have zq:min (N:Int) ((l.length:Int)+1)=(N:Int):=by omega
 obtain⟨w2,zc,hO,hB⟩:=Cq N zu q
 obtain⟨g,H⟩:∃ g,q.heap.size=g:=⟨_,rfl⟩
 rw [H] at zc hO
 have HG:=zH H
 have zm:VL l b N g q.heap.size q (.string sv) (.int .i64 0) w2:=⟨0,P,rfl,by rw [ze.out],by rw [H];simpa using hO,hB⟩
 have zt:=zH zm
 clear zm hO H
 go_wp2_with fail
 clear zc zq
 go_loopw [0,10] (fun s i wr=>VL l b N g q.heap.size q s i wr) (fun _ i _=>N - (intOf i).toNat)
 case atStart=>exact zt.out
 case round =>
  obtain⟨k,hk,rfl,rfl,u,zf⟩:=hrel
  have k0:(0:Int)<=(k:Int):=by omega
  have zx:=u.free k
  have zz:(k:Int) < (N:Int):=by omega
  have zy:g < wr.heap.size:=(u.lt g rfl).2
  have zp:wr.cell? (g k)=some (tv ((b.take k ++ List.replicate (N - k) [])[k]?.getD [])):=by
   obtain⟨a,c,e,hs⟩:=u.sl
   have h1:(b.take k ++ List.replicate (N - k) ([]:List UInt8)).length=N:=by rw [List.length_append,List.length_take,List.length_replicate,U.out];omega
   rw [h1] at e hs
   cases e
   obtain⟨_,_,e5,_,_,hc⟩:=hs.at hk
   cases e5
   rw [Nat.zero_add] at hc;exact hc
  obtain⟨zo,K⟩:∃ zo,tv ((b.take k ++ List.replicate (N - k) [])[k]?.getD [])=zo:=⟨_,rfl⟩
  rw [K] at zp
  have zw:=zr.out k
  have M:=AZ (Ho.rest l k)
  have hcut:=EL (Ho.rest l k)
  have f:=fun W=>Nv (str (Ho.rest l k)) 46 W
  have h:(str (Ho.rest l k)).data.toList=Ho.rest l k:=rfl
  rw [h] at f
  have C:=zH (show ∀ p,b[k]?.getD []=p->(b.take k ++ List.replicate (N - k) []).set k p=b.take (k+1) ++ List.replicate (N - (k+1)) [] by
   intro p o
   have zi:k < b.length:=by rw [U.out];exact hk
   rw [List.getElem?_eq_getElem zi] at o
   simp only [Option.getD_some] at o
   rw [List.set_append_right _ _ (by rw [List.length_take];omega),List.length_take,Nat.min_eq_left (by omega),Nat.sub_self]
   obtain⟨m,hm⟩:∃ m,N - k=m+1:=⟨N - k - 1,by omega⟩
   rw [hm,List.replicate_succ,List.set_cons_zero,show N - (k+1)=m by omega,<-List.take_append_getElem zi,o,List.append_assoc];rfl)
  by_cases zh:k+1 < N
  ·obtain⟨j,y,G,X,Y⟩:=J.out k zh
   obtain⟨r,hr⟩:∃ r,Ho.rest l k=r:=⟨_,rfl⟩
   rw [hr] at y G X Y hcut M f zw ⊢
   rw [y] at f
   have zd:=zH f
   have F:=hcut 0 j
   have Q:=hcut (j+1) r.length
   rw [List.drop_zero] at F
   rw [List.take_length,<-Y] at Q
   have t:=zH (C.out _ X)
   obtain⟨p,o⟩:∃ p,r.take j=p:=⟨_,rfl⟩
   rw [o] at F t
   have d:=u.set k p
   rw [tv] at d
   obtain⟨s2,R⟩:∃ s2,str (Ho.rest l (k+1))=s2:=⟨_,rfl⟩
   obtain⟨s1,zl⟩:∃ s1,str p=s1:=⟨_,rfl⟩
   obtain⟨z,x⟩:∃ z,str r=z:=⟨_,rfl⟩
   rw [R] at Q
   rw [zl] at F d
   rw [x] at F Q M zd ⊢
   have zs:=zH R
   have B:=zH d
   have t0:(0:Int)<=(j:Int):=by omega
   have t1:(j:Int)<=(r.length:Int):=by omega
   have t2:(j:Int)+1<=(r.length:Int):=by omega
   have t3:((j:Int)+1).toNat=j+1:=by omega
   have t4:(k:Int) < (N:Int) - 1:=by omega
   have O:=zH (fun v=>zf.setCell (p:=(g k)) (by rw [HG.out];exact zN _) v)
   clear f hcut hr zl R x y X Y h o K d C
   go_wp2_with (go_at_call 237;go_must (refine (zd.out _).mono ?_);rintro e W1 ⟨rfl,rfl⟩)
   exact⟨⟨k+1,zh,by go_num,by rw [zs.out],by rw [<-t.out];exact B.out,O.out _⟩,by simp [intOf];omega⟩
  ·obtain⟨y,G⟩:=I.out k (by omega)
   have t:=zH (C.out _ G)
   have zj:k+1=N:=by omega
   have za:b.take (k+1) ++ List.replicate (N - (k+1)) []=b:=by
    rw [zj,Nat.sub_self,List.take_of_length_le (by rw [U.out];exact zN _)];simp
   have d:=u.set k (Ho.rest l k)
   rw [t.out,za,tv] at d
   have B:=zH d
   have t4:¬ (k:Int) < (N:Int) - 1:=by omega
   have t5:((k:Int)+1).toNat=N:=by omega
   have t6:(k:Int)+1<=(N:Int):=by omega
   have t7:(0:Int)<=(k:Int)+1:=by omega
   have O:=zH (fun v=>zf.setCell (p:=(g k)) (by rw [HG.out];exact zN _) v)
   obtain⟨z,x⟩:∃ z,str (Ho.rest l k)=z:=⟨_,rfl⟩
   rw [x] at B ⊢
   clear f hcut M y G zj za d C t x K h
   go_wp2_with fail
   go_ret
   exact⟨_,rfl,B.out,O.out _⟩
theorem Ff (l:List UInt8) (i:l.length<=1000000) (w:World) :
 Calls Tryz.prog 233 #[.string (str l),.string ⟨#[46]⟩] w fun e d=>∃ v,e=.returned v/\CW w.heap.size d v (Ho.split l)/\Below w.heap.size w d:=by
 have b:=zH (Gv l i w)
 obtain⟨sv,a⟩:∃ sv,str l=sv:=⟨_,rfl⟩
 rw [a] at b ⊢
 clear a
 go_in
 go_wp2_with fail
 refine b.out.mono ?_;rintro e j ⟨v,rfl,h,f⟩
 go_wp2_with fail
 go_ret
 exact⟨v,rfl,h,f⟩
end
end Go.Proofs.YtmanejniepghlaaGreatDoor
