import Derived.Test.YtmanejniepghlaaGreatDoorRun1
import Derived.Test.YtmanejniepghlaaGreatDoorRun27
import Derived.Shelf.Abstract
import Derived.Shelf.RegionOpen
import Derived.WalkKit
import Derived.OwnWalkIn
import Derived.TacticsInMore
import Derived.LoopNIn
import Derived.LoopIn
import Derived.Test.YtmanejniepghlaaGreatDoorRun4
namespace Go.Proofs.YtmanejniepghlaaGreatDoor
section
open Go.RowKit Go.Shelf
variable {F:Nat->Prop} {w:World} {fc fn g m s:Nat} {fa:Option Addr} {d:Disk.Dk}
attribute [local go_sem] Oper.semAt_some
theorem zd_w (f c:Int) (hc:-9223372036854775808<=c/\c<=9223372036854775807) (w:World):Calls Tryz.prog 110 #[.agg #[f,c]] w fun e w'=>e=.returned (.int .i64 (Extent.size c))/\Below w.heap.size w w':=by
 have hb:=(Below.refl _ w).alloc (zN _) (.cells #[f,c] 23)
 obtain⟨h1,h2⟩:=hc
 unfold Extent.size
 by_cases h:c < 0
 ·rw [if_pos (.inl h)]
  go_enter Tryz.func110,Tryz.ntmps110
  go_wp2
  go_ret
  exact⟨rfl,hb⟩
 by_cases h':4096 < c
 ·rw [if_pos (.inr h')]
  go_enter Tryz.func110,Tryz.ntmps110
  go_wp2
  go_ret
  exact⟨rfl,hb⟩
 ·rw [if_neg (by omega)]
  go_enter Tryz.func110,Tryz.ntmps110
  go_wp2
  go_ret
  exact⟨rfl,hb⟩
def ib (z:Int):Prop:=-9223372036854775808<=z/\z<=9223372036854775807
theorem zi_a (p:Value) (n:Nat) (hn:n<=4096) (f c:Int) (w:World) (HS:∀ w1:World,Below w.heap.size w w1->Calls Tryz.prog 45 #[p] w1 fun e w'=>e=.returned (n:Value)/\w1=w') :
 Calls Tryz.prog 182 #[p,.agg #[f,c]] w fun e w'=>e=.returned (.bool (Extent.valid n f c))/\Below w.heap.size w w':=by
 have hb:=(Below.refl _ w).alloc (zN _) (.cells #[f,c] 23)
 have HC:=zH (HS _ hb)
 obtain⟨r,hr⟩:∃ r,r=Extent.valid n f c:=⟨_,rfl⟩
 rw [<-hr]
 unfold Extent.valid at hr
 clear HS
 by_cases h1:0<=f
 ·by_cases h2:1<=c
  ·by_cases h3:c<=(n:Int)
   ·have hr2:r=decide (f<=(n:Int) - c):=by rw [hr,decide_eq_true h1,decide_eq_true h2,decide_eq_true h3];rfl
    have HR:=zH hr2
    clear hr hr2
    by_cases h4:f<=(n:Int) - c
    all_goals
     go_enter Tryz.func182,Tryz.ntmps182
     go_wp2_with (go_at_call 45;refine HC.out.mono ?_;rintro e w1 ⟨rfl,rfl⟩)
     go_ret
     exact⟨by rw [HR.out];simp [h4],hb⟩
   ·have hr2:r=false:=by rw [hr,decide_eq_true h1,decide_eq_true h2,decide_eq_false h3];rfl
    have ht:decide (c<=(n:Int))=false:=decide_eq_false h3
    subst hr2;clear hr
    go_enter Tryz.func182,Tryz.ntmps182
    go_wp2_with (go_at_call 45;refine HC.out.mono ?_;rintro e w1 ⟨rfl,rfl⟩)
    go_ret
    exact⟨rfl,hb⟩
  ·have hr2:r=false:=by rw [hr,decide_eq_true h1,decide_eq_false h2];rfl
   have ht:decide (1<=c)=false:=decide_eq_false h2
   subst hr2;clear hr
   go_enter Tryz.func182,Tryz.ntmps182
   go_wp2_with (go_at_call 45;refine HC.out.mono ?_;rintro e w1 ⟨rfl,rfl⟩)
   go_ret
   exact⟨rfl,hb⟩
 ·have hr2:r=false:=by rw [hr,decide_eq_false h1];rfl
  have ht:decide (0<=f)=false:=decide_eq_false h1
  subst hr2;clear hr
  go_enter Tryz.func182,Tryz.ntmps182
  go_wp2_with (go_at_call 45;refine HC.out.mono ?_;rintro e w1 ⟨rfl,rfl⟩)
  go_ret
  exact⟨rfl,hb⟩
theorem zp_n (h:PD F w g s m fa fn fc d) (f c:Int) :
 Calls Tryz.prog 182 #[.pointer g,.agg #[f,c]] w fun e w'=>e=.returned (.bool (Extent.valid d.st.length f c))/\Below w.heap.size w w' :=
 zi_a _ _ h.ok.max f c w (fun _ hW=>zc_q (h.ext hW))
set_option maxHeartbeats 1000000 in
theorem zk_x (h:PD F w g s m fa fn fc d) (f c off len:Int) (hc:ib c) (ho:ib off) (hl:ib len) :
 Calls Tryz.prog 154 #[.pointer g,.agg #[f,c],off,len] w fun e w'=>e=.returned (.int .i64 (Extent.check d.st.length f c off len))/\Below w.heap.size w w':=by
 have hb:=(Below.refl _ w).alloc (zN _) (.cells #[f,c] 23)
 have hV:=zH (zp_n (h.alloc (.cells #[f,c] 23)) f c)
 have hS:=zH (zd_w f c hc)
 obtain⟨r,hr⟩:∃ r,r=Extent.check d.st.length f c off len:=⟨_,rfl⟩
 rw [<-hr]
 unfold Extent.check at hr
 obtain⟨ho1,ho2⟩:=ho
 obtain⟨hl1,hl2⟩:=hl
 have hsz:0<=Extent.size c/\Extent.size c<=262144:=by unfold Extent.size;split <;> omega
 generalize Extent.valid d.st.length f c=v at *
 generalize Extent.size c=sz at *
 obtain⟨hs0,hs1⟩:=hsz
 cases v with
|false =>
  rw [if_neg (by decide)] at hr
  have HR:=zH hr;clear hr
  go_enter Tryz.func154,Tryz.ntmps154
  go_wp2_with (go_at_call 182;refine hV.out.mono ?_;rintro e w1 ⟨rfl,hb1⟩)
  go_ret
  exact⟨by rw [HR.out];rfl,hb.trans (Below.mono hb1 (by simp))⟩
|true =>
  rw [if_pos rfl] at hr
  have hkeep:∀ W:World,Below (w.heap.size+1) (w.alloc (.cells #[f,c] 23)) W->W.cell? w.heap.size=some (f:Value)/\W.cell? (w.heap.size 1)=some (c:Value)/\Below w.heap.size w W/\w.heap.size+1<=W.heap.size:=by
   intro W hW
   refine⟨(hW.cell (p:=w.heap.size) (by simp)).trans ?_,(hW.cell (p:=(w.heap.size 1)) (by simp)).trans ?_,hb.trans (hW.mono (by omega)),by have:=hW.size;simpa using this⟩
   ·rw [World.cell?_alloc_at _ _ _ _ rfl];rfl
   ·rw [World.cell?_alloc_at _ _ _ _ rfl];rfl
  have HK:=zH hkeep
  clear hkeep
  have hz:(w.alloc (.cells #[f,c] 23)).heap.size=w.heap.size+1:=by simp
  have HZ:=zH hz
  clear hz
  by_cases h1:off < 0
  ·rw [if_pos (.inl h1)] at hr
   have HR:=zH hr;clear hr
   go_enter Tryz.func154,Tryz.ntmps154
   go_wp2_with (go_at_call 182;refine hV.out.mono ?_;rintro e w1 ⟨rfl,hb1⟩;rw [HZ.out] at hb1;obtain⟨x0,x1,hb2,hz2⟩:=HK.out _ hb1)
   go_ret
   exact⟨by rw [HR.out];rfl,hb2⟩
  by_cases h2:len < 0
  ·rw [if_pos (.inr (.inl h2))] at hr
   have HR:=zH hr;clear hr
   have t1:decide (off < 0)=false:=decide_eq_false h1
   go_enter Tryz.func154,Tryz.ntmps154
   go_wp2_with (go_at_call 182;refine hV.out.mono ?_;rintro e w1 ⟨rfl,hb1⟩;rw [HZ.out] at hb1;obtain⟨x0,x1,hb2,hz2⟩:=HK.out _ hb1)
   go_ret
   exact⟨by rw [HR.out];rfl,hb2⟩
  have t1:decide (off < 0)=false:=decide_eq_false h1
  have t2:decide (len < 0)=false:=decide_eq_false h2
  have b1:0<=off:=by omega
  have b2:0<=len:=by omega
  by_cases h3:sz < off
  ·rw [if_pos (.inr (.inr (.inl h3)))] at hr
   have HR:=zH hr;clear hr
   go_enter Tryz.func154,Tryz.ntmps154
   go_wp2_with (first|(go_at_call 182;refine hV.out.mono ?_;rintro e w1 ⟨rfl,hb1⟩;rw [HZ.out] at hb1;obtain⟨x0,x1,hb2,hz2⟩:=HK.out _ hb1)|(go_at_call 110;refine (hS.out _).mono ?_;rintro e w3 ⟨rfl,hb3⟩;have hb4:=hb1.trans (Below.mono hb3 hz2);obtain⟨y0,y1,hb5,hz5⟩:=HK.out _ hb4))
   go_ret
   exact⟨by rw [HR.out];rfl,hb5⟩
  have t3:decide (sz < off)=false:=decide_eq_false h3
  have b3:0<=sz - off:=by omega
  by_cases h4:sz - off < len
  case' pos=>rw [if_pos (.inr (.inr (.inr h4)))] at hr
  case' neg=>rw [if_neg (by omega)] at hr
  all_goals
   have HR:=zH hr;clear hr
   go_enter Tryz.func154,Tryz.ntmps154
   go_wp2_with fail
   refine hV.out.mono ?_;rintro e w1 ⟨rfl,hb1⟩;rw [HZ.out] at hb1;obtain⟨x0,x1,hb2,hz2⟩:=HK.out _ hb1
   go_wp2_with fail
   refine (hS.out _).mono ?_;rintro e w3 ⟨rfl,hb3⟩;have hb4:=hb1.trans (Below.mono hb3 hz2);obtain⟨y0,y1,hb5,hz5⟩:=HK.out _ hb4
   go_wp2_with fail
   refine (hS.out _).mono ?_;rintro e w6 ⟨rfl,hb6⟩;have hb7:=hb4.trans (Below.mono hb6 hz5);obtain⟨z0,z1,hb8,hz8⟩:=HK.out _ hb7
   go_wp2_with fail
   go_ret
   exact⟨by rw [HR.out];rfl,hb8⟩
def exEnc (first off e:Nat) (k:Nat):Array Value :=
 #[.agg #[.int .i64 ((first:Int)+(Extent.pos off e k:Int) / 64),.int .i64 ((Extent.pos off e k:Int) % 64),.int .i64 ((Extent.pos off e k:Int) % 64+(Extent.step e (Extent.pos off e k):Int))]]
def KpE (bo bn be:Nat) (A B:World):Prop:=B.heap[bo]?=A.heap[bo]?/\B.heap[bn]?=A.heap[bn]?/\B.heap[be]?=A.heap[be]?
theorem zr_w {bo bn be:Nat} {A B C:World} (h:KpE bo bn be A B) (k:KpE bo bn be B C):KpE bo bn be A C:=⟨k.1.trans h.1,k.2.1.trans h.2.1,k.2.2.trans h.2.2⟩
theorem zf_b (F:Fence) (n:Nat) (h6:F.fn 155) (hro:F.round=none) (f c off len:Int) (w:World) :
 CallsIn F n Tryz.prog 155 #[.agg #[f,c],off,len] w fun e w'=>e=.returned (.func (.func 183) #[] #[.pointer (w.heap.size+1:Nat),.pointer (w.heap.size+2:Nat),.pointer w.heap.size]) ∧
  w'=((w.alloc (.cells #[f,c] 23)).alloc (.cells #[off] 3)).alloc (.cells #[len] 3):=by
 refine callsIn_of_wp Tryz.func155 rfl h6 ?_ hro
 simp only [Tryz.ntmps155,List.size_toArray,List.length_cons,List.length_nil,Nat.reduceAdd,Nat.reduceSub,Array.replicate_succ,Array.replicate_zero,List.push_toArray,List.append_toArray,List.nil_append,List.cons_append]
 gi_wp2
 go_ret
 exact⟨rfl,rfl⟩
set_option maxRecDepth 100000 in
set_option maxHeartbeats 2000000 in
theorem zr_e (F:Fence) (n:Nat) (h8:F.fn 183) (hro:F.round=none) (hn:1<=n) (bo bn be:Nat) (first off len:Nat) (c:Int) (hf:first<=5000) (ho:off+len<=1000000) (w:World)
 (b1:bo < w.heap.size) (b2:bn < w.heap.size) (b3:be < w.heap.size)
 (x1:w.cell? bo=some (off:Value)) (x2:w.cell? bn=some (len:Value)) (x3:w.cell? be=some (first:Value)) (_x4:w.cell? (be 1)=some (c:Value)) :
 SeqIx F n Tryz.prog 183 #[.pointer bo,.pointer bn,.pointer be] (exEnc first off (off+len)) (KpE bo bn be) (Extent.cnt off (off+len)) w:=by
 intro l J Jx W hW hY hJ
 have y1:W.cell? bo=_:=(hW.cell (p:=bo) b1).trans x1
 have y2:W.cell? bn=_:=(hW.cell (p:=bn) b2).trans x2
 have y3:W.cell? be=_:=(hW.cell (p:=be) b3).trans x3
 have HC:=zH (show ∀ W',KpE bo bn be W W'->W'.cell? bo=some (off:Value)/\W'.cell? bn=some (len:Value)/\W'.cell? be=some (first:Value) from
  fun W' hk=>⟨(World.cell?_of_block (a:=bo) hk.1).trans y1,(World.cell?_of_block (a:=bn) hk.2.1).trans y2,(World.cell?_of_block (a:=be) hk.2.2).trans y3⟩)
 obtain⟨N,hN⟩:∃ N,N=Extent.cnt off (off+len):=⟨_,rfl⟩
 have HN:=zH hN
 rw [<-hN] at hY ⊢
 have HY:=zH hY
 have h00:=Extent.pos_zero off (off+len)
 have H00:=zH h00
 have HJ:=zH hJ
 clear x1 x2 x3 _x4 y2 y3 hN hY h00 hJ
 refine callsIn_of_wp Tryz.func183 rfl h8 ?_ hro
 simp only [Tryz.ntmps183,List.size_toArray,List.length_cons,List.length_nil,Nat.reduceAdd,Nat.reduceSub,Array.replicate_succ,Array.replicate_zero,List.push_toArray,List.append_toArray,List.nil_append,List.cons_append]
 gi_wp2
 gi_loopw [5] (fun i wr=>∃ k:Nat,k<=N/\i=.int .i64 ((Extent.pos off (off+len) k:Nat):Int)/\J k wr/\KpE bo bn be W wr) (fun i _=>off+len - (intOf i).toNat)
 case atStart=>exact⟨0,Nat.zero_le _,by rw [H00.out],HJ.out,rfl,rfl,rfl⟩
 case round =>
  obtain⟨k,hk,rfl,hJs,hnx⟩:=hrel
  obtain⟨z1,z2,z3⟩:=HC.out _ hnx
  have hlt:=Extent.pos_lt off (off+len) k (by omega)
  have hle:=Extent.pos_le off (off+len) k (by omega)
  have hsucc:=Extent.pos_succ off (off+len) k
  have hstep:=@Extent.step_pos (off+len) (Extent.pos off (off+len) k)
  rw [<-HN.out] at hlt hsucc
  have hstepd:Extent.step (off+len) (Extent.pos off (off+len) k)=min (64 - Extent.pos off (off+len) k % 64) (off+len - Extent.pos off (off+len) k):=rfl
  have HYk:=zH (HY.out k wr hJs)
  unfold exEnc at HYk
  generalize Extent.pos off (off+len) k=p at *
  generalize Extent.step (off+len) p=st at *
  have HSU:=zH hsucc
  clear hsucc
  by_cases hpk:k < N
  ·have hp:=hlt.2 hpk
   obtain⟨s1,s2,s3,s4⟩:=hstep hp
   obtain⟨fn,tmps,assign,body,hy,hR⟩:=HYk.out hpk
   have hmin:(if (p:Int) % 64+(off:Int)+(len:Int) - (p:Int) < 64 then (p:Int) % 64+(off:Int)+(len:Int) - (p:Int) else 64)=(p:Int) % 64+(st:Int):=by omega
   clear hlt hstep hstepd
   have hpi:(p:Int) < (off:Int)+(len:Int):=by omega
   gi_wp2
   refine hR.mono ?_
   rintro e W3 (⟨rfl,hJ3,hk3⟩|⟨rfl,hJx3⟩)
   ·gi_wp2
    go_roundw
    case rel=>exact⟨k+1,by omega,by rw [HSU.out hpk];go_num,hJ3,zr_w hnx hk3⟩
    case measure=>simp [intOf];omega
   ·gi_wp2
    refine bodyPost_ret (results_none rfl _ _ _) rfl ?_
    exact⟨⟨_,rfl⟩,.inr ⟨k+1,by omega,hJx3⟩⟩
  ·have hp:¬ p < off+len:=fun e=>hpk (hlt.1 e)
   obtain rfl:k=N:=by omega
   clear hlt hstep hstepd
   have hpi:¬ (p:Int) < (off:Int)+(len:Int):=by omega
   gi_wp2
   go_end0
   exact⟨⟨_,rfl⟩,.inl hJs⟩
end
section
open Go.RowKit Go.Shelf
variable {W W' w:World} {B N X b base e f0 fc first fn g k m n o0 off r s:Nat} {F F':Nat->Prop} {d d':Disk.Dk} {fa:Option Addr} {v:Value} {c f:Int} {o o':Obj} {t:TypeId} {acc l:List UInt8} {R:List UInt8 × Int × Disk.Dk} {cs:Array Value} {fr:Nat × Nat}
attribute [local go_sem] Oper.semAt_some
def ExReadPost (F:Nat->Prop) (w:World) (g s m:Nat) (fa:Option Addr) (fn fc:Nat) (r:List UInt8 × Int × Disk.Dk) (e:Ending) (w':World):Prop :=
 ∃ v,e=.returned (.tuple #[v,r.2.1])/\OwnB w.heap.size w' v r.1/\PD F w' g s m fa fn fc r.2.2/\Upd F w F w'
theorem za_j (h:Boxed W B t v) (e:Below W.heap.size W W'):Boxed W' B t v:=(e.block _ h.lt).trans h
theorem za_e (h:Boxed W B t v) (e:W'.heap[B]?=W.heap[B]?):Boxed W' B t v:=e.trans h
structure ExArgs (W:World) (b g:Nat) (f c:Int):Prop where
 ptr:Boxed W b 37 (.pointer g)
 ext:W.heap[b+1]?=some (.cells #[f,c] 23 (0,0))
theorem ExArgs.cells (h:ExArgs W b g f c):W.cell? b=some (.pointer g)/\W.cell? (b+1:Nat)=some (f:Value)/\W.cell? ((b+1) 1)=some (c:Value) :=
 ⟨h.ptr.cell,by rw [cell_of_row _ _ _ _ _ _ h.ext];rfl,by rw [cell_of_row _ _ _ _ _ _ h.ext];rfl⟩
theorem ExArgs.stay (h:ExArgs W b g f c) (e0:W'.heap[b]?=W.heap[b]?) (e1:W'.heap[b+1]?=W.heap[b+1]?):ExArgs W' b g f c:=⟨za_e h.ptr e0,e1.trans h.ext⟩
theorem ExArgs.ext' (h:ExArgs W b g f c) (e:Below W.heap.size W W'):ExArgs W' b g f c:=h.stay (e.block _ h.ptr.lt) (e.block _ (za_a h.ext))
def exT (b g f0:Nat) (c:Int) (o0 n0 X:Nat) (av:Option Addr) (cv:Nat) (x12 x29:Value):Array Value:=#[Value.pointer g,Value.agg #[f0,c],(o0:Value),(n0:Value),Value.pointer b,Value.pointer (b+1:Nat),undef,undef,Value.pointer (b+1+1:Nat),Value.pointer (b+1+1+1:Nat),Value.int IntKind.i64 0,Value.pointer X,x12,undef,undef,Value.pointer g,Value.agg #[f0,c],(o0:Value),(n0:Value),Value.int IntKind.i64 0,Value.int IntKind.i64 0,Value.bool false,undef,(n0:Value),Value.slice av 0 cv,Value.agg #[f0,c],(o0:Value),(n0:Value),Value.func (Fn.func 183) #[] #[Value.pointer (X+1+1:Nat),Value.pointer (X+1+2:Nat),Value.pointer (X+1:Nat)],x29,undef,undef,undef,undef,undef,undef,undef,undef,undef,undef,undef,undef,undef,undef,undef,undef,undef,undef,undef]
structure RdI (F:Nat->Prop) (w:World) (g s m:Nat) (fa:Option Addr) (fn fc:Nat) (f0:Nat) (c:Int) (o0 e N:Nat) (X:Nat) (n:Nat) (R:List UInt8 × Int × Disk.Dk) (k:Nat) (W:World):Prop where
 acc:∃ acc d' v,Hid (R=Extent.rd f0 o0 e (N - k) k acc d')/\PD F W g s m fa fn fc d'/\d'.st.length=n/\Boxed W X 70 v/\OwnB (w.heap.size+4) W v acc/\acc.length<=64 * k
 upd:Upd F w F W
 big:X+4<=W.heap.size
 itr:W.heap[X+1]?=some (.cells #[f0,c] 23 (0,0))/\(∃ z,Boxed W (X+1+1) 3 z)/\∃ z,Boxed W (X+1+2) 3 z
 args:ExArgs W w.heap.size g (f0:Int) c
 res:Boxed W (w.heap.size+1+1) 70 (.slice none 0 0)
 err:Boxed W (w.heap.size+1+1+1) 27 (.int .i64 0)
def RdX (F:Nat->Prop) (w:World) (g s m:Nat) (fa:Option Addr) (fn fc:Nat) (R:List UInt8 × Int × Disk.Dk) (cd:Code) (_k:Nat) (W:World):Prop :=
 cd=.ret/\∃ z d',Hid (R=([],z,d'))/\PD F W g s m fa fn fc d'/\Upd F w F W/\Boxed W (w.heap.size+1+1) 70 (.slice none 0 0)/\Boxed W (w.heap.size+1+1+1) 27 (z:Value)
theorem Extent.rd_err {b:List UInt8} {z:Int} (hr:Disk.read d ((first+Extent.pos off e k / 64:Nat):Int)=(b,z,d')) (hz:¬ z=0):Extent.rd first off e (m+1) k acc d=([],z,d'):=by
 rw [Extent.rd,hr];exact if_neg hz
theorem Extent.rd_ok {b:List UInt8} (hr:Disk.read d ((first+Extent.pos off e k / 64:Nat):Int)=(b,0,d')) :
 Extent.rd first off e (m+1) k acc d=Extent.rd first off e m (k+1) (acc ++ (b.drop (Extent.pos off e k % 64)).take (Extent.step e (Extent.pos off e k))) d':=by
 rw [Extent.rd,hr];exact if_pos rfl
theorem Disk.read_st (d:Disk.Dk) (i:Int):(Disk.read d i).2.2.st=d.st/\(Disk.read d i).2.2.ca=d.ca:=by
 rcases hb:Disk.begin d (Disk.fits d i) with⟨b,e,d'⟩
 have h:=Disk.begin_st d (Disk.fits d i)
 rw [hb] at h
 cases b
 ·by_cases he:e=0
  ·subst he;rw [zo_g hb];exact h
  ·rw [zh_e hb he];exact h
 ·rw [zl_e hb];exact h
theorem Disk.begin_ok {b t:Bool} (h:Disk.begin d b=(t,0,d')):b=true:=by
 unfold Disk.begin at h
 split at h
 ·injection h with _ h;injection h with h _;cases h
 ·split at h
  ·assumption
  ·injection h with _ h;injection h with h _;cases h
theorem Disk.read_len (h:d.Ok) {i:Int} {b:List UInt8} (hr:Disk.read d i=(b,0,d')):b.length=64:=by
 unfold Disk.read at hr
 rcases hb:Disk.begin d (Disk.fits d i) with⟨t,e,d1⟩
 rw [hb] at hr
 cases t
 ·have hr:(if e=0 then (Disk.content d i.toNat,0,d1) else ([],e,d1):List UInt8 × Int × Disk.Dk)=(b,0,d'):=hr
  by_cases he:e=0
  ·rw [if_pos he] at hr
   injection hr with h1 _
   rw [he] at hb
   have:=Disk.begin_ok hb
   unfold Disk.fits at this
   simp at this
   rw [<-h1];exact Disk.content64 h _ (by omega)
  ·rw [if_neg he] at hr;injection hr with _ h2;injection h2 with h2 _;exact absurd h2 he
 ·injection hr with _ h2;injection h2 with h2 _;cases h2
theorem OwnB.cells (h:OwnB base W v l) (hk:v.ownBlock=some k):∃ cs,W.heap[k]?=some (.cells cs 5 (0,0)):=by
 rcases h.2 with⟨hv,_⟩|⟨g,cap,cur,hv,hb,hc,rest⟩
 ·rw [hv] at hk;cases hk
 ·rw [hv] at hk;cases hk;exact⟨_,hc⟩
theorem OwnB.not_cells (h:OwnB base W v l) (hk:W.heap[k]?=some (.cells cs t fr)) (ht:t ≠ 5):v.ownBlock ≠ some k:=fun e=>by
 obtain⟨cs',h'⟩:=h.cells e
 rw [hk] at h';injection h' with h';injection h' with _ h' _;exact ht h'
theorem Upd.keepsFrom (h:Upd F W F' W') (hF:∀ k,F k->k < B):KeepsFrom B W W' :=
 ⟨h.size,fun k o hk ho _=>(h.block k (za_a ho) (fun e=>by have:=hF k e;omega)).trans ho⟩
theorem za_q {l:Nat} (h:W.heap[b]?=some (.cells cs t fr)) (hl:W.heap[l]?=some o) (ho:o.isCells=false):b ≠ l:=by
 rintro rfl;rw [h] at hl;cases hl;cases ho
theorem zt_n {x:Addr} {c:Nat} (h:SlB W (some x) n c l) (hl0:l ≠ []) (hr:W.heap[r]?=some o) (ho:o.isCells=false):x.block ≠ r:=by
 have h1:=(h.2.2.2.2 x rfl 0 (List.length_pos_iff.2 hl0)).2.2
 obtain⟨o',ho',hc⟩:=cells_of_cell h1
 rintro rfl
 rw [hr] at ho';cases ho';rw [ho] at hc;cases hc
theorem OwnB.putO (h:OwnB base W v l) (hr:W.heap[r]?=some o) (ho:o.isCells=false):OwnB base (W.putObj r o') v l:=by
 refine⟨h.1,?_⟩
 rcases h.2 with hn|⟨g,cap,cur,rfl,hb,hgg,rest⟩
 ·exact .inl hn
 ·exact .inr ⟨g,cap,cur,rfl,hb,(World.putObj_heap_other (za_q hgg hr ho)).trans hgg,rest⟩
theorem PD.putO (h:PD F W g s m fa fn fc d) (hr:¬ F r) (o:Obj):PD F (W.putObj r o) g s m fa fn fc d :=
 h.stay (fun b hb=>World.putObj_heap_other (by rintro rfl;exact hr hb)) (by simp)
theorem Upd.putO (h:Upd F w F' W) (hr:F r\/w.heap.size<=r) (o:Obj):Upd F w F' (W.putObj r o) :=
 ⟨h.os,h.tape,h.output,by simpa using h.size,fun k hk hF=>(World.putObj_heap_other (by rintro rfl;rcases hr with e|e;exact hF e;omega)).trans (h.block k hk hF),h.new⟩
theorem RdI.putO (h:RdI F w g s m fa fn fc f0 c o0 e N X n R k W) (hF:∀ b,F b->b < w.heap.size) {l:Nat} (hl:w.heap.size<=l) (h1:W.heap[l]?=some o) (h2:o.isCells=false):RdI F w g s m fa fn fc f0 c o0 e N X n R k (W.putObj l o'):=by
 have hnF:¬ F l:=fun e=>by have:=hF l e;omega
 obtain⟨acc,d',v,q1,q2,q3,q4,q5,q6⟩:=h.acc
 exact⟨⟨acc,d',v,q1,q2.putO hnF _,q3,za_e q4 (World.putObj_heap_other (za_q q4 h1 h2)),q5.putO h1 h2,q6⟩,h.upd.putO (.inr hl) _,by simpa using h.big,⟨(World.putObj_heap_other (za_q h.itr.1 h1 h2)).trans h.itr.1,h.itr.2.1.imp fun z e=>za_e e (World.putObj_heap_other (za_q e h1 h2)),h.itr.2.2.imp fun z e=>za_e e (World.putObj_heap_other (za_q e h1 h2))⟩,h.args.stay (World.putObj_heap_other (za_q h.args.ptr h1 h2)) (World.putObj_heap_other (za_q h.args.ext h1 h2)),za_e h.res (World.putObj_heap_other (za_q h.res h1 h2)),za_e h.err (World.putObj_heap_other (za_q h.err h1 h2))⟩
theorem RdI.ext (h:RdI F w g s m fa fn fc f0 c o0 e N X n R k W) (hb:Below W.heap.size W W'):RdI F w g s m fa fn fc f0 c o0 e N X n R k W':=by
 obtain⟨acc,d',v,q1,q2,q3,q4,q5,q6⟩:=h.acc
 exact⟨⟨acc,d',v,q1,q2.ext hb,q3,za_j q4 hb,q5.ext hb,q6⟩,h.upd.ext hb,Nat.le_trans h.big hb.size,⟨(hb.block _ (za_a h.itr.1)).trans h.itr.1,h.itr.2.1.imp fun z e=>za_j e hb,h.itr.2.2.imp fun z e=>za_j e hb⟩,h.args.ext' hb,za_j h.res hb,za_j h.err hb⟩
theorem RdX.putO {cd:Code} (h:RdX F w g s m fa fn fc R cd k W) (hF:∀ b,F b->b < w.heap.size) {l:Nat} (hl:w.heap.size<=l) (h1:W.heap[l]?=some o) (h2:o.isCells=false):RdX F w g s m fa fn fc R cd k (W.putObj l o'):=by
 have hnF:¬ F l:=fun e=>by have:=hF l e;omega
 obtain⟨rfl,z,d',q1,q2,q3,q4,q5⟩:=h
 exact⟨rfl,z,d',q1,q2.putO hnF _,q3.putO (.inr hl) _,za_e q4 (World.putObj_heap_other (za_q q4 h1 h2)),za_e q5 (World.putObj_heap_other (za_q q5 h1 h2))⟩
set_option maxRecDepth 100000 in
set_option maxHeartbeats 2000000 in
theorem zl_t (h:PD F w g s m fa fn fc d) (f c off len:Int) (hf:ib f) (hc:ib c) (ho:ib off) (hl:ib len) :
 CallsIn Fence.wide 4 Tryz.prog 127 #[.pointer g,.agg #[f,c],off,len] w (ExReadPost F w g s m fa fn fc (Extent.read d f c off len)):=by
 obtain⟨W0,hW0⟩:∃ W0,W0=((((w.alloc (.cells #[.pointer g] 37)).alloc (.cells #[f,c] 23)).alloc (.cells #[.slice none 0 0] 70)).alloc (.cells #[.int .i64 0] 27)):=⟨_,rfl⟩
 have hB0:Below w.heap.size w W0:=by
  rw [hW0];exact (((((Below.refl _ w).alloc (zN _) _).alloc (by simp) _).alloc (by simp;omega) _).alloc (by simp;omega) _)
 have hz0:W0.heap.size=w.heap.size+4:=by rw [hW0];simp
 have hA0:ExArgs W0 w.heap.size g f c:=by
  rw [hW0]
  refine⟨?_,?_⟩
  ·exact ((((Boxed.new w _ _).alloc _).alloc _).alloc _)
  ·rw [za_c _ _ _ (by simp),za_c _ _ _ (by simp),za_b _ _ _ (by simp)]
 have hR0:Boxed W0 (w.heap.size+1+1) 70 (.slice none 0 0):=by
  rw [hW0];unfold Boxed;rw [za_c _ _ _ (by simp),za_b _ _ _ (by simp)]
 have hE0:Boxed W0 (w.heap.size+1+1+1) 27 (.int .i64 0):=by
  rw [hW0];unfold Boxed;rw [za_b _ _ _ (by simp)]
 have HW0:=zH hW0
 have HCK:=zH (zk_x (h.ext hB0) f c off len hc ho hl)
 have hP0:=h.ext hB0
 obtain⟨r,hr⟩:∃ r,r=Extent.read d f c off len:=⟨_,rfl⟩
 rw [<-hr]
 unfold Extent.read at hr
 clear hW0
 refine callsIn_of_wp_marks Tryz.func127 rfl trivial ?_ rfl
 simp only [Tryz.ntmps127,List.size_toArray,List.length_cons,List.length_nil,Nat.reduceAdd,Nat.reduceSub,Array.replicate_succ,Array.replicate_zero,List.push_toArray,List.append_toArray,List.nil_append,List.cons_append]
 refine wpIn_wide.2 ?_
 have hne:w.heap.size+1+1+1 ≠ w.heap.size+1+1:=by omega
 by_cases hck:Extent.check d.st.length f c off len=0
 ·rw [if_pos hck] at hr
  obtain⟨q1,q2,q3,q4,q5,q6,q7⟩:=Extent.check_ok hck
  have hszc:Extent.size c=c * 64:=by unfold Extent.size;rw [if_neg (by have:=h.ok.max;omega)]
  have hmx:=h.ok.max
  obtain⟨f0,rfl⟩:=Int.eq_ofNat_of_zero_le q1
  obtain⟨o0,rfl⟩:=Int.eq_ofNat_of_zero_le q5
  obtain⟨n0,rfl⟩:=Int.eq_ofNat_of_zero_le q6
  rw [hck] at HCK
  have HR:=zH hr
  rw [hszc] at q7
  have hon:o0+n0<=262144:=by omega
  have hf0:f0<=4096:=by omega
  clear hr hszc hck
  go_wp2_with fail
  rw [<-HW0.out]
  refine HCK.out.mono ?_;rintro e w1 ⟨rfl,hb1⟩
  have hP1:=hP0.ext hb1
  have hA1:=hA0.ext' hb1
  have hR1:=za_j hR0 hb1
  have hE1:=za_j hE0 hb1
  obtain⟨x0,x1,x2⟩:=hA1.cells
  have HX:=zH hA1.cells
  have hsz1:w.heap.size+4<=w1.heap.size:=by have:=hb1.size;omega
  go_wp2_with (first|((show wpList _ _ _ (Oper.mk (some 24) _ _ _ _ _ :: _) _ _);go_must (refine zh_r rfl _ _ rfl (w.heap.size+4) n0 _ rfl rfl rfl (by omega) (by omega) ?_);intro v2 w2 hO2 hb2;obtain⟨av,cv,rfl,-,-⟩:=id hO2.sl;rw [List.length_nil] at hO2 ⊢;obtain⟨y0,y1,y2⟩:=(hA1.ext' hb2).cells;have hz2:w.heap.size+4<=w2.heap.size:=(by have:=hb2.size;omega);have hlt1:w.heap.size+1 < w2.heap.size:=(by omega))|(go_at_call 155;refine (callsIn_wide.1 (zf_b Fence.wide 3 trivial rfl (f0:Int) c (o0:Int) (n0:Int) _)).mono ?_;rintro e w3 ⟨rfl,rfl⟩))
  have hb3:=((((Below.refl _ w2).alloc (zN _) (.cells #[.slice av 0 cv] 70)).alloc (by simp) (.cells #[f0,c] 23)).alloc (by simp;omega) (.cells #[o0] 3)).alloc (by simp;omega) (.cells #[n0] 3)
  have hX3:Boxed ((((w2.alloc (.cells #[.slice av 0 cv] 70)).alloc (.cells #[f0,c] 23)).alloc (.cells #[o0] 3)).alloc (.cells #[n0] 3)) w2.heap.size 70 (.slice av 0 cv):=(((Boxed.new w2 _ _).alloc _).alloc _).alloc _
  have hbo3:Boxed ((((w2.alloc (.cells #[.slice av 0 cv] 70)).alloc (.cells #[f0,c] 23)).alloc (.cells #[o0] 3)).alloc (.cells #[n0] 3)) (w2.heap.size+1+1) 3 (o0:Value):=by
   unfold Boxed;rw [za_c _ _ _ (by simp),za_b _ _ _ (by simp)]
  have hbn3:Boxed ((((w2.alloc (.cells #[.slice av 0 cv] 70)).alloc (.cells #[f0,c] 23)).alloc (.cells #[o0] 3)).alloc (.cells #[n0] 3)) (w2.heap.size+1+2) 3 (n0:Value):=by
   unfold Boxed;rw [za_b _ _ _ (by simp)]
  have hbe3:((((w2.alloc (.cells #[.slice av 0 cv] 70)).alloc (.cells #[f0,c] 23)).alloc (.cells #[o0] 3)).alloc (.cells #[n0] 3)).heap[w2.heap.size+1]?=some (.cells #[f0,c] 23 (0,0)):=by
   rw [za_c _ _ _ (by simp),za_c _ _ _ (by simp),za_b _ _ _ (by simp)]
  have hz3:((((w2.alloc (.cells #[.slice av 0 cv] 70)).alloc (.cells #[f0,c] 23)).alloc (.cells #[o0] 3)).alloc (.cells #[n0] 3)).heap.size=w2.heap.size+4:=by simp
  generalize (((w2.alloc (.cells #[.slice av 0 cv] 70)).alloc (.cells #[f0,c] 23)).alloc (.cells #[o0] 3)).alloc (.cells #[n0] 3)=w3 at *
  have hb13:=hb2.trans (hb3.mono hb2.size)
  have hP3:=hP1.ext hb13
  have hA3:=hA1.ext' hb13
  have hR3:=za_j hR1 hb13
  have hE3:=za_j hE1 hb13
  have hO3:=hO2.ext hb3
  have hU3:Upd F w F w3:=((Upd.of_ext hB0).ext hb1).ext hb13
  have hnF:∀ k,F k->k < w.heap.size:=h.lt
  obtain⟨N,hN⟩:∃ N,N=Extent.cnt o0 (o0+n0):=⟨_,rfl⟩
  have hrd:r=Extent.rd f0 o0 (o0+n0) (N - 0) 0 [] d:=by
   rw [HR.out,hN]
   have e1:((o0:Int)+(n0:Int)).toNat=o0+n0:=by omega
   rw [e1];rfl
  have HRD:=zH hrd
  have hseq:=zr_e Fence.wide 3 trivial rfl (by omega) (w2.heap.size+1+1) (w2.heap.size+1+2) (w2.heap.size+1) f0 o0 n0 c (by omega) (by omega) w3 (by omega) (by omega) (by omega) hbo3.cell hbn3.cell (by rw [cell_of_row _ _ _ _ _ _ hbe3];rfl) (by rw [cell_of_row _ _ _ _ _ _ hbe3];rfl)
  rw [<-hN] at hseq
  have HSEQ:=zH hseq
  have HN:=zH hN
  have hz3w:w.heap.size+8<=w3.heap.size:=by omega
  have hXw:w.heap.size+4<=w2.heap.size:=hz2
  clear HR hrd hseq hN HX x0 x1 x2 y0 y1 y2 hb2 hb3 hb13 hP1 hA1 hR1 hE1 hO2 hP0 hR0 hE0 hb1 hB0 hz0 hA0 HCK HW0 hlt1 hz2 hsz1
  generalize w2.heap.size=X at *
  refine (wpIn_wide (n:=4)).1 ?_
  refine ze_p (Kp:=KpE (X+1+1) (X+1+2) (X+1)) rfl (by omega) (gf:=183) (lb:=#[.pointer (X+1+1:Nat),.pointer (X+1+2:Nat),.pointer (X+1:Nat)]) rfl trivial (enters_of Tryz.func183 (by kernel_rfl) rfl) HSEQ.out zr_w
   (fun W l o o' hl h1 h2=>⟨World.putObj_heap_other (by omega),World.putObj_heap_other (by omega),World.putObj_heap_other (by omega)⟩) (Below.refl _ _) (fun _=>rfl)
   (RdI F w g s m fa fn fc f0 c o0 (o0+n0) N X d.st.length r) (RdX F w g s m fa fn fc r) (fun k W l o o' hI hl h1 h2=>hI.putO hnF (by omega) h1 h2) (fun cd k W l o o' hI hl h1 h2=>hI.putO hnF (by omega) h1 h2)
   ?h0 (fun k a1 W=>∃ pb,a1={ tmps:=exT w.heap.size g f0 c o0 n0 X av cv (.pointer (pb:Nat)) ((exEnc f0 o0 (o0+n0) k).getD 0 undef),defers:=[] }/\W.heap[pb]?=some (.cells #[.int .i64 ((f0:Int)+(Extent.pos o0 (o0+n0) k:Int) / 64),.int .i64 ((Extent.pos o0 (o0+n0) k:Int) % 64),.int .i64 ((Extent.pos o0 (o0+n0) k:Int) % 64+(Extent.step (o0+n0) (Extent.pos o0 (o0+n0) k):Int))] 194 (0,0))/\w3.heap.size<=pb/\RdI F w g s m fa fn fc f0 c o0 (o0+n0) N X d.st.length r k W)
   (fun a1 k W l o o' hI hl h1 h2=>by
    obtain⟨pb,e1,e2,e3,e4⟩:=hI
    exact⟨pb,e1,(World.putObj_heap_other (za_q e2 h1 h2)).trans e2,e3,e4.putO hnF (by omega) h1 h2⟩)
   ?assign ?body ?done ?stop
  case h0 =>
   intro o o'
   have hbe:=((Below.refl _ w3).alloc (zN _) o).alloc (by simp) o'
   exact⟨⟨[],d,_,HRD,hP3.ext hbe,rfl,za_j hX3 hbe,hO3.ext hbe,by simp⟩,hU3.ext hbe,by have:=hbe.size;omega,⟨(hbe.block _ (za_a hbe3)).trans hbe3,⟨_,za_j hbo3 hbe⟩,⟨_,za_j hbn3 hbe⟩⟩,hA3.ext' hbe,za_j hR3 hbe,za_j hE3 hbe⟩
  case assign =>
   intro l k W hI hk
   have hbk:=(Below.refl W.heap.size W).alloc (zN _) (.cells #[.int .i64 ((f0:Int)+(Extent.pos o0 (o0+n0) k:Int) / 64),.int .i64 ((Extent.pos o0 (o0+n0) k:Int) % 64),.int .i64 ((Extent.pos o0 (o0+n0) k:Int) % 64+(Extent.step (o0+n0) (Extent.pos o0 (o0+n0) k):Int))] 194)
   have HBK:=zH hbk
   clear hbk
   unfold exEnc
   gi_wp2
   have hbk:=HBK.out
   have hnc:∀ (k:Nat) (o:Obj) (v:Obj),W.heap[k]?=some o->(W.alloc v).heap[k]?=some o:=fun k o v hk=>(za_c _ _ _ (za_a hk)).trans hk
   refine⟨⟨hbk.size,fun k o _ hk _=>hnc k o _ hk⟩,⟨za_c _ _ _ (by have:=hI.big;omega),za_c _ _ _ (by have:=hI.big;omega),za_c _ _ _ (by have:=hI.big;omega)⟩,W.heap.size,rfl,za_b _ _ _ rfl,by have:=hI.big;omega,hI.ext hbk⟩
  case body =>
   rintro l k a1 W ⟨pb,rfl,hpb,hpl,hI⟩ hk
   obtain⟨acc,d1,v,HA,hP,hlen,hX,hO,hal⟩:=hI.acc
   have hpos:=(Extent.pos_lt o0 (o0+n0) k (by omega)).2 (by rw [<-HN.out];exact hk)
   obtain⟨hs1,hs2,hs3,hs4⟩:=Extent.step_pos hpos
   obtain⟨p,hp⟩:∃ p,p=Extent.pos o0 (o0+n0) k:=⟨_,rfl⟩
   obtain⟨t,ht⟩:∃ t,t=Extent.step (o0+n0) p:=⟨_,rfl⟩
   have HP:=zH hp
   have HT:=zH ht
   rw [<-hp] at hpos hs1 hs2 hs3 hs4 hpb
   rw [<-ht] at hs1 hs2 hs3 hs4 hpb
   obtain⟨iz,hiz⟩:∃ iz:Int,iz=((f0+p / 64:Nat):Int):=⟨_,rfl⟩
   obtain⟨q,hq⟩:∃ q,q=p % 64:=⟨_,rfl⟩
   obtain⟨u,hu⟩:∃ u,u=q+t:=⟨_,rfl⟩
   have hidx:((f0:Int)+(p:Int) / 64)=iz:=by omega
   have hmod:((p:Int) % 64)=(q:Int):=by omega
   have hmt:((q:Int)+(t:Int))=(u:Int):=by omega
   rw [hmod,hmt,hidx] at hpb
   have HQ:=zH hq
   have HU:=zH hu
   have HIZ:=zH hiz
   have hqu:q<=u/\u<=64/\q < 64:=by omega
   clear hq hu hiz
   clear hp ht
   obtain⟨x0,x1,x2⟩:=hI.args.cells
   have y0:=cell_of_row _ _ 0 _ _ _ hpb
   have y1:=cell_of_row _ _ 1 _ _ _ hpb
   have y2:=cell_of_row _ _ 2 _ _ _ hpb
   simp only [List.getElem?_toArray,List.getElem?_cons_zero,List.getElem?_cons_succ] at y0 y1 y2
   rcases hrd:Disk.read d1 iz with⟨bs,z,d2⟩
   have HPB:=zH hpb
   clear hpb hidx hmod hmt
   have HC:=zH ((callsIn_wide (n:=1)).2 (ze_d hP _ hrd))
   have HRD1:=zH hrd
   have hNk:N - k=(N - (k+1))+1:=by omega
   have HNK:=zH hNk
   clear hrd hNk
   have hbig:=hI.big
   have hk9:k<=5000:=by have:=HN.out;unfold Extent.cnt at this;split at this <;> omega
   by_cases hz:z=0
   ·subst hz
    have hw17:Fence.wide.fn 112:=trivial
    unfold exT
    gi_wp2_with (gi_at_call 112;go_must (refine (HC.out.inRound l).mono ?_);rintro e w4 ⟨v4,rfl,hO4,hP4,hU4⟩)
    have hbl:∀ q,w.heap.size<=q->q < W.heap.size->w4.heap[q]?=W.heap[q]?:=fun q h1 h2=>hU4.block q h2 (fun e=>by have:=hnF q e;omega)
    have hX4:=za_e hX (hbl X (by omega) (by omega))
    have hpb4:=(hbl pb (by omega) (za_a HPB.out)).trans HPB.out
    have z1:=cell_of_row _ _ 1 _ _ _ hpb4
    have z2:=cell_of_row _ _ 2 _ _ _ hpb4
    simp only [List.getElem?_toArray,List.getElem?_cons_zero,List.getElem?_cons_succ] at z1 z2
    have hO5:OwnB (w.heap.size+4) w4 v acc:=hO.upd hU4 (fun k hk e=>by have:=(hO.lt k hk).1;have:=hnF k e;omega)
    have h64:=Disk.read_len hP.ok HRD1.out
    obtain⟨bb,cc,rfl,hcc,hbb⟩:∃ bb cc,v4=.slice (bb:Nat) 64 cc/\64<=cc/\W.heap.size<=bb:=by
     rcases hO4.2 with⟨hv,hn⟩|⟨bb,cap,cur,hv,hb5,hc5,hn5,hm5,hs5,ht5⟩
     ·omega
     ·rw [h64] at hv hn5
      exact⟨bb,cap,hv,hn5,hb5⟩
    obtain⟨a',c',e1,hsl,-⟩:=hO4.sl
    injection e1 with e2 e3 e4
    subst e2 e4
    rw [<-e3] at hsl
    have hsl2:=(hsl.take (k:=u) hqu.2.1).drop (k:=q) hqu.1
    rw [Nat.zero_add] at hsl2
    have hut:u - q=t:=by have:=HU.out;omega
    have hl2:(bs.take u).drop q=(bs.drop (p % 64)).take t:=by rw [List.drop_take,hut,HQ.out]
    refine wpIn_region_any (by kernel_rfl) ?_
    refine zo_d (W:=w4.drew) (X:=X) (pb:=pb) (bb:=bb) (q:=q) (u:=u) (cc:=cc) (base:=w.heap.size+4) (vo:=v) (acc:=acc) (l2:=(bs.take u).drop q) rfl ⟨_,rfl,rfl,rfl,rfl,rfl⟩ ⟨_,rfl,rfl,rfl,rfl,rfl⟩ ⟨_,rfl,rfl,rfl,rfl,rfl⟩ ⟨_,rfl,rfl,rfl,rfl,rfl⟩ ⟨_,rfl,rfl,rfl,rfl,rfl⟩ ⟨_,rfl,rfl,rfl,rfl,rfl⟩ ⟨_,rfl,rfl,rfl,rfl,rfl⟩ ⟨_,rfl,rfl,rfl,rfl,rfl⟩ ⟨_,rfl,rfl,rfl,rfl,rfl⟩
     rfl rfl rfl rfl hX4 z1 z2 hqu.1 hqu.2.1 hcc hqu.2.2 hO5 (by have:=hU4.size;show _<=w4.heap.size;omega) ?_ hsl2 (by omega) ?_
    ·intro k hk e
     rw [e] at hk
     exact (hX4.not_row (by decide) hO5) hk.symm
    ·intro a' v' W' hO6 hg6
     have o1:v.ownBlock ≠ some (X+1):=hO.not_cells hI.itr.1 (by decide)
     have o2:v.ownBlock ≠ some (X+1+1):=by obtain⟨z,e⟩:=hI.itr.2.1;exact hO.not_cells e (by decide)
     have o3:v.ownBlock ≠ some (X+1+2):=by obtain⟨z,e⟩:=hI.itr.2.2;exact hO.not_cells e (by decide)
     have o0':∀ q,q < w.heap.size+4->v.ownBlock ≠ some q:=fun q h1 e=>by have:=(hO.lt q e).1;omega
     have hXo:v.ownBlock ≠ some X:=hO.not_cells hX (by decide)
     have hz4:W.heap.size<=w4.heap.size:=hU4.size
     have hbw:∀ q,w.heap.size<=q->q < W.heap.size->q ≠ X->v.ownBlock ≠ some q->(W'.setCell X v').heap[q]?=W.heap[q]?:=fun q h1 h2 h3 h4 =>
      (heap_setCell_other _ _ _ _ h3).trans ((hg6.block q (by show q < w4.heap.size;omega) (fun e=>h4 e.symm)).trans (hbl q h1 h2))
     have hX6:Boxed W' X 70 v:=Boxed.kept (W:=w4.drew) hX4 hg6 (fun e=>hXo e.symm)
     have hU6:Upd F w F (W'.setCell X v'):=((((hI.upd.trans hU4).drew).grown (fun k e=>.inr (by have:=(hO.lt k e).1;omega)) hg6)).setCell (.inr (by omega)) _ _
     have hz6:w4.heap.size<=W'.heap.size:=hg6.size
     show KeepsFrom w3.heap.size W _/\KpE (X+1+1) (X+1+2) (X+1) W _/\RdI F w g s m fa fn fc f0 c o0 (o0+n0) N X d.st.length r (k+1) _
     refine⟨(((hU4.keepsFrom (fun k e=>by have:=hnF k e;omega)).trans ((KeepsOthers.drew _).from _)).trans ((KeepsOthers.of_grownBy hg6 (fun j o e1 e2=>?_)).from _)).trans ((KeepsOthers.setCell _ _ _).from _),
      ⟨hbw _ (by omega) (by omega) (by omega) o2,hbw _ (by omega) (by omega) (by omega) o3,hbw _ (by omega) (by omega) (by omega) o1⟩,⟨acc ++ (bs.take u).drop q,d2,v',?_,?_,?_,hX6.set v',?_,?_⟩,hU6,by simp;omega,
      ⟨(hbw _ (by omega) (by omega) (by omega) o1).trans hI.itr.1,hI.itr.2.1.imp fun z e=>za_e e (hbw _ (by omega) (by omega) (by omega) o2),hI.itr.2.2.imp fun z e=>za_e e (hbw _ (by omega) (by omega) (by omega) o3)⟩,
      hI.args.stay (hbw _ (by omega) (by omega) (by omega) (o0' _ (by omega))) (hbw _ (by omega) (by omega) (by omega) (o0' _ (by omega))),za_e hI.res (hbw _ (by omega) (by omega) (by omega) (o0' _ (by omega))),za_e hI.err (hbw _ (by omega) (by omega) (by omega) (o0' _ (by omega)))⟩
     ·obtain⟨cs,e3⟩:=hO5.cells e1
      rw [show w4.drew.heap[j]?=w4.heap[j]? from rfl,e3] at e2;cases e2;rfl
     ·refine zH ?_
      rw [HA.out,HNK.out,hl2,HT.out,HP.out]
      refine Extent.rd_ok ?_
      rw [<-HP.out,<-HIZ.out];exact HRD1.out
     ·refine ((hP4.drew).stay (fun b hb=>hg6.block b (by show b < w4.heap.size;have:=hnF b hb;have:=hI.upd.size;omega) (fun e=>by have:=(hO.lt b e.symm).1;have:=hnF b hb;omega)) hg6.size).other (fun e=>by have:=hnF _ e;omega) _ _
     ·have:=(Disk.read_st d1 iz).1;rw [HRD1.out] at this;rw [<-hlen];exact congrArg List.length this
     ·exact hO6.upd ((Upd.refl (fun k=>k=X) W').setCell (.inl rfl) 0 v') (fun k e e2=>by subst e2;exact (hO6.not_cells hX6 (by decide)) e)
     ·rw [hl2,List.length_append,List.length_take,List.length_drop];omega
   ·have t1:(z != 0)=true:=by simpa using hz
    have HA1:Hid (r=([],z,d2)):=by
     refine zH ?_
     rw [HA.out,HNK.out]
     refine Extent.rd_err (b:=bs) ?_ hz
     rw [<-HP.out,<-HIZ.out];exact HRD1.out
    have hw17:Fence.wide.fn 112:=trivial
    unfold exT
    gi_wp2_with (gi_at_call 112;go_must (refine (HC.out.inRound l).mono ?_);rintro e w4 ⟨v4,rfl,hO4,hP4,hU4⟩;have hbl:∀ q,w.heap.size<=q->q < W.heap.size->w4.heap[q]?=W.heap[q]?:=(fun q h1 h2=>hU4.block q h2 (fun e=>by have:=hnF q e;omega));have hR4:=za_e hI.res (hbl _ (by omega) hI.res.lt);have hE4:=za_e hI.err (hbl _ (by omega) hI.err.lt);have c2:=hR4.cell;have f2:=hR4.frozen;have c3:=hE4.cell;have f3:=hE4.frozen;have HF:=zH (And.intro ((hR4.set (.slice none 0 0)).other (B':=w.heap.size+1+1+1) (Ne.symm hne) (z:Value)) ((hE4.other hne (.slice none 0 0)).set (z:Value))))
    refine⟨((hU4.keepsFrom (fun k e=>by have:=hnF k e;omega)).trans ((KeepsOthers.setCell _ _ _).from _)).trans ((KeepsOthers.setCell _ _ _).from _),rfl,z,d2,HA1,(hP4.other (fun e=>by have:=hnF _ e;omega) _ _).other (fun e=>by have:=hnF _ e;omega) _ _,((hI.upd.trans hU4).setCell (.inr (by omega)) _ _).setCell (.inr (by omega)) _ _,HF.out.1,HF.out.2⟩
  case done =>
   intro D W hD hI hK
   obtain⟨acc,d1,v,HA,hP,hlen,hX,hO,hal⟩:=hI.acc
   have hRA:r=(acc,0,d1):=by rw [HA.out,Nat.sub_self];rfl
   have c0:=hX.cell
   have f2:=hI.res.frozen
   have f3:=hI.err.frozen
   have c2:=hI.res.cell
   have c3:=hI.err.cell
   have HF:=zH (And.intro ((hI.res.set v).other (B':=w.heap.size+1+1+1) (Ne.symm hne) (.int .i64 0)) ((hI.err.other hne v).set (.int .i64 0)))
   have HRA:=zH hRA
   clear hRA
   obtain⟨av',cv',hvv,-,-⟩:=id hO.sl
   subst hvv
   gi_wp2
   go_wp2
   obtain⟨hR2,hE2⟩:=HF.out
   have hbig:=hI.big
   have hD2:(((W.setCell (w.heap.size+1+1:Nat) (.slice av' acc.length cv')).setCell (w.heap.size+1+1+1:Nat) (.int .i64 0))).heap[D]?=some (.deferred (some []))  :=
    (heap_setCell_other _ _ _ _ (show D ≠ w.heap.size+1+1+1 by omega)).trans ((heap_setCell_other _ _ _ _ (show D ≠ w.heap.size+1+1 by omega)).trans hK)
   have d2:=(za_e hR2 (World.putObj_heap_other (o:=.deferred none) (za_q hR2 hD2 rfl))).cell
   have d3:=(za_e hE2 (World.putObj_heap_other (o:=.deferred none) (za_q hE2 hD2 rfl))).cell
   refine⟨by simp,.inl ⟨_,_,rfl,run_takeDeferred hD2,⟨.tuple #[.slice av' acc.length cv',.int .i64 0],by simp [results,Tryz.results127,go_sem,d2,d3],?_⟩⟩⟩
   rw [HRA.out]
   have hnF':∀ k,w.heap.size<=k->¬ F k:=fun k hk e=>by have:=hnF k e;omega
   have hO2:=(((hO.upd ((Upd.refl (fun k=>k=w.heap.size+1+1) W).setCell (.inl rfl) 0 (.slice av' acc.length cv')) (fun k e e2=>by have:=(hO.lt k e).1;omega)).upd ((Upd.refl (fun k=>k=w.heap.size+1+1+1) _).setCell (.inl rfl) 0 (.int .i64 0)) (fun k e e2=>by have:=(hO.lt k e).1;omega)).putO (o':=.deferred none) hD2 rfl).mono (b':=w.heap.size) (by omega)
   exact⟨_,rfl,hO2,((hP.other (hnF' _ (by omega)) _ _).other (hnF' _ (by omega)) _ _).putO (hnF' _ (by omega)) _,((hI.upd.setCell (.inr (by omega)) _ _).setCell (.inr (by omega)) _ _).putO (.inr (by omega)) _⟩
  case stop =>
   rintro D cd k W hD hk hI hK
   have hI2:=hI.putO hnF (o':=.deferred none) (by omega:w.heap.size<=D) hK rfl
   obtain⟨rfl,z,d1,HA,hP,hU,hR,hE⟩:=hI2
   have d2:=hR.cell
   have d3:=hE.cell
   gi_wp2
   refine⟨by simp,.inl ⟨_,_,rfl,run_takeDeferred hK,⟨.tuple #[.slice none 0 0,z],by simp [results,Tryz.results127,go_sem,d2,d3],?_⟩⟩⟩
   rw [HA.out]
   exact⟨_,rfl,OwnB.nil _ _,hP,hU⟩
 ·rw [if_neg hck] at hr
  have HR:=zH hr
  have t1:(Extent.check d.st.length f c off len != 0)=true:=by simpa using hck
  generalize Extent.check d.st.length f c off len=z at *
  clear hr hck
  go_wp2_with fail
  rw [<-HW0.out]
  refine HCK.out.mono ?_;rintro e w1 ⟨rfl,hb1⟩
  have hP1:=hP0.ext hb1
  have hR1:=za_j hR0 hb1
  have hE1:=za_j hE0 hb1
  have c2:=hR1.cell
  have f2:=hR1.frozen
  have c3:=hE1.cell
  have f3:=hE1.frozen
  have HF:=zH (And.intro ((hR1.set (.slice none 0 0)).other (B':=w.heap.size+1+1+1) (Ne.symm hne) (z:Value)) ((hE1.other hne (.slice none 0 0)).set (z:Value)))
  go_wp2
  obtain⟨hR2,hE2⟩:=HF.out
  have d2:=hR2.cell
  have d3:=hE2.cell
  refine⟨.tuple #[.slice none 0 0,z],by simp [results,Tryz.results127,go_sem,d2,d3],?_⟩
  have hnF:∀ k,w.heap.size<=k->¬ F k:=fun k hk e=>by have:=h.lt k e;omega
  rw [HR.out]
  refine⟨_,rfl,OwnB.nil _ _,(hP1.other (hnF _ (by omega)) _ _).other (hnF _ (by omega)) _ _,?_⟩
  exact ((((Upd.of_ext hB0).ext hb1).setCell (.inr (by omega)) _ _).setCell (.inr (by omega)) _ _)
theorem zr_s (h:PD F w g s m fa fn fc d) (f c off len:Int) (hf:ib f) (hc:ib c) (ho:ib off) (hl:ib len) :
 Calls Tryz.prog 127 #[.pointer g,.agg #[f,c],off,len] w (ExReadPost F w g s m fa fn fc (Extent.read d f c off len)) :=
 callsIn_wide.1 (zl_t h f c off len hf hc ho hl)
end
section
open Go.RowKit Go.Shelf
variable {B N X b c e f0 fc first fn g k l m n o0 off s:Nat} {W W' w:World} {F F':Nat->Prop} {fa:Option Addr} {d d1 d2:Disk.Dk} {o o':Obj} {data:List UInt8} {R:Int × Disk.Dk} {v:Value} {z2:Int}
attribute [local go_sem] Oper.semAt_some
def IsCells (w:World) (b:Nat):Prop:=∃ cs t fr,w.heap[b]?=some (.cells cs t fr)
theorem ze_z {o:Nat} (h:w.cell? (b o)=some v):IsCells w b:=by
 obtain⟨o',ho',hc⟩:=cells_of_cell h
 cases o' with
|cells cs t fr=>exact⟨_,_,_,ho'⟩
|_=>cases hc
theorem zo_t {x:Addr} {l:List UInt8} (h:SlB w (some x) n c l) (hl:l ≠ []):IsCells w x.block:=by
 exact ze_z (h.2.2.2.2 x rfl 0 (List.length_pos_iff.2 hl)).2.2
theorem PD.tight (h:PD F w g s m fa fn fc d):PD (fun b=>F b/\(b=m\/IsCells w b)) w g s m fa fn fc d:=by
 refine⟨h.ok,h.box,h.row,?_,h.flt,fun x hx hl=>?_,fun k hk=>h.lt k hk.1,⟨h.Fg,.inr ⟨_,_,_,h.box⟩⟩,⟨h.Fs,.inr ⟨_,_,_,h.row⟩⟩,⟨h.Fm,.inl rfl⟩⟩
 ·obtain⟨es,clock,hb,hE⟩:=h.map
  refine⟨es,clock,hb,hE.stamped,hE.size,fun e he=>?_,hE.all⟩
  obtain⟨i,x,a,c,h1,h2,h3,h4,h5,h6⟩:=hE.mem e he
  exact⟨i,x,a,c,h1,h2,h3,h4,⟨⟨h5.1,.inr (zo_t h4 h6)⟩,h5.2⟩,h6⟩
 ·have h1:=h.fltF x hx hl
  refine⟨⟨h1.1,.inr ?_⟩,h1.2⟩
  exact ze_z (h.flt.2.2.2.2 x hx 0 (List.length_pos_iff.2 hl)).2.2.1
def ExWritePost (F:Nat->Prop) (w:World) (g s m:Nat) (fa:Option Addr) (fn fc:Nat) (r:Int × Disk.Dk) (e:Ending) (w':World):Prop :=
 e=.returned (r.1:Value)/\∃ F',PD F' w' g s m fa fn fc r.2/\Upd F w F' w'
theorem OwnB.row64 {base:Nat} {l:List UInt8} (h:OwnB base w v l) (hl:l.length=64):∃ bb cc,v=.slice (bb:Nat) 64 cc/\64<=cc/\base<=bb:=by
 rcases h.2 with⟨hv,hn⟩|⟨bb,cap,cur,hv,hb5,hc5,hn5,hm5,hs5,ht5⟩
 ·omega
 ·rw [hl] at hv hn5
  exact⟨bb,cap,hv,hn5,hb5⟩
def exTW (b g f0:Nat) (c:Int) (o0:Nat) (a:Option Addr) (n ca X:Nat) (x10 x30:Value):Array Value:=#[Value.pointer g,Value.agg #[f0,c],(o0:Value),Value.slice a n ca,Value.pointer b,Value.pointer (b+1:Nat),undef,Value.pointer (b+1+1:Nat),Value.pointer (b+1+1+1:Nat),Value.int IntKind.i64 0,x10,undef,undef,undef,undef,undef,Value.pointer g,Value.agg #[f0,c],(o0:Value),Value.slice a n ca,(n:Value),Value.int IntKind.i64 0,Value.int IntKind.i64 0,Value.bool false,undef,Value.agg #[f0,c],(o0:Value),Value.slice a n ca,(n:Value),Value.func (Fn.func 183) #[] #[Value.pointer (X+1:Nat),Value.pointer (X+2:Nat),Value.pointer X],x30,undef,undef,undef,undef,undef,undef,undef,undef,undef,undef,undef,undef,undef,undef,undef,undef,undef,undef,undef,undef,undef,undef,undef,undef,undef,undef,undef,undef,undef,undef,undef,undef,undef,undef,undef,undef,undef,undef,undef,undef]
theorem IsCells.putO (h:IsCells W b) (h1:W.heap[l]?=some o) (h2:o.isCells=false):IsCells (W.putObj l o') b:=by
 obtain⟨cs,t,fr,h⟩:=h;exact⟨cs,t,fr,(World.putObj_heap_other (za_q h h1 h2)).trans h⟩
theorem IsCells.not (h1:W.heap[l]?=some o) (h2:o.isCells=false):¬ IsCells W l:=by
 rintro⟨cs,t,fr,h⟩;rw [h1] at h;cases h;cases h2
theorem IsCells.same (h:IsCells W b) (e:W'.heap[b]?=W.heap[b]?):IsCells W' b:=by
 obtain⟨cs,t,fr,h⟩:=h;exact⟨cs,t,fr,e.trans h⟩
theorem Upd.keepsT (h:Upd F W F' W') (hF:∀ k,F k->k=m\/IsCells W k) (hm:m < B):KeepsFrom B W W' :=
 ⟨h.size,fun k o hk ho hc=>(h.block k (za_a ho) (fun e=>by
  rcases hF k e with e|e
  ·omega
  ·exact IsCells.not ho hc e)).trans ho⟩
theorem SlB.putO {a:Option Addr} {l:List UInt8} (h:SlB W a n c l) {r:Nat} (h1:W.heap[r]?=some o) (h2:o.isCells=false):SlB (W.putObj r o') a n c l :=
 h.stay (fun x hx hl=>by subst hx;exact World.putObj_heap_other (zt_n h hl h1 h2)) (by simp)
theorem Disk.write_st (d:Disk.Dk) (i:Int) (x:List UInt8):(Disk.write d i x).2.st=d.st:=by
 rcases hb:Disk.begin d (Disk.fits d i && decide (x.length=64)) with⟨b,e,d'⟩
 have h:=(Disk.begin_st d (Disk.fits d i && decide (x.length=64))).1
 rw [hb] at h
 cases b
 ·by_cases he:e=0
  ·subst he;rw [zl_k hb];exact h
  ·rw [zd_t hb he];exact h
 ·rw [zj_f hb];exact h
theorem Extent.wr_full (hs:¬ Extent.step e (Extent.pos off e k) < 64) (hw:Disk.write d ((first+Extent.pos off e k / 64:Nat):Int) (data.take (Extent.step e (Extent.pos off e k)))=(z2,d2)) :
 Extent.wr first off e (m+1) k data d=if z2=0 then Extent.wr first off e m (k+1) (data.drop (Extent.step e (Extent.pos off e k))) d2 else (z2,d2):=by
 rw [Extent.wr,if_neg hs,hw]
theorem Extent.wr_rerr {b:List UInt8} {z:Int} (hs:Extent.step e (Extent.pos off e k) < 64) (hr:Disk.read d ((first+Extent.pos off e k / 64:Nat):Int)=(b,z,d1)) (hz:¬ z=0) :
 Extent.wr first off e (m+1) k data d=(z,d1):=by
 rw [Extent.wr,if_pos hs,hr];exact if_neg hz
theorem Extent.wr_part {b:List UInt8} (hs:Extent.step e (Extent.pos off e k) < 64) (hr:Disk.read d ((first+Extent.pos off e k / 64:Nat):Int)=(b,0,d1))
 (hw:Disk.write d1 ((first+Extent.pos off e k / 64:Nat):Int) (b.take (Extent.pos off e k % 64) ++ data.take (Extent.step e (Extent.pos off e k)) ++ b.drop (Extent.pos off e k % 64+Extent.step e (Extent.pos off e k)))=(z2,d2)) :
 Extent.wr first off e (m+1) k data d=if z2=0 then Extent.wr first off e m (k+1) (data.drop (Extent.step e (Extent.pos off e k))) d2 else (z2,d2):=by
 rw [Extent.wr,if_pos hs,hr]
 show (if (0:Int)=0 then _ else _)=_
 rw [if_pos rfl,hw]
structure WrI (F:Nat->Prop) (w:World) (g s m:Nat) (fa:Option Addr) (fn fc:Nat) (f0:Nat) (c:Int) (o0 e N:Nat) (X B n:Nat) (R:Int × Disk.Dk) (F':Nat->Prop) (k:Nat) (W:World):Prop where
 acc:∃ l d' a' n' c',Hid (R=Extent.wr f0 o0 e (N - k) k l d')/\PD F' W g s m fa fn fc d'/\d'.st.length=n/\Boxed W (w.heap.size+1+1) 70 (.slice a' n' c')/\SlB W a' n' c' l/\l.length=e - Extent.pos o0 e k/\(∀ y,a'=some y->l ≠ []->y.block < w.heap.size/\¬ F y.block)
 upd:Upd F w F' W
 tight:∀ b,F' b->b=m\/IsCells W b
 lo:∀ b,F' b->F b\/B<=b
 big:B<=W.heap.size
 args:ExArgs W w.heap.size g (f0:Int) c
 err:Boxed W (w.heap.size+1+1+1) 27 (.int .i64 0)
def WrX (F:Nat->Prop) (w:World) (g s m:Nat) (fa:Option Addr) (fn fc:Nat) (R:Int × Disk.Dk) (cd:Code) (_k:Nat) (W:World):Prop :=
 cd=.ret/\∃ z d' F',Hid (R=(z,d'))/\PD F' W g s m fa fn fc d'/\Upd F w F' W/\(∀ b,F' b->b=m\/IsCells W b)/\Boxed W (w.heap.size+1+1+1) 27 (z:Value)
theorem WrI.putO {c:Int} (h:WrI F w g s m fa fn fc f0 c o0 e N X B n R F' k W) (hm:m < w.heap.size) (hl:w.heap.size<=l) (h1:W.heap[l]?=some o) (h2:o.isCells=false):WrI F w g s m fa fn fc f0 c o0 e N X B n R F' k (W.putObj l o'):=by
 have hnF:¬ F' l:=fun e=>by
  rcases h.tight l e with e|e
  ·omega
  ·exact IsCells.not h1 h2 e
 obtain⟨l',d',a',n',c',q1,q2,q3,q4,q5,q6,q7⟩:=h.acc
 exact⟨⟨l',d',a',n',c',q1,q2.putO hnF _,q3,za_e q4 (World.putObj_heap_other (za_q q4 h1 h2)),q5.putO h1 h2,q6,q7⟩,h.upd.putO (.inr hl) _,fun b hb=>(h.tight b hb).imp id (·.putO h1 h2),h.lo,by simpa using h.big,
  h.args.stay (World.putObj_heap_other (za_q h.args.ptr h1 h2)) (World.putObj_heap_other (za_q h.args.ext h1 h2)),za_e h.err (World.putObj_heap_other (za_q h.err h1 h2))⟩
theorem WrI.ext {c:Int} (h:WrI F w g s m fa fn fc f0 c o0 e N X B n R F' k W) (hb:Below W.heap.size W W'):WrI F w g s m fa fn fc f0 c o0 e N X B n R F' k W':=by
 obtain⟨l',d',a',n',c',q1,q2,q3,q4,q5,q6,q7⟩:=h.acc
 exact⟨⟨l',d',a',n',c',q1,q2.ext hb,q3,za_j q4 hb,q5.ext hb,q6,q7⟩,h.upd.ext hb,fun b hB=>(h.tight b hB).imp id (fun e=>e.same (hb.block b (q2.lt b hB))),h.lo,Nat.le_trans h.big hb.size,h.args.ext' hb,za_j h.err hb⟩
theorem WrX.putO {cd:Code} (h:WrX F w g s m fa fn fc R cd k W) (hm:m < w.heap.size) (hl:w.heap.size<=l) (h1:W.heap[l]?=some o) (h2:o.isCells=false):WrX F w g s m fa fn fc R cd k (W.putObj l o'):=by
 obtain⟨rfl,z,d',F',q1,q2,q3,q4,q5⟩:=h
 have hnF:¬ F' l:=fun e=>by
  rcases q4 l e with e|e
  ·omega
  ·exact IsCells.not h1 h2 e
 exact⟨rfl,z,d',F',q1,q2.putO hnF _,q3.putO (.inr hl) _,fun b hb=>(q4 b hb).imp id (·.putO h1 h2),za_e q5 (World.putObj_heap_other (za_q q5 h1 h2))⟩
set_option maxRecDepth 100000 in
set_option maxHeartbeats 2000000 in
theorem zj_l (h:PD F w g s m fa fn fc d) (f c off:Int) (hf:ib f) (hc:ib c) (ho:ib off) (a:Option Addr) (n ca:Nat) (x:List UInt8) (hx:SlB w a n ca x) (hF:∀ y,a=some y->x ≠ []->¬ F y.block) :
 CallsIn Fence.wide 4 Tryz.prog 108 #[.pointer g,.agg #[f,c],off,.slice a n ca] w (ExWritePost F w g s m fa fn fc (Extent.write d f c off x)):=by
 obtain⟨W0,hW0⟩:∃ W0,W0=((((w.alloc (.cells #[.pointer g] 37)).alloc (.cells #[f,c] 23)).alloc (.cells #[.slice a n ca] 70)).alloc (.cells #[.int .i64 0] 27)):=⟨_,rfl⟩
 have hB0:Below w.heap.size w W0:=by
  rw [hW0];exact (((((Below.refl _ w).alloc (zN _) _).alloc (by simp) _).alloc (by simp;omega) _).alloc (by simp;omega) _)
 have hz0:W0.heap.size=w.heap.size+4:=by rw [hW0];simp
 have hA0:ExArgs W0 w.heap.size g f c:=by
  rw [hW0]
  refine⟨?_,?_⟩
  ·exact ((((Boxed.new w _ _).alloc _).alloc _).alloc _)
  ·rw [za_c _ _ _ (by simp),za_c _ _ _ (by simp),za_b _ _ _ (by simp)]
 have hR0:Boxed W0 (w.heap.size+1+1) 70 (.slice a n ca):=by
  rw [hW0];unfold Boxed;rw [za_c _ _ _ (by simp),za_b _ _ _ (by simp)]
 have hE0:Boxed W0 (w.heap.size+1+1+1) 27 (.int .i64 0):=by
  rw [hW0];unfold Boxed;rw [za_b _ _ _ (by simp)]
 have HW0:=zH hW0
 have hnl:=hx.len
 have hle:=hx.le
 have hn63:ib (n:Int):=by unfold ib;omega
 have HCK:=zH (zk_x (h.ext hB0) f c off n hc ho hn63)
 have hP0:=h.ext hB0
 have hx0:=hx.ext hB0
 obtain⟨r,hr⟩:∃ r,r=Extent.write d f c off x:=⟨_,rfl⟩
 rw [<-hr]
 unfold Extent.write at hr
 rw [hnl] at hr
 clear hW0
 have hRc:=hR0.cell
 refine callsIn_of_wp_marks Tryz.func108 rfl trivial ?_ rfl
 simp only [Tryz.ntmps108,List.size_toArray,List.length_cons,List.length_nil,Nat.reduceAdd,Nat.reduceSub,Array.replicate_succ,Array.replicate_zero,List.push_toArray,List.append_toArray,List.nil_append,List.cons_append]
 refine wpIn_wide.2 ?_
 by_cases hck:Extent.check d.st.length f c off n=0
 ·rw [if_pos hck] at hr
  obtain⟨q1,q2,q3,q4,q5,q6,q7⟩:=Extent.check_ok hck
  have hszc:Extent.size c=c * 64:=by unfold Extent.size;rw [if_neg (by have:=h.ok.max;omega)]
  have hmx:=h.ok.max
  obtain⟨f0,rfl⟩:=Int.eq_ofNat_of_zero_le q1
  obtain⟨o0,rfl⟩:=Int.eq_ofNat_of_zero_le q5
  rw [hck] at HCK
  have HR:=zH hr
  rw [hszc] at q7
  have hon:o0+n<=262144:=by omega
  have hf0:f0<=4096:=by omega
  clear hr hszc hck
  go_wp2_with fail
  rw [<-HW0.out]
  refine HCK.out.mono ?_;rintro e w1 ⟨rfl,hb1⟩
  have hP1:=hP0.ext hb1
  have hA1:=hA0.ext' hb1
  have hR1:=za_j hR0 hb1
  have hE1:=za_j hE0 hb1
  have hx1:=hx0.ext hb1
  obtain⟨x0,x1,x2⟩:=hA1.cells
  have HX:=zH hA1.cells
  have hRc1:=hR1.cell
  have hsz1:w.heap.size+4<=w1.heap.size:=by have:=hb1.size;omega
  go_wp2_with (go_at_call 155;refine (callsIn_wide.1 (zf_b Fence.wide 3 trivial rfl (f0:Int) c (o0:Int) (n:Int) _)).mono ?_;rintro e w3 ⟨rfl,rfl⟩)
  have hb3:=(((Below.refl _ w1).alloc (zN _) (.cells #[f0,c] 23)).alloc (by simp) (.cells #[o0] 3)).alloc (by simp;omega) (.cells #[n] 3)
  have hbo3:Boxed (((w1.alloc (.cells #[f0,c] 23)).alloc (.cells #[o0] 3)).alloc (.cells #[n] 3)) (w1.heap.size+1) 3 (o0:Value):=by
   unfold Boxed;rw [za_c _ _ _ (by simp),za_b _ _ _ (by simp)]
  have hbn3:Boxed (((w1.alloc (.cells #[f0,c] 23)).alloc (.cells #[o0] 3)).alloc (.cells #[n] 3)) (w1.heap.size+2) 3 (n:Value):=by
   unfold Boxed;rw [za_b _ _ _ (by simp)]
  have hbe3:(((w1.alloc (.cells #[f0,c] 23)).alloc (.cells #[o0] 3)).alloc (.cells #[n] 3)).heap[w1.heap.size]?=some (.cells #[f0,c] 23 (0,0)):=by
   rw [za_c _ _ _ (by simp;omega),za_c _ _ _ (by simp),za_b _ _ _ (by simp)]
  have hz3:(((w1.alloc (.cells #[f0,c] 23)).alloc (.cells #[o0] 3)).alloc (.cells #[n] 3)).heap.size=w1.heap.size+3:=by simp
  generalize ((w1.alloc (.cells #[f0,c] 23)).alloc (.cells #[o0] 3)).alloc (.cells #[n] 3)=w3 at *
  have hP3:=(hP1.ext hb3).tight
  have hA3:=hA1.ext' hb3
  have hR3:=za_j hR1 hb3
  have hE3:=za_j hE1 hb3
  have hx3:=hx1.ext hb3
  have hU3:Upd F w F w3:=((Upd.of_ext hB0).ext hb1).ext hb3
  have hnF:∀ k,F k->k < w.heap.size:=h.lt
  have hmw:m < w.heap.size:=hnF m h.Fm
  have hxb:∀ y,a=some y->x ≠ []->y.block < w.heap.size/\¬ F y.block:=fun y h1 h2=>by subst h1;exact⟨hx.blt h2,hF y rfl h2⟩
  obtain⟨N,hN⟩:∃ N,N=Extent.cnt o0 (o0+n):=⟨_,rfl⟩
  have hrd:r=Extent.wr f0 o0 (o0+n) (N - 0) 0 x d:=by
   rw [HR.out,hN]
   have e1:((o0:Int)+(n:Int)).toNat=o0+n:=by omega
   rw [e1];rfl
  have HRD:=zH hrd
  have hseq:=zr_e Fence.wide 3 trivial rfl (by omega) (w1.heap.size+1) (w1.heap.size+2) w1.heap.size f0 o0 n c (by omega) (by omega) w3 (by omega) (by omega) (by omega) hbo3.cell hbn3.cell (by rw [cell_of_row _ _ _ _ _ _ hbe3];rfl) (by rw [cell_of_row _ _ _ _ _ _ hbe3];rfl)
  rw [<-hN] at hseq
  have HSEQ:=zH hseq
  have HN:=zH hN
  have hXw:=hsz1
  clear HR hrd hseq hN HX x0 x1 x2 hb3 hP1 hA1 hR1 hE1 hP0 hR0 hE0 hb1 hB0 hz0 hA0 HCK HW0 hsz1 hRc hRc1 hx0 hx1 hbo3 hbn3 hbe3
  generalize w1.heap.size=X at *
  clear w1
  refine (wpIn_wide (n:=4)).1 ?_
  refine ze_p (Kp:=KpE (X+1) (X+2) X) rfl (by omega) (gf:=183) (lb:=#[.pointer (X+1:Nat),.pointer (X+2:Nat),.pointer X]) rfl trivial (enters_of Tryz.func183 (by kernel_rfl) rfl) HSEQ.out zr_w
   (fun W l o o' hl h1 h2=>⟨World.putObj_heap_other (by omega),World.putObj_heap_other (by omega),World.putObj_heap_other (by omega)⟩) (Below.refl _ _) (fun _=>rfl)
   (fun k W=>∃ F',WrI F w g s m fa fn fc f0 c o0 (o0+n) N X (X+3) d.st.length r F' k W) (WrX F w g s m fa fn fc r) (fun k W l o o' hI hl h1 h2=>hI.imp fun F' hI=>hI.putO hmw (by omega) h1 h2) (fun cd k W l o o' hI hl h1 h2=>hI.putO hmw (by omega) h1 h2)
   ?h0 (fun k a1 W=>∃ pb F',a1={ tmps:=exTW w.heap.size g f0 c o0 a n ca X (.pointer (pb:Nat)) ((exEnc f0 o0 (o0+n) k).getD 0 undef),defers:=[] }/\W.heap[pb]?=some (.cells #[.int .i64 ((f0:Int)+(Extent.pos o0 (o0+n) k:Int) / 64),.int .i64 ((Extent.pos o0 (o0+n) k:Int) % 64),.int .i64 ((Extent.pos o0 (o0+n) k:Int) % 64+(Extent.step (o0+n) (Extent.pos o0 (o0+n) k):Int))] 194 (0,0))/\w3.heap.size<=pb/\¬ F' pb/\WrI F w g s m fa fn fc f0 c o0 (o0+n) N X (X+3) d.st.length r F' k W)
   (fun a1 k W l o o' hI hl h1 h2=>by
    obtain⟨pb,F',e1,e2,e3,e4,e5⟩:=hI
    exact⟨pb,F',e1,(World.putObj_heap_other (za_q e2 h1 h2)).trans e2,e3,e4,e5.putO hmw (by omega) h1 h2⟩)
   ?assign ?body ?done ?stop
  case h0 =>
   intro o o'
   have hbe:=((Below.refl _ w3).alloc (zN _) o).alloc (by simp) o'
   exact⟨_,⟨x,d,_,_,_,HRD,hP3.ext hbe,rfl,za_j hR3 hbe,hx3.ext hbe,by rw [Extent.pos_zero];omega,hxb⟩,(hU3.ext hbe).grow (fun k hk=>.inl hk.1),fun b hb=>hb.2.imp id (fun e=>e.same (hbe.block b (hP3.lt b hb))),fun b hb=>.inl hb.1,by have:=hbe.size;omega,hA3.ext' hbe,za_j hE3 hbe⟩
  case assign =>
   rintro l k W ⟨F',hI⟩ hk
   have hbk:=(Below.refl W.heap.size W).alloc (zN _) (.cells #[.int .i64 ((f0:Int)+(Extent.pos o0 (o0+n) k:Int) / 64),.int .i64 ((Extent.pos o0 (o0+n) k:Int) % 64),.int .i64 ((Extent.pos o0 (o0+n) k:Int) % 64+(Extent.step (o0+n) (Extent.pos o0 (o0+n) k):Int))] 194)
   have HBK:=zH hbk
   clear hbk
   unfold exEnc
   gi_wp2
   have hbk:=HBK.out
   have hnc:∀ (k:Nat) (o:Obj) (v:Obj),W.heap[k]?=some o->(W.alloc v).heap[k]?=some o:=fun k o v hk=>(za_c _ _ _ (za_a hk)).trans hk
   have hbig:=hI.big
   obtain⟨_,_,_,_,_,_,hPl,_⟩:=hI.acc
   refine⟨⟨hbk.size,fun k o _ hk _=>hnc k o _ hk⟩,⟨za_c _ _ _ (by omega),za_c _ _ _ (by omega),za_c _ _ _ (by omega)⟩,W.heap.size,F',rfl,za_b _ _ _ rfl,by omega,fun e=>by have:=hPl.lt _ e;omega,hI.ext hbk⟩
  case body =>
   rintro l k a1 W ⟨pb,F',rfl,hpb,hpl,hnpb,hI⟩ hk
   obtain⟨l',d1,a',n',c',HA,hP,hlen,hX,hS,hl',hb⟩:=hI.acc
   have hpos:=(Extent.pos_lt o0 (o0+n) k (by omega)).2 (by rw [<-HN.out];exact hk)
   obtain⟨hs1,hs2,hs3,hs4⟩:=Extent.step_pos hpos
   have hsucc:=Extent.pos_succ o0 (o0+n) k (by rw [<-HN.out];exact hk)
   obtain⟨p,hp⟩:∃ p,p=Extent.pos o0 (o0+n) k:=⟨_,rfl⟩
   obtain⟨t,ht⟩:∃ t,t=Extent.step (o0+n) p:=⟨_,rfl⟩
   have HP:=zH hp
   have HT:=zH ht
   rw [<-hp] at hpos hs1 hs2 hs3 hs4 hpb hl' hsucc
   rw [<-ht] at hs1 hs2 hs3 hs4 hpb hsucc
   obtain⟨iz,hiz⟩:∃ iz:Int,iz=((f0+p / 64:Nat):Int):=⟨_,rfl⟩
   obtain⟨q,hq⟩:∃ q,q=p % 64:=⟨_,rfl⟩
   obtain⟨u,hu⟩:∃ u,u=q+t:=⟨_,rfl⟩
   have hidx:((f0:Int)+(p:Int) / 64)=iz:=by omega
   have hmod:((p:Int) % 64)=(q:Int):=by omega
   have hmt:((q:Int)+(t:Int))=(u:Int):=by omega
   rw [hmod,hmt,hidx] at hpb
   have HQ:=zH hq
   have HU:=zH hu
   have HIZ:=zH hiz
   have hqu:q<=u/\u<=64/\q < 64:=by omega
   have hqt:q+t<=64:=by omega
   clear hq hu hiz
   clear hp ht
   have hbig:=hI.big
   have hnl':=hS.len
   have hne':l' ≠ []:=by rintro rfl;simp at hl';omega
   obtain⟨db,dd,rfl⟩:∃ db dd,a'=some ((db:Nat) dd):=by
    cases a' with
   |none=>exact absurd (hS.2.2.2.1 rfl).1 hne'
   |some y =>
     obtain⟨yb,yo,ys⟩:=y
     have:=(hS.2.2.2.2 _ rfl 0 (List.length_pos_iff.2 hne')).1
     simp only at this;subst this;exact⟨_,_,rfl⟩
   obtain⟨hdb,hdF⟩:=hb _ rfl hne'
   simp only at hdb hdF
   have htn:t<=n':=by omega
   have hnc':n'<=c':=hS.2.1
   have hcm:c'<=maxLen:=hS.2.2.1
   have nF':∀ q,w.heap.size<=q->q < X+3->¬ F' q:=fun q h1 h2 e=>by
    rcases hI.lo q e with e|e
    ·have:=hnF q e;omega
    ·omega
   have hdF':¬ F' db:=fun e=>by
    rcases hI.lo db e with e|e
    ·exact hdF e
    ·omega
   have hok:∀ (w6:World) (F6:Nat->Prop) (d3:Disk.Dk),PD F6 w6 g s m fa fn fc d3->Upd F' W F6 w6->KeepsFrom w3.heap.size W w6->d3.st.length=d.st.length->Hid (r=Extent.wr f0 o0 (o0+n) (N - (k+1)) (k+1) (l'.drop t) d3) →
    KeepsFrom w3.heap.size W (w6.setCell (w.heap.size+1+1:Nat) (.slice (if c'=t then some (db dd) else some (db (dd+t))) (n' - t) (c' - t)))/\KpE (X+1) (X+2) X W (w6.setCell (w.heap.size+1+1:Nat) (.slice (if c'=t then some (db dd) else some (db (dd+t))) (n' - t) (c' - t))) ∧
     ∃ F',WrI F w g s m fa fn fc f0 c o0 (o0+n) N X (X+3) d.st.length r F' (k+1) (w6.setCell (w.heap.size+1+1:Nat) (.slice (if c'=t then some (db dd) else some (db (dd+t))) (n' - t) (c' - t))):=by
    intro w6 F6 d3 hP6 hU6 hK6 hst6 HR6
    have nF6:∀ q,w.heap.size<=q->q < X+3->¬ F6 q:=fun q h1 h2 e=>by
     rcases hU6.new q e with e|e
     ·exact nF' q h1 h2 e
     ·omega
    have hbl:∀ q,w.heap.size<=q->q < X+3->w6.heap[q]?=W.heap[q]?:=fun q h1 h2=>hU6.block q (by omega) (nF' q h1 h2)
    have hbs:∀ v q,w.heap.size<=q->q < X+3->q ≠ w.heap.size+1+1->(w6.setCell (w.heap.size+1+1:Nat) v).heap[q]?=W.heap[q]?:=fun v q h1 h2 h3=>(heap_setCell_other _ _ _ _ h3).trans (hbl q h1 h2)
    have hS6:=hS.upd hU6 (fun y hy _=>by cases hy;exact hdF')
    have hz6:W.heap.size<=w6.heap.size:=hU6.size
    have hS7:SlB (w6.setCell (w.heap.size+1+1:Nat) (.slice (if c'=t then some (db dd) else some (db (dd+t))) (n' - t) (c' - t))) (if c'=t then some (db dd) else some (db (dd+t))) (n' - t) (c' - t) (l'.drop t):=by
     refine SlB.stay (w:=w6) ?_ (fun y hy _=>heap_setCell_other _ _ _ _ ?_) (by simp)
     ·by_cases h8:c'=t
      ·rw [if_pos h8]
       exact⟨by simp;omega,by omega,by omega,(fun e=>by cases e),fun x hx i hi=>by simp at hi;omega⟩
      ·rw [if_neg h8];exact hS6.drop htn
     ·split at hy <;> (cases hy;simp only;omega)
    refine⟨hK6.trans ((KeepsOthers.setCell _ _ _).from _),⟨hbs _ _ (by omega) (by omega) (by omega),hbs _ _ (by omega) (by omega) (by omega),hbs _ _ (by omega) (by omega) (by omega)⟩,fun b=>F6 b/\(b=m\/IsCells w6 b),⟨_,d3,_,_,_,HR6,hP6.tight.other (fun e=>nF6 _ (by omega) (by omega) e.1) _ _,hst6,(za_e hX (hbl _ (by omega) (by omega))).set _,hS7,?_,?_⟩,
     ((hI.upd.trans hU6).setCell (.inr (by omega)) _ _).grow (fun b hb=>(hI.upd.trans hU6).new b hb.1),?_,fun b hb=>?_,by simp;omega,hI.args.stay (hbs _ _ (by omega) (by omega) (by omega)) (hbs _ _ (by omega) (by omega) (by omega)),za_e hI.err (hbs _ _ (by omega) (by omega) (by omega))⟩
    ·rw [List.length_drop,hl',hsucc];omega
    ·intro y hy _
     split at hy <;> (cases hy;exact⟨hdb,hdF⟩)
    ·intro b hb
     refine hb.2.imp id (fun e=>e.same (heap_setCell_other _ _ _ _ ?_))
     rintro rfl;exact nF6 (w.heap.size+1+1) (by omega) (by omega) hb.1
    ·rcases hU6.new b hb.1 with e|e
     ·exact hI.lo b e
     ·exact .inr (by omega)
   have herr:∀ (w6:World) (F6:Nat->Prop) (d3:Disk.Dk) (z:Int),PD F6 w6 g s m fa fn fc d3->Upd F' W F6 w6->KeepsFrom w3.heap.size W w6->Hid (r=(z,d3)) →
    KeepsFrom w3.heap.size W (w6.setCell (w.heap.size+1+1+1:Nat) (z:Value))/\WrX F w g s m fa fn fc r .ret (k+1) (w6.setCell (w.heap.size+1+1+1:Nat) (z:Value)):=by
    intro w6 F6 d3 z hP6 hU6 hK6 HR6
    have nF6:∀ q,w.heap.size<=q->q < X+3->¬ F6 q:=fun q h1 h2 e=>by
     rcases hU6.new q e with e|e
     ·exact nF' q h1 h2 e
     ·omega
    have hbl:∀ q,w.heap.size<=q->q < X+3->w6.heap[q]?=W.heap[q]?:=fun q h1 h2=>hU6.block q (by omega) (nF' q h1 h2)
    refine⟨hK6.trans ((KeepsOthers.setCell _ _ _).from _),rfl,z,d3,fun b=>F6 b/\(b=m\/IsCells w6 b),HR6,hP6.tight.other (fun e=>nF6 _ (by omega) (by omega) e.1) _ _,
     ((hI.upd.trans hU6).setCell (.inr (by omega)) _ _).grow (fun b hb=>(hI.upd.trans hU6).new b hb.1),?_,(za_e hI.err (hbl _ (by omega) (by omega))).set _⟩
    intro b hb
    refine hb.2.imp id (fun e=>e.same (heap_setCell_other _ _ _ _ ?_))
    rintro rfl;exact nF6 (w.heap.size+1+1+1) (by omega) (by omega) hb.1
   have HOK:=zH hok
   have HERR:=zH herr
   clear hok herr
   obtain⟨x0,x1,x2⟩:=hI.args.cells
   have y0:=cell_of_row _ _ 0 _ _ _ hpb
   have y1:=cell_of_row _ _ 1 _ _ _ hpb
   have y2:=cell_of_row _ _ 2 _ _ _ hpb
   simp only [List.getElem?_toArray,List.getElem?_cons_zero,List.getElem?_cons_succ] at y0 y1 y2
   have HPB:=zH hpb
   clear hpb hidx hmod hmt
   have xX:=hX.cell
   have xXf:=hX.frozen
   have hNk:N - k=(N - (k+1))+1:=by omega
   have HNK:=zH hNk
   clear hNk
   have hw15:Fence.wide.fn 53:=trivial
   have hw17:Fence.wide.fn 112:=trivial
   have hsub:((u:Int) - (q:Int))=(t:Int):=by have:=HU.out;omega
   have htc:t<=c':=by omega
   by_cases ht64:t < 64
   ·have k1:decide ((t:Int) < 64)=true:=by simp;omega
    rcases hrd:Disk.read d1 iz with⟨bs,z,d2⟩
    have HC:=zH ((callsIn_wide (n:=1)).2 (ze_d hP _ hrd))
    have HRD1:=zH hrd
    clear hrd
    have hK4:∀ w4:World,Upd F' W F' w4->KeepsFrom w3.heap.size W w4:=fun w4 hU=>hU.keepsT hI.tight (by omega)
    have hbl4:∀ w4:World,Upd F' W F' w4->∀ q,w.heap.size<=q->q < X+3->w4.heap[q]?=W.heap[q]?:=fun w4 hU q h1 h2=>hU.block q (by omega) (nF' q h1 h2)
    have HK4:=zH hK4
    have HBL4:=zH hbl4
    clear hK4 hbl4
    by_cases hz:z=0
    ·subst hz
     have h64:=Disk.read_len hP.ok HRD1.out
     rcases hwr:Disk.write d2 iz (bs.take q ++ l'.take t ++ bs.drop (q+t)) with⟨z2,d3⟩
     have HWR:=zH hwr
     clear hwr
     have HRR:Hid (r=if z2=0 then Extent.wr f0 o0 (o0+n) (N - (k+1)) (k+1) (l'.drop t) d3 else (z2,d3)):=by
      refine zH ?_
      rw [HA.out,HNK.out]
      have e1:=HRD1.out
      have e2:=HWR.out
      rw [HIZ.out,HP.out] at e1 e2
      rw [HQ.out,HT.out,HP.out] at e2
      rw [HT.out,HP.out] at ht64 ⊢
      exact Extent.wr_part ht64 e1 e2
     have h64':=zH h64
     clear h64
     have hbl6:∀ (w6:World) (F6:Nat->Prop),Upd F' W F6 w6->∀ q,w.heap.size<=q->q < X+3->w6.heap[q]?=W.heap[q]?:=fun w6 F6 hU q h1 h2=>hU.block q (by omega) (nF' q h1 h2)
     have HBL6:=zH hbl6
     have hut:u - q=t:=by omega
     have hwq:Disk.write d2 iz (bs.take q ++ l'.take t ++ bs.drop (q+t))=(z2,d3):=HWR.out
     have HWQ:=zH hwq
     have hmid:∀ (w4 w5:World) (bb cc:Nat) (y:List UInt8),PD F' w4 g s m fa fn fc d2->Upd F' W F' w4->OwnB W.heap.size w4 (.slice bb 64 cc) y->W.heap.size<=bb->But bb w4 w5 →
      PD (fun b=>F' b/\(b=m\/IsCells w4 b)) w5 g s m fa fn fc d2/\KeepsFrom w3.heap.size W w5/\(∀ b,(F' b/\(b=m\/IsCells w4 b))->b=m\/IsCells w5 b)/\Upd F' W (fun b=>F' b/\(b=m\/IsCells w4 b)) w5:=by
      intro w4 w5 bb cc y hP4 hU4 hO4 hbb hb5
      have nb:∀ b,F' b->b ≠ bb:=fun b e e2=>by subst e2;have:=hP.lt _ e;omega
      obtain⟨cs,hcs⟩:=hO4.cells (k:=bb) rfl
      refine⟨hP4.tight.stay (fun b hb=>hb5.block b (hP4.lt b hb.1) (nb b hb.1)) hb5.size,(HK4.out _ hU4).trans ⟨hb5.size,fun k o _ hk ho=>(hb5.block k (za_a hk) (fun e=>?_)).trans hk⟩,fun b hb=>hb.2.imp id (fun e=>e.same (hb5.block b (hP4.lt b hb.1) (nb b hb.1))),(hU4.but (.inr hbb) hb5).grow (fun b hb=>.inl hb.1)⟩
      subst e;rw [hcs] at hk;cases hk;cases ho
     have HMID:=zH hmid
     have hnb:∀ (bb:Nat),W.heap.size<=bb->∀ (w4:World) (y:Addr),some (bb:Addr)=some y->(bs.take q ++ l'.take t ++ bs.drop (q+t)) ≠ []->¬ (F' y.block/\(y.block=m\/IsCells w4 y.block)):=fun bb hbb w4 y hy _ e=>by
      cases hy;have:=hP.lt bb e.1;omega
     have HNB:=zH hnb
     have hk6:∀ (w5 w6:World) (F5 F6:Nat->Prop),KeepsFrom w3.heap.size W w5->(∀ b,F5 b->b=m\/IsCells w5 b)->Upd F5 w5 F6 w6->KeepsFrom w3.heap.size W w6:=fun w5 w6 F5 F6 h1 h2 h3=>h1.trans (h3.keepsT h2 (by omega))
     have HK6:=zH hk6
     have hst:d3.st.length=d.st.length:=by
      have e1:=(Disk.read_st d1 iz).1
      have e2:=Disk.write_st d2 iz (bs.take q ++ l'.take t ++ bs.drop (q+t))
      rw [HRD1.out] at e1;rw [HWR.out] at e2
      simp only at e1 e2
      rw [e2,e1];exact hlen
     have HST:=zH hst
     clear hbl6 hwq hmid hk6 hst hnb
     by_cases hz2:z2=0
     ·subst hz2
      have HRR0:Hid (r=Extent.wr f0 o0 (o0+n) (N - (k+1)) (k+1) (l'.drop t) d3):=zH (HRR.out.trans (if_pos rfl))
      unfold exTW
      gi_wp2_with (first
      |(gi_at_call 112;go_must (refine (HC.out.inRound l).mono ?_);rintro e w4 ⟨v4,rfl,hO4,hP4,hU4⟩;obtain⟨bb,cc,rfl,hcc,hbb⟩:=hO4.row64 h64'.out;have hqcc:¬ cc=q:=(by omega);have hucc:u<=cc:=(by omega);have z0:=(za_e hI.args.ptr (HBL4.out _ hU4 _ (by omega) (by omega))).cell;have hpb4:=(hU4.block pb (za_a HPB.out) hnpb).trans HPB.out;have y14:=cell_of_row _ _ 1 _ _ _ hpb4;have y24:=cell_of_row _ _ 2 _ _ _ hpb4;simp only [List.getElem?_toArray,List.getElem?_cons_zero,List.getElem?_cons_succ] at y14 y24;have HPB4:=zH hpb4;clear hpb4)
      |((show wpListIn _ _ _ _ _ (Oper.mk (some 58) _ _ _ _ _ :: _) _ _);go_must (refine zb_t rfl _ _ rfl hO4 q t (cc - q) (db dd) t c' (l'.take t) rfl rfl ((hS.upd hU4 (fun y hy _=>by cases hy;exact hdF')).take htn) rfl (by have:=h64'.out;omega) ?_);intro w5 hO5 hb5;obtain⟨ab,cb,eb,hS5,-⟩:=id hO5.sl;injection eb with eb1 eb2 eb3;subst eb1 eb3;rw [<-eb2] at hS5;clear eb2;have hz4:W.heap.size<=w4.heap.size:=hU4.size;have hpbl:=za_a HPB.out;have hptr5:w5.heap[w.heap.size]?=W.heap[w.heap.size]?:=(hb5.block _ (by omega) (by omega)).trans (HBL4.out _ hU4 _ (by omega) (by omega));have z05:=(za_e hI.args.ptr hptr5).cell;have hpb5:=(hb5.block pb (by omega) (by omega)).trans HPB4.out;have y05:=cell_of_row _ _ 0 _ _ _ hpb5;simp only [List.getElem?_toArray,List.getElem?_cons_zero] at y05;clear hpb5)
      |(gi_at_call 53;obtain⟨hP5,hK5,hT5,hU5⟩:=HMID.out w4 w5 bb cc _ hP4 hU4 hO4 hbb hb5;have hcall:=CallsIn.inRound l ((callsIn_wide (n:=1)).2 (zc_d hP5 iz hS5 (HNB.out bb hbb w4) HWQ.out));go_must (refine hcall.mono ?_);rintro e w6 ⟨rfl,F6,hP6,hU6⟩;have hU56:=hU5.trans hU6;have hK56:=HK6.out _ _ _ _ hK5 hT5 hU6;have hXB6:=za_e hX (HBL6.out _ _ hU56 _ (by omega) (by omega));have xX6:=hXB6.cell;have xXf6:=hXB6.frozen))
      all_goals
       have h9:=HOK.out w6 F6 d3 hP6 hU56 hK56 HST.out HRR0
      ·have hct:c'=t:=by assumption
       rw [if_pos hct,show c' - t=0 by omega] at h9
       rw [hz3] at h9;exact h9
      ·have hct:¬ c'=t:=by assumption
       rw [if_neg hct] at h9
       rw [hz3] at h9;exact h9
     ·have t2:(z2 != 0)=true:=by simpa using hz2
      have HRR0:Hid (r=(z2,d3)):=zH (HRR.out.trans (if_neg hz2))
      unfold exTW
      gi_wp2_with (first
      |(gi_at_call 112;go_must (refine (HC.out.inRound l).mono ?_);rintro e w4 ⟨v4,rfl,hO4,hP4,hU4⟩;obtain⟨bb,cc,rfl,hcc,hbb⟩:=hO4.row64 h64'.out;have hqcc:¬ cc=q:=(by omega);have hucc:u<=cc:=(by omega);have z0:=(za_e hI.args.ptr (HBL4.out _ hU4 _ (by omega) (by omega))).cell;have hpb4:=(hU4.block pb (za_a HPB.out) hnpb).trans HPB.out;have y14:=cell_of_row _ _ 1 _ _ _ hpb4;have y24:=cell_of_row _ _ 2 _ _ _ hpb4;simp only [List.getElem?_toArray,List.getElem?_cons_zero,List.getElem?_cons_succ] at y14 y24;have HPB4:=zH hpb4;clear hpb4)
      |((show wpListIn _ _ _ _ _ (Oper.mk (some 58) _ _ _ _ _ :: _) _ _);go_must (refine zb_t rfl _ _ rfl hO4 q t (cc - q) (db dd) t c' (l'.take t) rfl rfl ((hS.upd hU4 (fun y hy _=>by cases hy;exact hdF')).take htn) rfl (by have:=h64'.out;omega) ?_);intro w5 hO5 hb5;obtain⟨ab,cb,eb,hS5,-⟩:=id hO5.sl;injection eb with eb1 eb2 eb3;subst eb1 eb3;rw [<-eb2] at hS5;clear eb2;have hz4:W.heap.size<=w4.heap.size:=hU4.size;have hpbl:=za_a HPB.out;have hptr5:w5.heap[w.heap.size]?=W.heap[w.heap.size]?:=(hb5.block _ (by omega) (by omega)).trans (HBL4.out _ hU4 _ (by omega) (by omega));have z05:=(za_e hI.args.ptr hptr5).cell;have hpb5:=(hb5.block pb (by omega) (by omega)).trans HPB4.out;have y05:=cell_of_row _ _ 0 _ _ _ hpb5;simp only [List.getElem?_toArray,List.getElem?_cons_zero] at y05;clear hpb5)
      |(gi_at_call 53;obtain⟨hP5,hK5,hT5,hU5⟩:=HMID.out w4 w5 bb cc _ hP4 hU4 hO4 hbb hb5;have hcall:=CallsIn.inRound l ((callsIn_wide (n:=1)).2 (zc_d hP5 iz hS5 (HNB.out bb hbb w4) HWQ.out));go_must (refine hcall.mono ?_);rintro e w6 ⟨rfl,F6,hP6,hU6⟩;have hU56:=hU5.trans hU6;have hK56:=HK6.out _ _ _ _ hK5 hT5 hU6;have hE6:=za_e hI.err (HBL6.out _ _ hU56 _ (by omega) (by omega));have c3:=hE6.cell;have f3:=hE6.frozen))
      exact HERR.out w6 F6 d3 z2 hP6 hU56 hK56 HRR0
    ·have t1:(z != 0)=true:=by simpa using hz
     have HRZ:Hid (r=(z,d2)):=by
      refine zH ?_
      rw [HA.out,HNK.out]
      have e1:=HRD1.out
      rw [HIZ.out,HP.out] at e1
      rw [HT.out,HP.out] at ht64
      exact Extent.wr_rerr ht64 e1 hz
     unfold exTW
     gi_wp2_with (gi_at_call 112;go_must (refine (HC.out.inRound l).mono ?_);rintro e w4 ⟨v4,rfl,hO4,hP4,hU4⟩;have hE4:=za_e hI.err (HBL4.out _ hU4 _ (by omega) (by omega));have c3:=hE4.cell;have f3:=hE4.frozen)
     exact HERR.out w4 _ d2 z hP4 hU4 (HK4.out _ hU4) HRZ
   ·have k1:decide ((t:Int) < 64)=false:=by simp;omega
    rcases hwr:Disk.write d1 iz (l'.take t) with⟨z2,d3⟩
    have HWR:=zH hwr
    clear hwr
    have HRR:Hid (r=if z2=0 then Extent.wr f0 o0 (o0+n) (N - (k+1)) (k+1) (l'.drop t) d3 else (z2,d3)):=by
     refine zH ?_
     rw [HA.out,HNK.out]
     have e2:=HWR.out
     rw [HIZ.out,HP.out] at e2
     rw [HT.out,HP.out] at e2 ht64 ⊢
     exact Extent.wr_full ht64 e2
    have hst:d3.st.length=d.st.length:=by
     have e2:=Disk.write_st d1 iz (l'.take t)
     rw [HWR.out] at e2
     simp only at e2
     rw [e2];exact hlen
    have hbl6:∀ (w6:World) (F6:Nat->Prop),Upd F' W F6 w6->∀ q,w.heap.size<=q->q < X+3->w6.heap[q]?=W.heap[q]?:=fun w6 F6 hU q h1 h2=>hU.block q (by omega) (nF' q h1 h2)
    have hk6:∀ (w6:World) (F6:Nat->Prop),Upd F' W F6 w6->KeepsFrom w3.heap.size W w6:=fun w6 F6 h3=>h3.keepsT hI.tight (by omega)
    have HBL6:=zH hbl6
    have HK6:=zH hk6
    have HST:=zH hst
    have HC:=zH ((callsIn_wide (n:=1)).2 (zc_d hP iz (hS.take htn) (fun y hy _=>by cases hy;exact hdF') HWR.out))
    clear hst hbl6 hk6
    by_cases hz2:z2=0
    ·subst hz2
     have HRR0:Hid (r=Extent.wr f0 o0 (o0+n) (N - (k+1)) (k+1) (l'.drop t) d3):=zH (HRR.out.trans (if_pos rfl))
     unfold exTW
     gi_wp2_with (gi_at_call 53;go_must (refine (HC.out.inRound l).mono ?_);rintro e w6 ⟨rfl,F6,hP6,hU6⟩;have hXB6:=za_e hX (HBL6.out _ _ hU6 _ (by omega) (by omega));have xX6:=hXB6.cell;have xXf6:=hXB6.frozen)
     all_goals
      have h9:=HOK.out w6 F6 d3 hP6 hU6 (HK6.out _ _ hU6) HST.out HRR0
     ·have hct:c'=t:=by assumption
      rw [if_pos hct,show c' - t=0 by omega] at h9
      rw [hz3] at h9;exact h9
     ·have hct:¬ c'=t:=by assumption
      rw [if_neg hct] at h9
      rw [hz3] at h9;exact h9
    ·have t2:(z2 != 0)=true:=by simpa using hz2
     have HRR0:Hid (r=(z2,d3)):=zH (HRR.out.trans (if_neg hz2))
     unfold exTW
     gi_wp2_with (gi_at_call 53;go_must (refine (HC.out.inRound l).mono ?_);rintro e w6 ⟨rfl,F6,hP6,hU6⟩;have hE6:=za_e hI.err (HBL6.out _ _ hU6 _ (by omega) (by omega));have c3:=hE6.cell;have f3:=hE6.frozen)
     exact HERR.out w6 F6 d3 z2 hP6 hU6 (HK6.out _ _ hU6) HRR0
  case done =>
   rintro D W hD ⟨F',hI⟩ hK
   obtain⟨l',d1,a',n',c',HA,hP,hlen,hX,hS,hl',hb⟩:=hI.acc
   have hRA:r=(0,d1):=by rw [HA.out,Nat.sub_self];rfl
   have f3:=hI.err.frozen
   have c3:=hI.err.cell
   have HF:=zH (hI.err.set (.int .i64 0))
   have HRA:=zH hRA
   clear hRA
   gi_wp2
   go_wp2
   have hE2:=HF.out
   have hbig:=hI.big
   have hD2:(W.setCell (w.heap.size+1+1+1:Nat) (.int .i64 0)).heap[D]?=some (.deferred (some [])) :=
    (heap_setCell_other _ _ _ _ (show D ≠ w.heap.size+1+1+1 by omega)).trans hK
   have d3:=(za_e hE2 (World.putObj_heap_other (o:=.deferred none) (za_q hE2 hD2 rfl))).cell
   refine⟨by simp,.inl ⟨_,_,rfl,run_takeDeferred hD2,⟨.int .i64 0,by simp [results,Tryz.results108,go_sem,d3],?_⟩⟩⟩
   rw [HRA.out]
   have n3:¬ F' (w.heap.size+1+1+1):=fun e=>by
    rcases hI.lo _ e with e|e
    ·have:=hnF _ e;omega
    ·omega
   have nD:¬ F' D:=fun e=>by
    rcases hI.tight D e with e|e
    ·omega
    ·exact IsCells.not hK rfl e
   exact⟨rfl,F',(hP.other n3 _ _).putO nD _,(hI.upd.setCell (.inr (by omega)) _ _).putO (.inr (by omega)) _⟩
  case stop =>
   rintro D cd k W hD hk hI hK
   have hI2:=hI.putO hmw (o':=.deferred none) (by omega:w.heap.size<=D) hK rfl
   obtain⟨rfl,z,d1,F',HA,hP,hU,hT,hE⟩:=hI2
   have d3:=hE.cell
   gi_wp2
   refine⟨by simp,.inl ⟨_,_,rfl,run_takeDeferred hK,⟨.int .i64 z,by simp [results,Tryz.results108,go_sem,d3],?_⟩⟩⟩
   rw [HA.out]
   exact⟨rfl,F',hP,hU⟩
 ·rw [if_neg hck] at hr
  have HR:=zH hr
  have t1:(Extent.check d.st.length f c off n != 0)=true:=by simpa using hck
  generalize Extent.check d.st.length f c off n=z at *
  clear hr hck
  go_wp2_with fail
  rw [<-HW0.out]
  refine HCK.out.mono ?_;rintro e w1 ⟨rfl,hb1⟩
  have hP1:=hP0.ext hb1
  have hE1:=za_j hE0 hb1
  have c3:=hE1.cell
  have f3:=hE1.frozen
  have HF:=zH (hE1.set (z:Value))
  go_wp2
  have d3:=HF.out.cell
  refine⟨.int .i64 z,by simp [results,Tryz.results108,go_sem,d3],?_⟩
  have hnF:∀ k,w.heap.size<=k->¬ F k:=fun k hk e=>by have:=h.lt k e;omega
  rw [HR.out]
  exact⟨rfl,F,hP1.other (hnF _ (by omega)) _ _,((Upd.of_ext hB0).ext hb1).setCell (.inr (by omega)) _ _⟩
theorem zp_o (h:PD F w g s m fa fn fc d) (f c off:Int) (hf:ib f) (hc:ib c) (ho:ib off) (a:Option Addr) (n ca:Nat) (x:List UInt8) (hx:SlB w a n ca x) (hF:∀ y,a=some y->x ≠ []->¬ F y.block) :
 Calls Tryz.prog 108 #[.pointer g,.agg #[f,c],off,.slice a n ca] w (ExWritePost F w g s m fa fn fc (Extent.write d f c off x)) :=
 callsIn_wide.1 (zj_l h f c off hf hc ho a n ca x hx hF)
end
section
open Go.RowKit
theorem zj_u (f c:Int) (hc:-9223372036854775808<=c/\c<=9223372036854775807) (w:World):Calls Tryz.prog 79 #[.agg #[f,c]] w fun e w'=>e=.returned (.int .i64 (Extent.size c))/\Below w.heap.size w w':=by
 have hb:=(Below.refl _ w).alloc (zN _) (.cells #[f,c] 23)
 obtain⟨h1,h2⟩:=hc
 unfold Extent.size
 by_cases h:c < 0
 ·rw [if_pos (.inl h)]
  go_enter Tryz.func79,Tryz.ntmps79
  go_wp2
  go_ret
  exact⟨rfl,hb⟩
 by_cases h':4096 < c
 ·rw [if_pos (.inr h')]
  go_enter Tryz.func79,Tryz.ntmps79
  go_wp2
  go_ret
  exact⟨rfl,hb⟩
 ·rw [if_neg (by omega)]
  go_enter Tryz.func79,Tryz.ntmps79
  go_wp2
  go_ret
  exact⟨rfl,hb⟩
section
variable {F:Nat->Prop} {w w':World} {g sb cb sc:Nat} {fa:Option Addr} {fn fc:Nat} {d d':Disk.Dk}
set_option maxRecDepth 100000 in
set_option maxHeartbeats 2000000 in
theorem zl_d (h:RD F w g sb cb sc fa fn fc d) (f c:Int) :
 Calls Tryz.prog 138 #[.pointer g,.agg #[f,c]] w fun e w'=>e=.returned (.bool (Extent.valid d.st.length f c))/\Below w.heap.size w w':=by
 have hb:=(Below.refl _ w).alloc (zN _) (.cells #[f,c] 23)
 have hn:=h.ok.max
 have hP:=h.ext hb
 have HQ:∀ q,Calls Tryz.prog 76 #[.pointer g] ((w.alloc (.cells #[f,c] 23)).drewN q) fun e w'=>e=.returned (.int .i64 (d.st.length:Nat))/\w'=(w.alloc (.cells #[f,c] 23)).drewN q:=fun q=>(zg_k (hP.drewN q)).mono (by rintro e w' ⟨rfl,rfl⟩;exact⟨rfl,rfl⟩)
 have hbq:∀ q,Below w.heap.size w ((w.alloc (.cells #[f,c] 23)).drewN q):=fun q=>hb.trans (zj_i _ _ _)
 generalize d.st.length=n at *
 clear hP h
 have HC:=zH HQ
 clear HQ
 have z0:(w.alloc (.cells #[f,c] 23)).cell? w.heap.size=some (f:Value):=by rw [World.cell?_alloc_at _ _ _ _ rfl];rfl
 have z1:(w.alloc (.cells #[f,c] 23)).cell? (w.heap.size 1)=some (c:Value):=by rw [World.cell?_alloc_at _ _ _ _ rfl];rfl
 obtain⟨r,hr⟩:∃ r,r=Extent.valid n f c:=⟨_,rfl⟩
 rw [<-hr]
 unfold Extent.valid at hr
 by_cases h1:0<=f
 ·have t1:decide (0<=f)=true:=decide_eq_true h1
  by_cases h2:1<=c
  ·have t2:decide (1<=c)=true:=decide_eq_true h2
   by_cases h3:c<=(n:Int)
   ·have t3:decide (c<=(n:Int))=true:=decide_eq_true h3
    have hr2:r=decide (f<=(n:Int) - c):=by rw [hr,t1,t2,t3];rfl
    have HR:=zH hr2
    clear hr hr2
    by_cases h4:f<=(n:Int) - c
    case' pos=>have t4:decide (f<=(n:Int) - c)=true:=decide_eq_true h4
    case' neg=>have t4:decide (f<=(n:Int) - c)=false:=decide_eq_false h4
    all_goals
     go_enter Tryz.func138,Tryz.ntmps138
     go_wp2
     go_quiet (first|(go_at_call 76;with_reducible exact Calls.quiet_of_same (HC.out _)))
     go_wp2
     go_ret
     exact⟨by rw [HR.out,t4];rfl,hbq _⟩
   ·have t3:decide (c<=(n:Int))=false:=decide_eq_false h3
    have hr2:r=false:=by rw [hr,t1,t2,t3];rfl
    subst hr2;clear hr
    go_enter Tryz.func138,Tryz.ntmps138
    go_wp2
    go_quiet (first|(go_at_call 76;with_reducible exact Calls.quiet_of_same (HC.out _)))
    go_wp2
    go_ret
    exact⟨rfl,hbq _⟩
  ·have t2:decide (1<=c)=false:=decide_eq_false h2
   have hr2:r=false:=by rw [hr,t1,t2];rfl
   subst hr2;clear hr
   go_enter Tryz.func138,Tryz.ntmps138
   go_wp2
   go_quiet (fail)
   go_wp2
   go_ret
   exact⟨rfl,hbq _⟩
 ·have t1:decide (0<=f)=false:=decide_eq_false h1
  have hr2:r=false:=by rw [hr,t1];rfl
  subst hr2;clear hr
  go_enter Tryz.func138,Tryz.ntmps138
  go_wp2
  go_quiet (fail)
  go_wp2
  go_ret
  exact⟨rfl,hbq _⟩
set_option maxHeartbeats 1000000 in
theorem zl_c (h:RD F w g sb cb sc fa fn fc d) (f c off len:Int) (hc:ib c) (ho:ib off) (hl:ib len) :
 Calls Tryz.prog 134 #[.pointer g,.agg #[f,c],off,len] w fun e w'=>e=.returned (.int .i64 (Extent.check d.st.length f c off len))/\Below w.heap.size w w':=by
 have hb:=(Below.refl _ w).alloc (zN _) (.cells #[f,c] 23)
 have hV:=zH (zl_d (h.ext ((Below.refl _ w).alloc (zN _) (.cells #[f,c] 23))) f c)
 have hS:=zH (zj_u f c hc)
 obtain⟨r,hr⟩:∃ r,r=Extent.check d.st.length f c off len:=⟨_,rfl⟩
 rw [<-hr]
 unfold Extent.check at hr
 have hsw:∀ sz:Int,(if off < 0\/len < 0\/sz < off\/sz - off < len then (2:Int) else 0)=if off < 0\/len < 0\/sz < len\/sz - len < off then 2 else 0:=fun sz=>by
  by_cases hq:off < 0\/len < 0\/sz < off\/sz - off < len
  ·rw [if_pos hq,if_pos (by omega)]
  ·rw [if_neg hq,if_neg (by omega)]
 rw [hsw] at hr
 clear hsw
 obtain⟨ho1,ho2⟩:=ho
 obtain⟨hl1,hl2⟩:=hl
 have hsz:0<=Extent.size c/\Extent.size c<=262144:=by unfold Extent.size;split <;> omega
 generalize Extent.valid d.st.length f c=v at *
 generalize Extent.size c=sz at *
 obtain⟨hs0,hs1⟩:=hsz
 cases v with
|false =>
  rw [if_neg (by decide)] at hr
  have HR:=zH hr;clear hr
  go_enter Tryz.func134,Tryz.ntmps134
  go_wp2_with (go_at_call 138;refine hV.out.mono ?_;rintro e w1 ⟨rfl,hb1⟩)
  go_ret
  exact⟨by rw [HR.out];rfl,hb.trans (Below.mono hb1 (by simp))⟩
|true =>
  rw [if_pos rfl] at hr
  have hkeep:∀ W:World,Below (w.heap.size+1) (w.alloc (.cells #[f,c] 23)) W->W.cell? w.heap.size=some (f:Value)/\W.cell? (w.heap.size 1)=some (c:Value)/\Below w.heap.size w W/\w.heap.size+1<=W.heap.size:=by
   intro W hW
   refine⟨(hW.cell (p:=w.heap.size) (by simp)).trans ?_,(hW.cell (p:=(w.heap.size 1)) (by simp)).trans ?_,hb.trans (hW.mono (by omega)),by have:=hW.size;simpa using this⟩
   ·rw [World.cell?_alloc_at _ _ _ _ rfl];rfl
   ·rw [World.cell?_alloc_at _ _ _ _ rfl];rfl
  have HK:=zH hkeep
  clear hkeep
  have hz:(w.alloc (.cells #[f,c] 23)).heap.size=w.heap.size+1:=by simp
  have HZ:=zH hz
  clear hz
  by_cases h1:off < 0
  ·rw [if_pos (.inl h1)] at hr
   have HR:=zH hr;clear hr
   go_enter Tryz.func134,Tryz.ntmps134
   go_wp2_with (go_at_call 138;refine hV.out.mono ?_;rintro e w1 ⟨rfl,hb1⟩;rw [HZ.out] at hb1;obtain⟨x0,x1,hb2,hz2⟩:=HK.out _ hb1)
   go_ret
   exact⟨by rw [HR.out];rfl,hb2⟩
  by_cases h2:len < 0
  ·rw [if_pos (.inr (.inl h2))] at hr
   have HR:=zH hr;clear hr
   have t1:decide (off < 0)=false:=decide_eq_false h1
   go_enter Tryz.func134,Tryz.ntmps134
   go_wp2_with (go_at_call 138;refine hV.out.mono ?_;rintro e w1 ⟨rfl,hb1⟩;rw [HZ.out] at hb1;obtain⟨x0,x1,hb2,hz2⟩:=HK.out _ hb1)
   go_ret
   exact⟨by rw [HR.out];rfl,hb2⟩
  have t1:decide (off < 0)=false:=decide_eq_false h1
  have t2:decide (len < 0)=false:=decide_eq_false h2
  have b1:0<=off:=by omega
  have b2:0<=len:=by omega
  by_cases h3:sz < len
  ·rw [if_pos (.inr (.inr (.inl h3)))] at hr
   have HR:=zH hr;clear hr
   go_enter Tryz.func134,Tryz.ntmps134
   go_wp2_with (first|(go_at_call 138;refine hV.out.mono ?_;rintro e w1 ⟨rfl,hb1⟩;rw [HZ.out] at hb1;obtain⟨x0,x1,hb2,hz2⟩:=HK.out _ hb1)|(go_at_call 79;refine (hS.out _).mono ?_;rintro e w3 ⟨rfl,hb3⟩;have hb4:=hb1.trans (Below.mono hb3 hz2);obtain⟨y0,y1,hb5,hz5⟩:=HK.out _ hb4))
   go_ret
   exact⟨by rw [HR.out];rfl,hb5⟩
  have t3:decide (sz < len)=false:=decide_eq_false h3
  have b3:0<=sz - len:=by omega
  by_cases h4:sz - len < off
  case' pos=>rw [if_pos (.inr (.inr (.inr h4)))] at hr
  case' neg=>rw [if_neg (by omega)] at hr
  all_goals
   have HR:=zH hr;clear hr
   go_enter Tryz.func134,Tryz.ntmps134
   go_wp2_with fail
   refine hV.out.mono ?_;rintro e w1 ⟨rfl,hb1⟩;rw [HZ.out] at hb1;obtain⟨x0,x1,hb2,hz2⟩:=HK.out _ hb1
   go_wp2_with fail
   refine (hS.out _).mono ?_;rintro e w3 ⟨rfl,hb3⟩;have hb4:=hb1.trans (Below.mono hb3 hz2);obtain⟨y0,y1,hb5,hz5⟩:=HK.out _ hb4
   go_wp2_with fail
   refine (hS.out _).mono ?_;rintro e w6 ⟨rfl,hb6⟩;have hb7:=hb4.trans (Below.mono hb6 hz5);obtain⟨z0,z1,hb8,hz8⟩:=HK.out _ hb7
   go_wp2_with fail
   go_ret
   exact⟨by rw [HR.out];rfl,hb8⟩
end
end
end Go.Proofs.YtmanejniepghlaaGreatDoor
