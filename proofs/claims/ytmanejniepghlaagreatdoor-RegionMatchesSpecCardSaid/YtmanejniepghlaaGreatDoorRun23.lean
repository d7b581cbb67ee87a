import Derived.Test.YtmanejniepghlaaGreatDoorRun18
import Derived.Deep.RegionLaw
import Derived.Test.YtmanejniepghlaaGreatDoorRun17
import Derived.Test.YtmanejniepghlaaGreatDoorRun22
import Derived.Test.YtmanejniepghlaaGreatDoorRun2
set_option maxHeartbeats 16000000
set_option maxRecDepth 100000
namespace Go.Proofs.YtmanejniepghlaaGreatDoor
section
open Go.RowKit
theorem Vc {w:World} {b:Array Oper} {o:Oper} {a:Act} {K:Act->World->Prop} {Q:Exit->Act->World->Prop} {E:Prop} (hgd:o.guard=none) (s x:Operand)
 (ho:o.op=.call { callee:=.builtin .append,args:=#[s,x],argTypes:=#[42,42] }) (d e c:Value) (w':World) (hs:a.eval s=d) (i:a.eval x=e)
 (f:(Builtin.append_ #[42,42] o.type #[d,e]).run Tryz.prog w=.ok c w') (h:K (a.put o.dst c) w') :
 if Region.wanted o (yielded b a.tmps)=true then Oper.wp Tryz.prog o a w K Q else E:=by
 have g:Region.wanted o (yielded b a.tmps)=true:=by simp [Region.wanted,hgd]
 rw [if_pos g]
 unfold Oper.wp
 simp [execOp,ho,resolve,invoke,builtin,hs,i,f,Result.andThen]
 exact h
theorem Cv (base g c i m:Nat) (L:List AJ) (w:World) (h:AR base w (.slice g (m+1) c) L) (Y:L.length=m+1) (hi:i < m+1) (hn:m<=1000000) :
 Calls Tryz.prog 164 #[.slice g (m+1) c,i,.int .i64 ((i:Int)+1)] w
  fun e Z=>e=.returned (.slice g m c)/\AR base Z (.slice g m c) (L.take i ++ L.drop (i+1))/\w.grownBy Z (some g):=by
 obtain⟨i9,I,X,t,-⟩:=info_parts GC
 have za:∃ d,w.heap[g]?=some (.cells d 34 (0,0))/\d.size=c * 3/\m+1<=c/\d.toList.take ((m+1) * 3)=L.flatMap pl/\c<=maxLen/\base<=g:=by
  rcases h.2 with⟨A,-⟩|⟨g2,zf,d,A,F,hc,J,G,H,o⟩
  ·cases A
  ·rw [Y] at A J o;cases A;exact⟨d,hc,H,J,o,G,F⟩
 obtain⟨d,s,H,J,o,G,F⟩:=za
 obtain⟨D,p⟩:∃ D,(L.drop (i+1)).flatMap pl=D:=⟨_,rfl⟩
 have x:D.length=(m - i) * 3:=by rw [<-p,Qf,List.length_drop,Y];omega
 have R:∀ j u,D[j]?=some u->d[(i+1) * 3+j]?=some u:=by
  intro j u n
  have zi:=(List.getElem?_eq_some_iff.1 n).1
  rw [<-p,Xs L (by omega),List.getElem?_drop,<-o,List.getElem?_take_of_lt (by omega),Array.getElem?_toList] at n
  exact n
 have Q:∀ v ∈ D,v.oneCell'=true:=by rw [<-p];exact Vq _
 obtain⟨l,z⟩:∃ l,(Builtin.zeroCells (Value.agg #[.string ⟨#[]⟩,.bool false,.int .i64 0]).cells 1).toList=l:=⟨_,rfl⟩
 have ze:l.length=1 * 3:=by rw [<-z];exact Fv _
 have W:∀ v ∈ l,v.oneCell'=true:=by rw [<-z];exact Fw _
 obtain⟨b,r⟩:∃ b,(d.toList.take (i * 3) ++ D ++ d.toList.drop (i * 3+D.length)).toArray=b:=⟨_,rfl⟩
 have T:b.size=c * 3:=by rw [<-r];simp only [List.size_toArray,List.length_append,List.length_take,List.length_drop,Array.length_toList];omega
 have U:b.toList.take (m * 3)=(L.take i ++ L.drop (i+1)).flatMap pl:=by
  rw [<-r,List.flatMap_append,p,Ys L (by omega),<-o,List.take_take,show min (i * 3) ((m+1) * 3)=i * 3 by omega]
  rw [List.toList_toArray,List.take_left' (by rw [List.length_append,List.length_take,Array.length_toList];omega)]
 have C:∀ (a:Addr) (k:Nat) (f:TypeId),(∀ j u,D[j]?=some u->w.drew.cell? (a.add j)=some u) →
  (Builtin.append_ #[42,42] f #[.slice g i c,.slice (some a) (m - i) k]).run Tryz.prog w.drew=.ok (.slice g m c) (w.drew.setRow g b):=by
  intro a k f hs
  have:=run_append_room (P:=Tryz.prog) w.drew 42 f 34 i9 Tryz.underlying42 I g i c d s a (m - i) k D (by rw [t,x]) hs Q (by omega) (by rw [t,x];omega)
  rw [this,t,r,show i+(m - i)=m by omega]
 have N:∀ j u,D[j]?=some u->w.drew.cell? (((g ((i+1) * 3)):Addr).add j)=some u:=by
  intro j u n
  rw [Addr.add_lit]
  exact (cell_of_row w g _ _ _ _ s).trans (R j u n)
 have y:(w.drew.setRow g b).heap[g]?=some (.cells b 34 (0,0)):=setRow_heap w.drew g d b _ _ s
 have zc:∀ f,(Builtin.clear_ #[42] f #[.slice (g (m * 3)) 1 (c - m)]).run Tryz.prog (w.drew.setRow g b)=.ok (.tuple #[]) ((w.drew.setRow g b).setCells g (m * 3) l):=fun f =>
  Gn _ _ 34 f (Value.agg #[.string ⟨#[]⟩,.bool false,.int .i64 0]) Tryz.underlying42 (fun w=>by simp [zeroValue,typeInfo,I,X]) g (m * 3) 1 (c - m) (by omega) l z
   (fun q hq=>by rw [cell_of_row _ _ _ _ _ _ y,Array.getElem?_eq_getElem (by omega)];rfl) (fun q hq=>frozen_of_row _ _ _ _ _ y) W
 have M:=zH (show AR base ((w.drew.setRow g b).setCells g (m * 3) l) (.slice g m c) (L.take i ++ L.drop (i+1))/\w.grownBy ((w.drew.setRow g b).setCells g (m * 3) l) (some g) from by
  have hr:=Qi g 34 l b (m * 3) _ y
  have K:(L.take i ++ L.drop (i+1)).length=m:=by rw [List.length_append,List.length_take,List.length_drop];omega
  have zd:w.grownBy (w.drew.setRow g b) (some g):=⟨rfl,rfl,rfl,by simp,fun k _ hk=>setRow_other w.drew g k b (fun e=>hk (by rw [e]))⟩
  refine⟨⟨by rw [Qf],.inr ⟨g,c,_,by rw [K],F,hr,by rw [K];omega,G,by rw [Qr];exact T,?_⟩⟩,Oz zd (Qm g l (m * 3) _)⟩
  rw [K,Qn _ _ _ (by omega),List.append_assoc,List.take_left' (by rw [List.length_take,Array.length_toList];omega),U])
 have zg:(0:Int)<=(i:Int):=by omega
 have e1:(i:Int)<=(i:Int)+1:=by omega
 have e2:(i:Int)+1<=((m+1:Nat):Int):=by omega
 have e3:((m+1:Nat):Int)<=(c:Int):=by omega
 have e4:¬ c=i:=by omega
 have e6:i<=c:=by omega
 have z1:(0:Int)<=(i:Int)+1:=by omega
 have z2:i<=m:=by omega
 have e7:(i:Int)<=(c:Int):=by omega
 have e8:(m:Int)<=(c:Int):=by omega
 have zh:(i:Int)<=((m+1:Nat):Int):=by omega
 have e5:¬ c=m:=by omega
 by_cases zb:c=i+1
 case' pos=>
  obtain rfl:i=m:=by omega
  have O:D=[]:=List.eq_nil_of_length_eq_zero (by rw [x];simp)
  have B:=fun f=>C g 0 f (by rw [O];intro j u n;cases n)
  rw [Nat.sub_self] at B
  subst zb
  rw [show i+1 - i=1 by omega] at zc
  clear O
 case' neg=>have B:=fun f=>C (g ((i+1) * 3)) (c - (i+1)) f N
 all_goals
  clear C N R Q p x r T U y z W ze s o H h I X t
  go_in
  go_wp2_with fail
  go_region_law (refine Vc rfl (.tmp 22) (.tmp 25) rfl _ _ _ _ (by simp [Act.eval,Act.put]) (by simp [Act.eval,Act.put]) (B _) ?_)
  go_wp2_with fail
  go_ret
  exact⟨rfl,M.out.1,M.out.2⟩
end
section
open Go.RowKit
variable {w w':World} {v:Value} {B base g n:Nat} {c ck z:Int} {L:List AJ} {e:Ending}
theorem WJ {W a:World} (d:Below W.heap.size W a):(∀ b o,b < W.heap.size->a.cell? (b o)=W.cell? (b o))/\(∀ b o,b < W.heap.size->a.frozen? (b o)=W.frozen? (b o)) :=
 ⟨fun b o h=>d.cell (p:=(b o)) h,fun b o h=>d.frozen (p:=(b o)) h⟩
theorem WK (a:Option Addr) (n c:Nat) (l:List AJ) (w:World) (h:AT w a n c l) (hn:n<=1000000) :
 Calls Tryz.prog 161 #[.slice a n c] w fun e w'=>∃ a9 b,e=.returned (.slice a9 n b)/\AR w.heap.size w' (.slice a9 n b) l/\Below w.heap.size w w' :=
 (Wn a n c l w h hn).mono fun e w' ⟨v,i,ho,f⟩=>by
  obtain⟨a9,b,d,-,-⟩:=ho.sl
  rw [h.len] at d
  subst d
  exact⟨a9,b,i,ho,f⟩
theorem AE.BO (d:AE w B c v) (a:Int) (b:Value):AE ((w.setCell B (a:Value)).setCell (B 1) b) B a b :=
 heap_setCell_same _ B 1 _ _ _ (heap_setCell_same _ B 0 _ _ _ d)
theorem AE.other (b:AE w B c v) (a:g ≠ B) (i:Nat) (u:Value):AE (w.setCell (g i) u) B c v :=
 (heap_setCell_other _ _ _ _ (fun e=>a e.symm)).trans b
theorem AE.AI (a:AE w B c v) (e:w'.heap[B]?=w.heap[B]?):AE w' B c v:=e.trans a
theorem AR.set {l:List AJ} (h:AR base w v l) (a:v.ownBlock ≠ some g) (i:Nat) (u:Value):AR base (w.setCell (g i) u) v l :=
 h.AI fun k b=>heap_setCell_other _ _ _ _ (fun e=>a (by rw [b,e]))
theorem AR.ZF {a:Option Addr} {c:Nat} (h:AR base w (.slice a n c) L):AT w a n c L:=by
 obtain⟨d,f,b,hs,-⟩:=h.sl
 cases b
 exact hs
theorem AR.WZ {c:Nat} (h:AR base w (.slice g n c) L) {k:Nat} (r:k < n) :
 (∃ u,w.cell? (g (k * 3))=some u)/\(∃ u,w.cell? (g (k * 3+1))=some u)/\(∃ u,w.cell? (g (k * 3+2))=some u)/\(∀ j,w.frozen? (g j)=false)/\g < w.heap.size/\base<=g/\n<=c/\c<=maxLen:=by
 rcases h.2 with⟨d,-⟩|⟨p,cap,m,d,l,b,i,f,o,-⟩
 ·cases d
 ·cases d
  have a:∀ j,j < 3->∃ u,w.cell? (g (k * 3+j))=some u:=fun j q=>by
   rw [cell_of_row _ _ _ _ _ _ b,Array.getElem?_eq_getElem (by omega)];exact⟨_,rfl⟩
  exact⟨a 0 (by omega),a 1 (by omega),a 2 (by omega),fun j=>frozen_of_row _ _ _ _ _ b,Qa b,l,i,f⟩
def DT (ck:Int) (L:List AJ) (z:Int) (w:World) (e:Ending) (w':World):Prop:=∃ v,e=.returned (.tuple #[sv (AN.ack ck z) v,z])/\AR w.heap.size w' v L/\AP w w'
theorem DT.bad (d:z ≠ 0) (b:e=.returned (.tuple #[.agg #[.int .i64 0,.slice none 0 0],z])) (a:AP w w'):DT ck [] z w e w' :=
 ⟨.slice none 0 0,by rw [b];unfold sv AN.ack;rw [if_neg d],AR.nil _ _,a⟩
theorem DT.of {a:List AJ} {u:BS} {cap:Int} (h:AN.apply ck L u cap=(a,z)) (b:DT ck a z w e w'):DT ck (AN.apply ck L u cap).1 (AN.apply ck L u cap).2 w e w':=by rw [h];exact b
theorem DT.good (b:e=.returned (.tuple #[.agg #[ck,v],.int .i64 0])) (ho:AR w.heap.size w' v L) (a:AP w w'):DT ck L 0 w e w' :=
 ⟨v,by rw [b];unfold sv AN.ack;rw [if_pos rfl],ho,a⟩
theorem Fl (ck:Int) (a:Option Addr) (n c:Nat) (L:List AJ) (u:BS) (cap:Int) (w:World) (h:AT w a n c L) (hn:n<=100000) (hL:∀ p ∈ L,p.h.length<=1000000) (hu:u.p.h.length<=1000000) :
 Calls Tryz.prog 116 #[.agg #[ck,.slice a n c],uv u,cap] w (DT ck (AN.apply ck L u cap).1 (AN.apply ck L u cap).2 w):=by
 have xg:=(Below.refl w.heap.size w).alloc (zN _) (.cells #[ck,.slice a n c] 44)
 have vc:=AE.new w ck (.slice a n c)
 have vi:(w.alloc (.cells #[ck,.slice a n c] 44)).heap.size=w.heap.size+1:=by simp
 have xt:∀ o,AP (w.alloc (.cells #[ck,.slice a n c] 44)) ((w.alloc (.cells #[ck,.slice a n c] 44)).alloc o):=fun o=>(AP.refl _).alloc o
 have xd:=BV.new (w.alloc (.cells #[ck,.slice a n c] 44)) u.k (str u.p.h) u.p.s u.p.x
 have zb:=xg.alloc xg.size (.cells #[u.k,.string (str u.p.h),.bool u.p.s,u.p.x] 36)
 have vd:=vc.ext (xt (.cells #[u.k,.string (str u.p.h),.bool u.p.s,u.p.x] 36))
 rw [vi] at xd
 have vj:((w.alloc (.cells #[ck,.slice a n c] 44)).alloc (.cells #[u.k,.string (str u.p.h),.bool u.p.s,u.p.x] 36)).heap.size=w.heap.size+2:=by simp
 have X:=AE.new ((w.alloc (.cells #[ck,.slice a n c] 44)).alloc (.cells #[u.k,.string (str u.p.h),.bool u.p.s,u.p.x] 36)) 0 (.slice none 0 0)
 rw [vj] at X
 have P:AP ((w.alloc (.cells #[ck,.slice a n c] 44)).alloc (.cells #[u.k,.string (str u.p.h),.bool u.p.s,u.p.x] 36)) _:=(AP.refl _).alloc (.cells #[.int .i64 0,.slice none 0 0] 44)
 have zv:=zb.alloc zb.size (.cells #[.int .i64 0,.slice none 0 0] 44)
 have ye:=vd.ext P
 have yf:=xd.ext P
 have yn:(((w.alloc (.cells #[ck,.slice a n c] 44)).alloc (.cells #[u.k,.string (str u.p.h),.bool u.p.s,u.p.x] 36)).alloc (.cells #[.int .i64 0,.slice none 0 0] 44)).heap.size=w.heap.size+3:=by simp
 have yl:=h.ext zv
 have yc:=zH (fun W (hs:AT W a n c L)=>Xo ck a n c L W hs hL)
 have HV:=zH (fun W=>Ye true u hu W)
 obtain⟨sb,xk⟩:∃ b,AN.AK ck L=b:=⟨_,rfl⟩
 obtain⟨vb,xl⟩:∃ b,AN.AB u=b:=⟨_,rfl⟩
 rw [xk] at yc
 rw [xl] at HV
 have za:=zH xk
 have zf:=zH xl
 have T:=zH h.len
 have HL:=zH hL
 have vt:=zH hu
 unfold uv uc at HV
 unfold uv uc
 obtain⟨sh,ym⟩:∃ s,str u.p.h=s:=⟨_,rfl⟩
 obtain⟨ps,yj⟩:∃ s,u.p.s=s:=⟨_,rfl⟩
 obtain⟨px,yk⟩:∃ s,u.p.x=s:=⟨_,rfl⟩
 obtain⟨k,j⟩:∃ s,u.k=s:=⟨_,rfl⟩
 rw [ym,yj,yk,j] at HV zv ye yf X yn yl
 rw [ym,yj,yk,j]
 obtain⟨q,xe⟩:∃ q,((w.alloc (.cells #[ck,.slice a n c] 44)).alloc (.cells #[k,.string sh,.bool ps,px] 36)).alloc (.cells #[.int .i64 0,.slice none 0 0] 44)=q:=⟨_,rfl⟩
 rw [xe] at zv ye yf X yn yl
 have yy:=zH xe
 have zk:=zH zv
 have vq:=zH ye
 have vs:=zH yf
 have vp:=zH X
 have yz:=zH yn
 have ya:=zH yl
 have Y:=zH (And.intro ym (And.intro yj (And.intro yk j)))
 clear ym yj yk j xe xg zb zv vc vd ye xd yf X vi vj yn yl xt P xk xl h hL hu
 have R:=zH (show ∀ W,AP q W->AE W w.heap.size ck (.slice a n c)/\BV W (w.heap.size+1) k sh ps px/\AE W (w.heap.size+2) 0 (.slice none 0 0) from fun W e=>⟨vq.out.ext e,vs.out.ext e,vp.out.ext e⟩)
 cases sb with
|false =>
  have l:=zH (AN.FZ (c:=ck) (L:=L) (u:=u) (cap:=cap) (.inl za.out))
  go_in
  go_wp2_with fail
  rw [yy.out]
  refine (yc.out _ ya.out).mono ?_;rintro e w4 ⟨rfl,U⟩
  obtain⟨hs,hu,hr⟩:=R.out _ U
  obtain⟨⟨J,K⟩,-,H⟩:=hs.al
  obtain⟨⟨M,r,N,O⟩,-,I⟩:=hu.al
  obtain⟨⟨F,G⟩,A,C⟩:=hr.al
  have yx:=zH hr
  clear hs hu hr
  go_wp2_with fail
  refine DO rfl rfl ((yx.out).BO 0 (.slice none 0 0)) rfl rfl (DT.of l.out (DT.bad (by decide) rfl ?_))
  exact ((zk.out.trans (Below.mono U zk.out.size)).setCell (p:=(w.heap.size+2:Nat)) (Nat.le_add_right _ _) _).setCell (p:=((w.heap.size+2) 1)) (Nat.le_add_right _ _) _
|true =>
  cases vb with
 |false =>
   have l:=zH (AN.FZ (c:=ck) (L:=L) (u:=u) (cap:=cap) (.inr zf.out))
   go_in
   go_wp2_with fail
   rw [yy.out]
   refine (yc.out _ ya.out).mono ?_;rintro e w4 ⟨rfl,U⟩
   obtain⟨hs,hu,hr⟩:=R.out _ U
   obtain⟨⟨J,K⟩,-,H⟩:=hs.al
   obtain⟨⟨M,r,N,O⟩,-,I⟩:=hu.al
   obtain⟨⟨F,G⟩,A,C⟩:=hr.al
   clear hs hu hr
   go_wp2_with fail
   refine (HV.out _).mono ?_;rintro e t ⟨rfl,yd⟩
   have zj:AP q t:=AP.step yd U
   clear J K M r N O F G A H I C
   obtain⟨hs,hu,hr⟩:=R.out _ zj
   obtain⟨⟨J,K⟩,-,H⟩:=hs.al
   obtain⟨⟨M,r,N,O⟩,-,I⟩:=hu.al
   obtain⟨⟨F,G⟩,A,C⟩:=hr.al
   have yx:=zH hr
   clear hs hu hr
   go_wp2_with fail
   refine DO rfl rfl ((yx.out).BO 0 (.slice none 0 0)) rfl rfl (DT.of l.out (DT.bad (by decide) rfl ?_))
   exact ((zk.out.trans (Below.mono zj zk.out.size)).setCell (p:=(w.heap.size+2:Nat)) (Nat.le_add_right _ _) _).setCell (p:=((w.heap.size+2) 1)) (Nat.le_add_right _ _) _
 |true =>
   go_in
   go_wp2_with fail
   rw [yy.out]
   refine (yc.out _ ya.out).mono ?_;rintro e w4 ⟨rfl,U⟩
   obtain⟨hs,hu,hr⟩:=R.out _ U
   obtain⟨⟨J,K⟩,-,H⟩:=hs.al
   obtain⟨⟨M,r,N,O⟩,-,I⟩:=hu.al
   obtain⟨⟨F,G⟩,A,C⟩:=hr.al
   clear hs hu hr
   go_wp2_with fail
   refine (HV.out _).mono ?_;rintro e t ⟨rfl,yd⟩
   have zj:AP q t:=AP.step yd U
   clear J K M r N O F G A H I C
   obtain⟨hs,hu,hr⟩:=R.out _ zj
   obtain⟨⟨J,K⟩,-,H⟩:=hs.al
   obtain⟨⟨M,r,N,O⟩,-,I⟩:=hu.al
   obtain⟨⟨F,G⟩,A,C⟩:=hr.al
   clear hs hu hr
   have zi:q.heap.size<=t.heap.size:=zj.size
   have ze:=zH (show ∀ W,AP q W->AP q W/\W.cell? w.heap.size=some (ck:Value)/\W.cell? (w.heap.size 1)=some (.slice a n c)/\w.heap.size < W.heap.size from fun W e=>⟨e,(R.out W e).1.cells.1,(R.out W e).1.cells.2,Qa (R.out W e).1⟩)
   have yb:=zH (show ∀ W (p:Addr) u,AP q W->q.heap.size<=p.block->AP q (W.setCell p u) from fun W p u e hp=>Below.setCell e hp u)
   have xn:=zH (fun W (e:AP q W)=>WK a n c L W (ya.out.ext e) (by omega))
   go_wp2_with fail
   go_region_held3 (fun w'=>AP q w'/\w'.cell? w.heap.size=some (ck:Value)/\w'.cell? (w.heap.size 1)=some (.slice a n c)/\w.heap.size < w'.heap.size) (first|assumption|exact ze.out _ P|exact ze.out _ (AP.drew (by assumption))|exact ze.out _ (AP.step (by assumption) (And.left (by assumption)))|exact ze.out _ (AP.alloc (And.left (by assumption)) _)|exact ze.out _ (AP.alloc P _)|exact ze.out _ (yb.out _ _ _ (yb.out _ _ _ P zi) zi)) (first|(go_at_call 161;go_must (refine (xn.out _ (And.left (by assumption))).mono ?_);rintro e r ⟨a9,f,rfl,ho,zb⟩;obtain⟨hc,hf⟩:=WJ zb;have P:AP q r:=AP.step zb (And.left (by assumption))))
   all_goals
    rename_i hHeld0;clear hHeld0
   case' _=>
    have hO:=(ho.mono (b':=w.heap.size+3) (by have:=yz.out;have:=zi;exact Nat.le_trans (by omega) (show t.heap.size<=t.drew.heap.size from zN _))).alloc (.cells #[ck,.slice a9 n f] 44)
    have zo:=AE.new r ck (.slice a9 n f)
    have zm:AP q (r.alloc (.cells #[ck,.slice a9 n f] 44)):=P.alloc _
    have vf:w.heap.size+3<=r.heap.size:=by have:=yz.out;have:=P.size;omega
    have zc:(Value.slice a9 n f).ownBlock ≠ some r.heap.size:=fun e=>by have:=(ho.lt _ e).2;omega
    obtain⟨WF,yg⟩:∃ WF,r.alloc (.cells #[ck,.slice a9 n f] 44)=WF:=⟨_,rfl⟩
    obtain⟨g,hg⟩:∃ g,r.heap.size=g:=⟨_,rfl⟩
   rotate_left
   case' _=>
    have vw:=AE.new t 0 (.slice none 0 0)
    have xm:(t.alloc (.cells #[.int .i64 0,.slice none 0 0] 44)).drew.heap.size=t.heap.size+1:=by simp
    have vx:AE r t.heap.size 0 (.slice none 0 0):=(zb.block _ (by rw [xm];exact Nat.lt_succ_self _)).trans vw
    have vf:w.heap.size+3<=t.heap.size:=by have:=yz.out;have:=zi;omega
    have zc:(Value.slice a9 n f).ownBlock ≠ some t.heap.size:=fun e=>by have:=(ho.lt _ e).1;rw [xm] at this;omega
    have hO:=((ho.mono (b':=w.heap.size+3) (by rw [xm];omega)).set zc 0 (ck:Value)).set zc 1 (.slice a9 n f)
    have zo:=vx.BO ck (.slice a9 n f)
    have zm:AP q ((r.setCell t.heap.size (ck:Value)).setCell (t.heap.size 1) (.slice a9 n f)):=yb.out _ _ _ (yb.out _ _ _ P zi) zi
    obtain⟨WF,yg⟩:∃ WF,(r.setCell t.heap.size (ck:Value)).setCell (t.heap.size 1) (.slice a9 n f)=WF:=⟨_,rfl⟩
    obtain⟨g,hg⟩:∃ g,t.heap.size=g:=⟨_,rfl⟩
   all_goals
    rw [yg] at hO zo zm
    rw [hg] at zo vf zc
    rw [yg,hg]
    clear yg hg ho zb hc hf P U yd zj zi J K M N O F G A H I C ze xn
    have xy:Below w.heap.size w WF:=zk.out.trans (Below.mono zm zk.out.size)
    have yv:=zH (fun W (hs:AT W a9 n f L)=>Pc a9 n f L u.p.h W hs (by omega) ((AN.BF ck L).1 za.out).2.2.2.2 HL.out vt.out)
    rw [Y.out.1] at yv
    have xv:=zH (BA.OE L u.p.h)
    have zz:=zH (show BA.hit L u.p.h=true->BA.lo L u.p.h < L.length from fun e=>BA.OF ((AN.BF ck L).1 za.out).2.2.2.2 e)
    obtain⟨i,hi⟩:∃ i,BA.lo L u.p.h=i:=⟨_,rfl⟩
    obtain⟨hit,zy⟩:∃ b,BA.hit L u.p.h=b:=⟨_,rfl⟩
    rw [hi,zy] at yv
    rw [hi] at xv
    rw [hi,zy] at zz
    have HI:=zH hi
    have zp:=zH zy
    clear hi zy
    obtain⟨hs,hu,hr⟩:=R.out _ zm
    obtain⟨⟨J,K⟩,-,H⟩:=hs.al
    obtain⟨⟨M,yo,N,O⟩,-,I⟩:=hu.al
    obtain⟨⟨F,G⟩,A,C⟩:=hr.al
    obtain⟨⟨o0,o1⟩,fo,lo⟩:=zo.al
    have vk:=zH hO.ZF
    have HO:=zH hO
    have vr:=zH zo
    have xs:=zH xy
    have xu:=zH zm
    clear hs hu hr hO zo xy zm
    go_wp2_with fail
    refine (yv.out _ vk.out).mono ?_;rintro e Q ⟨rfl,zt⟩
    have yr:AP q Q:=xu.out.trans (zt.mono xu.out.size)
    have xo:Below w.heap.size w Q:=xs.out.trans (zt.mono xs.out.size)
    have va:=HO.out.ext zt
    have ys:=vr.out.ext zt
    clear J K M yo N O F G A H I C o0 o1 fo lo
    obtain⟨hs,hu,hr⟩:=R.out _ yr
    obtain⟨⟨J,K⟩,-,H⟩:=hs.al
    obtain⟨⟨M,yo,N,O⟩,-,I⟩:=hu.al
    obtain⟨⟨F,G⟩,A,C⟩:=hr.al
    obtain⟨⟨o0,o1⟩,fo,lo⟩:=ys.al
    have zl:=zH hr
    have kc:=zH hu
    have y:=zH va
    have zx:=zH ys
    have zd:=zH xo
    have ka:=zH yr
    clear hs hu hr va ys xo yr zt
    have ni:(0:Int)<=(i:Int):=by omega
    rcases AN.MP zf.out with j|j
    ·have xi:=Y.out.2.2.2.symm.trans j
     subst xi
     cases hit with
    |true =>
      have yh:i < n:=by have:=zz.out rfl;rw [T.out] at this;exact this
      have X:=AN.LA (cap:=cap) za.out zf.out j zp.out
      rw [HI.out] at X
      have l:=zH X
      clear X
      have i1:(i:Int) < (n:Int):=by omega
      obtain⟨d,rfl⟩:∃ d,a9=.some (d:Nat):=by
       rcases y.out.2 with⟨hv,h0⟩|⟨d,vl,vv,hv,-⟩
       ·have:=T.out;omega
       ·injection hv with h1 _ _;exact⟨d,h1⟩
      have xh:d ≠ g:=fun e=>zc (by rw [<-e];rfl)
      have vm:w.heap.size+3<=d:=(y.out.lt d rfl).1
      obtain⟨⟨x0,e0⟩,⟨x1,e1⟩,⟨x2,e2⟩,fz,kb,-,kd,-⟩:=y.out.WZ yh
      have yu:=y.out.VD (i:=i) (by rw [T.out];exact yh) u.p
      rw [Y.out.1,Y.out.2.1,Y.out.2.2.1] at yu
      have ve:=((zl.out.other (g:=d) (by omega) (i * 3) (.string sh)).other (g:=d) (by omega) (i * 3+1) (.bool ps)).other (g:=d) (by omega) (i * 3+2) (px:Value)
      have xz:=((zd.out.setCell (p:=(d (i * 3))) (by simp only;omega) (.string sh)).setCell (p:=(d (i * 3+1))) (by simp only;omega) (.bool ps)).setCell (p:=(d (i * 3+2))) (by simp only;omega) (px:Value)
      have yp:=zH yu
      have zs:=zH ve
      have vn:=zH xz
      clear yu ve xz j
      go_wp2_with fail
      refine DO rfl rfl ((zs.out).BO ck (.slice d n f)) rfl rfl (DT.of l.out (DT.good rfl ?_ ?_))
      ·exact ((yp.out).set (fun e=>by have:=(yp.out.lt _ e).1;omega) 0 (ck:Value)).set (fun e=>by have:=(yp.out.lt _ e).1;omega) 1 (.slice d n f) |>.mono (Nat.le_add_right _ _)
      ·exact ((vn.out).setCell (p:=(w.heap.size+2:Nat)) (Nat.le_add_right _ _) (ck:Value)).setCell (p:=((w.heap.size+2) 1)) (Nat.le_add_right _ _) (.slice d n f)
    |false =>
      by_cases yi:min cap 1000<=(n:Int)
      ·have l:=zH (AN.JQ (cap:=cap) za.out zf.out j zp.out (by rw [T.out];exact yi))
       have xj:(if 1000 < cap then 1000 else cap)<=(n:Int):=by split <;> omega
       have vy:decide ((if 1000 < cap then 1000 else cap)<=(n:Int))=true:=decide_eq_true xj
       clear j yi
       go_wp2_with fail
       refine DO rfl rfl ((zl.out).BO 0 (.slice none 0 0)) rfl rfl (DT.of l.out (DT.bad (by decide) rfl ?_))
       exact MC zd.out (by omega)
      ·have l:=zH (AN.LC (cap:=cap) za.out zf.out j zp.out (by rw [T.out];exact yi))
       have xj:¬ (if 1000 < cap then 1000 else cap)<=(n:Int):=by split <;> omega
       have vy:decide ((if 1000 < cap then 1000 else cap)<=(n:Int))=false:=decide_eq_false xj
       have zw:Below Q.heap.size Q (Q.alloc (.cells #[.string sh,.bool ps,px] 34)):=(Below.refl _ _).alloc (zN _) _
       have xp:(Value.slice a9 n f).ownBlock ≠ some Q.heap.size:=fun e=>by have:=(y.out.lt _ e).2;omega
       have hI:=Ec (w.heap.size+3) (.slice a9 n f) L i u.p Q.heap.size (Q.alloc (.cells #[.string sh,.bool ps,px] 34)) (y.out.ext zw) xv.out (by have:=T.out;omega) (by simp;have:=zx.out;have:=Qa this;omega) (by rw [Y.out.1,Y.out.2.1,Y.out.2.2.1];exact Qb Q _ _ rfl) xp
       have yt:=zx.out.ext zw
       have xc:=zl.out.ext zw
       have xb:=zd.out.trans (zw.mono zd.out.size)
       obtain⟨W7,xf⟩:∃ W7,Q.alloc (.cells #[.string sh,.bool ps,px] 34)=W7:=⟨_,rfl⟩
       rw [xf] at hI yt xc xb
       have vu:=zH xf
       have vo:=zH hI
       have yq:=zH yt
       have xw:=zH xc
       have xr:=zH xb
       clear j yi xf hI yt xc xb zw xp
       go_wp2_with fail
       rw [vu.out]
       refine vo.out.mono ?_;rintro e w8 ⟨v8,rfl,zn,zh,vz⟩
       have zq:AE w8 g ck (.slice a9 n f):=yq.out.AI (zh.block _ (Qa yq.out) (fun e=>zc e.symm))
       have zg:AE w8 (w.heap.size+2) 0 (.slice none 0 0):=xw.out.AI (zh.block _ (Qa xw.out) (fun e=>by have:=(y.out.lt _ e.symm).1;omega))
       have zu:Below w.heap.size w w8:=xr.out.grown zh xr.out.size (fun k j=>by have:=(y.out.lt k j).1;omega)
       have xq:v8.ownBlock ≠ some g:=fun e=>by
        rcases vz _ e with h1|h1
        ·exact zc h1
        ·have:=Qa yq.out;omega
       clear J K M yo N O F G A H I C o0 o1 fo lo
       obtain⟨⟨F,G⟩,A,C⟩:=zg.al
       obtain⟨⟨o0,o1⟩,fo,lo⟩:=zq.al
       have xa:g ≠ w.heap.size+2:=by omega
       obtain⟨a8,c8,vh,-,-⟩:=zn.sl
       obtain⟨n8,vg⟩:∃ n8,(L.take i ++ u.p :: L.drop i).length=n8:=⟨_,rfl⟩
       rw [vg] at vh
       subst vh
       have zs:=zH (zg.other xa 1 (.slice a8 n8 c8))
       have Z:=zH (zn.set xq 1 (.slice a8 n8 c8))
       have yw:=zH (zu.setCell (p:=(g 1)) (by simp only;omega) (.slice a8 n8 c8))
       rw [<-HI.out] at Z
       clear zg zq zn zu xq vg
       go_wp2_with fail
       refine DO rfl rfl ((zs.out).BO ck (.slice a8 n8 c8)) rfl rfl (DT.of l.out (DT.good rfl ?_ ?_))
       ·exact ((Z.out).set (fun e=>by have:=(Z.out.lt _ e).1;omega) 0 (ck:Value)).set (fun e=>by have:=(Z.out.lt _ e).1;omega) 1 (.slice a8 n8 c8) |>.mono (Nat.le_add_right _ _)
       ·exact ((yw.out).setCell (p:=(w.heap.size+2:Nat)) (Nat.le_add_right _ _) (ck:Value)).setCell (p:=((w.heap.size+2) 1)) (Nat.le_add_right _ _) (.slice a8 n8 c8)
    ·have xi:=Y.out.2.2.2.symm.trans j
     subst xi
     cases hit with
    |true =>
      have l:=zH (AN.GA (cap:=cap) za.out zf.out j)
      obtain⟨m,rfl⟩:∃ m,n=m+1:=⟨n - 1,by have:=zz.out rfl;rw [T.out] at this;omega⟩
      have yh:i < m+1:=by have:=zz.out rfl;rw [T.out] at this;exact this
      have i1:(i:Int)+1<=(m:Int)+1:=by omega
      obtain⟨d,rfl⟩:∃ d,a9=.some (d:Nat):=by
       rcases y.out.2 with⟨hv,h0⟩|⟨d,vl,vv,hv,-⟩
       ·have:=T.out;omega
       ·injection hv with h1 _ _;exact⟨d,h1⟩
      have xh:d ≠ g:=fun e=>zc (by rw [<-e];rfl)
      have vm:w.heap.size+3<=d:=(y.out.lt d rfl).1
      have HD:=zH (Cv (w.heap.size+3) d f i m L Q y.out T.out yh (by omega))
      clear j
      go_wp2_with fail
      refine HD.out.mono ?_;rintro e w8 ⟨rfl,zn,zh⟩
      have zq:AE w8 g ck (.slice d (m+1) f):=zx.out.AI (zh.block _ (Qa zx.out) (fun e=>xh (Option.some.inj e.symm)))
      have zg:AE w8 (w.heap.size+2) 0 (.slice none 0 0):=zl.out.AI (zh.block _ (Qa zl.out) (fun e=>by have:=Option.some.inj e;omega))
      have zu:Below w.heap.size w w8:=zd.out.grown zh zd.out.size (fun k j=>by have:=Option.some.inj j;omega)
      clear J K M yo N O F G A H I C o0 o1 fo lo
      obtain⟨⟨F,G⟩,A,C⟩:=zg.al
      obtain⟨⟨o0,o1⟩,fo,lo⟩:=zq.al
      have xa:g ≠ w.heap.size+2:=by omega
      have zs:=zH (zg.other xa 1 (.slice d m f))
      have Z:=zH (zn.set (g:=g) (fun e=>xh (Option.some.inj e)) 1 (.slice d m f))
      have yw:=zH (zu.setCell (p:=(g 1)) (by simp only;omega) (.slice d m f))
      have zr:(BA.remove L u.p.h).1=L.take i ++ L.drop (i+1):=by unfold BA.remove;rw [zp.out,HI.out];rfl
      have l:=zH (l.out.trans (show ((BA.remove L u.p.h).1,(0:Int))=(L.take i ++ L.drop (i+1),0) by rw [zr]))
      clear zg zq zn zu zr
      go_wp2_with fail
      refine DO rfl rfl ((zs.out).BO ck (.slice d m f)) rfl rfl (DT.of l.out (DT.good rfl ?_ ?_))
      ·exact ((Z.out).set (fun e=>by have:=(Z.out.lt _ e).1;omega) 0 (ck:Value)).set (fun e=>by have:=(Z.out.lt _ e).1;omega) 1 (.slice d m f) |>.mono (Nat.le_add_right _ _)
      ·exact ((yw.out).setCell (p:=(w.heap.size+2:Nat)) (Nat.le_add_right _ _) (ck:Value)).setCell (p:=((w.heap.size+2) 1)) (Nat.le_add_right _ _) (.slice d m f)
    |false =>
      have l:=zH (AN.GA (cap:=cap) za.out zf.out j)
      have zr:(BA.remove L u.p.h).1=L:=by unfold BA.remove;rw [zp.out];rfl
      have l:=zH (l.out.trans (show ((BA.remove L u.p.h).1,(0:Int))=(L,0) by rw [zr]))
      clear j zr
      go_wp2_with fail
      refine DO rfl rfl ((zl.out).BO ck (.slice a9 n f)) rfl rfl (DT.of l.out (DT.good rfl ?_ ?_))
      ·exact ((y.out).set (fun e=>by have:=(y.out.lt _ e).1;omega) 0 (ck:Value)).set (fun e=>by have:=(y.out.lt _ e).1;omega) 1 (.slice a9 n f) |>.mono (Nat.le_add_right _ _)
      ·exact ((zd.out).setCell (p:=(w.heap.size+2:Nat)) (Nat.le_add_right _ _) (ck:Value)).setCell (p:=((w.heap.size+2) 1)) (Nat.le_add_right _ _) (.slice a9 n f)
end
section
open Go.RowKit
variable {w w':World} {cap ck z:Int} {e:Ending} {L L' L0:List AJ} {a a0:Option Addr} {c n:Nat} {u:BS}
def CN (a0:Option Addr) (L0:List AJ) (ck:Int) (L:List AJ) (z:Int) (w:World) (e:Ending) (w':World):Prop:=∃ a c,e=.returned (.tuple #[sv (AN.ack ck z) (.slice a L.length c),z])/\AT w' a L.length c L/\AP w w'/\∀ x,a=some x->w.heap.size<=x.block\/(a=a0/\L=L0)
theorem CN.bad (g:z ≠ 0) (d:e=.returned (.tuple #[.agg #[.int .i64 0,.slice none 0 0],z])) (b:AP w w'):CN a0 L0 ck [] z w e w' :=
 ⟨none,0,by rw [d];unfold sv AN.ack;rw [if_neg g];rfl,AT.nil _,b,fun x f=>by cases f⟩
theorem CN.of (h:AN.apply ck L u cap=(L',z)) (b:CN a0 L0 ck L' z w e w'):CN a0 L0 ck (AN.apply ck L u cap).1 (AN.apply ck L u cap).2 w e w':=by rw [h];exact b
theorem CN.good (hn:L.length=n) (d:e=.returned (.tuple #[.agg #[ck,.slice a n c],.int .i64 0])) (ho:AT w' a n c L) (b:AP w w') (f:∀ x,a=some x->w.heap.size<=x.block\/(a=a0/\L=L0)):CN a0 L0 ck L 0 w e w':=by
 subst hn
 exact⟨a,c,by rw [d];unfold sv AN.ack;rw [if_pos rfl],ho,b,f⟩
theorem AT.TS (h:AT w a n c L) {g:Nat} (b:∀ x,a=some x->L ≠ []->x.block ≠ g) (i:Nat) (u:Value):AT (w.setCell (g i) u) a n c L :=
 h.AI (fun x f d=>heap_setCell_other _ _ _ _ (b x f d)) (by simp)
theorem AT.QS (h:AT w a n c L) {B:Nat} {x:Int} {v:Value} (hr:AE w B x v) (i j:Nat) (p q:Value):AT ((w.setCell (B i) p).setCell (B j) q) a n c L:=by
 have key:∀ y,a=some y->L ≠ []->y.block ≠ B:=by
  intro y o m e
  obtain⟨l,t⟩:∃ l,L=l:=⟨_,rfl⟩
  cases L with
 |nil=>exact m rfl
 |cons C L0 =>
   obtain⟨g,A,b⟩:=h.2.2.2.2 y o 0 (by simp)
   obtain⟨F,r,G⟩:=y
   simp only at e g b
   subst e
   have h0:=b.1
   have k:=b.2.1
   have d:=b.2.2
   rw [cell_of_row _ _ _ _ _ _ hr] at h0 k d
   have s:r+0 * 3 < 2:=by
    have:=(Array.getElem?_eq_some_iff.1 h0).1;simpa using this
   have f:=(Array.getElem?_eq_some_iff.1 d).1
   simp at f
   omega
 exact (h.TS key i p).TS key j q
theorem Ux (ck:Int) (a:Option Addr) (n c:Nat) (L:List AJ) (u:BS) (cap:Int) (w:World) (h:AT w a n c L) (hn:n<=100000) (hL:∀ p ∈ L,p.h.length<=1000000) (hu:u.p.h.length<=1000000) :
 Calls Tryz.prog 14 #[.agg #[ck,.slice a n c],uv u,cap] w (CN a L ck (AN.apply ck L u cap).1 (AN.apply ck L u cap).2 w):=by
 have yj:=(Below.refl w.heap.size w).alloc (zN _) (.cells #[ck,.slice a n c] 44)
 have yu:=AE.new w ck (.slice a n c)
 have zm:(w.alloc (.cells #[ck,.slice a n c] 44)).heap.size=w.heap.size+1:=by simp
 have yt:∀ o,AP (w.alloc (.cells #[ck,.slice a n c] 44)) ((w.alloc (.cells #[ck,.slice a n c] 44)).alloc o):=fun o=>(AP.refl _).alloc o
 have yh:=BV.new (w.alloc (.cells #[ck,.slice a n c] 44)) u.k (str u.p.h) u.p.s u.p.x
 have yk:=yj.alloc yj.size (.cells #[u.k,.string (str u.p.h),.bool u.p.s,u.p.x] 36)
 have Y:=yu.ext (yt (.cells #[u.k,.string (str u.p.h),.bool u.p.s,u.p.x] 36))
 rw [zm] at yh
 have xb:((w.alloc (.cells #[ck,.slice a n c] 44)).alloc (.cells #[u.k,.string (str u.p.h),.bool u.p.s,u.p.x] 36)).heap.size=w.heap.size+2:=by simp
 have zk:=AE.new ((w.alloc (.cells #[ck,.slice a n c] 44)).alloc (.cells #[u.k,.string (str u.p.h),.bool u.p.s,u.p.x] 36)) 0 (.slice none 0 0)
 rw [xb] at zk
 have yg:AP ((w.alloc (.cells #[ck,.slice a n c] 44)).alloc (.cells #[u.k,.string (str u.p.h),.bool u.p.s,u.p.x] 36)) _:=(AP.refl _).alloc (.cells #[.int .i64 0,.slice none 0 0] 44)
 have zl:=yk.alloc yk.size (.cells #[.int .i64 0,.slice none 0 0] 44)
 have zv:=Y.ext yg
 have zw:=yh.ext yg
 have yb:(((w.alloc (.cells #[ck,.slice a n c] 44)).alloc (.cells #[u.k,.string (str u.p.h),.bool u.p.s,u.p.x] 36)).alloc (.cells #[.int .i64 0,.slice none 0 0] 44)).heap.size=w.heap.size+3:=by simp
 have za:=h.ext zl
 have zi:=zH (fun W (hs:AT W a n c L)=>Jv ck a n c L W hs (by omega) hL)
 have HV:=zH (fun W=>Ye false u hu W)
 obtain⟨sb,yo⟩:∃ b,AN.AK ck L=b:=⟨_,rfl⟩
 obtain⟨vb,yp⟩:∃ b,AN.AB u=b:=⟨_,rfl⟩
 rw [yo] at zi
 rw [yp] at HV
 have zr:=zH yo
 have zh:=zH yp
 have xj:=zH h.len
 have HL:=zH hL
 have xt:=zH hu
 unfold uv uc at HV
 unfold uv uc
 obtain⟨sh,ya⟩:∃ s,str u.p.h=s:=⟨_,rfl⟩
 obtain⟨ps,zx⟩:∃ s,u.p.s=s:=⟨_,rfl⟩
 obtain⟨px,zy⟩:∃ s,u.p.x=s:=⟨_,rfl⟩
 obtain⟨k,C⟩:∃ s,u.k=s:=⟨_,rfl⟩
 rw [ya,zx,zy,C] at HV zl zv zw zk yb za
 rw [ya,zx,zy,C]
 obtain⟨T,yi⟩:∃ T,((w.alloc (.cells #[ck,.slice a n c] 44)).alloc (.cells #[k,.string sh,.bool ps,px] 36)).alloc (.cells #[.int .i64 0,.slice none 0 0] 44)=T:=⟨_,rfl⟩
 rw [yi] at zl zv zw zk yb za
 have zs:=zH yi
 have P:=zH zl
 have xq:=zH zv
 have xs:=zH zw
 have xo:=zH zk
 have ve:=zH yb
 have zd:=zH za
 have HP:=zH (And.intro ya (And.intro zx (And.intro zy C)))
 clear ya zx zy C yi yj yk zl yu Y zv yh zw zk zm xb yb za yt yg yo yp h hL hu
 have X:=zH (show ∀ W,AP T W->AE W w.heap.size ck (.slice a n c)/\BV W (w.heap.size+1) k sh ps px/\AE W (w.heap.size+2) 0 (.slice none 0 0) from fun W e=>⟨xq.out.ext e,xs.out.ext e,xo.out.ext e⟩)
 cases sb with
|false =>
  have O:=zH (AN.FZ (c:=ck) (L:=L) (u:=u) (cap:=cap) (.inl zr.out))
  go_in
  go_wp2_with fail
  rw [zs.out]
  refine (zi.out _ zd.out).mono ?_;rintro e w4 ⟨rfl,A⟩
  obtain⟨hs,hu,hr⟩:=X.out _ A
  obtain⟨⟨q,t⟩,-,l⟩:=hs.al
  obtain⟨⟨G,H,I,J⟩,-,F⟩:=hu.al
  obtain⟨⟨g,i⟩,d,f⟩:=hr.al
  have ye:=zH hr
  clear hs hu hr
  go_wp2_with fail
  refine DO rfl rfl ((ye.out).BO 0 (.slice none 0 0)) rfl rfl (CN.of O.out (CN.bad (by decide) rfl ?_))
  exact ((P.out.trans (Below.mono A P.out.size)).setCell (p:=(w.heap.size+2:Nat)) (Nat.le_add_right _ _) _).setCell (p:=((w.heap.size+2) 1)) (Nat.le_add_right _ _) _
|true =>
  cases vb with
 |false =>
   have O:=zH (AN.FZ (c:=ck) (L:=L) (u:=u) (cap:=cap) (.inr zh.out))
   go_in
   go_wp2_with fail
   rw [zs.out]
   refine (zi.out _ zd.out).mono ?_;rintro e w4 ⟨rfl,A⟩
   obtain⟨hs,hu,hr⟩:=X.out _ A
   obtain⟨⟨q,t⟩,-,l⟩:=hs.al
   obtain⟨⟨G,H,I,J⟩,-,F⟩:=hu.al
   obtain⟨⟨g,i⟩,d,f⟩:=hr.al
   clear hs hu hr
   go_wp2_with fail
   refine (HV.out _).mono ?_;rintro e w5 ⟨rfl,zj⟩
   have y:AP T w5:=AP.step zj A
   clear q t G H I J g i d l F f
   obtain⟨hs,hu,hr⟩:=X.out _ y
   obtain⟨⟨q,t⟩,-,l⟩:=hs.al
   obtain⟨⟨G,H,I,J⟩,-,F⟩:=hu.al
   obtain⟨⟨g,i⟩,d,f⟩:=hr.al
   have ye:=zH hr
   clear hs hu hr
   go_wp2_with fail
   refine DO rfl rfl ((ye.out).BO 0 (.slice none 0 0)) rfl rfl (CN.of O.out (CN.bad (by decide) rfl ?_))
   exact ((P.out.trans (Below.mono y P.out.size)).setCell (p:=(w.heap.size+2:Nat)) (Nat.le_add_right _ _) _).setCell (p:=((w.heap.size+2) 1)) (Nat.le_add_right _ _) _
 |true =>
   have zo:=((AN.BF ck L).1 zr.out).2.2.2.2
   rcases AN.MP zh.out with C|C
   ·have ym:=HP.out.2.2.2.symm.trans C
    subst ym
    have xa:AJ.AB u.p=true:=by
     rcases AN.AW zh.out with⟨-,e⟩|⟨e,-,-⟩
     ·exact e
     ·omega
    have zp:∀ U:Int,min cap 1000=U->∀ W,AT W a n c L->Calls Tryz.prog 59 #[.slice a n c,.agg #[.string sh,.bool ps,px],U] W fun e w' =>
     ∃ a2 n2 c2,e=.returned (.tuple #[.slice a2 n2 c2,.int .i64 (AN.apply ck L u cap).2])/\((AN.apply ck L u cap).2=0->(AN.apply ck L u cap).1.length=n2/\AT w' a2 n2 c2 (AN.apply ck L u cap).1)/\Below W.heap.size W w'/\((AN.apply ck L u cap).2=0->∀ x,a2=some x->W.heap.size<=x.block\/(a2=a/\(AN.apply ck L u cap).1=L)):=by
     intro U xw W hs
     have hq:=Mq a n c L u.p U W hs (by omega) HL.out xt.out
     unfold pv at hq
     rw [HP.out.1,HP.out.2.1,HP.out.2.2.1] at hq
     refine hq.mono ?_
     rintro e w' ⟨v,rfl,Z,hb⟩
     have xy:=BA.TO zo U xa
     have N:AN.apply ck L u cap=if BA.hit L u.p.h=true then (AN.ins L u.p,0) else if U<=(L.length:Int) then ([],11) else (AN.ins L u.p,0):=by
      unfold AN.apply AN.upd
      rw [if_neg (by rw [zr.out,zh.out];decide)]
      simp only [if_neg (show ¬ u.k=2 by omega),xw]
     have h2:(BA.rput L u.p U).2=(AN.apply ck L u cap).2/\((AN.apply ck L u cap).2=0->(BA.rput L u.p U).1=(AN.apply ck L u cap).1):=by
      rw [xy,N]
      split
      ·exact⟨rfl,fun _=>rfl⟩
      ·split
       ·exact⟨rfl,fun e=>by cases e⟩
       ·exact⟨rfl,fun _=>rfl⟩
     obtain⟨a2,c2,hv,xz⟩:=Z.sl hs hb
     subst hv
     refine⟨a2,_,c2,by rw [h2.1],fun h0=>?_,hb,fun h0 x hx=>?_⟩
     ·rw [<-h2.2 h0]
      exact⟨rfl,xz⟩
     ·rcases Z with⟨e1,e2⟩|Z
      ·cases e1;exact .inr ⟨rfl,(h2.2 h0).symm.trans e2⟩
      ·obtain⟨a3,c3,e3,-,va⟩:=Z.sl
       cases e3
       exact .inl (va x hx).1
    obtain⟨⟨R,z⟩,N⟩:∃ r,AN.apply ck L u cap=r:=⟨_,rfl⟩
    rw [N] at zp
    simp only at zp
    have xe:=zH zp
    have O:=zH N
    clear zp N zo xa C
    have xn:=zH (xe.out (min cap 1000) rfl)
    all_goals
     go_in
     go_wp2_with fail
     rw [zs.out]
     refine (zi.out _ zd.out).mono ?_;rintro e w4 ⟨rfl,A⟩
     obtain⟨hs,hu,hr⟩:=X.out _ A
     obtain⟨⟨q,t⟩,-,l⟩:=hs.al
     obtain⟨⟨G,H,I,J⟩,-,F⟩:=hu.al
     obtain⟨⟨g,i⟩,d,f⟩:=hr.al
     clear hs hu hr
     go_wp2_with fail
     refine (HV.out _).mono ?_;rintro e w5 ⟨rfl,zj⟩
     have y:AP T w5:=AP.step zj A
     clear q t G H I J g i d l F f
     obtain⟨hs,hu,hr⟩:=X.out _ y
     obtain⟨⟨q,t⟩,-,l⟩:=hs.al
     obtain⟨⟨G,H,I,J⟩,-,F⟩:=hu.al
     obtain⟨⟨g,i⟩,d,f⟩:=hr.al
     have yf:=zH hs
     have yc:=zH hr
     clear hs hu hr
     have vc:T.heap.size<=w5.heap.size:=y.size
     have zb:=zH (P.out.trans (Below.mono y P.out.size))
     have zn:=zH (zd.out.ext y)
     go_wp2_with fail
     refine (xn.out _ zn.out).mono ?_;rintro e K ⟨a2,n2,c2,rfl,zm,M,ys⟩
     have xd:=zH (show z=0->∀ x,a2=some x->w.heap.size<=x.block\/(a2=a/\R=L) from fun h0 x hx=>(ys h0 x hx).imp (fun h=>by have:=zb.out.size;omega) id)
     clear ys
     have xu:=zH zm
     clear zm
     have Q:=yf.out.ext M
     have B:=yc.out.ext M
     have zf:=zb.out.trans (M.mono zb.out.size)
     clear q t G H I J g i d l F f
     obtain⟨q,t⟩:=Q.cells
     obtain⟨g,i⟩:=B.cells
     have d:=B.frz
     have l:=Qa Q
     have f:=Qa B
     have yd:=zH B
     have zc:=zH zf
     clear Q B zf M
     by_cases hz:z=0
     ·subst hz
      obtain⟨yw,za⟩:=xu.out rfl
      have xk:=zH yw
      have xp:=zH za
      clear yw za
      go_wp2_with fail
      refine DO rfl rfl ((yd.out).BO ck (.slice a2 n2 c2)) rfl rfl (CN.of O.out (CN.good xk.out rfl ?_ ?_ (xd.out (by simp))))
      ·exact xp.out.QS yd.out _ _ _ _
      ·exact (zc.out.setCell (p:=(w.heap.size+2:Nat)) (Nat.le_add_right _ _) (ck:Value)).setCell (p:=((w.heap.size+2) 1)) (Nat.le_add_right _ _) (.slice a2 n2 c2)
     ·have t1:(z != 0)=true:=by simpa using hz
      have t2:(z == 0)=false:=by simpa using hz
      have xv:R=[]:=by
       have:=AN.QZ ck L u cap (by rw [O.out];exact hz)
       rw [O.out] at this;exact this
      subst xv
      have xl:=zH hz
      clear hz
      go_wp2_with fail
      refine DO rfl rfl ((yd.out).BO 0 (.slice none 0 0)) rfl rfl (CN.of O.out (CN.bad xl.out rfl ?_))
      exact MC zc.out (by omega)
   ·have ym:=HP.out.2.2.2.symm.trans C
    subst ym
    have N:=AN.GA (cap:=cap) zr.out zh.out C
    have ze:=zH (fun W (hs:AT W a n c L)=>Uw a n c L u.p.h W hs (by omega))
    unfold NH at ze
    rw [BA.KM zo,HP.out.1] at ze
    have zz:=BA.PN L u.p.h
    rw [xj.out] at zz
    obtain⟨⟨R,fd⟩,yx⟩:∃ R,BA.remove L u.p.h=R:=⟨_,rfl⟩
    rw [yx] at ze N zz
    simp only at ze N zz
    obtain⟨m,hm⟩:∃ m,R.length=m:=⟨_,rfl⟩
    rw [hm] at zz
    have O:=zH N
    have HM:=zH hm
    clear N yx zo C hm
    go_in
    go_wp2_with fail
    rw [zs.out]
    refine (zi.out _ zd.out).mono ?_;rintro e w4 ⟨rfl,A⟩
    obtain⟨hs,hu,hr⟩:=X.out _ A
    obtain⟨⟨q,t⟩,-,l⟩:=hs.al
    obtain⟨⟨G,H,I,J⟩,-,F⟩:=hu.al
    obtain⟨⟨g,i⟩,d,f⟩:=hr.al
    clear hs hu hr
    go_wp2_with fail
    refine (HV.out _).mono ?_;rintro e w5 ⟨rfl,zj⟩
    have y:AP T w5:=AP.step zj A
    clear q t G H I J g i d l F f
    obtain⟨hs,hu,hr⟩:=X.out _ y
    obtain⟨⟨q,t⟩,-,l⟩:=hs.al
    obtain⟨⟨G,H,I,J⟩,-,F⟩:=hu.al
    obtain⟨⟨g,i⟩,d,f⟩:=hr.al
    have yf:=zH hs
    have yc:=zH hr
    clear hs hu hr
    have vc:T.heap.size<=w5.heap.size:=y.size
    have zb:=zH (P.out.trans (Below.mono y P.out.size))
    have zn:=zH (zd.out.ext y)
    go_wp2_with fail
    refine (ze.out _ zn.out).mono ?_;rintro e K ⟨v6,rfl,Z,M⟩
    obtain⟨a6,c6,yz,yn⟩:=Z.sl zn.out M
    rw [HM.out] at yz yn
    subst yz
    have Q:=yf.out.ext M
    have B:=yc.out.ext M
    have zf:=zb.out.trans (M.mono zb.out.size)
    clear q t G H I J g i d l F f
    obtain⟨q,t⟩:=Q.cells
    obtain⟨g,i⟩:=B.cells
    have d:=B.frz
    have l:=Qa Q
    have f:=Qa B
    have yl:Below K.heap.size K (K.drew.alloc (.cells #[] 34)):=(Below.drew (Below.refl _ _)).alloc (zN _) _
    have xh:=zH (show AR K.heap.size (K.drew.alloc (.cells #[] 34)) (.slice K.heap.size 0 0) [] from AR.empty K.drew (zN _))
    have xr:=zH (yn.ext yl)
    have xi:=zH yl
    have yq:=zH Q
    have xf:=zH B
    have zc:=zH zf
    have zq:=zH (show ∀ W,AE W w.heap.size ck (.slice a n c)->AE W w.heap.size ck (.slice a n c)/\W.cell? w.heap.size=some (ck:Value)/\w.heap.size < W.heap.size from fun W h=>⟨h,h.cells.1,Qa h⟩)
    have vd:m<=1000000:=by omega
    clear Q B zf M Z yn yl
    go_wp2_with fail
    go_region_held3 (fun w'=>AE w' w.heap.size ck (.slice a n c)/\w'.cell? w.heap.size=some (ck:Value)/\w.heap.size < w'.heap.size) (first|assumption|exact zq.out _ yq.out|exact zq.out _ Y|exact zq.out _ (AE.ext (And.left (by assumption)) ((AP.refl _).alloc _))|exact zq.out _ ((Y.other (by omega) _ _).other (by omega) _ _)) (first|(refine Qk rfl (.tmp 35) (.tmp 36) rfl K.heap.size _ [] (by simp [Act.eval]) xh.out a6 m c6 R (by simp [Act.eval]) xr.out (by simp;omega) (by simp) ?_;intro v1 w1 zu yv;rw [List.nil_append] at zu;obtain⟨a1,c1,yy,-,yr⟩:=zu.sl;rw [HM.out] at yy;subst yy;have xc:=zH (show ∀ x,a1=some x->w.heap.size<=x.block\/(a1=a/\R=L) from fun x hx=>Or.inl (by have h1:=(yr x hx).1;have h2:=zc.out.size;omega));clear yr;have zt:Below K.heap.size K w1:=xi.out.grown yv (by simp) (fun j hj=>by cases hj;exact zN _);have Y:AE w1 w.heap.size ck (.slice a n c):=yq.out.ext zt;have zg:=zH (xf.out.ext zt);have xg:=zH (zc.out.trans (zt.mono zc.out.size));obtain⟨q0,q1⟩:=zg.out.cells;have fq:=zg.out.frz;have lq:=Qa zg.out;clear zt))
    have xm:=zH zu
    clear Y zu yv g i d f q0 q1
    try clear Y
    go_wp2_with fail
    refine DO rfl rfl ((zg.out).BO ck (.slice a1 m c1)) rfl rfl (CN.of O.out (CN.good HM.out rfl ?_ ?_ xc.out))
    ·exact xm.out.ZF.QS zg.out _ _ _ _
    ·exact (xg.out.setCell (p:=(w.heap.size+2:Nat)) (Nat.le_add_right _ _) (ck:Value)).setCell (p:=((w.heap.size+2) 1)) (Nat.le_add_right _ _) (.slice a1 m c1)
end
end Go.Proofs.YtmanejniepghlaaGreatDoor
