import Derived.Test.YtmanejniepghlaaGreatDoorRun10
import Derived.Lib.LastIndexByte
set_option maxHeartbeats 8000000
set_option maxRecDepth 100000
namespace Go.Proofs.YtmanejniepghlaaGreatDoor
section
open Go.RowKit
variable {w w':World} {l:List UInt8} {e:Ending}
theorem Of (l:List UInt8) (j:Nat) (h:j < l.length):(str l).data[j]! = l[j]:=by
 simp [str,h]
theorem Ee (l:List UInt8):(Lib.lastIndexByte (str l) 45=-1/\Pu.cut l=0)\/(Lib.lastIndexByte (str l) 45=(Pu.cut l:Int)/\Pu.cut l < l.length):=by
 have d:∀ b:UInt8,((b.toNat:Int)=45) ↔ b=45:=fun b=>⟨fun h=>UInt8.toNat_inj.1 (by simpa using (by omega:b.toNat=45)),fun h=>by subst h;rfl⟩
 unfold Lib.lastIndexByte
 rw [CT]
 rcases Lib.lastIdx_spec (str l) 45 l.length with⟨f,a⟩|⟨i,k,f,a,m⟩
 ·left
  refine⟨f,Pu.SF l fun x g=>?_⟩
  obtain⟨j,c,rfl⟩:=List.mem_iff_getElem.1 g
  have:=a j c
  rw [Of _ _ c] at this
  exact fun e=>this ((d _).2 e)
 ·right
  rw [Of _ _ k] at a
  have o:l=l.take i ++ 45 :: l.drop (i+1):=by
   rw [<-(d _).1 a,List.getElem_cons_drop,List.take_append_drop]
  have n:Pu.cut l=i:=by
   have:=Pu.RA (l.take i) (l.drop (i+1)) (fun x g=>by
    obtain⟨j,c,rfl⟩:=List.mem_iff_getElem.1 g
    rw [List.getElem_drop]
    simp at c
    have:=m (i+1+j) (by omega) (by omega)
    rw [Of _ _ (by omega)] at this
    exact fun e=>this ((d _).2 e))
   rw [<-o] at this
   rw [this];simp;omega
  rw [n]
  exact⟨f,k⟩
theorem Pu.JT (l:List UInt8) (s:Pu.D) (r:List UInt8) (a:Pu.D) (h:Pu.BT l s=.ok (r,a)) (h0:0<=s.i) (_h1:s.i<=s.pts.length) (_n0:0<=s.n) :
 r.length < l.length/\0<=a.i/\a.i<=a.pts.length/\0<=a.n/\a.n<=1114111/\0<=a.bias/\a.bias<=1000/\a.pts.length<=256:=by
 unfold Pu.BT at h
 cases hd:Pu.BK l s.i 1 0 s.bias with
|error e=>rw [hd] at h;cases h
|ok x =>
  obtain⟨q,j⟩:=x
  obtain⟨o,p,hr⟩:=Pu.IR _ _ _ _ _ _ _ h0 (by omega) hd
  rw [hd] at h
  simp only at h
  by_cases b:Pu.point (s.n+j / ((s.pts.length:Int)+1))=false
  ·rw [if_pos b] at h;cases h
  rw [if_neg b] at h
  by_cases g:256 < ((s.pts.length:Int)+1)
  ·rw [if_pos g] at h;cases h
  rw [if_neg g] at h
  have f:=(Pu.BC _).1 (by simpa using b)
  have k:0<=j % ((s.pts.length:Int)+1):=Int.emod_nonneg _ (by omega)
  have m:j % ((s.pts.length:Int)+1) < ((s.pts.length:Int)+1):=Int.emod_lt_of_pos _ (by omega)
  have d:(Pu.ins s.pts (j % ((s.pts.length:Int)+1)).toNat (s.n+j / ((s.pts.length:Int)+1))).length=s.pts.length+1:=Pu.FF _ _ _ (by omega)
  have c:=Pu.GR (j - s.i) ((s.pts.length:Int)+1) s.first (by omega) (by omega) (by omega)
  cases h
  refine⟨hr,?_,?_,f.1,f.2.1,c.1,c.2,?_⟩
  ·simp only;omega
  ·simp only [d];omega
  ·simp only [d];omega
theorem Kb {n:Array Oper} {o:Oper} {a:Act} {K:Act->World->Prop} {Q:Exit->Act->World->Prop} {E:Prop} (hgd:o.guard=none) (s x:Operand)
 (ho:o.op=.call { callee:=.builtin .append,args:=#[s,x],argTypes:=#[81,81] })
 (base:Nat) (v:Value) (l:List Int) (hs:a.eval s=v) (f:AS base w v l) (z:Int) (b c:Nat) (A:a.eval x=.slice b 1 c) (t:w.cell? b=some (iv z))
 (C:l.length<=1000000) (r:base<=w.heap.size)
 (h:∀ g cap w',AS base w' (.slice g (l.length+1) cap) (l ++ [z])->w.grownBy w' v.ownBlock->K (a.put o.dst (.slice g (l.length+1) cap)) w') :
 if Region.wanted o (yielded n a.tmps)=true then Oper.wp Tryz.prog o a w K Q else E:=by
 obtain⟨B,y,i,k,m⟩:=info_parts MO
 refine step_append_lies w hgd s x 81 ho base 3 B (.int .i64 0) 1 8 Tryz.underlying81 y i k m rfl (by decide) v l.length _ hs f b 1 c [iv z] A rfl ?_ ?_ (by omega) (by unfold maxLen;omega) (by omega) r _ rfl ?_
 ·intro j u d
  cases j with
 |zero=>cases d;exact t
 |succ j=>simp at d
 ·intro u hu;simp at hu;subst hu;rfl
 ·intro g cap w' p q _ _
  refine h g cap w' ?_ q
  unfold AS
  rw [List.length_append,List.map_append];exact p
def DL (l:List UInt8) (w:World) (e:Ending) (w':World):Prop :=
 ∃ v,e=.returned (.tuple #[v,.int .i64 (Pu.dec l).2])/\AS w.heap.size w' v (Pu.dec l).1/\Below w.heap.size w w'
theorem Qw {a:Int} (hd:Pu.decode l=.error a) (c:e=.returned (.tuple #[.slice none 0 0,a])) (b:Below w.heap.size w w'):DL l w e w':=by
 unfold DL Pu.dec;rw [hd];exact⟨_,c,AS.nil _ _,b⟩
theorem Ge {p:List Int} (hd:Pu.decode l=.ok p) {v:Value} (b:e=.returned (.tuple #[v,.int .i64 0])) (ho:AS w.heap.size w' v p) (a:Below w.heap.size w w'):DL l w e w':=by
 unfold DL Pu.dec;rw [hd];exact⟨_,b,ho,a⟩
def RU (l:List UInt8) (a:World) (C:Nat) (i:Value) (c:World):Prop:=∃ (k:Nat) (L:List Int) (v:Value),k<=C/\i=.int .i64 k/\Hid (L.length=k)/\Hid (L=(l.take k).map fun b=>(b.toNat:Int))/\BE c a.heap.size l v 128 0 72 false/\AS a.heap.size c v L/\Below a.heap.size a c
theorem Bv (l:List UInt8) (w:World) (hl:l.length<=1000000):Calls Tryz.prog 239 #[.string (str l)] w (DL l w):=by
 have hsz:=CT l
 by_cases hn:1024 < l.length
 ·have hd:Pu.decode l=.error 3:=by unfold Pu.decode;rw [if_pos hn]
  have B:=zH hd
  have ht:(1024:Int) < (l.length:Int):=by omega
  clear hd hn
  go_in
  go_wp2_with fail
  go_ret2
  exact Qw B.out rfl (Below.refl _ _)
 have ht:¬ (1024:Int) < (l.length:Int):=by omega
 have yr:¬ (∀ b ∈ l,b.toNat < 128)->Pu.decode l=.error 4:=by
  intro h;unfold Pu.decode;rw [if_neg hn,if_pos (by rw [Bool.eq_false_iff,ne_eq,List.all_eq_true];simpa using h)]
 have ys:(∀ b ∈ l,b.toNat < 128)->Pu.decode l=if 256 < Pu.cut l then .error 3 else Pu.CQ (l.length+1) (if Pu.cut l=0 then l else l.drop (Pu.cut l+1)) ⟨(l.take (Pu.cut l)).map fun b=>(b.toNat:Int),128,0,72,true⟩:=by
  intro h;unfold Pu.decode;rw [if_neg hn,if_neg (by rw [Bool.not_eq_false,List.all_eq_true];simpa using h)]
 have yi:=zH yr;have yj:=zH ys
 have ye:∀ k (h:k < l.length) t,(str l)[k]'t=l[k]:=fun k h t=>Kc _ _ _
 have yd:=zH ye
 have yk:=zH (Ee l)
 have yy:=zH (Nx l)
 clear yr ys ye
 obtain⟨sv,zw⟩:∃ sv,sv=str l:=⟨_,rfl⟩
 rw [<-zw] at hsz ⊢
 have I:=zH zw
 clear zw
 go_in
 go_wp2_with fail
 go_loopw [14] (fun i wr=>∃ k:Nat,k<=l.length/\i=.int .i64 k/\Hid (∀ b ∈ l.take k,b.toNat < 128)/\wr=w) (fun i _=>l.length - (intOf i).toNat)
 case atStart=>exact⟨0,Nat.zero_le _,rfl,zH (by simp),rfl⟩
 case round =>
  obtain⟨k,hk,rfl,HP,rfl⟩:=hrel
  by_cases zt:k < l.length
  ·have J:(0:Int)<=(k:Int):=by omega
   have M:(k:Int) < (l.length:Int):=by omega
   have zy:=List.take_succ_eq_append_getElem zt
   have zh:l[k] ∈ l:=List.getElem_mem zt
   have c:∀ t:k < sv.size,sv[k]=l[k]:=by have:=I.out;subst this;exact yd.out k zt
   generalize l[k]=b at *
   by_cases xs:128<=b.toNat
   ·have B:=zH (yi.out (fun h=>by have:=h b zh;omega))
    have xk:(128:Int)<=(b.toNat:Int):=by omega
    clear zy zh
    go_wp2_with fail
    go_ret2
    exact Qw B.out rfl (Below.refl _ _)
   ·have xk:¬ (128:Int)<=(b.toNat:Int):=by omega
    have HN:=zH (show ∀ x ∈ l.take (k+1),x.toNat < 128 by
     rw [zy];intro x O
     rcases List.mem_append.1 O with O|O
     ·exact HP.out x O
     ·simp at O;subst O;omega)
    clear zy zh
    go_wp2_with fail
    go_roundw
    case rel=>exact⟨k+1,by omega,by go_num,HN,by first|rfl|trivial⟩
    case measure=>simp [intOf];omega
  ·obtain rfl:k=l.length:=by omega
   obtain⟨a,rfl⟩:∃ a,a=wr:=⟨_,rfl⟩
   have B:=zH (yj.out (fun b hb=>HP.out b (by rw [List.take_of_length_le (zN _)];exact hb)))
   have ze:=fun W=>Js sv 45 (by rw [hsz];omega) W
   rw [I.out] at ze
   obtain⟨K,hK⟩:∃ K,K=Lib.lastIndexByte (str l) 45:=⟨_,rfl⟩
   rw [<-hK,<-I.out] at ze
   have zs:=yk.out
   rw [<-hK] at zs
   have yz:=zH ze
   have zd:=zH zs
   clear ze zs hK yi yj yk HP
   go_wp2_with fail
   refine (yz.out _).mono ?_;rintro e w1 ⟨rfl,rfl⟩
   have z:BE (a.alloc (.cells #[.string sv,.slice none 0 0,.int .i64 128,.int .i64 0,.int .i64 72,.bool false] 263)) a.heap.size l (.slice none 0 0) 128 0 72 false:=by
    rw [I.out];exact Qb _ _ _ rfl
   have N:Below a.heap.size a (a.alloc (.cells #[.string sv,.slice none 0 0,.int .i64 128,.int .i64 0,.int .i64 72,.bool false] 263)):=(Below.refl _ _).alloc (zN _) _
   have F:AS a.heap.size (a.alloc (.cells #[.string sv,.slice none 0 0,.int .i64 128,.int .i64 0,.int .i64 72,.bool false] 263)) (.slice none 0 0) []:=AS.nil _ _
   generalize (a.alloc (.cells #[.string sv,.slice none 0 0,.int .i64 128,.int .i64 0,.int .i64 72,.bool false] 263))=w1 at *
   by_cases za:Pu.cut l=0
   ·have hd:=B.out
    rw [za,if_neg (by omega),if_pos rfl] at hd
    have xh:¬ (0:Int) < K:=by rcases zd.out with⟨h,_⟩|⟨h,_⟩ <;> omega
    obtain⟨d,hp⟩:∃ d:List Int,d=[]:=⟨_,rfl⟩
    have hv:Value.slice none 0 0=.slice none d.length 0:=by rw [hp];rfl
    have xp:([]:List UInt8)=l.take 0:=by simp
    have hq:(l.take 0).map (fun b=>(b.toNat:Int))=d:=by rw [hp];simp
    rw [hq] at hd
    have yc:d.length=0:=by rw [hp];rfl
    have A:=zH (show Pu.decode l=if 256 < d.length then .error 3 else Pu.CQ (l.length+1) l ⟨d,128,0,72,true⟩ by rw [yc,if_neg (by omega)];exact hd)
    rw [hv] at z F
    rw [<-hp] at F
    have yx:d.length<=1024:=by omega
    obtain⟨rest,y⟩:∃ rest,rest=l:=⟨_,rfl⟩
    rw [<-y] at z
    rw [show Pu.CQ (l.length+1) l=Pu.CQ (l.length+1) rest by rw [y]] at A
    have zv:rest.length<=l.length:=by rw [y];exact zN _
    clear hd za hv hp hq yc xp y B zd
    obtain⟨am,cm,xq,-⟩:=F.sl
    obtain⟨c0,c1,-,-,-,-⟩:=z.cells
    have xn:=Qa z
    by_cases Q:256 < d.length
    ·have G:=zH (show Pu.decode l=.error 3 by rw [A.out,if_pos Q])
     have zx:(256:Int) < (d.length:Int):=by omega
     clear A
     go_wp2_with fail
     go_ret2
     exact Qw G.out rfl N
    have G:=zH (A.out.trans (if_neg Q))
    have zx:¬ (256:Int) < (d.length:Int):=by omega
    clear A xq
    go_wp2_with fail
    go_loopw [8] (fun u q=>∃ (f:Nat) (r:List UInt8) (s:Pu.D) (v:Value),r.length < f/\r.length<=l.length/\BE q a.heap.size r v s.n s.i s.bias (!s.first)/\AS a.heap.size q v s.pts/\Hid (Pu.decode l=Pu.CQ f r s)/\0<=s.i/\s.i<=s.pts.length/\0<=s.n/\s.n<=1114111/\0<=s.bias/\s.bias<=1000/\s.pts.length<=256/\Below a.heap.size a q) (fun _ q=>match q.cell? a.heap.size with|some (.string s)=>s.size|_=>0)
    case atStart=>exact⟨l.length+1,rest,⟨d,128,0,72,true⟩,_,by omega,zv,z,F,G,by simp,by simp,by simp,by simp,by simp,by simp,by simp only;omega,N⟩
    case round =>
     obtain⟨f,r,s,v,zu,zi,j,m,HG,i0,i1,n0,n1,J,M,pl,p⟩:=hrel
     obtain⟨d0,d1,-,-,-,-⟩:=j.cells
     have zq:=p.size
     obtain⟨f,rfl⟩:∃ g,f=g+1:=⟨f - 1,by omega⟩
     have c:=HG.out
     rw [Pu.CQ] at c
     cases r with
    |nil =>
      rw [if_pos rfl] at c
      have o:=zH c
      have zz:(str []).toList.isEmpty=true:=by simp
      obtain⟨av,cv,ya,-⟩:=m.sl
      subst ya
      generalize str []=yb at *
      clear c
      go_wp2
      go_ret2
      exact Ge o.out rfl m p
    |cons b r =>
      rw [if_neg (by simp)] at c
      have zz:(str (b :: r)).toList.isEmpty=false:=by simp
      have P:=fun W h t zo=>By a.heap.size a.heap.size (b :: r) s v W h t (zN _) zo i0 i1 n0 n1 J M pl (by omega)
      have zg:=zH P
      have R:=zH c
      have zb:(str (b :: r)).size=r.length+1:=by simp
      have T:=zH (And.intro d0 zb)
      generalize str (b :: r)=yb at *
      clear c P zb
      go_wp2_with fail
      refine (zg.out _ j m zq).mono ?_;rintro e w3 ⟨Z,⟨er,xm,hd,rfl⟩|⟨r',s',v',hd,rfl,U,zp⟩⟩
      ·have c:=R.out
       rw [hd] at c
       have o:=zH c
       have H:=p.trans Z
       clear c hd
       go_wp2
       go_ret2
       exact Qw o.out rfl H
      ·have c:=R.out
       rw [hd] at c
       have o:=zH c
       have H:=p.trans Z
       obtain⟨q0,q1,q2,q3,q4,q5,q6,q7⟩:=Pu.JT _ _ _ _ hd i0 i1 n0
       simp only [List.length_cons] at q0 zu zi
       clear c hd
       go_wp2
       go_roundw
       case rel=>exact⟨f,r',s',v',by omega,by omega,U,zp,o,q1,q2,q3,q4,q5,q6,q7,H⟩
       case measure =>
        rw [U.cells.1,T.out.1];simp only [CT];rw [T.out.2];omega
   ·obtain⟨C,hC⟩:∃ C,C=Pu.cut l:=⟨_,rfl⟩
    obtain⟨rfl,xu⟩:K=(C:Int)/\C < l.length:=by
     rcases zd.out with⟨h,t⟩|⟨h,t⟩
     ·exact absurd t za
     ·rw [hC];exact⟨h,t⟩
    have hd:=B.out
    rw [if_neg za,<-hC] at hd
    have xh:(0:Int) < (C:Int):=by omega
    have A:=zH hd
    clear hd za hC B zd
    go_wp2_with fail
    have xf:0 < C:=by omega
    rw [show decide (0 < C)=true from decide_eq_true xf]
    go_loopw [30] (fun i q=>RU l a C i q) (fun i _=>C - (intOf i).toNat)
    case atStart=>exact⟨0,[],.slice none 0 0,Nat.zero_le _,rfl,zH rfl,zH (by simp),z,F,N⟩
    case round =>
     obtain⟨k,L,v,xv,rfl,zk,HL,j,m,p⟩:=hrel
     by_cases xt:k < C
     ·have J:(0:Int)<=(k:Int):=by omega
      have M:(k:Int) < (C:Int):=by omega
      have b2:(k:Int) < (l.length:Int):=by omega
      have yu:k < l.length:=by omega
      have xa:=zH (List.take_succ_eq_append_getElem yu)
      have c:∀ t:k < sv.size,sv[k]=l[k]:=by have:=I.out;subst this;exact yd.out k yu
      generalize l[k]=b at *
      obtain⟨av,cv,rfl,-⟩:=id m.sl
      have xo:=m.GD j
      obtain⟨c0,c1,-,-,-,-⟩:=j.cells
      have f1:=j.free 1
      have xn:=Qa j
      have xl:=p.size
      have xi:L.length<=1000000:=by have:=zk.out;omega
      have yp:AS a.heap.size (wr.alloc (.cells #[.int .i64 (IntKind.i64.wrap (b.toNat:Int))] 3)).drew (.slice av L.length cv) L:=m.alloc _
      have yo:BE (wr.alloc (.cells #[.int .i64 (IntKind.i64.wrap (b.toNat:Int))] 3)).drew a.heap.size l (Value.slice av L.length cv) 128 0 72 false:=j.allocd _
      have ym:Below a.heap.size a (wr.alloc (.cells #[.int .i64 (IntKind.i64.wrap (b.toNat:Int))] 3)).drew:=(p.alloc xl _).drew
      have yq:(wr.alloc (.cells #[.int .i64 (IntKind.i64.wrap (b.toNat:Int))] 3)).drew.cell? wr.heap.size=some (iv (IntKind.i64.wrap (b.toNat:Int))):=by
       show (wr.alloc _).cell? _=_
       rw [World.cell?_alloc_at _ _ _ _ rfl];rfl
      have zl:=zH yp;have o:=zH yo;have yg:=zH ym;have yh:=zH yq
      clear j m yp yo ym yq
      go_wp2_with fail
      go_region_law (refine Kb rfl (.tmp 37) (.tmp 42) rfl a.heap.size (.slice av L.length cv) L (by simp [Act.eval]) zl.out (IntKind.i64.wrap (b.toNat:Int)) wr.heap.size 1 (by simp [Act.eval]) yh.out xi (by simp;omega) ?_;intro g5 k5 w5 Y zr;have X:=BE.grown o.out zr xo;have xc:=X.cells.2.1;have xd:=X.free 1)
      all_goals (
       have yw:IntKind.i64.wrap (b.toNat:Int)=(b.toNat:Int):=by rw [IntKind.wrap_i64];have:=b.toNat_lt;omega
       rw [yw] at Y
       have yn:=yg.out.grown zr (by simp;omega) (fun k hk=>(zl.out.lt k hk).1)
       clear xc xd zl yh o yg zr
       have yv:L.length+1=(L ++ [(b.toNat:Int)]).length:=by simp
       rw [yv] at Y
       have yf:=Y.GD X
       have xg:=X.TT (.slice g5 (L ++ [(b.toNat:Int)]).length k5)
       have xj:=Y.FU yf 1 (.slice g5 (L ++ [(b.toNat:Int)]).length k5)
       have xe:Below a.heap.size a (w5.setCell (a.heap.size 1) (.slice g5 (L ++ [(b.toNat:Int)]).length k5)):=yn.setCell (zN _) _
       rw [yv]
       generalize w5.setCell (a.heap.size 1) (.slice g5 (L ++ [(b.toNat:Int)]).length k5)=w6 at *
       clear X Y yn yw yf
       go_wp2
       go_roundw
       case rel=>exact⟨k+1,L ++ [(b.toNat:Int)],_,by omega,by go_num,zH (by simp [zk.out]),zH (by rw [xa.out,HL.out];simp),xg,xj,xe⟩
       case measure=>simp [intOf];omega)
     ·obtain rfl:k=C:=by omega
      have zf:=zk.out
      have hd:=A.out
      rw [<-HL.out,<-zf] at hd
      obtain⟨rest,y⟩:∃ rest,rest=l.drop (L.length+1):=⟨_,rfl⟩
      rw [<-y] at hd
      have zc:=zH hd
      have zv:rest.length<=l.length:=by rw [y];simp
      have yx:L.length<=1024:=by omega
      have yt:=yy.out (k+1) (by omega)
      rw [<-I.out,hsz,<-zf,<-y] at yt
      have f0:=j.free 0
      have xb:=j.cells.1
      have zn:=zH (j.QT rest)
      have zm:=zH (m.FU (m.GD j) 0 (.string (str rest)))
      have zj:=zH (show Below a.heap.size a (wr.setCell a.heap.size (.string (str rest))) from p.setCell (zN _) _)
      obtain⟨ax,cx,xr,-⟩:=id m.sl
      have yl:=j.cells.2.1
      rw [xr] at yl
      rw [zf] at yt
      clear z F N hd y zf j m p A
      have J:(0:Int)<=(k:Int)+1:=by omega
      have M:(k:Int)+1<=(l.length:Int):=by omega
      have b2:((k:Int)+1).toNat=k+1:=by omega
      obtain⟨d,rfl⟩:∃ d,d=L:=⟨_,rfl⟩
      by_cases Q:256 < d.length
      ·have G:=zH (show Pu.decode l=.error 3 by rw [zc.out,if_pos Q])
       have zx:(256:Int) < (d.length:Int):=by omega
       clear zc zn zm
       go_wp2_with fail
       go_ret2
       exact Qw G.out rfl zj.out
      have G:=zH (zc.out.trans (if_neg Q))
      have zx:¬ (256:Int) < (d.length:Int):=by omega
      clear zc
      go_wp2_with fail
      obtain⟨z,F,N⟩:=And.intro zn.out (And.intro zm.out zj.out)
      clear zn zm zj yl f0 xb
      generalize (wr.setCell a.heap.size (.string (str rest)))=w1 at *
      go_loopw [8] (fun u q=>∃ (f:Nat) (r:List UInt8) (s:Pu.D) (v:Value),r.length < f/\r.length<=l.length/\BE q a.heap.size r v s.n s.i s.bias (!s.first)/\AS a.heap.size q v s.pts/\Hid (Pu.decode l=Pu.CQ f r s)/\0<=s.i/\s.i<=s.pts.length/\0<=s.n/\s.n<=1114111/\0<=s.bias/\s.bias<=1000/\s.pts.length<=256/\Below a.heap.size a q) (fun _ q=>match q.cell? a.heap.size with|some (.string s)=>s.size|_=>0)
      case atStart=>exact⟨l.length+1,rest,⟨d,128,0,72,true⟩,_,by omega,zv,z,F,G,by simp,by simp,by simp,by simp,by simp,by simp,by simp only;omega,N⟩
      case round =>
       obtain⟨f,r,s,v,zu,zi,j,m,HG,i0,i1,n0,n1,J,M,pl,p⟩:=hrel
       obtain⟨d0,d1,-,-,-,-⟩:=j.cells
       have zq:=p.size
       obtain⟨f,rfl⟩:∃ g,f=g+1:=⟨f - 1,by omega⟩
       have c:=HG.out
       rw [Pu.CQ] at c
       cases r with
      |nil =>
        rw [if_pos rfl] at c
        have o:=zH c
        have zz:(str []).toList.isEmpty=true:=by simp
        obtain⟨av,cv,ya,-⟩:=m.sl
        subst ya
        generalize str []=yb at *
        clear c
        go_wp2
        go_ret2
        exact Ge o.out rfl m p
      |cons b r =>
        rw [if_neg (by simp)] at c
        have zz:(str (b :: r)).toList.isEmpty=false:=by simp
        have P:=fun W h t zo=>By a.heap.size a.heap.size (b :: r) s v W h t (zN _) zo i0 i1 n0 n1 J M pl (by omega)
        have zg:=zH P
        have R:=zH c
        have zb:(str (b :: r)).size=r.length+1:=by simp
        have T:=zH (And.intro d0 zb)
        generalize str (b :: r)=yb at *
        clear c P zb
        go_wp2_with fail
        refine (zg.out _ j m zq).mono ?_;rintro e w3 ⟨Z,⟨er,xm,hd,rfl⟩|⟨r',s',v',hd,rfl,U,zp⟩⟩
        ·have c:=R.out
         rw [hd] at c
         have o:=zH c
         have H:=p.trans Z
         clear c hd
         go_wp2
         go_ret2
         exact Qw o.out rfl H
        ·have c:=R.out
         rw [hd] at c
         have o:=zH c
         have H:=p.trans Z
         obtain⟨q0,q1,q2,q3,q4,q5,q6,q7⟩:=Pu.JT _ _ _ _ hd i0 i1 n0
         simp only [List.length_cons] at q0 zu zi
         clear c hd
         go_wp2
         go_roundw
         case rel=>exact⟨f,r',s',v',by omega,by omega,U,zp,o,q1,q2,q3,q4,q5,q6,q7,H⟩
         case measure =>
          rw [U.cells.1,T.out.1];simp only [CT];rw [T.out.2];omega
end
section
open Go.RowKit
variable {W w w':World} {row:Option Nat} {x:Addr} {c n:Nat} {l:List Int}
theorem Jt {q:Array Oper} {o:Oper} {a:Act} {K:Act->World->Prop} {Q:Exit->Act->World->Prop} {E:Prop} (hgd:o.guard=none) (s x:Operand)
 (ho:o.op=.call { callee:=.builtin .append,args:=#[s,x],argTypes:=#[81,81] })
 (base:Nat) (v:Value) (l:List Int) (hs:a.eval s=v) (g:AS base w v l) (b:Option Addr) (m c:Nat) (l2:List Int) (y:a.eval x=.slice b m c) (e:DX w b m c l2)
 (N:l.length+m<=10000000000000) (A:base<=w.heap.size)
 (h:∀ f w',AS base w' f (l ++ l2)->w.grownBy w' v.ownBlock->K (a.put o.dst f) w') :
 if Region.wanted o (yielded q a.tmps)=true then Oper.wp Tryz.prog o a w K Q else E:=by
 have M:Region.wanted o (yielded q a.tmps)=true:=by simp [Region.wanted,hgd]
 rw [if_pos M]
 obtain⟨z,r,F,G,H⟩:=info_parts MO
 cases b with
|none =>
  obtain⟨rfl,rfl⟩:=e.2.2.2.1 rfl
  obtain rfl:m=0:=e.1.symm
  have C:=run_append_owned_none (P:=Tryz.prog) (w:=w) base 81 o.type 3 z 1 Tryz.underlying81 r v l.length _ g
  unfold Oper.wp
  simp [execOp,ho,resolve,invoke,builtin,hs,y,C,Result.andThen]
  exact h v w (by simpa using g) ⟨rfl,rfl,rfl,zN _,fun _ _ _=>rfl⟩
|some d =>
  have k:=e.len
  refine wp_append_own w s x 81 ho base 3 z (.int .i64 0) 1 8 Tryz.underlying81 r F G H rfl (by decide) v l.length _ hs g d m c (l2.map iv) y (by simp [k]) ?_ ?_ (by unfold maxLen;omega) (by omega) A ?_
  ·intro j u t
   have i:j < l2.length:=by
    have:=(List.getElem?_eq_some_iff.1 t).1;simpa using this
   obtain⟨p,O,this⟩:=e.2.2.2.2 d rfl j i
   have B:d.add j=(d.block (d.off+j)):=by
    obtain⟨b,o,R⟩:=d;simp only at p;subst p;unfold Addr.add;split <;> simp_all
   rw [B,this];rw [<-t];simp [iv,i]
  ·intro u hu
   obtain⟨b,_,rfl⟩:=List.mem_map.1 hu;rfl
  ·intro f w' I J _
   refine h f w' ?_ J
   unfold AS;rw [List.length_append,List.map_append,k];exact I
theorem DX.grown (h:DX w (some x) n c l) (f:w.grownBy w' row) (g:row ≠ some x.block):DX w' (some x) n c l:=by
 obtain⟨m,hn,k,h0,j⟩:=h
 refine⟨m,hn,k,h0,fun y o i b=>?_⟩
 cases o
 obtain⟨hs,d,b⟩:=j x rfl i b
 exact⟨hs,Nat.lt_of_lt_of_le d f.size,(World.cell?_of_block (a:=(x.block (x.off+i))) (f.block _ d (fun e=>g e.symm))).trans b⟩
theorem Hi (h:DX w (some x) n c l) (m:W.grownBy w' row) (d:W.heap=w.heap) (e:row ≠ some x.block):DX w' (some x) n c l:=by
 have f:DX W (some x) n c l:=by
  obtain⟨o,hn,k,h0,g⟩:=h
  refine⟨o,hn,k,h0,fun y p i b=>?_⟩
  obtain⟨hs,j,b⟩:=g y p i b
  exact⟨hs,by rw [d];exact j,(World.cell?_of_block (a:=(y.block (y.off+i))) (by rw [d])).trans b⟩
 exact f.grown m e
theorem Ja {B:Nat} {b:World} (h:Below B b w) (f:W.grownBy w' row) (a:W.heap=w.heap) (ho:W.os=w.os) (j:W.tape=w.tape) (i:W.output=w.output) (e:B<=w.heap.size) (g:∀ k,row=some k->B<=k):Below B b w':=by
 have d:Below B b W:=h.trans ⟨ho,j,i,by rw [a];exact zN _,fun k _=>by rw [a]⟩
 exact d.grown f (by rw [a];exact e) g
theorem Mg (l:List Int) (m:Nat) (n:Int):([] ++ l.take m) ++ [n] ++ l.drop m=Pu.ins l m n:=by simp [Pu.ins]
end
section
open Go.RowKit
variable {l:List UInt8} {s:Pu.D}
theorem Pu.SG (l:List UInt8) (b:UInt8):Pu.cut (l ++ [b])=if b=45 then l.length else Pu.cut l:=by
 unfold Pu.cut
 rw [List.reverse_append,List.reverse_singleton,List.singleton_append,List.takeWhile_cons]
 by_cases h:b=45
 ·subst h;simp
 ·simp [h];omega
theorem Pu.WM (l:List UInt8):Pu.cut l<=l.length:=by unfold Pu.cut;omega
theorem Pu.UA {e:Int} (h:Pu.BK l s.i 1 0 s.bias=.error e):Pu.BT l s=.error e:=by unfold Pu.BT;rw [h]
theorem Pu.VJ {r:List UInt8} {j:Int} (h:Pu.BK l s.i 1 0 s.bias=.ok (r,j)) :
 Pu.BT l s=if Pu.point (s.n+j / ((s.pts.length:Int)+1))=false then .error 2 else if 256 < ((s.pts.length:Int)+1) then .error 3 else .ok (r,⟨Pu.ins s.pts (j % ((s.pts.length:Int)+1)).toNat (s.n+j / ((s.pts.length:Int)+1)),s.n+j / ((s.pts.length:Int)+1),j % ((s.pts.length:Int)+1)+1,Pu.adapt (j - s.i) ((s.pts.length:Int)+1) s.first,false⟩):=by unfold Pu.BT;rw [h]
def WE (l:List UInt8) (a:World) (C:Nat) (v i:Value) (c:World):Prop:=∃ k:Nat,k<=C/\i=.int .i64 k/\AS a.heap.size c v ((l.take k).map fun b=>(b.toNat:Int))/\Below a.heap.size a c
def XH (l:List UInt8) (b:World) (h j v9 d e g:Value) (c:World):Prop:=∃ (f a:Nat) (s:Pu.D),a<=l.length/\l.length - a < f/\j=.int .i64 a/\v9=.int .i64 s.n/\d=.int .i64 s.i/\e=.int .i64 s.bias/\g=.bool s.first ∧
 AS b.heap.size c h s.pts/\Hid (Pu.decode l=Pu.CQ f (l.drop a) s)/\0<=s.i/\s.i<=s.pts.length/\0<=s.n/\s.n<=1114111/\0<=s.bias/\s.bias<=1000/\s.pts.length<=256/\Below b.heap.size b c
def XI (l:List UInt8) (c:Nat) (i b:Int) (g d e f:Value):Prop:=∃ (a k:Nat) (x j:Int),c<=a/\a<=l.length/\k<=a/\g=.int .i64 a/\d=.int .i64 j/\e=.int .i64 x/\f=.int .i64 k/\0<=x/\x<=1099511627776/\0<=j/\j<=1099511627776 ∧
 Hid (Pu.BK (l.drop c) i 1 0 b=Pu.BK (l.drop a) j x k b)
theorem dcx (w:World) (N:Int) :
 Hid (AS w.heap.size (w.alloc (.cells #[] 3)) (.slice w.heap.size 0 0) [])/\Hid (AS w.heap.size ((w.alloc (.cells #[] 3)).alloc (.cells #[N] 3)) (.slice w.heap.size 0 0) []) ∧
 Hid (AS w.heap.size ((w.alloc (.cells #[N] 3)).alloc (.cells #[] 3)) (.slice (w.heap.size+1:Nat) 0 0) []) ∧
 Hid (DX ((w.alloc (.cells #[] 3)).alloc (.cells #[N] 3)) (w.heap.size+1:Nat) 1 1 [N])/\Hid (DX ((w.alloc (.cells #[N] 3)).alloc (.cells #[] 3)) w.heap.size 1 1 [N]) ∧
 Hid (Below w.heap.size w (w.alloc (.cells #[] 3))/\Below w.heap.size w ((w.alloc (.cells #[] 3)).alloc (.cells #[N] 3))/\Below w.heap.size w ((w.alloc (.cells #[N] 3)).alloc (.cells #[] 3))):=by
 have b:=AS.empty (base:=w.heap.size) (w.alloc (.cells #[N] 3)) (by simp)
 rw [show (w.alloc (.cells #[N] 3)).heap.size=w.heap.size+1 by simp] at b
 have a:=DX.one (w.alloc (.cells #[] 3)) N 3
 rw [show (w.alloc (.cells #[] 3)).heap.size=w.heap.size+1 by simp] at a
 exact⟨zH (AS.empty w (zN _)),zH (AS.alloc (AS.empty w (zN _)) _),zH b,zH a,zH ((DX.one w N 3).ext ((Below.refl _ _).alloc (zN _) _)),
  zH ⟨(Below.refl _ _).alloc (zN _) _,((Below.refl _ _).alloc (zN _) _).alloc (by simp) _,((Below.refl _ _).alloc (zN _) _).alloc (by simp) _⟩⟩
theorem Ca (l:List UInt8) (w:World) (hl:l.length<=1000000):Calls Tryz.prog 212 #[.string (str l)] w (DL l w):=by
 have hsz:=CT l
 by_cases hn:1024 < l.length
 ·have hd:Pu.decode l=.error 3:=by unfold Pu.decode;rw [if_pos hn]
  have T:=zH hd
  have ht:(1024:Int) < (l.length:Int):=by omega
  clear hd hn
  go_in
  go_wp2_with fail
  go_ret2
  exact Qw T.out rfl (Below.refl _ _)
 have ht:¬ (1024:Int) < (l.length:Int):=by omega
 have xn:¬ (∀ b ∈ l,b.toNat < 128)->Pu.decode l=.error 4:=by
  intro h;unfold Pu.decode;rw [if_neg hn,if_pos (by rw [Bool.eq_false_iff,ne_eq,List.all_eq_true];simpa using h)]
 have xo:(∀ b ∈ l,b.toNat < 128)->Pu.decode l=if 256 < Pu.cut l then .error 3 else Pu.CQ (l.length+1) (if Pu.cut l=0 then l else l.drop (Pu.cut l+1)) ⟨(l.take (Pu.cut l)).map fun b=>(b.toNat:Int),128,0,72,true⟩:=by
  intro h;unfold Pu.decode;rw [if_neg hn,if_neg (by rw [Bool.not_eq_false,List.all_eq_true];simpa using h)]
 have yv:=zH xn;have yw:=zH xo
 have yn:∀ k (h:k < l.length) h',(str l)[k]'h'=l[k]:=fun k h h'=>Kc _ _ _
 have ys:=zH (Pu.WM l)
 have yt:=zH (fun h:Pu.cut l ≠ 0=>(Pu.WN l h).1)
 obtain⟨sv,yd⟩:∃ sv,sv=str l:=⟨_,rfl⟩
 have yi:∀ i (h:i < l.length) (h':i < sv.size),sv[i]=l[i]:=by subst yd;exact yn
 rw [<-yd] at hsz ⊢
 have zq:=zH yi
 clear xn xo yn yi yd
 go_in
 go_wp2_with fail
 go_loopw [4,5] (fun v i wr=>∃ k:Nat,k<=l.length/\i=.int .i64 k/\v=.int .i64 (Pu.cut (l.take k):Nat)/\Hid (∀ b ∈ l.take k,b.toNat < 128)/\wr=w) (fun _ i _=>l.length - (intOf i).toNat)
 case atStart=>exact⟨0,Nat.zero_le _,rfl,rfl,zH (by simp),rfl⟩
 case round =>
  obtain⟨k,A,rfl,rfl,HP,rfl⟩:=hrel
  by_cases zl:k < l.length
  ·have b0:(0:Int)<=(k:Int):=by omega
   have b1:(k:Int) < (l.length:Int):=by omega
   have zo:=List.take_succ_eq_append_getElem zl
   have zt:l[k] ∈ l:=List.getElem_mem zl
   have R:=Pu.SG (l.take k) l[k]
   rw [<-zo,List.length_take,Nat.min_eq_left (Nat.le_of_lt zl)] at R
   have c:=zq.out k zl
   generalize l[k]=b at *
   by_cases vy:128<=b.toNat
   ·have T:=zH (yv.out (fun h=>by have:=h b zt;omega))
    have Z:(128:Int)<=(b.toNat:Int):=by omega
    clear zo zt R
    go_wp2_with fail
    go_ret2
    exact Qw T.out rfl (Below.refl _ _)
   ·have Z:¬ (128:Int)<=(b.toNat:Int):=by omega
    have HN:=zH (show ∀ x ∈ l.take (k+1),x.toNat < 128 by
     rw [zo];intro x G
     rcases List.mem_append.1 G with G|G
     ·exact HP.out x G
     ·simp at G;subst G;omega)
    clear zo zt
    by_cases Y:b=45
    case' pos=>
     rw [if_pos Y] at R
     have yu:=zH R
     have vb:((b.toNat:Int) == 45)=true:=by rw [Y];rfl
     have kc:(b.toNat:Int)=45:=by rw [Y];rfl
    case' neg=>
     rw [if_neg Y] at R
     have yu:=zH R
     have zj:¬ (b.toNat:Int)=45:=fun e=>Y (UInt8.toNat_inj.1 (by simpa using (by omega:b.toNat=45)))
     have vb:((b.toNat:Int) == 45)=false:=by simpa using zj
    all_goals
     clear R Y
     go_wp2_with fail
     go_roundw
     case rel=>exact⟨k+1,by omega,by go_num,by rw [yu.out],HN,by first|rfl|trivial⟩
     case measure=>simp [intOf];omega
  ·obtain rfl:k=l.length:=by omega
   obtain⟨W0,rfl⟩:∃ W0,W0=wr:=⟨_,rfl⟩
   rw [List.take_of_length_le (zN _)] at HP ⊢
   have T:=zH (yw.out HP.out)
   have kk:=ys.out
   have vi:=yt.out
   clear yv yw HP ys yt
   generalize Pu.cut l=C at *
   go_wp2_with fail
   go_loopw [6,7] (fun v i q=>WE l W0 C v i q) (fun _ i _=>C - (intOf i).toNat)
   case atStart=>exact⟨0,Nat.zero_le _,rfl,by simpa using AS.nil _ _,Below.refl _ _⟩
   case round =>
    obtain⟨k,ko,rfl,F,p⟩:=hrel
    by_cases ka:k < C
    ·have b0:(0:Int)<=(k:Int):=by omega
     have b1:(k:Int) < (C:Int):=by omega
     have b2:(k:Int) < (l.length:Int):=by omega
     have xr:k < l.length:=by omega
     have ve:=zH (List.take_succ_eq_append_getElem xr)
     have c:=zq.out k xr
     generalize l[k]=b at *
     have za:=p.size
     have kg:((l.take k).map fun b=>(b.toNat:Int)).length<=1024:=by simp;omega
     have kr:IntKind.i64.wrap (b.toNat:Int)=(b.toNat:Int):=by rw [IntKind.wrap_i64];have:=b.toNat_lt;omega
     have xz:=zH (DX.one wr (b.toNat:Int) 3)
     go_wp2_with (at_builtin;go_must (refine Xf rfl _ _ rfl W0.heap.size _ _ rfl (F.alloc _) _ _ _ [(b.toNat:Int)] rfl xz.out (by omega) (by simp;omega) ?_);intro v1 w1 Q O)
     have vf:=(p.alloc za (.cells #[.int .i64 (b.toNat:Int)] 3)).grown O (by simp;omega) (fun k A=>(F.lt k A).1)
     clear O F p
     go_wp2
     go_roundw
     case rel=>exact⟨k+1,by omega,by go_num,by rw [ve.out,List.map_append];exact Q,vf⟩
     case measure=>simp [intOf];omega
    ·obtain rfl:k=C:=by omega
     obtain⟨d,zf⟩:∃ d,d=(l.take k).map fun b=>(b.toNat:Int):=⟨_,rfl⟩
     have vm:d.length=k:=by rw [zf];simp;omega
     rw [<-zf] at F
     have hd:=T.out
     rw [<-zf] at hd
     obtain⟨a6,c6,vs,-⟩:=id F.sl
     subst vs
     have za:=p.size
     clear zf
     by_cases zs:256 < k
     ·have zh:=zH (show Pu.decode l=.error 3 by rw [hd,if_pos zs])
      have vq:(256:Int) < (d.length:Int):=by omega
      clear hd T
      go_wp2_with fail
      go_ret2
      exact Qw zh.out rfl p
     rw [if_neg zs] at hd
     have vq:¬ (256:Int) < (d.length:Int):=by omega
     obtain⟨NB,zc⟩:∃ n,n=if k=0 then 0 else k+1:=⟨_,rfl⟩
     have xm:Pu.decode l=Pu.CQ (l.length+1) (l.drop NB) ⟨d,128,0,72,true⟩:=by
      rw [hd,zc];split <;> rfl
     have zh:=zH xm
     have xk:NB<=l.length:=by rw [zc];split <;> omega
     have yp:d.length<=256:=by omega
     clear hd T xm vi vm zs
     by_cases zk:k=0
     case' pos=>
      have vp:¬ (0:Int) < (k:Int):=by omega
      have he:k=NB:=by rw [zc,if_pos zk];exact zk
     case' neg=>
      have vp:(0:Int) < (k:Int):=by omega
      have he:k+1=NB:=by rw [zc,if_neg zk]
     all_goals
      clear zc zk
      go_wp2_with fail
      go_loopw [6,8,9,10,11,12] (fun v6 U v9 yh vu vv q=>XH l W0 v6 U v9 yh vu vv q) (fun _ U _ _ _ _ _=>l.length - (intOf U).toNat)
      case atStart=>exact⟨l.length+1,NB,⟨d,128,0,72,true⟩,xk,by omega,by rw [<-he] <;> go_num,rfl,rfl,rfl,rfl,F,zh,by simp,by simp,by simp,by simp,by simp,by simp,yp,p⟩
      case round =>
       clear p F zh he xk yp za
       obtain⟨f,M,⟨d,n,i,K,first⟩,ki,hf,rfl,rfl,rfl,rfl,rfl,F,HG,i0,i1,n0,n1,d0,d1,pl,p⟩:=hrel
       simp only at F HG i0 i1 n0 n1 d0 d1 pl
       obtain⟨f,rfl⟩:∃ g,f=g+1:=⟨f - 1,by omega⟩
       have za:=p.size
       obtain⟨a6,c6,rfl,zn⟩:=id F.sl
       by_cases kb:M < l.length
       ·have b0:(M:Int) < (l.length:Int):=by omega
        have xv:l.drop M ≠ []:=by intro e;have:=congrArg List.length e;simp at this;omega
        have c:=HG.out
        rw [Pu.CQ,if_neg xv] at c
        have H:=zH (fun e (h:Pu.BK (l.drop M) i 1 0 K=.error e)=>by rw [c,Pu.UA (s:=⟨d,n,i,K,first⟩) h]:∀ e,Pu.BK (l.drop M) i 1 0 K=.error e->Pu.decode l=.error e)
        have X:=zH (fun r j (h:Pu.BK (l.drop M) i 1 0 K=.ok (r,j))=>c.trans (by rw [Pu.VJ (s:=⟨d,n,i,K,first⟩) h]))
        clear c HG xv
        go_wp2_with fail
        go_loop [8,10,14,15] (fun U yh vw vx=>XI l M i K U yh vw vx) (fun U _ _ _=>l.length - (intOf U).toNat)
        case atStart=>exact⟨M,0,1,i,zN _,by omega,by omega,rfl,rfl,rfl,rfl,by omega,by omega,by omega,by omega,zH rfl⟩
        case round =>
         obtain⟨a,k,x,j,vz,ha,kp,rfl,rfl,rfl,rfl,x0,x1,j0,j1,HN⟩:=hrel
         by_cases xs:a < l.length
         ·have e0:(a:Int) < (l.length:Int):=by omega
          have kf:(0:Int)<=(a:Int):=by omega
          have kn:=zq.out a xs
          have c:=HN.out
          rw [List.drop_eq_getElem_cons xs,Pu.BK] at c
          generalize l[a]=b at *
          obtain⟨t1,t2⟩:=Pu.GP k K
          obtain⟨v0,v1⟩:=Pu.OS b
          have G:=Int.mul_le_mul_of_nonneg_left v1 x0
          have zp:=Int.mul_le_mul_of_nonneg_left v0 x0
          rw [Int.mul_comm x (Pu.value b)] at G zp
          rw [Int.mul_comm x (-1)] at zp
          have zu:0<=Pu.value b->0<=Pu.value b * x:=fun h=>Int.mul_nonneg h x0
          have yq:=fun W=>Zu k K W (by omega) d0 d1
          have zx:=zH yq
          have yr:=fun W=>Np false b W
          have zb:=zH yr
          clear yr yq
          generalize Pu.value b=u at *
          generalize Pu.thr k K=t at *
          obtain⟨y,hy⟩:∃ y,y=u * x:=⟨_,rfl⟩
          rw [<-hy] at c G zp zu
          have HY:=zH hy
          clear hy
          by_cases hu:u < 0
          ·rw [if_pos hu] at c
           have B:=zH (H.out _ c)
           clear c H X
           go_wp2_with fail
           refine (zb.out _).mono ?_;rintro e q ⟨rfl,rfl⟩
           go_wp2_with fail
           go_ret2
           exact Qw B.out rfl p
          rw [if_neg hu] at c
          have kt:=zu (by omega)
          have ku:y<=38482906972160:=by omega
          have ks:IntKind.i64.wrap (u * x)=y:=by rw [<-HY.out,IntKind.wrap_i64];omega
          clear zu G zp
          by_cases ho:1099511627776 < j+y
          ·rw [if_pos ho] at c
           have B:=zH (H.out _ c)
           have vc:IntKind.i64.wrap (j+y)=j+y:=by rw [IntKind.wrap_i64];omega
           clear c H X
           go_wp2_with fail
           refine (zb.out _).mono ?_;rintro e q ⟨rfl,rfl⟩
           go_wp2_with fail
           go_ret2
           exact Qw B.out rfl p
          rw [if_neg ho] at c
          obtain⟨J,hJ⟩:∃ J,J=j+y:=⟨_,rfl⟩
          rw [<-hJ] at c ho
          have vc:IntKind.i64.wrap (j+y)=J:=by rw [hJ,IntKind.wrap_i64];omega
          have J0:0<=J:=by omega
          have HJ:=zH hJ
          clear hJ
          by_cases ht:u < t
          ·rw [if_pos ht] at c
           obtain⟨Ji,-,-⟩:=Pu.IR _ _ _ _ _ _ _ i0 (by omega) c
           have o:=X.out _ _ c
           have yj:=zH o
           clear c o H X HN
           go_wp2_with fail
           refine (zb.out _).mono ?_;rintro e q ⟨rfl,rfl⟩
           go_wp2_with fail
           refine (zx.out _).mono ?_;rintro e q ⟨rfl,rfl⟩
           go_wp2_with fail
           have xj:=fun W=>Vf false (J - i) ((d.length:Int)+1) first W (by omega) (by omega) (by omega) (by omega)
           refine (xj _).mono ?_;rintro e q ⟨rfl,rfl⟩
           clear xj
           have xl:=Pu.GR (J - i) ((d.length:Int)+1) first (by omega) (by omega) (by omega)
           have o:=yj.out
           generalize Pu.adapt (J - i) ((d.length:Int)+1) first=nb at *
           have vn:0<=J / ((d.length:Int)+1):=Int.ediv_nonneg (by omega) (by omega)
           have vo:J / ((d.length:Int)+1)<=J:=Int.ediv_le_self _ (by omega)
           have vk:0<=J % ((d.length:Int)+1):=Int.emod_nonneg _ (by omega)
           have vl:J % ((d.length:Int)+1) < ((d.length:Int)+1):=Int.emod_lt_of_pos _ (by omega)
           have yk:=zH o
           clear o yj
           go_wp2_with fail
           obtain⟨N,hN⟩:∃ N,N=n+J / ((d.length:Int)+1):=⟨_,rfl⟩
           obtain⟨m,hm⟩:∃ m:Nat,(m:Int)=J % ((d.length:Int)+1):=⟨(J % ((d.length:Int)+1)).toNat,by omega⟩
           have xt:(J % ((d.length:Int)+1)).toNat=m:=by omega
           have o:=yk.out
           rw [xt,<-hm,<-hN] at o
           have zm:m<=d.length:=by omega
           have vg:0<=N:=by omega
           have kh:N<=2000000000000:=by omega
           rw [<-hm,<-hN]
           clear hm hN xt vk vl vn vo yk
           refine (Wa false N _ (by omega) (by omega)).mono ?_;rintro e q ⟨rfl,rfl⟩
           cases hp:Pu.point N with
          |false =>
            rw [hp,if_pos rfl] at o
            have B:=zH o
            clear o hp
            go_wp2_with fail
            go_ret2
            exact Qw B.out rfl p
          |true =>
            rw [hp,if_neg (by simp)] at o
            have vh:=((Pu.BC N).1 hp).2.1
            have yl:=zH o
            clear o hp
            go_wp2_with fail
            have zd:=zn.take zm
            have kj:=zn.2.1
            have g0:(0:Int)<=(m:Int):=by omega
            have g1:(m:Int)<=(c6:Int):=by omega
            have g2:(m:Int)<=(d.length:Int):=by omega
            have yo:=F.lt
            have yb:=Mg d m N
            have xq:=Pu.FF d m N zm
            have o:=yl.out
            obtain⟨IN,xh⟩:∃ I,Pu.ins d m N=I:=⟨_,rfl⟩
            obtain⟨I1,zy⟩:∃ x:Int,x=(m:Int)+1:=⟨_,rfl⟩
            rw [xh] at yb xq o
            rw [<-zy,show (d.length:Int)+1=(IN.length:Int) by omega] at o
            have vd:=zH zy
            have yx:=zH yb
            have zr:=zH o
            have va:I1<=(IN.length:Int):=by omega
            have vj:0<=I1:=by omega
            clear zy xh xq o yl yb
            rcases id F.2 with⟨hv,xu⟩|⟨g6,cap,ke,hv,-⟩
            case' inl=>
             injection hv with ye vr yf
             subst ye;subst yf
             obtain rfl:d=[]:=List.eq_nil_of_length_eq_zero xu
             obtain rfl:m=0:=by simpa using zm
             have zd:DX wr none 0 0 (([]:List Int).take 0):=DX.nil wr
             have ze:DX wr none 0 0 (([]:List Int).drop 0):=DX.nil wr
             clear zn yo xu vr g0 g1 g2
            case' inr=>
             injection hv with ye _ yf
             subst ye;subst yf
             have km:g6 < wr.heap.size:=(yo _ rfl).2
             have kq:(d.take m).length=m:=by simp;omega
             by_cases kl:c6=m
             case' pos=>
              subst c6
              have ze:DX wr g6 0 0 (d.drop m):=by
               rw [List.drop_eq_nil_of_le (by omega)];exact DX.zero _ _ _ (by unfold maxLen;omega)
             case' neg=>
              have ze:=zn.drop zm
              simp only [Nat.zero_add] at ze
            all_goals
             obtain⟨yy,yz,xa,xb,xc,P⟩:=dcx wr N
             have xe:=zH (zd.ext P.out.1);have xf:=zH (zd.ext P.out.2.1);have xg:=zH (zd.ext P.out.2.2)
             have xd:=zH ze
             clear ze zd
             go_region_law (first|(refine Jt rfl (.tmp 117) (.tmp 120) rfl wr.heap.size _ [] rfl (by first|exact yy.out|exact yz.out|exact xa.out) _ _ _ _ rfl (by first|exact xe.out|exact xf.out|exact xg.out) (by simp <;> omega) (by simp <;> omega) ?_;intro v1 w1 Q O;have zi:Below wr.heap.size wr w1:=(by first|exact Ja P.out.1 O rfl rfl rfl rfl (by simp <;> omega) (fun k A=>by cases A;first|exact zN _|exact Nat.le_succ _)|exact Ja P.out.2.1 O rfl rfl rfl rfl (by simp <;> omega) (fun k A=>by cases A;first|exact zN _|exact Nat.le_succ _)|exact Ja P.out.2.2 O rfl rfl rfl rfl (by simp <;> omega) (fun k A=>by cases A;first|exact zN _|exact Nat.le_succ _));have zg:=zi.size)|(refine Jt rfl (.tmp 121) (.tmp 123) rfl wr.heap.size _ _ rfl (by first|exact Q|exact Q.alloc _) _ _ _ [N] rfl (by first|exact DX.one w1 N _|exact Hi xb.out O rfl (fun e=>Nat.succ_ne_self _ (Option.some.inj e).symm)|exact Hi xc.out O rfl (fun e=>Nat.succ_ne_self _ (Option.some.inj e))) (by simp <;> omega) (by first|exact zg|(simp <;> omega)) ?_;intro v2 q zz yc;have Z:Below wr.heap.size wr q:=(by first|exact Ja zi yc rfl rfl rfl rfl zg (fun k A=>(Q.lt k A).1)|exact Ja (zi.alloc zg (.cells #[N] 3)) yc rfl rfl rfl rfl (by simp <;> omega) (fun k A=>(Q.lt k A).1));have zv:=Z.size)|(refine Jt rfl (.tmp 124) (.tmp 127) rfl wr.heap.size _ _ rfl zz _ _ _ _ rfl (xd.out.ext Z) (by simp <;> omega) zv ?_;intro v3 w3 ya xp;have zj:Below wr.heap.size wr w3:=Ja Z xp rfl rfl rfl rfl zv (fun k A=>(zz.lt k A).1)))
             all_goals
              have hb:=p.trans (zj.mono za)
              rw [yx.out] at ya
              have xi:=ya.mono za
              obtain⟨a7,c7,rfl,-⟩:=id xi.sl
              clear O yc xp Q zz ya zi Z zj xe xf xg yy yz xa xb xc P xd zg zv yx
              have o:=zr.out
              by_cases ym:256 < (IN.length:Int)
              ·rw [if_pos ym] at o
               have B:=zH o
               clear o zr
               go_wp2_with fail
               go_ret2
               exact Qw B.out rfl hb
              ·rw [if_neg ym] at o
               have zw:=zH o
               clear o zr
               go_wp2_with fail
               go_roundw
               case rel=>exact⟨f,a+1,⟨IN,N,I1,nb,false⟩,by omega,by omega,by go_num,rfl,by rw [vd.out] <;> go_num,rfl,rfl,xi,zw,vj,va,vg,vh,xl.1,xl.2,by simp;omega,hb⟩
               case measure=>simp [intOf];omega
          rw [if_neg ht] at c
          have vt:=Int.mul_le_mul_of_nonneg_left (show 36 - t<=35 by omega) x0
          have xy:=Int.mul_nonneg x0 (show 0<=36 - t by omega)
          obtain⟨z,yg⟩:∃ z,z=x * (36 - t):=⟨_,rfl⟩
          rw [<-yg] at c vt xy
          have kd:IntKind.i64.wrap (x * (36 - t))=z:=by rw [<-yg,IntKind.wrap_i64];omega
          clear yg
          by_cases xw:1099511627776 < z
          ·rw [if_pos xw] at c
           have B:=zH (H.out _ c)
           clear c H X
           go_wp2_with fail
           refine (zb.out _).mono ?_;rintro e q ⟨rfl,rfl⟩
           go_wp2_with fail
           refine (zx.out _).mono ?_;rintro e q ⟨rfl,rfl⟩
           go_wp2_with fail
           go_ret2
           exact Qw B.out rfl p
          ·rw [if_neg xw] at c
           have zw:=zH c
           clear c
           go_wp2_with fail
           refine (zb.out _).mono ?_;rintro e q ⟨rfl,rfl⟩
           go_wp2_with fail
           refine (zx.out _).mono ?_;rintro e q ⟨rfl,rfl⟩
           go_wp2_with fail
           go_round
           case rel=>exact⟨a+1,k+1,z,J,by omega,by omega,by omega,by go_num,rfl,rfl,by go_num,xy,by omega,J0,by omega,zw⟩
           case measure=>simp [intOf];omega
         ·obtain rfl:a=l.length:=by omega
          have c:=HN.out
          rw [List.drop_length,Pu.BK] at c
          have B:=zH (H.out _ c)
          clear c H X
          go_wp2_with fail
          go_ret2
          exact Qw B.out rfl p
       ·obtain rfl:M=l.length:=by omega
        have c:=HG.out
        rw [List.drop_length,Pu.CQ,if_pos rfl] at c
        have B:=zH c
        clear c HG
        go_wp2_with fail
        go_ret2
        exact Ge B.out rfl F p
end
end Go.Proofs.YtmanejniepghlaaGreatDoor
