import Derived.Test.YtmanejniepghlaaGreatDoorRun28
import Derived.Test.YtmanejniepghlaaGreatDoorRun2
set_option maxHeartbeats 8000000
set_option maxRecDepth 100000
namespace Go.Proofs.YtmanejniepghlaaGreatDoor
section
open Go.RowKit
theorem XX (n:Nat):(madeCells (Value.slice none 0 0).cells (n * 1)).toList=List.replicate n (.slice none 0 0):=by
 rw [Nat.mul_one,show madeCells (Value.slice none 0 0).cells n=madeCells #[.slice none 0 0] n from rfl,toList_madeCells_one]
theorem Xl {w:World} {m:Array Oper} {rest:List Oper} {o:Oper} {a:Act} {Q:Exit->Act->World->Prop} (J:o.guard=none) (l c:Operand) (u:o.op=Op.makeSlice 112 l c)
 (n:Nat) (L C:Int) (N:a.eval l=.int .i64 L) (I:a.eval c=.int .i64 C) (H:L=(n:Int)) (B:C=(n:Int)) (T:n<=1000000)
 (G:∀ b f,Below w.heap.size w b->b.heap[w.heap.size]?=some (.cells f 70 (0,0))->n<=f.size->(∀ i,i < n->f[i]?=some (.slice none 0 0))->wpList Tryz.prog m Q rest (a.put o.dst (.slice w.heap.size n n)) b):wpList Tryz.prog m Q (o :: rest) a w:=by
 obtain⟨P,K,x,y,z⟩:=info_parts PE
 refine wpList_make_full w J l c 112 u w.heap.size 70 P (.slice none 0 0) 1 Tryz.underlying112 K x y .i64 .i64 L C n N I H B (by rw [z];omega) (by unfold maxLen;omega) (zN _) ?_
 intro b h s
 rw [XX] at h
 have A:=(Below.refl w.heap.size w).grown s (zN _) (fun k M=>by cases M)
 rcases h.2 with⟨e,-⟩|⟨g,cap,j,O,-,q,R,-,hsz,r⟩
 ·cases e
 ·cases O
  refine G b j A q (by omega) fun i t=>?_
  have p:(j.toList.take (n * 1))[i]?=some (.slice none 0 0):=by rw [r];simp [t]
  rw [List.getElem?_take_of_lt (by omega)] at p
  simpa using p
section
variable {F:Nat->Prop} {w w':World} {g sb cb sc:Nat} {fa:Option Addr} {fn fc:Nat} {d d':Dd.Dk}
theorem RD.store (h:RD F w g sb cb sc fa fn fc d) {i b c:Nat} (n:i < d.st.length) {x:List UInt8} (o:x.length=64) (p:w.heap.size<=b) {f:World} (j:Below w.heap.size w f) (hs:AM f b 64 c x) (l:b < f.heap.size) :
 RD (fun k=>F k\/k=b) (f.setCell (sb i) (.slice b 64 c)) g sb cb sc fa fn fc { d with st:=d.st.set i x }/\AD F w (fun k=>F k\/k=b) (f.setCell (sb i) (.slice b 64 c)):=by
 have ne:∀ k,F k->k ≠ b:=fun k a e=>by have:=h.lt k a;omega
 have m:=(h.ext j).widen (F':=fun k=>F k\/k=b) (fun k a=>.inl a) (fun k a=>by
  rcases a with e|rfl
  ·have:=h.lt k e;have:=j.size;omega
  ·exact l)
 refine⟨m.TU n ⟨b,c,rfl,⟨.inr rfl,fun e=>ne g h.Fg e.symm,fun e=>ne sb h.Fs e.symm,fun e=>ne cb h.Fc e.symm⟩,hs⟩ o,?_⟩
 exact ((AD.AL j).setCell (.inl h.Fs) _ _).grow fun k a=>by
  rcases a with e|e
  ·exact .inl e
  ·exact .inr (by omega)
def XJ (F:Nat->Prop) (w:World) (g sb cb sc:Nat) (fa:Option Addr) (fn fc:Nat) (d:Dd.Dk) (wr:World):Prop :=
 ∃ a,RD a wr g sb cb sc fa fn fc d/\AD F w a wr
def GQ (F:Nat->Prop) (w:World) (g sb sc:Nat) (d:Dd.Dk) (e:Ending) (w':World):Prop :=
 e=.returned (.tuple #[])/\∃ a cb,RD a w' g sb cb sc none 0 0 d/\AD F w a w'
theorem Rt (h:RD F w g sb cb sc fa fn fc d) (a:Option Addr) (n c:Nat) (u:List (Int × Int)) (W:CZ w a n c u) (hF:∀ y,a=some y->u ≠ []->¬ F y.block) :
 Calls Tryz.prog 36 #[.pointer g,.slice a n c] w (GQ F w g sb sc (Dd.restart d u)):=by
 have zv:=zH W.len
 have xm:=W.le
 have xd:=h.ok.max
 obtain⟨N,hN⟩:∃ N,N=d.st.length:=⟨_,rfl⟩
 rw [<-hN] at xd
 have t:∀ k,((u.take k).foldl Dd.tear d).st.length=N:=fun k=>by rw [(h.ok.tears _).2.2];exact hN.symm
 have B:∀ k,((u.take k).foldl Dd.tear d).ca=d.ca:=fun k=>(h.ok.tears _).2.1
 have ya:d.ca.length=N:=by rw [hN];exact h.ok.len
 have zw:=zH t
 have zt:=zH B
 have zu:=zH ya
 have yp:=zH (⟨F,h,AD.refl _ _⟩:XJ F w g sb cb sc fa fn fc d w)
 clear hN t B ya
 go_in
 go_wp2
 go_loopw [4,5,6] (fun i _ _ wr=>∃ k:Nat,k<=n/\i=.int .i64 k/\XJ F w g sb cb sc fa fn fc ((u.take k).foldl Dd.tear d) wr) (fun i _ _ _=>n - (intOf i).toNat)
 case atStart=>exact⟨0,Nat.zero_le _,rfl,yp.out⟩
 case round =>
  obtain⟨k,xl,rfl,F1,m,C⟩:=hrel
  by_cases yd:k < n
  ·have yc:=W.upd C hF
   obtain⟨b,o,rfl,hb,p1,p2⟩:=yc.at yd
   have Y:=zH (Hl d u k (by rw [zv.out];exact yd))
   have t:=zw.out k
   have B:=zt.out k
   obtain⟨r,zb⟩:∃ r,List.foldl Dd.tear d (List.take k u)=r:=⟨_,rfl⟩
   rw [zb] at Y m t B
   clear zb
   obtain⟨pr,yf⟩:∃ pr,u[k]?.getD (0,0)=pr:=⟨_,rfl⟩
   rw [yf] at Y p1 p2
   obtain⟨z1,z⟩:=pr
   change _=some (Value.int IntKind.i64 z1) at p1
   change _=some (Value.int IntKind.i64 z) at p2
   clear yf
   obtain⟨O,G,-⟩:=m.cells
   rw [t] at O G
   have i0:(0:Int)<=(k:Int):=by omega
   have i1:(k:Int) < (n:Int):=by omega
   by_cases hz:z1 < 0
   ·have s:Dd.tear r (z1,z)=r:=by unfold Dd.tear;rw [if_neg (by simpa using hz)]
    have s:=zH s
    clear t B
    go_wp2
    exact⟨⟨k+1,by omega,by go_num,⟨F1,by rw [Y.out,s.out];exact m,C⟩⟩,by simp [intOf];omega⟩
   obtain⟨q,rfl⟩:∃ q:Nat,z1=(q:Int):=⟨z1.toNat,by omega⟩
   by_cases hq:N<=q
   ·have s:Dd.tear r ((q:Int),z)=r:=by
     unfold Dd.tear
     rw [if_pos (by simp)]
     have:r.ca[Int.toNat ((q:Int),z).1]?=none:=by rw [B];exact List.getElem?_eq_none (by show d.ca.length<=q;rw [zu.out];exact hq)
     rw [this]
    have s:=zH s
    have xo:(N:Int)<=(q:Int):=by omega
    clear t B
    go_wp2
    exact⟨⟨k+1,by omega,by go_num,⟨F1,by rw [Y.out,s.out];exact m,C⟩⟩,by simp [intOf];omega⟩
   have zd:q < d.ca.length:=by rw [zu.out];omega
   have R:r.ca[q]?=some (d.ca[q]'zd):=by rw [B];exact List.getElem?_eq_getElem zd
   have T:q < r.st.length:=by rw [t];omega
   obtain⟨v,cv,sv⟩:=m.cac.cell R
   obtain⟨x,hx⟩:∃ x,d.ca[q]'zd=x:=⟨_,rfl⟩
   rw [hx] at sv R
   clear hx zd
   have j0:(0:Int)<=(q:Int):=by omega
   have j1:(q:Int) < (N:Int):=by omega
   cases x with
  |none =>
    have sv:v=.slice none 0 0:=sv
    subst sv
    have yk:=fun (w:World)=>Lib.run_eql_slice_nil (P:=Tryz.prog) w 70 5 none 0 0 0 0 Tryz.underlying70
    have s:Dd.tear r ((q:Int),z)=r:=by
     unfold Dd.tear
     rw [if_pos (by simp)]
     have:r.ca[Int.toNat ((q:Int),z).1]?=some none:=R
     rw [this]
    have s:=zH s
    clear t B R
    go_wp2
    exact⟨⟨k+1,by omega,by go_num,⟨F1,by rw [Y.out,s.out];exact m,C⟩⟩,by simp [intOf];omega⟩
  |some x =>
    have xi:=m.ok.ca64 x (List.mem_of_getElem? R)
    obtain⟨Z,J,rfl,r1,l1⟩:=sv
    obtain⟨vs,za,xe⟩:=m.sto.cell (i:=q) (x:=some (r.st[q]'T)) (by rw [List.getElem?_map,List.getElem?_eq_getElem];rfl)
    obtain⟨b2,U,rfl,r2,l2⟩:=xe
    have yl:=m.ok.st64 _ (List.getElem_mem T)
    have zo:r.st[q]?.getD []=r.st[q]'T:=by simp [T]
    obtain⟨y,hy⟩:∃ y,r.st[q]'T=y:=⟨_,rfl⟩
    rw [hy] at l2 yl zo
    clear hy
    have fs:=m.sto.free q
    obtain⟨f,ye⟩:∃ f:Nat,(f:Int)=min (max z 0) 64:=⟨(min (max z 0) 64).toNat,by omega⟩
    have zs:f<=64:=by omega
    have s:Dd.tear r ((q:Int),z)={ r with st:=r.st.set q (x.take f ++ y.drop f) }:=by
     unfold Dd.tear
     rw [if_pos (by simp)]
     have e1:Int.toNat ((q:Int),z).1=q:=rfl
     have e2:(min (max ((q:Int),z).2 0) 64).toNat=f:=by show (min (max z 0) 64).toNat=f;omega
     rw [e1,e2,R,zo]
    have zr:(x.take f ++ y.drop f).length=64:=by rw [List.length_append,List.length_take,List.length_drop];omega
    have s:=zH s
    have zp:=zH zr
    have xh:=zH ye
    have yo:=zH T
    have yc:=l1.2.1
    have xk:=l2.2.1
    have yk:=fun (w:World)=>Lib.run_eql_slice_nil (P:=Tryz.prog) w 70 5 Z 64 J 0 0 Tryz.underlying70
    have xn:max 0 (min z 64)=(f:Int):=by omega
    obtain⟨M,hM⟩:∃ M:Int,(if 64 < z then 64 else z)=M:=⟨_,rfl⟩
    have xg:(if 0 < M then M else 0)=(f:Int):=by omega
    clear t B R ye zr zo T
    have n0:(0:Int)<=(f:Int):=by omega
    have n1:(f:Int)<=(J:Int):=by omega
    have n2:(f:Int)<=64:=by omega
    have n3:f<=J:=by omega
    have I:=Qa m.box
    have zh:=m.cac.lt
    have zi:=m.sto.lt
    have zk:=m.AI (w':=wr.drew) (fun _ _=>rfl) (zN _)
    have S1:AM (wr.drew.alloc (.cells #[] 5)) Z f J (x.take f):=((l1.AI (w':=wr.drew) (fun _ _ _=>rfl) (zN _)).ext ((Below.refl _ _).alloc (zN _) _)).take zs
    have xq:sb ≠ g:=Ne.symm m.gs
    have xp:sb ≠ cb:=m.sc'
    have yq:∀ o,(wr.drew.alloc o).cell? g=_:=fun o=>(((Below.refl wr.drew.heap.size wr.drew).alloc (zN _) o).cell (p:=g) I).trans O
    have yr:∀ o,(wr.drew.alloc o).cell? (g 1)=_:=fun o=>(((Below.refl wr.drew.heap.size wr.drew).alloc (zN _) o).cell (p:=(g 1)) I).trans G
    have ys:∀ o,(wr.drew.alloc o).cell? (cb q)=_:=fun o=>(((Below.refl wr.drew.heap.size wr.drew).alloc (zN _) o).cell (p:=(cb q)) zh).trans cv
    have yt:∀ o,(wr.drew.alloc o).cell? (sb q)=_:=fun o=>(((Below.refl wr.drew.heap.size wr.drew).alloc (zN _) o).cell (p:=(sb q)) zi).trans za
    obtain⟨zc,xf,S2⟩:∃ zc,(if U=f then some (b2:Addr) else some (b2 f))=zc/\AM wr.drew zc (64 - f) (U - f) (y.drop f):=by
     refine⟨_,rfl,?_⟩
     by_cases zm:U=f
     ·have xc:f=64:=by omega
      rw [if_pos zm,zm,xc,List.drop_of_length_le (by omega)];exact AM.void _ _ _
     ·rw [if_neg zm]
      simpa using (l2.AI (w':=wr.drew) (fun _ _ _=>rfl) (zN _)).drop zs
    go_wp2
    refine Na (by kernel_rfl) 27 (fun w'=>w'.cell? g=some (.slice sb N sc)/\w'.cell? (g 1)=some (.slice cb N N)/\w'.cell? (cb q)=some (.slice Z 64 J)/\w'.cell? (sb q)=some (.slice b2 64 U)) ?_
    have yh:wr.drew.cell? g=some (.slice sb N sc)/\wr.drew.cell? (g 1)=some (.slice cb N N)/\wr.drew.cell? (cb q)=some (.slice Z 64 J)/\wr.drew.cell? (sb q)=some (.slice b2 64 U):=⟨O,G,cv,za⟩
    refine LV [0,1,2,3,4,6,7,8,9,10,11,12,13,14,16,17,18,19,20,21,22,23,24] ?_
    repeat ((refine Kf (v:=?_) rfl (by kernel_rfl) (by kernel_rfl) (by kernel_rfl) (by kernel_rfl) (by kernel_rfl) (fun _ _ _ h=>h) (Or.inl ⟨by rfl,?_⟩) (by assumption) ?_;rotate_left;·intro w zl;(try dsimp only at zl);go_simp;try with_reducible rfl);try simp only [Act.put])
    refine LW ?_
    refine Yf (i:=5) rfl (by kernel_rfl) (fun K A=>?_)
    go_simp
    refine A.out _ _ (fun _=>⟨yq _,yr _,ys _,yt _⟩) ?_;clear A K
    try simp only [Act.put]
    refine Yf (i:=15) rfl (by kernel_rfl) (fun K A=>?_)
    refine Jd rfl (.tmp 53) (.tmp 62) rfl wr.drew.heap.size _ [] (by simp [Act.eval]) (AC.empty wr.drew (zN _)) Z f J (x.take f) (by simp [Act.eval]) S1 (by simp;omega) (by simp) ?_
    intro v3 w3 zx xb
    have H:=((Below.refl wr.drew.heap.size wr.drew).alloc (zN _) (.cells #[] 5)).grown xb (by simp) (fun k W=>by cases W;exact zN _)
    have a0:=(H.cell (p:=g) I).trans O
    have a1:=(H.cell (p:=(g 1)) I).trans G
    have a2:=(H.cell (p:=(cb q)) zh).trans cv
    have a3:=(H.cell (p:=(sb q)) zi).trans za
    refine A.out _ _ (fun _=>⟨a0,a1,a2,a3⟩) ?_;clear A K
    try simp only [Act.put]
    refine Yf (i:=25) rfl (by kernel_rfl) (fun K A=>?_)
    refine Jd rfl (.tmp 63) (.tmp 72) rfl wr.drew.heap.size v3 _ (by simp [Act.eval]) zx zc (64 - f) (U - f) (y.drop f) (by simp [Act.eval]) (S2.ext H) (by simp;omega) H.size ?_
    intro v5 w5 zy yb
    obtain⟨b5,c5,rfl,yy,yi,yg⟩:=AC.NB (l:=x.take f ++ y.drop f) zy zp.out
    have Q:=H.grown yb H.size (fun k W=>(zx.lt k W).1)
    have e0:=(Q.cell (p:=g) I).trans O
    have e1:=(Q.cell (p:=(g 1)) I).trans G
    have e2:=(Q.cell (p:=(cb q)) zh).trans cv
    have e3:=(Q.cell (p:=(sb q)) zi).trans za
    have e4:w5.frozen? (sb q)=false:=((zk.ext Q).sto.free q)
    refine A.out _ _ (fun _=>⟨e0,e1,e2,e3⟩) ?_;clear A K
    try simp only [Act.put]
    have yu:w5.cell? g=some (.slice sb N sc)/\w5.cell? (g 1)=some (.slice cb N N)/\w5.cell? (cb q)=some (.slice Z 64 J)/\w5.cell? (sb q)=some (.slice b2 64 U):=⟨e0,e1,e2,e3⟩
    refine LV [26] ?_
    repeat ((refine Kf (v:=?_) rfl (by kernel_rfl) (by kernel_rfl) (by kernel_rfl) (by kernel_rfl) (by kernel_rfl) (fun _ _ _ h=>h) (Or.inl ⟨by rfl,?_⟩) (by assumption) ?_;rotate_left;·intro w zl;(try dsimp only at zl);go_simp;try with_reducible rfl);try simp only [Act.put])
    refine LW ?_
    refine Yf (i:=27) rfl (by kernel_rfl) (fun K A=>?_)
    go_simp
    refine A.out _ _ (fun e=>absurd rfl e) ?_;clear A K
    try simp only [Act.put]
    refine Gz (by kernel_rfl) ?_ _
    obtain⟨yv,zz⟩:=zk.store yo.out zp.out yy Q yg yi
    clear e0 e1 e2 e3 e4 O G cv za yg zy yb Q yh yu
    generalize w5.setCell (sb q) (.slice b5 64 c5)=W6 at *
    have yx:=(C.drew).trans zz
    clear zz zk C
    go_wp2
    exact⟨⟨k+1,by omega,by go_num,⟨_,by rw [Y.out,s.out];exact yv,yx⟩⟩,by simp [intOf];omega⟩
  ·obtain rfl:k=n:=by omega
   have zq:u.take k=u:=List.take_of_length_le (by rw [zv.out];exact zN _)
   have t:=zw.out k
   have ze:=zt.out k
   rw [zq] at m t ze
   have zn:Dd.restart d u={ u.foldl Dd.tear d with ca:=List.replicate d.ca.length none,fs:=[],cnt:=0,off:=false }:=rfl
   have zf:(u.foldl Dd.tear d).ca.length=d.ca.length:=by rw [ze]
   obtain⟨r,zb⟩:∃ r,List.foldl Dd.tear d u=r:=⟨_,rfl⟩
   rw [zb] at m t zn zf
   have ym:=zH zn
   have yn:=zH zf
   have zg:=zH t
   obtain⟨O,G,-⟩:=m.cells
   rw [t] at O G
   have I:=Qa m.box
   clear zb zn zf ze zq
   have xj:=m.free 1
   have t8:(N:Int)<=1000000:=by omega
   go_wp2_with ((show wpList _ _ _ (Oper.mk (some 81) _ _ _ _ _ :: _) _ _);go_must (refine Xl rfl (.tmp 80) (.tmp 80) rfl N (N:Int) (N:Int) rfl rfl rfl rfl (by omega) ?_);intro w1 cs zj yz yj xa;have X:=m.ext zj;have x1:=(zj.cell (p:=(g 1)) I).trans G;obtain⟨-,-,x2,x3,x4⟩:=X.cells;have f1:=X.free 1;have f2:=X.free 2;have f3:=X.free 3;have f4:=X.free 4)
   go_end0
   have hC:=X.YD yz (by rw [zg.out];exact yj) (by rw [zg.out];exact xa) (fun e=>Nat.lt_irrefl _ (m.lt _ e))
   rw [zg.out,yn.out] at hC
   have hD:=((hC.OM none 0 0 [] (CZ.nil _) (fun y hy=>by cases hy)).GO 0).FG false
   have hg:=h.Fg
   have yw:=((((C.ext zj).setCell (.inl hg) 1 (.slice wr.heap.size N N)).setCell (.inl hg) 2 (.slice none 0 0)).setCell (.inl hg) 3 (.int .i64 0)).setCell (.inl hg) 4 (.bool false)
   refine⟨rfl,_,_,by rw [ym.out];exact hD,yw.grow (fun j hj=>?_)⟩
   rcases hj with e|rfl
   ·exact C.new j e
   ·exact .inr C.size
end
end
section
open Go.RowKit
variable {w w':World} {base:Nat} {v:Value} {ls:List (List UInt8)} {l:List UInt8}
theorem Dd.NN (n:Nat) (l:List UInt8):Dd.BB (n+1) l=Dd.BB n l ++ [(l.drop (64 * n)).take 64]:=by
 unfold Dd.BB
 rw [List.range_succ,List.map_append];rfl
theorem BR.ZA (h:BR base w v ls) (s:∀ x ∈ ls,x.length=64) (N:0 < ls.length) :
 ∃ d sc,v=.slice (d:Nat) ls.length sc/\base<=d/\d < w.heap.size/\ls.length<=sc/\RowS (fun k=>base<=k/\k < w.heap.size/\k ≠ d) w d (ls.map some):=by
 obtain⟨G,n,A⟩:=h
 have O:G.length=ls.length:=by rw [n.1];simp
 rcases id n.2 with⟨p,hn⟩|⟨g,cap,r,p,F,f,y,K,M,H⟩
 ·omega
 ·refine⟨g,cap,p,F,Qa f,y,r,f,by simp;omega,fun i x a=>?_⟩
  rw [List.getElem?_map] at a
  have j:i < ls.length:=by
   rcases Nat.lt_or_ge i ls.length with h|h
   ·exact h
   ·rw [List.getElem?_eq_none h] at a;cases a
  rw [List.getElem?_eq_getElem j] at a
  cases a
  obtain⟨u,B,o⟩:=A i j
  have e:ls[i]?.getD []=ls[i]:=by simp [j]
  rw [e] at o
  obtain⟨b,c,rfl,C,t,hs⟩:=o.NB (s _ (List.getElem_mem j))
  refine⟨_,?_,b,c,rfl,⟨C,t,fun e=>?_⟩,hs⟩
  ·have:=World.ownsRow.cellAt (g:=g) (cap:=cap) (by rw [<-p];exact n) i (by omega)
   rw [cell_of_row _ _ _ _ _ _ f] at this
   rw [this];simpa using B
  ·subst e
   rcases o.2 with⟨m,_⟩|⟨P,I,J,m,_,q,_⟩
   ·cases m
   ·injection m with z
    cases z
    rw [f] at q
    cases q
theorem AC.TD (h:AC base w v l) (k:∀ b,base<=b->b < w.heap.size->w'.heap[b]?=w.heap[b]?):AC base w' v l:=by
 refine⟨h.1,?_⟩
 rcases h.2 with hn|⟨g,cap,d,rfl,c,a,rest⟩
 ·exact .inl hn
 ·exact .inr ⟨g,cap,d,rfl,c,(k g c (Qa a)).trans a,rest⟩
theorem BR.TD (h:BR base w v ls) (k:∀ b,base<=b->b < w.heap.size->w'.heap[b]?=w.heap[b]?):BR base w' v ls:=by
 obtain⟨o,c,f⟩:=h
 refine⟨o,⟨c.1,?_⟩,fun i n=>?_⟩
 ·rcases c.2 with hn|⟨g,cap,e,rfl,d,a,rest⟩
  ·exact .inl hn
  ·exact .inr ⟨g,cap,e,rfl,d,(k g d (Qa a)).trans a,rest⟩
 ·obtain⟨u,j,m⟩:=f i n
  exact⟨u,j,m.TD k⟩
def UI (a:World) (g c n:Nat) (l:List UInt8) (k:Nat) (wr:World):Prop :=
 ∃ v,wr.heap[g]?=some (.cells #[v,.slice c n n,.slice none 0 0,.int .i64 0,.bool false] 128 (0,0))/\BR a.heap.size wr v (Dd.BB k l)/\AD (fun b=>b=g) a (fun b=>b=g) wr
def NF (w:World) (d:Dd.Dk) (e:Ending) (w':World):Prop :=
 ∃ F g b a sc,e=.returned (.tuple #[.pointer (g:Nat),.int .i64 0])/\RD F w' g b a sc none 0 0 d/\(∀ k,F k->w.heap.size<=k)/\Below w.heap.size w w'
theorem UI.done {d wr:World} {g a n:Nat} (h:UI d g a n l n wr) (M:1<=n) (N:n<=4096) (I:l.length=64 * n) (r:Below w.heap.size w d) (O:w.heap.size<=g) (K:g < d.heap.size) (J:w.heap.size<=a) (z:a < d.heap.size) (B:g ≠ a)
 {e:Array Value} (t:d.heap[a]?=some (.cells e 70 (0,0))) (hn:n<=e.size) (A:∀ i,i < n->e[i]?=some (.slice none 0 0)):NF w (Dd.load n l) (.returned (.tuple #[.pointer g,.int .i64 0])) wr:=by
 obtain⟨v,o,G,j⟩:=h
 have p:=Dd.EJ n l
 have q:=Dd.JS n l I
 obtain⟨f,sc,rfl,C,F,s,H⟩:=G.ZA q (by omega)
 have P:=j.size
 have y:=r.size
 have u:∀ k,(d.heap.size<=k/\k < wr.heap.size/\k ≠ f)->Rw (fun k=>k=g\/k=a\/(d.heap.size<=k/\k < wr.heap.size)) g f a k:=fun k b=>⟨.inr (.inr ⟨b.1,b.2.1⟩),by omega,b.2.2,by omega⟩
 refine⟨fun k=>k=g\/k=a\/(d.heap.size<=k/\k < wr.heap.size),g,f,a,sc,rfl,⟨⟨?_,?_,?_,q,?_⟩,?_,H.AI rfl (fun _ _=>rfl) (zN _) u,⟨e,?_,?_,fun i x c=>?_⟩,CZ.nil _,(fun x c=>by cases c),fun k b=>?_,.inl rfl,.inr (.inr ⟨C,F⟩),.inr (.inl rfl),by omega,B,by omega,?_⟩,fun k b=>?_,j.below r (fun k b=>by omega) y⟩
 ·show (List.replicate n (none:Option (List UInt8))).length=(Dd.BB n l).length
  simp [p]
 ·show 1<=(Dd.BB n l).length
  omega
 ·show (Dd.BB n l).length<=4096
  omega
 ·intro x c
  have:some x ∈ List.replicate n (none:Option (List UInt8)):=c
  simp at this
 ·show wr.heap[g]?=some (.cells #[.slice f (Dd.BB n l).length sc,.slice a (Dd.BB n l).length (Dd.BB n l).length,_,_,_] _ _)
  rw [p] at o ⊢
  exact o
 ·exact (j.block a z (by omega)).trans t
 ·show (List.replicate n (none:Option (List UInt8))).length<=e.size
  simpa using hn
 ·have c:(List.replicate n (none:Option (List UInt8)))[i]?=some x:=c
  have m:=(List.getElem?_eq_some_iff.1 c).1
  simp at m
  rw [List.getElem?_replicate,if_pos m] at c
  cases c
  exact⟨_,A i m,rfl⟩
 ·rcases b with rfl|rfl|b <;> omega
 ·exact s
 ·rcases b with rfl|rfl|b <;> omega
theorem Lh (a:Option Addr) (n c:Nat) (l:List UInt8) (w:World) (h1:1<=n) (h2:n<=4096) (h:AM w a (64 * n) c l):Calls Tryz.prog 27 #[.slice a (64 * n) c] w (NF w (Dd.load n l)):=by
 obtain⟨y,W,rfl,-⟩:=h.at (show 0 < 64 * n by omega)
 have zd:=zH h.len
 have HS:=zH h
 have zt:=h.2.1
 clear h
 go_in
 go_wp2_with ((show wpList _ _ _ (Oper.mk (some 23) _ _ _ _ _ :: _) _ _);go_must (refine Xl rfl (.tmp 22) (.tmp 22) rfl n (n:Int) (n:Int) rfl rfl rfl rfl (by omega) ?_);intro s cs K P zl zh)
 have zj:=K.size
 have Z:=Qa P
 obtain⟨g,H⟩:∃ g,g=s.heap.size:=⟨_,rfl⟩
 obtain⟨m,C⟩:∃ m,m=w.heap.size:=⟨_,rfl⟩
 have T:=zH C
 have O:Below w.heap.size w (s.alloc (.cells #[.slice none 0 0,.slice w.heap.size n n,.slice none 0 0,.int .i64 0,.bool false] 128)):=K.alloc zj _
 have I:(s.alloc (.cells #[.slice none 0 0,.slice w.heap.size n n,.slice none 0 0,.int .i64 0,.bool false] 128)).heap[g]?=some (.cells #[.slice none 0 0,.slice w.heap.size n n,.slice none 0 0,.int .i64 0,.bool false] 128 (0,0)):=Qb _ _ _ H
 have Y:(s.alloc (.cells #[.slice none 0 0,.slice w.heap.size n n,.slice none 0 0,.int .i64 0,.bool false] 128)).heap[w.heap.size]?=some (.cells cs 70 (0,0)):=(Qd _ _ _ Z).trans P
 have zm:(s.alloc (.cells #[.slice none 0 0,.slice w.heap.size n n,.slice none 0 0,.int .i64 0,.bool false] 128)).heap.size=g+1:=by simp [H]
 generalize (s.alloc (.cells #[.slice none 0 0,.slice w.heap.size n n,.slice none 0 0,.int .i64 0,.bool false] 128))=d at *
 rw [<-C] at I Y
 have zr:m<=g:=by omega
 have zz:m < g:=by omega
 rw [<-H,<-C]
 have zc:UI d g m n l 0 d:=⟨_,I,BR.nil _ _,AD.refl _ _⟩
 have HN:=zH zh
 clear I P K zh H C zj Z
 go_loopw [6] (fun i wr=>∃ k:Nat,k<=n/\i=.int .i64 k/\UI d g m n l k wr) (fun i _=>n - (intOf i).toNat)
 case atStart=>exact⟨0,by omega,rfl,zc⟩
 case round =>
  obtain⟨k,hk,rfl,hL⟩:=hrel
  clear zc
  by_cases ya:k < n
  ·obtain⟨v,B,F,G⟩:=hL
   have zg:=G.size
   have bg:=Qa B
   have zw:=zH O
   have S0:AM wr (y W) (64 * n) c l:=(HS.out.ext (O.mono (Nat.le_of_eq rfl))).upd G (fun x z hl e=>by
    cases z
    have h1:y < w.heap.size:=HS.out.blt hl
    have h2:=T.out
    have h3:y=g:=e
    omega)
   obtain⟨p,hp⟩:∃ p,p=64 * k:=⟨_,rfl⟩
   have e1:(k:Int) * 64=(p:Int):=by omega
   obtain⟨q,hq⟩:∃ q,q=p+64:=⟨_,rfl⟩
   have e2:((k:Int)+1) * 64=(q:Int):=by omega
   have yc:q - p=64:=by omega
   have zu:(p:Int)<=(q:Int):=by omega
   have b0:(0:Int)<=(k:Int):=by omega
   have b1:(k:Int) < (n:Int):=by omega
   have b3:(0:Int)<=(p:Int):=by omega
   have yd:q<=64 * n:=by omega
   have ye:(q:Int)<=(c:Int):=by omega
   have zv:q<=c:=by omega
   have yb:¬ c=p:=by omega
   have yf:IntKind.i64.wrap (p:Int)=(p:Int):=by rw [IntKind.wrap_i64];omega
   have yg:IntKind.i64.wrap ((k:Int)+1)=(k:Int)+1:=by rw [IntKind.wrap_i64];omega
   have yh:IntKind.i64.wrap (q:Int)=(q:Int):=by rw [IntKind.wrap_i64];omega
   have U:AM (wr.drew.alloc (.cells #[] 5)) (y (W+p)) 64 (c - p) ((l.drop p).take 64) :=
    (((S0.AI (w':=wr.drew) (fun _ _ _=>rfl) (zN _)).ext ((Below.refl _ _).alloc (zN _) _)).drop (k:=p) (by omega)).take (k:=64) (by omega)
   have Q:=Dd.NN k l
   rw [<-hp] at Q
   have zb:=zH Q
   have J:((l.drop p).take 64).length=64:=by rw [List.length_take,List.length_drop,zd.out];omega
   obtain⟨x,z⟩:∃ x,(l.drop p).take 64=x:=⟨_,rfl⟩
   rw [z] at U J
   rw [z] at zb
   have HX:=zH J
   have za:(Dd.BB k l).length<=1000000000:=by rw [Dd.EJ];omega
   have zn:=zH za
   have y0:wr.cell? g=some v:=by rw [cell_of_row _ _ _ _ _ _ B];rfl
   have zf:BR d.heap.size wr.drew v (Dd.BB k l):=F.ext (Below.drew (Below.refl _ _))
   clear z J Q hp hq za
   go_wp2
   go_region_law (first
   |(refine Jd rfl (.tmp 36) (.tmp 43) rfl d.heap.size _ [] (by simp [Act.eval]) (AC.empty wr.drew zg) (y (W+p)) 64 (c - p) x (by simp [Act.eval]) U (by simp) (by simpa using Nat.le_succ_of_le zg) ?_;intro v3 t M zi;obtain⟨b3,c3,rfl,zx,zs,zq⟩:=AC.NB (l:=x) M HX.out;have r:=((Below.refl wr.drew.heap.size wr.drew).alloc (zN _) (.cells #[] 5)).grown zi (by simp) (fun k hk=>by cases hk;exact zN _);have u:t.heap[g]?=some _:=(r.block g bg).trans B;have z3:t.cell? g=some v:=(r.cell (p:=g) bg).trans y0;have z4:∀ o,(t.alloc o).cell? g=some v:=fun o=>(((Below.refl t.heap.size t).alloc (zN _) o).cell (p:=g) (Qa u)).trans z3)
   |(refine Pb rfl (.tmp 35) (.tmp 45) rfl d.heap.size v (Dd.BB k l) (by simp [Act.eval]) ((zf.ext r).ext ((Below.refl _ _).alloc (zN _) _)) (.slice b3 64 c3) x (AC.alloc (l:=x) M _) t.heap.size (by simp [Act.eval]) (by rw [World.cell?_alloc_at _ _ _ _ rfl];rfl) zn.out (by have:=r.size;have:wr.drew.heap.size=wr.heap.size:=rfl;simp;omega) ?_;intro v5 f N R;obtain⟨a5,j,rfl,-⟩:=N.sl;have A:f.heap[g]?=some _:=(R.block g (by have:=Qa u;simp;omega) (fun e=>by have:=(F.lt g e.symm).1;omega)).trans ((Qd _ _ _ (Qa u)).trans u);have z5:f.cell? g=some v:=(by rw [cell_of_row _ _ _ _ _ _ A];rfl);have f5:f.frozen? g=false:=frozen_of_row _ _ _ _ _ A))
   all_goals
    have ze:=N.TD (w':=f.setCell g (.slice a5 ((Dd.BB k l).length+1) j)) (fun b X zy=>heap_setCell_other _ _ _ _ (show b ≠ g by rw [zm] at X;omega))
    have zk:(f.setCell g (.slice a5 ((Dd.BB k l).length+1) j)).heap[g]?=some (.cells #[.slice a5 ((Dd.BB k l).length+1) j,.slice m n n,.slice none 0 0,.int .i64 0,.bool false] 128 (0,0)):=by rw [heap_setCell_same _ _ _ _ _ _ A];rfl
    have zp:AD (fun b=>b=g) d (fun b=>b=g) (f.setCell g (.slice a5 ((Dd.BB k l).length+1) j)):=((((G.drew).ext r).alloc _).grown (fun b X=>.inr (F.lt b X).1) R).setCell (.inl rfl) _ _
    have zo:BR d.heap.size (f.setCell g (.slice a5 ((Dd.BB k l).length+1) j)) (.slice a5 ((Dd.BB k l).length+1) j) (Dd.BB (k+1) l):=by rw [zb.out];simpa using ze
    clear N ze R A z5 f5 u z3 z4 M zi r zq B y0 U F G zf
    generalize f.setCell g (.slice a5 ((Dd.BB k l).length+1) j)=W6 at *
    go_wp2
    exact⟨⟨k+1,by omega,by go_num,⟨_,zk,zo,zp⟩⟩,by simp [intOf];omega⟩
  ·obtain rfl:k=n:=by omega
   go_wp2
   go_ret2
   exact hL.done h1 h2 zd.out O (by rw [<-T.out];exact zr) (by omega) (by rw [<-T.out];exact zN _) (by omega) (by omega) Y zl HN.out
end
end Go.Proofs.YtmanejniepghlaaGreatDoor
