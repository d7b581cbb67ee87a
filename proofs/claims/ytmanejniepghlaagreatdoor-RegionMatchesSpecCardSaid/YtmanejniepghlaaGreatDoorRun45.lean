import Derived.Test.YtmanejniepghlaaGreatDoorRun27
import Derived.Test.YtmanejniepghlaaGreatDoorRun28
namespace Go.Proofs.YtmanejniepghlaaGreatDoor
open Go.RowKit
variable {n:Nat} {z:Int}
section
variable {F:Nat->Prop} {w w':World} {g sb cb sc:Nat} {fa:Option Addr} {fn fc:Nat} {d d':Dd.Dk}
def FC (w:World) (a:Nat) (f c:Int):Prop:=w.heap[a]?=some (.cells #[f,c] 23 (0,0))
theorem FC.cells {w:World} {a:Nat} {f c:Int} (h:FC w a f c):w.cell? a=some (f:Value)/\w.cell? (a 1)=some (c:Value) :=
 ⟨by rw [cell_of_row _ _ _ _ _ _ h];rfl,by rw [cell_of_row _ _ _ _ _ _ h];rfl⟩
def XL (F:Nat->Prop) (W:World) (g sb cb sc:Nat) (fa:Option Addr) (fn fc:Nat) (a b e N n:Nat) (R:List UInt8 × Int × Dd.Dk) (k:Nat) (v:Value) (wr:World):Prop :=
 ∃ acc d',Ex.rd a b e (N - k) k acc d'=R/\RD F wr g sb cb sc fa fn fc d'/\d'.st.length=n/\AC W.heap.size wr v acc/\acc.length<=64 * k/\AD F W F wr
theorem XL.ext {W wr w':World} {b c e N:Nat} {R:List UInt8 × Int × Dd.Dk} {k:Nat} {v:Value} (h:XL F W g sb cb sc fa fn fc b c e N n R k v wr) (a:Below wr.heap.size wr w'):XL F W g sb cb sc fa fn fc b c e N n R k v w':=by
 obtain⟨acc,d',f,i,j,l,m,o⟩:=h
 exact⟨acc,d',f,i.ext a,j,l.ext a,m,o.ext a⟩
theorem Xi (h:RD F w g sb cb sc fa fn fc d) (i:Int) {b:List UInt8} (hr:Dd.read d i=(b,z,d')) :
 Calls Tryz.prog 77 #[.pointer g,i] w fun e w'=>∃ v,e=.returned (.tuple #[v,z])/\AC w.heap.size w' v b/\RD F w' g sb cb sc fa fn fc d'/\AD F w F w':=by
 have:=Li h i
 unfold KV at this;rw [hr] at this;exact this
theorem Jz (h:RD F w g sb cb sc fa fn fc d) (i:Int) {a:Option Addr} {c:Nat} {x:List UInt8} (f:AM w a n c x) (hF:∀ y,a=some y->x ≠ []->¬ F y.block) (hr:Dd.write d i x=(z,d')) :
 Calls Tryz.prog 94 #[.pointer g,i,.slice a n c] w fun e w'=>e=.returned (z:Value)/\∃ b,RD b w' g sb cb sc fa fn fc d'/\AD F w b w':=by
 have:=Et h i a n c x f hF
 unfold JO at this;rw [hr] at this;exact this
def FM (F:Nat->Prop) (w:World) (g sb cb sc:Nat) (fa:Option Addr) (fn fc:Nat) (r:List UInt8 × Int × Dd.Dk) (e:Ending) (w':World):Prop :=
 ∃ v,e=.returned (.tuple #[v,r.2.1])/\AC w.heap.size w' v r.1/\RD F w' g sb cb sc fa fn fc r.2.2/\AD F w F w'
set_option maxRecDepth 100000 in
set_option maxHeartbeats 4000000 in
theorem Cc (h:RD F w g sb cb sc fa fn fc d) (f c off len:Int) (hf:ib f) (hc:ib c) (ho:ib off) (hl:ib len) :
 Calls Tryz.prog 80 #[.pointer g,.agg #[f,c],off,len] w (FM F w g sb cb sc fa fn fc (Ex.read d f c off len)):=by
 have m:=(Below.refl _ w).alloc (zN _) (.cells #[f,c] 23)
 have O:=zH (Nq (h.ext ((Below.refl _ w).alloc (zN _) (.cells #[f,c] 23))) f c off len hc ho hl)
 have za:FC (w.alloc (.cells #[f,c] 23)) w.heap.size f c:=Qb _ _ _ rfl
 have z0:(w.alloc (.cells #[f,c] 23)).cell? w.heap.size=some (f:Value):=za.cells.1
 have z1:(w.alloc (.cells #[f,c] 23)).cell? (w.heap.size 1)=some (c:Value):=za.cells.2
 obtain⟨R,l⟩:∃ R,Ex.read d f c off len=R:=⟨_,rfl⟩
 rw [l]
 unfold Ex.read at l
 obtain⟨ck,Q⟩:∃ ck,Ex.check d.st.length f c off len=ck:=⟨_,rfl⟩
 rw [Q] at l O
 by_cases h0:ck=0
 ·subst h0
  rw [if_pos rfl] at l
  obtain⟨k1,k2,k3,k4,k5,k6,k7⟩:=Ex.EQ Q
  have zw:=h.ok.max
  have hsz:Ex.size c<=262144:=by unfold Ex.size;split <;> omega
  have zo:Ex.size c=c * 64:=by unfold Ex.size;rw [if_neg (by omega)]
  obtain⟨i,rfl⟩:∃ i:Nat,f=(i:Int):=⟨f.toNat,by omega⟩
  obtain⟨a,rfl⟩:∃ a:Nat,off=(a:Int):=⟨off.toNat,by omega⟩
  obtain⟨G,rfl⟩:∃ G:Nat,len=(G:Int):=⟨len.toNat,by omega⟩
  have ee:((a:Int)+(G:Int)).toNat=a+G:=by omega
  rw [ee] at l
  simp only [Int.toNat_natCast] at l
  obtain⟨e,he⟩:∃ e,e=a+G:=⟨_,rfl⟩
  rw [<-he] at l
  have zv:G=e - a:=by omega
  have zn:a<=e:=by omega
  have yj:e<=262144:=by omega
  have yk:i<=4096:=by omega
  have zc:∀ p,p < e->i+p / 64 < d.st.length:=fun p r=>by omega
  obtain⟨n,hn⟩:∃ n,d.st.length=n:=⟨_,rfl⟩
  rw [hn] at zc
  have yd:=zH zc
  obtain⟨N,Y⟩:∃ N,N=Ex.cnt a e:=⟨_,rfl⟩
  rw [<-Y] at l
  have HN:=zH Y
  have ye:N<=5000:=by rw [Y];unfold Ex.cnt;split <;> omega
  have zi:XL F (w.alloc (.cells #[i,c] 23)) g sb cb sc fa fn fc i a e N n R 0 (.slice none 0 0) (w.alloc (.cells #[i,c] 23)) :=
   ⟨[],d,l,h.ext m,hn,AC.nil _ _,Nat.zero_le _,AD.refl _ _⟩
  have HX:=zH zi
  have ze:=h.lt
  clear zi l Q k1 k2 k3 k4 k5 k6 k7 hsz zo ee he hn zc Y hf hc ho hl zw
  subst zv
  go_in
  go_wp2_with (go_at_call 134;go_must (refine O.out.mono ?_);rintro e1 w1 ⟨rfl,zb⟩)
  have yf:(w.alloc (.cells #[i,c] 23)).heap.size=w.heap.size+1:=by simp
  have zl:=HX.out.ext zb
  generalize (w.alloc (.cells #[i,c] 23))=W0 at *
  clear O HX z0 z1
  go_loopw [2,3,11,12,13,14] (fun i2 i3 v _ _ _ wr=>∃ k:Nat,k<=N/\i2=.int .i64 (Ex.pos a e k:Nat)/\i3=.int .i64 ((e - Ex.pos a e k:Nat):Int)/\XL F W0 g sb cb sc fa fn fc i a e N n R k v wr) (fun i2 _ _ _ _ _ _=>e - (intOf i2).toNat)
  case atStart=>exact⟨0,Nat.zero_le _,by rw [Ex.DZ],by rw [Ex.DZ],zl⟩
  case round =>
   obtain⟨k,hk,rfl,rfl,hX⟩:=hrel
   clear zl
   by_cases zm:k < N
   ·have T:=(Ex.GN a e k zn).2 (by rw [<-HN.out];exact zm)
    have K:=Ex.FT a e k (by rw [<-HN.out];exact zm)
    have y:=Ex.EY T
    obtain⟨acc,d',j,B,zf,A,zt,C⟩:=hX
    have zq:N - k=(N - (k+1))+1:=by omega
    rw [zq] at j
    obtain⟨b,z,X,hr⟩:∃ b z X,Dd.read d' ((i+Ex.pos a e k / 64:Nat):Int)=(b,z,X):=⟨_,_,_,rfl⟩
    have zu:X.st.length=n:=by have:=(Dd.BM d' ((i+Ex.pos a e k / 64:Nat):Int)).1;rw [hr] at this;rw [this];exact zf
    have zz:FC wr w.heap.size (i:Int) c:=(C.block w.heap.size (by omega) (fun e=>Nat.lt_irrefl _ (ze _ e))).trans za
    obtain⟨x0,x1⟩:=zz.cells
    have HP:=zH B
    by_cases Z:z=0
    ·subst Z
     have zj:=Dd.CS B.ok hr
     rw [Ex.OK hr] at j
     obtain⟨p,r⟩:∃ p,p=Ex.pos a e k:=⟨_,rfl⟩
     rw [<-r] at j hr T y K
     obtain⟨u,hu⟩:∃ u,u=Ex.step e p:=⟨_,rfl⟩
     rw [<-hu] at j y K
     have zh:Ex.pos a e (k+1)=p+u:=K
     have zy:min ((e - p:Nat):Int) (64 - ((p % 64:Nat):Int))=(u:Int):=by rw [hu];unfold Ex.step;omega
     rw [<-r]
     obtain⟨q,hq⟩:∃ q,q=p % 64:=⟨_,rfl⟩
     obtain⟨x,J⟩:∃ x,x=i+p / 64:=⟨_,rfl⟩
     obtain⟨o,t⟩:∃ o,o=e - p:=⟨_,rfl⟩
     rw [<-t,<-hq] at zy
     rw [<-t]
     rw [<-J] at hr
     rw [<-hq] at y j
     obtain⟨s,ht⟩:∃ s,s=q+u:=⟨_,rfl⟩
     have yc:(if 64 - (q:Int) < (o:Int) then 64 - (q:Int) else (o:Int))=(u:Int):=by omega
     have m1:(0:Int) < (o:Int):=by omega
     have m2:(p:Int) % 64=(q:Int):=by omega
     have m3:(i:Int)+(p:Int) / 64=(x:Int):=by omega
     have m4:(q:Int)+(u:Int)=(s:Int):=by omega
     have m5:(q:Int)<=(s:Int):=by omega
     have m6:(p:Int)<=262144:=by omega
     have m7:(i:Int)<=4096:=by omega
     have m8:(s:Int)<=64:=by omega
     have m9:(u:Int)<=(o:Int):=by omega
     have yl:(o:Int)<=262144:=by omega
     have ym:s - q=u:=by omega
     have yn:(0:Int)<=(q:Int):=by omega
     have yo:q < 64:=by omega
     have M:=zH hr
     have zp:=zH zj
     have H:=zH j
     have HF:=zH (And.intro zh (And.intro y (And.intro r (And.intro t ht))))
     clear hr zj j K zh y r hu hq J t ht zf B
     go_wp2_with (first
     |(go_at_call 77;go_must (refine (Xi HP.out _ M.out).mono ?_);rintro e5 w5 ⟨v5,rfl,zk,P,I⟩;obtain⟨b5,W,rfl,ya,yb,U⟩:=zk.NB zp.out;have yg:(s:Int)<=(W:Int):=(by have:=U.2.1;omega);have yh:¬ W=q:=(by have:=U.2.1;omega);have yi:s<=W:=(by have:=U.2.1;omega))
     |((show wpList _ _ _ (Oper.mk (some 52) _ _ _ _ _ :: _) _ _);go_must (refine Qc rfl _ _ rfl W0.heap.size _ acc rfl (A.upd I (fun b m e=>by have:=(A.lt b m).1;have:=ze b e;omega)) (b5 q) u (W - q) ((b.drop q).take u) rfl (by simpa using (U.drop (k:=q) (by omega)).take (k:=u) (by have:=HF.out.2.1;omega)) (by omega) (Nat.le_trans C.size I.size) ?_);intro v6 w6 zr zd _))
     obtain⟨g1,g2,g3,g4,g5⟩:=HF.out
     refine⟨⟨k+1,by omega,by rw [g1];go_num,by rw [g1];congr 1;omega,⟨acc ++ (b.drop q).take u,X,H.out,P.AI (fun b m=>zd.block b (P.lt b m) (fun e=>by have:=(A.lt b e.symm).1;have:=ze b m;omega)) zd.size,zu,zr,?_,?_⟩⟩,?_⟩
     ·rw [List.length_append,List.length_take];omega
     ·exact (C.trans I).grown (fun b m=>.inr (A.lt b m).1) zd
     ·simp [intOf];omega
    ·have t1:(z != 0)=true:=by simpa using Z
     rw [Ex.KH hr Z] at j
     have M:=zH hr
     have H:=zH j
     have zx:0 < e - Ex.pos a e k:=by omega
     obtain⟨p,r⟩:∃ p,p=Ex.pos a e k:=⟨_,rfl⟩
     rw [<-r] at M T
     rw [<-r]
     obtain⟨x,J⟩:∃ x,x=i+p / 64:=⟨_,rfl⟩
     obtain⟨o,t⟩:∃ o,o=e - p:=⟨_,rfl⟩
     rw [<-t]
     rw [<-J] at M
     have m1:(0:Int) < (o:Int):=by omega
     have m3:(i:Int)+(p:Int) / 64=(x:Int):=by omega
     have m6:(p:Int)<=262144:=by omega
     have m7:(i:Int)<=4096:=by omega
     clear hr j Z K y T r J t zx B
     go_wp2_with (go_at_call 77;go_must (refine (Xi HP.out _ M.out).mono ?_);rintro e5 w5 ⟨v5,rfl,zk,P,I⟩)
     go_ret2
     rw [<-H.out]
     exact⟨_,rfl,AC.nil _ _,P,(AD.AL m).trans (C.trans I)⟩
   ·obtain rfl:k=N:=by omega
    have zg:=Ex.MV a e zn
    rw [<-HN.out] at zg
    obtain⟨acc,d',j,B,zf,A,zt,C⟩:=hX
    rw [zg,Nat.sub_self]
    rw [Nat.sub_self] at j
    have H:=zH j
    clear j zg
    go_wp2
    go_ret2
    rw [<-H.out]
    exact⟨_,rfl,A.mono (by omega),B,(AD.AL m).trans C⟩
 ·rw [if_neg h0] at l
  have zs:=zH l
  have t0:(ck != 0)=true:=by simpa using h0
  clear l Q h0
  go_in
  go_wp2_with (go_at_call 134;go_must (refine O.out.mono ?_);rintro e1 w1 ⟨rfl,zb⟩)
  go_ret2
  have hB:=m.trans (zb.mono (by simp))
  rw [<-zs.out]
  exact⟨_,rfl,AC.nil _ _,h.ext hB,AD.AL hB⟩
end
end Go.Proofs.YtmanejniepghlaaGreatDoor
