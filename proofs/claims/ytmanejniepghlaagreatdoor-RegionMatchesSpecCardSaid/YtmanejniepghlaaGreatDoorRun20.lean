import Derived.Test.YtmanejniepghlaaGreatDoorRun2
import Derived.Test.YtmanejniepghlaaGreatDoorRun17
import Derived.Test.YtmanejniepghlaaGreatDoorChecked
import Derived.Lib.Strings
import Derived.Lib.Slices
import Derived.Lib.Small
import Derived.Lib.Walk
import Derived.Lib.BitFns
namespace Go.Proofs.YtmanejniepghlaaGreatDoor
section
open Go.RowKit
variable {L:List AJ} {ck:Int} {w w':World} {e:Ending} {c n:Nat}
def DR (ck:Int) (L:List AJ) (w:World) (e:Ending) (w':World):Prop:=∃ v,e=.returned (.tuple #[v,.int .i64 (if AN.AK ck L then 0 else 1)])/\AC w.heap.size w' v (if AN.AK ck L then Sp.enc ck L else [])/\AP w w'
theorem DR.bad (h:AN.AK ck L=false) (b:e=.returned (.tuple #[.slice none 0 0,.int .i64 1])) (a:AP w w'):DR ck L w e w':=by
 unfold DR;rw [h];exact⟨_,b,AC.nil _ _,a⟩
theorem DR.good (h:AN.AK ck L=true) {v:Value} (b:e=.returned (.tuple #[v,.int .i64 0])) (ho:AC w.heap.size w' v (Sp.enc ck L)) (a:AP w w'):DR ck L w e w':=by
 unfold DR;rw [h];exact⟨_,b,ho,a⟩
theorem AM.YB (w:World):AM w none 0 0 []:=⟨rfl,zN _,by unfold maxLen;omega,fun _=>⟨rfl,rfl⟩,fun x a=>by cases a⟩
namespace Sp
def pre (c n:Nat) (L:List AJ) (k:Nat):List UInt8:=(Wi.enc c ++ Wi.enc n) ++ (L.take k).flatMap AJ.enc
theorem OI (c n:Nat) (L:List AJ):pre c n L 0=Wi.enc c ++ Wi.enc n:=by unfold pre;simp
theorem OH {k:Nat} (a:k < L.length):pre c n L (k+1)=pre c n L k ++ AJ.enc L[k]:=by
 unfold pre;rw [Cz a,List.append_assoc,List.append_assoc,List.append_assoc]
theorem QP (c:Nat) (L:List AJ):pre c L.length L L.length=enc c L:=by
 unfold pre enc;rw [List.take_of_length_le (zN _),Int.toNat_natCast,List.append_assoc]
theorem QQ (b:c < 18446744073709551616) (hn:n < 18446744073709551616) (i:L.length<=1000) (h:∀ p ∈ L,AJ.AB p=true) (k:Nat):(pre c n L k).length<=300000:=by
 have f:=Wi.BG b
 have g:=Wi.BG hn
 have a:=Hv (L.take k) (fun p d=>h p (List.mem_of_mem_take d))
 rw [List.length_take] at a
 unfold pre
 simp only [List.length_append]
 omega
end Sp
set_option maxHeartbeats 8000000 in
set_option maxRecDepth 100000 in
theorem Oc (ck:Int) (a:Option Addr) (n c:Nat) (L:List AJ) (w:World) (h:AT w a n c L) (hL:∀ p ∈ L,p.h.length<=1000000) :
 Calls Tryz.prog 46 #[.agg #[ck,.slice a n c]] w (DR ck L w):=by
 have Q:=(Below.refl w.heap.size w).alloc (zN _) (.cells #[ck,.slice a n c] 44)
 have Y:=AE.new w ck (.slice a n c)
 have yc:=zH h.len
 have C:=zH h
 have HV:=zH (fun W (hs:AT W a n c L)=>Xo ck a n c L W hs hL)
 have zi:=zH (fun (e:AN.AK ck L=true)=>(AN.BF ck L).1 e)
 obtain⟨vb,zb⟩:∃ vb,AN.AK ck L=vb:=⟨_,rfl⟩
 rw [zb] at HV
 have K:=zH zb
 obtain⟨W0,N⟩:∃ W0,w.alloc (.cells #[ck,.slice a n c] 44)=W0:=⟨_,rfl⟩
 rw [N] at Q Y
 have zj:=zH N
 have g:=zH Q
 have yh:=zH Y
 clear zb N Q Y h
 cases vb with
|false =>
  go_in
  go_wp2_with fail
  rw [zj.out]
  refine (HV.out _ (C.out.ext g.out)).mono ?_;rintro e t ⟨rfl,l⟩
  go_wp2_with fail
  go_ret2
  exact DR.bad K.out rfl (g.out.trans (Below.mono l g.out.size))
|true =>
  obtain⟨v1,v2,v3,v4,-⟩:=zi.out K.out
  have yj:=zH v4
  obtain⟨d,rfl⟩:∃ d:Nat,ck=(d:Int):=⟨ck.toNat,by omega⟩
  have zo:=yc.out
  have yv:n<=1000:=by omega
  have G:=zH (fun W=>Jo none 0 0 [] d (d:Int) rfl (by omega) W (AM.YB W) (by omega))
  have ze:=zH (fun a1 B c1 W (hs:AM W a1 B c1 (Wi.enc d)) (hm:B<=1000000)=>Jo a1 B c1 (Wi.enc d) n (n:Int) rfl (by omega) W hs hm)
  have U:=Wi.BG (v:=d) (by omega)
  have zc:=zH (Sp.OI d n L)
  have zw:=zH (show Sp.pre d n L n=Sp.enc (d:Int) L by rw [<-zo];exact Sp.QP d L)
  have zy:=zH (fun k (hk:k < L.length)=>Sp.OH (c:=d) (n:=n) hk)
  have zx:=zH (Sp.QQ (c:=d) (n:=n) (L:=L) (by omega) (by omega) (by omega) v4)
  have wc:IntKind.u64.wrap (d:Int)=(d:Int):=by rw [IntKind.wrap_u64];omega
  have wn:IntKind.u64.wrap (n:Int)=(n:Int):=by rw [IntKind.wrap_u64];omega
  simp only [List.nil_append] at G
  obtain⟨E1,zl⟩:∃ E,Wi.enc d=E:=⟨_,rfl⟩
  rw [zl] at G ze U zc
  obtain⟨B,X⟩:∃ m,E1.length=m:=⟨_,rfl⟩
  have yd:=zH X
  rw [X] at U
  obtain⟨-,yu⟩:=U
  generalize ym:Sp.pre d n L=P at *
  clear zl X ym v4 v1 v2 v3 zo zi
  go_in
  go_wp2_with fail
  rw [zj.out]
  refine (HV.out _ (C.out.ext g.out)).mono ?_;rintro e t ⟨rfl,l⟩
  have zk:=g.out.trans (Below.mono l g.out.size)
  have H:=zH zk
  have J:=zH (yh.out.ext l)
  have u:=zH (show ∀ W,AP t W->AP t W/\W.cell? w.heap.size=some (d:Value)/\W.cell? (w.heap.size 1)=some (.slice a n c)/\w.heap.size < W.heap.size from fun W e=>⟨e,(J.out.ext e).cells.1,(J.out.ext e).cells.2,Qa (J.out.ext e)⟩)
  clear l zk
  obtain⟨-,q0,q1,q2⟩:=u.out _ (AP.refl _)
  go_wp2_with fail
  go_region_held3 (fun W=>AP t W/\W.cell? w.heap.size=some (d:Value)/\W.cell? (w.heap.size 1)=some (.slice a n c)/\w.heap.size < W.heap.size) (first|assumption|exact u.out _ (AP.drew (AP.refl _))|exact u.out _ (AP.step (by assumption) (And.left (by assumption)))) (first|(go_at_call_of 102 (Value.slice none 0 0);go_must (refine (G.out _).mono ?_);rintro e x1 ⟨y1,rfl,zp,zn⟩;obtain⟨a1,c1,zv,Z,-⟩:=zp.sl;rw [yd.out] at Z zv;subst zv;have yl:=zH Z;clear zp Z)|(go_at_call 102;go_must (refine (ze.out _ _ _ _ yl.out (by omega)).mono ?_);rintro e x2 ⟨y2,rfl,zq,yn⟩))
  have F:AP t x2:=And.left (by assumption)
  have ya:=zH (show Below w.heap.size w x2 from H.out.trans (F.mono H.out.size))
  have zg:=zH (zq.mono (b':=w.heap.size) (by have h1:=H.out.size;have h2:=zn.size;exact Nat.le_trans h1 h2))
  rw [<-zc.out] at zg
  clear q0 q1 q2
  obtain⟨-,q0,q1,q2⟩:=u.out _ F
  clear F zq yn zn
  go_wp2_with fail
  go_loopw [4,24] (fun b i wr=>∃ k:Nat,k<=n/\i=.int .i64 (k:Nat)/\AC w.heap.size wr b (P k)/\Below w.heap.size w wr) (fun _ i _=>n - (intOf i).toNat)
  case atStart=>exact⟨0,Nat.zero_le _,rfl,zg.out,ya.out⟩
  case round =>
   obtain⟨k,hk,rfl,r,q⟩:=hrel
   have i0:(0:Int)<=(k:Int):=by omega
   by_cases yp:k < n
   ·have i2:(k:Int) < (n:Int):=by omega
    obtain⟨bb,o,rfl,yt,y,d1,d2,d3⟩:=(C.out.ext q).at yp
    rw [List.getElem?_eq_getElem y,Option.getD_some] at d1 d2 d3
    have za:=zy.out k y
    have A:=yj.out _ (List.getElem_mem y)
    generalize L[k]=p at *
    have yq:=AJ.CI ((AJ.BY p).1 A).1
    have T:=(AJ.BG A).1
    have f:=zH (fun W=>Uo p (by omega) W)
    unfold IT at f
    rw [A] at f
    simp only [↓reduceIte] at f
    obtain⟨E2,zm⟩:∃ E,AJ.enc p=E:=⟨_,rfl⟩
    rw [zm] at f za T
    unfold pv at f
    obtain⟨sh,zu⟩:∃ s,str p.h=s:=⟨_,rfl⟩
    rw [zu] at f d1
    generalize p.s=ps at *
    generalize p.x=px at *
    have z:=(AP.refl wr).alloc (.cells #[.string sh,.bool ps,px] 34)
    have M:=r.ext z
    obtain⟨W3,O⟩:∃ W3,wr.alloc (.cells #[.string sh,.bool ps,px] 34)=W3:=⟨_,rfl⟩
    rw [O] at z M
    have yk:=zH O
    have zf:=zH (q.trans (Below.mono z q.size))
    have ye:=zH M
    have zz:=zH za
    have zs:=zx.out k
    have zd:(P k).length<=300000:=zs
    have yg:=zH zd
    have yb:=zH T
    clear za A zm zu yq T z M O r q y zs zd
    go_wp2_with fail
    rw [yk.out]
    refine (f.out _).mono ?_;rintro e x4 ⟨y4,rfl,zr,R⟩
    obtain⟨a4,c4,ys,zt,-⟩:=zr.sl
    subst ys
    have yi:=zH zt
    have zh:=zH (ye.out.ext R)
    have I:=zH (zf.out.trans (R.mono zf.out.size))
    clear zr zt R
    go_wp2_with (at_builtin;refine Qc rfl _ _ rfl w.heap.size _ (P k) rfl zh.out a4 _ c4 E2 rfl yi.out (by have:=yg.out;have:=yb.out;omega) I.out.size ?_;intro v5 w5 yr yo _)
    go_roundw
    case rel=>exact⟨k+1,by omega,by go_num,by rw [zz.out];exact yr,I.out.grown yo I.out.size (fun j hj=>(zh.out.lt j hj).1)⟩
    case measure=>simp [intOf];omega
   ·obtain rfl:k=n:=by omega
    rw [zw.out] at r
    have yf:=zH r
    clear r
    go_wp2_with fail
    go_ret2
    exact DR.good K.out rfl yf.out q
end
section
open Go.RowKit
variable {b:List UInt8} {K c j m n n1 n2 v1 v2:Nat} {L R acc:List AJ} {w w':World} {x z:Int} {e:Ending} {p:AJ} {a:Option Addr}
namespace Sp
theorem SP {d:Int} (f:Wi.dec b=(v1,n1,d)) (g:d ≠ 0):dec b=((0,[]),d):=by unfold dec;rw [f];exact if_pos g
theorem SR {z2:Int} (d:Wi.dec b=(v1,n1,0)) (f:Wi.dec (b.drop n1)=(v2,n2,z2)) (g:z2 ≠ 0):dec b=((0,[]),z2):=by unfold dec;rw [d];dsimp only;rw [f];exact (if_neg (by simp)).trans (if_pos g)
theorem Rh (d:Wi.dec b=(v1,n1,0)) (f:Wi.dec (b.drop n1)=(v2,n2,0)):dec b=FE b v1 v2 (n1+n2):=by unfold dec;rw [d];dsimp only;rw [f];exact (if_neg (by simp)).trans (if_neg (by simp))
theorem SS (d:Wi.dec b=(v1,n1,0)) (f:Wi.dec (b.drop n1)=(v2,n2,0)) (g:1000 < v2):dec b=((0,[]),3):=by rw [Rh d f];unfold FE;exact if_pos g
theorem ST (d:Wi.dec b=(v1,n1,0)) (f:Wi.dec (b.drop n1)=(v2,n2,0)) (h:¬ 1000 < v2) (g:pins b v2 (n1+n2) []=(R,m,z)) (i:z ≠ 0):dec b=((0,[]),z):=by
 rw [Rh d f];unfold FE;rw [g];exact (if_neg h).trans (if_pos i)
theorem SU (d:Wi.dec b=(v1,n1,0)) (f:Wi.dec (b.drop n1)=(v2,n2,0)) (i:¬ 1000 < v2) (g:pins b v2 (n1+n2) []=(R,m,0)) (h:m < b.length):dec b=((0,[]),6):=by
 rw [Rh d f];unfold FE;rw [g];exact (if_neg i).trans ((if_neg (by simp)).trans (if_pos h))
theorem SV (d:Wi.dec b=(v1,n1,0)) (f:Wi.dec (b.drop n1)=(v2,n2,0)) (k:¬ 1000 < v2) (g:pins b v2 (n1+n2) []=(R,m,0)) (i:¬ m < b.length) (h:1099511627776 < v1):dec b=((0,[]),2):=by
 rw [Rh d f];unfold FE;rw [g];exact (if_neg k).trans ((if_neg (by simp)).trans ((if_neg i).trans (if_pos h)))
theorem SW (d:Wi.dec b=(v1,n1,0)) (f:Wi.dec (b.drop n1)=(v2,n2,0)) (k:¬ 1000 < v2) (g:pins b v2 (n1+n2) []=(R,m,0)) (i:¬ m < b.length) (h:¬ 1099511627776 < v1) (hs:AN.AK (v1:Int) R=false):dec b=((0,[]),8):=by
 rw [Rh d f];unfold FE;rw [g];exact (if_neg k).trans ((if_neg (by simp)).trans ((if_neg i).trans ((if_neg h).trans (if_pos hs))))
theorem XP (d:Wi.dec b=(v1,n1,0)) (f:Wi.dec (b.drop n1)=(v2,n2,0)) (k:¬ 1000 < v2) (g:pins b v2 (n1+n2) []=(R,m,0)) (i:¬ m < b.length) (h:¬ 1099511627776 < v1) (hs:AN.AK (v1:Int) R=true):dec b=(((v1:Int),R),0):=by
 rw [Rh d f];unfold FE;rw [g];exact (if_neg k).trans ((if_neg (by simp)).trans ((if_neg i).trans ((if_neg h).trans (if_neg (by rw [hs];decide)))))
theorem TM (h:AJ.dec (b.drop K)=(p,m,z)) (d:z ≠ 0):pins b (j+1) K acc=([],0,z):=by unfold pins;rw [h];exact if_pos d
theorem UZ (h:AJ.dec (b.drop K)=(p,m,0)):pins b (j+1) K acc=pins b j (K+m) (acc ++ [p]):=by rw [pins];rw [h];exact if_neg (by simp)
theorem RL {k:Nat} (i:k<=b.length) (h:pins b n k []=(R,m,0)):(∀ p ∈ R,p.h.length<=253)/\R.length=n:=by
 obtain⟨L,d,f,g,-,-,-⟩:=Hz n b k [] R m i h
 rw [List.nil_append] at d
 subst d
 exact⟨fun p l=>AJ.CI ((AJ.BY p).1 (g p l)).1,f⟩
end Sp
def DM (b:List UInt8) (w:World) (e:Ending) (w':World):Prop:=∃ a c,e=.returned (.tuple #[.agg #[.int .i64 (Sp.dec b).1.1,.slice a (Sp.dec b).1.2.length c],.int .i64 (Sp.dec b).2])/\AT w' a (Sp.dec b).1.2.length c (Sp.dec b).1.2/\AP w w'/\∀ x,a=some x->w.heap.size<=x.block
theorem DM.bad (h:Sp.dec b=((0,[]),z)) (f:e=.returned (.tuple #[.agg #[.int .i64 0,.slice none 0 0],z])) (d:AP w w'):DM b w e w':=by
 unfold DM;rw [h];exact⟨none,0,f,AT.nil _,d,fun x g=>by cases g⟩
theorem DM.good (h:Sp.dec b=((x,L),0)) (hn:L.length=n) (g:e=.returned (.tuple #[.agg #[x,.slice a n c],.int .i64 0])) (hs:AT w' a n c L) (f:AP w w') (d:∀ x,a=some x->w.heap.size<=x.block):DM b w e w':=by
 subst hn;unfold DM;rw [h];exact⟨a,c,g,hs,f,d⟩
theorem AT.EH (h:AT w a n c L) {B:Nat} {v:Value} (hr:AE w B x v) (i j:Nat) (p q:Value):AT ((w.setCell (B i) p).setCell (B j) q) a n c L:=by
 have key:∀ y,a=some y->L ≠ []->y.block ≠ B:=by
  intro y g d e
  cases L with
 |nil=>exact d rfl
 |cons C t =>
   obtain⟨r,A,f⟩:=h.2.2.2.2 y g 0 (by simp)
   obtain⟨F,G,H⟩:=y
   simp only at e r f
   subst e
   have h0:=f.1
   have l:=f.2.2
   rw [cell_of_row _ _ _ _ _ _ hr] at h0 l
   have o:=(Array.getElem?_eq_some_iff.1 l).1
   simp at o
   omega
 have one:∀ (W:World),AT W a n c L->∀ k u,AT (W.setCell (B k) u) a n c L:=fun W s k u =>
  s.AI (fun y g d=>heap_setCell_other _ _ _ _ (key y g d)) (by simp)
 exact one _ (one _ h i p) j q
end
end Go.Proofs.YtmanejniepghlaaGreatDoor
