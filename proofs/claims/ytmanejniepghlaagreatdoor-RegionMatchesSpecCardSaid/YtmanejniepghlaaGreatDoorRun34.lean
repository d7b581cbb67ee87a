import Derived.IntWalk
import Derived.Test.YtmanejniepghlaaGreatDoorRun32
import Derived.Test.YtmanejniepghlaaGreatDoorRun4
import Derived.Test.YtmanejniepghlaaGreatDoorRun33
import Derived.OwnWalk
import Derived.RegionTactic
import Derived.Deep.RegionHeld3
import Derived.Deep.DeepMust
import Derived.Deep.QuietTactic
import Derived.BigQuiet
set_option maxHeartbeats 4000000
set_option maxRecDepth 100000
namespace Go.Proofs.YtmanejniepghlaaGreatDoor
section
open Go.RowKit
theorem Zr {w:World} {d:Array Oper} {rest:List Oper} {o:Oper} {a:Act} {Q:Exit->Act->World->Prop} (s:o.guard=none) (l c:Operand) (g:o.op=Op.makeSlice 70 l c)
 (base:Nat) (n:Nat) (C:Int) (x:a.eval l=.int .i64 0) (r:a.eval c=.int .i64 C) (p:C=(n:Int)) (z:n<=281474976710656) (m:base<=w.heap.size)
 (q:∀ v b,AC base b v []->Below w.heap.size w b->wpList Tryz.prog d Q rest (a.put o.dst v) b):wpList Tryz.prog d Q (o :: rest) a w:=by
 obtain⟨y,t,h,i,j⟩:=info_parts JX
 refine wpList_make_own w s l c 70 g base 5 y _ 1 Tryz.underlying70 t h i .i64 .i64 C n x r p (by rw [j];omega) (by unfold maxLen;omega) m ?_
 intro b e f
 exact q _ b e ((Below.refl _ _).grown f (zN _) (fun k u=>by cases u))
theorem Zt (ep b:Nat) (N:ep < 4294967296) (hs:b < 4294967296) (a:Option Addr) (n c:Nat) (l:List UInt8) (w:World) (h:AM w a n c l) (hn:n<=1024) :
 Calls Tryz.prog 125 #[.int .u32 ep,.int .u32 b,.slice a n c] w fun e C=>∃ v,e=.returned (.tuple #[v,.int .i64 0])/\AC w.heap.size C v (Fr.enc ep b l)/\Below w.heap.size w C:=by
 have y:=h.len
 have hsz:Fr.size (n:Int)=((14+n:Nat):Int):=by unfold Fr.size;rw [if_neg (by omega)];omega
 have F:=zH hsz;have p:=zH y
 clear hsz y
 go_in
 go_wp2_with fail
 refine (Hw _ (by omega) (by omega) _).mono ?_;rintro e Z ⟨rfl,rfl⟩
 rw [F.out]
 go_wp2_with (refine Zr rfl _ _ rfl w.heap.size (14+n) _ rfl rfl rfl (by omega) (zN _) ?_;intro P T q f)
 have K:=h.ext f
 refine (Yt w.heap.size P [] n 2 T q f.size (by omega) (by simp) (by omega) _ rfl).mono ?_;rintro e U ⟨Q,rfl,i,s⟩
 have g:=f.trans s
 have M:=h.ext g
 rw [List.nil_append] at i
 clear q K f s
 go_wp2_with fail
 refine (Yt w.heap.size Q _ ep 4 U i g.size N (by rw [Su.AU];omega) (by omega) _ rfl).mono ?_;rintro e W ⟨v3,rfl,r,t⟩
 have o:=g.trans t
 clear i M g t
 go_wp2_with fail
 refine (Yt w.heap.size v3 _ b 4 W r o.size hs (by simp [Su.AU]) (by omega) _ rfl).mono ?_;rintro e w4 ⟨v4,rfl,j,u⟩
 have d:=o.trans u
 have A:=h.ext d
 clear r o u
 go_wp2_with (at_builtin;refine Qc rfl _ _ rfl w.heap.size v4 _ rfl j a n c l rfl A (by simp [Su.AU];omega) d.size ?_;intro v5 X m x _)
 have z:=d.grown x d.size (fun k O=>(j.lt k O).1)
 clear j A d x
 have B:Su.le 2 n ++ Su.le 4 ep ++ Su.le 4 b ++ l=Fr.head ep b l:=by unfold Fr.head;rw [p.out]
 rw [B] at m
 clear B
 obtain⟨a5,Y,rfl,J,-⟩:=id m.sl
 go_wp2_with fail
 refine (Xr _ _ _ _ _ J).mono ?_;rintro e w9 ⟨rfl,rfl⟩
 go_wp2_with fail
 have I:=Fr.FP ep b l
 refine (Yt w.heap.size _ _ (AX.update 0 (Fr.head ep b l)) 4 X m z.size (AX.BX _ _) (by rw [I,p.out];omega) (by omega) _ rfl).mono ?_;rintro e w6 ⟨R,rfl,G,H⟩
 go_wp2_with fail
 go_ret2
 exact⟨R,rfl,G,z.trans H⟩
theorem Ki (ep b:Nat) (a:Option Addr) (n c:Nat) (w:World) (hn:1024 < n) (f:n<=9223372036854775807) :
 Calls Tryz.prog 125 #[.int .u32 ep,.int .u32 b,.slice a n c] w fun e d=>e=.returned (.tuple #[.slice none 0 0,.int .i64 3])/\w=d:=by
 have g:(1024:Int) < (n:Int):=by omega
 go_in
 go_wp2_with fail
 go_ret2
 exact⟨rfl,rfl⟩
theorem Kk (ep b:Nat) (T:ep < 4294967296) (hs:b < 4294967296) (a:Option Addr) (n c:Nat) (l:List UInt8) (w:World) (h:AM w a n c l) (hn:n<=1024) :
 Calls Tryz.prog 143 #[.int .u32 ep,.int .u32 b,.slice a n c] w fun e U=>∃ v,e=.returned (.tuple #[v,.int .i64 0])/\AC w.heap.size U v (Fr.enc ep b l)/\Below w.heap.size w U:=by
 have C:=zH h.len
 have Q:#[Value.int .u8 ((n:Int) % 256),.int .u8 ((n:Int) / 256)]=((Su.le 2 n).map bv).toArray:=by
  simp only [Su.le,bv,List.map_cons,List.map_nil]
  rw [AX.BJ (by omega),AX.BJ (by omega),show n / 256 % 256=n / 256 by omega];simp
 have o:AC w.heap.size (w.alloc (.cells #[Value.int .u8 ((n:Int) % 256),.int .u8 ((n:Int) / 256)] 5)) (.slice w.heap.size 2 2) (Su.le 2 n):=by
  rw [Q]
  have:=AC.built w (Su.le 2 n) (zN _) (by rw [Su.AU];unfold maxLen;omega)
  rw [Su.AU] at this;exact this
 have f:=(Below.refl w.heap.size w).alloc (zN _) (.cells #[Value.int .u8 ((n:Int) % 256),.int .u8 ((n:Int) / 256)] 5)
 obtain⟨w1,y⟩:∃ W,W=w.alloc (.cells #[Value.int .u8 ((n:Int) % 256),.int .u8 ((n:Int) / 256)] 5):=⟨_,rfl⟩
 rw [<-y] at o f
 have H1:=zH y
 clear Q y
 have zb:=f.size
 go_in
 go_wp2_with fail
 rw [<-H1.out]
 refine (Jh ep T _).mono ?_;rintro e w2 ⟨x2,rfl,N,s⟩
 have p:=o.ext s
 have j:=f.trans (Below.mono s f.size)
 clear o f s
 go_wp2_with (at_builtin;refine Qc rfl _ _ rfl w.heap.size _ _ rfl p (some x2) 4 4 _ rfl N (by rw [Su.AU];omega) j.size ?_;intro v3 w3 F I _)
 have z:=j.grown I j.size (fun k d=>(p.lt k d).1)
 clear p N I j
 refine (Jh b hs _).mono ?_;rintro e w4 ⟨x4,rfl,O,t⟩
 have q:=F.ext t
 have m:=z.trans (Below.mono t z.size)
 clear F z t
 go_wp2_with (first|((show wpList _ _ _ (Oper.mk (some 27) _ _ _ _ _ :: _) _ _);refine Qc rfl _ _ rfl w.heap.size _ _ rfl q (some x4) 4 4 _ rfl O (by simp [Su.AU,AX.CC]) m.size ?_;intro v5 w5 r J _;have g:=m.grown J m.size (fun k d=>(q.lt k d).1);have P:=h.ext g)|((show wpList _ _ _ (Oper.mk (some 30) _ _ _ _ _ :: _) _ _);refine Qc rfl _ _ rfl w.heap.size _ _ rfl r a n c l rfl P (by simp [Su.AU,AX.CC];omega) g.size ?_;intro v6 w6 i K _))
 have A:=g.grown K g.size (fun k d=>(r.lt k d).1)
 clear q O J m P r K g
 have R:Su.le 2 n ++ AX.CC ep ++ AX.CC b ++ l=Fr.head ep b l:=by unfold Fr.head;rw [C.out,Su.DU _ T,Su.DU _ hs]
 rw [R] at i
 clear R
 obtain⟨a6,c6,rfl,M,-⟩:=id i.sl
 refine (Yo _ _ _ _ _ M).mono ?_;rintro e w9 ⟨rfl,rfl⟩
 go_wp2_with fail
 refine (Jh (AX.update 0 (Fr.head ep b l)) (AX.BX _ _) _).mono ?_;rintro e w7 ⟨x7,rfl,za,u⟩
 have G:=i.ext u
 have B:=A.trans (Below.mono u A.size)
 have x:=Fr.FP ep b l
 rw [C.out] at x
 have X:=zH x
 clear i A u x M
 go_wp2_with (at_builtin;refine Qc rfl _ _ rfl w.heap.size _ _ rfl G (some x7) 4 4 _ rfl za (by rw [X.out];omega) B.size ?_;intro v8 w8 H Y _)
 have Z:=B.grown Y B.size (fun k d=>(G.lt k d).1)
 rw [<-Su.DU _ (AX.BX _ _)] at H
 go_ret2
 exact⟨v8,rfl,H,Z⟩
theorem Vb (ep b:Nat) (a:Option Addr) (n c:Nat) (w:World) (hn:1024 < n) (f:n<=9223372036854775807) :
 Calls Tryz.prog 143 #[.int .u32 ep,.int .u32 b,.slice a n c] w fun e d=>e=.returned (.tuple #[.slice none 0 0,.int .i64 3])/\w=d:=by
 have g:(1024:Int) < (n:Int):=by omega
 go_in
 go_wp2_with fail
 go_ret2
 exact⟨rfl,rfl⟩
end
section
open Go.RowKit
def EN (l:List UInt8) (ep a:Nat) (w:World) (e:Ending) (w':World):Prop :=
 ∃ v,e=.returned (.tuple #[v,.int .i64 ((Fr.dec l ep a).2.1:Nat),.int .i64 (Fr.dec l ep a).2.2])/\AC w.heap.size w' v (Fr.dec l ep a).1/\Below w.heap.size w w'
theorem Jg {l:List UInt8} {ep b:Nat} {p:List UInt8} {m:Nat} {a:Int} (hd:Fr.dec l ep b=(p,m,a)) {w:World} {e:Ending} {w':World} (v:Value) (d:e=.returned (.tuple #[v,m,a])) (ho:AC w.heap.size w' v p) (c:Below w.heap.size w w'):EN l ep b w e w':=by
 unfold EN;rw [hd];exact⟨v,d,ho,c⟩
theorem Ba (a:Option Addr) (n c:Nat) (l:List UInt8) (ep d:Nat) (_he:ep < 4294967296) (_hs:d < 4294967296) (w:World) (h:AM w a n c l) :
 Calls Tryz.prog 172 #[.slice a n c,.int .u32 ep,.int .u32 d] w (EN l ep d w):=by
 have zr:=h.le
 have y:=h.len
 by_cases h1:n < 14
 ·have hd:Fr.dec l ep d=([],0,5):=by unfold Fr.dec;rw [if_pos (by omega)]
  have f:=zH hd
  have ht:(n:Int) < 14:=by omega
  clear hd y
  go_in
  go_wp2_with fail
  go_ret3
  exact Jg f.out _ rfl (AC.nil _ _) (Below.refl _ _)
 have zs:¬ (n:Int) < 14:=by omega
 obtain⟨b,o,rfl,hb,-,-⟩:=h.at (show 0 < n by omega)
 have z:=h.take (show 2<=n by omega)
 have hm:=Fr.QF l
 have q:Su.unle (l.take 2)=Fr.BD l:=rfl
 have zq:n<=c:=h.2.1
 by_cases I:1024 < Fr.BD l
 ·have hd:Fr.dec l ep d=([],0,3):=by unfold Fr.dec;rw [if_neg (by omega),if_pos I]
  have hsz:Fr.size (Fr.BD l:Int)=0:=by unfold Fr.size;rw [if_pos (by omega)]
  have f:=zH hd;have t:=zH hsz;have s:=zH q
  clear hd hsz q y
  generalize Fr.BD l=m at *
  go_in
  go_wp2_with fail
  refine (Xm _ _ _ _ _ z (by omega)).mono ?_;rintro e B ⟨rfl,j⟩
  rw [s.out]
  go_wp2_with fail
  refine (Hw _ (by omega) (by omega) _).mono ?_;rintro e w0 ⟨rfl,rfl⟩
  rw [t.out]
  go_wp2_with fail
  go_ret3
  exact Jg f.out _ rfl (AC.nil _ _) j
 have hsz:Fr.size (Fr.BD l:Int)=((14+Fr.BD l:Nat):Int):=by unfold Fr.size;rw [if_neg (by omega)];omega
 by_cases h3:n < 14+Fr.BD l
 ·have hd:Fr.dec l ep d=([],0,5):=by unfold Fr.dec;rw [if_neg (by omega),if_neg I,if_pos (by omega)]
  have f:=zH hd;have t:=zH hsz;have s:=zH q
  clear hd hsz q y
  generalize Fr.BD l=m at *
  have zh:(n:Int) < 14+(m:Int):=by omega
  have zi:((14:Int)+m == 0)=false:=by simp;omega
  go_in
  go_wp2_with fail
  refine (Xm _ _ _ _ _ z (by omega)).mono ?_;rintro e B ⟨rfl,j⟩
  rw [s.out]
  go_wp2_with fail
  refine (Hw _ (by omega) (by omega) _).mono ?_;rintro e w0 ⟨rfl,rfl⟩
  rw [t.out]
  go_wp2_with fail
  go_ret3
  exact Jg f.out _ rfl (AC.nil _ _) j
 have zb:AM w (b (o+(10+Fr.BD l))) 4 (c - (10+Fr.BD l)) ((l.drop (10+Fr.BD l)).take 4):=(h.drop (k:=10+Fr.BD l) (by omega)).take (by omega)
 have Z:AM w (b o) (10+Fr.BD l) c (l.take (10+Fr.BD l)):=h.take (by omega)
 have F:AM w (b (o+2)) 4 (c - 2) ((l.drop 2).take 4):=(h.drop (k:=2) (by omega)).take (by omega)
 have za:AM w (b (o+6)) 4 (c - 6) ((l.drop 6).take 4):=(h.drop (k:=6) (by omega)).take (by omega)
 have zg:AM w (b (o+10)) (Fr.BD l) (c - 10) ((l.drop 10).take (Fr.BD l)):=(h.drop (k:=10) (by omega)).take (by omega)
 have R:=fun ep d=>show Fr.dec l ep d=if Su.unle ((l.drop (10+Fr.BD l)).take 4) ≠ AX.update 0 (l.take (10+Fr.BD l)) then ([],0,7) else if Su.unle ((l.drop 2).take 4) ≠ ep\/Su.unle ((l.drop 6).take 4) ≠ d then ([],0,8) else ((l.drop 10).take (Fr.BD l),14+Fr.BD l,0) by
  unfold Fr.dec;rw [if_neg (by omega),if_neg I,if_neg (by omega)]
 have zj:=Su.CV ((l.drop (10+Fr.BD l)).take 4)
 have zk:=AX.BX 0 (l.take (10+Fr.BD l))
 have Q:=zH R;have t:=zH hsz;have s:=zH q
 clear R hsz q y zj zk
 generalize Fr.BD l=m at *
 obtain⟨U,J⟩:∃ U,U=Su.unle ((l.drop (10+m)).take 4):=⟨_,rfl⟩
 obtain⟨V,K⟩:∃ V,V=AX.update 0 (l.take (10+m)):=⟨_,rfl⟩
 obtain⟨X,M⟩:∃ X,X=Su.unle ((l.drop 2).take 4):=⟨_,rfl⟩
 obtain⟨Y,N⟩:∃ Y,Y=Su.unle ((l.drop 6).take 4):=⟨_,rfl⟩
 have zf:(((U:Int) != V)=true/\Hid (Fr.dec l ep d=([],0,7)))\/(((U:Int) != V)=false/\((X:Int) != ep)=true/\Hid (Fr.dec l ep d=([],0,8)))\/(((U:Int) != V)=false/\((X:Int) != ep)=false/\((Y:Int) != d)=true/\Hid (Fr.dec l ep d=([],0,8))) ∨
  (((U:Int) != V)=false/\((X:Int) != ep)=false/\((Y:Int) != d)=false/\Hid (Fr.dec l ep d=((l.drop 10).take m,14+m,0))):=by
  have i:=Q.out ep d
  rw [<-J,<-K,<-M,<-N] at i
  by_cases u:U=V
  ·rw [if_neg (by simpa using u)] at i
   by_cases A:X=ep
   ·by_cases H:Y=d
    ·rw [if_neg (by simp [A,H])] at i
     exact .inr (.inr (.inr ⟨by simp [u],by simp [A],by simp [H],zH i⟩))
    ·rw [if_pos (.inr H)] at i
     exact .inr (.inr (.inl ⟨by simp [u],by simp [A],by simp;omega,zH i⟩))
   ·rw [if_pos (.inl A)] at i
    exact .inr (.inl ⟨by simp [u],by simp;omega,zH i⟩)
  ·rw [if_pos u] at i
   exact .inl ⟨by simp;omega,zH i⟩
 have HU:=zH J;have HV:=zH K;have G:=zH M;have HY:=zH N
 clear J K M N Q
 have zh:¬ (n:Int) < 14+(m:Int):=by omega
 have zi:((14:Int)+m == 0)=false:=by simp;omega
 have zn:¬ c=10+m:=by omega
 have zo:¬ c=2:=by omega
 have zp:¬ c=6:=by omega
 have zm:¬ c=10:=by omega
 rcases zf with⟨O,f⟩|⟨O,t2,f⟩|⟨O,t2,t3,f⟩|⟨O,t2,t3,f⟩
 all_goals
  go_in
  go_wp2_with fail
  refine (Xm _ _ _ _ _ z (by omega)).mono ?_;rintro e B ⟨rfl,j⟩
  rw [s.out]
  go_wp2_with fail
  refine (Hw _ (by omega) (by omega) _).mono ?_;rintro e w0 ⟨rfl,rfl⟩
  rw [t.out]
  have s1:IntKind.i64.wrap (14+(m:Int) - 4)=10+m:=by rw [show 14+(m:Int) - 4=10+m by omega];exact IntWalk.i64_in _ (by omega)
  go_wp2_with fail
  have v1:(0:Int)<=10+(m:Int):=by omega
  have v2:(10:Int)+(m:Int)<=14+(m:Int):=by omega
  have v3:(14:Int)+(m:Int)<=(c:Int):=by omega
  have v4:(10:Int)+(m:Int)<=(c:Int):=by omega
  have v5:((10:Int)+(m:Int)).toNat=10+m:=by omega
  have v6:((14:Int)+(m:Int)).toNat=14+m:=by omega
  have v7:14+m - (10+m)=4:=by omega
  have T:=zb.ext j
  have W:=Z.ext j
  go_region_held3 (fun w'=>AP B w') (first|assumption|exact AP.drew (AP.refl _)|exact AP.step (by assumption) (by assumption)) (first|(go_at_call 195;go_must (refine (Xm _ _ _ _ _ (T.ext' (by assumption)) (by omega)).mono ?_);rintro e w9 ⟨rfl,ze⟩)|(go_at_call 48;go_must (refine (Xr _ _ _ _ _ (W.ext' (by assumption))).mono ?_);rintro e w9 ⟨rfl,rfl⟩))
  have P:AP B w9:=by assumption
  have g:=j.trans (Below.mono P j.size)
  rw [<-HU.out,<-HV.out]
  clear s1 v1 v2 v3 v4 v5 v6 v7 T W z zb Z j ze P
 ·go_wp2_with fail
  go_ret3
  exact Jg f.out _ rfl (AC.nil _ _) g
 ·go_wp2_with fail
  refine (Xm _ _ _ _ _ (F.ext g) (by omega)).mono ?_;rintro e zc ⟨rfl,r⟩
  rw [<-G.out]
  go_wp2_with fail
  go_ret3
  exact Jg f.out _ rfl (AC.nil _ _) (g.trans (Below.mono r g.size))
 ·go_wp2_with fail
  refine (Xm _ _ _ _ _ (F.ext g) (by omega)).mono ?_;rintro e zc ⟨rfl,r⟩
  have p:=g.trans (Below.mono r g.size)
  rw [<-G.out]
  go_wp2_with fail
  refine (Xm _ _ _ _ _ (za.ext p) (by omega)).mono ?_;rintro e zl ⟨rfl,C⟩
  rw [<-HY.out]
  go_wp2_with fail
  go_ret3
  exact Jg f.out _ rfl (AC.nil _ _) (p.trans (Below.mono C p.size))
 ·go_wp2_with fail
  refine (Xm _ _ _ _ _ (F.ext g) (by omega)).mono ?_;rintro e zc ⟨rfl,r⟩
  have p:=g.trans (Below.mono r g.size)
  rw [<-G.out]
  go_wp2_with fail
  refine (Xm _ _ _ _ _ (za.ext p) (by omega)).mono ?_;rintro e zl ⟨rfl,C⟩
  have x:=p.trans (Below.mono C p.size)
  rw [<-HY.out]
  go_wp2_with fail
  refine (Dy _ _ _ _ _ (zg.ext x) (by omega)).mono ?_;rintro e zt ⟨v,rfl,hO,zd⟩
  go_wp2_with fail
  go_ret3
  exact Jg f.out _ (by simp) (hO.mono x.size) (x.trans (Below.mono zd x.size))
theorem Eh (l:List UInt8) (h:2<=l.length):Fr.BD l=(l[0]?.getD 0).toNat+256 * (l[1]?.getD 0).toNat:=by
 match l,h with
|x :: y :: l,_=>simp [Fr.BD,Su.unle]
theorem Oy (a:Option Addr) (n c:Nat) (l:List UInt8) (ep g:Nat) (_he:ep < 4294967296) (_hs:g < 4294967296) (w:World) (h:AM w a n c l) :
 Calls Tryz.prog 175 #[.slice a n c,.int .u32 ep,.int .u32 g] w (EN l ep g w):=by
 have zq:=h.le
 have W:=h.len
 by_cases h1:n < 14
 ·have hd:Fr.dec l ep g=([],0,5):=by unfold Fr.dec;rw [if_pos (by omega)]
  have f:=zH hd
  have ht:(n:Int) < 14:=by omega
  clear hd W
  go_in
  go_wp2_with fail
  go_ret3
  exact Jg f.out _ rfl (AC.nil _ _) (Below.refl _ _)
 have zr:¬ (n:Int) < 14:=by omega
 obtain⟨b,o,rfl,hb,-,q0⟩:=h.at (show 0 < n by omega)
 obtain⟨b',o',e,-,-,q1⟩:=h.at (show 1 < n by omega)
 cases e
 rw [Nat.add_zero] at q0
 have hm:=Fr.QF l
 have zb:=Eh l (by omega)
 have zp:n<=c:=h.2.1
 have A:Fr.BD l+14<=n->AM w (b (o+(10+Fr.BD l))) 4 (c - (10+Fr.BD l)) ((l.drop (10+Fr.BD l)).take 4):=fun _=>(h.drop (k:=10+Fr.BD l) (by omega)).take (by omega)
 have O:Fr.BD l+14<=n->AM w (b o) (10+Fr.BD l) c (l.take (10+Fr.BD l)):=fun _=>h.take (by omega)
 have y:AM w (b (o+2)) 4 (c - 2) ((l.drop 2).take 4):=(h.drop (k:=2) (by omega)).take (by omega)
 have z:AM w (b (o+6)) 4 (c - 6) ((l.drop 6).take 4):=(h.drop (k:=6) (by omega)).take (by omega)
 have P:Fr.BD l+14<=n->AM w (b (o+10)) (Fr.BD l) (c - 10) ((l.drop 10).take (Fr.BD l)):=fun _=>(h.drop (k:=10) (by omega)).take (by omega)
 have za:Fr.dec l ep g=if 1024 < Fr.BD l then ([],0,3) else if n < 14+Fr.BD l then ([],0,5) else if Su.unle ((l.drop (10+Fr.BD l)).take 4) ≠ AX.update 0 (l.take (10+Fr.BD l)) then ([],0,7) else if Su.unle ((l.drop 2).take 4) ≠ ep\/Su.unle ((l.drop 6).take 4) ≠ g then ([],0,8) else ((l.drop 10).take (Fr.BD l),14+Fr.BD l,0):=by
  unfold Fr.dec;rw [if_neg (by omega),W]
 have zc:Su.unle ((l.drop 2).take 4)=AX.BP ((l.drop 2).take 4):=Su.EZ _ y.len
 have zd:Su.unle ((l.drop 6).take 4)=AX.BP ((l.drop 6).take 4):=Su.EZ _ z.len
 have B:Fr.BD l+14<=n->Su.unle ((l.drop (10+Fr.BD l)).take 4)=AX.BP ((l.drop (10+Fr.BD l)).take 4):=fun hh=>Su.EZ _ (A hh).len
 have x:=zH za;have T:=zH zb;have K:=zH zc;have M:=zH zd;have N:=zH B;have J:=zH A;have H:=zH O;have I:=zH P
 clear za zb zc zd B A O P W
 generalize Fr.BD l=m at *
 generalize l[0]?.getD 0=F at *
 generalize l[1]?.getD 0=G at *
 have y0:F.toNat < 256:=F.toNat_lt
 have y1:G.toNat < 256:=G.toNat_lt
 have b0:(0:Int) < (n:Int):=by omega
 have b1:(1:Int) < (n:Int):=by omega
 have pre:∃ Q,Q=((m:Nat):Int):=⟨_,rfl⟩
 clear pre
 by_cases h2:1024 < m
 ·have d:=x.out
  rw [if_pos h2] at d
  have f:=zH d
  have zi:(1024:Int) < m:=by omega
  clear d x J H I K M N y z
  go_in
  go_wp2_with fail
  go_quiet (fail)
  rw [show (F.toNat:Int)+256 * (G.toNat:Int)=(m:Int) by rw [T.out];omega]
  go_wp2_with fail
  go_ret3
  exact Jg f.out _ rfl (AC.nil _ _) (Qh _ _ _)
 have zi:¬ (1024:Int) < m:=by omega
 by_cases h3:n < 14+m
 ·have d:=x.out
  rw [if_neg h2,if_pos h3] at d
  have f:=zH d
  have zj:(n:Int) < 14+m:=by omega
  clear d x J H I K M N y z
  go_in
  go_wp2_with fail
  go_quiet (fail)
  rw [show (F.toNat:Int)+256 * (G.toNat:Int)=(m:Int) by rw [T.out];omega]
  go_wp2_with fail
  go_ret3
  exact Jg f.out _ rfl (AC.nil _ _) (Qh _ _ _)
 have zj:¬ (n:Int) < 14+m:=by omega
 have A:=J.out (by omega)
 have O:=H.out (by omega)
 have P:=I.out (by omega)
 have B:=N.out (by omega)
 obtain⟨U,hU⟩:∃ U,U=AX.BP ((l.drop (10+m)).take 4):=⟨_,rfl⟩
 obtain⟨V,hV⟩:∃ V,V=AX.update 0 (l.take (10+m)):=⟨_,rfl⟩
 obtain⟨X,hX⟩:∃ X,X=AX.BP ((l.drop 2).take 4):=⟨_,rfl⟩
 obtain⟨Y,hY⟩:∃ Y,Y=AX.BP ((l.drop 6).take 4):=⟨_,rfl⟩
 have zg:(((U:Int) != V)=true/\Hid (Fr.dec l ep g=([],0,7)))\/(((U:Int) != V)=false/\((X:Int) != ep)=true/\Hid (Fr.dec l ep g=([],0,8)))\/(((U:Int) != V)=false/\((X:Int) != ep)=false/\((Y:Int) != g)=true/\Hid (Fr.dec l ep g=([],0,8))) ∨
  (((U:Int) != V)=false/\((X:Int) != ep)=false/\((Y:Int) != g)=false/\Hid (Fr.dec l ep g=((l.drop 10).take m,14+m,0))):=by
  have d:=x.out
  rw [if_neg h2,if_neg h3,B,K.out,M.out,<-hU,<-hV,<-hX,<-hY] at d
  by_cases C:U=V
  ·rw [if_neg (by simpa using C)] at d
   by_cases R:X=ep
   ·by_cases e3:Y=g
    ·rw [if_neg (by simp [R,e3])] at d
     exact .inr (.inr (.inr ⟨by simp [C],by simp [R],by simp [e3],zH d⟩))
    ·rw [if_pos (.inr e3)] at d
     exact .inr (.inr (.inl ⟨by simp [C],by simp [R],by simp;omega,zH d⟩))
   ·rw [if_pos (.inl R)] at d
    exact .inr (.inl ⟨by simp [C],by simp;omega,zH d⟩)
  ·rw [if_pos C] at d
   exact .inl ⟨by simp;omega,zH d⟩
 have HU:=zH hU;have HV:=zH hV;have Z:=zH hX;have HY:=zH hY
 clear hU hV hX hY x J H I K M N B
 have zl:¬ c=10+m:=by omega
 have zm:¬ c=2:=by omega
 have zn:¬ c=6:=by omega
 have zk:¬ c=10:=by omega
 rcases zg with⟨t1,f⟩|⟨t1,t2,f⟩|⟨t1,t2,t3,f⟩|⟨t1,t2,t3,f⟩
 all_goals
  go_in
  go_wp2_with fail
  go_quiet (fail)
  rw [show (F.toNat:Int)+256 * (G.toNat:Int)=(m:Int) by rw [T.out];omega]
  have ze:=Qh w.heap.size w nq
  generalize w.drewN nq=w1 at *
  clear q0 q1
  go_wp2_with fail
  refine (Qo _ _ _ _ _ (A.ext ze) (by omega)).mono ?_;rintro e t ⟨rfl,k2,rfl⟩
  have p:=ze.trans (Qh w.heap.size w1 k2)
  generalize w1.drewN k2=t at *
  rw [<-HU.out]
  go_wp2_with fail
  refine (Yo _ _ _ _ _ (O.ext p)).mono ?_;rintro e i ⟨rfl,rfl⟩
  rw [<-HV.out]
 ·go_wp2_with fail
  go_ret3
  exact Jg f.out _ rfl (AC.nil _ _) p
 ·go_wp2_with fail
  refine (Qo _ _ _ _ _ (y.ext p) (by omega)).mono ?_;rintro e i ⟨rfl,r,rfl⟩
  have q:=p.trans (Qh w.heap.size t r)
  generalize t.drewN r=i at *
  rw [<-Z.out]
  go_wp2_with fail
  refine (Qo _ _ _ _ _ (z.ext q) (by omega)).mono ?_;rintro e u ⟨rfl,s,rfl⟩
  have j:=q.trans (Qh w.heap.size i s)
  generalize i.drewN s=u at *
  rw [<-HY.out]
  go_wp2_with fail
  go_ret3
  exact Jg f.out _ rfl (AC.nil _ _) j
 ·go_wp2_with fail
  refine (Qo _ _ _ _ _ (y.ext p) (by omega)).mono ?_;rintro e i ⟨rfl,r,rfl⟩
  have q:=p.trans (Qh w.heap.size t r)
  generalize t.drewN r=i at *
  rw [<-Z.out]
  go_wp2_with fail
  refine (Qo _ _ _ _ _ (z.ext q) (by omega)).mono ?_;rintro e u ⟨rfl,s,rfl⟩
  have j:=q.trans (Qh w.heap.size i s)
  generalize i.drewN s=u at *
  rw [<-HY.out]
  go_wp2_with fail
  go_ret3
  exact Jg f.out _ rfl (AC.nil _ _) j
 ·go_wp2_with fail
  refine (Qo _ _ _ _ _ (y.ext p) (by omega)).mono ?_;rintro e i ⟨rfl,r,rfl⟩
  have q:=p.trans (Qh w.heap.size t r)
  generalize t.drewN r=i at *
  rw [<-Z.out]
  go_wp2_with fail
  refine (Qo _ _ _ _ _ (z.ext q) (by omega)).mono ?_;rintro e u ⟨rfl,s,rfl⟩
  have j:=q.trans (Qh w.heap.size i s)
  generalize i.drewN s=u at *
  rw [<-HY.out]
  have zh:=P.ext (j.alloc j.size (.cells #[] 5))
  have zo:=j.size
  go_wp2_with (at_builtin;refine Qc rfl _ _ rfl u.heap.size _ [] rfl (AC.empty u (zN _)) (b (o+10)) (10+m - 10) (c - 10) ((l.drop 10).take m) rfl (by rw [Nat.add_sub_cancel_left];exact zh) (by simp;omega) (by simp) ?_;intro v w5 zf hg _)
  go_ret3
  exact Jg f.out _ (by simp;omega) (zf.mono j.size) ((j.alloc j.size _).grown hg (by simp;omega) (fun k hk=>by cases hk;exact j.size))
end
end Go.Proofs.YtmanejniepghlaaGreatDoor
