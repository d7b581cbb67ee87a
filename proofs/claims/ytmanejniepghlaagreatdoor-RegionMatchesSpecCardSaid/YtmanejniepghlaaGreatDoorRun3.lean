import Derived.Test.YtmanejniepghlaaGreatDoorRun1
import Derived.Lib.MinMax
import Derived.Test.YtmanejniepghlaaGreatDoorRun0
set_option maxHeartbeats 8000000
set_option maxRecDepth 100000
namespace Go.Proofs.YtmanejniepghlaaGreatDoor
section
open Go.RowKit
variable {w w':World} {base g:Nat} {z:Int} {v:Value} {l:List UInt8}
theorem Zu (k:Nat) (a:Int) (w:World) (d:k<=3000000000000) (h0:0<=a) (c:a<=1000):Calls Tryz.prog 229 #[k,a] w fun e w'=>e=.returned (.int .i64 (Pu.thr k a))/\w=w':=by
 have b:=zH (show max 1 (min 26 (36 * ((k:Int)+1) - a))=Pu.thr k a by unfold Pu.thr;omega)
 go_in
 go_wp2
 rw [b.out]
 go_ret
 exact⟨rfl,rfl⟩
def CE (w:World) (g:Nat) (z:Int):Prop:=w.heap[g]?=some (.cells #[z] 3 (0,0))
theorem CE.cell (h:CE w g z):w.cell? g=some (z:Value):=by rw [cell_of_row _ _ _ _ _ _ h];rfl
theorem CE.free (h:CE w g z):w.frozen? g=false:=frozen_of_row _ _ _ _ _ h
theorem CE.set (h:CE w g z) (y:Int):CE (w.setCell g (y:Value)) g y:=by
 unfold CE
 rw [heap_setCell_same _ _ _ _ _ _ h];rfl
theorem CE.other {a:Nat} (h:CE w g z) (b:g ≠ a) (v:Value):CE (w.setCell a v) g z:=(heap_setCell_other _ _ _ _ b).trans h
theorem CE.SZ (h:CE w g z) (c:AC base w v l) (b:w.grownBy w' v.ownBlock):CE w' g z:=by
 refine (b.block g (Qa h) ?_).trans h
 intro e
 rcases c.2 with⟨rfl,_⟩|⟨i,d,f,rfl,_,a,_⟩
 ·cases e
 ·simp [Value.ownBlock] at e
  subst e
  unfold CE at h
  rw [a] at h
  cases h
theorem AC.SA (c:AC base w v l) (h:CE w g z) (y:Value):AC base (w.setCell g y) v l:=by
 refine⟨c.1,?_⟩
 rcases c.2 with hn|⟨b,d,e,rfl,i,a,rest⟩
 ·exact .inl hn
 ·refine .inr ⟨b,d,e,rfl,i,?_,rest⟩
  have f:b ≠ g:=by
   rintro rfl
   unfold CE at h
   rw [a] at h
   cases h
  exact (heap_setCell_other _ _ _ _ f).trans a
theorem Yv (a:Int) (w:World):Calls Tryz.prog 259 #[a] w fun e w' =>
 e=.returned (.func (.func 268) #[] #[.pointer (w.heap.size+1:Nat),.pointer w.heap.size])/\CE w' w.heap.size a/\CE w' (w.heap.size+1) 0/\Below w.heap.size w w':=by
 have b:∀ (fn:Fn) (first cap:Array Value) (w:World),(Instr.makeFunc fn first cap).run Tryz.prog w=.ok (.func fn first cap) w:=fun _ _ _ _=>rfl
 go_in
 go_wp2
 go_ret
 refine⟨rfl,?_,?_,((Below.refl _ _).alloc (zN _) _).alloc (by simp) _⟩
 ·exact (Qd _ _ _ (by simp)).trans (Qb _ _ _ rfl)
 ·exact Qb _ _ _ (by simp)
theorem Bz (c b:Nat) (k:Nat) (a:Int) (w:World) (i:CE w c a) (d:CE w b (36 * (k:Int))) (j:c ≠ b) (n:k<=3000000000000) (h0:0<=a) (s:a<=1000) :
 Calls Tryz.prog 268 #[.pointer b,.pointer c] w fun e w' =>
  e=.returned (.int .i64 (Pu.thr k a))/\CE w' c a/\CE w' b (36 * ((k+1:Nat):Int))/\w'=w.setCell b (.int .i64 (36 * ((k:Int)+1))):=by
 have p:=i.cell
 have q:=d.cell
 have r:=d.free
 have h:36 * (k:Int)+36=36 * ((k:Int)+1):=by omega
 have m:=zH (show min (max (36 * (k:Int)+36 - a) 1) 26=Pu.thr k a by unfold Pu.thr;omega)
 have f:=zH h
 clear h
 have o:=Qa d
 go_in
 go_wp2
 rw [m.out]
 go_ret
 refine⟨rfl,i.other j _,?_,by rw [f.out]⟩
 have:=d.set (36 * ((k+1:Nat):Int))
 rw [f.out]
 simpa using this
theorem AM.LL (w:World) (b:UInt8) (t:TypeId):AM (w.alloc (.cells #[.int .u8 (b.toNat:Int)] t)) w.heap.size 1 1 [b]:=AM.one w b t
theorem Bu (base:Nat) (v:Value) (l:List UInt8) (q c:Int) (w:World) (h:AC base w v l) (hb:base<=w.heap.size) (hl:l.length<=1000000) (h0:0<=q) (h1:q<=1000000000000) (b0:0<=c) (b1:c<=1000) :
 Calls Tryz.prog 249 #[v,q,c] w fun e w'=>∃ B,e=.returned B/\AC base w' B (l ++ Pu.MT q c)/\Below base w w':=by
 obtain⟨R,I⟩:∃ R,R=Pu.MT q c:=⟨_,rfl⟩
 have Q:[] ++ Pu.digs (q.toNat+1) q 0 c=R:=by rw [I];rfl
 rw [<-I]
 have za:=zH Q
 clear Q I
 go_in
 go_wp2_with fail
 refine (Yv c _).mono ?_;rintro e w1 ⟨rfl,zb,N,A⟩
 have zc:=h.ext A
 have zg:=A.mono hb
 have hz:w.heap.size ≠ w.heap.size+1:=by omega
 have hsz:=A.size
 have U:CE w1 (w.heap.size+1) (36 * ((0:Nat):Int)):=by simpa using N
 clear N A
 go_wp2
 go_loopw [0,1] (fun u y wr=>∃ (k:Nat) (x:Int) (f:Nat) (o:List UInt8),y=.int .i64 x/\0<=x/\(k:Int)+x<=q/\x < f/\AC base wr u (l ++ o)/\o.length<=k/\(k:Int)<=q/\Hid (o ++ Pu.digs f x k c=R)/\CE wr w.heap.size c/\CE wr (w.heap.size+1) (36 * (k:Int))/\Below base w wr) (fun _ y _=>(intOf y).toNat)
 case atStart=>exact⟨0,q,q.toNat+1,[],rfl,h0,by omega,by omega,by simpa using zc,by simp,by omega,za,zb,U,zg⟩
 case round =>
  obtain⟨k,x,f,o,rfl,hx,zl,hf,T,ho,zk,HG,O,s,H⟩:=hrel
  obtain⟨f,rfl⟩:∃ g,f=g+1:=⟨f - 1,by omega⟩
  have zh:=H.size
  obtain⟨t1,t2⟩:=Pu.GP k c
  have i:=HG.out
  rw [Pu.digs] at i
  have K:=fun (W:World) a b=>Bz w.heap.size (w.heap.size+1) k c W a b hz (by omega) b0 b1
  have M:=zH K
  generalize Pu.thr k c=t at *
  clear K
  by_cases P:x < t
  ·rw [if_pos P] at i
   have F:=zH i
   clear i
   go_wp2_with fail
   refine (M.out _ O s).mono ?_;rintro e j ⟨rfl,p,r,rfl⟩
   have d:=T.SA s (.int .i64 (36 * ((k:Int)+1)))
   have m:Below base w (wr.setCell (w.heap.size+1:Nat) (.int .i64 (36 * ((k:Int)+1)))):=H.setCell (by simp;omega) _
   have Z:=m.size
   generalize wr.setCell (w.heap.size+1:Nat) (.int .i64 (36 * ((k:Int)+1)))=j at *
   go_wp2_with fail
   refine (Vg true x _ hx (by omega)).mono ?_;rintro e w3 ⟨rfl,rfl⟩
   unfold bv
   go_wp2_with (at_builtin;go_must (refine Qc rfl _ _ rfl base _ (l ++ o) rfl (d.alloc _) j.heap.size 1 1 [Pu.digit x] rfl (AM.LL _ _ _) (by rw [List.length_append];omega) (by simp;omega) ?_);intro B w4 C n _)
   have G:=(m.alloc (by omega) (.cells #[.int .u8 ((Pu.digit x).toNat:Int)] 5)).grown n (by simp;omega) (fun k J=>(d.lt k J).1)
   go_ret
   exact⟨_,rfl,by rw [<-F.out,<-List.append_assoc];exact C,G⟩
  ·rw [if_neg P] at i
   have hn:=Pu.MS x t t1 t2 (by omega)
   have zi:0<=(x - t) % (36 - t):=Int.emod_nonneg _ (by omega)
   have zj:(x - t) % (36 - t) < 36 - t:=Int.emod_lt_of_pos _ (by omega)
   have F:=zH i
   obtain⟨zf,zm,zn⟩:=hn
   clear i
   go_wp2_with fail
   refine (M.out _ O s).mono ?_;rintro e j ⟨rfl,p,r,rfl⟩
   have d:=T.SA s (.int .i64 (36 * ((k:Int)+1)))
   have m:Below base w (wr.setCell (w.heap.size+1:Nat) (.int .i64 (36 * ((k:Int)+1)))):=H.setCell (by simp;omega) _
   have Z:=m.size
   generalize wr.setCell (w.heap.size+1:Nat) (.int .i64 (36 * ((k:Int)+1)))=j at *
   go_wp2_with fail
   refine (Vg true (t+(x - t) % (36 - t)) _ (by omega) (by omega)).mono ?_;rintro e w3 ⟨rfl,rfl⟩
   unfold bv
   have zd:=Qa p
   have ze:=Qa r
   go_wp2_with (at_builtin;go_must (refine Qc rfl _ _ rfl base _ (l ++ o) rfl (d.alloc _) j.heap.size 1 1 [Pu.digit (t+(x - t) % (36 - t))] rfl (AM.LL _ _ _) (by rw [List.length_append];omega) (by simp;omega) ?_);intro B w4 C n _)
   have G:=(m.alloc (by omega) (.cells #[.int .u8 ((Pu.digit (t+(x - t) % (36 - t))).toNat:Int)] 5)).grown n (by simp;omega) (fun k J=>(d.lt k J).1)
   have X:=(show CE (j.alloc (.cells #[.int .u8 ((Pu.digit (t+(x - t) % (36 - t))).toNat:Int)] 5)) w.heap.size c from (Qd _ _ _ zd).trans p).SZ (d.alloc _) n
   have Y:=(show CE (j.alloc (.cells #[.int .u8 ((Pu.digit (t+(x - t) % (36 - t))).toNat:Int)] 5)) (w.heap.size+1) _ from (Qd _ _ _ ze).trans r).SZ (d.alloc _) n
   clear n d p r m
   go_wp2
   go_roundw
   case rel =>
    refine⟨k+1,(x - t) / (36 - t),f,o ++ [Pu.digit (t+(x - t) % (36 - t))],rfl,zf,by omega,by omega,by rw [<-List.append_assoc];exact C,by simp;omega,by omega,zH ?_,X,Y,G⟩
    rw [<-F.out];simp
   case measure=>simp [intOf];omega
end
section
open Go.RowKit
def FL (a:List Int) (w:World) (e:Ending) (w':World):Prop :=
 e=.returned (.tuple #[.string (str (Pu.enc a).1),.int .i64 (Pu.enc a).2])/\Below w.heap.size w w'
theorem Gf {b:List Int} {t:List UInt8} {a:Int} (hd:Pu.enc b=(t,a)) {w:World} {e:Ending} {w':World} (d:e=.returned (.tuple #[.string (str t),a])) (c:Below w.heap.size w w'):FL b w e w':=by
 unfold FL;rw [hd];exact⟨d,c⟩
theorem Im (p:Int) (h0:0<=p) (a:p < 128):((UInt8.ofNat p.toNat).toNat:Int)=p:=by
 have:(UInt8.ofNat p.toNat).toNat=p.toNat:=by simp;omega
 rw [this];omega
end
section
open Go.RowKit
theorem Uq (β:Bool) (a:Option Addr) (n c:Nat) (b:List Int) (w:World) (h:DX w a n c b) (hi:∀ p ∈ b,-9223372036854775808<=p/\p<=9223372036854775807) :
 Calls Tryz.prog (cond β 240 213) #[.slice a n c] w (FL b w):=by
 have P0:=zH (@Wa β)
 have d:=Mk.mk β
 cases β <;> dsimp only [cond]
 all_goals
  have vi:=h.le
  have s:=zH h.len
  by_cases hn:256 < n
  ·have hd:Pu.enc b=([],3):=by unfold Pu.enc;rw [if_pos (by rw [s.out];exact hn)]
   have HD:=zH hd
   have ht:(256:Int) < n:=by omega
   clear hd
   go_in
   go_wp2_with fail
   go_ret2
   exact Gf HD.out rfl (Below.refl _ _)
  have ht:¬ (256:Int) < n:=by omega
  have yp:¬ (∀ p ∈ b,Pu.point p=true)->Pu.enc b=([],2):=by
   intro zd
   unfold Pu.enc
   rw [if_neg (by rw [s.out];exact hn),if_neg (by rw [List.all_eq_true];exact zd)]
  have zy:(∀ p ∈ b,Pu.point p=true)->Pu.enc b=(Pu.encode b,0):=by
   intro zd
   unfold Pu.enc
   rw [if_neg (by rw [s.out];exact hn),if_pos (by rw [List.all_eq_true];exact zd)]
  have ye:=zH yp;have yd:=zH zy;have HI:=zH hi
  clear yp zy hi
  go_in
  go_wp2_with fail
  first|(replace d:Mk true:=d;go_loopw [4,22] (fun v i wr=>∃ k:Nat,k<=n/\i=.int .i64 k/\AC w.heap.size wr v (Pu.basics (b.take k))/\Hid (∀ p ∈ b.take k,Pu.point p=true)/\Below w.heap.size w wr) (fun _ i _=>n - (intOf i).toNat))|go_loopw [4,5] (fun v i wr=>∃ k:Nat,k<=n/\i=.int .i64 k/\AC w.heap.size wr v (Pu.basics (b.take k))/\Hid (∀ p ∈ b.take k,Pu.point p=true)/\Below w.heap.size w wr) (fun _ i _=>n - (intOf i).toNat)
  case atStart=>exact⟨0,Nat.zero_le _,rfl,AC.nil _ _,zH (by simp),Below.refl _ _⟩
  case round =>
   obtain⟨k,O,rfl,y,HP,I⟩:=hrel
   have hsz:=I.size
   by_cases zp:k < n
   ·obtain⟨g,o,rfl,F,K,zf⟩:=(h.ext I).at zp
    rw [List.getElem?_eq_getElem K,Option.getD_some] at zf
    have zh:b.take (k+1)=b.take k ++ [b[k]]:=List.take_succ_eq_append_getElem K
    have zt:b[k] ∈ b:=List.getElem_mem K
    have yl:=zH zh;have xb:=zH zt;have yj:=zH (HI.out _ zt)
    clear zh zt
    generalize xv:b[k]=p at *
    clear xv
    have b0:(0:Int)<=(k:Int):=by omega
    have b1:(k:Int) < (n:Int):=by omega
    have zm:=Pu.LD (b.take k)
    rw [List.length_take] at zm
    have zz:(Pu.basics (b.take k)).length<=256:=by omega
    have xi:=zH zz
    clear zm zz
    go_wp2_with fail
    refine (P0.out p _ yj.out.1 yj.out.2).mono ?_;rintro e w1 ⟨rfl,rfl⟩
    cases hp:Pu.point p with
   |false =>
     have hd:=ye.out (fun ze=>by have:=ze p xb.out;rw [hp] at this;cases this)
     have HD:=zH hd
     clear hd hp
     go_wp2_with fail
     go_ret2
     exact Gf HD.out rfl I
   |true =>
     have A:=(Pu.BC p).1 hp
     have yh:=zH (show ∀ q ∈ b.take (k+1),Pu.point q=true by
      rw [yl.out];intro q hq
      rcases List.mem_append.1 hq with hq|hq
      ·exact HP.out q hq
      ·simp at hq;rw [hq];exact hp)
     have xu:0<=p:=A.1
     have zq:p<=1114111:=A.2.1
     have U:=Pu.NK (b.take k) p
     rw [<-yl.out] at U
     clear hp A
     by_cases zs:p < 128
     ·rw [if_pos zs] at U
      have yo:=Im p xu zs
      have zu:=zH U
      have P:=fun t=>AM.LL wr (UInt8.ofNat p.toNat) t
      rw [yo] at P
      have zi:=zH P
      clear U yo P
      go_wp2_with (at_builtin;go_must (refine Qc rfl _ _ rfl w.heap.size _ _ rfl (y.alloc _) wr.heap.size 1 1 [UInt8.ofNat p.toNat] rfl (zi.out _) (by have:=xi.out;omega) (by simp;omega) ?_);intro v' w4 xf yr _)
      have xp:=(I.alloc (by omega) (.cells #[.int .u8 p] 5)).grown yr (by simp;omega) (fun k O=>(y.lt k O).1)
      clear yr
      go_wp2
      go_roundw
      case rel=>exact⟨k+1,by omega,by go_num,by rw [zu.out];exact xf,yh,xp⟩
      case measure=>simp [intOf];omega
     ·rw [if_neg zs] at U
      have zu:=zH U
      clear U
      go_wp2
      go_roundw
      case rel=>exact⟨k+1,by omega,by go_num,by rw [zu.out];exact y,yh,I⟩
      case measure=>simp [intOf];omega
   ·obtain rfl:k=n:=by omega
    rw [List.take_of_length_le (by rw [s.out];omega)] at y HP
    obtain⟨a1,c1,rfl,-,-⟩:=id y.sl
    have HD:=zH (yd.out HP.out)
    have HS:=zH (Pu.MN b HP.out)
    obtain⟨R,hR⟩:∃ R,R=Pu.encode b:=⟨_,rfl⟩
    have yu:Pu.GH b (Pu.basics b).length (b.length+1) 128 ⟨Pu.front b,0,72,(Pu.basics b).length⟩=R:=by rw [hR];rfl
    have HR:=zH hR;have xk:=zH yu
    have zm:=Pu.LD b
    rw [s.out] at zm
    clear hR yu yd ye
    by_cases hb:Pu.basics b=[]
    case' pos=>
     have hf:Pu.front b=Pu.basics b:=by unfold Pu.front;rw [if_pos hb];simp
     have hF:AC w.heap.size wr (.slice a1 (Pu.basics b).length c1) (Pu.front b):=by rw [hf];exact y
     have xq:(Pu.basics b).length=0:=by rw [hb];rfl
     have xy:¬ (0:Int) < ((Pu.basics b).length:Int):=by omega
     have ym:=I
     clear hf hb y I xq
     generalize (Pu.basics b).length=u at *
     go_wp2_with fail
     obtain⟨v5,yz⟩:∃ v,v=Value.slice a1 u c1:=⟨_,rfl⟩
     rw [<-yz] at hF ⊢
     clear yz
     obtain⟨w5,rfl⟩:∃ x,x=wr:=⟨_,rfl⟩
    case' neg=>
     have hf:Pu.front b=Pu.basics b ++ [45]:=by unfold Pu.front;rw [if_neg hb]
     have h1:0 < (Pu.basics b).length:=List.length_pos_iff.2 hb
     have xy:(0:Int) < ((Pu.basics b).length:Int):=by omega
     have P:=fun t=>AM.LL wr 45 t
     rw [show (((45:UInt8).toNat:Nat):Int)=45 from rfl] at P
     have zi:=zH P
     have HF:=zH hf
     clear hf hb P h1
     go_wp2_with (at_builtin;go_must (refine Qc rfl _ _ rfl w.heap.size _ _ rfl (y.alloc _) wr.heap.size 1 1 [45] rfl (zi.out _) (by omega) (by simp;omega) ?_);intro v5 w5 hF ys _)
     have ym:=(I.alloc (by omega) (.cells #[.int .u8 45] 5)).grown ys (by simp;omega) (fun k O=>(y.lt k O).1)
     rw [<-HF.out] at hF
     clear ys y I HF zi
     generalize (Pu.basics b).length=u at *
     go_wp2_with fail
    all_goals
     have hs:=HS.out
     first|(replace d:Mk true:=d;go_loopw [4,8,9,10,11] (fun v nn Y X B wr=>∃ (N:Int) (out:List UInt8) (delta l:Int) (done f:Nat),nn=.int .i64 N/\Y=.int .i64 delta/\X=.int .i64 l/\B=.int .i64 done/\AC w.heap.size wr v out/\Hid (Pu.JK b N ⟨out,delta,l,done⟩)/\Hid (Pu.GH b u f N ⟨out,delta,l,done⟩=R)/\k < f+done/\Below w.heap.size w wr) (fun _ _ _ _ B _=>k - (intOf B).toNat))|go_loopw [4,6,8,9,10] (fun v B nn Y X wr=>∃ (N:Int) (out:List UInt8) (delta l:Int) (done f:Nat),nn=.int .i64 N/\Y=.int .i64 delta/\X=.int .i64 l/\B=.int .i64 done/\AC w.heap.size wr v out/\Hid (Pu.JK b N ⟨out,delta,l,done⟩)/\Hid (Pu.GH b u f N ⟨out,delta,l,done⟩=R)/\k < f+done/\Below w.heap.size w wr) (fun _ B _ _ _ _=>k - (intOf B).toNat)
     case atStart=>exact⟨128,Pu.front b,0,72,u,b.length+1,rfl,rfl,rfl,rfl,hF,HS,xk,by rw [s.out];omega,ym⟩
     case round =>
      obtain⟨N,out,delta,l,done,f,rfl,rfl,rfl,rfl,y,HH,HG,hf,zk⟩:=hrel
      have vd:=zk.size
      by_cases zn:done < k
      ·obtain⟨f,rfl⟩:∃ g,f=g+1:=⟨f - 1,by omega⟩
       have hr:=Pu.MM b HP.out (by rw [s.out];omega) u N ⟨out,delta,l,done⟩ HH.out (by rw [s.out];exact zn)
       have H:=Pu.PA b N u ⟨out,delta,l,done⟩ f (by rw [s.out];exact zn)
       rw [HG.out] at H
       obtain⟨M,hM⟩:∃ M,M=Pu.least N 1114112 b:=⟨_,rfl⟩
       rw [<-hM] at hr H
       obtain⟨r1,r2,r3,r4,r5,r6,r7⟩:=hr
       simp only at r3 r4 r7
       have n1:=HH.out.n1
       have n2:=HH.out.n2
       have d0:=HH.out.d0
       have d1:=HH.out.d1
       simp only at d0 d1
       first|(replace d:Mk true:=d;have HM:=zH hM;have yi:=zH H;have H5:=zH r5;have H6:=zH r6;have H7:=zH r7)|have xa:=zH (Pu.RG b HP.out N (by have:=HH.out.done;simp only at this;rw [<-this,s.out];exact zn));have HM:=zH hM;have yi:=zH H;have H5:=zH r5;have H6:=zH r6;have H7:=zH r7
       clear hM H r5 r6 r7 hs
       obtain⟨wo,rfl⟩:∃ wo,wo=wr:=⟨_,rfl⟩
       have xz:=h.ext zk
       go_wp2_with fail
       first|(replace d:Mk true:=d;go_loop [12,53] (fun mm i=>∃ j:Nat,j<=k/\i=.int .i64 j/\mm=.int .i64 (Pu.least N 1114112 (b.take j))) (fun _ i=>k - (intOf i).toNat))|go_loop [11,12] (fun mm i=>∃ j:Nat,j<=k/\i=.int .i64 j/\mm=.int .i64 (Pu.least N 1073741824 (b.take j))) (fun _ i=>k - (intOf i).toNat)
       case atStart=>exact⟨0,Nat.zero_le _,rfl,rfl⟩
       case round =>
        obtain⟨j,hj,rfl,rfl⟩:=hrel
        by_cases xs:j < k
        ·obtain⟨g,o,rfl,F,K,zf⟩:=xz.at xs
         rw [List.getElem?_eq_getElem K,Option.getD_some] at zf
         have zh:b.take (j+1)=b.take j ++ [b[j]]:=List.take_succ_eq_append_getElem K
         first|(replace d:Mk true:=d;have zo:=Pu.JY N 1114112 (b.take j) b[j])|have zo:=Pu.JY N 1073741824 (b.take j) b[j]
         rw [<-zh] at zo
         have yg:=zH zo
         generalize b[j]=p at *
         first|(replace d:Mk true:=d;generalize Pu.least N 1114112 (b.take j)=xo at *)|generalize Pu.least N 1073741824 (b.take j)=xo at *
         clear zh zo
         by_cases yt:N<=p
         ·go_wp2_with fail
          go_round
          case rel=>exact⟨j+1,by omega,by go_num,by rw [yg.out,if_pos yt]⟩
          case measure=>simp [intOf];omega
         ·go_wp2_with fail
          go_round
          case rel=>exact⟨j+1,by omega,by go_num,by rw [yg.out,if_neg yt]⟩
          case measure=>simp [intOf];omega
        ·obtain rfl:j=k:=by omega
         first|(replace d:Mk true:=d;rw [List.take_of_length_le (by rw [s.out];omega),<-HM.out])|rw [List.take_of_length_le (by rw [s.out];omega),xa.out,<-HM.out]
         have yw:Pu.IB b N M u ⟨out,delta,l,done⟩ 0=⟨out,delta+(M - N) * ((done:Int)+1),l,done⟩:=rfl
         have xl:=zH yw
         clear yw
         go_wp2_with fail
         have ze:=H5.out
         first|(replace d:Mk true:=d;go_loopw [4,9,10,11,75] (fun v Y X B i wr=>∃ (r:Nat) (m:Pu.E),r<=j/\i=.int .i64 r/\Y=.int .i64 m.delta/\X=.int .i64 m.bias/\B=.int .i64 m.done/\AC w.heap.size wr v m.out/\Hid (Pu.IB b N M u ⟨out,delta,l,done⟩ r=m)/\Below w.heap.size w wr) (fun _ _ _ _ i _=>j - (intOf i).toNat))|go_loopw [4,6,9,10,13] (fun v B Y X i wr=>∃ (r:Nat) (m:Pu.E),r<=j/\i=.int .i64 r/\Y=.int .i64 m.delta/\X=.int .i64 m.bias/\B=.int .i64 m.done/\AC w.heap.size wr v m.out/\Hid (Pu.IB b N M u ⟨out,delta,l,done⟩ r=m)/\Below w.heap.size w wr) (fun _ _ _ _ i _=>j - (intOf i).toNat)
         case atStart=>exact⟨0,_,Nat.zero_le _,rfl,rfl,rfl,rfl,y,xl,zk⟩
         case round =>
          obtain⟨r,m,xr,rfl,rfl,rfl,rfl,G,HE,Q⟩:=hrel
          have yx:=ze r (by rw [s.out];exact xr)
          rw [HE.out] at yx
          obtain⟨m0,m1,m2,m3,m4,m5⟩:=yx
          have xg:=Q.size
          by_cases yv:r < j
          ·have zr:=Pu.RI b N M u ⟨out,delta,l,done⟩ r (by rw [s.out];exact yv)
           rw [HE.out] at zr
           obtain⟨g,o,rfl,F,K,zf⟩:=(h.ext Q).at yv
           rw [List.getElem?_eq_getElem K,Option.getD_some] at zf
           generalize b[r]=p at *
           have zj:=zH zr
           clear zr ze
           by_cases zq:p < M
           ·have zc:=zH (zj.out.trans (Pu.GY zq))
            obtain⟨zb,z,C,za⟩:=m
            simp only at m0 m1 m2 m3 m4 m5 G
            go_wp2_with fail
            go_roundw
            case rel=>exact⟨r+1,_,by omega,by go_num,rfl,rfl,rfl,G,zc,Q⟩
            case measure=>simp [intOf];omega
           ·by_cases A:p=M
            ·have hv:=zj.out.trans (Pu.GW zq A)
             have zc:=zH hv
             have t1:(p == M)=true:=by simp [A]
             have ve:=zH A
             clear A hv zj
             obtain⟨zb,z,C,za⟩:=m
             simp only at m0 m1 m2 m3 m4 m5 G
             have yq:((za:Int) == (u:Int))=(za == u):=by
              rw [Bool.eq_iff_iff,beq_iff_eq,beq_iff_eq];omega
             have yf:=zH yq
             clear yq
             go_wp2_with fail
             first
             |replace d:Mk true:=d
              refine (Bu w.heap.size _ _ z C _ G xg (by omega) m0 (by omega) m2 m3).mono ?_;rintro e w6 ⟨v6,rfl,J,yn⟩
              have T:=Q.trans yn
              clear yn G
              go_wp2_with fail
              refine (Vf true z (za+1) _ _ m0 (by omega) (by omega) (by omega)).mono ?_;rintro e w7 ⟨rfl,rfl⟩
              rw [yf.out]
              go_wp2_with fail
              go_roundw
              case rel=>exact⟨r+1,_,by omega,by go_num,rfl,rfl,by go_num,J,zc,T⟩
              case measure=>simp [intOf];omega
             |obtain⟨R',zx⟩:∃ R',R'=Pu.MT z C:=⟨_,rfl⟩
              have yy:[] ++ Pu.digs (z.toNat+1) z 0 C=R':=by rw [zx];rfl
              have xm:=zH zx;have xn:=zH yy
              clear zx yy
              obtain⟨wq,rfl⟩:∃ wq,wq=wr:=⟨_,rfl⟩
              go_loopw [4,14,15] (fun v qq kk wr=>∃ (κ:Nat) (x:Int) (Z:Nat) (o:List UInt8),qq=.int .i64 x/\kk=.int .i64 κ/\0<=x/\(κ:Int)+x<=z/\x < Z/\AC w.heap.size wr v (zb ++ o)/\o.length<=κ/\Hid (o ++ Pu.digs Z x κ C=R')/\Below w.heap.size w wr) (fun _ qq _ _=>(intOf qq).toNat)
              case atStart=>exact⟨0,z,z.toNat+1,[],rfl,rfl,m0,by omega,by omega,by simpa using G,by simp,xn,Q⟩
              case round =>
               obtain⟨κ,x,Z,o,rfl,rfl,hx,vl,vh,J,ho,xj,T⟩:=hrel
               obtain⟨Z,rfl⟩:∃ g,Z=g+1:=⟨Z - 1,by omega⟩
               have vc:=T.size
               obtain⟨va,vb⟩:=Pu.GP κ C
               have F:=xj.out
               rw [Pu.digs] at F
               have yc:=fun (W:World)=>Zu κ C W (by omega) m2 m3
               have yk:=zH yc
               generalize Pu.thr κ C=t at *
               clear yc
               go_wp2_with fail
               refine (yk.out _).mono ?_;rintro e w7 ⟨rfl,rfl⟩
               by_cases zp:x < t
               ·rw [if_pos zp] at F
                have zv:=zH F
                clear F
                go_wp2_with fail
                refine (Vg false x _ hx (by omega)).mono ?_;rintro e w8 ⟨rfl,rfl⟩
                unfold bv
                go_wp2_with (at_builtin;go_must (refine Qc rfl _ _ rfl w.heap.size _ (zb ++ o) rfl (J.alloc _) wr.heap.size 1 1 [Pu.digit x] rfl (AM.LL _ _ _) (by rw [List.length_append];omega) (by simp;omega) ?_);intro v9 w9 zl zg _)
                have zw:=(T.alloc (by omega) (.cells #[.int .u8 ((Pu.digit x).toNat:Int)] 5)).grown zg (by simp;omega) (fun k O=>(J.lt k O).1)
                have xe:AC w.heap.size w9 v9 (zb ++ Pu.MT z C):=by rw [<-xm.out,<-zv.out,<-List.append_assoc];exact zl
                clear zg J T zl
                go_wp2_with fail
                refine (Vf false z (za+1) _ _ m0 (by omega) (by omega) (by omega)).mono ?_;rintro e vm ⟨rfl,rfl⟩
                rw [yf.out]
                go_wp2_with fail
                go_roundw
                case rel=>exact⟨r+1,_,by omega,by go_num,rfl,rfl,by go_num,xe,zc,zw⟩
                case measure=>simp [intOf];omega
               ·rw [if_neg zp] at F
                have hn:=Pu.MS x t va vb (by omega)
                have zy:0<=(x - t) % (36 - t):=Int.emod_nonneg _ (by omega)
                have vg:(x - t) % (36 - t) < 36 - t:=Int.emod_lt_of_pos _ (by omega)
                have zv:=zH F
                obtain⟨xt,vj,vk⟩:=hn
                clear F
                go_wp2_with fail
                refine (yk.out _).mono ?_;rintro e w7 ⟨rfl,rfl⟩
                go_wp2_with fail
                refine (Vg false (t+(x - t) % (36 - t)) _ (by omega) (by omega)).mono ?_;rintro e w8 ⟨rfl,rfl⟩
                unfold bv
                go_wp2_with (at_builtin;go_must (refine Qc rfl _ _ rfl w.heap.size _ (zb ++ o) rfl (J.alloc _) wr.heap.size 1 1 [Pu.digit (t+(x - t) % (36 - t))] rfl (AM.LL _ _ _) (by rw [List.length_append];omega) (by simp;omega) ?_);intro v9 w9 zl zg _)
                have zw:=(T.alloc (by omega) (.cells #[.int .u8 ((Pu.digit (t+(x - t) % (36 - t))).toNat:Int)] 5)).grown zg (by simp;omega) (fun k O=>(J.lt k O).1)
                clear zg J T
                go_wp2
                go_roundw
                case rel =>
                 refine⟨κ+1,(x - t) / (36 - t),Z,o ++ [Pu.digit (t+(x - t) % (36 - t))],rfl,by go_num,xt,by omega,by omega,by rw [<-List.append_assoc];exact zl,by simp;omega,zH ?_,zw⟩
                 rw [<-zv.out];simp
                case measure=>simp [intOf];omega
            ·have zc:=zH (zj.out.trans (Pu.GX zq A))
             have t1:(p == M)=false:=by simp [A]
             clear A
             go_wp2_with fail
             go_roundw
             case rel=>exact⟨r+1,_,by omega,by go_num,rfl,rfl,rfl,G,zc,Q⟩
             case measure=>simp [intOf];omega
          ·obtain rfl:r=j:=by omega
           have zd:Pu.next b N M u ⟨out,delta,l,done⟩={ m with delta:=m.delta+1 }:=by
            unfold Pu.next
            rw [s.out,HE.out]
           have h6:=H6.out
           have h7:=H7.out
           have H:=yi.out
           rw [zd] at h6 h7 H
           have xh:=zH h6;have xc:=zH H.symm
           simp only at h7
           clear zd h6 H ze
           obtain⟨zb,z,C,za⟩:=m
           simp only at m0 m1 m2 m3 m4 m5 G h7
           go_wp2_with fail
           go_roundw
           case rel=>exact⟨M+1,_,_,_,_,f,rfl,rfl,rfl,rfl,G,xh,xc,by omega,Q⟩
           case measure=>simp [intOf];omega
      ·have ya:=Pu.RC b N u ⟨out,delta,l,done⟩ f (by rw [s.out];exact zn)
       have yb:out=R:=by rw [<-HG.out,ya]
       have xd:=zH yb
       obtain⟨a6,c6,rfl,xw,-⟩:=id y.sl
       have vf:=Qs xw
       clear ya yb hs
       go_wp2_with fail
       go_ret2
       rw [xd.out,HR.out]
       exact Gf HD.out rfl zk
end
end Go.Proofs.YtmanejniepghlaaGreatDoor
