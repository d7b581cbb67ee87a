import Derived.Test.YtmanejniepghlaaGreatDoorRun17
set_option maxHeartbeats 8000000
set_option maxRecDepth 100000
namespace Go.Proofs.YtmanejniepghlaaGreatDoor
section
open Go.RowKit
variable {t:List UInt8} {B m:Nat} {w:World} {k x z:Int} {h:ByteArray} {s:Bool} {q:AJ}
theorem IS {x y z u:Value} {t:TypeId} (e:w.heap[B]?=some (.cells #[x,y,z,u] t (0,0))) (a b c d:Value) :
 ((((w.setCell B a).setCell (B 1) b).setCell (B 2) c).setCell (B 3) d).heap[B]?=some (.cells #[a,b,c,d] t (0,0)) :=
 heap_setCell_same _ B 3 _ t d (heap_setCell_same _ B 2 _ t c (heap_setCell_same _ B 1 _ t b (heap_setCell_same w B 0 _ t a e)))
theorem TQ {x y z u:Value} {t:TypeId} (e:w.heap[B]?=some (.cells #[x,y,z,u] t (0,0))) (a b c d:Value) (o:Obj) :
 (((((w.setCell B a).setCell (B 1) b).setCell (B 2) c).setCell (B 3) d).alloc o).heap[B]?=some (.cells #[a,b,c,d] t (0,0)) :=
 (Qd _ o _ (Qa (IS e a b c d))).trans (IS e a b c d)
theorem BV.put (d:BV w B k h s x) (a:ByteArray) (b:Bool) (c:Int) :
 BV (((w.setCell (B 1) (.string a)).setCell (B 2) (.bool b)).setCell (B 3) (c:Value)) B k a b c :=
 heap_setCell_same _ B 3 _ _ _ (heap_setCell_same _ B 2 _ _ _ (heap_setCell_same _ B 1 _ _ _ d))
theorem BV.VA (b:BV w B k h s x) (a:ByteArray):BV (w.setCell (B 1) (.string a)) B k a s x :=
 heap_setCell_same _ B 1 _ _ _ b
theorem BV.other (b:BV w B k h s x) {g:Nat} (a:g ≠ B) (i:Nat) (v:Value):BV (w.setCell (g i) v) B k h s x :=
 (heap_setCell_other _ _ _ _ (fun e=>a e.symm)).trans b
def CD (b:List UInt8) (w:World) (e:Ending) (w':World):Prop:=e=.returned (.tuple #[uv (AN.dec b).1,.int .i64 (AN.dec b).2])/\AP w w'
theorem CD.of {b:List UInt8} {u:BS} (h:AN.dec b=(u,z)) {e:Ending} {w':World} (c:e=.returned (.tuple #[uv u,z])) (a:AP w w'):CD b w e w':=by
 unfold CD;rw [h];exact⟨c,a⟩
theorem AN.PW:AN.dec []=(AN.none,5):=rfl
theorem AN.SI (h:AJ.dec t=(q,m,z)) (a:z ≠ 0):AN.dec (1 :: t)=(AN.none,z):=by unfold AN.dec;dsimp only;rw [if_pos rfl];unfold AN.SH;rw [h];exact if_pos a
theorem AN.SJ (h:AJ.dec t=(q,m,0)) (a:m < t.length):AN.dec (1 :: t)=(AN.none,6):=by unfold AN.dec;dsimp only;rw [if_pos rfl];unfold AN.SH;rw [h];exact (if_neg (by simp)).trans (if_pos a)
theorem AN.SK (h:AJ.dec t=(q,m,0)) (a:¬ m < t.length):AN.dec (1 :: t)=(⟨1,q⟩,0):=by unfold AN.dec;dsimp only;rw [if_pos rfl];unfold AN.SH;rw [h];exact (if_neg (by simp)).trans (if_neg a)
theorem AN.SL {s:List UInt8} (h:Wi.CB t=(s,m,z)) (a:z ≠ 0):AN.dec (2 :: t)=(AN.none,z):=by unfold AN.dec;dsimp only;rw [if_neg (by decide),if_pos rfl];unfold AN.RB;rw [h];exact if_pos a
theorem AN.SM {s:List UInt8} (h:Wi.CB t=(s,m,0)) (a:m < t.length):AN.dec (2 :: t)=(AN.none,6):=by unfold AN.dec;dsimp only;rw [if_neg (by decide),if_pos rfl];unfold AN.RB;rw [h];exact (if_neg (by simp)).trans (if_pos a)
theorem AN.SN {s:List UInt8} (h:Wi.CB t=(s,m,0)) (a:¬ m < t.length) (hn:Ho.name s=false):AN.dec (2 :: t)=(AN.none,14):=by unfold AN.dec;dsimp only;rw [if_neg (by decide),if_pos rfl];unfold AN.RB;rw [h];exact (if_neg (by simp)).trans ((if_neg a).trans (if_pos hn))
theorem AN.SO {s:List UInt8} (h:Wi.CB t=(s,m,0)) (a:¬ m < t.length) (hn:Ho.name s=true):AN.dec (2 :: t)=(⟨2,⟨s,false,0⟩⟩,0):=by unfold AN.dec;dsimp only;rw [if_neg (by decide),if_pos rfl];unfold AN.RB;rw [h];exact (if_neg (by simp)).trans ((if_neg a).trans (if_neg (by rw [hn];decide)))
theorem AN.VX {x:UInt8} (a:x ≠ 1) (b:x ≠ 2):AN.dec (x :: t)=(AN.none,6):=by unfold AN.dec;dsimp only;rw [if_neg a,if_neg b]
theorem Db (a:Option Addr) (n c:Nat) (b:List UInt8) (w:World) (h:AM w a n c b) (hn:n<=1000000) :
 Calls Tryz.prog 115 #[.slice a n c] w (CD b w):=by
 have zp:=h.len
 cases b with
|nil =>
  obtain rfl:n=0:=zp.symm
  have l:=zH AN.PW
  clear h zp
  go_in
  go_wp2_with fail
  refine bodyPost_ret (v:=.tuple #[.agg #[.int .i64 0,.string ⟨#[]⟩,.bool false,.int .i64 0],.int .i64 5]) (by simp [results,Tryz.results115,go_sem]) rfl (CD.of l.out rfl ?_)
  exact (Below.refl _ _).alloc (zN _) _
|cons x t =>
  simp only [List.length_cons] at zp
  obtain⟨bb,o,rfl,ym,-,c0⟩:=h.at (show 0 < n by omega)
  simp only [List.getElem?_cons_zero,Option.getD_some,Nat.add_zero] at c0
  have n1:(0:Int) < (n:Int):=by omega
  have n2:(1:Int)<=(n:Int):=by omega
  have n3:((n:Int) == 0)=false:=beq_eq_false_iff_ne.2 (by omega)
  have yf:=BV.new w 0 ⟨#[]⟩ false 0
  have yd:=(Below.refl w.heap.size w).alloc (zN _) (.cells #[.int .i64 0,.string ⟨#[]⟩,.bool false,.int .i64 0] 36)
  have yh:(w.alloc (.cells #[.int .i64 0,.string ⟨#[]⟩,.bool false,.int .i64 0] 36)).heap.size=w.heap.size+1:=by simp
  have yj:x.toNat < 256:=x.toNat_lt
  obtain⟨F,zv⟩:∃ F:Nat,x.toNat=F:=⟨_,rfl⟩
  have Y:=BV.new (w.alloc (.cells #[.int .i64 0,.string ⟨#[]⟩,.bool false,.int .i64 0] 36)) (F:Int) ⟨#[]⟩ false 0
  have X:=yd.alloc yd.size (.cells #[F,.string ⟨#[]⟩,.bool false,.int .i64 0] 36)
  have zr:AP (w.alloc (.cells #[.int .i64 0,.string ⟨#[]⟩,.bool false,.int .i64 0] 36)) _:=(AP.refl _).alloc (.cells #[F,.string ⟨#[]⟩,.bool false,.int .i64 0] 36)
  have zc:=yf.ext zr
  have K:=h.ext X
  rw [yh] at Y
  rw [zv] at c0 yj
  by_cases ye:x=1
  ·subst ye
   obtain rfl:1=F:=zv
   simp only [show ((1:Nat):Int)=1 from rfl] at c0 Y X zr zc K
   obtain⟨C,zg⟩:∃ C,(w.alloc (.cells #[.int .i64 0,.string ⟨#[]⟩,.bool false,.int .i64 0] 36)).alloc (.cells #[.int .i64 1,.string ⟨#[]⟩,.bool false,.int .i64 0] 36)=C:=⟨_,rfl⟩
   rw [zg] at Y X zc K
   have j:=zH zg
   have J:=zH Y
   have y:=zH zc
   have G:=zH X
   obtain⟨q,m,z,hq⟩:∃ q m z,AJ.dec t=(q,m,z):=⟨_,_,_,rfl⟩
   have r:=zH (fun a2 c2 (hs:AM C a2 (n - 1) c2 t)=>Yw true a2 (n - 1) c2 t C hs (by omega))
   unfold DW at r
   rw [hq] at r
   have HQ:=zH hq
   obtain⟨qh,O,P⟩:=q
   unfold pv at r
   simp only at r
   obtain⟨d,zq⟩:∃ d,str qh=d:=⟨_,rfl⟩
   rw [zq] at r
   have ya:=zH zq
   have zx:=zH zp
   clear zg Y zc X zr yf yd yh h zp hq zq yj
   by_cases u:z ≠ 0
   ·have l:=zH (AN.SI HQ.out u)
    have t1:(z != 0)=true:=by simpa using u
    have t2:(z == 0)=false:=by simpa using u
    clear u
    go_in
    go_wp2_with (refine Qg rfl _ _ rfl rfl 1 _ rfl rfl (by rw [j.out];exact K) (by omega) ?_;intro a2 f)
    rw [j.out] at f ⊢
    refine (r.out _ _ f).mono ?_;rintro e w2 ⟨rfl,za⟩
    have zf:=J.out.ext za
    have zd:=y.out.ext za
    obtain⟨⟨u0,u1,u2,u3⟩,Z,lu⟩:=zf.al
    obtain⟨⟨Q,R,T,U⟩,M,N⟩:=zd.al
    have zn:=zf.put d O P
    have zm:=((zd.other (g:=w.heap.size+1) (by omega) 1 (.string d)).other (g:=w.heap.size+1) (by omega) 2 (.bool O)).other (g:=w.heap.size+1) (by omega) 3 (P:Value)
    have i:=(((G.out.trans (za.mono G.out.size)).setCell (p:=((w.heap.size+1) 1)) (Nat.le_succ _) (.string d)).setCell (p:=((w.heap.size+1) 2)) (Nat.le_succ _) (.bool O)).setCell (p:=((w.heap.size+1) 3)) (Nat.le_succ _) (P:Value)
    have zk:=zH zn
    have I:=zH zm
    have H:=zH i
    clear zf zd zn zm i
    go_wp2_with fail
    refine IG rfl rfl (IS I.out _ _ _ _) rfl rfl (CD.of l.out rfl ?_)
    exact DA H.out (zN _)
   obtain rfl:z=0:=by simpa using u
   by_cases hm:m < t.length
   ·have l:=zH (AN.SJ HQ.out hm)
    have t1:(m:Int) < (n:Int) - 1:=by have:=zx.out;omega
    clear hm u
    go_in
    go_wp2_with (refine Qg rfl _ _ rfl rfl 1 _ rfl rfl (by rw [j.out];exact K) (by omega) ?_;intro a2 f)
    rw [j.out] at f ⊢
    refine (r.out _ _ f).mono ?_;rintro e w2 ⟨rfl,za⟩
    have zf:=J.out.ext za
    have zd:=y.out.ext za
    obtain⟨⟨u0,u1,u2,u3⟩,Z,lu⟩:=zf.al
    obtain⟨⟨Q,R,T,U⟩,M,N⟩:=zd.al
    have zn:=zf.put d O P
    have zm:=((zd.other (g:=w.heap.size+1) (by omega) 1 (.string d)).other (g:=w.heap.size+1) (by omega) 2 (.bool O)).other (g:=w.heap.size+1) (by omega) 3 (P:Value)
    have i:=(((G.out.trans (za.mono G.out.size)).setCell (p:=((w.heap.size+1) 1)) (Nat.le_succ _) (.string d)).setCell (p:=((w.heap.size+1) 2)) (Nat.le_succ _) (.bool O)).setCell (p:=((w.heap.size+1) 3)) (Nat.le_succ _) (P:Value)
    have zk:=zH zn
    have I:=zH zm
    have H:=zH i
    clear zf zd zn zm i
    go_wp2_with fail
    refine IG rfl rfl (IS I.out _ _ _ _) rfl rfl (CD.of l.out rfl ?_)
    exact DA H.out (zN _)
   ·have l:=zH (AN.SK HQ.out hm)
    have t1:¬ (m:Int) < (n:Int) - 1:=by have:=zx.out;omega
    have yi:AJ.AB ⟨qh,O,P⟩=true:=(AJ.AY HQ.out).1
    have zt:qh.length<=1000000:=by have:=AJ.CI ((AJ.BY _).1 yi).1;simp only at this;omega
    have A:=zH (fun W=>Ye true ⟨1,⟨qh,O,P⟩⟩ zt W)
    have zu:AN.AB ⟨1,⟨qh,O,P⟩⟩=true:=by unfold AN.AB;rw [if_pos rfl];exact yi
    rw [zu] at A
    unfold uv uc at A
    simp only at A
    rw [ya.out] at A
    clear hm u yi zt zu
    go_in
    go_wp2_with (refine Qg rfl _ _ rfl rfl 1 _ rfl rfl (by rw [j.out];exact K) (by omega) ?_;intro a2 f)
    rw [j.out] at f ⊢
    refine (r.out _ _ f).mono ?_;rintro e w2 ⟨rfl,za⟩
    have zf:=J.out.ext za
    have zd:=y.out.ext za
    obtain⟨⟨u0,u1,u2,u3⟩,Z,lu⟩:=zf.al
    obtain⟨⟨Q,R,T,U⟩,M,N⟩:=zd.al
    have zn:=zf.put d O P
    have zm:=((zd.other (g:=w.heap.size+1) (by omega) 1 (.string d)).other (g:=w.heap.size+1) (by omega) 2 (.bool O)).other (g:=w.heap.size+1) (by omega) 3 (P:Value)
    have i:=(((G.out.trans (za.mono G.out.size)).setCell (p:=((w.heap.size+1) 1)) (Nat.le_succ _) (.string d)).setCell (p:=((w.heap.size+1) 2)) (Nat.le_succ _) (.bool O)).setCell (p:=((w.heap.size+1) 3)) (Nat.le_succ _) (P:Value)
    have zk:=zH zn
    have I:=zH zm
    have H:=zH i
    clear zf zd zn zm i
    obtain⟨W3,zh⟩:∃ W3,((w2.setCell ((w.heap.size+1) 1) (.string d)).setCell ((w.heap.size+1) 2) (.bool O)).setCell ((w.heap.size+1) 3) (P:Value)=W3:=⟨_,rfl⟩
    have zj:=zk.out
    have zi:=I.out
    have i:=H.out
    rw [zh] at zj zi i
    have yc:=zH zh
    have yb:=zH zj
    have zy:=zH zi
    have zl:=zH i
    clear zj zi i zh
    go_wp2_with fail
    rw [yc.out]
    refine (A.out _).mono ?_;rintro e w4 ⟨rfl,zb⟩
    have zo:=yb.out.ext zb
    have ze:=zy.out.ext zb
    clear u0 u1 u2 u3 Q R T U Z M lu N
    obtain⟨⟨u0,u1,u2,u3⟩,Z,lu⟩:=zo.al
    obtain⟨⟨Q,R,T,U⟩,M,N⟩:=ze.al
    have zz:=zH ze
    have zw:=zH (zl.out.trans (Below.mono zb zl.out.size))
    clear zo ze
    go_wp2_with fail
    refine IG rfl rfl (IS zz.out _ _ _ _) rfl rfl (CD.of l.out (by unfold uv uc;simp only;rw [ya.out];rfl) ?_)
    exact DA zw.out (zN _)
  by_cases yg:x=2
  ·subst yg
   obtain rfl:2=F:=zv
   simp only [show ((2:Nat):Int)=2 from rfl] at c0 Y X zr zc K
   obtain⟨C,zg⟩:∃ C,(w.alloc (.cells #[.int .i64 0,.string ⟨#[]⟩,.bool false,.int .i64 0] 36)).alloc (.cells #[.int .i64 2,.string ⟨#[]⟩,.bool false,.int .i64 0] 36)=C:=⟨_,rfl⟩
   rw [zg] at Y X zc K
   have j:=zH zg
   have J:=zH Y
   have y:=zH zc
   have G:=zH X
   obtain⟨q,m,z,hq⟩:∃ q m z,Wi.CB t=(q,m,z):=⟨_,_,_,rfl⟩
   have r:=zH (fun a2 c2 (hs:AM C a2 (n - 1) c2 t)=>Nb true a2 (n - 1) c2 t C hs (by omega))
   rw [hq] at r
   have HQ:=zH hq
   simp only at r
   obtain⟨d,zq⟩:∃ d,str q=d:=⟨_,rfl⟩
   rw [zq] at r
   have ya:=zH zq
   have zx:=zH zp
   clear zg Y zc X zr yf yd yh h zp hq zq yj ye
   by_cases u:z ≠ 0
   ·have l:=zH (AN.SL HQ.out u)
    have t1:(z != 0)=true:=by simpa using u
    have t2:(z == 0)=false:=by simpa using u
    clear u
    go_in
    go_wp2_with (refine Qg rfl _ _ rfl rfl 1 _ rfl rfl (by rw [j.out];exact K) (by omega) ?_;intro a2 f)
    rw [j.out] at f ⊢
    refine (r.out _ _ f).mono ?_;rintro e w2 ⟨rfl,rfl⟩
    obtain⟨⟨u0,u1,u2,u3⟩,Z,lu⟩:=J.out.al
    obtain⟨⟨Q,R,T,U⟩,M,N⟩:=y.out.al
    have zk:=zH (J.out.VA d)
    have I:=zH (y.out.other (g:=w.heap.size+1) (by omega) 1 (.string d))
    have H:=zH (G.out.setCell (p:=((w.heap.size+1) 1)) (Nat.le_succ _) (.string d))
    go_wp2_with fail
    refine IG rfl rfl (IS I.out _ _ _ _) rfl rfl (CD.of l.out rfl ?_)
    exact DA H.out (zN _)
   obtain rfl:z=0:=by simpa using u
   by_cases hm:m < t.length
   ·have l:=zH (AN.SM HQ.out hm)
    have t1:(m:Int) < (n:Int) - 1:=by have:=zx.out;omega
    clear hm u
    go_in
    go_wp2_with (refine Qg rfl _ _ rfl rfl 1 _ rfl rfl (by rw [j.out];exact K) (by omega) ?_;intro a2 f)
    rw [j.out] at f ⊢
    refine (r.out _ _ f).mono ?_;rintro e w2 ⟨rfl,rfl⟩
    obtain⟨⟨u0,u1,u2,u3⟩,Z,lu⟩:=J.out.al
    obtain⟨⟨Q,R,T,U⟩,M,N⟩:=y.out.al
    have zk:=zH (J.out.VA d)
    have I:=zH (y.out.other (g:=w.heap.size+1) (by omega) 1 (.string d))
    have H:=zH (G.out.setCell (p:=((w.heap.size+1) 1)) (Nat.le_succ _) (.string d))
    go_wp2_with fail
    refine IG rfl rfl (IS I.out _ _ _ _) rfl rfl (CD.of l.out rfl ?_)
    exact DA H.out (zN _)
   have zt:q.length<=1000000:=by have:=(Wi.FW HQ.out).2.2.1;omega
   have A:=zH (fun W=>Ye true ⟨2,⟨q,false,0⟩⟩ zt W)
   have zu:AN.AB ⟨2,⟨q,false,0⟩⟩=Ho.name q:=by unfold AN.AB;simp
   rw [zu] at A
   unfold uv uc at A
   simp only at A
   rw [ya.out] at A
   have t1:¬ (m:Int) < (n:Int) - 1:=by have:=zx.out;omega
   cases zs:Ho.name q with
  |false =>
    have l:=zH (AN.SN HQ.out hm zs)
    rw [zs] at A
    clear hm u zt zu zs
    go_in
    go_wp2_with (refine Qg rfl _ _ rfl rfl 1 _ rfl rfl (by rw [j.out];exact K) (by omega) ?_;intro a2 f)
    rw [j.out] at f ⊢
    refine (r.out _ _ f).mono ?_;rintro e w2 ⟨rfl,rfl⟩
    obtain⟨⟨u0,u1,u2,u3⟩,Z,lu⟩:=J.out.al
    obtain⟨⟨Q,R,T,U⟩,M,N⟩:=y.out.al
    have zk:=zH (J.out.VA d)
    have I:=zH (y.out.other (g:=w.heap.size+1) (by omega) 1 (.string d))
    have H:=zH (G.out.setCell (p:=((w.heap.size+1) 1)) (Nat.le_succ _) (.string d))
    obtain⟨W3,zh⟩:∃ W3,C.setCell ((w.heap.size+1) 1) (.string d)=W3:=⟨_,rfl⟩
    have zj:=zk.out
    have zi:=I.out
    have i:=H.out
    rw [zh] at zj zi i
    have yc:=zH zh
    have yb:=zH zj
    have zy:=zH zi
    have zl:=zH i
    clear zj zi i zh
    go_wp2_with fail
    rw [yc.out]
    refine (A.out _).mono ?_;rintro e w4 ⟨rfl,zb⟩
    have zo:=yb.out.ext zb
    have ze:=zy.out.ext zb
    clear u0 u1 u2 u3 Q R T U Z M lu N
    obtain⟨⟨u0,u1,u2,u3⟩,Z,lu⟩:=zo.al
    obtain⟨⟨Q,R,T,U⟩,M,N⟩:=ze.al
    have zz:=zH ze
    have zw:=zH (zl.out.trans (Below.mono zb zl.out.size))
    clear zo ze
    go_wp2_with fail
    refine IG rfl rfl (IS zz.out _ _ _ _) rfl rfl (CD.of l.out rfl ?_)
    exact DA zw.out (zN _)
  |true =>
    have l:=zH (AN.SO HQ.out hm zs)
    rw [zs] at A
    clear hm u zt zu zs
    go_in
    go_wp2_with (refine Qg rfl _ _ rfl rfl 1 _ rfl rfl (by rw [j.out];exact K) (by omega) ?_;intro a2 f)
    rw [j.out] at f ⊢
    refine (r.out _ _ f).mono ?_;rintro e w2 ⟨rfl,rfl⟩
    obtain⟨⟨u0,u1,u2,u3⟩,Z,lu⟩:=J.out.al
    obtain⟨⟨Q,R,T,U⟩,M,N⟩:=y.out.al
    have zk:=zH (J.out.VA d)
    have I:=zH (y.out.other (g:=w.heap.size+1) (by omega) 1 (.string d))
    have H:=zH (G.out.setCell (p:=((w.heap.size+1) 1)) (Nat.le_succ _) (.string d))
    obtain⟨W3,zh⟩:∃ W3,C.setCell ((w.heap.size+1) 1) (.string d)=W3:=⟨_,rfl⟩
    have zj:=zk.out
    have zi:=I.out
    have i:=H.out
    rw [zh] at zj zi i
    have yc:=zH zh
    have yb:=zH zj
    have zy:=zH zi
    have zl:=zH i
    clear zj zi i zh
    go_wp2_with fail
    rw [yc.out]
    refine (A.out _).mono ?_;rintro e w4 ⟨rfl,zb⟩
    have zo:=yb.out.ext zb
    have ze:=zy.out.ext zb
    clear u0 u1 u2 u3 Q R T U Z M lu N
    obtain⟨⟨u0,u1,u2,u3⟩,Z,lu⟩:=zo.al
    obtain⟨⟨Q,R,T,U⟩,M,N⟩:=ze.al
    have zz:=zH ze
    have zw:=zH (zl.out.trans (Below.mono zb zl.out.size))
    clear zo ze
    go_wp2_with fail
    refine IG rfl rfl (IS zz.out _ _ _ _) rfl rfl (CD.of l.out (by unfold uv uc;simp only;rw [ya.out];rfl) ?_)
    exact DA zw.out (zN _)
  have yk:F ≠ 1:=fun e=>ye (UInt8.toNat_inj.1 (zv.trans e))
  have yl:F ≠ 2:=fun e=>yg (UInt8.toNat_inj.1 (zv.trans e))
  obtain⟨C,zg⟩:∃ C,(w.alloc (.cells #[.int .i64 0,.string ⟨#[]⟩,.bool false,.int .i64 0] 36)).alloc (.cells #[F,.string ⟨#[]⟩,.bool false,.int .i64 0] 36)=C:=⟨_,rfl⟩
  rw [zg] at Y X zc K
  have j:=zH zg
  have J:=zH Y
  have y:=zH zc
  have G:=zH X
  have l:=zH (AN.VX (t:=t) ye yg)
  have t1:((F:Int) == 1)=false:=beq_eq_false_iff_ne.2 (by omega)
  have t2:((F:Int) == 2)=false:=beq_eq_false_iff_ne.2 (by omega)
  have wx:IntKind.i64.wrap (F:Int)=(F:Int):=by rw [IntKind.wrap_i64];omega
  clear zg Y zc X zr yf yd yh h zp ye yg yk yl zv K
  obtain⟨⟨Q,R,T,U⟩,M,N⟩:=y.out.al
  go_in
  go_wp2_with fail
  refine bodyPost_ret (v:=.tuple #[.agg #[.int .i64 0,.string ⟨#[]⟩,.bool false,.int .i64 0],.int .i64 6]) (by simp [results,Tryz.results115,go_sem]) rfl (CD.of l.out rfl ?_)
  rw [j.out]
  exact G.out
end
section
open Go.RowKit
theorem Cl (a:Option Addr) (n c:Nat) (b:List UInt8) (w:World) (h:AM w a n c b) (hn:n<=1000000) :
 Calls Tryz.prog 84 #[.slice a n c] w (CD b w):=by
 have zd:=h.len
 cases b with
|nil =>
  obtain rfl:n=0:=zd.symm
  have f:=zH AN.PW
  clear h zd
  go_in
  go_wp2_with fail
  refine bodyPost_ret (v:=.tuple #[.agg #[.int .i64 0,.string ⟨#[]⟩,.bool false,.int .i64 0],.int .i64 5]) (by simp [results,Tryz.results84,go_sem]) rfl (CD.of f.out rfl ?_)
  exact (Below.refl _ _).alloc (zN _) _
|cons x t =>
  simp only [List.length_cons] at zd
  obtain⟨bb,o,rfl,zr,-,c0⟩:=h.at (show 0 < n by omega)
  simp only [List.getElem?_cons_zero,Option.getD_some,Nat.add_zero] at c0
  have n1:(0:Int) < (n:Int):=by omega
  have n2:(1:Int)<=(n:Int):=by omega
  have n3:((n:Int) == 0)=false:=beq_eq_false_iff_ne.2 (by omega)
  have zj:=BV.new w 0 ⟨#[]⟩ false 0
  have zb:=(Below.refl w.heap.size w).alloc (zN _) (.cells #[.int .i64 0,.string ⟨#[]⟩,.bool false,.int .i64 0] 36)
  have zm:(w.alloc (.cells #[.int .i64 0,.string ⟨#[]⟩,.bool false,.int .i64 0] 36)).heap.size=w.heap.size+1:=by simp
  have zl:x.toNat < 256:=x.toNat_lt
  obtain⟨M,U⟩:∃ M:Nat,x.toNat=M:=⟨_,rfl⟩
  rw [U] at c0 zl
  have I:=h.ext zb
  obtain⟨X,zk⟩:∃ X,w.alloc (.cells #[.int .i64 0,.string ⟨#[]⟩,.bool false,.int .i64 0] 36)=X:=⟨_,rfl⟩
  rw [zk] at I zj zb zm
  have zn:=(zb.cell (p:=(bb o)) zr).trans c0
  have j:=zH zk
  have l:=zH zj
  have k:=zH zb
  have zs:=zH zm
  have u:=zH zd
  clear zk zj zb zm h zd
  by_cases ze:x=1
  ·subst ze
   obtain rfl:1=M:=U
   simp only [show ((1:Nat):Int)=1 from rfl] at c0 zn
   obtain⟨q,m,z,P⟩:∃ q m z,AJ.dec t=(q,m,z):=⟨_,_,_,rfl⟩
   have g:=zH (fun a2 c2 (hs:AM X a2 (n - 1) c2 t)=>Yw false a2 (n - 1) c2 t X hs (by omega))
   unfold DW at g
   rw [P] at g
   have y:=zH P
   obtain⟨qh,qs,qx⟩:=q
   unfold pv at g
   simp only at g
   obtain⟨sq,O⟩:∃ sq,str qh=sq:=⟨_,rfl⟩
   rw [O] at g
   have zf:=zH O
   clear P O zl
   by_cases i:z ≠ 0
   ·have f:=zH (AN.SI y.out i)
    have Y:(z != 0)=true:=by simpa using i
    have Z:(z == 0)=false:=by simpa using i
    clear i
    go_in
    go_wp2_with (refine Qg rfl _ _ rfl rfl 1 _ rfl rfl (by rw [j.out];exact I) (by omega) ?_;intro a2 d)
    rw [j.out] at d ⊢
    refine (g.out _ _ d).mono ?_;rintro e w2 ⟨rfl,J⟩
    have r:=l.out.ext J
    have K:=k.out.trans (J.mono k.out.size)
    obtain⟨⟨C,F,G,H⟩,A,B⟩:=r.al
    have za:=zH r
    have Q:=zH K
    clear r K
    go_wp2_with fail
    refine IG rfl rfl (TQ za.out _ _ _ _ _) rfl rfl (CD.of f.out rfl ?_)
    exact (DA Q.out (zN _)).alloc (by simpa using Q.out.size) _
   obtain rfl:z=0:=by simpa using i
   have R:m<=t.length:=(AJ.AY y.out).2.2
   have g0:(0:Int)<=(m:Int):=by omega
   have g1:(m:Int)<=1000000:=by have:=u.out;omega
   by_cases s:m < t.length
   case' pos=>
    have f:=zH (AN.SJ y.out s)
    have Y:((m:Int)+1 != (n:Int))=true:=bne_iff_ne.2 (by have:=u.out;omega)
    have Z:((m:Int)+1 == (n:Int))=false:=beq_eq_false_iff_ne.2 (by have:=u.out;omega)
    clear s i R
    go_in
    go_wp2_with (refine Qg rfl _ _ rfl rfl 1 _ rfl rfl (by rw [j.out];exact I) (by omega) ?_;intro a2 d)
    rw [j.out] at d ⊢
    refine (g.out _ _ d).mono ?_;rintro e w2 ⟨rfl,J⟩
    have r:=l.out.ext J
    have K:=k.out.trans (J.mono k.out.size)
    obtain⟨⟨C,F,G,H⟩,A,B⟩:=r.al
    have za:=zH r
    have Q:=zH K
    clear r K
    go_wp2_with fail
    refine IG rfl rfl (TQ za.out _ _ _ _ _) rfl rfl (CD.of f.out rfl ?_)
   case' neg=>
    have f:=zH (AN.SK y.out s)
    have Y:((m:Int)+1 != (n:Int))=false:=by
     have:=u.out
     rw [show (m:Int)+1=(n:Int) by omega];simp
    have Z:((m:Int)+1 == (n:Int))=true:=beq_iff_eq.2 (by have:=u.out;omega)
    clear s i R
    go_in
    go_wp2_with (refine Qg rfl _ _ rfl rfl 1 _ rfl rfl (by rw [j.out];exact I) (by omega) ?_;intro a2 d)
    rw [j.out] at d ⊢
    refine (g.out _ _ d).mono ?_;rintro e w2 ⟨rfl,J⟩
    have r:=l.out.ext J
    have K:=k.out.trans (J.mono k.out.size)
    obtain⟨⟨C,F,G,H⟩,A,B⟩:=r.al
    have za:=zH r
    have Q:=zH K
    clear r K
    go_wp2_with fail
    refine IG rfl rfl (TQ za.out _ _ _ _ _) rfl rfl (CD.of f.out (by unfold uv uc;simp only;rw [zf.out];rfl) ?_)
   all_goals
    exact (DA Q.out (zN _)).alloc (by simpa using Q.out.size) _
  by_cases zg:x=2
  ·subst zg
   obtain rfl:2=M:=U
   simp only [show ((2:Nat):Int)=2 from rfl] at c0 zn
   obtain⟨q,m,z,P⟩:∃ q m z,Wi.CB t=(q,m,z):=⟨_,_,_,rfl⟩
   have g:=zH (fun a2 c2 (hs:AM X a2 (n - 1) c2 t)=>Nb false a2 (n - 1) c2 t X hs (by omega))
   rw [P] at g
   have y:=zH P
   simp only at g
   obtain⟨sq,O⟩:∃ sq,str q=sq:=⟨_,rfl⟩
   rw [O] at g
   have zf:=zH O
   clear P O zl ze
   by_cases i:z ≠ 0
   ·have f:=zH (AN.SL y.out i)
    have Y:(z != 0)=true:=by simpa using i
    have Z:(z == 0)=false:=by simpa using i
    clear i
    go_in
    go_wp2_with (refine Qg rfl _ _ rfl rfl 1 _ rfl rfl (by rw [j.out];exact I) (by omega) ?_;intro a2 d)
    rw [j.out] at d ⊢
    refine (g.out _ _ d).mono ?_;rintro e w2 ⟨rfl,rfl⟩
    obtain⟨⟨C,F,G,H⟩,A,B⟩:=l.out.al
    go_wp2_with fail
    refine IG rfl rfl (IS l.out _ _ _ _) rfl rfl (CD.of f.out rfl ?_)
    exact DA k.out (zN _)
   obtain rfl:z=0:=by simpa using i
   obtain⟨-,R,zo,-,-⟩:=Wi.FW y.out
   have g0:(0:Int)<=(m:Int):=by omega
   have g1:(m:Int)<=1000000:=by have:=u.out;omega
   by_cases s:m < t.length
   ·have f:=zH (AN.SM y.out s)
    have Y:((m:Int)+1 != (n:Int))=true:=bne_iff_ne.2 (by have:=u.out;omega)
    have Z:((m:Int)+1 == (n:Int))=false:=beq_eq_false_iff_ne.2 (by have:=u.out;omega)
    clear s i R
    go_in
    go_wp2_with (refine Qg rfl _ _ rfl rfl 1 _ rfl rfl (by rw [j.out];exact I) (by omega) ?_;intro a2 d)
    rw [j.out] at d ⊢
    refine (g.out _ _ d).mono ?_;rintro e w2 ⟨rfl,rfl⟩
    obtain⟨⟨C,F,G,H⟩,A,B⟩:=l.out.al
    go_wp2_with fail
    refine IG rfl rfl (IS l.out _ _ _ _) rfl rfl (CD.of f.out rfl ?_)
    exact DA k.out (zN _)
   have Y:((m:Int)+1 != (n:Int))=false:=by
    have:=u.out
    rw [show (m:Int)+1=(n:Int) by omega];simp
   have Z:((m:Int)+1 == (n:Int))=true:=beq_iff_eq.2 (by have:=u.out;omega)
   have HV:=zH (fun W=>Xc q (by omega) W)
   rw [zf.out] at HV
   cases T:Ho.name q with
  |false =>
    have f:=zH (AN.SN y.out s T)
    rw [T] at HV
    clear s i R zo T
    go_in
    go_wp2_with (refine Qg rfl _ _ rfl rfl 1 _ rfl rfl (by rw [j.out];exact I) (by omega) ?_;intro a2 d)
    rw [j.out] at d ⊢
    refine (g.out _ _ d).mono ?_;rintro e w2 ⟨rfl,rfl⟩
    obtain⟨⟨C,F,G,H⟩,A,B⟩:=l.out.al
    go_wp2_with fail
    refine (HV.out _).mono ?_;rintro e w4 ⟨rfl,zc⟩
    have N:=l.out.ext zc
    clear C F G H A B
    obtain⟨⟨C,F,G,H⟩,A,B⟩:=N.al
    have zi:=zH N
    have zh:=zH (k.out.trans (Below.mono zc k.out.size))
    clear N
    go_wp2_with fail
    refine IG rfl rfl (IS zi.out _ _ _ _) rfl rfl (CD.of f.out rfl ?_)
    exact DA zh.out (zN _)
  |true =>
    have f:=zH (AN.SO y.out s T)
    rw [T] at HV
    clear s i R zo T
    go_in
    go_wp2_with (refine Qg rfl _ _ rfl rfl 1 _ rfl rfl (by rw [j.out];exact I) (by omega) ?_;intro a2 d)
    rw [j.out] at d ⊢
    refine (g.out _ _ d).mono ?_;rintro e w2 ⟨rfl,rfl⟩
    obtain⟨⟨C,F,G,H⟩,A,B⟩:=l.out.al
    go_wp2_with fail
    refine (HV.out _).mono ?_;rintro e w4 ⟨rfl,zc⟩
    have N:=l.out.ext zc
    clear C F G H A B
    obtain⟨⟨C,F,G,H⟩,A,B⟩:=N.al
    have zi:=zH N
    have zh:=zH (k.out.trans (Below.mono zc k.out.size))
    clear N
    go_wp2_with fail
    refine IG rfl rfl (IS zi.out _ _ _ _) rfl rfl (CD.of f.out (by unfold uv uc;simp only;rw [zf.out];rfl) ?_)
    exact DA zh.out (zN _)
  have zp:M ≠ 1:=fun e=>ze (UInt8.toNat_inj.1 (U.trans e))
  have zq:M ≠ 2:=fun e=>zg (UInt8.toNat_inj.1 (U.trans e))
  have f:=zH (AN.VX (t:=t) ze zg)
  have Y:((M:Int) == 1)=false:=beq_eq_false_iff_ne.2 (by omega)
  have Z:((M:Int) == 2)=false:=beq_eq_false_iff_ne.2 (by omega)
  clear ze zg zp zq U I
  go_in
  go_wp2_with fail
  refine bodyPost_ret (v:=.tuple #[.agg #[.int .i64 0,.string ⟨#[]⟩,.bool false,.int .i64 0],.int .i64 6]) (by simp [results,Tryz.results84,go_sem]) rfl (CD.of f.out rfl ?_)
  rw [j.out]
  exact k.out
end
end Go.Proofs.YtmanejniepghlaaGreatDoor
