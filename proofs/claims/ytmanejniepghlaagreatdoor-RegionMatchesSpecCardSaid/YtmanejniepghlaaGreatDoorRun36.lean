import Derived.Test.YtmanejniepghlaaGreatDoorRun35
import Derived.IntWalk
import Derived.Laws.ResultCell
import Derived.RegionTactic
set_option maxHeartbeats 2000000
set_option maxRecDepth 100000
namespace Go.Proofs.YtmanejniepghlaaGreatDoor
open _root_.Go.Proofs.Tryz
section
open Go.RowKit
variable {w:World} {H:Nat} {s:Su.S}
theorem Wk (s:Su.S) (b:Su.AB s=false) (w:World) :
 Calls prog 47 #[supv s] w fun e f=>e=.returned (.tuple #[.slice none 0 0,.int .i64 1])/\Below w.heap.size w f:=by
 have a:=Vi true s
 rw [b] at a
 have d:=zH a;clear a b
 go_in
 unfold supv at *
 go_wp2_with (go_at_call 104;refine (d.out _).mono ?_;rintro e g ⟨rfl,c⟩)
 go_ret2
 exact⟨rfl,((Below.refl _ _).alloc (zN _) _).trans (c.mono (by simp))⟩
theorem Ka (s:Su.S) (b:Su.AB s=false) (w:World) :
 Calls prog 93 #[supv s] w fun e f=>e=.returned (.tuple #[.slice none 0 0,.int .i64 1])/\Below w.heap.size w f:=by
 have a:=Vi false s
 rw [b] at a
 have d:=zH a;clear a b
 go_in
 unfold supv at *
 go_wp2_with (go_at_call 145;refine (d.out _).mono ?_;rintro e g ⟨rfl,c⟩)
 go_ret2
 exact⟨rfl,((Below.refl _ _).alloc (zN _) _).trans (c.mono (by simp))⟩
def UG (s:Su.S) (w:World) (e:Ending) (w':World):Prop :=
 ∃ a n c,e=.returned (.tuple #[.slice a n c,.int .i64 (if Su.AB s then 0 else 1)])/\AM w' a n c (if Su.AB s then Su.enc s else [])/\Below w.heap.size w w'/\(Su.AB s=true->∃ K,a=.some (K:Nat))
theorem Cs (s:Su.S) (k:s.fits) (w:World):Calls prog 47 #[supv s] w (UG s w):=by
 by_cases a:Su.AB s=true
 ·obtain⟨gen,act,AA,len,sum,rfl,d,f,g,i,j⟩:=Su.AW a k
  refine (Hh gen act AA len sum d f g i j a w).mono ?_
  rintro e m ⟨K,rfl,hr,n,b⟩
  refine⟨.some K,64,64,by rw [if_pos a],?_,b,fun _=>⟨K,rfl⟩⟩
  rw [if_pos a]
  have o:=Su.CK ⟨gen,act,AA,len,sum⟩
  have:=hr.slb 0 64 64 (by omega) (zN _) (by decide)
  rw [List.drop_zero,List.take_of_length_le (by omega)] at this
  exact this
 ·have c:Su.AB s=false:=by simpa using a
  refine (Wk s c w).mono ?_
  rintro e m ⟨rfl,b⟩
  refine⟨none,0,0,by rw [if_neg a],?_,b,fun h=>absurd h a⟩
  rw [if_neg a]
  exact⟨rfl,zN _,by unfold maxLen;omega,fun _=>⟨rfl,rfl⟩,fun x l=>by cases l⟩
theorem Gu (s:Su.S) (o:s.fits) (w:World):Calls prog 93 #[supv s] w (fun e d=>∃ a n c,e=.returned (.tuple #[.slice a n c,.int .i64 (if Su.AB s then 0 else 1)])/\AM d a n c (if Su.AB s then Su.enc s else [])/\Below w.heap.size w d):=by
 by_cases b:Su.AB s=true
 ·obtain⟨gen,act,AA,len,sum,rfl,i,j,k,l,m⟩:=Su.AW b o
  refine (Zw gen act AA len sum i j k l m b w).mono ?_
  rintro e d ⟨v,rfl,hr,f⟩
  obtain⟨a,c,rfl,g,-⟩:=hr.sl
  exact⟨a,_,c,by rw [if_pos b],by rw [if_pos b];exact g,f⟩
 ·have h:Su.AB s=false:=by simpa using b
  refine (Ka s h w).mono ?_
  rintro e d ⟨rfl,f⟩
  refine⟨none,0,0,by rw [if_neg b],?_,f⟩
  rw [if_neg b]
  exact⟨rfl,zN _,by unfold maxLen;omega,fun _=>⟨rfl,rfl⟩,fun x p=>by cases p⟩
def scells (s:Su.S):Array Value:=#[.int .u64 s.gen,s.act,.int .u32 s.AA,s.len,.int .u32 s.sum]
theorem Qv (s:Su.S):(prog.info? 94).map (·.size)=some (scells s).size:=by kernel_rfl
theorem Jb (s:Su.S):(scells s).all (·.oneCell')=true:=by
 rw [Array.all_eq_true_iff_forall_mem]
 intro x a
 simp only [scells,List.mem_toArray,List.mem_cons,List.not_mem_nil,or_false] at a
 rcases a with rfl|rfl|rfl|rfl|rfl <;> rfl
theorem AF.setRow (h:AF w H s) (a:Su.S):AF (w.setRow H (scells a)) H a:=setRow_heap w H _ _ _ _ h
theorem Jq {fn:Func} {p u:Tmp} (h:fn.results=#[.cell p 94,.tmp u]) (tmps:Array Value) (a:AF w H s) (c:tmps.getD p undef=.pointer H) :
 (results fn tmps).run prog w=.ok (.tuple #[supv s,tmps.getD u undef]) w:=by
 have b:=run_loadVar_row (P:=prog) w H _ 94 (scells s) _ _ a underlying94 rfl (Qv s)
 rw [results_cell_tmp h,c]
 simp [asAddr,Result.andThen,b]
 rfl
def LY (l:List UInt8) (w:World) (e:Ending) (w':World):Prop :=
 e=.returned (.tuple #[supv (Su.dec l).1,.int .i64 (Su.dec l).2])/\Below w.heap.size w w'
theorem Uy (a:Option Addr) (n c:Nat) (l:List UInt8) (w:World) (h:AM w a n c l):Calls prog 157 #[.slice a n c] w (LY l w):=by
 obtain rfl:=h.len
 by_cases B:l.length=64
 ·have t0:((l.length:Int) != 64)=false:=by rw [B];rfl
  obtain⟨g,o,rfl,hg,_,_⟩:=h.at (show 0 < l.length by omega)
  have yi:=h.2.1
  have ym:c<=9223372036854775807:=by have:=h.2.2.1;unfold maxLen at this;omega
  rw [B] at yi
  have i1:(60:Int)<=(l.length:Int):=by omega
  have i2:(l.length:Int)<=(c:Int):=by omega
  have i3:(60:Int)<=(c:Int):=by omega
  have i4:l.length<=64:=by omega
  have yv:¬ c=60:=by omega
  have n6:¬ c=6:=by omega
  have ys:¬ c=14:=by omega
  have yt:¬ c=18:=by omega
  have yu:¬ c=22:=by omega
  have i5:64<=l.length:=by omega
  have zm:=zH B;clear B
  go_in
  go_wp2
  obtain⟨i,T⟩:∃ i,i=w.alloc (.cells #[.int .u64 0,.int .i64 0,.int .u32 0,.int .i64 0,.int .u32 0] 94):=⟨_,rfl⟩
  have U:Below w.heap.size w i:=by rw [T];exact (Below.refl _ _).alloc (zN _) _
  have hZ:AF i w.heap.size Su.zero:=by rw [T];exact Qb _ _ _ rfl
  rw [<-T]
  have X:=h.ext U
  clear T h hg
  have zh:=X.drop (show 60<=l.length by omega)
  have zk:=X.take (show 60<=l.length by omega)
  obtain⟨x,N⟩:∃ x,x=Su.unle ((l.drop 60).take 4):=⟨_,rfl⟩
  have K:x=AX.BP (l.drop 60):=by
   rw [N,List.take_of_length_le (by simp;omega),Su.EZ _ (by simp;omega)]
  have yo:x < 4294967296:=by
   have:=Su.CV ((l.drop 60).take 4)
   rw [<-N] at this
   exact Nat.lt_of_lt_of_le this (Nat.le_trans (Nat.pow_le_pow_right (n:=256) (by decide) (List.length_take_le _ _)) (by decide))
  have wx:IntKind.u32.wrap (x:Int)=(x:Int):=by simp [IntKind.wrap,IntKind.bits,IntKind.signed];omega
  have zg:=Uz (g (o+60)) (l.length - 60) (c - 60) 4 (l.drop 60)
  rw [<-N] at zg
  have ze:=zH zg
  clear zg
  have HX:=zH N
  clear N
  by_cases J:AX.BP (l.drop 60)=AX.update 0 (l.take 60)
  ·have t1:((x:Int) != ((AX.update 0 (l.take 60):Nat):Int))=false:=by rw [K,J];simp
   have yc:=zH J;have yl:=zH K
   clear J K
   go_region_held3 (fun d=>AP i d) (first|assumption|exact AP.drew (AP.refl _)|exact AP.step (by assumption) (by assumption)) (first|(go_at_call 184;go_must (refine (ze.out _ (zh.ext' (by assumption)) (by omega) (by omega) _ rfl).mono ?_);rintro e A ⟨rfl,rfl⟩)|(go_at_call 48;go_must (refine (Xr _ _ _ _ _ (zk.ext' (by assumption))).mono ?_);rintro e A ⟨rfl,rfl⟩))
   go_wp2
   have O:=U.drew
   have C:=hZ.drew
   have G:=X.ext' (AP.drew (AP.refl i))
   clear ze HX wx zh zk X hZ U t0 t1
   generalize i.drew=t at *
   have yb:=G.drop (show 6<=l.length by omega)
   have zd:=Uz (g (o+6)) (l.length - 6) (c - 6) 8 (l.drop 6)
   obtain⟨I,W⟩:∃ x,x=Su.field l 6 8:=⟨_,rfl⟩
   have yg:I < 256 ^ 8:=by
    rw [W];exact Nat.lt_of_lt_of_le (Su.CV _) (Nat.pow_le_pow_right (n:=256) (by decide) (List.length_take_le _ _))
   rw [show Su.unle ((l.drop 6).take 8)=I from W.symm] at zd
   have zy:=zH zd;have yh:=zH W
   clear zd W
   have zv:=G.drop (show 14<=l.length by omega)
   have za:=Uz (g (o+14)) (l.length - 14) (c - 14) 4 (l.drop 14)
   obtain⟨k,P⟩:∃ x,x=Su.field l 14 4:=⟨_,rfl⟩
   have zz:k < 256 ^ 4:=by
    rw [P];exact Nat.lt_of_lt_of_le (Su.CV _) (Nat.pow_le_pow_right (n:=256) (by decide) (List.length_take_le _ _))
   rw [show Su.unle ((l.drop 14).take 4)=k from P.symm] at za
   have zs:=zH za;have yd:=zH P
   clear za P
   have zw:=G.drop (show 18<=l.length by omega)
   have zb:=Uz (g (o+18)) (l.length - 18) (c - 18) 4 (l.drop 18)
   obtain⟨m,Q⟩:∃ x,x=Su.field l 18 4:=⟨_,rfl⟩
   have yk:m < 256 ^ 4:=by
    rw [Q];exact Nat.lt_of_lt_of_le (Su.CV _) (Nat.pow_le_pow_right (n:=256) (by decide) (List.length_take_le _ _))
   rw [show Su.unle ((l.drop 18).take 4)=m from Q.symm] at zb
   have zt:=zH zb;have ye:=zH Q
   clear zb Q
   have zx:=G.drop (show 22<=l.length by omega)
   have zc:=Uz (g (o+22)) (l.length - 22) (c - 22) 4 (l.drop 22)
   obtain⟨r,R⟩:∃ x,x=Su.field l 22 4:=⟨_,rfl⟩
   have ya:r < 256 ^ 4:=by
    rw [R];exact Nat.lt_of_lt_of_le (Su.CV _) (Nat.pow_le_pow_right (n:=256) (by decide) (List.length_take_le _ _))
   rw [show Su.unle ((l.drop 22).take 4)=r from R.symm] at zc
   have zu:=zH zc;have yf:=zH R
   clear zc R
   have yw:IntKind.u32.wrap (k:Int)=(k:Int):=by simp [IntKind.wrap,IntKind.bits,IntKind.signed];omega
   have yx:IntKind.i64.wrap (m:Int)=(m:Int):=IntWalk.i64_in _ (by omega)
   have yy:IntKind.u32.wrap (r:Int)=(r:Int):=by simp [IntKind.wrap,IntKind.bits,IntKind.signed];omega
   obtain⟨_,_,M,yj,k5,zo⟩:=G.at (show 5 < l.length by omega)
   injection M with M;injection M with M e6;subst M;subst e6
   obtain⟨q,hq⟩:∃ q,q=l[5]?.getD 0:=⟨_,rfl⟩
   rw [<-hq] at zo
   have HQ:=zH hq
   have yn:q.toNat < 256:=q.toNat_lt
   have wq:IntKind.i64.wrap (q.toNat:Int)=(q.toNat:Int):=IntWalk.i64_in _ (by omega)
   clear hq k5
   have j6:(6:Int)<=(l.length:Int):=by omega
   have yp:(14:Int)<=(l.length:Int):=by omega
   have yq:(18:Int)<=(l.length:Int):=by omega
   have yr:(22:Int)<=(l.length:Int):=by omega
   have j5:(5:Int) < (l.length:Int):=by omega
   have KS:∀ d,AP t d->AP t d/\d.cell? (g (o+5))=some (.int .u8 (q.toNat:Int)):=fun d j=>⟨j,(Below.cell j (p:=(g (o+5))) yj).trans zo⟩
   have zi:=zH KS
   clear KS
   go_region_held3 (fun d=>AP t d/\d.cell? (g (o+5))=some (.int .u8 (q.toNat:Int))) (first|assumption|exact zi.out _ (AP.drew (AP.refl _))|exact zi.out _ (And.left (by assumption))|exact zi.out _ (AP.drew (AP.alloc (AP.refl _) _))) (first|(go_at_call 184;((with_reducible refine (zy.out _ (yb.ext' (And.left (by assumption))) (by omega) (by omega) 8 rfl).mono ?_));rintro e A ⟨rfl,rfl⟩)|(go_at_call 184;((with_reducible refine (zs.out _ (zv.ext' (And.left (by assumption))) (by omega) (by omega) 4 rfl).mono ?_));rintro e A ⟨rfl,rfl⟩)|(go_at_call 184;((with_reducible refine (zt.out _ (zw.ext' (And.left (by assumption))) (by omega) (by omega) 4 rfl).mono ?_));rintro e A ⟨rfl,rfl⟩)|(go_at_call 184;((with_reducible refine (zu.out _ (zx.ext' (And.left (by assumption))) (by omega) (by omega) 4 rfl).mono ?_));rintro e A ⟨rfl,rfl⟩))
   all_goals
    go_wp2_with fail
    refine (Cs ⟨I,q.toNat,k,m,r⟩ ⟨yg,zz,ya⟩ _).mono ?_;rintro e Z ⟨a5,n5,c5,rfl,y,zj,-⟩
    have F:AF Z w.heap.size Su.zero:=(zj.block _ (by have:=Qa C;simp;omega)).trans ((Qd _ _ _ (Qa C)).trans C)
    have zn:AF Z t.heap.size ⟨I,q.toNat,k,m,r⟩:=(zj.block _ (by simp)).trans (Qb _ _ _ rfl)
    have zl:Below t.heap.size t Z:=((Below.refl _ _).alloc (zN _) _).drew.trans (zj.mono (by simp))
    have zf:Below w.heap.size w Z:=O.trans (zl.mono O.size)
    have Y:=G.ext zl
    have zp:Su.fields l=⟨I,q.toNat,k,m,r⟩:=by unfold Su.fields;rw [<-yh.out,<-yd.out,<-ye.out,<-yf.out,<-HQ.out]
    have b:Su.dec l=if Su.AB (Su.fields l)=true/\Su.enc (Su.fields l)=l then (Su.fields l,0) else (Su.zero,6):=by
     unfold Su.dec;rw [if_neg (by rw [zm.out];simp),if_neg (by rw [yc.out];simp)]
    rw [zp] at b
    obtain⟨sf,zr⟩:∃ sf:Su.S,sf=⟨I,q.toNat,k,m,r⟩:=⟨_,rfl⟩
    rw [<-zr] at b y zn ⊢
    clear zr zp
    have k1:=Qs y
    have k2:=Qs Y
    by_cases z:Su.AB sf=true
    ·rw [if_pos z] at k1 y ⊢
     by_cases j:Su.enc sf=l
     ·rw [if_pos ⟨z,j⟩] at b
      have t2:(!(Su.enc sf == l))=false:=by simp [j]
      have f:=zH b
      have zq:=Qv sf
      clear j b y Y z
      go_wp2_with (first|(refine wpList_load_row rfl 94 _ rfl t.heap.size rfl 94 (scells sf) (0,0) _ zn underlying94 rfl zq ?_)|(refine Qp rfl 94 _ _ rfl w.heap.size rfl 94 (scells Su.zero) (scells sf) rfl F zq rfl (Jb _) ?_))
      refine bodyPost_ret (v:=.tuple #[supv sf,.int .i64 0]) (Jq (p:=2) (u:=3) rfl _ (F.setRow sf) rfl) rfl ⟨by rw [f.out],?_⟩
      exact Jp zf (zN _) _
     ·rw [if_neg (fun h=>j h.2)] at b
      have t2:(!(Su.enc sf == l))=true:=by simp [j]
      have f:=zH b
      clear j b y Y z
      go_wp2_with (refine Qp rfl 94 _ _ rfl w.heap.size rfl 94 (scells Su.zero) (scells Su.zero) rfl F (Qv _) rfl (Jb _) ?_)
      refine bodyPost_ret (v:=.tuple #[supv Su.zero,.int .i64 6]) (Jq (p:=2) (u:=3) rfl _ (F.setRow Su.zero) rfl) rfl ⟨by rw [f.out],?_⟩
      exact Jp zf (zN _) _
    ·rw [if_neg (fun h=>z h.1)] at b
     rw [if_neg z] at k1 y ⊢
     have f:=zH b
     clear b y Y z
     go_wp2_with (refine Qp rfl 94 _ _ rfl w.heap.size rfl 94 (scells Su.zero) (scells Su.zero) rfl F (Qv _) rfl (Jb _) ?_)
     refine bodyPost_ret (v:=.tuple #[supv Su.zero,.int .i64 6]) (Jq (p:=2) (u:=3) rfl _ (F.setRow Su.zero) rfl) rfl ⟨by rw [f.out],?_⟩
     exact Jp zf (zN _) _
  ·have t1:((x:Int) != ((AX.update 0 (l.take 60):Nat):Int))=true:=by rw [bne_iff_ne,K];omega
   have hd:Su.dec l=(Su.zero,7):=by unfold Su.dec;rw [if_neg (by rw [zm.out];simp),if_pos J]
   have f:=zH hd
   clear J K hd
   go_region_held3 (fun d=>AP i d) (first|assumption|exact AP.drew (AP.refl _)|exact AP.step (by assumption) (by assumption)) (first|(go_at_call 184;go_must (refine (ze.out _ (zh.ext' (by assumption)) (by omega) (by omega) _ rfl).mono ?_);rintro e A ⟨rfl,rfl⟩)|(go_at_call 48;go_must (refine (Xr _ _ _ _ _ (zk.ext' (by assumption))).mono ?_);rintro e A ⟨rfl,rfl⟩))
   have C:=hZ.drew
   have O:=U.drew
   generalize i.drew=t at *
   go_wp2_with (refine Qp rfl 94 _ _ rfl w.heap.size rfl 94 (scells Su.zero) (scells Su.zero) rfl C (Qv _) rfl (Jb _) ?_)
   refine bodyPost_ret (v:=.tuple #[supv Su.zero,.int .i64 7]) (Jq (p:=2) (u:=3) rfl _ (C.setRow Su.zero) rfl) rfl ⟨by rw [f.out],?_⟩
   exact Jp O (zN _) _
 ·have t0:((l.length:Int) != 64)=true:=by rw [bne_iff_ne];omega
  have hd:Su.dec l=(Su.zero,5):=by unfold Su.dec;rw [if_pos B]
  have f:=zH hd;clear hd B
  go_in
  go_wp2
  refine bodyPost_ret (v:=.tuple #[supv Su.zero,.int .i64 5]) ?_ rfl ⟨by rw [f.out],?_⟩
  ·simp [results,results157,go_sem,supv,Su.zero]
  ·exact (Below.refl _ _).alloc (zN _) _
end
section
open Go.RowKit
theorem AM.sub {w:World} {b o n c:Nat} {l:List UInt8} (h:AM w (b o) n c l) {k m:Nat} (a:k<=m) (d:m<=n):AM w (b (o+k)) (m - k) (c - k) ((l.take m).drop k):=(h.take d).drop a
theorem Kv (a:Option Addr) (n c:Nat) (l:List UInt8) (w:World) (h:AM w a n c l) (hn:4<=n):Calls prog 173 #[.slice a n c] w fun e b =>
 e=.returned (.tuple #[.int .u32 (AX.BP l:Nat),.int .i64 0])/\Below w.heap.size w b :=
 (Qo a n c l w h hn).mono fun e b ⟨d,k,f⟩=>⟨d,by rw [f];exact below_drewN (Below.refl _ _) _⟩
def a4 (l:List UInt8) (k:Nat):Nat:=AX.BP ((l.take (k+4)).drop k)
theorem Xy (l:List UInt8) (k:Nat) (h:k+4<=l.length):Su.field l k 4=a4 l k:=by
 unfold Su.field a4
 rw [List.drop_take,show k+4 - k=4 by omega,Su.EZ _ (by simp;omega)]
theorem Pf (l:List UInt8) (k:Nat) (h:k+4<=l.length):a4 l k < 4294967296:=by
 rw [<-Xy l k h]
 exact Nat.lt_of_lt_of_le (Su.CV _) (Nat.le_trans (Nat.pow_le_pow_right (n:=256) (by decide) (List.length_take_le _ _)) (by decide))
theorem Di (l:List UInt8) (h:14<=l.length):Su.field l 6 8=a4 l 6+a4 l 10 * 4294967296:=by
 rw [<-Xy l 6 (by omega),<-Xy l 10 (by omega)]
 unfold Su.field
 have e:(l.drop 6).take 8=(l.drop 6).take 4 ++ (l.drop 10).take 4:=by
  rw [show (8:Nat)=4+4 from rfl,List.take_add,List.drop_drop]
 rw [e,Su.IX,List.length_take,List.length_drop,Nat.min_eq_left (by omega),Nat.mul_comm]
theorem Vz (a:Option Addr) (n c:Nat) (l:List UInt8) (w:World) (h:AM w a n c l):Calls prog 133 #[.slice a n c] w (LY l w):=by
 obtain rfl:=h.len
 by_cases r:l.length=64
 ·have t0:((l.length:Int) != 64)=false:=by rw [r];rfl
  obtain⟨g,o,rfl,hg,_,_⟩:=h.at (show 0 < l.length by omega)
  have zw:=h.2.1
  have zz:c<=9223372036854775807:=by have:=h.2.2.1;unfold maxLen at this;omega
  rw [r] at zw
  have i1:(60:Int)<=(l.length:Int):=by omega
  have i2:(l.length:Int)<=(c:Int):=by omega
  have i3:(60:Int)<=(c:Int):=by omega
  have i4:l.length<=64:=by omega
  have yi:¬ c=60:=by omega
  have n6:¬ c=6:=by omega
  have ye:¬ c=10:=by omega
  have yf:¬ c=14:=by omega
  have yg:¬ c=18:=by omega
  have yh:¬ c=22:=by omega
  have i5:64<=l.length:=by omega
  have zk:=zH r;clear r
  go_in
  go_wp2_with fail
  obtain⟨I,B⟩:∃ I,I=w.alloc (.cells #[.int .u64 0,.int .i64 0,.int .u32 0,.int .i64 0,.int .u32 0] 94):=⟨_,rfl⟩
  have F:Below w.heap.size w I:=by rw [B];exact (Below.refl _ _).alloc (zN _) _
  have hZ:AF I w.heap.size Su.zero:=by rw [B];exact Qb _ _ _ rfl
  rw [<-B]
  have Y:=h.ext F
  clear B h hg
  refine (Kv _ _ _ _ _ (Y.drop (show 60<=l.length by omega)) (by omega)).mono ?_;rintro e W2 ⟨rfl,zc⟩
  have H:=Y.ext zc
  have y:AF W2 w.heap.size Su.zero:=(zc.block _ (Qa hZ)).trans hZ
  have C:=F.trans (zc.mono F.size)
  clear Y hZ F
  go_wp2_with fail
  refine (Yo _ _ _ _ _ (H.take (show 60<=l.length by omega))).mono ?_;rintro e w9 ⟨rfl,rfl⟩
  by_cases x:AX.BP (l.drop 60)=AX.update 0 (l.take 60)
  ·have t1:(((AX.BP (l.drop 60):Nat):Int) != ((AX.update 0 (l.take 60):Nat):Int))=false:=by rw [x];simp
   have zs:=zH x
   clear x
   go_wp2_with fail
   refine (Kv _ _ _ _ _ (show AM W2 _ 4 _ _ from H.sub (show 6<=10 by omega) (show 10<=l.length by omega)) (by omega)).mono ?_;rintro e W3 ⟨rfl,zd⟩
   have Z:=H.ext zd
   have P:AF W3 w.heap.size Su.zero:=(zd.block _ (Qa y)).trans y
   have U:=C.trans (zd.mono C.size)
   rw [show AX.BP ((l.take 10).drop 6)=a4 l 6 from rfl]
   have yc:=Pf l 6 (by omega)
   clear H y C
   go_wp2_with fail
   refine (Kv _ _ _ _ _ (show AM W3 _ 4 _ _ from Z.sub (show 10<=14 by omega) (show 14<=l.length by omega)) (by omega)).mono ?_;rintro e W4 ⟨rfl,ze⟩
   have za:=Z.ext ze
   have Q:AF W4 w.heap.size Su.zero:=(ze.block _ (Qa P)).trans P
   have W:=U.trans (ze.mono U.size)
   rw [show AX.BP ((l.take 14).drop 10)=a4 l 10 from rfl]
   have zx:=Pf l 10 (by omega)
   clear Z P U
   go_wp2_with fail
   refine (Kv _ _ _ _ _ (show AM W4 _ 4 _ _ from za.sub (show 14<=18 by omega) (show 18<=l.length by omega)) (by omega)).mono ?_;rintro e W5 ⟨rfl,zf⟩
   have i:=za.ext zf
   have d:AF W5 w.heap.size Su.zero:=(zf.block _ (Qa Q)).trans Q
   have k:=W.trans (zf.mono W.size)
   rw [show AX.BP ((l.take 18).drop 14)=a4 l 14 from rfl]
   have zt:=Pf l 14 (by omega)
   clear za Q W
   go_wp2_with fail
   refine (Kv _ _ _ _ _ (show AM W5 _ 4 _ _ from i.sub (show 18<=22 by omega) (show 22<=l.length by omega)) (by omega)).mono ?_;rintro e W6 ⟨rfl,zg⟩
   have zb:=i.ext zg
   have R:AF W6 w.heap.size Su.zero:=(zg.block _ (Qa d)).trans d
   have X:=k.trans (zg.mono k.size)
   rw [show AX.BP ((l.take 22).drop 18)=a4 l 18 from rfl]
   have zy:=Pf l 18 (by omega)
   clear i d k
   go_wp2_with fail
   refine (Kv _ _ _ _ _ (show AM W6 _ 4 _ _ from zb.sub (show 22<=26 by omega) (show 26<=l.length by omega)) (by omega)).mono ?_;rintro e z ⟨rfl,zh⟩
   have zq:=zb.ext zh
   have T:AF z w.heap.size Su.zero:=(zh.block _ (Qa R)).trans R
   have zo:=X.trans (zh.mono X.size)
   rw [show AX.BP ((l.take 26).drop 22)=a4 l 22 from rfl]
   have zu:=Pf l 22 (by omega)
   clear zb R X
   have s:Su.fields l=⟨a4 l 6+a4 l 10 * 4294967296,((l[5]?.getD 0).toNat:Int),a4 l 14,a4 l 18,a4 l 22⟩:=by
    unfold Su.fields
    rw [Di l (by omega),Xy l 14 (by omega),Xy l 18 (by omega),Xy l 22 (by omega)]
   have zj:=zH s
   clear s
   obtain⟨_,_,A,yb,k5,ya⟩:=zq.at (show 5 < l.length by omega)
   injection A with A;injection A with A e6;subst A;subst e6
   generalize l[5]?.getD 0=q at *
   generalize a4 l 6=g6 at *
   generalize a4 l 10=zl at *
   generalize a4 l 14=M at *
   generalize a4 l 18=N at *
   generalize a4 l 22=O at *
   have yd:q.toNat < 256:=q.toNat_lt
   have j5:(5:Int) < (l.length:Int):=by omega
   clear k5
   go_wp2_with fail
   obtain⟨G,hG⟩:∃ G,G=g6+zl * 4294967296:=⟨_,rfl⟩
   have zv:G < 18446744073709551616:=by omega
   have zn:((g6:Int)+zl * 4294967296)=(G:Int):=by rw [hG];simp
   rw [zn]
   have s:=zj.out
   rw [<-hG] at s
   clear hG zn zj
   refine (Gu ⟨G,q.toNat,M,N,O⟩ ⟨zv,zt,zu⟩ _).mono ?_;rintro e J ⟨a5,n5,c5,rfl,j,k⟩
   have d:AF J w.heap.size Su.zero:=(k.block _ (by have:=Qa T;simp;omega)).trans ((Qd _ _ _ (Qa T)).trans T)
   have zm:AF J z.heap.size ⟨G,q.toNat,M,N,O⟩:=(k.block _ (by simp)).trans (Qb _ _ _ rfl)
   have zi:Below z.heap.size z J:=((Below.refl _ _).alloc (zN _) _).trans (k.mono (by simp))
   have K:Below w.heap.size w J:=zo.trans (zi.mono zo.size)
   have i:=zq.ext zi
   have b:Su.dec l=if Su.AB (Su.fields l)=true/\Su.enc (Su.fields l)=l then (Su.fields l,0) else (Su.zero,6):=by
    unfold Su.dec;rw [if_neg (by rw [zk.out];simp),if_neg (by rw [zs.out];simp)]
   rw [s] at b
   obtain⟨sf,zr⟩:∃ sf:Su.S,sf=⟨G,q.toNat,M,N,O⟩:=⟨_,rfl⟩
   rw [<-zr] at b j zm ⊢
   clear zr s
   have k1:=Qs j
   have k2:=Qs i
   by_cases m:Su.AB sf=true
   ·rw [if_pos m] at k1 j ⊢
    by_cases t:Su.enc sf=l
    ·rw [if_pos ⟨m,t⟩] at b
     have t2:(!(Su.enc sf == l))=false:=by simp [t]
     have f:=zH b
     have zp:=Qv sf
     clear t b j i m
     go_wp2_with (first|(refine wpList_load_row rfl 94 _ rfl z.heap.size rfl 94 (scells sf) (0,0) _ zm underlying94 rfl zp ?_)|(refine Qp rfl 94 _ _ rfl w.heap.size rfl 94 (scells Su.zero) (scells sf) rfl d zp rfl (Jb _) ?_))
     refine bodyPost_ret (v:=.tuple #[supv sf,.int .i64 0]) (Jq (p:=2) (u:=3) rfl _ (d.setRow sf) rfl) rfl ⟨by rw [f.out],?_⟩
     exact Jp K (zN _) _
    ·rw [if_neg (fun h=>t h.2)] at b
     have t2:(!(Su.enc sf == l))=true:=by simp [t]
     have f:=zH b
     clear t b j i m
     go_wp2_with (refine Qp rfl 94 _ _ rfl w.heap.size rfl 94 (scells Su.zero) (scells Su.zero) rfl d (Qv _) rfl (Jb _) ?_)
     refine bodyPost_ret (v:=.tuple #[supv Su.zero,.int .i64 6]) (Jq (p:=2) (u:=3) rfl _ (d.setRow Su.zero) rfl) rfl ⟨by rw [f.out],?_⟩
     exact Jp K (zN _) _
   ·rw [if_neg (fun h=>m h.1)] at b
    rw [if_neg m] at k1 j ⊢
    have f:=zH b
    clear b j i m
    go_wp2_with (refine Qp rfl 94 _ _ rfl w.heap.size rfl 94 (scells Su.zero) (scells Su.zero) rfl d (Qv _) rfl (Jb _) ?_)
    refine bodyPost_ret (v:=.tuple #[supv Su.zero,.int .i64 6]) (Jq (p:=2) (u:=3) rfl _ (d.setRow Su.zero) rfl) rfl ⟨by rw [f.out],?_⟩
    exact Jp K (zN _) _
  ·have t1:(((AX.BP (l.drop 60):Nat):Int) != ((AX.update 0 (l.take 60):Nat):Int))=true:=by rw [bne_iff_ne];omega
   have hd:Su.dec l=(Su.zero,7):=by unfold Su.dec;rw [if_neg (by rw [zk.out];simp),if_pos x]
   have f:=zH hd
   clear x hd
   go_wp2_with (refine Qp rfl 94 _ _ rfl w.heap.size rfl 94 (scells Su.zero) (scells Su.zero) rfl y (Qv _) rfl (Jb _) ?_)
   refine bodyPost_ret (v:=.tuple #[supv Su.zero,.int .i64 7]) (Jq (p:=2) (u:=3) rfl _ (y.setRow Su.zero) rfl) rfl ⟨by rw [f.out],?_⟩
   exact Jp C (zN _) _
 ·have t0:((l.length:Int) != 64)=true:=by rw [bne_iff_ne];omega
  have hd:Su.dec l=(Su.zero,5):=by unfold Su.dec;rw [if_pos r]
  have f:=zH hd;clear hd r
  go_in
  go_wp2
  refine bodyPost_ret (v:=.tuple #[supv Su.zero,.int .i64 5]) ?_ rfl ⟨by rw [f.out],?_⟩
  ·simp [results,results133,go_sem,supv,Su.zero]
  ·exact (Below.refl _ _).alloc (zN _) _
end
section
open Go.RowKit
variable {w:World} {H:Nat} {s:Su.S}
theorem Jf {fn:Func} {t p u:Tmp} (h:fn.results=#[.tmp t,.cell p 94,.tmp u]) (tmps:Array Value) (b:AF w H s) (d:tmps.getD p undef=.pointer H) :
 (results fn tmps).run prog w=.ok (.tuple #[tmps.getD t undef,supv s,tmps.getD u undef]) w:=by
 have c:=run_loadVar_row (P:=prog) w H _ 94 (scells s) _ _ b underlying94 rfl (Qv s)
 have a:tmps[p]?.getD undef=.pointer H:=by simpa using d
 simp only [results,h]
 simp [Result.andThen,a,asAddr,c]
 rfl
theorem AF.free (h:AF w H s) (k:Nat):w.frozen? (H k)=false:=frozen_of_row _ _ _ _ _ h
theorem AF.TR (h:AF w H s) (a:Su.S) :
 AF (((((w.setCell H (.int .u64 a.gen)).setCell (H 1) (a.act:Value)).setCell (H 2) (.int .u32 a.AA)).setCell (H 3) (a.len:Value)).setCell (H 4) (.int .u32 a.sum)) H a:=by
 unfold AF
 rw [heap_setCell_same _ _ _ _ _ _ (heap_setCell_same _ _ _ _ _ _ (heap_setCell_same _ _ _ _ _ _ (heap_setCell_same _ _ _ _ _ _ (heap_setCell_same _ _ _ _ _ _ h))))]
 simp
def GK (a lb:List UInt8) (w:World) (e:Ending) (w':World):Prop :=
 e=.returned (.tuple #[.int .i64 (Su.choose a lb).1,supv (Su.choose a lb).2.1,.int .i64 (Su.choose a lb).2.2])/\Below w.heap.size w w'
theorem Og (β:Bool) (a b:Option Addr) (n m c d:Nat) (l lb:List UInt8) (w:World) (ha:AM w a n c l) (hb:AM w b m d lb) :
 Calls prog (cond β 113 78) #[.slice a n c,.slice b m d] w (GK l lb w):=by
 have P:=Mk.mk β
 cases β <;> dsimp only [cond]
 all_goals
  first|(replace P:Mk true:=P;have y:=Uy a n c l)|have y:=Vz a n c l
  first|(replace P:Mk true:=P;have z:=Uy b m d lb)|have z:=Vz b m d lb
  have G:Su.choose l lb=if (Su.dec l).2 ≠ 0/\(Su.dec lb).2 ≠ 0 then (0,Su.zero,13) else if (Su.dec l).2 ≠ 0\/((Su.dec lb).2=0/\(Su.dec l).1.gen < (Su.dec lb).1.gen) then (1,(Su.dec lb).1,0) else (0,(Su.dec l).1,0):=rfl
  unfold LY at y z
  obtain⟨⟨i,J⟩,zh⟩:∃ x,x=Su.dec l:=⟨_,rfl⟩
  obtain⟨⟨g,o⟩,zi⟩:∃ x,x=Su.dec lb:=⟨_,rfl⟩
  rw [<-zh] at y G
  rw [<-zi] at z G
  simp only at y z G
  clear zh zi
  unfold supv at y z
  have HA:=zH y;have HB:=zH z;have I:=zH G
  clear y z G
  have h1:=hb
  go_in
  go_wp2_with fail
  have hz:=Qb w (.cells #[.int .u64 0,.int .i64 0,.int .u32 0,.int .i64 0,.int .u32 0] 94) _ rfl
  have zd:AF (w.alloc (.cells #[.int .u64 0,.int .i64 0,.int .u32 0,.int .i64 0,.int .u32 0] 94)) w.heap.size Su.zero:=hz
  have K:Below w.heap.size w (w.alloc (.cells #[.int .u64 0,.int .i64 0,.int .u32 0,.int .i64 0,.int .u32 0] 94)):=(Below.refl _ _).alloc (zN _) _
  refine (HA.out _ (ha.ext K)).mono ?_;rintro e A ⟨rfl,zf⟩
  have N:AF A w.heap.size Su.zero:=(zf.block _ (Qa zd)).trans zd
  have za:=K.trans (zf.mono K.size)
  clear hz zd K zf
  go_wp2_with fail
  have zb:AF (A.alloc (.cells #[.int .u64 i.gen,i.act,.int .u32 i.AA,i.len,.int .u32 i.sum] 94)) A.heap.size i:=Qb _ _ _ rfl
  have ze:AF (A.alloc (.cells #[.int .u64 i.gen,i.act,.int .u32 i.AA,i.len,.int .u32 i.sum] 94)) w.heap.size Su.zero:=(Qd _ _ _ (Qa N)).trans N
  have M:=za.alloc za.size (.cells #[.int .u64 i.gen,i.act,.int .u32 i.AA,i.len,.int .u32 i.sum] 94)
  have zm:=Qa N
  refine (HB.out _ (hb.ext M)).mono ?_;rintro e B ⟨rfl,O⟩
  have zc:AF B A.heap.size i:=(O.block _ (Qa zb)).trans zb
  have f:AF B w.heap.size Su.zero:=(O.block _ (Qa ze)).trans ze
  have r:=M.trans (O.mono M.size)
  clear zb ze M O za N
  have F:AF (B.alloc (.cells #[.int .u64 g.gen,g.act,.int .u32 g.AA,g.len,.int .u32 g.sum] 94)) B.heap.size g:=Qb _ _ _ rfl
  have C:AF (B.alloc (.cells #[.int .u64 g.gen,g.act,.int .u32 g.AA,g.len,.int .u32 g.sum] 94)) A.heap.size i:=(Qd _ _ _ (Qa zc)).trans zc
  have zp:AF (B.alloc (.cells #[.int .u64 g.gen,g.act,.int .u32 g.AA,g.len,.int .u32 g.sum] 94)) w.heap.size Su.zero:=(Qd _ _ _ (Qa f)).trans f
  have zl:=r.alloc r.size (.cells #[.int .u64 g.gen,g.act,.int .u32 g.AA,g.len,.int .u32 g.sum] 94)
  have zn:=Qa f
  have zo:=Qa zc
  by_cases k:J=0
  ·have ta:(J == 0)=true:=by simp [k]
   have zk:(J != 0)=false:=by simp [k]
   by_cases j:o=0
   ·have tb:(o == 0)=true:=by simp [j]
    have zg:(o != 0)=false:=by simp [j]
    by_cases zj:i.gen < g.gen
    ·have q:=zH ((I.out.trans (if_neg (fun h=>h.1 k))).trans (if_pos (Or.inr ⟨j,zj⟩)))
     clear k j
     obtain⟨q0,q1,q2,q3,q4⟩:=F.cells
     obtain⟨X,Y,Z,p3,p4⟩:=C.cells
     obtain⟨z0,z1,z2,z3,z4⟩:=f.cells
     have Q:=f.free 0;have R:=f.free 1;have T:=f.free 2;have U:=f.free 3;have W:=f.free 4
     go_wp2_with fail
     go_region
     go_wp2
     refine bodyPost_ret (v:=.tuple #[.int .i64 1,supv g,.int .i64 0]) (Jf (t:=4) (p:=5) (u:=6) (H:=w.heap.size) rfl _ (show AF _ w.heap.size g from (Qd _ _ _ (by simp;omega)).trans (f.TR g)) rfl) rfl ⟨by rw [q.out],?_⟩
     exact ((((((r.setCell (zN _) _).setCell (zN _) _).setCell (zN _) _).setCell (zN _) _).setCell (zN _) _).alloc (by simp;omega) _).drew
    ·have q:=zH ((I.out.trans (if_neg (fun h=>h.1 k))).trans (if_neg (fun h=>h.elim (fun h=>h k) (fun h=>zj h.2))))
     clear k j
     obtain⟨q0,q1,q2,q3,q4⟩:=F.cells
     obtain⟨X,Y,Z,p3,p4⟩:=C.cells
     obtain⟨z0,z1,z2,z3,z4⟩:=f.cells
     have Q:=f.free 0;have R:=f.free 1;have T:=f.free 2;have U:=f.free 3;have W:=f.free 4
     go_wp2_with fail
     go_region
     go_wp2
     refine bodyPost_ret (v:=.tuple #[.int .i64 0,supv i,.int .i64 0]) (Jf (t:=4) (p:=5) (u:=6) (H:=w.heap.size) rfl _ (show AF _ w.heap.size i from (Qd _ _ _ (by simp;omega)).trans (f.TR i)) rfl) rfl ⟨by rw [q.out],?_⟩
     exact ((((((r.setCell (zN _) _).setCell (zN _) _).setCell (zN _) _).setCell (zN _) _).setCell (zN _) _).alloc (by simp;omega) _).drew
   ·have tb:(o == 0)=false:=by simp [j]
    have zg:(o != 0)=true:=by simp [j]
    have q:=zH ((I.out.trans (if_neg (fun h=>h.1 k))).trans (if_neg (fun h=>h.elim (fun h=>h k) (fun h=>j h.1))))
    clear k j
    obtain⟨q0,q1,q2,q3,q4⟩:=F.cells
    obtain⟨X,Y,Z,p3,p4⟩:=C.cells
    obtain⟨z0,z1,z2,z3,z4⟩:=f.cells
    have Q:=f.free 0;have R:=f.free 1;have T:=f.free 2;have U:=f.free 3;have W:=f.free 4
    go_wp2_with fail
    go_region
    go_wp2
    refine bodyPost_ret (v:=.tuple #[.int .i64 0,supv i,.int .i64 0]) (Jf (t:=4) (p:=5) (u:=6) (H:=w.heap.size) rfl _ (show AF _ w.heap.size i from (Qd _ _ _ (by simp;omega)).trans (f.TR i)) rfl) rfl ⟨by rw [q.out],?_⟩
    exact ((((((r.setCell (zN _) _).setCell (zN _) _).setCell (zN _) _).setCell (zN _) _).setCell (zN _) _).alloc (by simp;omega) _).drew
  ·have ta:(J == 0)=false:=by simp [k]
   have zk:(J != 0)=true:=by simp [k]
   by_cases j:o=0
   ·have tb:(o == 0)=true:=by simp [j]
    have zg:(o != 0)=false:=by simp [j]
    have q:=zH ((I.out.trans (if_neg (fun h=>h.2 j))).trans (if_pos (Or.inl k)))
    clear k j
    obtain⟨q0,q1,q2,q3,q4⟩:=F.cells
    obtain⟨X,Y,Z,p3,p4⟩:=C.cells
    obtain⟨z0,z1,z2,z3,z4⟩:=f.cells
    have Q:=f.free 0;have R:=f.free 1;have T:=f.free 2;have U:=f.free 3;have W:=f.free 4
    go_wp2_with fail
    go_region
    go_wp2
    refine bodyPost_ret (v:=.tuple #[.int .i64 1,supv g,.int .i64 0]) (Jf (t:=4) (p:=5) (u:=6) (H:=w.heap.size) rfl _ (show AF _ w.heap.size g from (Qd _ _ _ (by simp;omega)).trans (f.TR g)) rfl) rfl ⟨by rw [q.out],?_⟩
    exact ((((((r.setCell (zN _) _).setCell (zN _) _).setCell (zN _) _).setCell (zN _) _).setCell (zN _) _).alloc (by simp;omega) _).drew
   ·have tb:(o == 0)=false:=by simp [j]
    have zg:(o != 0)=true:=by simp [j]
    have q:=zH (I.out.trans (if_pos ⟨k,j⟩))
    clear k j
    obtain⟨q0,q1,q2,q3,q4⟩:=F.cells
    obtain⟨X,Y,Z,p3,p4⟩:=C.cells
    obtain⟨z0,z1,z2,z3,z4⟩:=f.cells
    have Q:=f.free 0;have R:=f.free 1;have T:=f.free 2;have U:=f.free 3;have W:=f.free 4
    go_wp2_with fail
    refine bodyPost_ret (v:=.tuple #[.int .i64 0,supv Su.zero,.int .i64 13]) (Jf (t:=4) (p:=5) (u:=6) (H:=w.heap.size) rfl _ (show AF _ w.heap.size Su.zero from (Qd _ _ _ (by simp;omega)).trans (f.TR Su.zero)) rfl) rfl ⟨by rw [q.out],?_⟩
    exact ((((((r.setCell (zN _) _).setCell (zN _) _).setCell (zN _) _).setCell (zN _) _).setCell (zN _) _).alloc (by simp;omega) _)
end
end Go.Proofs.YtmanejniepghlaaGreatDoor
