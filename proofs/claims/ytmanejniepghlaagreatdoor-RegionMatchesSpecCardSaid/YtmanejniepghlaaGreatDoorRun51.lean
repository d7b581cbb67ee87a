import Derived.Test.YtmanejniepghlaaGreatDoorRun19
import Derived.Test.YtmanejniepghlaaGreatDoorRun17
import Derived.Deep.DeepMust
import Derived.Test.YtmanejniepghlaaGreatDoorRun44
import Derived.Test.YtmanejniepghlaaGreatDoorRun48
import Derived.Test.YtmanejniepghlaaGreatDoorRun50
import Derived.Test.YtmanejniepghlaaGreatDoorRun42
import Derived.Test.YtmanejniepghlaaGreatDoorRun43
import Derived.Test.YtmanejniepghlaaGreatDoorRun23
import Derived.Test.YtmanejniepghlaaGreatDoorRun49
import Derived.Test.YtmanejniepghlaaGreatDoorRun1
import Derived.Deep.RegionHeld3
set_option maxHeartbeats 64000000
set_option maxRecDepth 100000
namespace Go.Proofs.YtmanejniepghlaaGreatDoor
open _root_.Go.Proofs.Tryz
section
open Go.RowKit
open Dd (Dk)
variable {w w':World} {F F':Nat->Prop} {B D g q:Nat} {c:Int} {L:List AJ} {a:Option Addr} {k:Nat} {S:AH.St} {d:Dk}
theorem Rv (d:Dk) (b:List (Int × Int)):(Dd.restart d b).st.length=d.st.length:=by
 have h:∀ (b:List (Int × Int)) (d:Dk),(b.foldl Dd.tear d).st.length=d.st.length:=fun b=>by
  induction b with
 |nil=>intro d;rfl
 |cons k b ih =>
   intro d
   rw [List.foldl_cons,ih]
   unfold Dd.tear
   split
   ·split <;> simp
   ·rfl
 exact h b d
theorem Ii (d:Dk) (b:List (Int × Int)):(Dd.arm d b).2.st.length=d.st.length:=by unfold Dd.arm;split <;> rfl
end
section
open Go.RowKit
open Dd (Dk)
variable {w w':World} {F G:Nat->Prop} {g q n k c:Nat} {d d':Dk} {T:Option AH.St} {a:Option Addr} {b:Bool} {z:Int} {ks:List (Int × Int)}
theorem Lm {L:AO.L} (h:EB w q g L) (l:AO.OT L):Calls prog 147 #[.pointer q] w fun e w'=>e=.returned (.int .i64 (Ex.size L.c - (L.en:Int)))/\Below w.heap.size w w':=by
 obtain⟨B,o,r,C,s,-⟩:=h.cells
 have u:=zH (fun W=>Yn L.f L.c l.c W)
 obtain⟨H,I⟩:=l.size
 have J:=l.en
 have m:=h.lt
 generalize Ex.size L.c=t at *
 generalize L.en=j at *
 have A:IntKind.i64.wrap (t - (j:Int))=t - (j:Int):=by rw [IntKind.wrap_i64];omega
 go_in
 go_wp2_with fail
 go_region_held3 (fun w'=>w'.cell? (q 1)=some (L.f:Value)/\w'.cell? (q 2)=some (L.c:Value)/\w'.cell? (q 4)=some (j:Value)) (first|exact⟨o,r,s⟩|exact⟨a1,a2,a4⟩) (first
  |(go_at_call 79;go_must (refine (u.out _).mono ?_);rintro e y ⟨rfl,x⟩;have i:Below w.heap.size w y:=(Below.drew (Below.refl _ _)).trans x;have a1:=(i.cell (p:=(q 1)) m).trans o;have a2:=(i.cell (p:=(q 2)) m).trans r;have a4:=(i.cell (p:=(q 4)) m).trans s))
 go_wp2_with fail
 go_ret
 exact⟨rfl,i⟩
theorem Lr {S:AH.St} {p:Nat} (h:RQ w q g p S) (i:EB w p g S.log) (f:AO.OT S.log) :
 Calls prog 98 #[.pointer q] w fun e w'=>e=.returned (.int .i64 (Ex.size S.log.c - (S.log.en:Int)))/\Below w.heap.size w w':=by
 have m:=h.log
 have j:=zH (Lm i f)
 generalize Ex.size S.log.c - (S.log.en:Int)=x at *
 clear h i f
 go_in
 go_wp2_with fail
 refine j.out.mono ?_;rintro e o ⟨rfl,l⟩
 go_wp2_with fail
 go_ret
 exact⟨rfl,l⟩
theorem Mo {S:AH.St} {p:Nat} (h:RQ w q g p S):Calls prog 96 #[.pointer q] w fun e w'=>e=.returned (S.lay.cap:Value)/\w=w':=by
 have f:=h.cap
 clear h
 go_in
 go_wp2
 go_ret
 exact⟨rfl,rfl⟩
theorem Mp {S:AH.St} {p:Nat} (h:RQ w q g p S):Calls prog 97 #[.pointer q] w fun e w'=>e=.returned (.int .u64 S.sup.gen)/\w=w':=by
 have f:=h.gen
 clear h
 go_in
 go_wp2
 go_ret
 exact⟨rfl,rfl⟩
def XO (b:Bool) (g q:Nat) (T:Option AH.St) (d:Dk):(Nat->Prop)->World->Prop:=match b,T with
|false,none=>DP g d
|true,none=>BZ g d
|false,some S=>PS g q S d
|true,some S=>GM g q S d
def XV (q:Nat) (T:Option AH.St):Value:=match T with
|none=>.pointer none
|some _=>.pointer q
theorem XO.fp:Fp (XO b g q T d):=by
 cases b <;> cases T
 ·exact DP.fp g d
 ·exact PS.fp g q _ d
 ·exact BZ.fp g d
 ·exact GM.fp g q _ d
theorem XO.forget (h:XO b g q T d F w):∃ e,XO b g q none d e w/\AD F w e w:=by
 cases b <;> cases T
 ·exact⟨F,h,AD.refl F w⟩
 ·exact PS.forget h
 ·exact⟨F,h,AD.refl F w⟩
 ·exact GM.forget h
theorem XO.lift {f:Nat} {A:Array Value} {P:Ending->Prop} (x:∀ j,XO b g q none d j w->Calls prog f A w fun e w'=>P e/\∃ i,XO b g q none d' i w'/\AD j w i w') (h:XO b g q T d F w) :
 Calls prog f A w fun e w'=>P e/\∃ i,XO b g q T d' i w'/\AD F w i w':=by
 cases T with
|none=>exact x F h
|some S =>
 cases b
 ·obtain⟨j,p,rfl,l,m,o,r,s,t⟩:=h
  exact (x j l).mono fun e w' ⟨u,i,hd,hu⟩=>⟨u,_,PS.turn m o r s t hd hu⟩
 ·obtain⟨j,p,rfl,l,m,o,r,s,t⟩:=h
  exact (x j l).mono fun e w' ⟨u,i,hd,hu⟩=>⟨u,_,GM.turn m o r s t hd hu⟩
theorem If (h:XO b g q T d F w) (i:CZ w a k c ks) (hr:Dd.arm d ks=(z,d')) :
 Calls prog (bif b then 34 else 26) #[.pointer g,.slice a k c] w fun e w'=>e=.returned (z:Value)/\∃ f,XO b g q T d' f w'/\AD F w f w' :=
 XO.lift (P:=fun e=>e=.returned (z:Value)) (fun j h0=>by cases b;exact DP.arm h0 i hr;exact BZ.arm h0 i hr) h
theorem Oo (h:XO b g q T d F w) (hr:AH.format d=(z,d')) :
 Calls prog (bif b then 35 else 12) #[.pointer g] w fun e w'=>e=.returned (z:Value)/\∃ f,XO b g q T d' f w'/\AD F w f w' :=
 XO.lift (P:=fun e=>e=.returned (z:Value)) (fun i h0=>by cases b;exact Us h0 hr;exact Cj h0 hr) h
theorem Hq (h:XO b g q none d F w) (i:CZ w a k c ks) (hF:∀ y,a=some y->ks ≠ []->¬ F y.block) (hr:Dd.restart d ks=d') :
 Calls prog (bif b then 36 else 21) #[.pointer g,.slice a k c] w fun e w'=>e=.returned (.tuple #[])/\∃ f,XO b g q none d' f w'/\AD F w f w':=by
 cases b;exact DP.restart h i hF hr;exact BZ.restart h i hF hr
theorem Ig (h:XO b g q T d F w):Calls prog (bif b then 39 else 38) #[.pointer g] w fun e w'=>e=.returned (.bool d.off)/\w=w':=by
 obtain⟨f,h,-⟩:=h.forget
 cases b;exact DP.off h;exact BZ.off h
theorem Nz (h:XO b g q T d F w):Calls prog (bif b then 42 else 41) #[.pointer g] w fun e w'=>∃ v,e=.returned v/\AS w.heap.size w' v (Dd.dirty d)/\Below w.heap.size w w':=by
 obtain⟨f,h,-⟩:=h.forget
 cases b;exact DP.dirty h;exact BZ.dirty h
theorem Ra (h:XO b g q T d F w):Calls prog (bif b then 44 else 28) #[.pointer g] w fun e w'=>∃ v,e=.returned v/\AC w.heap.size w' v d.st.flatten/\Below w.heap.size w w':=by
 obtain⟨f,h,-⟩:=h.forget
 cases b;exact DP.image h;exact BZ.image h
def YY (T:Option AH.St) (d:Dk) (u:BS):Int × Option AH.St × Dk:=match T with
|none=>(12,none,d)
|some S=>((AH.append S d u).1,some (AH.append S d u).2.1,(AH.append S d u).2.2)
def YZ (T:Option AH.St) (d:Dk) (x:Int) (L:List AJ):Int × Option AH.St × Dk:=match T with
|none=>(12,none,d)
|some S=>((AH.compact S d x L).1,some (AH.compact S d x L).2.1,(AH.compact S d x L).2.2)
theorem On (h:XO b g q T d F w) (j:∀ S,T=some S->AH.Ok n S) (u:BS) (hu:u.p.h.length<=900) {m:Option AH.St} (hr:YY T d u=(z,m,d')) :
 Calls prog (bif b then 32 else 17) #[XV q T,uv u] w fun e w'=>e=.returned (z:Value)/\∃ l,XO b g q m d' l w'/\AD F w l w':=by
 cases T <;> cases hr
 ·cases b;exact (Wf u w).mono fun e w' ⟨i,f⟩=>⟨i,F,XO.fp.ext h f,AD.AL f⟩;exact (Wg u w).mono fun e w' ⟨i,f⟩=>⟨i,F,XO.fp.ext h f,AD.AL f⟩
 ·cases b;exact Ur h (j _ rfl) u hu rfl;exact Ci h (j _ rfl) u hu rfl
theorem Hp (h:XO b g q T d F w) (j:∀ S,T=some S->AH.Ok n S) (hd:d.st.length<=1000) (x:Int) (L:List AJ) (hs:AT w a k c L) (o:∀ p ∈ L,p.h.length<=1000000) (r:k<=1000000) {m:Option AH.St} (hr:YZ T d x L=(z,m,d')) :
 Calls prog (bif b then 33 else 19) #[XV q T,.agg #[x,.slice a k c]] w fun e w'=>e=.returned (z:Value)/\∃ l,XO b g q m d' l w'/\AD F w l w':=by
 cases T <;> cases hr
 ·cases b;exact (Ko x a k c w).mono fun e w' ⟨i,f⟩=>⟨i,F,XO.fp.ext h f,AD.AL f⟩;exact (Kq x a k c w).mono fun e w' ⟨i,f⟩=>⟨i,F,XO.fp.ext h f,AD.AL f⟩
 ·cases b;exact He h (j _ rfl) hd x a k c L hs o rfl;exact Rz h (j _ rfl) hd x a k c L hs o r rfl
def XW (R:AH.FY):Int × List AJ:=match R with
|(none,_)=>(0,[])
|(some _,v,_)=>v
theorem Dh (h:XO b g q none d F w) (hn:d.st.length<=1000) {R:AH.FY} (s:AH.EG d=R) :
 Calls prog (bif b then 29 else 13) #[.pointer g] w fun e w'=>∃ q a k f,e=.returned (.tuple #[XV q R.1,.agg #[(XW R).1,.slice a (XW R).2.length k],R.2.2.1])/\XO b g q R.1 R.2.2.2 f w'/\AD F w f w'/\AT w' a (XW R).2.length k (XW R).2 ∧
  (∀ x,a=some x->(XW R).2 ≠ []->w.heap.size<=x.block)/\∀ S,R.1=some S->AH.Ok d.st.length S:=by
 cases b
 ·refine (Gh h hn s).mono fun e w' h=>?_
  obtain⟨_|S,⟨c,L⟩,z,d'⟩:=R
  ·obtain⟨t,f,rfl,i,j⟩:=h
   exact⟨0,none,0,f,rfl,i,j,AT.nil _,fun x l=>(by cases l),fun S h=>by cases h⟩
  ·obtain⟨rfl,q,a,k,f,rfl,i,j,m,o,p,-⟩:=h
   exact⟨q,a,k,f,rfl,i,j,m,fun x l r=>(o x l r).2,fun S h=>by cases h;exact p⟩
 ·refine (Lq h hn s).mono fun e w' h=>?_
  obtain⟨_|S,⟨c,L⟩,z,d'⟩:=R
  ·obtain⟨t,f,rfl,i,j⟩:=h
   exact⟨0,none,0,f,rfl,i,j,AT.nil _,fun x l=>(by cases l),fun S h=>by cases h⟩
  ·obtain⟨rfl,q,a,k,f,rfl,i,j,m,o,p,-⟩:=h
   exact⟨q,a,k,f,rfl,i,j,m,fun x l r=>(o x l r).2,fun S h=>by cases h;exact p⟩
def YV (T:Option AH.St):Bool:=match T with |none=>true|some S=>S.fl
def YU (T:Option AH.St):Int:=match T with |none=>0|some S=>S.lay.cap
def YW (T:Option AH.St):Nat:=match T with |none=>0|some S=>S.sup.gen
def YX (T:Option AH.St):Int:=match T with |none=>0|some S=>Ex.size S.log.c - (S.log.en:Int)
theorem Dg (h:XO b g q T d F w) (l:∀ S,T=some S->AH.Ok n S) :
 Calls prog (bif b then 85 else 18) #[XV q T] w (fun e w'=>e=.returned (.bool (YV T))/\w=w') ∧
 Calls prog (bif b then 96 else 15) #[XV q T] w (fun e w'=>e=.returned (YU T:Value)/\w=w') ∧
 Calls prog (bif b then 97 else 20) #[XV q T] w (fun e w'=>e=.returned (.int .u64 (YW T))/\w=w') ∧
 Calls prog (bif b then 98 else 16) #[XV q T] w (fun e w'=>e=.returned (YX T:Value)/\Below w.heap.size w w'):=by
 cases T with
|none =>
 cases b <;> dsimp only [cond,XV,YV,YU,YW,YX] <;> refine⟨?_,?_,?_,?_⟩
 all_goals
  go_in
  go_wp2
  go_ret
  exact⟨rfl,by first|rfl|exact Below.refl _ _⟩
|some S =>
 have j:=(l S rfl).log.fits
 cases b
 ·obtain⟨m,p,rfl,o,i,r,f,s,t⟩:=h
  exact⟨Vs f,Gi f,Yy f,Lk f i j rfl⟩
 ·obtain⟨m,p,rfl,o,i,r,f,s,t⟩:=h
  exact⟨Vt f,Mo f,Mp f,Lr f i j⟩
end
section
open Go.RowKit
open Dd (Dk)
variable {w w' wr:World} {F F' G:Nat->Prop} {B g q r p n:Nat} {d d':Dk} {T T':Option AH.St} {z:Int} {W:World}
def oby (a:Int) (u:BS) (sc:Int) (b c e:Value):Obj:=.cells #[a,u.k,.string (str u.p.h),.bool u.p.s,u.p.x,sc,b,c,e] 64
theorem Qt {b sc:Int} {u:BS} {c e f:Value} (h:w.heap[B]?=some (oby b u sc c e f)):(w.cell? B=some (b:Value)/\w.cell? (B 1)=some (u.k:Value)/\w.cell? (B 2)=some (.string (str u.p.h))/\w.cell? (B 3)=some (.bool u.p.s)/\w.cell? (B 4)=some (u.p.x:Value)) ∧
 (w.cell? (B 5)=some (sc:Value)/\w.cell? (B 6)=some c/\w.cell? (B 7)=some e/\w.cell? (B 8)=some f)/\B < w.heap.size:=by
 have a:=fun k=>cell_of_row _ _ k _ _ _ h
 exact⟨⟨a 0,a 1,a 2,a 3,a 4⟩,⟨a 5,a 6,a 7,a 8⟩,Qa h⟩
theorem Mi {u:BS} (h:∀ S,T=some S->AH.Ok n S) (hr:YY T d u=(z,T',d')):(∀ S,T'=some S->AH.Ok n S)/\d'.st.length=d.st.length/\∀ q,XV q T=XV q T':=by
 cases T <;> cases hr
 ·exact⟨h,rfl,fun _=>rfl⟩
 ·exact⟨fun S e=>by cases e;exact (AH.GS (h _ rfl) d u).1,AH.OW _ d u,fun _=>rfl⟩
theorem Mj {x:Int} {L:List AJ} (h:∀ S,T=some S->AH.Ok n S) (hd:d.Ok) (hn:d.st.length=n) (hr:YZ T d x L=(z,T',d')):(∀ S,T'=some S->AH.Ok n S)/\d'.st.length=d.st.length/\∀ q,XV q T=XV q T':=by
 cases T <;> cases hr
 ·exact⟨h,rfl,fun _=>rfl⟩
 ·exact⟨fun S e=>by cases e;exact AH.OZ (h _ rfl) hd hn x L,AH.NQ _ d x L,fun _=>rfl⟩
theorem XO.ok {b:Bool} (h:XO b g q T d F w):d.Ok:=by
 obtain⟨a,h,-⟩:=h.forget
 cases b
 ·exact DP.ok h
 ·exact BZ.ok h
def Mt (W:World) (N g r q p:Nat) (T:Option AH.St) (d:Dk) (F G:Nat->Prop) (w:World):Prop:=RS W (XO false g q T d) (XO true r p T d) F G w/\(∀ S,T=some S->AH.Ok N S)/\d.st.length=N
theorem Mt.ext {N:Nat} (h:Mt W N g r q p T d F G w) (e:Below w.heap.size w w'):Mt W N g r q p T d F G w':=⟨h.1.ext XO.fp XO.fp e,h.2⟩
theorem Iv {N:Nat} (h:Mt W N g r q p T d F G w):Calls prog 37 #[XV q T,XV p T] w fun e w'=>e=.returned (.bool true)/\Below w.heap.size w w':=by
 have a:=Dg h.1.1 h.2.1
 have b:=Dg h.1.2.1 h.2.1
 have i:=fun A (e:Below w.heap.size w A)=>(Dg (XO.fp.ext h.1.2.1 e) h.2.1).2.2.2
 clear h
 generalize YV T=x at a b
 generalize YU T=J at a b
 generalize YW T=K at a b
 generalize YX T=M at a b i
 have C:(x == x)=true:=by simp
 have j:=zH a.1;have k:=zH a.2.1;have l:=zH a.2.2.1;have m:=zH a.2.2.2
 have o:=zH b.1;have s:=zH b.2.1;have t:=zH b.2.2.1;have u:=zH i
 clear a b i
 cases T <;> dsimp only [XV] at j k l m o s t u ⊢
 all_goals
  go_in
  go_wp2_with (first
  |(go_at_call 18;go_must (refine j.out.mono ?_);rintro e c ⟨rfl,rfl⟩)
  |(go_at_call 15;go_must (refine k.out.mono ?_);rintro e c ⟨rfl,rfl⟩)
  |(go_at_call 20;go_must (refine l.out.mono ?_);rintro e c ⟨rfl,rfl⟩)
  |(go_at_call 16;go_must (refine m.out.mono ?_);rintro e H ⟨rfl,f⟩)
  |(go_at_call 85;go_must (refine o.out.mono ?_);rintro e c ⟨rfl,rfl⟩)
  |(go_at_call 96;go_must (refine s.out.mono ?_);rintro e c ⟨rfl,rfl⟩)
  |(go_at_call 97;go_must (refine t.out.mono ?_);rintro e c ⟨rfl,rfl⟩)
  |(go_at_call 98;go_must (refine (u.out _ f).mono ?_);rintro e I ⟨rfl,y⟩))
  go_ret
  exact⟨by simp,f.trans (y.mono f.size)⟩
theorem XZ (n:Int) (ai:Option Addr) (mi ki:Nat) (im:List UInt8) (a:Option Addr) (m k:Nat) (l:List PU) (w:World) (hn:(Lit.int .i64 n).wf=true) (hi:AM w ai mi ki im) (h:EP w a m k l) :
 Calls prog 7 #[n,.slice ai mi ki,.slice a m k] w fun e w'=>e=.returned (.bool true)/\Below w.heap.size w w':=by
 have HA:=zH Gc
 have kj:=h.le
 have kk:=hi.le
 have HS:=zH (VG a m k l w h)
 unfold NJ at HS
 by_cases hg:n < 1\/100 < n\/6400 < mi
 ·rcases (show n < 1\/(¬ n < 1/\100 < n)\/(¬ n < 1/\¬ 100 < n/\(6400:Int) < (mi:Int)) by omega) with t|⟨t,t'⟩|⟨t,t',ko⟩
  all_goals
   clear hg
   go_in
   go_wp2_with fail
   refine (HA.out _).mono ?_;rintro e w5 ⟨rfl,zd⟩
   go_wp2_with fail
   go_ret
   exact⟨rfl,zd⟩
 obtain⟨N,rfl⟩:∃ N:Nat,n=(N:Int):=⟨n.toNat,by omega⟩
 have xc:1<=N:=by omega
 have kg:N<=100:=by omega
 have kl:mi<=6400:=by omega
 have t1:¬ (N:Int) < 1:=by omega
 have t2:¬ 100 < (N:Int):=by omega
 have t3:¬ 6400 < (mi:Int):=by omega
 have vf:=zH h
 have yr:=zH hi
 obtain⟨i0,xm,xt,xu,xv⟩:=info_parts TB
 have HI:=zH (And.intro xm (And.intro xt (And.intro xu xv)))
 have HM:=zH (QH (64 * N))
 have km:IntKind.i64.wrap ((N:Int) * 64)=((64 * N:Nat):Int):=by rw [IntKind.wrap_i64];omega
 clear xm xt xu xv hg
 go_in
 go_wp2_with fail
 refine HS.out.mono ?_;rintro e w1 ⟨rs,rfl,hr,zj⟩
 cases rs with
|false =>
  go_wp2_with fail
  refine (HA.out _).mono ?_;rintro e w5 ⟨rfl,zd⟩
  go_wp2_with fail
  go_ret
  exact⟨rfl,zj.trans (zd.mono zj.size)⟩
|true =>
  obtain⟨ka,xr⟩:=hr rfl
  have yv:=zH xr
  clear hr xr h hi
  go_wp2_with (first
  |(refine wpList_make_full _ rfl _ _ 70 rfl w1.heap.size 5 i0 (.int .u8 0) 1 underlying70 HI.out.1 HI.out.2.1 HI.out.2.2.1 .i64 .i64 _ _ (64 * N) rfl rfl (by omega) (by omega) (by rw [HI.out.2.2.2];omega) (by unfold maxLen;omega) (zN _) ?_;intro w2 yq vq;rw [HM.out] at yq;have hO:AC w1.heap.size w2 (.slice w1.heap.size (64 * N) (64 * N)) (List.replicate (64 * N) 0):=(by unfold AC;rw [List.length_replicate];exact yq);have xi:=(Below.refl w1.heap.size w1).grown vq (zN _) (fun k hk=>by cases hk);have zr:=zj.trans (xi.mono zj.size))
  |((show wpList _ _ _ (Oper.mk (some 44) _ _ _ _ _ :: _) _ _);go_must (refine Qz rfl _ _ rfl w1.heap.size 0 (64 * N) _ ai mi ki im rfl rfl 5 _ hO.TC.2 (yr.out.ext zr) (by simp;omega) ?_);intro w3 yh xj))
  have zn:Below w.heap.size w w3:=BQ.below zr xj zj.size zr.size
  obtain⟨bs,ye⟩:∃ x,List.take 0 (List.replicate (64 * N) (0:UInt8)) ++ im.take (64 * N) ++ (List.replicate (64 * N) 0).drop (0+min mi (64 * N))=x:=⟨_,rfl⟩
  have vn:bs.length=64 * N:=by rw [<-ye];have:=yr.out.len;simp;omega
  rw [ye] at yh
  have yi:AM w3 w1.heap.size (64 * N) (64 * N) bs:=by
   have:=yh.slb 0 (64 * N) (64 * N) (by omega) (zN _) (by unfold maxLen;omega)
   rwa [List.drop_zero,List.take_of_length_le (by omega)] at this
  clear ye yh xj hO HM HI
  refine (DP.load N xc (by omega) _ _ bs w3 (64 * N) rfl yi).mono ?_;rintro e w4 ⟨g,F1,rfl,zu,yw,zo⟩
  go_wp2_with fail
  refine (BZ.load _ N _ bs w4 xc (by omega) (64 * N) rfl (yi.ext zo)).mono ?_;rintro e w5 ⟨r,G1,rfl,yg,yb,zd⟩
  obtain⟨d0,yf⟩:∃ d0,Dd.load N bs=d0:=⟨_,rfl⟩
  have vr:d0.st.length=N:=by rw [<-yf];simp [Dd.load,Dd.BB]
  rw [yf] at zu yg
  have yy:Mt w N g r 0 0 none d0 F1 G1 w5:=⟨⟨DP.ext zu zd,yg,fun k x y=>by have:=zu.lt k x;have:=yb k y;omega,fun k x=>Nat.le_trans zn.size (yw k x),fun k x=>by have:=yb k x;have:=zo.size;have:=zn.size;omega,(zn.trans (zo.mono zn.size)).trans (zd.mono (Nat.le_trans zn.size zo.size))⟩,fun S h=>(by cases h),vr⟩
  clear zu yg yw yb zo zd yi vn yf zj xi zr
  go_wp2_with fail
  go_loopw [12,13,14] (fun s mm i wr=>∃ (j q p:Nat) (T:Option AH.St) (d:Dk) (F G:Nat->Prop),s=XV q T/\mm=XV p T/\i=.int .i64 j/\j<=m/\Mt w N g r q p T d F G wr) (fun _ _ i _=>m - (intOf i).toNat)
  case atStart=>exact⟨0,0,0,none,d0,F1,G1,rfl,rfl,rfl,Nat.zero_le _,yy⟩
  case round =>
   obtain⟨j,q,p,T,d,F,G,rfl,rfl,rfl,hj,c⟩:=hrel
   clear yy
   have zp:=c.1.below
   have j0:(0:Int)<=(j:Int):=by omega
   by_cases vs:j < m
   ·have j1:(j:Int) < (m:Int):=by omega
    obtain⟨b,o,x,rfl,hb,hx,hi⟩:=vf.out.at vs
    have vx:=yv.out x (List.mem_of_getElem? hx)
    obtain⟨C,u,sc,pn,fs,ks⟩:=x
    obtain⟨z1,⟨z2,z3⟩,z4,z5⟩:=vx
    dsimp only at z1 z2 z3 z4 z5
    obtain⟨i0,i1,⟨i2,i3,i4⟩,i5,⟨p6,m6,d6,i6,s6⟩,⟨p7,m7,d7,i7,s7⟩,⟨p8,m8,d8,i8,s8⟩⟩:=hi
    have X:=fun k=>zp.cell (p:=(b k)) hb
    replace i0:=(X _).trans i0
    replace i1:=(X _).trans i1
    replace i2:=(X _).trans i2
    replace i3:wr.cell? (b (o+j * 9+3))=some (.bool u.p.s):=(X _).trans i3
    replace i4:wr.cell? (b (o+j * 9+4))=some (u.p.x:Value):=(X _).trans i4
    replace i5:=(X _).trans i5
    replace i6:=(X _).trans i6
    replace i7:=(X _).trans i7
    replace i8:=(X _).trans i8
    have kh:b < wr.heap.size:=Nat.lt_of_lt_of_le hb zp.size
    have xk:=(Below.refl wr.heap.size wr).alloc (zN _) (oby C u sc (.slice p6 m6 d6) (.slice p7 m7 d7) (.slice p8 m8 d8))
    obtain⟨V,hV⟩:∃ V,wr.alloc (oby C u sc (.slice p6 m6 d6) (.slice p7 m7 d7) (.slice p8 m8 d8))=V:=⟨_,rfl⟩
    have O:V.heap[wr.heap.size]?=some (oby C u sc (.slice p6 m6 d6) (.slice p7 m7 d7) (.slice p8 m8 d8)):=by rw [<-hV];exact Qb _ _ _ rfl
    rw [hV] at xk
    unfold oby at hV
    obtain⟨⟨v0,v1,v2,v3,v4⟩,⟨v5,v6,v7,v8⟩,vl⟩:=Qt O
    have nF:¬ F wr.heap.size:=fun e=>Nat.lt_irrefl _ (XO.fp.lt c.1.1 _ e)
    have nG:¬ G wr.heap.size:=fun e=>Nat.lt_irrefl _ (XO.fp.lt c.1.2.1 _ e)
    obtain rfl:pn.length=m6:=s6.len
    replace c:=c.ext xk
    have M:=zH (c.ext (Below.drew (Below.refl _ V)))
    clear hx zp X HA yv
    rcases (show C=0\/C=1\/C=2\/C=5\/(C ≠ 0/\C ≠ 1/\C ≠ 2/\C ≠ 5) by omega) with rfl|rfl|rfl|rfl|⟨e0,e1,e2,e5⟩
    case' inl =>
     rcases H:YY T d u with⟨z,T1,U⟩
     obtain⟨zz,K,za⟩:=Mi c.2.1 H
     replace za:=zH za
     go_wp2_with fail
     go_region_held3 (fun W=>W.cell? (wr.heap.size 1)=some (u.k:Value)/\W.cell? (wr.heap.size 2)=some (.string (str u.p.h))/\W.cell? (wr.heap.size 3)=some (.bool u.p.s)/\W.cell? (wr.heap.size 4)=some (u.p.x:Value)) (first|exact (Qt O).1.2|exact (Qt I).1.2|exact (Qt zb).1.2) (first
     |(go_at_call 17;go_must (refine (On (b:=false) M.out.1.1 M.out.2.1 u (by omega) H).mono ?_);rintro e w6 ⟨rfl,F6,zg,P⟩;have f:=M.out.1.GJ XO.fp zg P;have I:=(P.out nF vl).2.trans O)
     |(go_at_call 32;go_must (refine (On (b:=true) f.2.1 M.out.2.1 u (by omega) H).mono ?_);rintro e w7 ⟨rfl,G7,Z,J⟩;have A:=f.KO XO.fp Z J;have zb:=(J.out nG (Qa I)).2.trans I))
     have zi:Mt w N g r q p T1 U F6 G7 w7:=⟨A,zz,K.trans c.2.2⟩
     rw [za.out q,za.out p]
    case' inr.inl =>
     rcases H:YZ T d sc pn with⟨z,T1,U⟩
     obtain⟨zz,K,za⟩:=Mj c.2.1 (XO.ok c.1.1) c.2.2 H
     replace za:=zH za
     have yu:=zH (Hy sc p6 _ d6 pn V.drew (s6.ext M.out.1.below) (by omega))
     unfold sv at yu
     have xq:∀ p ∈ pn,p.h.length<=1000000:=fun p hp=>by have:=z3 p hp;omega
     go_wp2_with fail
     go_region_held3 (fun W=>W.cell? (wr.heap.size 5)=some (sc:Value)/\W.cell? (wr.heap.size 6)=some (.slice p6 pn.length d6)) (first|exact⟨(Qt O).2.1.1,(Qt O).2.1.2.1⟩|exact⟨(Qt I).2.1.1,(Qt I).2.1.2.1⟩|exact⟨(Qt zb).2.1.1,(Qt zb).2.1.2.1⟩|exact⟨(Qt yp).2.1.1,(Qt yp).2.1.2.1⟩) (first
     |(go_at_call 25;go_must (refine yu.out.mono ?_);rintro e w6 ⟨a9,c9,rfl,ho,zk⟩;have f:=M.out.ext zk;have I:=(zk.block _ vl).trans O;have zf:=AR.ZF ho)
     |(go_at_call 19;go_must (refine (Hp (b:=false) f.1.1 f.2.1 (by have:=f.2.2;omega) sc pn zf xq (by omega) H).mono ?_);rintro e w7 ⟨rfl,F7,Z,J⟩;have A:=f.1.GJ XO.fp Z J;have zb:=(J.out nF (Qa I)).2.trans I)
     |(go_at_call 33;go_must (refine (Hp (b:=true) A.2.1 f.2.1 (by have:=f.2.2;omega) sc pn (s6.ext A.below) xq (by omega) H).mono ?_);rintro e w8 ⟨rfl,G8,zy,zm⟩;have zs:=A.KO XO.fp zy zm;have yp:=(zm.out nG (Qa zb)).2.trans zb))
     have zi:Mt w N g r q p T1 U F7 G8 w8:=⟨zs,zz,K.trans c.2.2⟩
     rw [za.out q,za.out p]
    case' inr.inr.inl =>
     rcases H:Dd.arm d fs with⟨z,U⟩
     have K:=Ii d fs
     rw [H] at K
     go_wp2_with fail
     go_region_held3 (fun W=>W.cell? (wr.heap.size 7)=some (.slice p7 m7 d7)) (first|exact (Qt O).2.1.2.2.1|exact (Qt I).2.1.2.2.1|exact (Qt zb).2.1.2.2.1) (first
     |(go_at_call 26;go_must (refine (If (b:=false) M.out.1.1 (s7.ext M.out.1.below) H).mono ?_);rintro e w6 ⟨rfl,F6,zg,P⟩;have f:=M.out.1.GJ XO.fp zg P;have I:=(P.out nF vl).2.trans O)
     |(go_at_call 34;go_must (refine (If (b:=true) f.2.1 (s7.ext f.below) H).mono ?_);rintro e w7 ⟨rfl,G7,Z,J⟩;have A:=f.KO XO.fp Z J;have zb:=(J.out nG (Qa I)).2.trans I))
     have zi:Mt w N g r q p T U F6 G7 w7:=⟨A,c.2.1,K.trans c.2.2⟩
    case' inr.inr.inr.inl =>
     rcases H:AH.format d with⟨z,U⟩
     have K:=AH.PC d
     rw [H] at K
     go_wp2_with (first
     |(go_at_call 12;go_must (refine (Oo (b:=false) c.1.1 H).mono ?_);rintro e w6 ⟨rfl,F6,zg,P⟩;have f:=c.1.GJ XO.fp zg P)
     |(go_at_call 35;go_must (refine (Oo (b:=true) f.2.1 H).mono ?_);rintro e w7 ⟨rfl,G7,Z,J⟩;have A:=f.KO XO.fp Z J;have zi:Mt w N g r q p T U F6 G7 w7:=⟨A,c.2.1,K.trans c.2.2⟩))
    case' inr.inr.inr.inr =>
     replace e0:(C == 0)=false:=by simpa using e0
     replace e1:(C == 1)=false:=by simpa using e1
     replace e2:(C == 2)=false:=by simpa using e2
     replace e5:(C == 5)=false:=by simpa using e5
     obtain⟨F2,vj,xg⟩:=XO.forget c.1.1
     have xb:=c.1.GJ XO.fp vj xg
     obtain⟨G2,vk,vg⟩:=XO.forget xb.2.1
     have zc:=xb.KO XO.fp vk vg
     have vy:=(xg.out nF vl).1
     by_cases e4:C=4
     case' pos =>
      subst e4
      obtain⟨d2,zl⟩:∃ x,Dd.restart d ks=x:=⟨_,rfl⟩
      have zv:d2.st.length=N:=by rw [<-zl];exact (Rv d ks).trans c.2.2
      go_wp2_with fail
      refine (Hq (b:=false) zc.1 (s8.ext zc.below) (fun y hy hk e=>by have:=zc.2.2.2.1 _ e;subst hy;have:=s8.blt hk;omega) zl).mono ?_;rintro e w6 ⟨rfl,F6,zg,P⟩
      have f:=zc.GJ XO.fp zg P
      obtain⟨-,⟨-,-,-,v9⟩,kq⟩:=Qt ((P.out vy vl).2.trans O)
      go_wp2_with fail
      refine (Hq (b:=true) f.2.1 (s8.ext f.below) (fun y hy hk e=>by have:=f.2.2.2.2.1 _ e;subst hy;have:=s8.blt hk;omega) zl).mono ?_;rintro e W1 ⟨rfl,G7,Z,J⟩
      have A:=f.KO XO.fp Z J
      clear zc f
      go_wp2_with fail
     case' neg =>
      replace e4:(C == 4)=false:=by simpa using e4
      have zv:=c.2.2
      have A:=zc
      go_wp2_with fail
      obtain⟨d2,zl⟩:∃ x,x=d:=⟨_,rfl⟩
      obtain⟨W1,xh⟩:∃ x,x=V:=⟨_,rfl⟩
      rw [<-zl] at A zv
      rw [<-xh] at A O v0 vl
      rw [<-xh]
      clear zc zl
     all_goals
      clear c M
      obtain⟨R,hR⟩:∃ R,AH.EG d2=R:=⟨_,rfl⟩
      have K:R.2.2.2.st.length=N:=by rw [<-hR,AH.TL];exact zv
      refine (Dh (b:=false) A.1 (by omega) hR).mono ?_;rintro e w8 ⟨q1,a8,k8,F8,rfl,zy,zm,Y,zw,xo⟩
      have zs:=A.GJ XO.fp zy zm
      have yx:=XO.fp.lt A.2.1
      have kn:=zm.size
      obtain⟨⟨Q,LR⟩,xd⟩:∃ v,XW R=v:=⟨_,rfl⟩
      obtain⟨zR,xe⟩:∃ z,R.2.2.1=z:=⟨_,rfl⟩
      rw [xd] at Y zw ⊢
      rw [xe]
      dsimp only at Y zw ⊢
      obtain⟨nR,xn⟩:∃ n,LR.length=n:=⟨_,rfl⟩
      rw [xn] at Y ⊢
      have zt:=(Below.refl w8.heap.size w8).alloc (zN _) (.cells #[Q,.slice a8 nR k8] 44)
      have zh:=AE.new w8 Q (.slice a8 nR k8)
      obtain⟨WQ,vh⟩:∃ WQ,w8.alloc (.cells #[Q,.slice a8 nR k8] 44)=WQ:=⟨_,rfl⟩
      rw [vh] at zt zh
      have yc:=zs.ext XO.fp XO.fp zt
      replace Y:=Y.ext zt
      go_wp2_with fail
      refine (Dh (b:=true) yc.2.1 (by omega) hR).mono ?_;rintro e w9 ⟨q2,a9,k9,G9,rfl,xs,zx,zf,-,-⟩
      have yz:=yc.KO XO.fp xs zx
      replace Y:=AT.upd Y zx (fun x hx hl e=>by have:=zw x hx hl;have:=yx _ e;omega)
      replace zh:=AE.AI zh (zx.out (fun e=>by have:=yx _ e;omega) (Qa zh)).2
      rw [xd] at zf ⊢
      rw [xe]
      dsimp only at zf ⊢
      rw [xn] at zf ⊢
      have ze:=(Below.refl w9.heap.size w9).alloc (zN _) (.cells #[Q,.slice a9 nR k9] 44)
      have yj:=AE.new w9 Q (.slice a9 nR k9)
      obtain⟨WT,vi⟩:∃ WT,w9.alloc (.cells #[Q,.slice a9 nR k9] 44)=WT:=⟨_,rfl⟩
      rw [vi] at ze yj
      have xa:=yz.ext XO.fp XO.fp ze
      obtain⟨y0,y1⟩:=(AE.ext zh ze).cells
      obtain⟨y2,y3⟩:=yj.cells
      have y4:=Qa (AE.ext zh ze)
      have ya:=zH (Gb Q Q a8 a9 nR nR k8 k9 LR LR WT (Y.ext ze) (zf.ext ze))
      unfold sv at ya
      rw [decide_eq_true (show Q=Q/\LR=LR from ⟨rfl,rfl⟩)] at ya
      have yl:Mt w N g r q1 q2 R.1 R.2.2.2 F8 G9 WT:=⟨xa,zv ▸ xo,K⟩
      obtain⟨U,vo⟩:∃ x,R.2.2.2=x:=⟨_,rfl⟩
      obtain⟨T1,xf⟩:∃ x,R.1=x:=⟨_,rfl⟩
      rw [vo,xf] at yl
      rw [xf]
      clear A zs yc yz xa zy xs zm zx Y zf zw xo zt ze zh yj
      go_wp2_with fail
      refine ya.out.mono ?_;rintro e ku ⟨rfl,xz⟩
      have zi:=yl.ext xz
    all_goals
     obtain⟨dd,xl⟩:∃ x,Dd.dirty U=x:=⟨_,rfl⟩
     obtain⟨ob,xp⟩:∃ x,U.off=x:=⟨_,rfl⟩
     have kp:(ob != ob)=false:=by simp
     go_wp2_with (first
     |(go_at_call 37;go_must (refine (Iv (zi.ext (by first|exact Below.refl _ _|exact Below.drew (Below.refl _ _)))).mono ?_);rintro e kv ⟨rfl,va⟩;have zq:=Mt.ext (zi.ext (by first|exact Below.refl _ _|exact Below.drew (Below.refl _ _))) va)
     |(go_at_call 38;go_must (refine (Ig (b:=false) zq.1.1).mono ?_);rintro e vz ⟨rfl,rfl⟩;rw [xp])
     |(go_at_call 39;go_must (refine (Ig (b:=true) zq.1.2.1).mono ?_);rintro e vz ⟨rfl,rfl⟩;rw [xp])
     |(go_at_call 41;go_must (refine (Nz (b:=false) zq.1.1).mono ?_);rintro e kw ⟨kr,rfl,yn,vb⟩;have yk:=zq.ext vb;rw [xl] at yn)
     |(go_at_call 42;go_must (refine (Nz (b:=true) yk.1.2.1).mono ?_);rintro e kx ⟨kt,rfl,yo,ym⟩;have xw:=yk.ext ym;rw [xl] at yo;obtain⟨kb,ke,rfl,vd⟩:=(yn.ext ym).sl;obtain⟨kc,kf,rfl,ve⟩:=yo.sl)
     |(go_at_call 40;go_must (refine (Bg _ _ _ _ _ _ _ _ _ vd ve).mono ?_);rintro e ky ⟨rfl,vc⟩;rw [show (dd == dd)=true by simp];have xy:=xw.ext vc))
     go_roundw
     case rel=>exact⟨j+1,_,_,_,_,_,_,rfl,rfl,by go_num,by omega,xy⟩
     case measure=>simp [intOf];omega
   ·obtain rfl:j=m:=by omega
    obtain⟨fl,vp⟩:∃ x,d.st.flatten=x:=⟨_,rfl⟩
    have ys:=zH (Ra (b:=false) c.1.1)
    have yt:=zH (fun W (e:Below wr.heap.size wr W)=>Ra (b:=true) (XO.fp.ext c.1.2.1 e))
    rw [vp] at ys yt
    clear c
    go_wp2_with (first
    |(go_at_call 28;go_must (refine ys.out.mono ?_);rintro e w6 ⟨v6,rfl,vt,zk⟩)
    |(go_at_call 44;go_must (refine (yt.out _ zk).mono ?_);rintro e w7 ⟨v7,rfl,vu,yd⟩;obtain⟨a6,c6,rfl,vv,-⟩:=(vt.ext yd).sl;obtain⟨a7,c7,rfl,vw,-⟩:=vu.sl)
    |(go_at_call 43;go_must (refine (Rn _ _ _ _ _ _ _ _ _ vv vw).mono ?_);rintro e w8 ⟨rfl,rfl⟩;rw [show (fl == fl)=true by simp])
    |(go_at_call 10;go_must (refine (HA.out _).mono ?_);rintro e w9 ⟨rfl,vm⟩))
    go_ret
    exact⟨rfl,zp.trans ((zk.trans ((yd.trans (vm.mono yd.size)).mono zk.size)).mono zp.size)⟩
end
end Go.Proofs.YtmanejniepghlaaGreatDoor
