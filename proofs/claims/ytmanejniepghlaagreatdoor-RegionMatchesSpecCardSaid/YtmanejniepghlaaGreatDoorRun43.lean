import Derived.Test.YtmanejniepghlaaGreatDoorRun17
import Derived.Test.YtmanejniepghlaaGreatDoorRun21
import Derived.Test.YtmanejniepghlaaGreatDoorRun42
import Derived.Test.YtmanejniepghlaaGreatDoorRun20
import Derived.Test.YtmanejniepghlaaGreatDoorRun23
import Derived.RegionTactic
import Derived.BigRegion
import Derived.Test.YtmanejniepghlaaGreatDoorRun39
import Derived.Test.YtmanejniepghlaaGreatDoorRun22
set_option maxHeartbeats 16000000
set_option maxRecDepth 100000
namespace Go.Proofs.YtmanejniepghlaaGreatDoor
section
open Go.RowKit
open Dd (Dk)
variable {F:Nat->Prop} {d:Dk} {g:Nat} {w:World} {l:AH.DK} {slot:Int} {s:Su.S}
def FI (w:World) (q g:Nat) (l:AH.DK) (slot:Int) (s:Su.S) (lv:Value) (fl:Bool):Prop :=
 w.heap[q]?=some (.cells #[.pointer g,l.cap,.int .i64 (l.sf 0),l.sc,.int .i64 (l.sf 1),l.sc,.int .i64 (l.lf 0),l.lc,.int .i64 (l.lf 1),l.lc,
  .int .i64 slot,.int .u64 s.gen,s.act,.int .u32 s.AA,s.len,.int .u32 s.sum,lv,.bool fl] 108 (0,0))
section
variable {w w':World} {q g:Nat} {l:AH.DK} {slot:Int} {s:Su.S} {lv:Value} {fl:Bool}
theorem FI.lt (h:FI w q g l slot s lv fl):q < w.heap.size:=Qa h
theorem FI.same (h:FI w q g l slot s lv fl) (e:w'.heap[q]?=w.heap[q]?):FI w' q g l slot s lv fl:=e.trans h
theorem FI.ext (h:FI w q g l slot s lv fl) (e:Below w.heap.size w w'):FI w' q g l slot s lv fl:=h.same (e.block _ h.lt)
theorem FI.free (h:FI w q g l slot s lv fl) (k:Nat):w.frozen? (q k)=false:=frozen_of_row _ _ _ _ _ h
theorem FI.at (h:FI w q g l slot s lv fl) (k:Nat):w.cell? (q k)=(#[.pointer g,l.cap,.int .i64 (l.sf 0),l.sc,.int .i64 (l.sf 1),l.sc,.int .i64 (l.lf 0),l.lc,.int .i64 (l.lf 1),l.lc,
 .int .i64 slot,.int .u64 s.gen,s.act,.int .u32 s.AA,s.len,.int .u32 s.sum,lv,.bool fl]:Array Value)[k]?:=cell_of_row _ _ _ _ _ _ h
theorem FI.kept {F':Nat->Prop} {W:World} (h:FI W q g l slot s lv fl) (u:AD F W F' w) (a:¬ F q):FI w q g l slot s lv fl:=h.same (u.block q h.lt a)
end
def AH.EI (l:AH.DK) (s:Su.S) (d:Dk):(Int × List AJ) × Int × Dk :=
 if Ex.size l.sc < s.len then ((0,[]),13,d) else
  match Ex.read d (l.sf s.act.toNat) l.sc 0 s.len with
 |(b,z,d1)=>if z ≠ 0 then ((0,[]),z,d1) else if AH.crc b ≠ s.sum\/(Sp.dec b).2 ≠ 0\/l.cap < (Sp.dec b).1.2.length then ((0,[]),13,d1) else ((Sp.dec b).1,0,d1)
theorem AH.PK {a b:List UInt8} (h:Su.choose a b=(slot,s,0)):AH.KC l a b d =
 if (AH.EI l s d).2.1 ≠ 0 then AH.bad (AH.EI l s d).2.1 (AH.EI l s d).2.2 else
  AH.KD l slot.toNat s (AH.EI l s d).1.1 (AH.EI l s d).1.2 (AO.open (AH.EI l s d).2.2 (l.lf s.act.toNat) l.lc s.AA):=by
 unfold AH.KC AH.EI
 rw [h]
 dsimp only
 rw [if_neg (by simp)]
 split
 ·rfl
 ·unfold AH.QM
  rcases hr:Ex.read d (l.sf s.act.toNat) l.sc 0 s.len with⟨b,z,c⟩
  dsimp only
  split
  ·rfl
  ·split
   ·rfl
   ·rfl
theorem DP.set (h:DP g d F w) {b:Nat} (e:¬ F b) (o:Nat) (v:Value):DP g d F (w.setCell (b o) v):=by
 obtain⟨s,m,a,fn,c,h⟩:=h;exact⟨s,m,a,fn,c,h.other e o v⟩
def GG (g:Nat) (F:Nat->Prop) (w:World) (r:(Int × List AJ) × Int × Dk) (e:Ending) (w':World):Prop :=
 ∃ a k,e=.returned (.tuple #[.agg #[r.1.1,.slice a r.1.2.length k],r.2.1])/\AT w' a r.1.2.length k r.1.2/\(∀ x,a=some x->w.heap.size<=x.block)/\DP g r.2.2 F w'/\AD F w F w'
theorem GG.fin {b:World} {c:Int} {L:List AJ} {z:Int} {f:Dk} {a:Option Addr} {k:Nat} (hd:DP g f F b) (hu:AD F w F b) (h:¬ F w.heap.size) (hs:AT b a L.length k L) (hn:∀ x,a=some x->w.heap.size<=x.block) {j:Int} {n:Value} (m:AE b w.heap.size j n) (e i:Value) :
 GG g F w ((c,L),z,f) (.returned (.tuple #[.agg #[c,.slice a L.length k],z])) ((b.setCell w.heap.size e).setCell (w.heap.size 1) i) :=
 ⟨a,k,rfl,hs.EH m 0 1 e i,hn,(hd.set h _ _).set h _ _,(hu.setCell (.inr (zN _)) _ _).setCell (.inr (zN _)) _ _⟩
theorem Gm {q:Nat} {lv:Value} {fl:Bool} {r:Nat} (xd:r < 2) (za:s.act=(r:Int)) (hq:FI w q g l slot s lv fl) (hd:DP g d F w) (yv:¬ F q)
 (hf:ib (l.sf r)) (hc:ib l.sc) (yx:0<=s.len/\s.len<=262144) (yk:Ex.size l.sc<=100000) {R:(Int × List AJ) × Int × Dk} (a:AH.EI l s d=R) :
 Calls Tryz.prog 114 #[.pointer q] w (GG g F w R):=by
 have U:=(Below.refl w.heap.size w).alloc (zN _) (.cells #[.int .i64 0,.slice none 0 0] 44)
 have zr:=AE.new w 0 (.slice none 0 0)
 have yh:(w.alloc (.cells #[.int .i64 0,.slice none 0 0] 44)).heap.size=w.heap.size+1:=by simp
 obtain⟨I,zn⟩:∃ I,I=w.alloc (.cells #[.int .i64 0,.slice none 0 0] 44):=⟨_,rfl⟩
 have yp:=zH zn
 rw [<-zn] at U zr yh
 clear zn
 have O:=hq.ext U
 have K:¬ F w.heap.size:=fun e=>Nat.lt_irrefl _ (hd.lt _ e)
 have nE:¬ F (w.heap.size+1):=fun e=>by have:=hd.lt _ e;omega
 have xb:=hd.ext U
 obtain⟨sf,zt⟩:∃ x,l.sf r=x:=⟨_,rfl⟩
 unfold AH.EI at a
 rw [za,Int.toNat_natCast,zt] at a
 rw [zt] at hf
 have zq:=O.ext ((Below.refl _ I).alloc (zN _) (.cells #[.int .i64 0,.int .i64 0] 23))
 have yj:=O.lt
 have c0:I.cell? q=some (.pointer g):=O.at 0
 have c1:=(O.at 12).trans (congrArg some (congrArg (Value.int .i64) za))
 have c4:=(zq.at 12).trans (congrArg some (congrArg (Value.int .i64) za))
 have zl:∀ W,FI W q g l slot s lv fl->W.cell? (q (2+2*r))=some (sf:Value)/\W.cell? (q (3+2*r))=some (l.sc:Value):=fun W h=>by
  rcases (show r=0\/r=1 by omega) with rfl|rfl <;> exact⟨(h.at _).trans (by rw [<-zt];rfl),h.at _⟩
 obtain⟨c2,X⟩:=zl _ O
 obtain⟨c5,c6⟩:=zl _ zq
 clear O zq za zl
 rcases (show r=0\/r=1 by omega) with rfl|rfl
 all_goals
  go_in
  go_wp2_with fail
  rw [<-yp.out]
  go_region
  obtain⟨f,zg⟩:∃ f,f=(I.alloc (.cells #[sf,l.sc] 23)).drew:=⟨_,rfl⟩
  have zz:Below I.heap.size I f:=by rw [zg];exact ((Below.refl _ _).alloc (zN _) _).drew
  have yg:f.heap[w.heap.size+1]?=some (.cells #[sf,l.sc] 23 (0,0)):=by rw [zg];exact Qb _ _ _ yh.symm
  have C:Below w.heap.size w f:=U.trans (zz.mono U.size)
  have yq:=zH zg
  rw [<-yq.out]
  clear zg c0 c1 c2 X c4 c5 c6 yj
  have ye:AE f w.heap.size 0 (.slice none 0 0):=(zz.block _ (Qa zr)).trans zr
  have M:∀ W,Below f.heap.size f W->FI W q g l slot s lv fl/\W.heap[w.heap.size+1]?=some (.cells #[sf,l.sc] 23 (0,0))/\AE W w.heap.size 0 (.slice none 0 0):=fun W e=>⟨(hq.ext C).ext e,(e.block _ (Qa yg)).trans yg,(e.block _ (Qa ye)).trans ye⟩
  have o:=zH M
  have yb:=hd.ext C
  obtain⟨sz,hsz⟩:∃ sz,Ex.size l.sc=sz:=⟨_,rfl⟩
  have zy:=zH (fun W=>show Calls Tryz.prog 110 #[.agg #[sf,l.sc]] W fun e w'=>e=.returned (sz:Value)/\Below W.heap.size W w' by rw [<-hsz];exact Zj _ _ hc W)
  rw [hsz] at a
  have zj:∀ W,Below f.heap.size f W->W.cell? (q 14)=some (s.len:Value)/\W.cell? (w.heap.size+1:Nat)=some (sf:Value)/\W.cell? ((w.heap.size+1) 1)=some (l.sc:Value):=fun W e=>⟨(M W e).1.at 14,cell_of_row _ _ _ _ _ _ (M W e).2.1,cell_of_row _ _ _ _ _ _ (M W e).2.1⟩
  have zd:=zH zj
  obtain⟨y1,y2,y3⟩:=zj f (Below.refl _ _)
  have xe:=M f (Below.refl _ _)
  rw [hsz] at yk
  clear M zj hsz
  by_cases zw:sz < s.len
  ·rw [if_pos zw] at a
   subst a
   go_wp2_with fail
   go_region_held3 (fun W=>W.cell? (q 14)=some (s.len:Value)/\W.cell? (w.heap.size+1:Nat)=some (sf:Value)/\W.cell? ((w.heap.size+1) 1)=some (l.sc:Value)) (first|exact⟨y1,y2,y3⟩|exact zd.out _ (by assumption)) (first
   |(go_at_call 110;go_must (refine (zy.out _).mono ?_);rintro e m ⟨rfl,zo⟩;have i:Below f.heap.size f m:=(Below.drew (Below.refl _ f)).trans zo;obtain⟨x0,x1⟩:=AE.cells (o.out m i).2.2;have f0:=AE.frz (o.out m i).2.2 0;have f1:=AE.frz (o.out m i).2.2 1;obtain⟨g1,P,g3⟩:=zd.out m i;have g0:m.cell? q=some (.pointer g):=(o.out m i).1.at 0))
   go_wp2_with fail
   refine DO rfl rfl (AE.BO ((o.out m i).2.2) 0 (.slice none 0 0)) rfl rfl ?_
   exact GG.fin (L:=[]) (yb.ext i) (AD.AL (F:=F) (C.trans (i.mono C.size))) K (AT.nil _) (fun x t=>by cases t) (o.out m i).2.2 _ _
  ·rw [if_neg zw] at a
   obtain⟨b,z,d1,zi⟩:∃ b z d1,Ex.read d sf l.sc 0 s.len=(b,z,d1):=⟨_,_,_,rfl⟩
   rw [zi] at a
   dsimp only at a
   have yn:=zH (fun W (e:Below f.heap.size f W)=>(yb.ext e).eread sf l.sc 0 s.len hf hc (by unfold ib;omega) (by unfold ib;omega) zi)
   have ym:=zH (fun (W H:World) (e:Below f.heap.size f W) (u:AD F W F H)=>show H.cell? q=some (.pointer g)/\H.cell? (q 14)=some (s.len:Value)/\H.cell? (w.heap.size+1:Nat)=some (sf:Value)/\H.cell? ((w.heap.size+1) 1)=some (l.sc:Value)/\FI H q g l slot s lv fl/\AE H w.heap.size 0 (.slice none 0 0) from by
    obtain⟨k1,k2,k3⟩:=o.out W e
    have zu:=k1.kept u yv
    have yi:=(u.block _ (Qa k2) nE).trans k2
    exact⟨zu.at 0,zu.at 14,cell_of_row _ _ _ _ _ _ yi,cell_of_row _ _ _ _ _ _ yi,zu,(u.block _ (Qa k3) K).trans k3⟩)
   have yo:=zH (show z=0->b.length<=100000 from fun Y=>by subst Y;have:=(Ex.CS hd.ok zi).1;omega)
   clear zi
   go_wp2_with fail
   go_region_held3 (fun W=>W.cell? (q 14)=some (s.len:Value)/\W.cell? (w.heap.size+1:Nat)=some (sf:Value)/\W.cell? ((w.heap.size+1) 1)=some (l.sc:Value)) (first|exact⟨y1,y2,y3⟩|exact zd.out _ (by assumption)) (first
   |(go_at_call 110;go_must (refine (zy.out _).mono ?_);rintro e m ⟨rfl,zo⟩;have i:Below f.heap.size f m:=(Below.drew (Below.refl _ f)).trans zo;obtain⟨x0,x1⟩:=AE.cells (o.out m i).2.2;have f0:=AE.frz (o.out m i).2.2 0;have f1:=AE.frz (o.out m i).2.2 1;obtain⟨g1,P,g3⟩:=zd.out m i;have g0:m.cell? q=some (.pointer g):=(o.out m i).1.at 0))
   clear y1 y2 y3
   go_wp2_with fail
   go_region_held3 (fun W=>W.cell? q=some (.pointer g)/\W.cell? (q 14)=some (s.len:Value)/\W.cell? (w.heap.size+1:Nat)=some (sf:Value)/\W.cell? ((w.heap.size+1) 1)=some (l.sc:Value)) (first|exact⟨g0,g1,P,g3⟩|exact⟨j0,j1,j2,j3⟩) (first
   |(go_at_call 127;go_must (refine (yn.out _ (Below.drew i)).mono ?_);rintro e G ⟨v3,rfl,ys,yc,zm⟩;obtain⟨j0,j1,j2,j3,j4,Q⟩:=ym.out _ G (Below.drew i) zm;obtain⟨x4,x5⟩:=AE.cells Q;have f4:=AE.frz Q 0;have f5:=AE.frz Q 1;obtain⟨a3,X,rfl,zs,xc⟩:=ys.sl))
   obtain⟨N,hN⟩:∃ N,b.length=N:=⟨_,rfl⟩
   rw [hN] at zs
   by_cases Y:z=0
   ·subst Y
    rw [if_neg (by simp)] at a
    have yr:N<=100000:=by have:=(yo.out rfl);omega
    have zc:=zH (Zc true a3 N X b G zs yr)
    unfold DM at zc
    rcases yd:Sp.dec b with⟨⟨c,L⟩,z4⟩
    rw [yd] at zc a
    simp only at a zc
    have ze:=zH (show AD F w F G from (AD.AL (C.trans ((Below.drew i).mono C.size))).trans zm)
    clear yd g0 g1 P g3
    rw [hN]
    go_wp2_with fail
    refine zc.out.mono ?_;rintro e T ⟨a4,Z,rfl,yf,yt,yu⟩
    obtain⟨B,zk⟩:∃ n,L.length=n:=⟨_,rfl⟩
    rw [zk] at yf a ⊢
    have zv:Below G.heap.size G T:=yt
    obtain⟨k,zh⟩:∃ k,k=T.alloc (.cells #[c,.slice a4 B Z] 44):=⟨_,rfl⟩
    have ya:Below T.heap.size T k:=by rw [zh];exact (Below.refl _ _).alloc (zN _) _
    have zx:AE k T.heap.size c (.slice a4 B Z):=by rw [zh];exact AE.new T c (.slice a4 B Z)
    have zf:=zH zh
    clear zh
    have A:Below G.heap.size G k:=zv.trans (ya.mono zv.size)
    obtain⟨t0,t1⟩:=zx.cells
    have u1:k.cell? (q 15)=some (.int .u32 s.sum):=(j4.ext A).at 15
    have u2:k.cell? (q 1)=some (l.cap:Value):=(j4.ext A).at 1
    have HJ:=zH (fun W (e:Below k.heap.size k W)=>show DP g d1 F W/\AD F w F W/\AE W w.heap.size 0 (.slice none 0 0) from ⟨yc.ext (A.trans (e.mono A.size)),ze.out.ext (A.trans (e.mono A.size)),Q.ext (A.trans (e.mono A.size))⟩)
    have j:=zH (fun nq=>HJ.out (k.drewN nq) ⟨rfl,rfl,rfl,zN _,fun _ _=>rfl⟩)
    obtain⟨J,zp⟩:∃ J,AH.crc b=J:=⟨_,rfl⟩
    have zb:=zH (fun nq=>show Calls Tryz.prog 48 #[.slice a3 N X] (k.drewN nq) fun e w'=>e=.returned (.int .u32 (J:Nat))/\k.drewN nq=w' by rw [<-zp];exact Xr a3 N X b _ ((zs.ext A).ext ⟨rfl,rfl,rfl,zN _,fun _ _=>rfl⟩))
    rw [zp] at a
    have yy:=Qa zx
    obtain⟨x6,x7⟩:=AE.cells (j.out 0).2.2
    have f6:=AE.frz (j.out 0).2.2
    have xf:k.cell? w.heap.size=some (.int .i64 0):=x6
    have xg:k.cell? (w.heap.size 1)=some (.slice none 0 0):=x7
    have yz:k.frozen? w.heap.size=false:=f6 0
    have xa:k.frozen? (w.heap.size 1)=false:=f6 1
    have k0:(0:Int)<=(B:Int):=by omega
    clear x4 x5 f4 f5 zp x6 x7 f6
    by_cases y:J=s.sum
    ·subst y
     have g1:((s.sum:Int) == (s.sum:Int))=true:=by simp
     by_cases p:z4=0
     ·subst p
      by_cases h3:l.cap < B
      ·rw [if_pos (.inr (.inr h3))] at a
       subst a
       have P:decide ((l.cap:Int) < (B:Int))=true:=by simp;omega
       go_wp2_with fail
       rw [<-zf.out]
       go_quiet (first|(go_at_call 48;exact Calls.quiet_of_same ((zb.out _).mono fun _ _ ⟨y,p⟩=>⟨y,p.symm⟩)))
       go_wp2_with fail
       refine DO rfl rfl (AE.BO (j.out nq).2.2 0 (.slice none 0 0)) rfl rfl ?_
       exact GG.fin (L:=[]) (j.out nq).1 (j.out nq).2.1 K (AT.nil _) (fun x t=>by cases t) (j.out nq).2.2 _ _
      ·rw [if_neg (by simp;omega)] at a
       subst a
       have P:decide ((l.cap:Int) < (B:Int))=false:=by simp;omega
       have yl:=zH zk
       clear zk
       go_wp2_with fail
       rw [<-zf.out]
       go_quiet (first|(go_at_call 48;exact Calls.quiet_of_same ((zb.out _).mono fun _ _ ⟨y,p⟩=>⟨y,p.symm⟩)))
       go_wp2_with fail
       refine DO rfl rfl (AE.BO (j.out nq).2.2 c (.slice a4 B Z)) rfl rfl ?_
       have yw:AT (k.drewN nq) a4 B Z L:=(yf.ext ya).ext ⟨rfl,rfl,rfl,zN _,fun _ _=>rfl⟩
       obtain rfl:=yl.out
       exact GG.fin (j.out nq).1 (j.out nq).2.1 K yw (fun x t=>by have:=yu x t;have:=ze.out.size;omega) (j.out nq).2.2 _ _
     ·rw [if_pos (.inr (.inl p))] at a
      subst a
      have P:(z4 == 0)=false:=by simpa using p
      go_wp2_with fail
      rw [<-zf.out]
      go_quiet (first|(go_at_call 48;exact Calls.quiet_of_same ((zb.out _).mono fun _ _ ⟨y,p⟩=>⟨y,p.symm⟩)))
      go_wp2_with fail
      refine DO rfl rfl (AE.BO (j.out nq).2.2 0 (.slice none 0 0)) rfl rfl ?_
      exact GG.fin (L:=[]) (j.out nq).1 (j.out nq).2.1 K (AT.nil _) (fun x t=>by cases t) (j.out nq).2.2 _ _
    ·rw [if_pos (.inl y)] at a
     subst a
     have g1:((J:Int) == (s.sum:Int))=false:=by simp;omega
     have g3:((J:Int) != (s.sum:Int))=true:=by simp;omega
     have g4:(J == s.sum)=false:=by simp;omega
     go_wp2_with fail
     rw [<-zf.out]
     go_quiet (first|(go_at_call 48;exact Calls.quiet_of_same ((zb.out _).mono fun _ _ ⟨y,p⟩=>⟨y,p.symm⟩)))
     go_wp2_with fail
     refine DO rfl rfl (AE.BO (j.out nq).2.2 0 (.slice none 0 0)) rfl rfl ?_
     exact GG.fin (L:=[]) (j.out nq).1 (j.out nq).2.1 K (AT.nil _) (fun x t=>by cases t) (j.out nq).2.2 _ _
   ·rw [if_pos Y] at a
    subst a
    have t1:(z == 0)=false:=by simpa using Y
    have ze:=zH (show AD F w F G from (AD.AL (C.trans ((Below.drew i).mono C.size))).trans zm)
    go_wp2_with fail
    refine DO rfl rfl (AE.BO Q 0 (.slice none 0 0)) rfl rfl ?_
    exact GG.fin (L:=[]) yc ze.out K (AT.nil _) (fun x t=>by cases t) Q _ _
end
section
open Go.RowKit
open Dd (Dk)
variable {w w' wr wr':World} {B Q b base g p q:Nat} {l:AH.DK} {F F10:Nat->Prop} {d d':Dk} {s sp:Su.S} {c sl slot:Int} {lv vr:Value} {fl:Bool} {lg:AO.L} {ps:List (List UInt8)}
def QV (g n:Nat) (F:Nat->Prop) (w:World) (R:AH.FY) (e:Ending) (w':World):Prop :=
 match R with
|(none,_,z,d')=>z ≠ 0/\∃ c a m k f,e=.returned (.tuple #[.pointer none,.agg #[(c:Int),.slice a m k],z])/\DP g d' f w'/\AD F w f w'
|(some S,(c,L),z,d')=>z=0/\∃ q a k f,e=.returned (.tuple #[.pointer (q:Nat),.agg #[c,.slice a L.length k],z])/\PS g q S d' f w'/\AD F w f w'/\AT w' a L.length k L/\(∀ x,a=some x->L ≠ []->¬ f x.block/\w.heap.size<=x.block) ∧
  AH.Ok n S/\AN.AK c L=true/\L.length<=S.lay.cap/\w.heap.size<=q
theorem QV.err {n:Nat} {F':Nat->Prop} {W:World} {z:Int} (h:z ≠ 0) (hd:DP g d' F' W) (hu:AD F w F' W) (e:¬ F' w.heap.size) (c:Int) (a:Option Addr) (m k:Nat) (f i:Value) :
 QV g n F w (AH.bad z d') (.returned (.tuple #[.pointer none,.agg #[c,.slice a m k],z])) ((W.setCell w.heap.size f).setCell (w.heap.size 1) i).drew :=
 ⟨h,c,a,m,k,F',rfl,((hd.set e _ _).set e _ _).ext (Below.drew (Below.refl _ _)),((hu.setCell (.inr (zN _)) _ _).setCell (.inr (zN _)) _ _).drew⟩
theorem FI.lay (l:AH.DK) (h:w.heap[q]?=some (.cells #[.pointer g,.int .i64 0,.int .i64 0,.int .i64 0,.int .i64 0,.int .i64 0,.int .i64 0,.int .i64 0,.int .i64 0,.int .i64 0,.int .i64 0,.int .u64 0,.int .i64 0,.int .u32 0,.int .i64 0,.int .u32 0,.pointer none,.bool false] 108 (0,0))) :
 FI (((((((((w.setCell (q 1) (l.cap:Value)).setCell (q 2) (.int .i64 (l.sf 0))).setCell (q 3) (l.sc:Value)).setCell (q 4) (.int .i64 (l.sf 1))).setCell (q 5) (l.sc:Value)).setCell (q 6) (.int .i64 (l.lf 0))).setCell (q 7) (l.lc:Value)).setCell (q 8) (.int .i64 (l.lf 1))).setCell (q 9) (l.lc:Value)) q g l 0 Su.zero (.pointer none) false:=by
 have a:=heap_setCell_same _ q 9 _ _ (l.lc:Value) (heap_setCell_same _ q 8 _ _ (.int .i64 (l.lf 1)) (heap_setCell_same _ q 7 _ _ (l.lc:Value) (heap_setCell_same _ q 6 _ _ (.int .i64 (l.lf 0)) (heap_setCell_same _ q 5 _ _ (l.sc:Value) (heap_setCell_same _ q 4 _ _ (.int .i64 (l.sf 1)) (heap_setCell_same _ q 3 _ _ (l.sc:Value) (heap_setCell_same _ q 2 _ _ (.int .i64 (l.sf 0)) (heap_setCell_same w q 1 _ _ (l.cap:Value) h))))))))
 simp only [List.setIfInBounds_toArray,List.set] at a
 exact a
theorem FI.sup (h:FI w q g l slot s lv fl) (e:Int) (a:Su.S) :
 FI ((((((w.setCell (q 10) (e:Value)).setCell (q 11) (.int .u64 a.gen)).setCell (q 12) (a.act:Value)).setCell (q 13) (.int .u32 a.AA)).setCell (q 14) (a.len:Value)).setCell (q 15) (.int .u32 a.sum)) q g l e a lv fl:=
 heap_setCell_same _ q 15 _ _ _ (heap_setCell_same _ q 14 _ _ _ (heap_setCell_same _ q 13 _ _ _ (heap_setCell_same _ q 12 _ _ _ (heap_setCell_same _ q 11 _ _ _ (heap_setCell_same _ q 10 _ _ _ h)))))
theorem FI.MY (h:FI w q g l slot s lv fl) (v:Value):FI (w.setCell (q 16) v) q g l slot s v fl :=
 heap_setCell_same _ q 16 _ _ _ h
theorem DP.but (h:DP g d F w) (f:¬ F b) (k:BQ b w w'):DP g d F w' :=
 h.AI (fun x a=>k.block x (h.lt x a) (fun e=>f (e ▸ a))) k.size
theorem AE.but {v:Value} (h:AE w B c v) (a:B ≠ b) (k:BQ b w w'):AE w' B c v:=h.AI (k.block B (Qa h) a)
theorem AH.TX (l:AH.DK) (s:Su.S) (d:Dk):(AH.EI l s d).2.2.st.length=d.st.length:=by
 unfold AH.EI
 split
 ·rfl
 ·have a:=Ex.BM d (l.sf s.act.toNat) l.sc 0 s.len
  rcases e:Ex.read d (l.sf s.act.toNat) l.sc 0 s.len with⟨b,z,f⟩
  rw [e] at a
  dsimp only at a ⊢
  split
  ·exact a
  ·split
   ·exact a
   ·exact a
theorem AH.TW {L:List AJ} (h:AH.EI l s d=((c,L),0,d')):AN.AK c L=true/\L.length<=l.cap:=by
 unfold AH.EI at h
 split at h
 ·cases h
 ·rcases f:Ex.read d (l.sf s.act.toNat) l.sc 0 s.len with⟨b,z,k⟩
  rw [f] at h
  dsimp only at h
  split at h
  ·rename_i a
   have:z=0:=congrArg (fun x=>x.2.1) h
   exact absurd this a
  ·split at h
   ·cases h
   ·rename_i h2
    have e:(Sp.dec b).1=(c,L):=congrArg (fun x=>x.1) h
    have i:(Sp.dec b).2=0:=by
     by_cases a:(Sp.dec b).2=0
     ·exact a
     ·exact absurd (.inr (.inl a)) h2
    refine⟨(Sp.AY (Prod.ext e i)).1,?_⟩
    rw [e] at h2
    dsimp only at h2
    by_cases j:L.length<=l.cap
    ·exact j
    ·exact absurd (.inr (.inr (by omega))) h2
theorem FI.logc (h:FI w q g l slot s lv fl) {r:Nat} (hr:r < 2) (a:s.act=(r:Int)) :
 w.cell? (q 12)=some (r:Value)/\w.cell? (q (6+r * 2))=some (.int .i64 (l.lf r))/\w.cell? (q (6+r * 2+1))=some (l.lc:Value)/\w.cell? (q 13)=some (.int .u32 (s.AA:Nat)):=by
 refine⟨by rw [h.at 12,<-a];rfl,?_,?_,h.at 13⟩
 ·rcases (show r=0\/r=1 by omega) with e|e
  ·subst e;exact h.at 6
  ·subst e;exact h.at 8
 ·rcases (show r=0\/r=1 by omega) with e|e
  ·subst e;exact h.at 7
  ·subst e;exact h.at 9
structure VO (g p Q B base:Nat) (F F10:Nat->Prop) (l:AH.DK) (sl:Int) (sp:Su.S) (lg:AO.L) (ps:List (List UInt8)) (vr:Value) (d:Dk) (w wr:World):Prop where
 dp:DP g d F10 wr
 lb:LB wr p g lg
 sb:FI wr Q g l sl sp (.pointer p) false
 bx:AE wr B 0 (.slice none 0 0)
 rc:BR base wr vr ps
 up:AD F w F10 wr
theorem VO.ext (h:VO g p Q B base F F10 l sl sp lg ps vr d w wr) (e:Below wr.heap.size wr wr'):VO g p Q B base F F10 l sl sp lg ps vr d w wr' :=
 ⟨h.dp.ext e,h.lb.ext e,h.sb.ext e,h.bx.ext e,h.rc.ext e,h.up.ext e⟩
theorem VO.but {T:Nat} (h:VO g p Q B base F F10 l sl sp lg ps vr d w wr) (k:BQ T wr wr') (a:¬ F10 T) (e:p ≠ T) (f:Q ≠ T) (i:B ≠ T) (n:T < base) (j:w.heap.size<=T):VO g p Q B base F F10 l sl sp lg ps vr d w wr' :=
 ⟨h.dp.but a k,h.lb.same (k.block _ h.lb.lt e),h.sb.same (k.block _ h.sb.lt f),h.bx.but i k,h.rc.keep (fun x o m=>k.block x m (by omega)),h.up.but (.inr j) k⟩
def YK (g p Q B base T:Nat) (F F10:Nat->Prop) (l:AH.DK) (sl:Int) (sp:Su.S) (lg:AO.L) (ps:List (List UInt8)) (vr:Value) (d:Dk) (w:World) (c:Int) (FY:Option (List AJ)) (k:Nat) (wr:World):Prop :=
 VO g p Q B base F F10 l sl sp lg ps vr d w wr/\∃ a n m L,AE wr T c (.slice a n m)/\AT wr a n m L/\AH.replay l.cap c L (ps.drop k)=FY/\AN.AK c L=true/\L.length<=l.cap/\(∀ x,a=some x->L ≠ []->¬ F10 x.block/\x.block ≠ p/\x.block ≠ Q/\x.block ≠ T/\w.heap.size<=x.block)
theorem Ll (hd:DP g d F w) (hn:d.st.length<=1000) {R:AH.FY} (a:AH.EG d=R) :
 Calls Tryz.prog 55 #[.pointer g] w (QV g d.st.length F w R):=by
 have U:¬ F w.heap.size:=fun e=>Nat.lt_irrefl _ (hd.lt _ e)
 have X:¬ F (w.heap.size+1):=fun e=>by have:=hd.lt _ e;omega
 have nT:¬ F (w.heap.size+2):=fun e=>by have:=hd.lt _ e;omega
 have z0:(w.alloc (.cells #[.int .i64 0,.slice none 0 0] 44)).heap.size=w.heap.size+1:=by simp
 have z1:((w.alloc (.cells #[.int .i64 0,.slice none 0 0] 44)).alloc (.cells #[.pointer g,.int .i64 0,.int .i64 0,.int .i64 0,.int .i64 0,.int .i64 0,.int .i64 0,.int .i64 0,.int .i64 0,.int .i64 0,.int .i64 0,.int .u64 0,.int .i64 0,.int .u32 0,.int .i64 0,.int .u32 0,.pointer none,.bool false] 108)).heap.size=w.heap.size+2:=by simp
 obtain⟨W0,yg⟩:∃ W0,W0=((w.alloc (.cells #[.int .i64 0,.slice none 0 0] 44)).alloc (.cells #[.pointer g,.int .i64 0,.int .i64 0,.int .i64 0,.int .i64 0,.int .i64 0,.int .i64 0,.int .i64 0,.int .i64 0,.int .i64 0,.int .i64 0,.int .u64 0,.int .i64 0,.int .u32 0,.int .i64 0,.int .u32 0,.pointer none,.bool false] 108)).alloc (.cells #[.int .i64 0,.slice none 0 0] 44):=⟨_,rfl⟩
 have zx:Below w.heap.size w W0:=by rw [yg];exact (((Below.refl _ _).alloc (zN _) _).alloc (by omega) _).alloc (by omega) _
 have qf:AE W0 w.heap.size 0 (.slice none 0 0):=by
  unfold AE
  rw [yg,Qd _ _ _ (by omega),Qd _ _ _ (by omega),Qb _ _ _ rfl]
 have xh:W0.heap[w.heap.size+1]?=some (.cells #[.pointer g,.int .i64 0,.int .i64 0,.int .i64 0,.int .i64 0,.int .i64 0,.int .i64 0,.int .i64 0,.int .i64 0,.int .i64 0,.int .i64 0,.int .u64 0,.int .i64 0,.int .u32 0,.int .i64 0,.int .u32 0,.pointer none,.bool false] 108 (0,0)):=by
  rw [yg,Qd _ _ _ (by omega),Qb _ _ _ z0.symm]
 have qn:AE W0 (w.heap.size+2) 0 (.slice none 0 0):=by
  unfold AE
  rw [yg,Qb _ _ _ z1.symm]
 have qd:=zH yg
 clear yg z0 z1
 have zb:=Zn true (d.st.length:Nat) W0
 rw [show ((d.st.length:Nat):Int).toNat=d.st.length by omega] at zb
 have ji:=zH (hd.ext zx).sectors
 unfold AH.EG at a
 by_cases hfit:AH.fit d.st.length=false
 ·rw [if_pos hfit] at a
  subst a
  rw [(Jm hfit).1,(Jm hfit).2] at zb
  unfold JC layv at zb
  have HP:=zH zb
  clear zb hfit
  go_in
  go_wp2_with fail
  rw [<-qd.out]
  refine ji.out.mono ?_;rintro e w1 ⟨rfl,rfl⟩
  go_wp2_with fail
  refine HP.out.mono ?_;rintro e j ⟨rfl,Y⟩
  have vu:=qf.ext Y
  have ye:=(Y.block _ (Qa xh)).trans xh
  have ka:=qn.ext Y
  have A:=fun k=>frozen_of_row _ _ k _ _ ye
  have z:=fun k=>cell_of_row _ _ k _ _ _ ye
  have km:j.cell? ((w.heap.size+1) 1)=some (.int .i64 0):=z 1
  have kv:=A 1
  have kn:j.cell? ((w.heap.size+1) 2)=some (.int .i64 0):=z 2
  have kw:=A 2
  have ko:j.cell? ((w.heap.size+1) 3)=some (.int .i64 0):=z 3
  have kx:=A 3
  have kp:j.cell? ((w.heap.size+1) 4)=some (.int .i64 0):=z 4
  have ky:=A 4
  have kq:j.cell? ((w.heap.size+1) 5)=some (.int .i64 0):=z 5
  have kz:=A 5
  have kr:j.cell? ((w.heap.size+1) 6)=some (.int .i64 0):=z 6
  have ja:=A 6
  have ks:j.cell? ((w.heap.size+1) 7)=some (.int .i64 0):=z 7
  have jb:=A 7
  have kt:j.cell? ((w.heap.size+1) 8)=some (.int .i64 0):=z 8
  have jc:=A 8
  have ku:j.cell? ((w.heap.size+1) 9)=some (.int .i64 0):=z 9
  have jd:=A 9
  clear z A
  go_wp2_with fail
  obtain⟨T,zo⟩:∃ T,T=(((((((((j.setCell ((w.heap.size+1) 1) (.int .i64 0)).setCell ((w.heap.size+1) 2) (.int .i64 0)).setCell ((w.heap.size+1) 3) (.int .i64 0)).setCell ((w.heap.size+1) 4) (.int .i64 0)).setCell ((w.heap.size+1) 5) (.int .i64 0)).setCell ((w.heap.size+1) 6) (.int .i64 0)).setCell ((w.heap.size+1) 7) (.int .i64 0)).setCell ((w.heap.size+1) 8) (.int .i64 0)).setCell ((w.heap.size+1) 9) (.int .i64 0)):=⟨_,rfl⟩
  have zh:BQ (w.heap.size+1) j T:=by rw [zo];exact (((((((((BQ.refl _ _).setCell 1 _).setCell 2 _).setCell 3 _).setCell 4 _).setCell 5 _).setCell 6 _).setCell 7 _).setCell 8 _).setCell 9 _
  rw [<-zo]
  clear zo km kv kn kw ko kx kp ky kq kz kr ja ks jb kt jc ku jd
  have zt:=vu.but (by omega) zh
  have xj:=ka.but (by omega) zh
  have vv:DP g d F T:=((hd.ext zx).ext Y).but X zh
  have xk:AD F w F T:=(AD.AL (zx.trans (Y.mono zx.size))).but (.inr (by omega)) zh
  obtain⟨x0,x1⟩:=zt.cells
  obtain⟨H,P⟩:=xj.cells
  have f0:=AE.frz zt 0
  have f1:=AE.frz zt 1
  go_region
  go_wp2_with fail
  refine EX rfl rfl rfl (AE.BO zt (0) (.slice none 0 0)) rfl rfl ?_
  exact QV.err (by decide) vv xk U _ _ _ _ _ _
 ·rw [if_neg hfit] at a
  have ya:AH.fit d.st.length=true:=by simpa using hfit
  rw [(Xd ya).1,(Xd ya).2] at zb
  obtain⟨l,O⟩:∃ l,AH.plan d.st.length=l:=⟨_,rfl⟩
  rw [O] at zb a
  unfold layc at zb
  have HP:=zH zb
  have HL:=zH O
  clear zb hfit O
  rcases h0:Dd.read d 0 with⟨ba,z0,e0⟩
  unfold AH.QK at a
  rw [h0] at a
  dsimp only at a
  have au:=zH (fun W F' (h:DP g d F' W)=>h.read 0 h0)
  have n0:e0.st.length=d.st.length:=by have:=(Dd.BM d 0).1;rw [h0] at this;exact congrArg List.length this
  clear h0
  go_in
  go_wp2_with fail
  rw [<-qd.out]
  refine ji.out.mono ?_;rintro e w1 ⟨rfl,rfl⟩
  go_wp2_with fail
  refine HP.out.mono ?_;rintro e j ⟨rfl,Y⟩
  have vu:=qf.ext Y
  have ye:=(Y.block _ (Qa xh)).trans xh
  have ka:=qn.ext Y
  have A:=fun k=>frozen_of_row _ _ k _ _ ye
  have z:=fun k=>cell_of_row _ _ k _ _ _ ye
  have km:j.cell? ((w.heap.size+1) 1)=some (.int .i64 0):=z 1
  have kv:=A 1
  have kn:j.cell? ((w.heap.size+1) 2)=some (.int .i64 0):=z 2
  have kw:=A 2
  have ko:j.cell? ((w.heap.size+1) 3)=some (.int .i64 0):=z 3
  have kx:=A 3
  have kp:j.cell? ((w.heap.size+1) 4)=some (.int .i64 0):=z 4
  have ky:=A 4
  have kq:j.cell? ((w.heap.size+1) 5)=some (.int .i64 0):=z 5
  have kz:=A 5
  have kr:j.cell? ((w.heap.size+1) 6)=some (.int .i64 0):=z 6
  have ja:=A 6
  have ks:j.cell? ((w.heap.size+1) 7)=some (.int .i64 0):=z 7
  have jb:=A 7
  have kt:j.cell? ((w.heap.size+1) 8)=some (.int .i64 0):=z 8
  have jc:=A 8
  have ku:j.cell? ((w.heap.size+1) 9)=some (.int .i64 0):=z 9
  have jd:=A 9
  clear z A
  go_wp2_with fail
  obtain⟨T,zo⟩:∃ T,T=(((((((((j.setCell ((w.heap.size+1) 1) (l.cap:Value)).setCell ((w.heap.size+1) 2) (.int .i64 (l.sf 0))).setCell ((w.heap.size+1) 3) (l.sc:Value)).setCell ((w.heap.size+1) 4) (.int .i64 (l.sf 1))).setCell ((w.heap.size+1) 5) (l.sc:Value)).setCell ((w.heap.size+1) 6) (.int .i64 (l.lf 0))).setCell ((w.heap.size+1) 7) (l.lc:Value)).setCell ((w.heap.size+1) 8) (.int .i64 (l.lf 1))).setCell ((w.heap.size+1) 9) (l.lc:Value)):=⟨_,rfl⟩
  have zh:BQ (w.heap.size+1) j T:=by rw [zo];exact (((((((((BQ.refl _ _).setCell 1 _).setCell 2 _).setCell 3 _).setCell 4 _).setCell 5 _).setCell 6 _).setCell 7 _).setCell 8 _).setCell 9 _
  have bd:FI T (w.heap.size+1) g l 0 Su.zero (.pointer none) false:=by rw [zo];exact FI.lay l ye
  rw [<-zo]
  clear zo km kv kn kw ko kx kp ky kq kz kr ja ks jb kt jc ku jd
  have zt:=vu.but (by omega) zh
  have xj:=ka.but (by omega) zh
  have vv:DP g d F T:=((hd.ext zx).ext Y).but X zh
  have xk:AD F w F T:=(AD.AL (zx.trans (Y.mono zx.size))).but (.inr (by omega)) zh
  go_wp2_with fail
  refine (au.out _ _ vv).mono ?_;rintro e w4 ⟨v4,rfl,az,qi,xl⟩
  obtain⟨a4,c4,rfl,bp,bl⟩:=az.sl
  have yd:=zt.AI (xl.block _ (Qa zt) U)
  have kb:=xj.AI (xl.block _ (Qa xj) nT)
  have be:=bd.kept xl X
  have qs:=xk.trans xl
  by_cases xw:z0=0
  ·subst xw
   rw [if_neg (by simp)] at a
   rcases h1:Dd.read e0 1 with⟨bb,z1,e1⟩
   unfold AH.QL at a
   rw [h1] at a
   dsimp only at a
   have av:=zH (qi.read 1 h1)
   have n1:e1.st.length=d.st.length:=by have:=(Dd.BM e0 1).1;rw [h1] at this;exact (congrArg List.length this).trans n0
   clear h1
   go_wp2_with fail
   refine av.out.mono ?_;rintro e w5 ⟨v5,rfl,bc,qj,yv⟩
   obtain⟨a5,c5,rfl,bq,-⟩:=bc.sl
   have yu:=yd.AI (yv.block _ (Qa yd) U)
   have qo:=kb.AI (yv.block _ (Qa kb) nT)
   have bf:=be.kept yv X
   have qt:=qs.trans yv
   by_cases xy:z1=0
   ·subst xy
    rw [if_neg (by simp)] at a
    have aj:=bp.upd yv (fun y hy _ e=>by have:=(bl y hy).2.1;have:=hd.lt _ e;have:=xk.size;omega)
    rcases xo:Su.choose ba bb with⟨sl,sp,zc⟩
    have xp:=Og true a4 a5 ba.length bb.length c4 c5 ba bb w5 aj bq
    unfold GK supv at xp
    rw [xo] at xp
    have an:=zH xp
    clear xp
    go_wp2_with fail
    refine an.out.mono ?_;rintro e w6 ⟨rfl,yx⟩
    have qg:=yu.ext yx
    have qp:=qo.ext yx
    have M:=bf.ext yx
    have qk:=qj.ext yx
    have qu:=qt.ext yx
    have jp:w6.cell? ((w.heap.size+1) 10)=some (.int .i64 0):=M.at 10
    have jw:=M.free 10
    have jq:w6.cell? ((w.heap.size+1) 11)=some (.int .u64 0):=M.at 11
    have jx:=M.free 11
    have jr:w6.cell? ((w.heap.size+1) 12)=some (.int .i64 0):=M.at 12
    have jy:=M.free 12
    have js:w6.cell? ((w.heap.size+1) 13)=some (.int .u32 0):=M.at 13
    have jz:=M.free 13
    have jt:w6.cell? ((w.heap.size+1) 14)=some (.int .i64 0):=M.at 14
    have qa:=M.free 14
    have ju:w6.cell? ((w.heap.size+1) 15)=some (.int .u32 0):=M.at 15
    have qb:=M.free 15
    by_cases kk:zc=0
    ·subst kk
     go_wp2_with fail
     obtain⟨W7,zi⟩:∃ W7,W7=((((((w6.setCell ((w.heap.size+1) 10) (sl:Value)).setCell ((w.heap.size+1) 11) (.int .u64 sp.gen)).setCell ((w.heap.size+1) 12) (sp.act:Value)).setCell ((w.heap.size+1) 13) (.int .u32 sp.AA)).setCell ((w.heap.size+1) 14) (sp.len:Value)).setCell ((w.heap.size+1) 15) (.int .u32 sp.sum)):=⟨_,rfl⟩
     have ze:BQ (w.heap.size+1) w6 W7:=by rw [zi];exact ((((((BQ.refl _ _).setCell 10 _).setCell 11 _).setCell 12 _).setCell 13 _).setCell 14 _).setCell 15 _
     have vz:FI W7 (w.heap.size+1) g l sl sp (.pointer none) false:=by rw [zi];exact M.sup sl sp
     rw [<-zi]
     clear zi jp jw jq jx jr jy js jz jt qa ju qb
     have zv:=qg.but (by omega) ze
     have yf:=qp.but (by omega) ze
     have vw:=qk.but X ze
     have yw:=qu.but (.inr (by omega)) ze
     rw [AH.PK xo] at a
     obtain⟨xt,vl,vc⟩:=Su.GU xo
     have yh:=AH.MB vl
     obtain⟨r,hr⟩:∃ r,sp.act.toNat=r:=⟨_,rfl⟩
     rw [hr] at yh a
     have ab:0<=sp.len/\sp.len<=262144:=by
      simp only [Su.AB,Bool.and_eq_true,decide_eq_true_eq] at vl;omega
     rcases xv:AH.EI l sp e1 with⟨⟨c,L⟩,z2,e2⟩
     rw [xv] at a
     dsimp only at a
     obtain⟨i1,i3,i2,i4,m,hm,hsz,-⟩:=Kz ya r yh.2
     rw [HL.out] at i1 i2 i3 i4 hsz
     have bs:Ex.size l.sc<=100000:=by
      have:=AH.DB ya
      rw [HL.out] at this
      unfold AH.DK.sc;rw [Ex.IK _ (by omega)];omega
     have qc:=zH (Gm yh.2 yh.1 vz vw X i1 i2 ab bs xv)
     unfold GG at qc
     go_wp2_with fail
     refine qc.out.mono ?_;rintro e w8 ⟨a8,k8,rfl,xr,kg,ql,xm⟩
     have qh:=zv.AI (xm.block _ (Qa zv) U)
     have zw:=yf.AI (xm.block _ (Qa yf) nT)
     have qm:=vz.kept xm X
     have qv:=yw.trans xm
     obtain⟨n8,jo⟩:∃ n,L.length=n:=⟨_,rfl⟩
     rw [jo] at xr
     rw [jo]
     obtain⟨H,P⟩:=zw.cells
     have f2:=AE.frz zw 0
     have f3:=AE.frz zw 1
     by_cases xz:z2=0
     ·subst xz
      rw [if_neg (by simp)] at a
      have qr:=fun W (e:W=(w8.setCell (w.heap.size+2:Nat) (c:Value)).setCell ((w.heap.size+2) 1) (.slice a8 n8 k8))=>show BQ (w.heap.size+2) w8 W by rw [e];exact ((BQ.refl _ _).setCell 0 _).setCell 1 _
      have yo:=xr.EH zw 0 1 (c:Value) (.slice a8 n8 k8)
      have yc:=AE.BO zw c (.slice a8 n8 k8)
      go_wp2_with fail
      obtain⟨G,zj⟩:∃ G,G=(w8.setCell (w.heap.size+2:Nat) (c:Value)).setCell ((w.heap.size+2) 1) (.slice a8 n8 k8):=⟨_,rfl⟩
      have zf:=qr G zj
      rw [<-zj] at yo yc
      rw [<-zj]
      clear zj qr H P f2 f3
      have za:=qh.but (by omega) zf
      have xi:FI G (w.heap.size+1) g l sl sp (.pointer none) false:=qm.same (zf.block _ qm.lt (by omega))
      have xg:=ql.but nT zf
      have xn:=qv.but (.inr (by omega)) zf
      have n2:e2.st.length=d.st.length:=by
       have:=AH.TX l sp e1
       rw [xv] at this
       exact this.trans n1
      rcases zy:AO.open e2 (l.lf r) l.lc sp.AA with⟨lo,ps,z3,e3⟩
      rw [zy] at a
      have qe:=zH ((xg.ext (Below.drew (Below.refl _ G))).wopen (l.lf r) l.lc i3 i4 sp.AA vc.2.1 (by omega) zy)
      unfold VW at qe
      have kd:∀ F' W,AD F G F' W->(W.cell? ((w.heap.size+1) 12)=some (r:Value)/\W.cell? ((w.heap.size+1) (6+r * 2))=some (.int .i64 (l.lf r))/\W.cell? ((w.heap.size+1) (6+r * 2+1))=some (l.lc:Value)/\W.cell? ((w.heap.size+1) 13)=some (.int .u32 (sp.AA:Nat)))/\FI W (w.heap.size+1) g l sl sp (.pointer none) false:=fun F' W e=>by
       exact⟨(xi.kept e X).logc yh.2 yh.1,xi.kept e X⟩
      have aq:=zH kd
      obtain⟨⟨y1,y2,y3,y4⟩,-⟩:=kd F G (AD.refl _ _)
      have r0:(0:Int)<=(r:Int):=by omega
      have r1:(r:Int) < 2:=by omega
      clear kd
      go_region_held3 (fun W=>W.cell? ((w.heap.size+1) 12)=some (r:Value)/\W.cell? ((w.heap.size+1) (6+r * 2))=some (.int .i64 (l.lf r))/\W.cell? ((w.heap.size+1) (6+r * 2+1))=some (l.lc:Value)/\W.cell? ((w.heap.size+1) 13)=some (.int .u32 (sp.AA:Nat))) (first|exact⟨y1,y2,y3,y4⟩|exact (aq.out _ _ (by assumption)).1) (first
      |(go_at_call 66;go_must (refine qe.out.mono ?_);rintro e yj ⟨pv,cl,F10,rfl,vd,jj,aa,vp⟩;have I:AD F G F10 yj:=(AD.drew (AD.refl _ _)).trans aa;obtain⟨bu,rfl⟩:∃ o,pv=.pointer o:=VW.ptr vp;have bw:=zH vp;clear vp))
      by_cases va:z3=0
      ·subst va
       obtain⟨lg,kf⟩:=AO.EU (d:=e2) (f:=l.lf r) (c:=l.lc) (ep:=sp.AA) (by rw [zy])
       rw [zy] at kf
       dsimp only at kf
       subst kf
       have bi:=(AO.MU (d:=e2) (f:=l.lf r) (c:=l.lc) (ep:=sp.AA) (by rw [zy])).1
       have bj:CX lg:=CX.opened (d:=e2) xg.ok (by omega) i3 i4 vc.2.1 (by rw [zy])
       have xu:=AO.KE e2 (l.lf r) l.lc sp.AA
       rw [zy] at xu
       dsimp only at xu
       obtain⟨p,rfl,bm,qy,bn⟩:∃ p,bu=.some (p:Nat)/\G.drew.heap.size<=p/\LB yj p g lg/\¬ F10 p:=by
        rcases bw.out with⟨h,-⟩|⟨L',p,h,h2,h3⟩
        ·cases h
        ·cases h;cases h2;exact⟨p,rfl,h3⟩
       have ca:G.heap.size<=p:=bm
       have co:=zf.size
       have zT:=Qa yc
       have zS:=xi.lt
       have am:¬ F10 (w.heap.size+2):=fun e=>by
        rcases I.new _ e with e|e
        ·exact nT e
        ·omega
       have yp:¬ F10 w.heap.size:=fun e=>by
        rcases I.new _ e with e|e
        ·exact U e
        ·omega
       have jv:¬ F10 (w.heap.size+1):=fun e=>by
        rcases I.new _ e with e|e
        ·exact X e
        ·omega
       have vf:=xi.kept I X
       have yb:=za.AI (I.block _ (Qa za) U)
       have vh:=yc.AI (I.block _ (Qa yc) nT)
       have ch:yj.cell? ((w.heap.size+1) 16)=some (.pointer none):=vf.at 16
       have cj:=vf.free 16
       have jk:=vf.MY (.pointer p)
       obtain⟨vs,vt,rfl,-⟩:=vd.sl
       have cn:=I.size
       have bo:p ≠ w.heap.size+1:=by omega
       have jh:AT yj a8 n8 k8 L:=yo.AI (fun x K O=>I.block _ (yo.blt' K O) (fun e=>by have:=hd.lt _ e;have:=kg x K;have:=yw.size;omega)) I.size
       go_wp2_with fail
       obtain⟨yr,xc⟩:∃ yr,yr=yj.setCell ((w.heap.size+1) 16) (.pointer p):=⟨_,rfl⟩
       have zl:BQ (w.heap.size+1) yj yr:=by rw [xc];exact (BQ.refl _ _).setCell 16 _
       rw [<-xc] at jk
       rw [<-xc]
       clear xc
       have t:VO g p (w.heap.size+1) w.heap.size G.drew.heap.size F F10 l sl sp lg ps (.slice vs ps.length vt) e3 w yr :=
        ⟨jj.but jv zl,qy.same (zl.block _ qy.lt bo),jk,yb.but (by omega) zl,vd.keep (fun x x1 H=>zl.block x H (by have:G.heap.size<=x:=x1;omega)),(xn.trans I).but (.inr (by omega)) zl⟩
       obtain⟨N,hN⟩:∃ N,ps.length=N:=⟨_,rfl⟩
       have cd:N<=9223372036854775807:=by obtain⟨_,_,hv,hs⟩:=vd.sl;have:=hs.le;omega
       obtain⟨FY,ve⟩:∃ FY,AH.replay l.cap c L ps=FY:=⟨_,rfl⟩
       have jg:AN.AK c L=true/\L.length<=l.cap:=AH.TW xv
       have vg:YK g p (w.heap.size+1) w.heap.size G.drew.heap.size (w.heap.size+2) F F10 l sl sp lg ps (.slice vs ps.length vt) e3 w c FY 0 yr :=
        ⟨t,a8,n8,k8,L,vh.but (by omega) zl,jh.AI (fun x K O=>zl.block _ (jh.blt' K O) (by have:=kg x K;have:=Qa yf;omega)) zl.size,by rw [List.drop_zero];exact ve,jg.1,jg.2,fun x K O=>by
         have h1:=kg x K
         have h2:=yw.size
         have h3:=xr.blt' K O
         have h4:=Qa yf
         exact⟨fun e=>by
          rcases I.new _ e with e|e
          ·have:=hd.lt _ e;omega
          ·omega,by omega,by omega,by omega,by omega⟩⟩
       rw [hN] at t vg
       rw [hN]
       unfold AH.KD at a
       dsimp only at a
       rw [if_neg (by simp),ve] at a
       have ax:=zH vg
       have ao:=zH (show l.cap<=1000 from by have:=(AH.DB ya).2.2.2.2.2.1;rw [HL.out] at this;exact this)
       have xf:=zH (show p ≠ w.heap.size+2/\w.heap.size+2 < G.drew.heap.size/\p ≠ w.heap.size from ⟨by omega,zT,by omega⟩)
       have aw:=zH xu
       have vo:=zH hN
       have ap:=zH (And.intro bj (And.intro bi (And.intro xt (And.intro vl vc))))
       clear vg xu ve t y1 y2 y3 y4
       go_wp2_with fail
       go_loopw [107] (fun i wr=>∃ k:Nat,i=.int .i64 k/\k<=N/\YK g p (w.heap.size+1) w.heap.size G.drew.heap.size (w.heap.size+2) F F10 l sl sp lg ps (.slice vs N vt) e3 w c FY k wr) (fun i _=>N - (intOf i).toNat)
       case atStart=>exact⟨0,rfl,Nat.zero_le _,ax.out⟩
       case round =>
        obtain⟨k,rfl,hk,vx⟩:=hrel
        have k0:(0:Int)<=(k:Int):=by omega
        obtain⟨t,zs,vb,zz,zr,zn,xe,J,ki,jm,bg⟩:=vx
        by_cases qx:k < N
        ·have k1:(k:Int) < (N:Int):=by omega
         obtain⟨ar,cr,qz,xt⟩:=t.rc.sl
         rw [vo.out] at qz xt
         obtain⟨br,ci,bh,ce,pe,me,de,cf,xs⟩:=xt.at qx
         cases qz
         subst bh
         obtain⟨yi,xd⟩:∃ yi,ps[k]?.getD []=yi:=⟨_,rfl⟩
         rw [xd] at xs
         have ke:k < ps.length:=by rw [vo.out];exact qx
         have kh:ps[k]=yi:=by rw [List.getElem?_eq_getElem ke] at xd;exact xd
         have cg:me<=1024:=by
          have:=aw.out yi (kh ▸ List.getElem_mem ke)
          have:=xs.len
          omega
         rw [List.drop_eq_getElem_cons ke,kh] at J
         have yq:=zH (Db pe me de yi wr xs (by omega))
         unfold CD at yq
         rcases kc:AN.dec yi with⟨u,zu⟩
         rw [kc] at yq
         unfold uv uc at yq
         unfold AH.replay at J
         rw [kc] at J
         dsimp only at J
         have vn:=zH (fun W (e:Below wr.heap.size wr W)=>t.ext e)
         clear xd kh xs
         obtain⟨H,P⟩:=zn.cells
         by_cases kl:zu=0
         ·subst kl
          rw [if_neg (by simp)] at J
          have bt:=(AN.AY kc).1
          rcases vi:AN.apply c zr u l.cap with⟨L',z'⟩
          rw [vi] at J
          dsimp only at J
          have bz:=xe.len
          have ac:vb<=100000:=by
           have:=(AN.BF c zr).1 ki
           omega
          go_wp2_with fail
          refine yq.out.mono ?_;rintro e Z ⟨rfl,vj⟩
          have zd:Below wr.heap.size wr Z:=vj
          have xb:=BV.new Z u.k (str u.p.h) u.p.s u.p.x
          have yn:=(Below.refl Z.heap.size Z).alloc (zN _) (.cells #[u.k,.string (str u.p.h),.bool u.p.s,u.p.x] 36)
          have je:=(zd.cell (p:=(w.heap.size+2:Nat)) (Qa zn)).trans H
          have jf:=(zd.cell (p:=((w.heap.size+2) 1)) (Qa zn)).trans P
          go_wp2_with fail
          obtain⟨C,zq⟩:∃ C,C=Z.alloc (.cells #[u.k,.string (str u.p.h),.bool u.p.s,u.p.x] 36):=⟨_,rfl⟩
          rw [<-zq] at xb yn
          rw [<-zq]
          clear zq je jf
          have zg:Below wr.heap.size wr C:=zd.trans (yn.mono zd.size)
          have zm:=vn.out C zg
          have ym:=zn.ext zg
          have ai:=xe.ext zg
          have vm:=zH (show Calls Tryz.prog 116 #[.agg #[c,.slice zs vb zz],uv u,l.cap] C.drew (DT c L' z' C.drew) by
           have:=Fl c zs vb zz zr u l.cap C.drew (ai.AI (fun _ _ _=>rfl) (zN _)) ac (fun q hq=>Nat.le_trans (AN.LH ki q hq) (by omega)) (Nat.le_trans (AN.NV bt) (by omega))
           rw [vi] at this
           exact this)
          unfold DT sv uv uc at vm
          obtain⟨y0,y1⟩:=ym.cells
          have y2:=xb.cells
          obtain⟨y3,y4,y5,y6⟩:=y2
          have y7:C.cell? ((w.heap.size+1) 1)=some (l.cap:Value):=zm.sb.at 1
          have cb:=Qa ym
          obtain⟨ck,qw⟩:∃ ck,AN.ack c z'=ck:=⟨_,rfl⟩
          rw [qw] at vm
          have yz:=zH (fun W (e:Below C.heap.size C W)=>ym.ext e)
          go_region_law (go_simp;go_at_call 116;go_must (refine vm.out.mono ?_);rintro e zk ⟨cm,rfl,ae,ag⟩;obtain⟨ys,yt,rfl,vk,jn⟩:=ae.sl;have yl:Below C.heap.size C zk:=(Below.drew (Below.refl _ C)).trans ag;obtain⟨v0,v1⟩:=AE.cells (yz.out zk yl);have g0:=AE.frz (yz.out zk yl) 0;have g1:=AE.frz (yz.out zk yl) 1)
          all_goals
           have yk:BQ (w.heap.size+2) zk ((zk.setCell (w.heap.size+2:Nat) (ck:Value)).setCell ((w.heap.size+2) 1) (.slice ys L'.length yt)):=((BQ.refl _ _).setCell 0 _).setCell 1 _
           have xa:=AE.BO (yz.out zk yl) ck (.slice ys L'.length yt)
           obtain⟨vq,jl⟩:∃ vq,vq=(zk.setCell (w.heap.size+2:Nat) (ck:Value)).setCell ((w.heap.size+2) 1) (.slice ys L'.length yt):=⟨_,rfl⟩
           rw [<-jl] at xa yk ⊢
           have ad:=zg.trans (yl.mono zg.size)
           have zp:=(vn.out zk ad).but yk am xf.out.1 (by omega) (by omega) xf.out.2.1 (by omega)
           clear jl v0 v1 g0 g1 y0 y1 y3 y4 y5 y6 y7
           by_cases kj:z'=0
           ·subst kj
            obtain rfl:c=ck:=by rw [<-qw];rfl
            rw [if_neg (by simp)] at J
            obtain⟨e1,ay,cc⟩:=AH.KZ vi jm ao.out
            have vx:=zH (show YK g p (w.heap.size+1) w.heap.size G.drew.heap.size (w.heap.size+2) F F10 l sl sp lg ps _ e3 w c FY (k+1) vq from
             ⟨zp,ys,L'.length,yt,L',xa,vk.AI (fun x K O=>yk.block _ (vk.blt' K O) (by have:C.heap.size<=x.block:=(jn x K).1;omega)) yk.size,J,ay,e1,fun x K O=>by
              have h1:C.heap.size<=x.block:=(jn x K).1
              have h2:=zg.size
              have h3:=t.lb.lt
              have h4:=t.sb.lt
              have h5:=t.up.size
              exact⟨fun e=>by have:=t.dp.lt _ e;omega,by omega,by omega,by omega,by omega⟩⟩)
            clear xa yk vk
            go_wp2_with fail
            go_roundw
            case rel=>exact⟨k+1,by go_num,by omega,vx.out⟩
            case measure=>simp [intOf];omega
           ·rw [if_pos kj] at J
            subst J
            subst a
            have t1:(z' == 0)=false:=by simpa using kj
            go_wp2_with fail
            obtain⟨x0,x1⟩:=zp.bx.cells
            obtain⟨H,P⟩:=xa.cells
            have f0:=AE.frz zp.bx 0
            have f1:=AE.frz zp.bx 1
            go_region
            go_wp2_with fail
            refine EX rfl rfl rfl (AE.BO zp.bx (ck) (.slice ys L'.length yt)) rfl rfl ?_
            exact QV.err (by decide) zp.dp zp.up yp _ _ _ _ _ _
         ·rw [if_pos kl] at J
          subst J
          subst a
          have t1:(zu == 0)=false:=by simpa using kl
          go_wp2_with fail
          refine yq.out.mono ?_;rintro e Z ⟨rfl,vj⟩
          have zd:Below wr.heap.size wr Z:=vj
          have xb:=BV.new Z u.k (str u.p.h) u.p.s u.p.x
          have yn:=(Below.refl Z.heap.size Z).alloc (zN _) (.cells #[u.k,.string (str u.p.h),.bool u.p.s,u.p.x] 36)
          have je:=(zd.cell (p:=(w.heap.size+2:Nat)) (Qa zn)).trans H
          have jf:=(zd.cell (p:=((w.heap.size+2) 1)) (Qa zn)).trans P
          go_wp2_with fail
          obtain⟨C,zq⟩:∃ C,C=Z.alloc (.cells #[u.k,.string (str u.p.h),.bool u.p.s,u.p.x] 36):=⟨_,rfl⟩
          rw [<-zq] at xb yn
          rw [<-zq]
          clear zq je jf
          have zg:Below wr.heap.size wr C:=zd.trans (yn.mono zd.size)
          have zm:=vn.out C zg
          have ym:=zn.ext zg
          obtain⟨x0,x1⟩:=(zm).bx.cells
          obtain⟨H,P⟩:=ym.cells
          have f0:=AE.frz (zm).bx 0
          have f1:=AE.frz (zm).bx 1
          go_region
          go_wp2_with fail
          refine EX rfl rfl rfl (AE.BO (zm).bx (c) (.slice zs vb zz)) rfl rfl ?_
          exact QV.err (by decide) (zm).dp (zm).up yp _ _ _ _ _ _
        ·obtain rfl:k=N:=by omega
         rw [show ps.drop k=[] from List.drop_of_length_le (by rw [vo.out];exact zN _)] at J
         have ah:FY=some zr:=J.symm
         subst ah
         dsimp only at a
         subst a
         have bk:=xe.len
         subst bk
         obtain⟨x0,x1⟩:=t.bx.cells
         obtain⟨H,P⟩:=zn.cells
         have f0:=AE.frz t.bx 0
         have f1:=AE.frz t.bx 1
         go_wp2_with fail
         go_region
         go_wp2_with fail
         refine EX rfl rfl rfl (AE.BO t.bx c (.slice zs zr.length zz)) rfl rfl ?_
         obtain⟨g1,g2,g3,g4,g5⟩:=ap.out
         have yy:BQ w.heap.size wr ((wr.setCell w.heap.size (c:Value)).setCell (w.heap.size 1) (.slice zs zr.length zz)):=((BQ.refl _ _).setCell 0 _).setCell 1 _
         have xq:=fun W:World=>Below.drew (Below.refl W.heap.size W)
         have ak:((sl.toNat:Nat):Int)=sl:=by omega
         refine⟨rfl,w.heap.size+1,zs,zz,P1 (P1 F10 p) (w.heap.size+1),rfl,⟨F10,p,rfl,(t.dp.but yp yy).ext (xq _),(t.lb.same (yy.block _ t.lb.lt xf.out.2.2)).ext (xq _),bn,?_,jv,by omega⟩,?_,(xe.EH t.bx 0 1 (c:Value) (.slice zs zr.length zz)).ext (xq _),fun x K O=>?_,⟨ya,hn,HL.out.symm,by dsimp only;omega,g4,g5,g1,fun _=>g2⟩,ki,jm,by omega⟩
         ·have:=(t.sb.same (yy.block _ t.sb.lt (by omega))).ext (xq _)
          unfold SB CP stc
          dsimp only
          rw [ak]
          exact this
         ·refine ((t.up.but (.inr (zN _)) yy).drew).grow fun y hy=>?_
          rcases hy with (hy|rfl)|rfl
          ·exact t.up.new y hy
          ·right;have:=xf.out.2.2;omega
          ·right;omega
         ·obtain⟨h1,h2,h3,-,h5⟩:=bg x K O
          refine⟨?_,h5⟩
          rintro ((e|e)|e)
          ·exact h1 e
          ·exact h2 e
          ·exact h3 e
      ·have vy:R=AH.bad z3 e3:=by rw [<-a];unfold AH.KD;exact if_pos va
       subst vy
       have t1:(z3 == 0)=false:=by simpa using va
       have yp:¬ F10 w.heap.size:=fun e=>by
        rcases I.new _ e with e|e
        ·exact U e
        ·have:=Qa za;omega
       have yb:=za.AI (I.block _ (Qa za) U)
       have vh:=yc.AI (I.block _ (Qa yc) nT)
       have af:=xn.trans I
       go_wp2_with fail
       obtain⟨x0,x1⟩:=yb.cells
       obtain⟨H,P⟩:=vh.cells
       have f0:=AE.frz yb 0
       have f1:=AE.frz yb 1
       go_region
       go_wp2_with fail
       refine EX rfl rfl rfl (AE.BO yb (c) (.slice a8 n8 k8)) rfl rfl ?_
       exact QV.err va jj af yp _ _ _ _ _ _
     ·rw [if_pos xz] at a
      subst a
      have t1:(z2 == 0)=false:=by simpa using xz
      have yo:=xr.EH zw 0 1 (c:Value) (.slice a8 n8 k8)
      have qq:=AE.BO zw c (.slice a8 n8 k8)
      go_wp2_with fail
      obtain⟨G,zj⟩:∃ G,G=(w8.setCell (w.heap.size+2:Nat) (c:Value)).setCell ((w.heap.size+2) 1) (.slice a8 n8 k8):=⟨_,rfl⟩
      have zf:BQ (w.heap.size+2) w8 G:=by rw [zj];exact ((BQ.refl _ _).setCell 0 _).setCell 1 _
      rw [<-zj] at yo qq
      rw [<-zj]
      clear zj H P f2 f3
      have za:=qh.but (by omega) zf
      have xg:=ql.but nT zf
      have xn:=qv.but (.inr (by omega)) zf
      obtain⟨x0,x1⟩:=za.cells
      obtain⟨H,P⟩:=qq.cells
      have f0:=AE.frz za 0
      have f1:=AE.frz za 1
      go_region
      go_wp2_with fail
      refine EX rfl rfl rfl (AE.BO za (c) (.slice a8 n8 k8)) rfl rfl ?_
      exact QV.err xz xg xn U _ _ _ _ _ _
    ·have vy:R=AH.bad 13 e1:=by rw [<-a];unfold AH.KC;rw [xo];exact if_pos kk
     subst vy
     have t1:(zc == 0)=false:=by simpa using kk
     go_wp2_with fail
     obtain⟨W7,zi⟩:∃ W7,W7=((((((w6.setCell ((w.heap.size+1) 10) (sl:Value)).setCell ((w.heap.size+1) 11) (.int .u64 sp.gen)).setCell ((w.heap.size+1) 12) (sp.act:Value)).setCell ((w.heap.size+1) 13) (.int .u32 sp.AA)).setCell ((w.heap.size+1) 14) (sp.len:Value)).setCell ((w.heap.size+1) 15) (.int .u32 sp.sum)):=⟨_,rfl⟩
     have ze:BQ (w.heap.size+1) w6 W7:=by rw [zi];exact ((((((BQ.refl _ _).setCell 10 _).setCell 11 _).setCell 12 _).setCell 13 _).setCell 14 _).setCell 15 _
     have vz:FI W7 (w.heap.size+1) g l sl sp (.pointer none) false:=by rw [zi];exact M.sup sl sp
     rw [<-zi]
     clear zi jp jw jq jx jr jy js jz jt qa ju qb
     have zv:=qg.but (by omega) ze
     have yf:=qp.but (by omega) ze
     have vw:=qk.but X ze
     have yw:=qu.but (.inr (by omega)) ze
     obtain⟨x0,x1⟩:=zv.cells
     obtain⟨H,P⟩:=yf.cells
     have f0:=AE.frz zv 0
     have f1:=AE.frz zv 1
     go_region
     go_wp2_with fail
     refine EX rfl rfl rfl (AE.BO zv (0) (.slice none 0 0)) rfl rfl ?_
     exact QV.err (by decide) vw yw U _ _ _ _ _ _
   ·rw [if_pos xy] at a
    subst a
    have t1:(z1 == 0)=false:=by simpa using xy
    go_wp2_with fail
    obtain⟨x0,x1⟩:=yu.cells
    obtain⟨H,P⟩:=qo.cells
    have f0:=AE.frz yu 0
    have f1:=AE.frz yu 1
    go_region
    go_wp2_with fail
    refine EX rfl rfl rfl (AE.BO yu (0) (.slice none 0 0)) rfl rfl ?_
    exact QV.err xy qj qt U _ _ _ _ _ _
  ·rw [if_pos xw] at a
   subst a
   have t1:(z0 == 0)=false:=by simpa using xw
   go_wp2_with fail
   obtain⟨x0,x1⟩:=yd.cells
   obtain⟨H,P⟩:=kb.cells
   have f0:=AE.frz yd 0
   have f1:=AE.frz yd 1
   go_region
   go_wp2_with fail
   refine EX rfl rfl rfl (AE.BO yd (0) (.slice none 0 0)) rfl rfl ?_
   exact QV.err xw qi qs U _ _ _ _ _ _
end
section
open Go.RowKit
open Dd (Dk)
variable {g:Nat} {d:Dk} {F:Nat->Prop} {w:World}
def XG (g n:Nat) (F:Nat->Prop) (w:World) (R:AH.FY) (e:Ending) (w':World):Prop :=
 match R with
|(none,_,z,d')=>z ≠ 0/\∃ b,e=.returned (.tuple #[.pointer none,.agg #[.int .i64 0,.slice none 0 0],z])/\DP g d' b w'/\AD F w b w'
|(some S,(c,L),z,d')=>z=0/\∃ q a k b,e=.returned (.tuple #[.pointer (q:Nat),.agg #[c,.slice a L.length k],z])/\PS g q S d' b w'/\AD F w b w'/\AT w' a L.length k L/\(∀ x,a=some x->L ≠ []->¬ b x.block/\w.heap.size<=x.block) ∧
  AH.Ok n S/\AN.AK c L=true/\L.length<=S.lay.cap/\w.heap.size<=q
theorem PS.set {q:Nat} {S:AH.St} (h:PS g q S d F w) {b:Nat} (a:¬ F b) (o:Nat) (v:Value):PS g q S d F (w.setCell (b o) v) :=
 (PS.fp g q S d).AI h (fun k c=>heap_setCell_other _ _ _ _ (by rintro rfl;exact a c)) (by simp)
theorem Gh (hd:DP g d F w) (hn:d.st.length<=1000) {R:AH.FY} (hR:AH.EG d=R) :
 Calls Tryz.prog 13 #[.pointer g] w (XG g d.st.length F w R):=by
 obtain⟨t,o⟩:∃ t,t=w.alloc (.cells #[.int .i64 0,.slice none 0 0] 44):=⟨_,rfl⟩
 have i:Below w.heap.size w t:=by rw [o];exact (Below.refl _ _).alloc (zN _) _
 have y:AE t w.heap.size 0 (.slice none 0 0):=by rw [o];exact AE.new w 0 _
 have M:=zH o
 have s:=zH (Ll (hd.ext i) hn hR)
 have u:¬ F w.heap.size:=fun e=>Nat.lt_irrefl _ (hd.lt _ e)
 have P:=Qa y
 clear o
 obtain⟨so,⟨c,L⟩,z,d'⟩:=R
 cases so with
|none =>
  unfold QV at s
  go_in
  go_wp2_with fail
  rw [<-M.out]
  refine s.out.mono ?_;rintro e m ⟨l,c1,a1,m1,f,k,rfl,za,b⟩
  have t1:(z == 0)=false:=by simpa using l
  have a:=y.AI (b.block _ P u)
  have j:¬ k w.heap.size:=fun e=>by
   rcases b.new _ e with e|e
   ·exact u e
   ·omega
  have t2:(z != 0)=true:=by simpa using l
  obtain⟨I,J⟩:=a.cells
  have C:=AE.frz a 0
  have G:=AE.frz a 1
  have Y:=Qa a
  go_wp2_with fail
  have hE:=(AE.BO a 0 (.slice none 0 0)).ext ((Below.refl _ _).alloc (zN _) (.cells #[c1,.slice a1 m1 f] 44))
  obtain⟨d0,d1⟩:=hE.cells
  refine bodyPost_ret (v:=.tuple #[.pointer none,.agg #[.int .i64 0,.slice none 0 0],z]) (by simp [results,Tryz.results13,go_sem,d0,d1]) rfl ?_
  exact⟨l,k,rfl,((za.set j _ _).set j _ _).ext ((Below.refl _ _).alloc (zN _) _),((((AD.AL i).trans b).setCell (.inr (zN _)) _ _).setCell (.inr (zN _)) _ _).alloc _⟩
|some S =>
  unfold QV at s
  go_in
  go_wp2_with fail
  rw [<-M.out]
  refine s.out.mono ?_;rintro e m ⟨l,q,a1,f,k,rfl,zb,b,Q,K,zc,zd,X,hq⟩
  subst l
  have a:=y.AI (b.block _ P u)
  have j:¬ k w.heap.size:=fun e=>by
   rcases b.new _ e with e|e
   ·exact u e
   ·omega
  obtain⟨H,A⟩:∃ n,L.length=n:=⟨_,rfl⟩
  have Z:=zH A
  rw [A] at Q ⊢
  clear A
  obtain⟨I,J⟩:=a.cells
  have C:=AE.frz a 0
  have G:=AE.frz a 1
  have Y:=Qa a
  have N:=AE.new m c (.slice a1 H f)
  go_wp2_with fail
  obtain⟨B,p⟩:∃ B,B=m.alloc (.cells #[c,.slice a1 H f] 44):=⟨_,rfl⟩
  have r:Below m.heap.size m B:=by rw [p];exact (Below.refl _ _).alloc (zN _) _
  rw [<-p] at N
  rw [<-p]
  clear p I J C G
  have h:=a.ext r
  obtain⟨I,J⟩:=h.cells
  obtain⟨x2,x3⟩:=N.cells
  have C:=AE.frz h 0
  have G:=AE.frz h 1
  go_region
  go_wp2_with fail
  refine EX rfl rfl rfl (AE.BO h c (.slice a1 H f)) rfl rfl ?_
  obtain rfl:=Z.out
  have O:=fun W:World=>Below.drew (Below.refl W.heap.size W)
  exact⟨rfl,q,a1,f,k,rfl,(((zb.ext r).set j _ _).set j _ _).ext (O _),(((((AD.AL i).trans b).ext r).setCell (.inr (zN _)) _ _).setCell (.inr (zN _)) _ _).drew,((Q.ext r).EH h 0 1 _ _).ext (O _),fun x U T=>⟨(K x U T).1,Nat.le_trans i.size (K x U T).2⟩,zc,zd,X,Nat.le_trans i.size hq⟩
end
section
open Go.RowKit
open Dd (Dk)
variable {fc fn g m q s:Nat} {d:Dk} {w:World} {F:Nat->Prop} {S:AH.St} {fa:Option Addr} {L:AO.L}
theorem Wf (v:BS) (w:World):Calls Tryz.prog 17 #[.pointer none,uv v] w fun e a=>e=.returned (.int .i64 12)/\Below w.heap.size w a:=by
 unfold uv uc
 go_in
 go_wp2_with fail
 refine (Yx _).mono ?_;rintro e b ⟨rfl,rfl⟩
 go_wp2_with fail
 go_ret
 exact⟨rfl,(Below.refl _ _).alloc (zN _) _⟩
theorem PS.open (h:PS g q S d F w):∃ a p s m fa fn fc,F=P1 (P1 a p) q/\WD a w p g s m fa fn fc S.log d/\SB w q g p S/\¬ P1 a p q:=by
 obtain⟨a,p,rfl,⟨s,m,fa,fn,fc,b⟩,c,f,i,j,k⟩:=h
 exact⟨a,p,s,m,fa,fn,fc,rfl,⟨b,c,f⟩,i,fun e=>e.elim j k⟩
theorem PS.make {p:Nat} {a:Nat->Prop} (h:WD a w p g s m fa fn fc L d) (hs:SB w q g p S) (b:S.log=L) (hn:¬ P1 a p q):PS g q S d (P1 (P1 a p) q) w :=
 ⟨a,p,rfl,⟨s,m,fa,fn,fc,h.disk⟩,b ▸ h.log,h.apart,hs,fun e=>hn (.inl e),fun e=>hn (.inr e)⟩
theorem WD.stay' {w':World} (h:WD F w q g s m fa fn fc L d) (k:∀ b,P1 F q b->w'.heap[b]?=w.heap[b]?) (c:w.heap.size<=w'.heap.size):WD F w' q g s m fa fn fc L d :=
 ⟨h.disk.AI (fun b a=>k b (.inl a)) c,h.log.same (k q (.inr rfl)),h.apart⟩
theorem WD.set (h:WD F w q g s m fa fn fc L d) {b:Nat} (a:¬ P1 F q b) (o:Nat) (v:Value):WD F (w.setCell (b o) v) q g s m fa fn fc L d :=
 h.stay' (fun k c=>heap_setCell_other _ _ _ _ (by rintro rfl;exact a c)) (by simp)
theorem Ur {n:Nat} {S':AH.St} {W:Dk} (h:PS g q S d F w) (zq:AH.Ok n S) (u:BS) (hu:u.p.h.length<=900) {z:Int} (hr:AH.append S d u=(z,S',W)) :
 Calls Tryz.prog 17 #[.pointer q,uv u] w fun e w'=>e=.returned (z:Value)/\∃ F',PS g q S' W F' w'/\AD F w F' w':=by
 have c:=(Below.refl w.heap.size w).alloc (zN _) (.cells #[u.k,.string (str u.p.h),.bool u.p.s,u.p.x] 36)
 have zb:=BV.new w u.k (str u.p.h) u.p.s u.p.x
 obtain⟨U,P⟩:∃ U,U=w.alloc (.cells #[u.k,.string (str u.p.h),.bool u.p.s,u.p.x] 36):=⟨_,rfl⟩
 have H:=zH P
 rw [<-P] at c zb
 clear P
 have h0:=h.ext c
 obtain⟨A,p,s,m,fa,fn,fc,rfl,hW,hS,zd⟩:=h0.open
 have o:=zH (Vs hS)
 unfold AH.append at hr
 unfold uv uc
 by_cases t:S.fl=true
 ·rw [if_pos t] at hr
  cases hr
  rw [t] at o
  go_in
  go_wp2_with fail
  rw [<-H.out]
  refine o.out.mono ?_;rintro e w1 ⟨rfl,rfl⟩
  go_wp2_with fail
  go_ret
  exact⟨rfl,_,h0,AD.AL c⟩
 ·rw [if_neg t] at hr
  have X:S.fl=false:=by simpa using t
  rw [X] at o
  have l:=zH (Dc u hu U)
  unfold KX uv uc at l
  obtain⟨y3,y4,y5,y6⟩:=zb.cells
  by_cases C:AN.AB u=false
  ·rw [if_pos C] at hr
   cases hr
   rw [C] at l
   go_in
   go_wp2_with fail
   rw [<-H.out]
   refine o.out.mono ?_;rintro e w1 ⟨rfl,rfl⟩
   go_wp2_with fail
   refine l.out.mono ?_;rintro e w2 ⟨v2,rfl,Z,j⟩
   go_wp2_with fail
   go_ret
   exact⟨rfl,_,h0.ext j,AD.AL (c.trans (j.mono c.size))⟩
  ·rw [if_neg C] at hr
   have zs:AN.AB u=true:=by simpa using C
   rw [zs] at l
   rcases zf:AO.append S.log d (AN.enc u) with⟨G,B,d1⟩
   rw [zf] at hr
   dsimp only at hr
   have zg:=zq.log.fits
   go_in
   go_wp2_with fail
   rw [<-H.out]
   refine o.out.mono ?_;rintro e w1 ⟨rfl,rfl⟩
   go_wp2_with fail
   refine l.out.mono ?_;rintro e w2 ⟨v2,rfl,Z,j⟩
   obtain⟨a2,c2,rfl,zr,-⟩:=Z.sl
   have J:=hS.ext j
   have zt:=J.log
   have zj:=zH (Df (hW.ext j) zg a2 _ c2 (AN.enc u) zr zf)
   go_wp2_with fail
   refine zj.out.mono ?_;rintro e w3 ⟨rfl,a,Q,M⟩
   have zi:=J.lt
   have b:¬ P1 a p q:=fun e=>by
    rcases M.new q e with e|e
    ·exact zd e
    ·omega
   have za:=(J.same (M.block q zi zd)).QR B
   have N:AD (P1 (P1 A p) q) w (P1 (P1 a p) q) w3:=(AD.AL (c.trans (j.mono c.size))).trans (M.beside q)
   by_cases I:G=11
   ·subst I
    rw [if_pos rfl] at hr
    cases hr
    go_wp2_with fail
    go_ret
    exact⟨rfl,_,PS.make Q za rfl b,N⟩
   ·rw [if_neg I] at hr
    have t1:(G == 11)=false:=by simpa using I
    have Y:=zH (Gl za G)
    by_cases y:G=0
    ·subst y
     rw [if_neg (by simp)] at hr
     rcases ze:AO.sync B d1 with⟨z2,L2,d2⟩
     rw [ze] at hr
     dsimp only at hr
     clear t1
     go_wp2_with fail
     refine Y.out.mono ?_;rintro e r ⟨rfl,f,i⟩
     have R:WD a r p g s m fa fn fc B d1:=by rw [f];exact Q.set b 17 _
     have O:AD (P1 (P1 A p) q) w (P1 (P1 a p) q) r:=by rw [f];exact N.setCell (.inl (.inr rfl)) _ _
     have zt:=i.log
     have zk:=zH (Me R ze)
     clear f
     go_wp2_with fail
     refine zk.out.mono ?_;rintro e w5 ⟨rfl,zo,zc⟩
     have zl:=(i.same (zc.block q i.lt b)).QR L2
     have zm:=O.trans (zc.beside q)
     have zh:=zH (Gl zl z2)
     go_wp2_with fail
     refine zh.out.mono ?_;rintro e w6 ⟨rfl,T,K⟩
     have zp:WD a w6 p g s m fa fn fc L2 d2:=by rw [T];exact zo.set b 17 _
     have zn:AD (P1 (P1 A p) q) w (P1 (P1 a p) q) w6:=by rw [T];exact zm.setCell (.inl (.inr rfl)) _ _
     clear T
     go_wp2_with fail
     go_ret
     cases hr
     refine⟨rfl,_,PS.make zp ?_ rfl b,zn⟩
     rw [X] at K
     have e6:((false || (0:Int) != 0) || z != 0)=decide (z ≠ 0):=by
      by_cases h2:z=0
      ·subst h2;rfl
      ·simp [h2]
     rw [e6] at K
     exact K
    ·rw [if_pos y] at hr
     cases hr
     have t2:(z == 0)=false:=by simpa using y
     have t3:(z != 0)=true:=by simpa using y
     go_wp2_with fail
     refine Y.out.mono ?_;rintro e r ⟨rfl,f,i⟩
     have R:WD a r p g s m fa fn fc B W:=by rw [f];exact Q.set b 17 _
     have O:AD (P1 (P1 A p) q) w (P1 (P1 a p) q) r:=by rw [f];exact N.setCell (.inl (.inr rfl)) _ _
     clear f
     go_wp2_with fail
     go_ret
     refine⟨rfl,_,PS.make R ?_ rfl b,O⟩
     rw [t3,Bool.or_true] at i
     exact i
end
section
open Go.RowKit
open Dd (Dk)
variable {F0:Nat->Prop} {W:World} {bl k:Nat} {S:AH.St} {b:List UInt8} {d:Dk}
theorem UQ:FB 65:=fun _ _=>by kernel_rfl
theorem UR:FB 67:=fun _ _=>by kernel_rfl
theorem AD.side {a:Nat->Prop} {w:World} (u:AD (P1 F0 bl) W (P1 a bl) w) (c:¬ F0 k) (f:k ≠ bl) (g:k < W.heap.size):w.heap[k]?=W.heap[k]?/\¬ a k :=
 ⟨u.block k g (fun e=>e.elim c f),fun e=>by
  rcases u.new k (.inl e) with e|e
  ·exact e.elim c f
  ·omega⟩
def AH.NO (S:AH.St) (b:List UInt8) (L:AO.L) (r:Int × Dk):Int × AH.St × Dk :=
 if r.1 ≠ 0 then (r.1,{ S with fl:=true },r.2) else (0,{ S with slot:=1 - S.slot,sup:=AH.next S b,log:=L },r.2)
theorem AH.NP {L:AO.L} {a:List (List UInt8)}:AH.DY S b (some L,a,0,d)=AH.NO S b L (AH.run [fun d=>Dd.write d ((1 - S.slot:Nat):Int) (Su.enc (AH.next S b)),Dd.sync] d):=by
 unfold AH.DY AH.NO
 rw [if_neg (by simp)]
 rfl
def WA (g bl:Nat) (S:AH.St) (b:List UInt8) (r:Nat) (F0:Nat->Prop) (W:World) (T:Int × AH.St × Dk) (i:Nat) (w:World):Prop :=
 ∃ c a e,DP g c a w/\AD (P1 F0 bl) W (P1 a bl) w/\¬ a bl/\Bx w bl 106 e/\c.st.length<=1000 ∧
  ((i<=3/\AH.CF S b (AH.run ((AH.prep S.lay r b).drop i) c)=T) ∨
   (4<=i/\∃ L p,e=.pointer (p:Nat)/\LB w p g L/\¬ a p/\W.heap.size<=p/\AH.NO S b L (AH.run ([fun d=>Dd.write d ((1 - S.slot:Nat):Int) (Su.enc (AH.next S b)),Dd.sync].drop (i - 4)) c)=T))
def PQ (g bl:Nat) (S:AH.St) (b:List UInt8) (F0:Nat->Prop) (W:World) (T:Int × AH.St × Dk) (y:Int) (w:World):Prop :=
 y=T.1/\∃ a c,DP g T.2.2 a w/\AD (P1 F0 bl) W (P1 a bl) w/\¬ a bl/\Bx w bl 106 c ∧
  ((T.1 ≠ 0/\T.2.1={ S with fl:=true })\/(T.1=0/\∃ L p,c=.pointer (p:Nat)/\LB w p g L/\¬ a p/\W.heap.size<=p/\T.2.1={ S with slot:=1 - S.slot,sup:=AH.next S b,log:=L }))
theorem Ce {g q p N bs bn bu br B r n:Nat} {a:Option Addr} {m K:Nat} {t:TypeId} {T:Int × AH.St × Dk} (zm:AH.Ok n S) (hB:∀ k,F0 k->k < B) (hn:d.st.length<=1000)
 (M:B<=bs) (J:B<=bn) (h3:B<=bl) (h4:B<=bu) (h5:B<=br) (h6:B<=N) (h7:B<=K) (h8:∀ y,a=some y->B<=y.block) (e1:bs ≠ bl) (e2:bn ≠ bl) (e4:bu ≠ bl) (e5:br ≠ bl) (e6:∀ i,i < 4->N+i ≠ bl) (e7:K ≠ bl) (e8:∀ y,a=some y->y.block ≠ bl) (e9:q ≠ bl)
 (row:W.heap[br]?=some (.cells #[EV N,EW N,syncv g,.func (.func 65) #[] #[.pointer bs,.pointer bn,.pointer bl],.func (.func 67) #[] #[.pointer bs,.pointer bu],syncv g] t (0,0)))
 (hp:PB W N g S.lay r (.slice a m k)) (zh:Bx W bs 41 (.pointer q)) (hq:SB W q g p S) (zn:¬ F0 q) (zo:AF W bn (AH.next S b)) (ye:Bx W bl 106 (.pointer none)) (hu:Bx W bu 70 (.slice K 64 64))
 (hs:AM W a m k b) (hK:AM W K 64 64 (Su.enc (AH.next S b))) (hd:DP g d F0 W) (zi:r < 2) (zp:(AH.next S b).act=(r:Int)) (zx:(AH.next S b).AA < 4294967296)
 (hT:AH.CF S b (AH.run (AH.prep S.lay r b) d)=T) :
 Calls Tryz.prog 50 #[.slice br 6 6] W fun e o=>∃ y:Int,e=.returned (y:Value)/\PQ g bl S b F0 W T y o:=by
 have nF:∀ x,B<=x->¬ F0 x:=fun x P e=>by have:=hB x e;omega
 have zr:br < W.heap.size:=Qa row
 obtain⟨i1,i3,i2,i4,mm,hm,hsz,zq⟩:=Kz zm.fit r zi
 rw [<-zm.lay] at i1 i2 i3 i4 hsz zq
 refine Ib 6 (by omega) br (fun i=>(#[EV N,EW N,syncv g,.func (.func 65) #[] #[.pointer bs,.pointer bn,.pointer bl],.func (.func 67) #[] #[.pointer bs,.pointer bu],syncv g]:Array Value)[i]?.getD undef) (WA g bl S b r F0 W T) (PQ g bl S b F0 W T) ?_ ?_ ?_ W ⟨d,F0,_,hd,AD.refl _ _,nF _ h3,ye,hn,.inl ⟨by omega,hT⟩⟩
 ·rintro i w hi ⟨C,F1,Z,-,u,-⟩
  refine⟨Nat.lt_of_lt_of_le zr u.size,?_⟩
  have hb:=(u.side (nF _ h5) e5 zr).1.trans row
  rw [cell_of_row _ _ _ _ _ _ hb,Array.getElem?_eq_getElem (by simpa using hi)]
  rfl
 ·rintro i w hi ⟨C,F1,Z,U,u,R,zb,zs,F⟩
  have zk:=zb.lt
  have step:∀ (f:Dk->Int × Dk) (fs:List (Dk->Int × Dk)),i<=2->(AH.prep S.lay r b).drop i=f :: fs->fs=(AH.prep S.lay r b).drop (i+1)->AH.CF S b (AH.run ((AH.prep S.lay r b).drop i) C)=T->(f C).2.st.length=C.st.length->∀ (e:Ending) (o:World),(e=.returned (.int .i64 (f C).1)/\∃ A,DP g (f C).2 A o/\AD F1 w A o) →
   ∃ z:Int,e=.returned (z:Value)/\((z=0/\WA g bl S b r F0 W T (i+1) o)\/(z ≠ 0/\PQ g bl S b F0 W T z o)):=by
   rintro f fs yf hf zl l zd e o ⟨rfl,A,M,J⟩
   refine⟨_,rfl,?_⟩
   have u2:=u.trans (J.beside bl)
   have Q:¬ A bl:=fun e=>by
    rcases J.new _ e with e|e
    ·exact R e
    ·omega
   have X:=zb.same (J.block _ zk R)
   rcases za:f C with⟨y,d2⟩
   rw [za] at M zd
   rw [hf] at l
   by_cases s:y=0
   ·subst s
    rw [AH.CM za,zl] at l
    exact .inl ⟨rfl,d2,A,Z,M,u2,Q,X,by dsimp only at zd;omega,.inl ⟨by omega,l⟩⟩
   ·rw [AH.CL za s] at l
    have ze:T=(y,{ S with fl:=true },d2):=by rw [<-l];exact if_pos s
    subst ze
    exact .inr ⟨s,rfl,A,Z,M,u2,Q,X,.inl ⟨s,rfl⟩⟩
  have GJ:∀ (f:Dk->Int × Dk) (fs:List (Dk->Int × Dk)) (L:AO.L) (G:Nat),4<=i->Z=.pointer G->LB w G g L->¬ F1 G->W.heap.size<=G →
   ([fun d=>Dd.write d ((1 - S.slot:Nat):Int) (Su.enc (AH.next S b)),Dd.sync]:List (Dk->Int × Dk)).drop (i - 4)=f :: fs->fs=([fun d=>Dd.write d ((1 - S.slot:Nat):Int) (Su.enc (AH.next S b)),Dd.sync]:List (Dk->Int × Dk)).drop (i+1 - 4) →
   AH.NO S b L (AH.run (([fun d=>Dd.write d ((1 - S.slot:Nat):Int) (Su.enc (AH.next S b)),Dd.sync]:List (Dk->Int × Dk)).drop (i - 4)) C)=T->(f C).2.st.length=C.st.length->∀ (e:Ending) (o:World),(e=.returned (.int .i64 (f C).1)/\∃ A,DP g (f C).2 A o/\AD F1 w A o) →
   ∃ z:Int,e=.returned (z:Value)/\((z=0/\WA g bl S b r F0 W T (i+1) o)\/(z ≠ 0/\PQ g bl S b F0 W T z o)):=by
   rintro f fs L G yg zc H Y zf hf zl l zd e o ⟨rfl,A,M,J⟩
   refine⟨_,rfl,?_⟩
   have u2:=u.trans (J.beside bl)
   have Q:¬ A bl:=fun e=>by
    rcases J.new _ e with e|e
    ·exact R e
    ·omega
   have X:=zb.same (J.block _ zk R)
   have zv:=H.same (J.block _ H.lt Y)
   have ya:¬ A G:=fun e=>by
    rcases J.new _ e with e|e
    ·exact Y e
    ·have:=H.lt;omega
   rcases za:f C with⟨y,d2⟩
   rw [za] at M zd
   rw [hf] at l
   by_cases s:y=0
   ·subst s
    rw [AH.CM za,zl] at l
    exact .inl ⟨rfl,d2,A,Z,M,u2,Q,X,by dsimp only at zd;omega,.inr ⟨by omega,L,G,zc,zv,ya,zf,l⟩⟩
   ·rw [AH.CL za s] at l
    have ze:T=(y,{ S with fl:=true },d2):=by rw [<-l];exact if_pos s
    subst ze
    exact .inr ⟨s,rfl,A,Z,M,u2,Q,X,.inl ⟨s,rfl⟩⟩
  have I:∀ x,B<=x->x ≠ bl->x < W.heap.size->w.heap[x]?=W.heap[x]?/\¬ F1 x:=fun x P zz zy=>u.side (nF x P) zz zy
  match i,hi,F with
 |0,_,F =>
   rcases F with⟨-,l⟩|⟨h,-⟩
   ·refine⟨_,_,_,rfl,PZ,?_⟩
    have s1:AM w a m k b:=hs.AI (fun y s P=>(I _ (h8 y s) (e8 y s) (by subst s;exact hs.blt P)).1) u.size
    refine (Nt zi (hp.AI fun j hj=>(I _ (by omega) (e6 j hj) (by have:=hp.lt;omega)).1) U s1 (fun y s P=>(I _ (h8 y s) (e8 y s) (by subst s;exact hs.blt P)).2) i1 i2 rfl).mono fun e o O=>?_
    exact step _ _ (by omega) rfl rfl l (Ex.BI _ _ _ _ _) e o O
   ·omega
 |1,_,F =>
   rcases F with⟨-,l⟩|⟨h,-⟩
   ·refine⟨_,_,_,rfl,QA,?_⟩
    refine (Nu zi (hp.AI fun j hj=>(I _ (by omega) (e6 j hj) (by have:=hp.lt;omega)).1) U (fun j hj=>(I _ (by omega) (e6 j hj) (by have:=hp.lt;omega)).2) i3 i4 hm hsz rfl).mono fun e o O=>?_
    have st:=step (fun d=>Ex.write d (S.lay.lf r) S.lay.lc 0 (List.replicate mm 0)) [Dd.sync] (by omega) (by rw [<-zq];rfl) rfl l (Ex.BI _ _ _ _ _) e o
    exact st O
   ·omega
 |2,_,F =>
   rcases F with⟨-,l⟩|⟨h,-⟩
   ·refine⟨_,_,_,rfl,JE,(U.sync rfl).mono fun e o O=>?_⟩
    exact step Dd.sync [] (by omega) rfl rfl l (Dd.CU _) e o ⟨O.1,_,O.2⟩
   ·omega
 |3,_,F =>
   rcases F with⟨-,l⟩|⟨h,-⟩
   ·rw [show (AH.prep S.lay r b).drop 3=[] from rfl,AH.II] at l
    unfold AH.CF at l
    rw [if_neg (by simp)] at l
    dsimp only at l
    have ea:(1 - S.sup.act).toNat=r:=by
     have:(1 - S.sup.act)=(r:Int):=zp
     omega
    rw [ea] at l
    rcases zg:AO.open C (S.lay.lf r) S.lay.lc (AH.next S b).AA with⟨lo,ps,z3,d3⟩
    have zt:AO.open C (S.lay.lf r) S.lay.lc ((S.sup.AA+1) % 4294967296)=(lo,ps,z3,d3):=zg
    rw [zt] at l
    refine⟨_,_,_,rfl,UQ,?_⟩
    refine (Gj zi zp (zh.same (I _ M e1 zh.lt).1) (hq.same (u.side zn e9 hq.lt).1) (show AF w bn (AH.next S b) from (I _ J e2 (Qa zo)).1.trans zo) zb U R (I _ M e1 zh.lt).2 (I _ J e2 (Qa zo)).2 (u.side zn e9 hq.lt).2 (Ne.symm e1) (Ne.symm e2) (Ne.symm e9) i3 i4 zx zs zg).mono ?_
    rintro e o ⟨rfl,pv,w1,A,rfl,g1,g2,g3⟩
    refine⟨_,rfl,?_⟩
    have Q:¬ A bl:=fun e=>by
     rcases g2.new _ e with e|e
     ·exact R e
     ·omega
    have X:Bx (w1.setCell bl pv) bl 106 pv:=heap_setCell_same _ _ _ _ _ _ (zb.same (g2.block _ zk R))
    have u2:=(u.trans (g2.beside bl)).setCell (g:=bl) (.inl (.inr rfl)) 0 pv
    have n3:d3.st.length<=1000:=by have:=AO.QN C (S.lay.lf r) S.lay.lc (AH.next S b).AA;rw [zg] at this;dsimp only at this;omega
    by_cases zj:z3=0
    ·subst zj
     obtain⟨L,H⟩:=AO.EU (d:=C) (f:=S.lay.lf r) (c:=S.lay.lc) (ep:=(AH.next S b).AA) (by rw [zg])
     rw [zg] at H
     dsimp only at H
     subst H
     rw [AH.NP] at l
     rcases g3 with⟨h,-⟩|⟨L',G,zu,yc,yd,zw,yb⟩
     ·cases h
     ·cases zu
      refine .inl ⟨rfl,d3,A,pv,g1.set Q _ _,u2,Q,X,n3,.inr ⟨by omega,L,G,yc,zw.same (heap_setCell_other _ _ _ _ (by rintro rfl;omega)),yb,Nat.le_trans u.size yd,l⟩⟩
    ·have ze:T=(z3,{ S with fl:=true },d3):=by rw [<-l];exact if_pos zj
     subst ze
     exact .inr ⟨zj,rfl,A,pv,g1.set Q _ _,u2,Q,X,.inl ⟨zj,rfl⟩⟩
   ·omega
 |4,_,F =>
   rcases F with⟨h,-⟩|⟨-,L,G,zc,H,Y,zf,l⟩
   ·omega
   ·refine⟨_,_,_,rfl,UR,?_⟩
    have s1:AM w K 64 64 (Su.enc (AH.next S b)):=hK.AI (fun y s P=>by cases s;exact (I _ h7 e7 (hK.blt P)).1) u.size
    refine (Gk (zh.same (I _ M e1 zh.lt).1) (hq.same (u.side zn e9 hq.lt).1) (hu.same (I _ h4 e4 hu.lt).1) U zm.slot s1 (fun y s P=>by cases s;exact (I _ h7 e7 (hK.blt P)).2) rfl).mono fun e o O=>?_
    exact GJ _ _ L G (by omega) zc H Y zf rfl rfl l (congrArg List.length (Dd.BI _ _ _)) e o O
 |5,_,F =>
   rcases F with⟨h,-⟩|⟨-,L,G,zc,H,Y,zf,l⟩
   ·omega
   ·refine⟨_,_,_,rfl,JE,(U.sync rfl).mono fun e o O=>?_⟩
    exact GJ Dd.sync [] L G (by omega) zc H Y zf rfl rfl l (Dd.CU _) e o ⟨O.1,_,O.2⟩
 |i+6,hi,_=>omega
 ·rintro w ⟨C,F1,Z,U,u,R,zb,zs,F⟩
  rcases F with⟨h,-⟩|⟨-,L,G,zc,H,Y,hW,l⟩
  ·omega
  ·have:([fun d=>Dd.write d ((1 - S.slot:Nat):Int) (Su.enc (AH.next S b)),Dd.sync]:List (Dk->Int × Dk)).drop (6 - 4)=[]:=rfl
   rw [this,AH.II] at l
   unfold AH.NO at l
   rw [if_neg (by simp)] at l
   subst l
   exact⟨rfl,F1,Z,U,u,R,zb,.inr ⟨rfl,L,G,zc,H,Y,hW,rfl⟩⟩
end
end Go.Proofs.YtmanejniepghlaaGreatDoor
