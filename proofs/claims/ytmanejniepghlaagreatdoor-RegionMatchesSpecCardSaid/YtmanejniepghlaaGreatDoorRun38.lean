import Derived.Test.YtmanejniepghlaaGreatDoorRun31
import Derived.Test.YtmanejniepghlaaGreatDoorRun37
import Derived.StillTailTactics
import Derived.Deep.RegionHeld3
import Derived.Deep.RegionLaw
import Derived.Deep.DeepMust
import Derived.Test.YtmanejniepghlaaGreatDoorRun28
set_option maxHeartbeats 2000000
set_option maxRecDepth 100000
namespace Go.Proofs.YtmanejniepghlaaGreatDoor
section
open Go.RowKit
variable {w w':World} {g q:Nat}
structure AO.L where
 f:Int
 c:Int
 ep:Nat
 en:Nat
 rc:Nat
 sy:Nat
 fl:Bool
def LB (w:World) (q g:Nat) (L:AO.L):Prop :=
 w.heap[q]?=some (.cells #[.pointer g,L.f,L.c,.int .u32 (L.ep:Nat),.int .i64 (L.en:Nat),.int .i64 (L.rc:Nat),.int .i64 (L.sy:Nat),.bool L.fl] 165 (0,0))
theorem LB.lt {L:AO.L} (h:LB w q g L):q < w.heap.size:=Qa h
theorem LB.same {L:AO.L} (h:LB w q g L) (e:w'.heap[q]?=w.heap[q]?):LB w' q g L:=e.trans h
theorem LB.ext {L:AO.L} (h:LB w q g L) (e:Below w.heap.size w w'):LB w' q g L:=h.same (e.block _ h.lt)
theorem LB.cells {L:AO.L} (h:LB w q g L):w.cell? q=some (.pointer g)/\w.cell? (q 1)=some (L.f:Value)/\w.cell? (q 2)=some (L.c:Value)/\w.cell? (q 3)=some (.int .u32 (L.ep:Nat)) ∧
 w.cell? (q 4)=some (.int .i64 (L.en:Nat))/\w.cell? (q 5)=some (.int .i64 (L.rc:Nat))/\w.cell? (q 6)=some (.int .i64 (L.sy:Nat))/\w.cell? (q 7)=some (.bool L.fl):=by
 refine⟨?_,?_,?_,?_,?_,?_,?_,?_⟩ <;> rw [cell_of_row _ _ _ _ _ _ h] <;> rfl
theorem LB.free {L:AO.L} (h:LB w q g L) (k:Nat):w.frozen? (q k)=false:=frozen_of_row _ _ _ _ _ h
theorem Oi {L:AO.L} (h:LB w q g L):Calls Tryz.prog 124 #[.pointer q] w fun e w'=>e=.returned (.bool L.fl)/\w=w':=by
 have a:=h.cells.2.2.2.2.2.2.2
 clear h
 obtain⟨f,c,d,b,rc,i,fl⟩:=L
 simp only at a
 go_in
 go_wp2
 go_ret
 exact⟨rfl,rfl⟩
theorem Wt {L:AO.L} (h:LB w q g L) (j:ib L.c) (p:L.en<=1000000) (hs:Ex.size L.c<=1000000/\0<=Ex.size L.c) :
 Calls Tryz.prog 60 #[.pointer q] w fun e w'=>e=.returned (.int .i64 (Ex.size L.c - (L.en:Int)))/\Below w.heap.size w w':=by
 obtain⟨h0,b,d,l,i,m,n,o⟩:=h.cells
 have a:=j
 have r:IntKind.i64.wrap (Ex.size L.c - (L.en:Int))=Ex.size L.c - (L.en:Int):=by unfold IntKind.wrap;simp [IntKind.bits,IntKind.signed];omega
 go_in
 go_wp2_with fail
 go_region_held3 (fun w'=>w'.cell? (q 1)=some (L.f:Value)/\w'.cell? (q 2)=some (L.c:Value)/\w'.cell? (q 4)=some (.int .i64 (L.en:Nat))) (first|exact⟨b,d,i⟩|assumption|exact⟨(h.ext (Below.trans (Below.drew (Below.refl _ w)) (by assumption))).cells.2.1,(h.ext (Below.trans (Below.drew (Below.refl _ w)) (by assumption))).cells.2.2.1,(h.ext (Below.trans (Below.drew (Below.refl _ w)) (by assumption))).cells.2.2.2.2.1⟩) (first|(go_at_call 110;go_must (refine (Zj _ _ a _).mono ?_);rintro e s ⟨rfl,k⟩))
 all_goals
  go_wp2_with fail
  go_ret
  exact⟨rfl,Below.trans (Below.drew (Below.refl _ w)) (by assumption)⟩
theorem Ws {L:AO.L} (h:LB w q g L) (z:Int):Calls Tryz.prog 126 #[.pointer q,z] w fun e w' =>
 e=.returned (z:Value)/\w'=w.setCell (q 7) (.bool (L.fl || z != 0))/\LB w' q g { L with fl:=L.fl || z != 0 }:=by
 have i:=h.cells.2.2.2.2.2.2.2
 have m:=h.free 7
 have b:LB (w.setCell (q 7) (.bool (L.fl || z != 0))) q g { L with fl:=L.fl || z != 0 }:=by
  unfold LB;rw [heap_setCell_same _ _ _ _ _ _ h];rfl
 have a:=zH b
 clear b h
 obtain⟨f,c,l,k,rc,n,fl⟩:=L
 simp only at i
 cases fl
 ·by_cases d:z=0
  ·subst d
   go_in
   go_wp2
   go_ret
   exact⟨rfl,rfl,a.out⟩
  ·have j:(z != 0)=true:=by simpa using d
   rw [j] at a ⊢
   go_in
   go_wp2
   go_ret
   exact⟨rfl,rfl,a.out⟩
 ·go_in
  go_wp2
  go_ret
  exact⟨rfl,rfl,a.out⟩
end
section
open Go.RowKit
def zeros (r:List UInt8):Bool:=r.all (· == 0)
def AO.erase (d:Dd.Dk) (f c en:Int) (r:List UInt8):Int × Dd.Dk:=if zeros r then (0,d) else Ex.write d f c en (List.replicate r.length 0)
theorem Hr (l:List UInt8) (o k:Nat) (h:o+k < l.length):zeros ((l.drop o).take (k+1))=(zeros ((l.drop o).take k) && (l[o+k]?.getD 0 == 0)):=by
 unfold zeros
 have a:k < (l.drop o).length:=by rw [List.length_drop];omega
 rw [<-List.take_append_getElem a,List.all_append]
 simp [h]
theorem Mn (l:List UInt8) (o k:Nat) (h:o+k < l.length):(l.take o ++ List.replicate k 0 ++ l.drop (o+k))[o+k]?.getD 0=l[o+k]?.getD 0:=by
 have e:(l.take o ++ List.replicate k (0:UInt8)).length=o+k:=by rw [List.length_append,List.length_take,List.length_replicate];omega
 rw [List.getElem?_append_right (by omega),e,Nat.sub_self,List.getElem?_drop];simp
theorem Lp (l:List UInt8) (o k:Nat) (h:o+k < l.length):(l.take o ++ List.replicate k 0 ++ l.drop (o+k)).set (o+k) 0=l.take o ++ List.replicate (k+1) 0 ++ l.drop (o+(k+1)):=by
 have e:(l.take o ++ List.replicate k (0:UInt8)).length=o+k:=by rw [List.length_append,List.length_take,List.length_replicate];omega
 rw [List.set_append_right _ _ (by omega),e,Nat.sub_self,List.drop_eq_getElem_cons h,List.set_cons_zero,List.replicate_succ',show o+(k+1)=o+k+1 by omega]
 simp
theorem Ft {F:Nat->Prop} {w:World} {g s m:Nat} {P:Option Addr} {fn Q:Nat} {d:Dd.Dk} (hP:PD F w g s m P fn Q d) {q:Nat} {L:AO.L} (hL:LB w q g L) (hf:ib L.f) (hc:ib L.c) (zq:L.en<=1000000)
 {base h n Y:Nat} {l:List UInt8} (hO:AC base w (.slice h n Y) l) (hg:¬ F h) (zk:h ≠ q) (o r:Nat) (zu:o+r=l.length) (hr:r<=1000000) (a:Option Addr) (ca:Nat) (ha:r ≠ 0->a=some (h o)) (R:AM w a r ca (l.drop o)) {z:Int} {Z:Dd.Dk} (t:AO.erase d L.f L.c L.en (l.drop o)=(z,Z)) :
 Calls Tryz.prog 129 #[.pointer q,.slice a r ca] w fun e w'=>e=.returned (z:Value)/\∃ X w1,BQ h w w1/\PD X w' g s m P fn Q Z/\AD F w1 X w':=by
 have zs:=R.le
 go_in
 go_wp2_with fail
 go_loopw [5,9] (fun cl i wr=>∃ k:Nat,k<=r/\i=.int .i64 k/\cl=.bool (zeros ((l.drop o).take k))/\AC base wr (.slice h n Y) (l.take o ++ List.replicate k 0 ++ l.drop (o+k))/\BQ h w wr) (fun _ i _=>r - (intOf i).toNat)
 case atStart=>exact⟨0,by omega,rfl,by simp [zeros],by simpa using hO,BQ.refl _ _⟩
 case round =>
  obtain⟨k,hk,rfl,rfl,p,j⟩:=hrel
  by_cases zt:k < r
  ·obtain rfl:=ha (by omega)
   have k0:decide ((k:Int) < (r:Int))=true:=by simp;omega
   have K:o+k < l.length:=by omega
   have J:=p.row (o+k) (by simp;omega)
   rw [Mn l o k K] at J
   have zr:=p.free (o+k)
   have u:=zH (Hr l o k K)
   have zb:=zH (Lp l o k K)
   have M:=p.set (o+k) 0
   rw [zb.out] at M
   have I:=zH M
   have N:=zH (j.setCell (o+k) (bv 0))
   clear M p R
   obtain⟨x,H⟩:∃ x,x=l[o+k]?.getD 0:=⟨_,rfl⟩
   rw [<-H] at J u
   obtain⟨b,B⟩:∃ b,b=zeros ((l.drop o).take k):=⟨_,rfl⟩
   rw [<-B] at u ⊢
   clear H B
   change wr.cell? _=some (.int .u8 (x.toNat:Int)) at J
   have zo:=x.toNat_lt
   cases b
   ·go_wp2
    refine⟨⟨k+1,by omega,rfl,by rw [u.out];rfl,I.out,N.out⟩,by simp [intOf];omega⟩
   ·by_cases G:x=0
    ·have t0:((x.toNat:Int) == 0)=true:=by subst G;rfl
     go_wp2
     refine⟨⟨k+1,by omega,rfl,by rw [u.out];subst G;rfl,I.out,N.out⟩,by simp [intOf];omega⟩
    ·have zv:x.toNat ≠ 0:=fun e=>G (UInt8.toNat_inj.1 e)
     have t0:((x.toNat:Int) == 0)=false:=by simp;omega
     have t1:(x == 0)=false:=by simpa using G
     go_wp2
     refine⟨⟨k+1,by omega,rfl,by rw [u.out];rw [t1];rfl,I.out,N.out⟩,by simp [intOf];omega⟩
  ·obtain rfl:k=r:=by omega
   have k0:decide ((k:Int) < (k:Int))=false:=by simp
   have T:(l.drop o).take k=l.drop o:=List.take_of_length_le (by rw [List.length_drop];omega)
   have zi:l.drop (o+k)=[]:=List.drop_of_length_le (by omega)
   rw [zi,List.append_nil] at p
   rw [T]
   have zj:∀ x,F x->x ≠ h:=fun x e A=>hg (A ▸ e)
   have W:PD F wr g s m P fn Q d:=hP.AI (fun b B=>j.block b (hP.lt b B) (zj b B)) j.size
   have zc:LB wr q g L:=hL.same (j.block q hL.lt (fun e=>zk e.symm))
   unfold AO.erase at t
   by_cases C:zeros (l.drop o)=true
   ·rw [C]
    rw [if_pos C] at t
    injection t with O A
    subst O A
    go_wp2
    go_ret
    exact⟨rfl,F,wr,j,W,AD.refl F wr⟩
   ·have zn:zeros (l.drop o)=false:=by simpa using C
    rw [zn]
    rw [if_neg C] at t
    have za:(List.replicate (l.drop o).length (0:UInt8))=List.replicate k 0:=by rw [List.length_drop];congr 1;omega
    rw [za] at t
    have zm:k ≠ 0:=by
     rintro rfl
     apply C;rw [<-T];simp [zeros]
    obtain rfl:=ha zm
    have ze:AM wr (h o) k ca (List.replicate k 0):=by
     obtain⟨q1,q2,q3,q4,q5⟩:=R
     refine⟨by simp,q2,q3,(fun e=>by cases e),fun x H i hi=>?_⟩
     cases H
     have zl:i < k:=by simpa using hi
     have U:=p.row (o+i) (by simp;omega)
     have O:(l.take o ++ List.replicate k (0:UInt8))[o+i]?.getD 0=0:=by
      have A:o+i - (l.take o).length=i:=by rw [List.length_take];omega
      rw [List.getElem?_append_right (by rw [List.length_take];omega),A]
      simp [zl]
     rw [O] at U
     have zg:h < wr.heap.size:=by
      obtain⟨cs,zh⟩:=p.cells (k:=h) rfl
      exact Qa zh
     refine⟨rfl,zg,?_⟩
     rw [U];simp [bv]
    obtain⟨h0,h1,h2,h3,h4,h5,h6,h7⟩:=zc.cells
    have HW:=zH (Yk W.drew L.f L.c L.en hf hc (by unfold ib;omega) (ze.AI (w':=wr.drew) (fun _ _ _=>rfl) (zN _)) (fun y hy _=>by cases hy;exact hg) t)
    have zp:wr.drew.cell? q=some (.pointer g):=h0
    go_wp2_with fail
    refine wp_region_still_tail 13 (by kernel_rfl) (by kernel_rfl) ?_
    simp only [List.take_succ_cons,List.take_zero,List.drop_succ_cons,List.drop_zero]
    repeat still_step
    refine wpStill_nil ?_
    change wpList _ _ _ _ _ wr.drew
    go_wp2_with (go_at_call 108;go_must (refine HW.out.mono ?_);rintro e w6 ⟨rfl,F6,zd,zf⟩)
    go_ret
    exact⟨rfl,F6,wr.drew,⟨j.os,j.tape,j.output,j.size,j.block⟩,zd,zf⟩
end
section
open Go.RowKit
variable {F:Nat->Prop} {w:World} {fc fn g m q s:Nat} {fa:Option Addr} {L L':AO.L} {d d':Dd.Dk} {z:Int}
theorem AD.beside {F':Nat->Prop} {w':World} (h:AD F w F' w') (q:Nat):AD (fun k=>F k\/k=q) w (fun k=>F' k\/k=q) w' :=
 ⟨h.os,h.tape,h.output,h.size,fun k a hn=>h.block k a (fun e=>hn (.inl e)),fun k a=>by
  rcases a with e|e
  ·rcases h.new k e with e|e
   ·exact .inl (.inl e)
   ·exact .inr e
  ·exact .inl (.inr e)⟩
structure WD (F:Nat->Prop) (w:World) (q g s m:Nat) (fa:Option Addr) (fn fc:Nat) (L:AO.L) (d:Dd.Dk):Prop where
 disk:PD F w g s m fa fn fc d
 log:LB w q g L
 apart:¬ F q
def AO.sync (L:AO.L) (d:Dd.Dk):Int × AO.L × Dd.Dk :=
 if L.fl then (12,L,d) else
  match Dd.sync d with
 |(z,d')=>if z=0 then (0,{ L with sy:=L.rc },d') else (z,{ L with fl:=true },d')
theorem Me (h:WD F w q g s m fa fn fc L d) (hr:AO.sync L d=(z,L',d')) :
 Calls Tryz.prog 64 #[.pointer q] w fun e j=>e=.returned (z:Value)/\WD F j q g s m fa fn fc L' d'/\AD (fun k=>F k\/k=q) w (fun k=>F k\/k=q) j:=by
 have b:=zH (Oi h.log)
 unfold AO.sync at hr
 by_cases o:L.fl=true
 ·rw [if_pos o] at hr
  cases hr
  rw [o] at b
  go_in
  go_wp2_with (go_at_call 124;refine b.out.mono ?_;rintro e j ⟨rfl,rfl⟩)
  go_ret
  exact⟨rfl,h,AD.refl _ _⟩
 ·have C:L.fl=false:=by simpa using o
  rw [if_neg o] at hr
  rw [C] at b
  rcases hs:Dd.sync d with⟨n,p⟩
  rw [hs] at hr
  have G:=zH (Zq h.disk hs)
  have h0:=h.log.cells.1
  by_cases B:n=0
  ·subst B
   have hr:(0,{ L with sy:=L.rc },p)=(z,L',d'):=hr
   cases hr
   go_in
   go_wp2_with (first
   |(go_at_call 124;refine b.out.mono ?_;rintro e j ⟨rfl,rfl⟩)
   |(go_at_call 51;refine G.out.mono ?_;rintro e K ⟨rfl,u,f⟩;have t:=h.log.same (f.block _ h.log.lt h.apart);have r:=zH (Ws t 0))
   |(go_at_call 126;refine r.out.mono ?_;rintro e l ⟨rfl,i,a⟩;have c:=zH i;clear i;have H:=a.cells.2.2.2.2.2.1;have f6:=a.free 6;have I:=a.cells.2.2.2.2.2.2.1;simp only at H I))
   go_ret
   have A:AD (fun k=>F k\/k=q) w (fun k=>F k\/k=q) l:=by rw [c.out];exact (f.beside q).setCell (.inl (.inr rfl)) _ _
   have y:PD F l g s m fa fn fc d':=by rw [c.out];exact u.other h.apart _ _
   refine⟨rfl,⟨y.other h.apart _ _,?_,h.apart⟩,A.setCell (.inl (.inr rfl)) _ _⟩
   unfold LB
   rw [heap_setCell_same _ _ _ _ _ _ a,C]
   rfl
  ·have J:(n != 0)=true:=by simpa using B
   have hr:(if n=0 then (0,{ L with sy:=L.rc },p) else (n,{ L with fl:=true },p):Int × AO.L × Dd.Dk)=(z,L',d'):=hr
   rw [if_neg B] at hr
   obtain rfl:z=n:=(congrArg (fun x:Int × AO.L × Dd.Dk=>x.1) hr).symm
   obtain rfl:L'={ L with fl:=true }:=(congrArg (fun x:Int × AO.L × Dd.Dk=>x.2.1) hr).symm
   obtain rfl:d'=p:=(congrArg (fun x:Int × AO.L × Dd.Dk=>x.2.2) hr).symm
   clear hr
   go_in
   go_wp2_with (first
   |(go_at_call 124;refine b.out.mono ?_;rintro e j ⟨rfl,rfl⟩)
   |(go_at_call 51;refine G.out.mono ?_;rintro e K ⟨rfl,u,f⟩;have t:=h.log.same (f.block _ h.log.lt h.apart);have r:=zH (Ws t z))
   |(go_at_call 126;refine r.out.mono ?_;rintro e l ⟨rfl,i,a⟩;have c:=zH i;clear i))
   go_ret
   rw [J,Bool.or_true] at a
   have A:AD (fun k=>F k\/k=q) w (fun k=>F k\/k=q) l:=by rw [c.out];exact (f.beside q).setCell (.inl (.inr rfl)) _ _
   have y:PD F l g s m fa fn fc d':=by rw [c.out];exact u.other h.apart _ _
   exact⟨rfl,⟨y,a,h.apart⟩,A⟩
def AO.append (L:AO.L) (d:Dd.Dk) (p:List UInt8):Int × AO.L × Dd.Dk :=
 if L.fl then (12,L,d) else if 1024 < p.length then (3,L,d) else if Ex.size L.c - (L.en:Int) < ((14+p.length:Nat):Int) then (11,L,d) else
  match Ex.write d L.f L.c L.en (Fr.enc L.ep L.rc p) with
 |(z,d')=>if z=0 then (0,{ L with en:=L.en+(14+p.length),rc:=L.rc+1 },d') else (z,{ L with fl:=true },d')
structure AO.OT (L:AO.L):Prop where
 f:ib L.f
 c:ib L.c
 ep:L.ep < 4294967296
 en:L.en<=1000000
 rc:L.rc<=1000000
 size:Ex.size L.c<=1000000/\0<=Ex.size L.c
theorem Df (h:WD F w q g s m fa fn fc L d) (hfit:AO.OT L) (a:Option Addr) (n ca:Nat) (p:List UInt8) (hp:AM w a n ca p) (hr:AO.append L d p=(z,L',d')) :
 Calls Tryz.prog 62 #[.pointer q,.slice a n ca] w fun e b=>e=.returned (z:Value)/\∃ F',WD F' b q g s m fa fn fc L' d'/\AD (fun k=>F k\/k=q) w (fun k=>F' k\/k=q) b:=by
 have G:=zH (Oi h.log)
 have zn:=hp.len
 have zt:=hp.le
 obtain⟨b1,T,b3,b4,b5,b6⟩:=hfit
 unfold AO.append at hr
 by_cases Q:L.fl=true
 ·rw [if_pos Q] at hr
  cases hr
  rw [Q] at G
  go_in
  go_wp2_with (go_at_call 124;refine G.out.mono ?_;rintro e b ⟨rfl,rfl⟩)
  go_ret
  exact⟨rfl,F,h,AD.refl _ _⟩
 have zk:L.fl=false:=by simpa using Q
 rw [if_neg Q] at hr
 rw [zk] at G
 obtain⟨h0,U,W,o,X,r,Y,Z⟩:=h.log.cells
 have w3:w.drew.cell? (q 3)=some (.int .u32 (L.ep:Nat)):=o
 have w5:w.drew.cell? (q 5)=some (.int .i64 (L.rc:Nat)):=r
 have zv:IntKind.u32.wrap (L.rc:Int)=(L.rc:Int):=by unfold IntKind.wrap;simp [IntKind.bits,IntKind.signed];omega
 by_cases zo:1024 < n
 ·rw [if_pos (by omega)] at hr
  cases hr
  go_in
  go_wp2_with (go_at_call 124;refine G.out.mono ?_;rintro e b ⟨rfl,rfl⟩)
  go_region_held3 (fun b=>b.cell? (q 3)=some (.int .u32 (L.ep:Nat))/\b.cell? (q 5)=some (.int .i64 (L.rc:Nat))) (first|exact⟨o,r⟩|assumption|exact⟨(h.log.ext (Below.trans (Below.drew (Below.refl _ w)) (by assumption))).cells.2.2.2.1,(h.log.ext (Below.trans (Below.drew (Below.refl _ w)) (by assumption))).cells.2.2.2.2.2.1⟩) (first|(go_at_call 125;go_must (refine (Ki _ _ a n ca _ zo zt).mono ?_);rintro e w9 ⟨rfl,rfl⟩))
  all_goals
   go_wp2_with fail
   go_ret
   exact⟨rfl,F,⟨h.disk.drew,h.log,h.apart⟩,(AD.refl _ _).drew⟩
 rw [if_neg (by omega)] at hr
 have zs:(Fr.enc L.ep L.rc p).length=14+n:=by rw [Fr.CK,zn]
 have zl:=zH zs
 have zm:=Wt (w:=w) h.log T b4 b6
 rw [zn] at hr
 have zj:n<=1024:=by omega
 by_cases O:Ex.size L.c - (L.en:Int) < ((14+n:Nat):Int)
 ·rw [if_pos O] at hr
  cases hr
  go_in
  go_wp2_with (go_at_call 124;refine G.out.mono ?_;rintro e b ⟨rfl,rfl⟩)
  go_region_held3 (fun b=>b.cell? (q 3)=some (.int .u32 (L.ep:Nat))/\b.cell? (q 5)=some (.int .i64 (L.rc:Nat))) (first|exact⟨o,r⟩|assumption|exact⟨(h.log.ext (Below.trans (Below.drew (Below.refl _ w)) (by assumption))).cells.2.2.2.1,(h.log.ext (Below.trans (Below.drew (Below.refl _ w)) (by assumption))).cells.2.2.2.2.2.1⟩) (first|(go_at_call 125;go_must (refine (Zt _ _ b3 (by omega) a n ca p _ (hp.ext (Below.drew (Below.refl _ w))) zj).mono ?_);rintro e w9 ⟨v9,rfl,zh,zg⟩))
  all_goals
   obtain⟨a9,c9,rfl,R,-⟩:=zh.sl
   rw [zl.out] at R ⊢
   have t:Below w.heap.size w w9:=Below.trans (Below.drew (Below.refl _ w)) zg
   have P:=h.log.ext t
   have I:=Wt P T b4 b6
   have k1:decide (Ex.size L.c - (L.en:Int) < ((14+n:Nat):Int))=true:=by simpa using O
   have k2:decide (Ex.size L.c - (L.en:Int) < 14+(n:Int))=true:=by simp;omega
   have zf:=zH I
   clear I zm
   go_wp2_with (go_at_call 60;go_must (refine zf.out.mono ?_);rintro e l ⟨rfl,C⟩)
   go_ret
   exact⟨rfl,F,⟨(h.disk.ext t).ext C,P.ext C,h.apart⟩,((AD.AL t).ext C)⟩
 ·rw [if_neg O] at hr
  rcases hw:Ex.write d L.f L.c L.en (Fr.enc L.ep L.rc p) with⟨N,M⟩
  rw [hw] at hr
  have HW:=zH hw
  clear hw
  go_in
  go_wp2_with (go_at_call 124;refine G.out.mono ?_;rintro e b ⟨rfl,rfl⟩)
  go_region_held3 (fun b=>b.cell? (q 3)=some (.int .u32 (L.ep:Nat))/\b.cell? (q 5)=some (.int .i64 (L.rc:Nat))) (first|exact⟨o,r⟩|assumption|exact⟨(h.log.ext (Below.trans (Below.drew (Below.refl _ w)) (by assumption))).cells.2.2.2.1,(h.log.ext (Below.trans (Below.drew (Below.refl _ w)) (by assumption))).cells.2.2.2.2.2.1⟩) (first|(go_at_call 125;go_must (refine (Zt _ _ b3 (by omega) a n ca p _ (hp.ext (Below.drew (Below.refl _ w))) zj).mono ?_);rintro e w9 ⟨v9,rfl,zh,zg⟩))
  all_goals
   obtain⟨a9,c9,rfl,R,zr⟩:=zh.sl
   rw [zl.out] at R ⊢
   have t:Below w.heap.size w w9:=Below.trans (Below.drew (Below.refl _ w)) zg
   have P:=h.log.ext t
   have I:=Wt P T b4 b6
   have k1:decide (Ex.size L.c - (L.en:Int) < ((14+n:Nat):Int))=false:=by simpa using O
   have k2:decide (Ex.size L.c - (L.en:Int) < 14+(n:Int))=false:=by simp;omega
   have zf:=zH I
   clear I zm h0 U W o X r Y Z w3 w5
   go_wp2_with (go_at_call 60;go_must (refine zf.out.mono ?_);rintro e l ⟨rfl,C⟩)
   have za:Below w.heap.size w l:=t.trans (C.mono t.size)
   have zp:PD F l.drew g s m fa fn fc d:=(h.disk.ext za).drew
   have u:LB l.drew q g L:=LB.same (w:=l) (h.log.ext za) rfl
   obtain⟨h0,U,W,o,X,r,Y,Z⟩:=u.cells
   have zq:AM l.drew a9 (14+n) c9 (Fr.enc L.ep L.rc p):=(R.ext C).AI (w':=l.drew) (fun _ _ _=>rfl) (zN _)
   have HX:=zH (Yk zp L.f L.c L.en b1 T (by unfold ib;omega) zq (fun y hy _ e=>by have:=(zr y hy).2.1;have:=h.disk.lt _ e;have:w.drew.heap.size=w.heap.size:=rfl;omega) HW.out)
   have zi:AD F w F l.drew:=(AD.AL za).drew
   by_cases hz:N=0
   ·subst hz
    have hr:(0,{ L with en:=L.en+(14+n),rc:=L.rc+1 },M)=(z,L',d'):=hr
    obtain rfl:0=z:=(congrArg (fun x:Int × AO.L × Dd.Dk=>x.1) hr)
    obtain rfl:L'={ L with en:=L.en+(14+n),rc:=L.rc+1 }:=(congrArg (fun x:Int × AO.L × Dd.Dk=>x.2.1) hr).symm
    obtain rfl:d'=M:=(congrArg (fun x:Int × AO.L × Dd.Dk=>x.2.2) hr).symm
    clear hr
    go_region_law (first
    |(go_simp;go_at_call 108;go_must (refine HX.out.mono ?_);rintro e zu ⟨rfl,i,zc,A⟩;have zb:=u.same (A.block _ u.lt h.apart);have ze:=zH (Ws zb 0))
    |(go_simp;go_at_call 126;go_must (refine ze.out.mono ?_);rintro e K ⟨rfl,J,j⟩;have H:=zH J;clear J;have c4:=j.cells.2.2.2.2.1;have c5:=j.cells.2.2.2.2.2.1;have f4:=j.free 4;have f5:=j.free 5;simp only at c4 c5))
    all_goals
     clear h0 U W o X r Y Z
     go_wp2_with fail
     go_ret
     have B:¬ i q:=fun e=>by
      rcases A.new q e with e|e
      ·exact h.apart e
      ·have:=u.lt;omega
     have hU:AD (fun k=>F k\/k=q) w (fun k=>i k\/k=q) K:=by rw [H.out];exact ((zi.trans A).beside q).setCell (.inl (.inr rfl)) _ _
     have zd:PD i K g s m fa fn fc d':=by rw [H.out];exact zc.other B _ _
     refine⟨rfl,i,⟨(zd.other B _ _).other B _ _,?_,B⟩,(hU.setCell (.inl (.inr rfl)) _ _).setCell (.inl (.inr rfl)) _ _⟩
     refine (heap_setCell_same _ _ _ _ _ _ (heap_setCell_same _ _ _ _ _ _ j)).trans ?_
     simp [zk]
   ·have t1:(N != 0)=true:=by simpa using hz
    have hr:(if N=0 then (0,{ L with en:=L.en+(14+n),rc:=L.rc+1 },M) else (N,{ L with fl:=true },M):Int × AO.L × Dd.Dk)=(z,L',d'):=hr
    rw [if_neg hz] at hr
    obtain rfl:z=N:=(congrArg (fun x:Int × AO.L × Dd.Dk=>x.1) hr).symm
    obtain rfl:L'={ L with fl:=true }:=(congrArg (fun x:Int × AO.L × Dd.Dk=>x.2.1) hr).symm
    obtain rfl:d'=M:=(congrArg (fun x:Int × AO.L × Dd.Dk=>x.2.2) hr).symm
    clear hr
    go_region_law (first
    |(go_simp;go_at_call 108;go_must (refine HX.out.mono ?_);rintro e zu ⟨rfl,i,zc,A⟩;have zb:=u.same (A.block _ u.lt h.apart);have ze:=zH (Ws zb z))
    |(go_simp;go_at_call 126;go_must (refine ze.out.mono ?_);rintro e K ⟨rfl,J,j⟩;have H:=zH J;clear J))
    all_goals
     clear h0 U W o X r Y Z
     go_wp2_with fail
     go_ret
     rw [t1,Bool.or_true] at j
     have B:¬ i q:=fun e=>by
      rcases A.new q e with e|e
      ·exact h.apart e
      ·have:=u.lt;omega
     have hU:AD (fun k=>F k\/k=q) w (fun k=>i k\/k=q) K:=by rw [H.out];exact ((zi.trans A).beside q).setCell (.inl (.inr rfl)) _ _
     have zd:PD i K g s m fa fn fc d':=by rw [H.out];exact zc.other B _ _
     exact⟨rfl,i,⟨zd,j,B⟩,hU⟩
end
section
open Go.RowKit
def AO.open (d:Dd.Dk) (f c:Int) (ep:Nat):Option AO.L × List (List UInt8) × Int × Dd.Dk :=
 match Ex.read d f c 0 (Ex.size c) with
|(b,z,d1) =>
  if z=0 then
   match AO.erase d1 f c (Fr.scan b ep).2 (b.drop (Fr.scan b ep).2) with
  |(z2,d2) =>
    if z2=0 then
     match Dd.sync d2 with
    |(z3,d3)=>if z3=0 then (some ⟨f,c,ep,(Fr.scan b ep).2,(Fr.scan b ep).1.length,(Fr.scan b ep).1.length,false⟩,(Fr.scan b ep).1,0,d3) else (none,[],z3,d3)
    else (none,[],z2,d2)
  else (none,[],z,d1)
theorem Gr (c:Int):ib (Ex.size c):=by unfold Ex.size ib;split <;> omega
theorem Gx {F:Nat->Prop} {w:World} {g s m:Nat} {l:Option Addr} {fn n:Nat} {d:Dd.Dk} (h:PD F w g s m l fn n d) (f c:Int) (I:ib f) (r:ib c) (ep:Nat) {b:List UInt8} {z:Int} {q:Dd.Dk} (hr:Ex.read d f c 0 (Ex.size c)=(b,z,q)) (J:¬ z=0) :
 Calls Tryz.prog 66 #[.pointer g,.agg #[f,c],.int .u32 (ep:Nat)] w fun e t=>e=.returned (.tuple #[.pointer none,.slice none 0 0,z])/\PD F t g s m l fn n q/\AD F w F t:=by
 have N:(z != 0)=true:=by simpa using J
 obtain⟨a,k⟩:∃ a,a=w.alloc (.cells #[f,c] 23):=⟨_,rfl⟩
 have o:Below w.heap.size w a:=by rw [k];exact (Below.refl _ _).alloc (zN _) _
 have i:a.heap[w.heap.size]?=some (.cells #[f,c] 23 (0,0)):=by rw [k];exact Qb _ _ _ rfl
 have A:=zH k
 have K:=zH i
 have x:a.drew.cell? w.heap.size=some (f:Value):=by rw [show a.drew.cell? w.heap.size=a.cell? w.heap.size from rfl,cell_of_row _ _ _ _ _ _ i];rfl
 have y:a.drew.cell? (w.heap.size 1)=some (c:Value):=by rw [show a.drew.cell? (w.heap.size 1)=a.cell? (w.heap.size 1) from rfl,cell_of_row _ _ _ _ _ _ i];rfl
 have B:PD F a.drew g s m l fn n d:=(h.ext o).drew
 have G:AD F w F a.drew:=(AD.AL o).drew
 have p:w.heap.size < a.drew.heap.size:=Qa i
 clear k i
 go_in
 go_wp2_with fail
 rw [<-A.out]
 go_region_law (first|(go_simp;go_at_call 110;go_must (refine (Zj f c r _).mono ?_);rintro e u ⟨rfl,j⟩;have Q:u.cell? w.heap.size=some (f:Value):=(by simp only [World.cell?,j.block _ p] at x ⊢;exact x);have R:u.cell? (w.heap.size 1)=some (c:Value):=(by simp only [World.cell?,j.block _ p] at y ⊢;exact y))|(go_simp;go_at_call 127;go_must (refine (Zi (B.ext j) f c 0 (Ex.size c) I r (by unfold ib;omega) (Gr c) hr).mono ?_);rintro e P ⟨O,rfl,M,C,H⟩))
 all_goals
  clear hr
  go_wp2_with fail
  go_ret3
  exact⟨rfl,C,(G.ext j).trans H⟩
end
section
open Go.RowKit
variable {w w':World} {v:Value} {d d':Dd.Dk} {c f:Int} {b:List UInt8} {base:Nat} {ls:List (List UInt8)}
theorem Ex.WX {first off e:Nat} (j:off<=e):∀ (m k:Nat) (acc:List UInt8) (d:Dd.Dk),d.Ok->k+m=Ex.cnt off e->acc.length=Ex.pos off e k - off->∀ {b:List UInt8} {d':Dd.Dk},Ex.rd first off e m k acc d=(b,0,d')->b.length=e - off:=by
 intro m
 induction m with
|zero =>
  intro k acc d h r a b d' hr
  have n:Ex.pos off e k=e:=by rw [show k=Ex.cnt off e by omega];exact Ex.MV off e j
  have hr:(acc,(0:Int),d)=(b,0,d'):=hr
  injection hr with q _
  rw [<-q,a,n]
|succ m ih =>
  intro k acc d h r a b d' hr
  have l:=(Ex.GN off e k j).2 (by omega)
  have o:=Ex.FT off e k (by omega)
  have t:=Ex.WW off e k
  obtain⟨x,y,A,B⟩:=Ex.EY l
  rcases hd:Dd.read d ((first+Ex.pos off e k / 64:Nat):Int) with⟨u,z,p⟩
  by_cases g:z=0
  ·subst g
   rw [Ex.OK hd] at hr
   have s:=Dd.CS h hd
   have i:=h.read ((first+Ex.pos off e k / 64:Nat):Int)
   rw [hd] at i
   refine ih (k+1) _ p i (by omega) ?_ hr
   rw [List.length_append,a,List.length_take,List.length_drop,s,o];omega
  ·rw [Ex.KH hd g] at hr
   injection hr with _ hr;injection hr with hr _;exact absurd hr g
theorem Ex.CS (h:d.Ok) {off len:Int} (hr:Ex.read d f c off len=(b,0,d')):(b.length:Int)=len/\Ex.check d.st.length f c off len=0:=by
 unfold Ex.read at hr
 by_cases a:Ex.check d.st.length f c off len=0
 ·rw [if_pos a] at hr
  obtain⟨g,i,j,k,l,m,n⟩:=Ex.EQ a
  have e:Ex.pos off.toNat (off+len).toNat 0=off.toNat:=Ex.DZ _ _
  have:=Ex.WX (by omega) _ _ _ d h (by omega) (by rw [e];simp) hr
  exact⟨by omega,a⟩
 ·rw [if_neg a] at hr
  injection hr with _ hr;injection hr with hr _;exact absurd hr a
theorem AO.KJ (h:d.Ok) (hn:d.st.length<=1000) (hr:Ex.read d f c 0 (Ex.size c)=(b,0,d')):64<=b.length/\b.length<=64000/\(b.length:Int)=Ex.size c:=by
 obtain⟨a,e⟩:=Ex.CS h hr
 obtain⟨g,i,j,k,l,m,n⟩:=Ex.EQ e
 have hs:Ex.size c=c * 64:=by unfold Ex.size;rw [if_neg (by omega)]
 rw [hs] at a ⊢
 exact⟨by omega,by omega,a⟩
theorem Fr.XT (b:List UInt8) (ep f:Nat):∀ k out e,e<=b.length->14 * out.length<=e->(Fr.go b ep f k out e).2<=b.length/\14 * (Fr.go b ep f k out e).1.length<=(Fr.go b ep f k out e).2:=by
 induction f with
|zero=>intro k out e a g;exact⟨a,g⟩
|succ f ih =>
  intro k out e a g
  by_cases h:(Fr.dec (b.drop e) ep k).2.2=0
  ·rw [Fr.QB _ _ _ _ _ _ h]
   obtain⟨j,i,l⟩:=Fr.MI _ _ _ h
   rw [List.length_drop] at i
   exact ih _ _ _ (by omega) (by rw [List.length_append,List.length_singleton];omega)
  ·rw [Fr.ML _ _ _ _ _ _ h];exact⟨a,g⟩
theorem Fr.MX (b:List UInt8) (ep:Nat):(Fr.scan b ep).2<=b.length/\14 * (Fr.scan b ep).1.length<=(Fr.scan b ep).2:=Fr.XT b ep _ _ _ _ (by omega) (by simp)
theorem AC.keep {l:List UInt8} (h:AC base w v l) (e:∀ k,base<=k->k < w.heap.size->w'.heap[k]?=w.heap[k]?):AC base w' v l:=by
 refine⟨h.1,?_⟩
 rcases h.2 with hn|⟨g,cap,j,rfl,i,a,rest⟩
 ·exact .inl hn
 ·exact .inr ⟨g,cap,j,rfl,i,(e g i (Qa a)).trans a,rest⟩
theorem BR.keep (h:BR base w v ls) (e:∀ k,base<=k->k < w.heap.size->w'.heap[k]?=w.heap[k]?):BR base w' v ls:=by
 obtain⟨r,j,n⟩:=h
 refine⟨r,⟨j.1,?_⟩,fun i q=>?_⟩
 ·rcases j.2 with hn|⟨g,cap,m,rfl,l,a,rest⟩
  ·exact .inl hn
  ·exact .inr ⟨g,cap,m,rfl,l,(e g l (Qa a)).trans a,rest⟩
 ·obtain⟨u,o,p⟩:=n i q
  exact⟨u,o,p.keep e⟩
theorem BR.mono {b b':Nat} (h:BR b w v ls) (m:b'<=b):BR b' w v ls:=by
 obtain⟨o,a,j⟩:=h
 refine⟨o,⟨a.1,?_⟩,fun i n=>?_⟩
 ·rcases a.2 with hn|⟨g,cap,e,rfl,p,rest⟩
  ·exact .inl hn
  ·exact .inr ⟨g,cap,e,rfl,by omega,rest⟩
 ·obtain⟨u,k,l⟩:=j i n
  exact⟨u,k,l.mono m⟩
end
section
open Go.RowKit
variable {d d1 d2 d3:Dd.Dk} {b:List UInt8} {c f z2:Int} {ep fc fn g m s:Nat} {w:World} {F:Nat->Prop} {fa:Option Addr}
theorem Un {base:Nat} {v:Value} {l:List UInt8} (h:AC base w v l) (N:Nat) (i:l.length=N) (n:0 < N):∃ g c,v=.slice (g:Nat) N c/\N<=c/\base<=g/\AM w g N c l:=by
 obtain⟨a,c,rfl,hs,k⟩:=h.sl
 rw [i] at hs ⊢
 cases a with
|none=>have:=(hs.2.2.2.1 rfl).1;subst this;simp at i;omega
|some x =>
  obtain⟨e,j,-⟩:=k x rfl
  exact⟨x.block,c,by rw [<-e],hs.2.1,j,by rw [<-e];exact hs⟩
def FN (F:Nat->Prop) (w:World) (g s m:Nat) (fa:Option Addr) (fn fc:Nat) (r:Option AO.L × List (List UInt8) × Int × Dd.Dk) (e:Ending) (w':World):Prop :=
 match r with
|(none,_,z,d')=>e=.returned (.tuple #[.pointer none,.slice none 0 0,z])/\∃ a,PD a w' g s m fa fn fc d'/\AD F w a w'
|(some L,ps,z,d')=>∃ a q v,e=.returned (.tuple #[.pointer (q:Nat),v,z])/\w.heap.size<=q/\BR w.heap.size w' v ps/\WD a w' q g s m fa fn fc L d'/\AD F w a w'
theorem AO.DH {z:Int} (hr:Ex.read d f c 0 (Ex.size c)=(b,z,d1)) (a:¬ z=0):AO.open d f c ep=(none,[],z,d1):=by
 unfold AO.open;rw [hr];exact if_neg a
theorem AO.DV (hr:Ex.read d f c 0 (Ex.size c)=(b,0,d1)) (a:AO.erase d1 f c (Fr.scan b ep).2 (b.drop (Fr.scan b ep).2)=(z2,d2)) (e:¬ z2=0):AO.open d f c ep=(none,[],z2,d2):=by
 unfold AO.open;rw [hr];simp only [if_true];rw [a];exact if_neg e
theorem AO.DI {z3:Int} (hr:Ex.read d f c 0 (Ex.size c)=(b,0,d1)) (a:AO.erase d1 f c (Fr.scan b ep).2 (b.drop (Fr.scan b ep).2)=(0,d2)) (hs:Dd.sync d2=(z3,d3)) (e:¬ z3=0):AO.open d f c ep=(none,[],z3,d3):=by
 unfold AO.open;rw [hr];simp only [if_true];rw [a];simp only [if_true];rw [hs];exact if_neg e
theorem AO.EK (hr:Ex.read d f c 0 (Ex.size c)=(b,0,d1)) (a:AO.erase d1 f c (Fr.scan b ep).2 (b.drop (Fr.scan b ep).2)=(0,d2)) (hs:Dd.sync d2=(0,d3)):AO.open d f c ep=(some ⟨f,c,ep,(Fr.scan b ep).2,(Fr.scan b ep).1.length,(Fr.scan b ep).1.length,false⟩,(Fr.scan b ep).1,0,d3):=by
 unfold AO.open;rw [hr];simp only [if_true];rw [a];simp only [if_true];rw [hs];exact if_pos rfl
theorem Pe (h:PD F w g s m fa fn fc d) (f c:Int) (hf:ib f) (hc:ib c) (ep:Nat) (yo:ep < 4294967296) (hr:Ex.read d f c 0 (Ex.size c)=(b,0,d1)) (hb:b.length<=100000) (yu:64<=b.length) {t:List (List UInt8)} {en:Nat} (zd:Fr.scan b ep=(t,en)) (zv:en<=b.length) (he:AO.erase d1 f c en (b.drop en)=(z2,d2)) :
 Calls Tryz.prog 66 #[.pointer g,.agg #[f,c],.int .u32 (ep:Nat)] w (FN F w g s m fa fn fc (AO.open d f c ep)):=by
 obtain⟨i,N⟩:∃ i,i=w.alloc (.cells #[f,c] 23):=⟨_,rfl⟩
 have zo:Below w.heap.size w i:=by rw [N];exact (Below.refl _ _).alloc (zN _) _
 have C:i.heap[w.heap.size]?=some (.cells #[f,c] 23 (0,0)):=by rw [N];exact Qb _ _ _ rfl
 have ye:=zH N
 have yc:=zH C
 have x1:i.drew.cell? w.heap.size=some (f:Value):=by rw [show i.drew.cell? w.heap.size=i.cell? w.heap.size from rfl,cell_of_row _ _ _ _ _ _ C];rfl
 have x2:i.drew.cell? (w.heap.size 1)=some (c:Value):=by rw [show i.drew.cell? (w.heap.size 1)=i.cell? (w.heap.size 1) from rfl,cell_of_row _ _ _ _ _ _ C];rfl
 have yh:PD F i.drew g s m fa fn fc d:=(h.ext zo).drew
 have yl:AD F w F i.drew:=(AD.AL zo).drew
 have zb:w.heap.size < i.drew.heap.size:=Qa C
 clear N C
 have J:=zH hr
 have zh:=zH zd
 have W:=zH (zd ▸ he:AO.erase d1 f c (Fr.scan b ep).2 (b.drop (Fr.scan b ep).2)=(z2,d2))
 clear zd
 clear hr
 go_in
 go_wp2_with fail
 rw [<-ye.out]
 go_region_law (first|(go_simp;go_at_call 110;go_must (refine (Zj f c hc _).mono ?_);rintro e H ⟨rfl,y⟩;have R:H.cell? w.heap.size=some (f:Value):=(by simp only [World.cell?,y.block _ zb] at x1 ⊢;exact x1);have T:H.cell? (w.heap.size 1)=some (c:Value):=(by simp only [World.cell?,y.block _ zb] at x2 ⊢;exact x2))|(go_simp;go_at_call 127;go_must (refine (Zi (yh.ext y) f c 0 (Ex.size c) hf hc (by unfold ib;omega) (Gr c) J.out).mono ?_);rintro e u ⟨v2,rfl,Y,yi,z⟩))
 all_goals
  obtain⟨j,q,rfl,yz,yx,zc⟩:=Un Y b.length rfl (by omega)
  have nF:¬ F w.heap.size:=fun e=>by have:=h.lt _ e;omega
  have ze:=y.size
  have zt:u.heap[w.heap.size]?=some (.cells #[f,c] 23 (0,0)):=(z.block _ (by omega) nF).trans ((y.block _ zb).trans yc.out)
  have zn:=zH zt
  have yd:Hid (Calls Tryz.prog 128 #[.slice j b.length q,.int .u32 (ep:Nat)] u fun e G=>∃ v,e=.returned (.tuple #[v,en])/\BR u.heap.size G v t/\Below u.heap.size u G):=by
   have:=Ip j _ q b ep yo u zc hb
   unfold EO at this
   rw [zh.out] at this
   exact zH this
  clear x1 x2 R T zt
  have ya:en<=q:=Nat.le_trans zv zc.2.1
  have zz:(en:Int)<=(b.length:Int):=by omega
  go_wp2_with (go_at_call 128;go_must (refine yd.out.mono ?_);rintro e n ⟨v3,rfl,zr,K⟩;obtain⟨a3,c3,rfl,xb⟩:=zr.sl;have O:=(K.block _ (Qa zn.out)).trans zn.out;have R:=cell_of_row _ _ 0 _ _ _ O;have T:=cell_of_row _ _ 1 _ _ _ O;simp only [List.getElem?_toArray,List.getElem?_cons_zero,List.getElem?_cons_succ] at R T;have yv:=zH O;clear O;obtain⟨l,za⟩:∃ l,l=n.alloc (.cells #[.pointer g,f,c,.int .u32 (ep:Nat),en,.int .i64 (t.length:Nat),.int .i64 (t.length:Nat),.bool false] 165):=⟨_,rfl⟩;have o:LB l n.heap.size g ⟨f,c,ep,en,t.length,t.length,false⟩:=(by rw [za];exact Qb _ _ _ rfl);have zi:=zH o;have zm:=zH za;clear o za)
  all_goals rw [<-zm.out]
  all_goals
   have zp:Below n.heap.size n l:=by rw [zm.out];exact (Below.refl _ _).alloc (zN _) _
   have I:Below u.heap.size u l:=K.trans (zp.mono K.size)
   have yf:=Y.ext I
   have yj:=yi.ext I
   have ym:AD F w F l:=((yl.ext y).trans z).ext I
   have yw:=K.size
   have yy:=(Y.lt j rfl).2
   have zu:j ≠ n.heap.size:=by omega
   have yr:w.heap.size<=j:=by omega
   have ys:w.heap.size<=n.heap.size:=by have:=z.size;omega
   have P:∀ k,F k->k < w.heap.size:=‹PD F w g s m fa fn fc d›.lt
   have yt:¬ F j:=fun e=>by have:=P _ e;omega
   have zy:¬ F n.heap.size:=fun e=>by have:=P _ e;omega
   have yk:AM l j b.length q b:=zc.ext I
   have X:∀ (a:Option Addr) (r Q:Nat),en+r=b.length->r<=1000000->(r ≠ 0->a=some (j en))->AM l a r Q (b.drop en) →
    Calls Tryz.prog 129 #[.pointer n.heap.size,.slice a r Q] l fun e G=>e=.returned (z2:Value)/\∃ F' H,BQ j l H/\PD F' G g s m fa fn fc d2/\AD F H F' G:=fun a r Q h1 h2 h3 h4 =>
     Ft yj zi.out hf hc (by simp only;omega) yf yt zu _ r h1 h2 a Q h3 h4 he
   have zw:q=en->AM l j (b.length - en) 0 (b.drop en):=fun e=>by
    have e2:b.length - en=0:=by omega
    rw [e2,List.drop_of_length_le (by omega)];exact AM.zero _ _ _
   have ze:AM l (j en) (b.length - en) (q - en) (b.drop en):=by
    have:=yk.drop zv
    rwa [Nat.zero_add] at this
   clear R T
   go_must (first|have yn:q=en:=(by assumption);refine (X j (b.length - en) 0 (by omega) (by omega) (fun e=>absurd (by omega) e) (zw yn)).mono ?_|refine (X (j en) (b.length - en) (q - en) (by omega) (by omega) (fun _=>rfl) ze).mono ?_)
   rintro e w5 ⟨rfl,p,wE,M,zs,A⟩
   have o:=zi.out
   have yq:n.heap.size < wE.heap.size:=Nat.lt_of_lt_of_le o.lt M.size
   have zq:=(o.same (M.block _ o.lt (fun e=>zu e.symm))).same (A.block _ yq zy)
   have zx:¬ p n.heap.size:=fun e=>by
    rcases A.new _ e with e|e
    ·exact zy e
    ·omega
   have U:AD F w p w5:=(ym.but (.inr yr) M).trans A
   have yg:∀ B,AD p w5 p B->BR w.heap.size B (.slice a3 t.length c3) t:=fun B x=>by
    refine (zr.keep (w':=B) fun k hk yp=>?_).mono (by have:=z.size;omega)
    have xa:=Qa o
    have yb:¬ p k:=fun e=>by
     rcases A.new _ e with e|e
     ·have:=P _ e;have:=z.size;omega
     ·omega
    refine (x.block k (by have:=A.size;omega) yb).trans ((A.block k (by omega) (fun e=>by have:=P _ e;have:=z.size;omega)).trans ((M.block k (by omega) (by omega)).trans ?_))
    exact zp.block k yp
   clear X zw ze o
   rcases hs:Dd.sync d2 with⟨z3,d3⟩
   have zl:=zH (Zq zs hs)
   have zk:=zH hs
   have zj:=zH zq
   clear he hs zq ya zz
  all_goals
   by_cases zf:z2=0
   ·subst zf
    by_cases zg:z3=0
    ·subst zg
     go_wp2_with (go_at_call 51;go_must (refine zl.out.mono ?_);rintro e B ⟨rfl,Z,x⟩)
     go_ret3
     rw [AO.EK J.out W.out zk.out,zh.out]
     refine⟨p,n.heap.size,_,rfl,ys,yg _ x,⟨Z,zj.out.same (x.block _ zj.out.lt zx),zx⟩,U.trans x⟩
    ·have t3:(z3 != 0)=true:=by simpa using zg
     go_wp2_with (go_at_call 51;go_must (refine zl.out.mono ?_);rintro e B ⟨rfl,Z,x⟩)
     go_ret3
     rw [AO.DI J.out W.out zk.out zg]
     exact⟨rfl,p,Z,U.trans x⟩
   ·have t2:(z2 != 0)=true:=by simpa using zf
    go_wp2_with fail
    go_ret3
    rw [AO.DV J.out W.out zf]
    exact⟨rfl,p,zs,U⟩
theorem Md (h:PD F w g s m fa fn fc d) (f c:Int) (p:ib f) (o:ib c) (ep:Nat) (q:ep < 4294967296) (hn:d.st.length<=1000) :
 Calls Tryz.prog 66 #[.pointer g,.agg #[f,c],.int .u32 (ep:Nat)] w (FN F w g s m fa fn fc (AO.open d f c ep)):=by
 rcases hr:Ex.read d f c 0 (Ex.size c) with⟨b,z,d1⟩
 by_cases i:z=0
 ·subst i
  obtain⟨a,l,t⟩:=AO.KJ h.ok hn hr
  have n:=(Fr.MX b ep).1
  rcases j:Fr.scan b ep with⟨u,k⟩
  rw [j] at n
  rcases r:AO.erase d1 f c k (b.drop k) with⟨z2,d2⟩
  exact Pe h f c p o ep q hr (by omega) a j n r
 ·refine (Gx h f c p o ep hr i).mono ?_
  rintro e x ⟨rfl,a,l⟩
  rw [AO.DH hr i]
  exact⟨rfl,F,a,l⟩
end
section
open Go.RowKit
variable {L:AO.L} {d:Dd.Dk} {c f:Int} {ep:Nat}
theorem Dd.CU (d:Dd.Dk):(Dd.sync d).2.st.length=d.st.length:=by
 rw [Cy]
 split
 ·rfl
 ·split
  ·rfl
  ·split
   ·rfl
   ·simp [Dd.flush,Dd.tick]
theorem Ex.YC (first off e:Nat):∀ (m k:Nat) (acc:List UInt8) (d:Dd.Dk),(Ex.rd first off e m k acc d).2.2.st.length=d.st.length:=by
 intro m
 induction m with
|zero=>intro k acc d;rfl
|succ m ih =>
  intro k acc d
  rcases hr:Dd.read d ((first+Ex.pos off e k / 64:Nat):Int) with⟨b,z,g⟩
  have hs:=(Dd.BM d ((first+Ex.pos off e k / 64:Nat):Int)).1
  rw [hr] at hs
  have hs:g.st=d.st:=hs
  by_cases a:z=0
  ·subst a;rw [Ex.OK hr,ih,hs]
  ·rw [Ex.KH hr a];exact congrArg List.length hs
theorem Ex.YG (first off e:Nat):∀ (m k:Nat) (x:List UInt8) (d:Dd.Dk),(Ex.wr first off e m k x d).2.st.length=d.st.length:=by
 intro m
 induction m with
|zero=>intro k x d;rfl
|succ m ih =>
  intro k x d
  by_cases hs:Ex.step e (Ex.pos off e k) < 64
  ·rcases hr:Dd.read d ((first+Ex.pos off e k / 64:Nat):Int) with⟨b,z,h⟩
   have g:=(Dd.BM d ((first+Ex.pos off e k / 64:Nat):Int)).1
   rw [hr] at g
   have g:h.st=d.st:=g
   by_cases l:z=0
   ·subst l
    rcases j:Dd.write h ((first+Ex.pos off e k / 64:Nat):Int) (b.take (Ex.pos off e k % 64) ++ x.take (Ex.step e (Ex.pos off e k)) ++ b.drop (Ex.pos off e k % 64+Ex.step e (Ex.pos off e k))) with⟨n,i⟩
    have a:=Dd.BI h ((first+Ex.pos off e k / 64:Nat):Int) (b.take (Ex.pos off e k % 64) ++ x.take (Ex.step e (Ex.pos off e k)) ++ b.drop (Ex.pos off e k % 64+Ex.step e (Ex.pos off e k)))
    rw [j] at a
    have a:i.st=h.st:=a
    rw [Ex.IM hs hr j]
    split
    ·rw [ih,a,g]
    ·show i.st.length=_;rw [a,g]
   ·rw [Ex.IP hs hr l];show h.st.length=_;rw [g]
  ·rcases j:Dd.write d ((first+Ex.pos off e k / 64:Nat):Int) (x.take (Ex.step e (Ex.pos off e k))) with⟨n,i⟩
   have a:=Dd.BI d ((first+Ex.pos off e k / 64:Nat):Int) (x.take (Ex.step e (Ex.pos off e k)))
   rw [j] at a
   have a:i.st=d.st:=a
   rw [Ex.IL hs j]
   split
   ·rw [ih,a]
   ·show i.st.length=_;rw [a]
theorem Ex.BM (d:Dd.Dk) (f c off len:Int):(Ex.read d f c off len).2.2.st.length=d.st.length:=by
 unfold Ex.read;split
 ·exact Ex.YC _ _ _ _ _ _ _
 ·rfl
theorem Ex.BI (d:Dd.Dk) (f c off:Int) (x:List UInt8):(Ex.write d f c off x).2.st.length=d.st.length:=by
 unfold Ex.write;split
 ·exact Ex.YG _ _ _ _ _ _ _
 ·rfl
theorem AO.SX (d:Dd.Dk) (f c en:Int) (r:List UInt8):(AO.erase d f c en r).2.st.length=d.st.length:=by
 unfold AO.erase;split
 ·rfl
 ·exact Ex.BI _ _ _ _ _
theorem AO.QN (d:Dd.Dk) (f c:Int) (ep:Nat):(AO.open d f c ep).2.2.2.st.length=d.st.length:=by
 rcases hr:Ex.read d f c 0 (Ex.size c) with⟨b,z,e⟩
 have g:=Ex.BM d f c 0 (Ex.size c)
 rw [hr] at g
 have g:e.st.length=d.st.length:=g
 by_cases n:z=0
 ·subst n
  rcases h:AO.erase e f c (Fr.scan b ep).2 (b.drop (Fr.scan b ep).2) with⟨o,a⟩
  have j:=AO.SX e f c (Fr.scan b ep).2 (b.drop (Fr.scan b ep).2)
  rw [h] at j
  have j:a.st.length=e.st.length:=j
  by_cases l:o=0
  ·subst l
   rcases hs:Dd.sync a with⟨z3,i⟩
   have k:=Dd.CU a
   rw [hs] at k
   have k:i.st.length=a.st.length:=k
   by_cases m:z3=0
   ·subst m;rw [AO.EK hr h hs];show i.st.length=_;omega
   ·rw [AO.DI hr h hs m];show i.st.length=_;omega
  ·rw [AO.DV hr h l];show a.st.length=_;omega
 ·rw [AO.DH hr n];exact g
structure CX (L:AO.L):Prop where
 f:ib L.f
 c:ib L.c
 ep:L.ep < 4294967296
 en:(L.en:Int)<=Ex.size L.c
 size:Ex.size L.c<=64000
 rc:14 * L.rc<=L.en
theorem CX.fits (h:CX L):AO.OT L:=by
 have a:=h.en;have b:=h.size;have e:=h.rc
 exact⟨h.f,h.c,h.ep,by omega,by omega,by omega,by omega⟩
theorem CX.sync (h:CX L) (d:Dd.Dk):CX (AO.sync L d).2.1:=by
 unfold AO.sync;split
 ·exact h
 ·rcases hs:Dd.sync d with⟨z,a⟩
  simp only
  split <;> exact⟨h.f,h.c,h.ep,h.en,h.size,h.rc⟩
theorem CX.append (h:CX L) (d:Dd.Dk) (p:List UInt8):CX (AO.append L d p).2.1:=by
 unfold AO.append
 split
 ·exact h
 ·split
  ·exact h
  ·split
   ·exact h
   ·rename_i hx
    rcases hs:Ex.write d L.f L.c L.en (Fr.enc L.ep L.rc p) with⟨z,a⟩
    simp only
    have b:=h.en;have e:=h.rc
    split
    ·exact⟨h.f,h.c,h.ep,by show ((L.en+(14+p.length):Nat):Int)<=Ex.size L.c;omega,h.size,by show 14 * (L.rc+1)<=L.en+(14+p.length);omega⟩
    ·exact⟨h.f,h.c,h.ep,h.en,h.size,h.rc⟩
theorem CX.opened (hd:d.Ok) (hn:d.st.length<=1000) (m:ib f) (l:ib c) (i:ep < 4294967296) (hr:(AO.open d f c ep).1=some L):CX L:=by
 rcases h0:Ex.read d f c 0 (Ex.size c) with⟨b,z,j⟩
 by_cases h:z=0
 ·subst h
  rcases a:AO.erase j f c (Fr.scan b ep).2 (b.drop (Fr.scan b ep).2) with⟨o,k⟩
  by_cases e:o=0
  ·subst e
   rcases hs:Dd.sync k with⟨z3,p⟩
   by_cases g:z3=0
   ·subst g
    rw [AO.EK h0 a hs] at hr
    cases hr
    obtain⟨r,s,t⟩:=AO.KJ hd hn h0
    obtain⟨q,n⟩:=Fr.MX b ep
    exact⟨m,l,i,by show (((Fr.scan b ep).2:Nat):Int)<=Ex.size c;omega,by show Ex.size c<=64000;omega,n⟩
   ·rw [AO.DI h0 a hs g] at hr;cases hr
  ·rw [AO.DV h0 a e] at hr;cases hr
 ·rw [AO.DH h0 h] at hr;cases hr
theorem AO.LM (hr:(AO.open d f c ep).1=none):(AO.open d f c ep).2.1=[]:=by
 rcases h0:Ex.read d f c 0 (Ex.size c) with⟨b,z,i⟩
 by_cases h:z=0
 ·subst h
  rcases a:AO.erase i f c (Fr.scan b ep).2 (b.drop (Fr.scan b ep).2) with⟨k,j⟩
  by_cases e:k=0
  ·subst e
   rcases hs:Dd.sync j with⟨z3,l⟩
   by_cases g:z3=0
   ·subst g;rw [AO.EK h0 a hs] at hr;cases hr
   ·rw [AO.DI h0 a hs g]
  ·rw [AO.DV h0 a e]
 ·rw [AO.DH h0 h]
end
section
open Go.RowKit
variable {w:World} {g q:Nat} {L:AO.L}
theorem WD.ext {F:Nat->Prop} {w':World} {s m:Nat} {a:Option Addr} {fn b:Nat} {d:Dd.Dk} (h:WD F w q g s m a fn b L d) (e:Below w.heap.size w w'):WD F w' q g s m a fn b L d:=⟨h.disk.ext e,h.log.ext e,h.apart⟩
theorem Pd (h:LB w q g L) (a:AO.OT L) (x:Int) (b:Ex.size L.c - (L.en:Int)=x):Calls Tryz.prog 60 #[.pointer q] w fun e d=>e=.returned (x:Value)/\Below w.heap.size w d:=by
 have:=Wt h a.c a.en a.size
 rwa [b] at this
end
section
open Su (spl)
variable {c f l n o:Nat}
namespace Ex
open Dd (Dk)
theorem IK (c:Nat) (h:c<=4096):size (c:Int)=((c * 64:Nat):Int):=by unfold size;rw [if_neg (by omega)];omega
end Ex
namespace Fr
end Fr
namespace AO
open Dd (Dk)
open Ex (VP V)
end AO
end
end Go.Proofs.YtmanejniepghlaaGreatDoor
