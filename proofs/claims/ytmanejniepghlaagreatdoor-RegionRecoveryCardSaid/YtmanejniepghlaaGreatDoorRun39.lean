import Derived.Test.YtmanejniepghlaaGreatDoorRun29
import Derived.Test.YtmanejniepghlaaGreatDoorRun38
import Derived.StillTailTactics
import Derived.Deep.RegionHeld3
import Derived.Deep.RegionLaw
import Derived.Deep.DeepMust
import Derived.Test.YtmanejniepghlaaGreatDoorRun30
namespace Go.Proofs.YtmanejniepghlaaGreatDoor
section
open Go.RowKit
variable {w w':World} {g q:Nat}
structure Wal.L where
 f:Int
 c:Int
 ep:Nat
 en:Nat
 rc:Nat
 sy:Nat
 fl:Bool
def LB (w:World) (q g:Nat) (L:Wal.L):Prop :=
 w.heap[q]?=some (.cells #[.pointer g,L.f,L.c,.int .u32 (L.ep:Nat),.int .i64 (L.en:Nat),.int .i64 (L.rc:Nat),.int .i64 (L.sy:Nat),.bool L.fl] 165 (0,0))
theorem LB.lt {L:Wal.L} (h:LB w q g L):q < w.heap.size:=za_a h
theorem LB.same {L:Wal.L} (h:LB w q g L) (e:w'.heap[q]?=w.heap[q]?):LB w' q g L:=e.trans h
theorem LB.ext {L:Wal.L} (h:LB w q g L) (e:Below w.heap.size w w'):LB w' q g L:=h.same (e.block _ h.lt)
theorem LB.cells {L:Wal.L} (h:LB w q g L):w.cell? q=some (.pointer g)/\w.cell? (q 1)=some (L.f:Value)/\w.cell? (q 2)=some (L.c:Value)/\w.cell? (q 3)=some (.int .u32 (L.ep:Nat)) ∧
 w.cell? (q 4)=some (.int .i64 (L.en:Nat))/\w.cell? (q 5)=some (.int .i64 (L.rc:Nat))/\w.cell? (q 6)=some (.int .i64 (L.sy:Nat))/\w.cell? (q 7)=some (.bool L.fl):=by
 refine⟨?_,?_,?_,?_,?_,?_,?_,?_⟩ <;> rw [cell_of_row _ _ _ _ _ _ h] <;> rfl
theorem LB.free {L:Wal.L} (h:LB w q g L) (k:Nat):w.frozen? (q k)=false:=frozen_of_row _ _ _ _ _ h
theorem zj_c {L:Wal.L} (h:LB w q g L):Calls Tryz.prog 124 #[.pointer q] w fun e w'=>e=.returned (.bool L.fl)/\w=w':=by
 have h7:=h.cells.2.2.2.2.2.2.2
 clear h
 obtain⟨f,c,ep,en,rc,sy,fl⟩:=L
 simp only at h7
 go_enter Tryz.func124,Tryz.ntmps124
 go_wp2
 go_ret
 exact⟨rfl,rfl⟩
set_option maxRecDepth 100000 in
theorem zk_j {L:Wal.L} (h:LB w q g L) (hc:ib L.c) (he:L.en<=1000000) (hs:Extent.size L.c<=1000000/\0<=Extent.size L.c) :
 Calls Tryz.prog 60 #[.pointer q] w fun e w'=>e=.returned (.int .i64 (Extent.size L.c - (L.en:Int)))/\Below w.heap.size w w':=by
 obtain⟨h0,h1,h2,h3,h4,h5,h6,h7⟩:=h.cells
 have hc':=hc
 have hw:IntKind.i64.wrap (Extent.size L.c - (L.en:Int))=Extent.size L.c - (L.en:Int):=by unfold IntKind.wrap;simp [IntKind.bits,IntKind.signed];omega
 go_enter Tryz.func60,Tryz.ntmps60
 go_wp2_with fail
 go_region_held3 (fun w'=>w'.cell? (q 1)=some (L.f:Value)/\w'.cell? (q 2)=some (L.c:Value)/\w'.cell? (q 4)=some (.int .i64 (L.en:Nat))) (first|exact⟨h1,h2,h4⟩|assumption|exact⟨(h.ext (Below.trans (Below.drew (Below.refl _ w)) (by assumption))).cells.2.1,(h.ext (Below.trans (Below.drew (Below.refl _ w)) (by assumption))).cells.2.2.1,(h.ext (Below.trans (Below.drew (Below.refl _ w)) (by assumption))).cells.2.2.2.2.1⟩) (first|(go_at_call 110;go_must (refine (zd_w _ _ hc' _).mono ?_);rintro e w9 ⟨rfl,hb9⟩))
 all_goals
  go_wp2_with fail
  go_ret
  exact⟨rfl,Below.trans (Below.drew (Below.refl _ w)) (by assumption)⟩
theorem zh_p {L:Wal.L} (h:LB w q g L) (z:Int):Calls Tryz.prog 126 #[.pointer q,z] w fun e w' =>
 e=.returned (z:Value)/\w'=w.setCell (q 7) (.bool (L.fl || z != 0))/\LB w' q g { L with fl:=L.fl || z != 0 }:=by
 have h7:=h.cells.2.2.2.2.2.2.2
 have hf:=h.free 7
 have hS:LB (w.setCell (q 7) (.bool (L.fl || z != 0))) q g { L with fl:=L.fl || z != 0 }:=by
  unfold LB;rw [heap_setCell_same _ _ _ _ _ _ h];rfl
 have HS:=zH hS
 clear hS h
 obtain⟨f,c,ep,en,rc,sy,fl⟩:=L
 simp only at h7
 cases fl
 ·by_cases hz:z=0
  ·subst hz
   go_enter Tryz.func126,Tryz.ntmps126
   go_wp2
   go_ret
   exact⟨rfl,rfl,HS.out⟩
  ·have t1:(z != 0)=true:=by simpa using hz
   rw [t1] at HS ⊢
   go_enter Tryz.func126,Tryz.ntmps126
   go_wp2
   go_ret
   exact⟨rfl,rfl,HS.out⟩
 ·go_enter Tryz.func126,Tryz.ntmps126
  go_wp2
  go_ret
  exact⟨rfl,rfl,HS.out⟩
end
section
open Go.RowKit
def zeros (r:List UInt8):Bool:=r.all (· == 0)
def Wal.erase (d:Disk.Dk) (f c en:Int) (r:List UInt8):Int × Disk.Dk:=if zeros r then (0,d) else Extent.write d f c en (List.replicate r.length 0)
theorem zg_t (l:List UInt8) (o k:Nat) (h:o+k < l.length):zeros ((l.drop o).take (k+1))=(zeros ((l.drop o).take k) && (l[o+k]?.getD 0 == 0)):=by
 unfold zeros
 have h1:k < (l.drop o).length:=by rw [List.length_drop];omega
 rw [<-List.take_append_getElem h1,List.all_append]
 simp [h]
theorem zt_g (l:List UInt8) (o k:Nat) (h:o+k < l.length):(l.take o ++ List.replicate k 0 ++ l.drop (o+k))[o+k]?.getD 0=l[o+k]?.getD 0:=by
 have e:(l.take o ++ List.replicate k (0:UInt8)).length=o+k:=by rw [List.length_append,List.length_take,List.length_replicate];omega
 rw [List.getElem?_append_right (by omega),e,Nat.sub_self,List.getElem?_drop];simp
theorem zs_o (l:List UInt8) (o k:Nat) (h:o+k < l.length):(l.take o ++ List.replicate k 0 ++ l.drop (o+k)).set (o+k) 0=l.take o ++ List.replicate (k+1) 0 ++ l.drop (o+(k+1)):=by
 have e:(l.take o ++ List.replicate k (0:UInt8)).length=o+k:=by rw [List.length_append,List.length_take,List.length_replicate];omega
 rw [List.set_append_right _ _ (by omega),e,Nat.sub_self,List.drop_eq_getElem_cons h,List.set_cons_zero,List.replicate_succ',show o+(k+1)=o+k+1 by omega]
 simp
set_option maxRecDepth 100000 in
set_option maxHeartbeats 2000000 in
theorem zr_a {F:Nat->Prop} {w:World} {g s m:Nat} {fa:Option Addr} {fn fc:Nat} {d:Disk.Dk} (hP:PD F w g s m fa fn fc d) {q:Nat} {L:Wal.L} (hL:LB w q g L) (hf:ib L.f) (hc:ib L.c) (hen:L.en<=1000000)
 {base gb n c0:Nat} {l:List UInt8} (hO:OwnB base w (.slice gb n c0) l) (hg:¬ F gb) (hgq:gb ≠ q) (o r:Nat) (hor:o+r=l.length) (hr:r<=1000000) (a:Option Addr) (ca:Nat) (ha:r ≠ 0->a=some (gb o)) (hS:SlB w a r ca (l.drop o)) {z:Int} {d':Disk.Dk} (hres:Wal.erase d L.f L.c L.en (l.drop o)=(z,d')) :
 Calls Tryz.prog 129 #[.pointer q,.slice a r ca] w fun e w'=>e=.returned (z:Value)/\∃ F' w1,But gb w w1/\PD F' w' g s m fa fn fc d'/\Upd F w1 F' w':=by
 have hle:=hS.le
 go_enter Tryz.func129,Tryz.ntmps129
 go_wp2_with fail
 go_loopw [5,9] (fun cl i wr=>∃ k:Nat,k<=r/\i=.int .i64 k/\cl=.bool (zeros ((l.drop o).take k))/\OwnB base wr (.slice gb n c0) (l.take o ++ List.replicate k 0 ++ l.drop (o+k))/\But gb w wr) (fun _ i _=>r - (intOf i).toNat)
 case atStart=>exact⟨0,by omega,rfl,by simp [zeros],by simpa using hO,But.refl _ _⟩
 case round =>
  obtain⟨k,hk,rfl,rfl,hOk,hB⟩:=hrel
  by_cases hlt:k < r
  ·obtain rfl:=ha (by omega)
   have k0:decide ((k:Int) < (r:Int))=true:=by simp;omega
   have hok:o+k < l.length:=by omega
   have hcl:=hOk.row (o+k) (by simp;omega)
   rw [zt_g l o k hok] at hcl
   have hfr:=hOk.free (o+k)
   have HZ:=zH (zg_t l o k hok)
   have HRS:=zH (zs_o l o k hok)
   have hst:=hOk.set (o+k) 0
   rw [HRS.out] at hst
   have HST:=zH hst
   have HB:=zH (hB.setCell (o+k) (bv 0))
   clear hst hOk hS
   obtain⟨x,hx⟩:∃ x,x=l[o+k]?.getD 0:=⟨_,rfl⟩
   rw [<-hx] at hcl HZ
   obtain⟨b,hb⟩:∃ b,b=zeros ((l.drop o).take k):=⟨_,rfl⟩
   rw [<-hb] at HZ ⊢
   clear hx hb
   change wr.cell? _=some (.int .u8 (x.toNat:Int)) at hcl
   have hx256:=x.toNat_lt
   cases b
   ·go_wp2
    refine⟨⟨k+1,by omega,rfl,by rw [HZ.out];rfl,HST.out,HB.out⟩,by simp [intOf];omega⟩
   ·by_cases hx0:x=0
    ·have t0:((x.toNat:Int) == 0)=true:=by subst hx0;rfl
     go_wp2
     refine⟨⟨k+1,by omega,rfl,by rw [HZ.out];subst hx0;rfl,HST.out,HB.out⟩,by simp [intOf];omega⟩
    ·have hx1:x.toNat ≠ 0:=fun e=>hx0 (UInt8.toNat_inj.1 e)
     have t0:((x.toNat:Int) == 0)=false:=by simp;omega
     have t1:(x == 0)=false:=by simpa using hx0
     go_wp2
     refine⟨⟨k+1,by omega,rfl,by rw [HZ.out];rw [t1];rfl,HST.out,HB.out⟩,by simp [intOf];omega⟩
  ·obtain rfl:k=r:=by omega
   have k0:decide ((k:Int) < (k:Int))=false:=by simp
   have hall:(l.drop o).take k=l.drop o:=List.take_of_length_le (by rw [List.length_drop];omega)
   have hdr:l.drop (o+k)=[]:=List.drop_of_length_le (by omega)
   rw [hdr,List.append_nil] at hOk
   rw [hall]
   have hgF:∀ x,F x->x ≠ gb:=fun x e e2=>hg (e2 ▸ e)
   have hP1:PD F wr g s m fa fn fc d:=hP.stay (fun b hb=>hB.block b (hP.lt b hb) (hgF b hb)) hB.size
   have hL1:LB wr q g L:=hL.same (hB.block q hL.lt (fun e=>hgq e.symm))
   unfold Wal.erase at hres
   by_cases hz:zeros (l.drop o)=true
   ·rw [hz]
    rw [if_pos hz] at hres
    injection hres with e1 e2
    subst e1 e2
    go_wp2
    go_ret
    exact⟨rfl,F,wr,hB,hP1,Upd.refl F wr⟩
   ·have hz':zeros (l.drop o)=false:=by simpa using hz
    rw [hz']
    rw [if_neg hz] at hres
    have hlen:(List.replicate (l.drop o).length (0:UInt8))=List.replicate k 0:=by rw [List.length_drop];congr 1;omega
    rw [hlen] at hres
    have hk0:k ≠ 0:=by
     rintro rfl
     apply hz;rw [<-hall];simp [zeros]
    obtain rfl:=ha hk0
    have hS1:SlB wr (gb o) k ca (List.replicate k 0):=by
     obtain⟨q1,q2,q3,q4,q5⟩:=hS
     refine⟨by simp,q2,q3,(fun e=>by cases e),fun x hx i hi=>?_⟩
     cases hx
     have hi':i < k:=by simpa using hi
     have hrow:=hOk.row (o+i) (by simp;omega)
     have e1:(l.take o ++ List.replicate k (0:UInt8))[o+i]?.getD 0=0:=by
      have e2:o+i - (l.take o).length=i:=by rw [List.length_take];omega
      rw [List.getElem?_append_right (by rw [List.length_take];omega),e2]
      simp [hi']
     rw [e1] at hrow
     have hbt:gb < wr.heap.size:=by
      obtain⟨cs,hcs⟩:=hOk.cells (k:=gb) rfl
      exact za_a hcs
     refine⟨rfl,hbt,?_⟩
     rw [hrow];simp [bv]
    obtain⟨h0,h1,h2,h3,h4,h5,h6,h7⟩:=hL1.cells
    have HW:=zH (zc_x hP1.drew L.f L.c L.en hf hc (by unfold ib;omega) (hS1.stay (w':=wr.drew) (fun _ _ _=>rfl) (zN _)) (fun y hy _=>by cases hy;exact hg) hres)
    have h0':wr.drew.cell? q=some (.pointer g):=h0
    go_wp2_with fail
    refine wp_region_still_tail 13 (by kernel_rfl) (by kernel_rfl) ?_
    simp only [List.take_succ_cons,List.take_zero,List.drop_succ_cons,List.drop_zero]
    repeat still_step
    refine wpStill_nil ?_
    change wpList _ _ _ _ _ wr.drew
    go_wp2_with (go_at_call 108;go_must (refine HW.out.mono ?_);rintro e w6 ⟨rfl,F6,hP6,hU6⟩)
    go_ret
    exact⟨rfl,F6,wr.drew,⟨hB.os,hB.tape,hB.output,hB.size,hB.block⟩,hP6,hU6⟩
end
section
open Go.RowKit
set_option maxRecDepth 100000
variable {F:Nat->Prop} {w:World} {fc fn g m q s:Nat} {fa:Option Addr} {L L':Wal.L} {d d':Disk.Dk} {z:Int}
theorem Upd.beside {F':Nat->Prop} {w':World} (h:Upd F w F' w') (q:Nat):Upd (fun k=>F k\/k=q) w (fun k=>F' k\/k=q) w' :=
 ⟨h.os,h.tape,h.output,h.size,fun k hk hn=>h.block k hk (fun e=>hn (.inl e)),fun k hk=>by
  rcases hk with e|e
  ·rcases h.new k e with e|e
   ·exact .inl (.inl e)
   ·exact .inr e
  ·exact .inl (.inr e)⟩
structure WD (F:Nat->Prop) (w:World) (q g s m:Nat) (fa:Option Addr) (fn fc:Nat) (L:Wal.L) (d:Disk.Dk):Prop where
 disk:PD F w g s m fa fn fc d
 log:LB w q g L
 apart:¬ F q
def Wal.sync (L:Wal.L) (d:Disk.Dk):Int × Wal.L × Disk.Dk :=
 if L.fl then (12,L,d) else
  match Disk.sync d with
 |(z,d')=>if z=0 then (0,{ L with sy:=L.rc },d') else (z,{ L with fl:=true },d')
theorem zt_c (h:WD F w q g s m fa fn fc L d) (hr:Wal.sync L d=(z,L',d')) :
 Calls Tryz.prog 64 #[.pointer q] w fun e w'=>e=.returned (z:Value)/\WD F w' q g s m fa fn fc L' d'/\Upd (fun k=>F k\/k=q) w (fun k=>F k\/k=q) w':=by
 have HFD:=zH (zj_c h.log)
 unfold Wal.sync at hr
 by_cases hfl:L.fl=true
 ·rw [if_pos hfl] at hr
  cases hr
  rw [hfl] at HFD
  go_enter Tryz.func64,Tryz.ntmps64
  go_wp2_with (go_at_call 124;refine HFD.out.mono ?_;rintro e w' ⟨rfl,rfl⟩)
  go_ret
  exact⟨rfl,h,Upd.refl _ _⟩
 ·have hfl':L.fl=false:=by simpa using hfl
  rw [if_neg hfl] at hr
  rw [hfl'] at HFD
  rcases hs:Disk.sync d with⟨z1,d1⟩
  rw [hs] at hr
  have HS:=zH (ze_e h.disk hs)
  have h0:=h.log.cells.1
  by_cases hz:z1=0
  ·subst hz
   have hr:(0,{ L with sy:=L.rc },d1)=(z,L',d'):=hr
   cases hr
   go_enter Tryz.func64,Tryz.ntmps64
   go_wp2_with (first
   |(go_at_call 124;refine HFD.out.mono ?_;rintro e w' ⟨rfl,rfl⟩)
   |(go_at_call 51;refine HS.out.mono ?_;rintro e w1 ⟨rfl,hP1,hU1⟩;have hL1:=h.log.same (hU1.block _ h.log.lt h.apart);have HFL:=zH (zh_p hL1 0))
   |(go_at_call 126;refine HFL.out.mono ?_;rintro e w2 ⟨rfl,hw2,hL2⟩;have HW2:=zH hw2;clear hw2;have c5:=hL2.cells.2.2.2.2.2.1;have f6:=hL2.free 6;have c6:=hL2.cells.2.2.2.2.2.2.1;simp only at c5 c6))
   go_ret
   have hU2:Upd (fun k=>F k\/k=q) w (fun k=>F k\/k=q) w2:=by rw [HW2.out];exact (hU1.beside q).setCell (.inl (.inr rfl)) _ _
   have hP2:PD F w2 g s m fa fn fc d':=by rw [HW2.out];exact hP1.other h.apart _ _
   refine⟨rfl,⟨hP2.other h.apart _ _,?_,h.apart⟩,hU2.setCell (.inl (.inr rfl)) _ _⟩
   unfold LB
   rw [heap_setCell_same _ _ _ _ _ _ hL2,hfl']
   rfl
  ·have t1:(z1 != 0)=true:=by simpa using hz
   have hr:(if z1=0 then (0,{ L with sy:=L.rc },d1) else (z1,{ L with fl:=true },d1):Int × Wal.L × Disk.Dk)=(z,L',d'):=hr
   rw [if_neg hz] at hr
   obtain rfl:z=z1:=(congrArg (fun x:Int × Wal.L × Disk.Dk=>x.1) hr).symm
   obtain rfl:L'={ L with fl:=true }:=(congrArg (fun x:Int × Wal.L × Disk.Dk=>x.2.1) hr).symm
   obtain rfl:d'=d1:=(congrArg (fun x:Int × Wal.L × Disk.Dk=>x.2.2) hr).symm
   clear hr
   go_enter Tryz.func64,Tryz.ntmps64
   go_wp2_with (first
   |(go_at_call 124;refine HFD.out.mono ?_;rintro e w' ⟨rfl,rfl⟩)
   |(go_at_call 51;refine HS.out.mono ?_;rintro e w1 ⟨rfl,hP1,hU1⟩;have hL1:=h.log.same (hU1.block _ h.log.lt h.apart);have HFL:=zH (zh_p hL1 z))
   |(go_at_call 126;refine HFL.out.mono ?_;rintro e w2 ⟨rfl,hw2,hL2⟩;have HW2:=zH hw2;clear hw2))
   go_ret
   rw [t1,Bool.or_true] at hL2
   have hU2:Upd (fun k=>F k\/k=q) w (fun k=>F k\/k=q) w2:=by rw [HW2.out];exact (hU1.beside q).setCell (.inl (.inr rfl)) _ _
   have hP2:PD F w2 g s m fa fn fc d':=by rw [HW2.out];exact hP1.other h.apart _ _
   exact⟨rfl,⟨hP2,hL2,h.apart⟩,hU2⟩
def Wal.append (L:Wal.L) (d:Disk.Dk) (p:List UInt8):Int × Wal.L × Disk.Dk :=
 if L.fl then (12,L,d) else if 1024 < p.length then (3,L,d) else if Extent.size L.c - (L.en:Int) < ((14+p.length:Nat):Int) then (11,L,d) else
  match Extent.write d L.f L.c L.en (Frame.enc L.ep L.rc p) with
 |(z,d')=>if z=0 then (0,{ L with en:=L.en+(14+p.length),rc:=L.rc+1 },d') else (z,{ L with fl:=true },d')
structure Wal.Fits (L:Wal.L):Prop where
 f:ib L.f
 c:ib L.c
 ep:L.ep < 4294967296
 en:L.en<=1000000
 rc:L.rc<=1000000
 size:Extent.size L.c<=1000000/\0<=Extent.size L.c
set_option maxHeartbeats 2000000 in
theorem zp_b (h:WD F w q g s m fa fn fc L d) (hfit:Wal.Fits L) (a:Option Addr) (n ca:Nat) (p:List UInt8) (hp:SlB w a n ca p) (hr:Wal.append L d p=(z,L',d')) :
 Calls Tryz.prog 62 #[.pointer q,.slice a n ca] w fun e w'=>e=.returned (z:Value)/\∃ F',WD F' w' q g s m fa fn fc L' d'/\Upd (fun k=>F k\/k=q) w (fun k=>F' k\/k=q) w':=by
 have HFD:=zH (zj_c h.log)
 have hpl:=hp.len
 have hpe:=hp.le
 obtain⟨b1,b2,b3,b4,b5,b6⟩:=hfit
 unfold Wal.append at hr
 by_cases hfl:L.fl=true
 ·rw [if_pos hfl] at hr
  cases hr
  rw [hfl] at HFD
  go_enter Tryz.func62,Tryz.ntmps62
  go_wp2_with (go_at_call 124;refine HFD.out.mono ?_;rintro e w' ⟨rfl,rfl⟩)
  go_ret
  exact⟨rfl,F,h,Upd.refl _ _⟩
 have hfl':L.fl=false:=by simpa using hfl
 rw [if_neg hfl] at hr
 rw [hfl'] at HFD
 obtain⟨h0,h1,h2,h3,h4,h5,h6,h7⟩:=h.log.cells
 have w3:w.drew.cell? (q 3)=some (.int .u32 (L.ep:Nat)):=h3
 have w5:w.drew.cell? (q 5)=some (.int .i64 (L.rc:Nat)):=h5
 have hcv:IntKind.u32.wrap (L.rc:Int)=(L.rc:Int):=by unfold IntKind.wrap;simp [IntKind.bits,IntKind.signed];omega
 by_cases hlong:1024 < n
 ·rw [if_pos (by omega)] at hr
  cases hr
  go_enter Tryz.func62,Tryz.ntmps62
  go_wp2_with (go_at_call 124;refine HFD.out.mono ?_;rintro e w' ⟨rfl,rfl⟩)
  go_region_held3 (fun w'=>w'.cell? (q 3)=some (.int .u32 (L.ep:Nat))/\w'.cell? (q 5)=some (.int .i64 (L.rc:Nat))) (first|exact⟨h3,h5⟩|assumption|exact⟨(h.log.ext (Below.trans (Below.drew (Below.refl _ w)) (by assumption))).cells.2.2.2.1,(h.log.ext (Below.trans (Below.drew (Below.refl _ w)) (by assumption))).cells.2.2.2.2.2.1⟩) (first|(go_at_call 125;go_must (refine (zf_u _ _ a n ca _ hlong hpe).mono ?_);rintro e w9 ⟨rfl,rfl⟩))
  all_goals
   go_wp2_with fail
   go_ret
   exact⟨rfl,F,⟨h.disk.drew,h.log,h.apart⟩,(Upd.refl _ _).drew⟩
 rw [if_neg (by omega)] at hr
 have hle:(Frame.enc L.ep L.rc p).length=14+n:=by rw [Frame.enc_length,hpl]
 have HLE:=zH hle
 have hfe:=zk_j (w:=w) h.log b2 b4 b6
 rw [hpl] at hr
 have hbig:n<=1024:=by omega
 by_cases hfull:Extent.size L.c - (L.en:Int) < ((14+n:Nat):Int)
 ·rw [if_pos hfull] at hr
  cases hr
  go_enter Tryz.func62,Tryz.ntmps62
  go_wp2_with (go_at_call 124;refine HFD.out.mono ?_;rintro e w' ⟨rfl,rfl⟩)
  go_region_held3 (fun w'=>w'.cell? (q 3)=some (.int .u32 (L.ep:Nat))/\w'.cell? (q 5)=some (.int .i64 (L.rc:Nat))) (first|exact⟨h3,h5⟩|assumption|exact⟨(h.log.ext (Below.trans (Below.drew (Below.refl _ w)) (by assumption))).cells.2.2.2.1,(h.log.ext (Below.trans (Below.drew (Below.refl _ w)) (by assumption))).cells.2.2.2.2.2.1⟩) (first|(go_at_call 125;go_must (refine (ze_k _ _ b3 (by omega) a n ca p _ (hp.ext (Below.drew (Below.refl _ w))) hbig).mono ?_);rintro e w9 ⟨v9,rfl,hO9,hB9⟩))
  all_goals
   obtain⟨a9,c9,rfl,hs9,-⟩:=hO9.sl
   rw [HLE.out] at hs9 ⊢
   have hB09:Below w.heap.size w w9:=Below.trans (Below.drew (Below.refl _ w)) hB9
   have hL9:=h.log.ext hB09
   have hfr:=zk_j hL9 b2 b4 b6
   have k1:decide (Extent.size L.c - (L.en:Int) < ((14+n:Nat):Int))=true:=by simpa using hfull
   have k2:decide (Extent.size L.c - (L.en:Int) < 14+(n:Int))=true:=by simp;omega
   have HFR:=zH hfr
   clear hfr hfe
   go_wp2_with (go_at_call 60;go_must (refine HFR.out.mono ?_);rintro e w10 ⟨rfl,hB10⟩)
   go_ret
   exact⟨rfl,F,⟨(h.disk.ext hB09).ext hB10,hL9.ext hB10,h.apart⟩,((Upd.of_ext hB09).ext hB10)⟩
 ·rw [if_neg hfull] at hr
  rcases hw:Extent.write d L.f L.c L.en (Frame.enc L.ep L.rc p) with⟨z1,d1⟩
  rw [hw] at hr
  have HW:=zH hw
  clear hw
  go_enter Tryz.func62,Tryz.ntmps62
  go_wp2_with (go_at_call 124;refine HFD.out.mono ?_;rintro e w' ⟨rfl,rfl⟩)
  go_region_held3 (fun w'=>w'.cell? (q 3)=some (.int .u32 (L.ep:Nat))/\w'.cell? (q 5)=some (.int .i64 (L.rc:Nat))) (first|exact⟨h3,h5⟩|assumption|exact⟨(h.log.ext (Below.trans (Below.drew (Below.refl _ w)) (by assumption))).cells.2.2.2.1,(h.log.ext (Below.trans (Below.drew (Below.refl _ w)) (by assumption))).cells.2.2.2.2.2.1⟩) (first|(go_at_call 125;go_must (refine (ze_k _ _ b3 (by omega) a n ca p _ (hp.ext (Below.drew (Below.refl _ w))) hbig).mono ?_);rintro e w9 ⟨v9,rfl,hO9,hB9⟩))
  all_goals
   obtain⟨a9,c9,rfl,hs9,hf9⟩:=hO9.sl
   rw [HLE.out] at hs9 ⊢
   have hB09:Below w.heap.size w w9:=Below.trans (Below.drew (Below.refl _ w)) hB9
   have hL9:=h.log.ext hB09
   have hfr:=zk_j hL9 b2 b4 b6
   have k1:decide (Extent.size L.c - (L.en:Int) < ((14+n:Nat):Int))=false:=by simpa using hfull
   have k2:decide (Extent.size L.c - (L.en:Int) < 14+(n:Int))=false:=by simp;omega
   have HFR:=zH hfr
   clear hfr hfe h0 h1 h2 h3 h4 h5 h6 h7 w3 w5
   go_wp2_with (go_at_call 60;go_must (refine HFR.out.mono ?_);rintro e w10 ⟨rfl,hB10⟩)
   have hB010:Below w.heap.size w w10:=hB09.trans (hB10.mono hB09.size)
   have hP10:PD F w10.drew g s m fa fn fc d:=(h.disk.ext hB010).drew
   have hL10:LB w10.drew q g L:=LB.same (w:=w10) (h.log.ext hB010) rfl
   obtain⟨h0,h1,h2,h3,h4,h5,h6,h7⟩:=hL10.cells
   have hs10:SlB w10.drew a9 (14+n) c9 (Frame.enc L.ep L.rc p):=(hs9.ext hB10).stay (w':=w10.drew) (fun _ _ _=>rfl) (zN _)
   have HX:=zH (zc_x hP10 L.f L.c L.en b1 b2 (by unfold ib;omega) hs10 (fun y hy _ e=>by have:=(hf9 y hy).2.1;have:=h.disk.lt _ e;have:w.drew.heap.size=w.heap.size:=rfl;omega) HW.out)
   have hU010:Upd F w F w10.drew:=(Upd.of_ext hB010).drew
   by_cases hz:z1=0
   ·subst hz
    have hr:(0,{ L with en:=L.en+(14+n),rc:=L.rc+1 },d1)=(z,L',d'):=hr
    obtain rfl:0=z:=(congrArg (fun x:Int × Wal.L × Disk.Dk=>x.1) hr)
    obtain rfl:L'={ L with en:=L.en+(14+n),rc:=L.rc+1 }:=(congrArg (fun x:Int × Wal.L × Disk.Dk=>x.2.1) hr).symm
    obtain rfl:d'=d1:=(congrArg (fun x:Int × Wal.L × Disk.Dk=>x.2.2) hr).symm
    clear hr
    go_region_law (first
    |(go_simp;go_at_call 108;go_must (refine HX.out.mono ?_);rintro e w11 ⟨rfl,F11,hP11,hU11⟩;have hL11:=hL10.same (hU11.block _ hL10.lt h.apart);have HFL:=zH (zh_p hL11 0))
    |(go_simp;go_at_call 126;go_must (refine HFL.out.mono ?_);rintro e w12 ⟨rfl,hw2,hL12⟩;have HW2:=zH hw2;clear hw2;have c4:=hL12.cells.2.2.2.2.1;have c5:=hL12.cells.2.2.2.2.2.1;have f4:=hL12.free 4;have f5:=hL12.free 5;simp only at c4 c5))
    all_goals
     clear h0 h1 h2 h3 h4 h5 h6 h7
     go_wp2_with fail
     go_ret
     have n11:¬ F11 q:=fun e=>by
      rcases hU11.new q e with e|e
      ·exact h.apart e
      ·have:=hL10.lt;omega
     have hU:Upd (fun k=>F k\/k=q) w (fun k=>F11 k\/k=q) w12:=by rw [HW2.out];exact ((hU010.trans hU11).beside q).setCell (.inl (.inr rfl)) _ _
     have hP12:PD F11 w12 g s m fa fn fc d':=by rw [HW2.out];exact hP11.other n11 _ _
     refine⟨rfl,F11,⟨(hP12.other n11 _ _).other n11 _ _,?_,n11⟩,(hU.setCell (.inl (.inr rfl)) _ _).setCell (.inl (.inr rfl)) _ _⟩
     refine (heap_setCell_same _ _ _ _ _ _ (heap_setCell_same _ _ _ _ _ _ hL12)).trans ?_
     simp [hfl']
   ·have t1:(z1 != 0)=true:=by simpa using hz
    have hr:(if z1=0 then (0,{ L with en:=L.en+(14+n),rc:=L.rc+1 },d1) else (z1,{ L with fl:=true },d1):Int × Wal.L × Disk.Dk)=(z,L',d'):=hr
    rw [if_neg hz] at hr
    obtain rfl:z=z1:=(congrArg (fun x:Int × Wal.L × Disk.Dk=>x.1) hr).symm
    obtain rfl:L'={ L with fl:=true }:=(congrArg (fun x:Int × Wal.L × Disk.Dk=>x.2.1) hr).symm
    obtain rfl:d'=d1:=(congrArg (fun x:Int × Wal.L × Disk.Dk=>x.2.2) hr).symm
    clear hr
    go_region_law (first
    |(go_simp;go_at_call 108;go_must (refine HX.out.mono ?_);rintro e w11 ⟨rfl,F11,hP11,hU11⟩;have hL11:=hL10.same (hU11.block _ hL10.lt h.apart);have HFL:=zH (zh_p hL11 z))
    |(go_simp;go_at_call 126;go_must (refine HFL.out.mono ?_);rintro e w12 ⟨rfl,hw2,hL12⟩;have HW2:=zH hw2;clear hw2))
    all_goals
     clear h0 h1 h2 h3 h4 h5 h6 h7
     go_wp2_with fail
     go_ret
     rw [t1,Bool.or_true] at hL12
     have n11:¬ F11 q:=fun e=>by
      rcases hU11.new q e with e|e
      ·exact h.apart e
      ·have:=hL10.lt;omega
     have hU:Upd (fun k=>F k\/k=q) w (fun k=>F11 k\/k=q) w12:=by rw [HW2.out];exact ((hU010.trans hU11).beside q).setCell (.inl (.inr rfl)) _ _
     have hP12:PD F11 w12 g s m fa fn fc d':=by rw [HW2.out];exact hP11.other n11 _ _
     exact⟨rfl,F11,⟨hP12,hL12,n11⟩,hU⟩
end
section
open Go.RowKit
def Wal.open (d:Disk.Dk) (f c:Int) (ep:Nat):Option Wal.L × List (List UInt8) × Int × Disk.Dk :=
 match Extent.read d f c 0 (Extent.size c) with
|(b,z,d1) =>
  if z=0 then
   match Wal.erase d1 f c (Frame.scan b ep).2 (b.drop (Frame.scan b ep).2) with
  |(z2,d2) =>
    if z2=0 then
     match Disk.sync d2 with
    |(z3,d3)=>if z3=0 then (some ⟨f,c,ep,(Frame.scan b ep).2,(Frame.scan b ep).1.length,(Frame.scan b ep).1.length,false⟩,(Frame.scan b ep).1,0,d3) else (none,[],z3,d3)
    else (none,[],z2,d2)
  else (none,[],z,d1)
theorem zk_d (c:Int):ib (Extent.size c):=by unfold Extent.size ib;split <;> omega
set_option maxRecDepth 100000 in
set_option maxHeartbeats 2000000 in
theorem zk_k {F:Nat->Prop} {w:World} {g s m:Nat} {fa:Option Addr} {fn fc:Nat} {d:Disk.Dk} (h:PD F w g s m fa fn fc d) (f c:Int) (hf:ib f) (hc:ib c) (ep:Nat) {b:List UInt8} {z:Int} {d1:Disk.Dk} (hr:Extent.read d f c 0 (Extent.size c)=(b,z,d1)) (hz:¬ z=0) :
 Calls Tryz.prog 66 #[.pointer g,.agg #[f,c],.int .u32 (ep:Nat)] w fun e w'=>e=.returned (.tuple #[.pointer none,.slice none 0 0,z])/\PD F w' g s m fa fn fc d1/\Upd F w F w':=by
 have t1:(z != 0)=true:=by simpa using hz
 obtain⟨W0,hW0⟩:∃ W0,W0=w.alloc (.cells #[f,c] 23):=⟨_,rfl⟩
 have hB0:Below w.heap.size w W0:=by rw [hW0];exact (Below.refl _ _).alloc (zN _) _
 have hE0:W0.heap[w.heap.size]?=some (.cells #[f,c] 23 (0,0)):=by rw [hW0];exact za_b _ _ _ rfl
 have HW0:=zH hW0
 have HE0:=zH hE0
 have x1:W0.drew.cell? w.heap.size=some (f:Value):=by rw [show W0.drew.cell? w.heap.size=W0.cell? w.heap.size from rfl,cell_of_row _ _ _ _ _ _ hE0];rfl
 have x2:W0.drew.cell? (w.heap.size 1)=some (c:Value):=by rw [show W0.drew.cell? (w.heap.size 1)=W0.cell? (w.heap.size 1) from rfl,cell_of_row _ _ _ _ _ _ hE0];rfl
 have hP0:PD F W0.drew g s m fa fn fc d:=(h.ext hB0).drew
 have hU0:Upd F w F W0.drew:=(Upd.of_ext hB0).drew
 have hlt:w.heap.size < W0.drew.heap.size:=za_a hE0
 clear hW0 hE0
 go_enter Tryz.func66,Tryz.ntmps66
 go_wp2_with fail
 rw [<-HW0.out]
 go_region_law (first|(go_simp;go_at_call 110;go_must (refine (zd_w f c hc _).mono ?_);rintro e w1 ⟨rfl,hB1⟩;have y1:w1.cell? w.heap.size=some (f:Value):=(by simp only [World.cell?,hB1.block _ hlt] at x1 ⊢;exact x1);have y2:w1.cell? (w.heap.size 1)=some (c:Value):=(by simp only [World.cell?,hB1.block _ hlt] at x2 ⊢;exact x2))|(go_simp;go_at_call 127;go_must (refine (zd_v (hP0.ext hB1) f c 0 (Extent.size c) hf hc (by unfold ib;omega) (zk_d c) hr).mono ?_);rintro e w2 ⟨v2,rfl,hO2,hP2,hU2⟩))
 all_goals
  clear hr
  go_wp2_with fail
  go_ret3
  exact⟨rfl,hP2,(hU0.ext hB1).trans hU2⟩
end
section
open Go.RowKit
variable {w w':World} {v:Value} {d d':Disk.Dk} {c f:Int} {b:List UInt8} {base:Nat} {ls:List (List UInt8)}
theorem Extent.rd_len {first off e:Nat} (hoe:off<=e):∀ (m k:Nat) (acc:List UInt8) (d:Disk.Dk),d.Ok->k+m=Extent.cnt off e->acc.length=Extent.pos off e k - off->∀ {b:List UInt8} {d':Disk.Dk},Extent.rd first off e m k acc d=(b,0,d')->b.length=e - off:=by
 intro m
 induction m with
|zero =>
  intro k acc d h hk ha b d' hr
  have hpc:Extent.pos off e k=e:=by rw [show k=Extent.cnt off e by omega];exact Extent.pos_cnt off e hoe
  have hr:(acc,(0:Int),d)=(b,0,d'):=hr
  injection hr with h1 _
  rw [<-h1,ha,hpc]
|succ m ih =>
  intro k acc d h hk ha b d' hr
  have hlt:=(Extent.pos_lt off e k hoe).2 (by omega)
  have hsu:=Extent.pos_succ off e k (by omega)
  have hge:=Extent.pos_ge off e k
  obtain⟨s1,s2,s3,s4⟩:=Extent.step_pos hlt
  rcases hd:Disk.read d ((first+Extent.pos off e k / 64:Nat):Int) with⟨b1,z,d1⟩
  by_cases hz:z=0
  ·subst hz
   rw [Extent.rd_ok hd] at hr
   have hl:=Disk.read_len h hd
   have hOk:=h.read ((first+Extent.pos off e k / 64:Nat):Int)
   rw [hd] at hOk
   refine ih (k+1) _ d1 hOk (by omega) ?_ hr
   rw [List.length_append,ha,List.length_take,List.length_drop,hl,hsu];omega
  ·rw [Extent.rd_err hd hz] at hr
   injection hr with _ hr;injection hr with hr _;exact absurd hr hz
theorem Extent.read_len (h:d.Ok) {off len:Int} (hr:Extent.read d f c off len=(b,0,d')):(b.length:Int)=len/\Extent.check d.st.length f c off len=0:=by
 unfold Extent.read at hr
 by_cases hc:Extent.check d.st.length f c off len=0
 ·rw [if_pos hc] at hr
  obtain⟨c1,c2,c3,c4,c5,c6,c7⟩:=Extent.check_ok hc
  have hp:Extent.pos off.toNat (off+len).toNat 0=off.toNat:=Extent.pos_zero _ _
  have:=Extent.rd_len (by omega) _ _ _ d h (by omega) (by rw [hp];simp) hr
  exact⟨by omega,hc⟩
 ·rw [if_neg hc] at hr
  injection hr with _ hr;injection hr with hr _;exact absurd hr hc
theorem Wal.read_all (h:d.Ok) (hn:d.st.length<=1000) (hr:Extent.read d f c 0 (Extent.size c)=(b,0,d')):64<=b.length/\b.length<=64000/\(b.length:Int)=Extent.size c:=by
 obtain⟨h1,h2⟩:=Extent.read_len h hr
 obtain⟨c1,c2,c3,c4,c5,c6,c7⟩:=Extent.check_ok h2
 have hs:Extent.size c=c * 64:=by unfold Extent.size;rw [if_neg (by omega)]
 rw [hs] at h1 ⊢
 exact⟨by omega,by omega,h1⟩
theorem Frame.go_le (b:List UInt8) (ep f:Nat):∀ k out e,e<=b.length->14 * out.length<=e->(Frame.go b ep f k out e).2<=b.length/\14 * (Frame.go b ep f k out e).1.length<=(Frame.go b ep f k out e).2:=by
 induction f with
|zero=>intro k out e h1 h2;exact⟨h1,h2⟩
|succ f ih =>
  intro k out e h1 h2
  by_cases h:(Frame.dec (b.drop e) ep k).2.2=0
  ·rw [Frame.go_ok _ _ _ _ _ _ h]
   obtain⟨k1,k2,k3⟩:=Frame.dec_ok _ _ _ h
   rw [List.length_drop] at k2
   exact ih _ _ _ (by omega) (by rw [List.length_append,List.length_singleton];omega)
  ·rw [Frame.go_end _ _ _ _ _ _ h];exact⟨h1,h2⟩
theorem Frame.scan_le (b:List UInt8) (ep:Nat):(Frame.scan b ep).2<=b.length/\14 * (Frame.scan b ep).1.length<=(Frame.scan b ep).2:=Frame.go_le b ep _ _ _ _ (by omega) (by simp)
theorem OwnB.keep {l:List UInt8} (h:OwnB base w v l) (e:∀ k,base<=k->k < w.heap.size->w'.heap[k]?=w.heap[k]?):OwnB base w' v l:=by
 refine⟨h.1,?_⟩
 rcases h.2 with hn|⟨g,cap,cur,rfl,hb,hgg,rest⟩
 ·exact .inl hn
 ·exact .inr ⟨g,cap,cur,rfl,hb,(e g hb (za_a hgg)).trans hgg,rest⟩
theorem OwnL.keep (h:OwnL base w v ls) (e:∀ k,base<=k->k < w.heap.size->w'.heap[k]?=w.heap[k]?):OwnL base w' v ls:=by
 obtain⟨vs,h1,h2⟩:=h
 refine⟨vs,⟨h1.1,?_⟩,fun i hi=>?_⟩
 ·rcases h1.2 with hn|⟨g,cap,cur,rfl,hb,hgg,rest⟩
  ·exact .inl hn
  ·exact .inr ⟨g,cap,cur,rfl,hb,(e g hb (za_a hgg)).trans hgg,rest⟩
 ·obtain⟨u,h3,h4⟩:=h2 i hi
  exact⟨u,h3,h4.keep e⟩
theorem OwnL.mono {b b':Nat} (h:OwnL b w v ls) (hb:b'<=b):OwnL b' w v ls:=by
 obtain⟨vs,h1,h2⟩:=h
 refine⟨vs,⟨h1.1,?_⟩,fun i hi=>?_⟩
 ·rcases h1.2 with hn|⟨g,cap,cur,rfl,hbb,rest⟩
  ·exact .inl hn
  ·exact .inr ⟨g,cap,cur,rfl,by omega,rest⟩
 ·obtain⟨u,h3,h4⟩:=h2 i hi
  exact⟨u,h3,h4.mono hb⟩
end
section
open Go.RowKit
variable {d d1 d2 d3:Disk.Dk} {b:List UInt8} {c f z2:Int} {ep fc fn g m s:Nat} {w:World} {F:Nat->Prop} {fa:Option Addr}
theorem zi_l {base:Nat} {v:Value} {l:List UInt8} (h:OwnB base w v l) (N:Nat) (hl:l.length=N) (hN:0 < N):∃ g c,v=.slice (g:Nat) N c/\N<=c/\base<=g/\SlB w g N c l:=by
 obtain⟨a,c,rfl,hs,hf⟩:=h.sl
 rw [hl] at hs ⊢
 cases a with
|none=>have:=(hs.2.2.2.1 rfl).1;subst this;simp at hl;omega
|some x =>
  obtain⟨e,hb,-⟩:=hf x rfl
  exact⟨x.block,c,by rw [<-e],hs.2.1,hb,by rw [<-e];exact hs⟩
def WalOpenPost (F:Nat->Prop) (w:World) (g s m:Nat) (fa:Option Addr) (fn fc:Nat) (r:Option Wal.L × List (List UInt8) × Int × Disk.Dk) (e:Ending) (w':World):Prop :=
 match r with
|(none,_,z,d')=>e=.returned (.tuple #[.pointer none,.slice none 0 0,z])/\∃ F',PD F' w' g s m fa fn fc d'/\Upd F w F' w'
|(some L,ps,z,d')=>∃ F' q v,e=.returned (.tuple #[.pointer (q:Nat),v,z])/\w.heap.size<=q/\OwnL w.heap.size w' v ps/\WD F' w' q g s m fa fn fc L d'/\Upd F w F' w'
theorem Wal.open_e1 {z:Int} (hr:Extent.read d f c 0 (Extent.size c)=(b,z,d1)) (hz:¬ z=0):Wal.open d f c ep=(none,[],z,d1):=by
 unfold Wal.open;rw [hr];exact if_neg hz
theorem Wal.open_e2 (hr:Extent.read d f c 0 (Extent.size c)=(b,0,d1)) (he:Wal.erase d1 f c (Frame.scan b ep).2 (b.drop (Frame.scan b ep).2)=(z2,d2)) (hz:¬ z2=0):Wal.open d f c ep=(none,[],z2,d2):=by
 unfold Wal.open;rw [hr];simp only [if_true];rw [he];exact if_neg hz
theorem Wal.open_e3 {z3:Int} (hr:Extent.read d f c 0 (Extent.size c)=(b,0,d1)) (he:Wal.erase d1 f c (Frame.scan b ep).2 (b.drop (Frame.scan b ep).2)=(0,d2)) (hs:Disk.sync d2=(z3,d3)) (hz:¬ z3=0):Wal.open d f c ep=(none,[],z3,d3):=by
 unfold Wal.open;rw [hr];simp only [if_true];rw [he];simp only [if_true];rw [hs];exact if_neg hz
theorem Wal.open_o (hr:Extent.read d f c 0 (Extent.size c)=(b,0,d1)) (he:Wal.erase d1 f c (Frame.scan b ep).2 (b.drop (Frame.scan b ep).2)=(0,d2)) (hs:Disk.sync d2=(0,d3)):Wal.open d f c ep=(some ⟨f,c,ep,(Frame.scan b ep).2,(Frame.scan b ep).1.length,(Frame.scan b ep).1.length,false⟩,(Frame.scan b ep).1,0,d3):=by
 unfold Wal.open;rw [hr];simp only [if_true];rw [he];simp only [if_true];rw [hs];exact if_pos rfl
set_option maxRecDepth 100000 in
set_option maxHeartbeats 2000000 in
theorem zm_k (h:PD F w g s m fa fn fc d) (f c:Int) (hf:ib f) (hc:ib c) (ep:Nat) (hep:ep < 4294967296) (hr:Extent.read d f c 0 (Extent.size c)=(b,0,d1)) (hb:b.length<=100000) (hb64:64<=b.length) {ps:List (List UInt8)} {en:Nat} (hsc:Frame.scan b ep=(ps,en)) (hen:en<=b.length) (he:Wal.erase d1 f c en (b.drop en)=(z2,d2)) :
 Calls Tryz.prog 66 #[.pointer g,.agg #[f,c],.int .u32 (ep:Nat)] w (WalOpenPost F w g s m fa fn fc (Wal.open d f c ep)):=by
 obtain⟨W0,hW0⟩:∃ W0,W0=w.alloc (.cells #[f,c] 23):=⟨_,rfl⟩
 have hB0:Below w.heap.size w W0:=by rw [hW0];exact (Below.refl _ _).alloc (zN _) _
 have hE0:W0.heap[w.heap.size]?=some (.cells #[f,c] 23 (0,0)):=by rw [hW0];exact za_b _ _ _ rfl
 have HW0:=zH hW0
 have HE0:=zH hE0
 have x1:W0.drew.cell? w.heap.size=some (f:Value):=by rw [show W0.drew.cell? w.heap.size=W0.cell? w.heap.size from rfl,cell_of_row _ _ _ _ _ _ hE0];rfl
 have x2:W0.drew.cell? (w.heap.size 1)=some (c:Value):=by rw [show W0.drew.cell? (w.heap.size 1)=W0.cell? (w.heap.size 1) from rfl,cell_of_row _ _ _ _ _ _ hE0];rfl
 have hP0:PD F W0.drew g s m fa fn fc d:=(h.ext hB0).drew
 have hU0:Upd F w F W0.drew:=(Upd.of_ext hB0).drew
 have hlt:w.heap.size < W0.drew.heap.size:=za_a hE0
 clear hW0 hE0
 have HRR:=zH hr
 have HSCE:=zH hsc
 have HEE:=zH (hsc ▸ he:Wal.erase d1 f c (Frame.scan b ep).2 (b.drop (Frame.scan b ep).2)=(z2,d2))
 clear hsc
 clear hr
 go_enter Tryz.func66,Tryz.ntmps66
 go_wp2_with fail
 rw [<-HW0.out]
 go_region_law (first|(go_simp;go_at_call 110;go_must (refine (zd_w f c hc _).mono ?_);rintro e w1 ⟨rfl,hB1⟩;have y1:w1.cell? w.heap.size=some (f:Value):=(by simp only [World.cell?,hB1.block _ hlt] at x1 ⊢;exact x1);have y2:w1.cell? (w.heap.size 1)=some (c:Value):=(by simp only [World.cell?,hB1.block _ hlt] at x2 ⊢;exact x2))|(go_simp;go_at_call 127;go_must (refine (zd_v (hP0.ext hB1) f c 0 (Extent.size c) hf hc (by unfold ib;omega) (zk_d c) HRR.out).mono ?_);rintro e w2 ⟨v2,rfl,hO2,hP2,hU2⟩))
 all_goals
  obtain⟨bb,c2,rfl,hcc,hbb,hs2⟩:=zi_l hO2 b.length rfl (by omega)
  have nF:¬ F w.heap.size:=fun e=>by have:=h.lt _ e;omega
  have hz1:=hB1.size
  have hX2:w2.heap[w.heap.size]?=some (.cells #[f,c] 23 (0,0)):=(hU2.block _ (by omega) nF).trans ((hB1.block _ hlt).trans HE0.out)
  have HX2:=zH hX2
  have HSC:Hid (Calls Tryz.prog 128 #[.slice bb b.length c2,.int .u32 (ep:Nat)] w2 fun e w'=>∃ v,e=.returned (.tuple #[v,en])/\OwnL w2.heap.size w' v ps/\Below w2.heap.size w2 w'):=by
   have:=zr_t bb _ c2 b ep hep w2 hs2 hb
   unfold ScanPost at this
   rw [HSCE.out] at this
   exact zH this
  clear x1 x2 y1 y2 hX2
  have hle3:en<=c2:=Nat.le_trans hen hs2.2.1
  have hle3i:(en:Int)<=(b.length:Int):=by omega
  go_wp2_with (go_at_call 128;go_must (refine HSC.out.mono ?_);rintro e w3 ⟨v3,rfl,hO3,hB3⟩;obtain⟨a3,c3,rfl,hs3⟩:=hO3.sl;have hX3:=(hB3.block _ (za_a HX2.out)).trans HX2.out;have y1:=cell_of_row _ _ 0 _ _ _ hX3;have y2:=cell_of_row _ _ 1 _ _ _ hX3;simp only [List.getElem?_toArray,List.getElem?_cons_zero,List.getElem?_cons_succ] at y1 y2;have HX3:=zH hX3;clear hX3;obtain⟨W4,hW4⟩:∃ W4,W4=w3.alloc (.cells #[.pointer g,f,c,.int .u32 (ep:Nat),en,.int .i64 (ps.length:Nat),.int .i64 (ps.length:Nat),.bool false] 165):=⟨_,rfl⟩;have hL4:LB W4 w3.heap.size g ⟨f,c,ep,en,ps.length,ps.length,false⟩:=(by rw [hW4];exact za_b _ _ _ rfl);have HL4:=zH hL4;have HW4:=zH hW4;clear hL4 hW4)
  all_goals rw [<-HW4.out]
  all_goals
   have hB4:Below w3.heap.size w3 W4:=by rw [HW4.out];exact (Below.refl _ _).alloc (zN _) _
   have hB24:Below w2.heap.size w2 W4:=hB3.trans (hB4.mono hB3.size)
   have hO4:=hO2.ext hB24
   have hP4:=hP2.ext hB24
   have hU4:Upd F w F W4:=((hU0.ext hB1).trans hU2).ext hB24
   have h23:=hB3.size
   have hbl:=(hO2.lt bb rfl).2
   have hbq:bb ≠ w3.heap.size:=by omega
   have hwb:w.heap.size<=bb:=by omega
   have hwq:w.heap.size<=w3.heap.size:=by have:=hU2.size;omega
   have hlF:∀ k,F k->k < w.heap.size:=‹PD F w g s m fa fn fc d›.lt
   have nFb:¬ F bb:=fun e=>by have:=hlF _ e;omega
   have nFq:¬ F w3.heap.size:=fun e=>by have:=hlF _ e;omega
   have hS4:SlB W4 bb b.length c2 b:=hs2.ext hB24
   have hER:∀ (a:Option Addr) (r ca:Nat),en+r=b.length->r<=1000000->(r ≠ 0->a=some (bb en))->SlB W4 a r ca (b.drop en) →
    Calls Tryz.prog 129 #[.pointer w3.heap.size,.slice a r ca] W4 fun e w'=>e=.returned (z2:Value)/\∃ F' w1,But bb W4 w1/\PD F' w' g s m fa fn fc d2/\Upd F w1 F' w':=fun a r ca h1 h2 h3 h4 =>
     zr_a hP4 HL4.out hf hc (by simp only;omega) hO4 nFb hbq _ r h1 h2 a ca h3 h4 he
   have hz0:c2=en->SlB W4 bb (b.length - en) 0 (b.drop en):=fun e=>by
    have e2:b.length - en=0:=by omega
    rw [e2,List.drop_of_length_le (by omega)];exact SlB.zero _ _ _
   have hz1:SlB W4 (bb en) (b.length - en) (c2 - en) (b.drop en):=by
    have:=hS4.drop hen
    rwa [Nat.zero_add] at this
   clear y1 y2
   go_must (first|have hce:c2=en:=(by assumption);refine (hER bb (b.length - en) 0 (by omega) (by omega) (fun e=>absurd (by omega) e) (hz0 hce)).mono ?_|refine (hER (bb en) (b.length - en) (c2 - en) (by omega) (by omega) (fun _=>rfl) hz1).mono ?_)
   rintro e w5 ⟨rfl,F5,wE,hBt,hP5,hU5⟩
   have hL4:=HL4.out
   have hqE:w3.heap.size < wE.heap.size:=Nat.lt_of_lt_of_le hL4.lt hBt.size
   have hL5:=(hL4.same (hBt.block _ hL4.lt (fun e=>hbq e.symm))).same (hU5.block _ hqE nFq)
   have nF5:¬ F5 w3.heap.size:=fun e=>by
    rcases hU5.new _ e with e|e
    ·exact nFq e
    ·omega
   have hU05:Upd F w F5 w5:=(hU4.but (.inr hwb) hBt).trans hU5
   have hO5:∀ w6,Upd F5 w5 F5 w6->OwnL w.heap.size w6 (.slice a3 ps.length c3) ps:=fun w6 hU6=>by
    refine (hO3.keep (w':=w6) fun k hk hk2=>?_).mono (by have:=hU2.size;omega)
    have hk4:=za_a hL4
    have nF5k:¬ F5 k:=fun e=>by
     rcases hU5.new _ e with e|e
     ·have:=hlF _ e;have:=hU2.size;omega
     ·omega
    refine (hU6.block k (by have:=hU5.size;omega) nF5k).trans ((hU5.block k (by omega) (fun e=>by have:=hlF _ e;have:=hU2.size;omega)).trans ((hBt.block k (by omega) (by omega)).trans ?_))
    exact hB4.block k hk2
   clear hER hz0 hz1 hL4
   rcases hs:Disk.sync d2 with⟨z3,d3⟩
   have HSY:=zH (ze_e hP5 hs)
   have HSS:=zH hs
   have HL5:=zH hL5
   clear he hs hL5 hle3 hle3i
  all_goals
   by_cases hz2:z2=0
   ·subst hz2
    by_cases hz3:z3=0
    ·subst hz3
     go_wp2_with (go_at_call 51;go_must (refine HSY.out.mono ?_);rintro e w6 ⟨rfl,hP6,hU6⟩)
     go_ret3
     rw [Wal.open_o HRR.out HEE.out HSS.out,HSCE.out]
     refine⟨F5,w3.heap.size,_,rfl,hwq,hO5 _ hU6,⟨hP6,HL5.out.same (hU6.block _ HL5.out.lt nF5),nF5⟩,hU05.trans hU6⟩
    ·have t3:(z3 != 0)=true:=by simpa using hz3
     go_wp2_with (go_at_call 51;go_must (refine HSY.out.mono ?_);rintro e w6 ⟨rfl,hP6,hU6⟩)
     go_ret3
     rw [Wal.open_e3 HRR.out HEE.out HSS.out hz3]
     exact⟨rfl,F5,hP6,hU05.trans hU6⟩
   ·have t2:(z2 != 0)=true:=by simpa using hz2
    go_wp2_with fail
    go_ret3
    rw [Wal.open_e2 HRR.out HEE.out hz2]
    exact⟨rfl,F5,hP5,hU05⟩
theorem zt_b (h:PD F w g s m fa fn fc d) (f c:Int) (hf:ib f) (hc:ib c) (ep:Nat) (hep:ep < 4294967296) (hn:d.st.length<=1000) :
 Calls Tryz.prog 66 #[.pointer g,.agg #[f,c],.int .u32 (ep:Nat)] w (WalOpenPost F w g s m fa fn fc (Wal.open d f c ep)):=by
 rcases hr:Extent.read d f c 0 (Extent.size c) with⟨b,z,d1⟩
 by_cases hz:z=0
 ·subst hz
  obtain⟨h1,h2,h3⟩:=Wal.read_all h.ok hn hr
  have h4:=(Frame.scan_le b ep).1
  rcases hsc:Frame.scan b ep with⟨ps,en⟩
  rw [hsc] at h4
  rcases he:Wal.erase d1 f c en (b.drop en) with⟨z2,d2⟩
  exact zm_k h f c hf hc ep hep hr (by omega) h1 hsc h4 he
 ·refine (zk_k h f c hf hc ep hr hz).mono ?_
  rintro e w' ⟨rfl,h1,h2⟩
  rw [Wal.open_e1 hr hz]
  exact⟨rfl,F,h1,h2⟩
end
section
open Go.RowKit
variable {L:Wal.L} {d:Disk.Dk} {c f:Int} {ep:Nat}
theorem Disk.sync_len (d:Disk.Dk):(Disk.sync d).2.st.length=d.st.length:=by
 rw [zo_v]
 split
 ·rfl
 ·split
  ·rfl
  ·split
   ·rfl
   ·simp [Disk.flush,Disk.tick]
theorem Extent.rd_st (first off e:Nat):∀ (m k:Nat) (acc:List UInt8) (d:Disk.Dk),(Extent.rd first off e m k acc d).2.2.st.length=d.st.length:=by
 intro m
 induction m with
|zero=>intro k acc d;rfl
|succ m ih =>
  intro k acc d
  rcases hr:Disk.read d ((first+Extent.pos off e k / 64:Nat):Int) with⟨b,z,d1⟩
  have hs:=(Disk.read_st d ((first+Extent.pos off e k / 64:Nat):Int)).1
  rw [hr] at hs
  have hs:d1.st=d.st:=hs
  by_cases hz:z=0
  ·subst hz;rw [Extent.rd_ok hr,ih,hs]
  ·rw [Extent.rd_err hr hz];exact congrArg List.length hs
theorem Extent.wr_st (first off e:Nat):∀ (m k:Nat) (x:List UInt8) (d:Disk.Dk),(Extent.wr first off e m k x d).2.st.length=d.st.length:=by
 intro m
 induction m with
|zero=>intro k x d;rfl
|succ m ih =>
  intro k x d
  by_cases hs:Extent.step e (Extent.pos off e k) < 64
  ·rcases hr:Disk.read d ((first+Extent.pos off e k / 64:Nat):Int) with⟨b,z,d1⟩
   have h1:=(Disk.read_st d ((first+Extent.pos off e k / 64:Nat):Int)).1
   rw [hr] at h1
   have h1:d1.st=d.st:=h1
   by_cases hz:z=0
   ·subst hz
    rcases hw:Disk.write d1 ((first+Extent.pos off e k / 64:Nat):Int) (b.take (Extent.pos off e k % 64) ++ x.take (Extent.step e (Extent.pos off e k)) ++ b.drop (Extent.pos off e k % 64+Extent.step e (Extent.pos off e k))) with⟨z2,d2⟩
    have h2:=Disk.write_st d1 ((first+Extent.pos off e k / 64:Nat):Int) (b.take (Extent.pos off e k % 64) ++ x.take (Extent.step e (Extent.pos off e k)) ++ b.drop (Extent.pos off e k % 64+Extent.step e (Extent.pos off e k)))
    rw [hw] at h2
    have h2:d2.st=d1.st:=h2
    rw [Extent.wr_part hs hr hw]
    split
    ·rw [ih,h2,h1]
    ·show d2.st.length=_;rw [h2,h1]
   ·rw [Extent.wr_rerr hs hr hz];show d1.st.length=_;rw [h1]
  ·rcases hw:Disk.write d ((first+Extent.pos off e k / 64:Nat):Int) (x.take (Extent.step e (Extent.pos off e k))) with⟨z2,d2⟩
   have h2:=Disk.write_st d ((first+Extent.pos off e k / 64:Nat):Int) (x.take (Extent.step e (Extent.pos off e k)))
   rw [hw] at h2
   have h2:d2.st=d.st:=h2
   rw [Extent.wr_full hs hw]
   split
   ·rw [ih,h2]
   ·show d2.st.length=_;rw [h2]
theorem Extent.read_st (d:Disk.Dk) (f c off len:Int):(Extent.read d f c off len).2.2.st.length=d.st.length:=by
 unfold Extent.read;split
 ·exact Extent.rd_st _ _ _ _ _ _ _
 ·rfl
theorem Extent.write_st (d:Disk.Dk) (f c off:Int) (x:List UInt8):(Extent.write d f c off x).2.st.length=d.st.length:=by
 unfold Extent.write;split
 ·exact Extent.wr_st _ _ _ _ _ _ _
 ·rfl
theorem Wal.erase_st (d:Disk.Dk) (f c en:Int) (r:List UInt8):(Wal.erase d f c en r).2.st.length=d.st.length:=by
 unfold Wal.erase;split
 ·rfl
 ·exact Extent.write_st _ _ _ _ _
theorem Wal.open_st (d:Disk.Dk) (f c:Int) (ep:Nat):(Wal.open d f c ep).2.2.2.st.length=d.st.length:=by
 rcases hr:Extent.read d f c 0 (Extent.size c) with⟨b,z,d1⟩
 have h1:=Extent.read_st d f c 0 (Extent.size c)
 rw [hr] at h1
 have h1:d1.st.length=d.st.length:=h1
 by_cases hz:z=0
 ·subst hz
  rcases he:Wal.erase d1 f c (Frame.scan b ep).2 (b.drop (Frame.scan b ep).2) with⟨z2,d2⟩
  have h2:=Wal.erase_st d1 f c (Frame.scan b ep).2 (b.drop (Frame.scan b ep).2)
  rw [he] at h2
  have h2:d2.st.length=d1.st.length:=h2
  by_cases hz2:z2=0
  ·subst hz2
   rcases hs:Disk.sync d2 with⟨z3,d3⟩
   have h3:=Disk.sync_len d2
   rw [hs] at h3
   have h3:d3.st.length=d2.st.length:=h3
   by_cases hz3:z3=0
   ·subst hz3;rw [Wal.open_o hr he hs];show d3.st.length=_;omega
   ·rw [Wal.open_e3 hr he hs hz3];show d3.st.length=_;omega
  ·rw [Wal.open_e2 hr he hz2];show d2.st.length=_;omega
 ·rw [Wal.open_e1 hr hz];exact h1
structure GoodL (L:Wal.L):Prop where
 f:ib L.f
 c:ib L.c
 ep:L.ep < 4294967296
 en:(L.en:Int)<=Extent.size L.c
 size:Extent.size L.c<=64000
 rc:14 * L.rc<=L.en
theorem GoodL.fits (h:GoodL L):Wal.Fits L:=by
 have h1:=h.en;have h2:=h.size;have h3:=h.rc
 exact⟨h.f,h.c,h.ep,by omega,by omega,by omega,by omega⟩
theorem GoodL.sync (h:GoodL L) (d:Disk.Dk):GoodL (Wal.sync L d).2.1:=by
 unfold Wal.sync;split
 ·exact h
 ·rcases hs:Disk.sync d with⟨z,d1⟩
  simp only
  split <;> exact⟨h.f,h.c,h.ep,h.en,h.size,h.rc⟩
theorem GoodL.append (h:GoodL L) (d:Disk.Dk) (p:List UInt8):GoodL (Wal.append L d p).2.1:=by
 unfold Wal.append
 split
 ·exact h
 ·split
  ·exact h
  ·split
   ·exact h
   ·rename_i hx
    rcases hs:Extent.write d L.f L.c L.en (Frame.enc L.ep L.rc p) with⟨z,d1⟩
    simp only
    have h1:=h.en;have h3:=h.rc
    split
    ·exact⟨h.f,h.c,h.ep,by show ((L.en+(14+p.length):Nat):Int)<=Extent.size L.c;omega,h.size,by show 14 * (L.rc+1)<=L.en+(14+p.length);omega⟩
    ·exact⟨h.f,h.c,h.ep,h.en,h.size,h.rc⟩
theorem GoodL.opened (hd:d.Ok) (hn:d.st.length<=1000) (hf:ib f) (hc:ib c) (hep:ep < 4294967296) (hr:(Wal.open d f c ep).1=some L):GoodL L:=by
 rcases h0:Extent.read d f c 0 (Extent.size c) with⟨b,z,d1⟩
 by_cases hz:z=0
 ·subst hz
  rcases he:Wal.erase d1 f c (Frame.scan b ep).2 (b.drop (Frame.scan b ep).2) with⟨z2,d2⟩
  by_cases hz2:z2=0
  ·subst hz2
   rcases hs:Disk.sync d2 with⟨z3,d3⟩
   by_cases hz3:z3=0
   ·subst hz3
    rw [Wal.open_o h0 he hs] at hr
    cases hr
    obtain⟨r1,r2,r3⟩:=Wal.read_all hd hn h0
    obtain⟨l1,l2⟩:=Frame.scan_le b ep
    exact⟨hf,hc,hep,by show (((Frame.scan b ep).2:Nat):Int)<=Extent.size c;omega,by show Extent.size c<=64000;omega,l2⟩
   ·rw [Wal.open_e3 h0 he hs hz3] at hr;cases hr
  ·rw [Wal.open_e2 h0 he hz2] at hr;cases hr
 ·rw [Wal.open_e1 h0 hz] at hr;cases hr
theorem Wal.open_none (hr:(Wal.open d f c ep).1=none):(Wal.open d f c ep).2.1=[]:=by
 rcases h0:Extent.read d f c 0 (Extent.size c) with⟨b,z,d1⟩
 by_cases hz:z=0
 ·subst hz
  rcases he:Wal.erase d1 f c (Frame.scan b ep).2 (b.drop (Frame.scan b ep).2) with⟨z2,d2⟩
  by_cases hz2:z2=0
  ·subst hz2
   rcases hs:Disk.sync d2 with⟨z3,d3⟩
   by_cases hz3:z3=0
   ·subst hz3;rw [Wal.open_o h0 he hs] at hr;cases hr
   ·rw [Wal.open_e3 h0 he hs hz3]
  ·rw [Wal.open_e2 h0 he hz2]
 ·rw [Wal.open_e1 h0 hz]
end
section
open Go.RowKit
variable {w:World} {g q:Nat} {L:Wal.L}
theorem WD.ext {F:Nat->Prop} {w':World} {s m:Nat} {fa:Option Addr} {fn fc:Nat} {d:Disk.Dk} (h:WD F w q g s m fa fn fc L d) (e:Below w.heap.size w w'):WD F w' q g s m fa fn fc L d:=⟨h.disk.ext e,h.log.ext e,h.apart⟩
end
section
open Super (spl)
variable {c f l n o:Nat}
namespace Extent
open Disk (Dk)
theorem size_nat (c:Nat) (h:c<=4096):size (c:Int)=((c * 64:Nat):Int):=by unfold size;rw [if_neg (by omega)];omega
end Extent
namespace Frame
end Frame
namespace Wal
open Disk (Dk)
open Extent (Quiet V)
end Wal
end
end Go.Proofs.YtmanejniepghlaaGreatDoor
