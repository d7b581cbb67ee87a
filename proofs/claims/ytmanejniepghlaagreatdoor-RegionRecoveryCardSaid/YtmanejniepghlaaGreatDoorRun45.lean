import Derived.Test.YtmanejniepghlaaGreatDoorRun19
import Derived.Test.YtmanejniepghlaaGreatDoorRun42
import Derived.Test.YtmanejniepghlaaGreatDoorRun44
import Derived.Test.YtmanejniepghlaaGreatDoorRun24
import Derived.Test.YtmanejniepghlaaGreatDoorRun23
import Derived.RegionTactic
import Derived.BigRegion
import Derived.Test.YtmanejniepghlaaGreatDoorRun40
import Derived.Test.YtmanejniepghlaaGreatDoorRun22
namespace Go.Proofs.YtmanejniepghlaaGreatDoor
section
open Go.RowKit
open Disk (Dk)
variable {F:Nat->Prop} {d:Dk} {g:Nat} {w:World} {l:Reg.Lay} {slot:Int} {s:Super.S}
def SBv (w:World) (q g:Nat) (l:Reg.Lay) (slot:Int) (s:Super.S) (lv:Value) (fl:Bool):Prop :=
 w.heap[q]?=some (.cells #[.pointer g,l.cap,.int .i64 (l.sf 0),l.sc,.int .i64 (l.sf 1),l.sc,.int .i64 (l.lf 0),l.lc,.int .i64 (l.lf 1),l.lc,
  .int .i64 slot,.int .u64 s.gen,s.act,.int .u32 s.epoch,s.len,.int .u32 s.sum,lv,.bool fl] 108 (0,0))
section
variable {w w':World} {q g:Nat} {l:Reg.Lay} {slot:Int} {s:Super.S} {lv:Value} {fl:Bool}
theorem SBv.lt (h:SBv w q g l slot s lv fl):q < w.heap.size:=za_a h
theorem SBv.same (h:SBv w q g l slot s lv fl) (e:w'.heap[q]?=w.heap[q]?):SBv w' q g l slot s lv fl:=e.trans h
theorem SBv.ext (h:SBv w q g l slot s lv fl) (e:Below w.heap.size w w'):SBv w' q g l slot s lv fl:=h.same (e.block _ h.lt)
theorem SBv.free (h:SBv w q g l slot s lv fl) (k:Nat):w.frozen? (q k)=false:=frozen_of_row _ _ _ _ _ h
theorem SBv.at (h:SBv w q g l slot s lv fl) (k:Nat):w.cell? (q k)=(#[.pointer g,l.cap,.int .i64 (l.sf 0),l.sc,.int .i64 (l.sf 1),l.sc,.int .i64 (l.lf 0),l.lc,.int .i64 (l.lf 1),l.lc,
 .int .i64 slot,.int .u64 s.gen,s.act,.int .u32 s.epoch,s.len,.int .u32 s.sum,lv,.bool fl]:Array Value)[k]?:=cell_of_row _ _ _ _ _ _ h
theorem SBv.kept {F':Nat->Prop} {W:World} (h:SBv W q g l slot s lv fl) (u:Upd F W F' w) (hq:¬ F q):SBv w q g l slot s lv fl:=h.same (u.block q h.lt hq)
end
def Reg.snapS (l:Reg.Lay) (s:Super.S) (d:Dk):(Int × List Pin) × Int × Dk :=
 if Extent.size l.sc < s.len then ((0,[]),13,d) else
  match Extent.read d (l.sf s.act.toNat) l.sc 0 s.len with
 |(b,z,d1)=>if z ≠ 0 then ((0,[]),z,d1) else if Reg.crc b ≠ s.sum\/(Snap.dec b).2 ≠ 0\/l.cap < (Snap.dec b).1.2.length then ((0,[]),13,d1) else ((Snap.dec b).1,0,d1)
theorem Reg.open3_snap {a b:List UInt8} (h:Super.choose a b=(slot,s,0)):Reg.open3 l a b d =
 if (Reg.snapS l s d).2.1 ≠ 0 then Reg.bad (Reg.snapS l s d).2.1 (Reg.snapS l s d).2.2 else
  Reg.open5 l slot.toNat s (Reg.snapS l s d).1.1 (Reg.snapS l s d).1.2 (Wal.open (Reg.snapS l s d).2.2 (l.lf s.act.toNat) l.lc s.epoch):=by
 unfold Reg.open3 Reg.snapS
 rw [h]
 dsimp only
 rw [if_neg (by simp)]
 split
 ·rfl
 ·unfold Reg.open4
  rcases hr:Extent.read d (l.sf s.act.toNat) l.sc 0 s.len with⟨b,z,d1⟩
  dsimp only
  split
  ·rfl
  ·split
   ·rfl
   ·rfl
theorem DP.set (h:DP g d F w) {b:Nat} (hb:¬ F b) (o:Nat) (v:Value):DP g d F (w.setCell (b o) v):=by
 obtain⟨s,m,fa,fn,fc,h⟩:=h;exact⟨s,m,fa,fn,fc,h.other hb o v⟩
def SnapP (g:Nat) (F:Nat->Prop) (w:World) (r:(Int × List Pin) × Int × Dk) (e:Ending) (w':World):Prop :=
 ∃ a k,e=.returned (.tuple #[.agg #[r.1.1,.slice a r.1.2.length k],r.2.1])/\SlN w' a r.1.2.length k r.1.2/\(∀ x,a=some x->w.heap.size<=x.block)/\DP g r.2.2 F w'/\Upd F w F w'
theorem SnapP.fin {w2:World} {c:Int} {L:List Pin} {z:Int} {d':Dk} {a:Option Addr} {k:Nat} (hd:DP g d' F w2) (hu:Upd F w F w2) (nB:¬ F w.heap.size) (hs:SlN w2 a L.length k L) (hn:∀ x,a=some x->w.heap.size<=x.block) {old:Int} {ov:Value} (hb:SBox w2 w.heap.size old ov) (c' v':Value) :
 SnapP g F w ((c,L),z,d') (.returned (.tuple #[.agg #[c,.slice a L.length k],z])) ((w2.setCell w.heap.size c').setCell (w.heap.size 1) v') :=
 ⟨a,k,rfl,hs.setOldS hb 0 1 c' v',hn,(hd.set nB _ _).set nB _ _,(hu.setCell (.inr (zN _)) _ _).setCell (.inr (zN _)) _ _⟩
set_option maxRecDepth 100000 in
set_option maxHeartbeats 8000000 in
theorem zj_z {q:Nat} {lv:Value} {fl:Bool} {r:Nat} (hr2:r < 2) (hact:s.act=(r:Int)) (hq:SBv w q g l slot s lv fl) (hd:DP g d F w) (hqF:¬ F q)
 (hf:ib (l.sf r)) (hc:ib l.sc) (hlen:0<=s.len/\s.len<=262144) (hsz0:Extent.size l.sc<=100000) {R:(Int × List Pin) × Int × Dk} (hR:Reg.snapS l s d=R) :
 Calls Tryz.prog 114 #[.pointer q] w (SnapP g F w R):=by
 have hb0:=(Below.refl w.heap.size w).alloc (zN _) (.cells #[.int .i64 0,.slice none 0 0] 44)
 have hs0:=SBox.new w 0 (.slice none 0 0)
 have hz0:(w.alloc (.cells #[.int .i64 0,.slice none 0 0] 44)).heap.size=w.heap.size+1:=by simp
 obtain⟨W0,hW0⟩:∃ W0,W0=w.alloc (.cells #[.int .i64 0,.slice none 0 0] 44):=⟨_,rfl⟩
 have HW0:=zH hW0
 rw [<-hW0] at hb0 hs0 hz0
 clear hW0
 have hq0:=hq.ext hb0
 have nB:¬ F w.heap.size:=fun e=>Nat.lt_irrefl _ (hd.lt _ e)
 have nE:¬ F (w.heap.size+1):=fun e=>by have:=hd.lt _ e;omega
 have hd0:=hd.ext hb0
 obtain⟨sf,hsf⟩:∃ x,l.sf r=x:=⟨_,rfl⟩
 unfold Reg.snapS at hR
 rw [hact,Int.toNat_natCast,hsf] at hR
 rw [hsf] at hf
 have hq1:=hq0.ext ((Below.refl _ W0).alloc (zN _) (.cells #[.int .i64 0,.int .i64 0] 23))
 have hqlt:=hq0.lt
 have c0:W0.cell? q=some (.pointer g):=hq0.at 0
 have c1:=(hq0.at 12).trans (congrArg some (congrArg (Value.int .i64) hact))
 have c4:=(hq1.at 12).trans (congrArg some (congrArg (Value.int .i64) hact))
 have c23:∀ W,SBv W q g l slot s lv fl->W.cell? (q (2+2*r))=some (sf:Value)/\W.cell? (q (3+2*r))=some (l.sc:Value):=fun W h=>by
  rcases (show r=0\/r=1 by omega) with rfl|rfl <;> exact⟨(h.at _).trans (by rw [<-hsf];rfl),h.at _⟩
 obtain⟨c2,c3⟩:=c23 _ hq0
 obtain⟨c5,c6⟩:=c23 _ hq1
 clear hq0 hq1 hact c23
 rcases (show r=0\/r=1 by omega) with rfl|rfl
 all_goals
  go_enter Tryz.func114,Tryz.ntmps114
  go_wp2_with fail
  rw [<-HW0.out]
  go_region
  obtain⟨W1,hW1⟩:∃ W1,W1=(W0.alloc (.cells #[sf,l.sc] 23)).drew:=⟨_,rfl⟩
  have hb1:Below W0.heap.size W0 W1:=by rw [hW1];exact ((Below.refl _ _).alloc (zN _) _).drew
  have hx1:W1.heap[w.heap.size+1]?=some (.cells #[sf,l.sc] 23 (0,0)):=by rw [hW1];exact za_b _ _ _ hz0.symm
  have hB1:Below w.heap.size w W1:=hb0.trans (hb1.mono hb0.size)
  have HW1:=zH hW1
  rw [<-HW1.out]
  clear hW1 c0 c1 c2 c3 c4 c5 c6 hqlt
  have hs1:SBox W1 w.heap.size 0 (.slice none 0 0):=(hb1.block _ (za_a hs0)).trans hs0
  have hk1:∀ W,Below W1.heap.size W1 W->SBv W q g l slot s lv fl/\W.heap[w.heap.size+1]?=some (.cells #[sf,l.sc] 23 (0,0))/\SBox W w.heap.size 0 (.slice none 0 0):=fun W e=>⟨(hq.ext hB1).ext e,(e.block _ (za_a hx1)).trans hx1,(e.block _ (za_a hs1)).trans hs1⟩
  have HK1:=zH hk1
  have hd1:=hd.ext hB1
  obtain⟨sz,hsz⟩:∃ sz,Extent.size l.sc=sz:=⟨_,rfl⟩
  have HSZ:=zH (fun W=>show Calls Tryz.prog 110 #[.agg #[sf,l.sc]] W fun e w'=>e=.returned (sz:Value)/\Below W.heap.size W w' by rw [<-hsz];exact zd_w _ _ hc W)
  rw [hsz] at hR
  have FACT:∀ W,Below W1.heap.size W1 W->W.cell? (q 14)=some (s.len:Value)/\W.cell? (w.heap.size+1:Nat)=some (sf:Value)/\W.cell? ((w.heap.size+1) 1)=some (l.sc:Value):=fun W e=>⟨(hk1 W e).1.at 14,cell_of_row _ _ _ _ _ _ (hk1 W e).2.1,cell_of_row _ _ _ _ _ _ (hk1 W e).2.1⟩
  have HFA:=zH FACT
  obtain⟨y1,y2,y3⟩:=FACT W1 (Below.refl _ _)
  have hx2:=hk1 W1 (Below.refl _ _)
  rw [hsz] at hsz0
  clear hk1 FACT hsz
  by_cases hbig:sz < s.len
  ·rw [if_pos hbig] at hR
   subst hR
   go_wp2_with fail
   go_region_held3 (fun W=>W.cell? (q 14)=some (s.len:Value)/\W.cell? (w.heap.size+1:Nat)=some (sf:Value)/\W.cell? ((w.heap.size+1) 1)=some (l.sc:Value)) (first|exact⟨y1,y2,y3⟩|exact HFA.out _ (by assumption)) (first
   |(go_at_call 110;go_must (refine (HSZ.out _).mono ?_);rintro e w2 ⟨rfl,hb2⟩;have hb2':Below W1.heap.size W1 w2:=(Below.drew (Below.refl _ W1)).trans hb2;obtain⟨x0,x1⟩:=SBox.cells (HK1.out w2 hb2').2.2;have f0:=SBox.frz (HK1.out w2 hb2').2.2 0;have f1:=SBox.frz (HK1.out w2 hb2').2.2 1;obtain⟨g1,g2,g3⟩:=HFA.out w2 hb2';have g0:w2.cell? q=some (.pointer g):=(HK1.out w2 hb2').1.at 0))
   go_wp2_with fail
   refine ret2 rfl rfl (SBox.set2 ((HK1.out w2 hb2').2.2) 0 (.slice none 0 0)) rfl rfl ?_
   exact SnapP.fin (L:=[]) (hd1.ext hb2') (Upd.of_ext (F:=F) (hB1.trans (hb2'.mono hB1.size))) nB (SlN.nil _) (fun x hx=>by cases hx) (HK1.out w2 hb2').2.2 _ _
  ·rw [if_neg hbig] at hR
   obtain⟨b,z,d1,hrd⟩:∃ b z d1,Extent.read d sf l.sc 0 s.len=(b,z,d1):=⟨_,_,_,rfl⟩
   rw [hrd] at hR
   dsimp only at hR
   have HRD:=zH (fun W (e:Below W1.heap.size W1 W)=>(hd1.ext e).eread sf l.sc 0 s.len hf hc (by unfold ib;omega) (by unfold ib;omega) hrd)
   have HK3:=zH (fun (W W':World) (e:Below W1.heap.size W1 W) (u:Upd F W F W')=>show W'.cell? q=some (.pointer g)/\W'.cell? (q 14)=some (s.len:Value)/\W'.cell? (w.heap.size+1:Nat)=some (sf:Value)/\W'.cell? ((w.heap.size+1) 1)=some (l.sc:Value)/\SBv W' q g l slot s lv fl/\SBox W' w.heap.size 0 (.slice none 0 0) from by
    obtain⟨k1,k2,k3⟩:=HK1.out W e
    have k1':=k1.kept u hqF
    have k2':=(u.block _ (za_a k2) nE).trans k2
    exact⟨k1'.at 0,k1'.at 14,cell_of_row _ _ _ _ _ _ k2',cell_of_row _ _ _ _ _ _ k2',k1',(u.block _ (za_a k3) nB).trans k3⟩)
   have HRL:=zH (show z=0->b.length<=100000 from fun hz=>by subst hz;have:=(Extent.read_len hd.ok hrd).1;omega)
   clear hrd
   go_wp2_with fail
   go_region_held3 (fun W=>W.cell? (q 14)=some (s.len:Value)/\W.cell? (w.heap.size+1:Nat)=some (sf:Value)/\W.cell? ((w.heap.size+1) 1)=some (l.sc:Value)) (first|exact⟨y1,y2,y3⟩|exact HFA.out _ (by assumption)) (first
   |(go_at_call 110;go_must (refine (HSZ.out _).mono ?_);rintro e w2 ⟨rfl,hb2⟩;have hb2':Below W1.heap.size W1 w2:=(Below.drew (Below.refl _ W1)).trans hb2;obtain⟨x0,x1⟩:=SBox.cells (HK1.out w2 hb2').2.2;have f0:=SBox.frz (HK1.out w2 hb2').2.2 0;have f1:=SBox.frz (HK1.out w2 hb2').2.2 1;obtain⟨g1,g2,g3⟩:=HFA.out w2 hb2';have g0:w2.cell? q=some (.pointer g):=(HK1.out w2 hb2').1.at 0))
   clear y1 y2 y3
   go_wp2_with fail
   go_region_held3 (fun W=>W.cell? q=some (.pointer g)/\W.cell? (q 14)=some (s.len:Value)/\W.cell? (w.heap.size+1:Nat)=some (sf:Value)/\W.cell? ((w.heap.size+1) 1)=some (l.sc:Value)) (first|exact⟨g0,g1,g2,g3⟩|exact⟨j0,j1,j2,j3⟩) (first
   |(go_at_call 127;go_must (refine (HRD.out _ (Below.drew hb2')).mono ?_);rintro e w3 ⟨v3,rfl,hO3,hd3,hU3⟩;obtain⟨j0,j1,j2,j3,j4,j5⟩:=HK3.out _ w3 (Below.drew hb2') hU3;obtain⟨x4,x5⟩:=SBox.cells j5;have f4:=SBox.frz j5 0;have f5:=SBox.frz j5 1;obtain⟨a3,c3,rfl,hs3,hn3⟩:=hO3.sl))
   obtain⟨N,hN⟩:∃ N,b.length=N:=⟨_,rfl⟩
   rw [hN] at hs3
   by_cases hz:z=0
   ·subst hz
    rw [if_neg (by simp)] at hR
    have hNb:N<=100000:=by have:=(HRL.out rfl);omega
    have HDC:=zH (zd_m true a3 N c3 b w3 hs3 hNb)
    unfold SDecN at HDC
    rcases hdc:Snap.dec b with⟨⟨c,L⟩,z4⟩
    rw [hdc] at HDC hR
    simp only at hR HDC
    have HU3:=zH (show Upd F w F w3 from (Upd.of_ext (hB1.trans ((Below.drew hb2').mono hB1.size))).trans hU3)
    clear hdc g0 g1 g2 g3
    rw [hN]
    go_wp2_with fail
    refine HDC.out.mono ?_;rintro e w4 ⟨a4,k4,rfl,hs4,hb4,hn4⟩
    obtain⟨n4,hn4L⟩:∃ n,L.length=n:=⟨_,rfl⟩
    rw [hn4L] at hs4 hR ⊢
    have hb4':Below w3.heap.size w3 w4:=hb4
    obtain⟨W5,hW5⟩:∃ W5,W5=w4.alloc (.cells #[c,.slice a4 n4 k4] 44):=⟨_,rfl⟩
    have hb5:Below w4.heap.size w4 W5:=by rw [hW5];exact (Below.refl _ _).alloc (zN _) _
    have hbx5:SBox W5 w4.heap.size c (.slice a4 n4 k4):=by rw [hW5];exact SBox.new w4 c (.slice a4 n4 k4)
    have HW5:=zH hW5
    clear hW5
    have hB5:Below w3.heap.size w3 W5:=hb4'.trans (hb5.mono hb4'.size)
    obtain⟨t0,t1⟩:=hbx5.cells
    have u1:W5.cell? (q 15)=some (.int .u32 s.sum):=(j4.ext hB5).at 15
    have u2:W5.cell? (q 1)=some (l.cap:Value):=(j4.ext hB5).at 1
    have HJ:=zH (fun W (e:Below W5.heap.size W5 W)=>show DP g d1 F W/\Upd F w F W/\SBox W w.heap.size 0 (.slice none 0 0) from ⟨hd3.ext (hB5.trans (e.mono hB5.size)),HU3.out.ext (hB5.trans (e.mono hB5.size)),j5.ext (hB5.trans (e.mono hB5.size))⟩)
    have HJN:=zH (fun nq=>HJ.out (W5.drewN nq) ⟨rfl,rfl,rfl,zN _,fun _ _=>rfl⟩)
    obtain⟨cr,hcr⟩:∃ cr,Reg.crc b=cr:=⟨_,rfl⟩
    have HCR:=zH (fun nq=>show Calls Tryz.prog 48 #[.slice a3 N c3] (W5.drewN nq) fun e w'=>e=.returned (.int .u32 (cr:Nat))/\W5.drewN nq=w' by rw [<-hcr];exact zc_g a3 N c3 b _ ((hs3.ext hB5).ext ⟨rfl,rfl,rfl,zN _,fun _ _=>rfl⟩))
    rw [hcr] at hR
    have hlt5:=za_a hbx5
    obtain⟨x6,x7⟩:=SBox.cells (HJN.out 0).2.2
    have f6:=SBox.frz (HJN.out 0).2.2
    have x6':W5.cell? w.heap.size=some (.int .i64 0):=x6
    have x7':W5.cell? (w.heap.size 1)=some (.slice none 0 0):=x7
    have f60:W5.frozen? w.heap.size=false:=f6 0
    have f61:W5.frozen? (w.heap.size 1)=false:=f6 1
    have k0:(0:Int)<=(n4:Int):=by omega
    clear x4 x5 f4 f5 hcr x6 x7 f6
    by_cases h1:cr=s.sum
    ·subst h1
     have g1:((s.sum:Int) == (s.sum:Int))=true:=by simp
     by_cases h2:z4=0
     ·subst h2
      by_cases h3:l.cap < n4
      ·rw [if_pos (.inr (.inr h3))] at hR
       subst hR
       have g2:decide ((l.cap:Int) < (n4:Int))=true:=by simp;omega
       go_wp2_with fail
       rw [<-HW5.out]
       go_quiet (first|(go_at_call 48;exact Calls.quiet_of_same ((HCR.out _).mono fun _ _ ⟨h1,h2⟩=>⟨h1,h2.symm⟩)))
       go_wp2_with fail
       refine ret2 rfl rfl (SBox.set2 (HJN.out nq).2.2 0 (.slice none 0 0)) rfl rfl ?_
       exact SnapP.fin (L:=[]) (HJN.out nq).1 (HJN.out nq).2.1 nB (SlN.nil _) (fun x hx=>by cases hx) (HJN.out nq).2.2 _ _
      ·rw [if_neg (by simp;omega)] at hR
       subst hR
       have g2:decide ((l.cap:Int) < (n4:Int))=false:=by simp;omega
       have HHN:=zH hn4L
       clear hn4L
       go_wp2_with fail
       rw [<-HW5.out]
       go_quiet (first|(go_at_call 48;exact Calls.quiet_of_same ((HCR.out _).mono fun _ _ ⟨h1,h2⟩=>⟨h1,h2.symm⟩)))
       go_wp2_with fail
       refine ret2 rfl rfl (SBox.set2 (HJN.out nq).2.2 c (.slice a4 n4 k4)) rfl rfl ?_
       have hs5:SlN (W5.drewN nq) a4 n4 k4 L:=(hs4.ext hb5).ext ⟨rfl,rfl,rfl,zN _,fun _ _=>rfl⟩
       obtain rfl:=HHN.out
       exact SnapP.fin (HJN.out nq).1 (HJN.out nq).2.1 nB hs5 (fun x hx=>by have:=hn4 x hx;have:=HU3.out.size;omega) (HJN.out nq).2.2 _ _
     ·rw [if_pos (.inr (.inl h2))] at hR
      subst hR
      have g2:(z4 == 0)=false:=by simpa using h2
      go_wp2_with fail
      rw [<-HW5.out]
      go_quiet (first|(go_at_call 48;exact Calls.quiet_of_same ((HCR.out _).mono fun _ _ ⟨h1,h2⟩=>⟨h1,h2.symm⟩)))
      go_wp2_with fail
      refine ret2 rfl rfl (SBox.set2 (HJN.out nq).2.2 0 (.slice none 0 0)) rfl rfl ?_
      exact SnapP.fin (L:=[]) (HJN.out nq).1 (HJN.out nq).2.1 nB (SlN.nil _) (fun x hx=>by cases hx) (HJN.out nq).2.2 _ _
    ·rw [if_pos (.inl h1)] at hR
     subst hR
     have g1:((cr:Int) == (s.sum:Int))=false:=by simp;omega
     have g3:((cr:Int) != (s.sum:Int))=true:=by simp;omega
     have g4:(cr == s.sum)=false:=by simp;omega
     go_wp2_with fail
     rw [<-HW5.out]
     go_quiet (first|(go_at_call 48;exact Calls.quiet_of_same ((HCR.out _).mono fun _ _ ⟨h1,h2⟩=>⟨h1,h2.symm⟩)))
     go_wp2_with fail
     refine ret2 rfl rfl (SBox.set2 (HJN.out nq).2.2 0 (.slice none 0 0)) rfl rfl ?_
     exact SnapP.fin (L:=[]) (HJN.out nq).1 (HJN.out nq).2.1 nB (SlN.nil _) (fun x hx=>by cases hx) (HJN.out nq).2.2 _ _
   ·rw [if_pos hz] at hR
    subst hR
    have t1:(z == 0)=false:=by simpa using hz
    have HU3:=zH (show Upd F w F w3 from (Upd.of_ext (hB1.trans ((Below.drew hb2').mono hB1.size))).trans hU3)
    go_wp2_with fail
    refine ret2 rfl rfl (SBox.set2 j5 0 (.slice none 0 0)) rfl rfl ?_
    exact SnapP.fin (L:=[]) hd3 HU3.out nB (SlN.nil _) (fun x hx=>by cases hx) j5 _ _
end
section
open Go.RowKit
open Disk (Dk)
variable {w w' wr wr':World} {B Q b base g p q:Nat} {l:Reg.Lay} {F F10:Nat->Prop} {d d':Dk} {s sp:Super.S} {c sl slot:Int} {lv vr:Value} {fl:Bool} {lg:Wal.L} {ps:List (List UInt8)}
def OpP (g n:Nat) (F:Nat->Prop) (w:World) (R:Reg.Res) (e:Ending) (w':World):Prop :=
 match R with
|(none,_,z,d')=>z ≠ 0/\∃ c a m k F',e=.returned (.tuple #[.pointer none,.agg #[(c:Int),.slice a m k],z])/\DP g d' F' w'/\Upd F w F' w'
|(some S,(c,L),z,d')=>z=0/\∃ q a k F',e=.returned (.tuple #[.pointer (q:Nat),.agg #[c,.slice a L.length k],z])/\PS g q S d' F' w'/\Upd F w F' w'/\SlN w' a L.length k L/\(∀ x,a=some x->L ≠ []->¬ F' x.block) ∧
  Reg.Ok n S/\Upt.stValid c L=true/\L.length<=S.lay.cap/\w.heap.size<=q
theorem OpP.err {n:Nat} {F':Nat->Prop} {W:World} {z:Int} (hz:z ≠ 0) (hd:DP g d' F' W) (hu:Upd F w F' W) (nB:¬ F' w.heap.size) (c:Int) (a:Option Addr) (m k:Nat) (c' v':Value) :
 OpP g n F w (Reg.bad z d') (.returned (.tuple #[.pointer none,.agg #[c,.slice a m k],z])) ((W.setCell w.heap.size c').setCell (w.heap.size 1) v').drew :=
 ⟨hz,c,a,m,k,F',rfl,((hd.set nB _ _).set nB _ _).ext (Below.drew (Below.refl _ _)),((hu.setCell (.inr (zN _)) _ _).setCell (.inr (zN _)) _ _).drew⟩
theorem SBv.lay (l:Reg.Lay) (h:w.heap[q]?=some (.cells #[.pointer g,.int .i64 0,.int .i64 0,.int .i64 0,.int .i64 0,.int .i64 0,.int .i64 0,.int .i64 0,.int .i64 0,.int .i64 0,.int .i64 0,.int .u64 0,.int .i64 0,.int .u32 0,.int .i64 0,.int .u32 0,.pointer none,.bool false] 108 (0,0))) :
 SBv (((((((((w.setCell (q 1) (l.cap:Value)).setCell (q 2) (.int .i64 (l.sf 0))).setCell (q 3) (l.sc:Value)).setCell (q 4) (.int .i64 (l.sf 1))).setCell (q 5) (l.sc:Value)).setCell (q 6) (.int .i64 (l.lf 0))).setCell (q 7) (l.lc:Value)).setCell (q 8) (.int .i64 (l.lf 1))).setCell (q 9) (l.lc:Value)) q g l 0 Super.zero (.pointer none) false:=by
 have k9:=heap_setCell_same _ q 9 _ _ (l.lc:Value) (heap_setCell_same _ q 8 _ _ (.int .i64 (l.lf 1)) (heap_setCell_same _ q 7 _ _ (l.lc:Value) (heap_setCell_same _ q 6 _ _ (.int .i64 (l.lf 0)) (heap_setCell_same _ q 5 _ _ (l.sc:Value) (heap_setCell_same _ q 4 _ _ (.int .i64 (l.sf 1)) (heap_setCell_same _ q 3 _ _ (l.sc:Value) (heap_setCell_same _ q 2 _ _ (.int .i64 (l.sf 0)) (heap_setCell_same w q 1 _ _ (l.cap:Value) h))))))))
 simp only [List.setIfInBounds_toArray,List.set] at k9
 exact k9
theorem SBv.sup (h:SBv w q g l slot s lv fl) (slot':Int) (s':Super.S) :
 SBv ((((((w.setCell (q 10) (slot':Value)).setCell (q 11) (.int .u64 s'.gen)).setCell (q 12) (s'.act:Value)).setCell (q 13) (.int .u32 s'.epoch)).setCell (q 14) (s'.len:Value)).setCell (q 15) (.int .u32 s'.sum)) q g l slot' s' lv fl:=
 heap_setCell_same _ q 15 _ _ _ (heap_setCell_same _ q 14 _ _ _ (heap_setCell_same _ q 13 _ _ _ (heap_setCell_same _ q 12 _ _ _ (heap_setCell_same _ q 11 _ _ _ (heap_setCell_same _ q 10 _ _ _ h)))))
theorem SBv.setLog (h:SBv w q g l slot s lv fl) (v:Value):SBv (w.setCell (q 16) v) q g l slot s v fl :=
 heap_setCell_same _ q 16 _ _ _ h
theorem DP.but (h:DP g d F w) (hb:¬ F b) (k:But b w w'):DP g d F w' :=
 h.stay (fun x hx=>k.block x (h.lt x hx) (fun e=>hb (e ▸ hx))) k.size
theorem SBox.but {v:Value} (h:SBox w B c v) (hb:B ≠ b) (k:But b w w'):SBox w' B c v:=h.stay (k.block B (za_a h) hb)
theorem Reg.snapS_st (l:Reg.Lay) (s:Super.S) (d:Dk):(Reg.snapS l s d).2.2.st.length=d.st.length:=by
 unfold Reg.snapS
 split
 ·rfl
 ·have hy:=Extent.read_st d (l.sf s.act.toNat) l.sc 0 s.len
  rcases hrd:Extent.read d (l.sf s.act.toNat) l.sc 0 s.len with⟨b,z,d1⟩
  rw [hrd] at hy
  dsimp only at hy ⊢
  split
  ·exact hy
  ·split
   ·exact hy
   ·exact hy
theorem Reg.snapS_ok {L:List Pin} (h:Reg.snapS l s d=((c,L),0,d')):Upt.stValid c L=true/\L.length<=l.cap:=by
 unfold Reg.snapS at h
 split at h
 ·cases h
 ·rcases hrd:Extent.read d (l.sf s.act.toNat) l.sc 0 s.len with⟨b,z,d1⟩
  rw [hrd] at h
  dsimp only at h
  split at h
  ·rename_i hz
   have:z=0:=congrArg (fun x=>x.2.1) h
   exact absurd this hz
  ·split at h
   ·cases h
   ·rename_i h2
    have e1:(Snap.dec b).1=(c,L):=congrArg (fun x=>x.1) h
    have e2:(Snap.dec b).2=0:=by
     by_cases hz:(Snap.dec b).2=0
     ·exact hz
     ·exact absurd (.inr (.inl hz)) h2
    refine⟨(Snap.enc_dec (Prod.ext e1 e2)).1,?_⟩
    rw [e1] at h2
    dsimp only at h2
    by_cases hl:L.length<=l.cap
    ·exact hl
    ·exact absurd (.inr (.inr (by omega))) h2
theorem SBv.logc (h:SBv w q g l slot s lv fl) {r:Nat} (hr:r < 2) (ha:s.act=(r:Int)) :
 w.cell? (q 12)=some (r:Value)/\w.cell? (q (6+r * 2))=some (.int .i64 (l.lf r))/\w.cell? (q (6+r * 2+1))=some (l.lc:Value)/\w.cell? (q 13)=some (.int .u32 (s.epoch:Nat)):=by
 refine⟨by rw [h.at 12,<-ha];rfl,?_,?_,h.at 13⟩
 ·rcases (show r=0\/r=1 by omega) with e|e
  ·subst e;exact h.at 6
  ·subst e;exact h.at 8
 ·rcases (show r=0\/r=1 by omega) with e|e
  ·subst e;exact h.at 7
  ·subst e;exact h.at 9
structure OpI (g p Q B base:Nat) (F F10:Nat->Prop) (l:Reg.Lay) (sl:Int) (sp:Super.S) (lg:Wal.L) (ps:List (List UInt8)) (vr:Value) (d:Dk) (w wr:World):Prop where
 dp:DP g d F10 wr
 lb:LB wr p g lg
 sb:SBv wr Q g l sl sp (.pointer p) false
 bx:SBox wr B 0 (.slice none 0 0)
 rc:OwnL base wr vr ps
 up:Upd F w F10 wr
theorem OpI.ext (h:OpI g p Q B base F F10 l sl sp lg ps vr d w wr) (e:Below wr.heap.size wr wr'):OpI g p Q B base F F10 l sl sp lg ps vr d w wr' :=
 ⟨h.dp.ext e,h.lb.ext e,h.sb.ext e,h.bx.ext e,h.rc.ext e,h.up.ext e⟩
theorem OpI.but {T:Nat} (h:OpI g p Q B base F F10 l sl sp lg ps vr d w wr) (k:But T wr wr') (h1:¬ F10 T) (h2:p ≠ T) (h3:Q ≠ T) (h4:B ≠ T) (h5:T < base) (h6:w.heap.size<=T):OpI g p Q B base F F10 l sl sp lg ps vr d w wr' :=
 ⟨h.dp.but h1 k,h.lb.same (k.block _ h.lb.lt h2),h.sb.same (k.block _ h.sb.lt h3),h.bx.but h4 k,h.rc.keep (fun x x1 x2=>k.block x x2 (by omega)),h.up.but (.inr h6) k⟩
def OpT (g p Q B base T:Nat) (F F10:Nat->Prop) (l:Reg.Lay) (sl:Int) (sp:Super.S) (lg:Wal.L) (ps:List (List UInt8)) (vr:Value) (d:Dk) (w:World) (c:Int) (Res:Option (List Pin)) (k:Nat) (wr:World):Prop :=
 OpI g p Q B base F F10 l sl sp lg ps vr d w wr/\∃ a n m L,SBox wr T c (.slice a n m)/\SlN wr a n m L/\Reg.replay l.cap c L (ps.drop k)=Res/\Upt.stValid c L=true/\L.length<=l.cap/\(∀ x,a=some x->L ≠ []->¬ F10 x.block/\x.block ≠ p/\x.block ≠ Q/\x.block ≠ T)
set_option maxRecDepth 100000 in
set_option maxHeartbeats 16000000 in
theorem zs_m (hd:DP g d F w) (hn:d.st.length<=1000) {R:Reg.Res} (hR:Reg.openS d=R) :
 Calls Tryz.prog 55 #[.pointer g] w (OpP g d.st.length F w R):=by
 have nB:¬ F w.heap.size:=fun e=>Nat.lt_irrefl _ (hd.lt _ e)
 have nQ:¬ F (w.heap.size+1):=fun e=>by have:=hd.lt _ e;omega
 have nT:¬ F (w.heap.size+2):=fun e=>by have:=hd.lt _ e;omega
 have z0:(w.alloc (.cells #[.int .i64 0,.slice none 0 0] 44)).heap.size=w.heap.size+1:=by simp
 have z1:((w.alloc (.cells #[.int .i64 0,.slice none 0 0] 44)).alloc (.cells #[.pointer g,.int .i64 0,.int .i64 0,.int .i64 0,.int .i64 0,.int .i64 0,.int .i64 0,.int .i64 0,.int .i64 0,.int .i64 0,.int .i64 0,.int .u64 0,.int .i64 0,.int .u32 0,.int .i64 0,.int .u32 0,.pointer none,.bool false] 108)).heap.size=w.heap.size+2:=by simp
 obtain⟨W0,hW0⟩:∃ W0,W0=((w.alloc (.cells #[.int .i64 0,.slice none 0 0] 44)).alloc (.cells #[.pointer g,.int .i64 0,.int .i64 0,.int .i64 0,.int .i64 0,.int .i64 0,.int .i64 0,.int .i64 0,.int .i64 0,.int .i64 0,.int .i64 0,.int .u64 0,.int .i64 0,.int .u32 0,.int .i64 0,.int .u32 0,.pointer none,.bool false] 108)).alloc (.cells #[.int .i64 0,.slice none 0 0] 44):=⟨_,rfl⟩
 have hb0:Below w.heap.size w W0:=by rw [hW0];exact (((Below.refl _ _).alloc (zN _) _).alloc (by omega) _).alloc (by omega) _
 have hB0:SBox W0 w.heap.size 0 (.slice none 0 0):=by
  unfold SBox
  rw [hW0,za_c _ _ _ (by omega),za_c _ _ _ (by omega),za_b _ _ _ rfl]
 have hQ0:W0.heap[w.heap.size+1]?=some (.cells #[.pointer g,.int .i64 0,.int .i64 0,.int .i64 0,.int .i64 0,.int .i64 0,.int .i64 0,.int .i64 0,.int .i64 0,.int .i64 0,.int .i64 0,.int .u64 0,.int .i64 0,.int .u32 0,.int .i64 0,.int .u32 0,.pointer none,.bool false] 108 (0,0)):=by
  rw [hW0,za_c _ _ _ (by omega),za_b _ _ _ z0.symm]
 have hT0:SBox W0 (w.heap.size+2) 0 (.slice none 0 0):=by
  unfold SBox
  rw [hW0,za_b _ _ _ z1.symm]
 have HW0:=zH hW0
 clear hW0 z0 z1
 have hpl:=zf_g true (d.st.length:Nat) W0
 rw [show ((d.st.length:Nat):Int).toNat=d.st.length by omega] at hpl
 have HSEC:=zH (hd.ext hb0).sectors
 unfold Reg.openS at hR
 by_cases hfit:Reg.fit d.st.length=false
 ·rw [if_pos hfit] at hR
  subst hR
  rw [(zb_p hfit).1,(zb_p hfit).2] at hpl
  unfold lay0 layv at hpl
  have HP:=zH hpl
  clear hpl hfit
  go_enter Tryz.func55,Tryz.ntmps55
  go_wp2_with fail
  rw [<-HW0.out]
  refine HSEC.out.mono ?_;rintro e w1 ⟨rfl,rfl⟩
  go_wp2_with fail
  refine HP.out.mono ?_;rintro e w2 ⟨rfl,hb2⟩
  have hB2:=hB0.ext hb2
  have hQ2:=(hb2.block _ (za_a hQ0)).trans hQ0
  have hT2:=hT0.ext hb2
  have r2:=fun k=>frozen_of_row _ _ k _ _ hQ2
  have k2:=fun k=>cell_of_row _ _ k _ _ _ hQ2
  have k21:w2.cell? ((w.heap.size+1) 1)=some (.int .i64 0):=k2 1
  have r21:=r2 1
  have k22:w2.cell? ((w.heap.size+1) 2)=some (.int .i64 0):=k2 2
  have r22:=r2 2
  have k23:w2.cell? ((w.heap.size+1) 3)=some (.int .i64 0):=k2 3
  have r23:=r2 3
  have k24:w2.cell? ((w.heap.size+1) 4)=some (.int .i64 0):=k2 4
  have r24:=r2 4
  have k25:w2.cell? ((w.heap.size+1) 5)=some (.int .i64 0):=k2 5
  have r25:=r2 5
  have k26:w2.cell? ((w.heap.size+1) 6)=some (.int .i64 0):=k2 6
  have r26:=r2 6
  have k27:w2.cell? ((w.heap.size+1) 7)=some (.int .i64 0):=k2 7
  have r27:=r2 7
  have k28:w2.cell? ((w.heap.size+1) 8)=some (.int .i64 0):=k2 8
  have r28:=r2 8
  have k29:w2.cell? ((w.heap.size+1) 9)=some (.int .i64 0):=k2 9
  have r29:=r2 9
  clear k2 r2
  go_wp2_with fail
  obtain⟨W3,hW3⟩:∃ W3,W3=(((((((((w2.setCell ((w.heap.size+1) 1) (.int .i64 0)).setCell ((w.heap.size+1) 2) (.int .i64 0)).setCell ((w.heap.size+1) 3) (.int .i64 0)).setCell ((w.heap.size+1) 4) (.int .i64 0)).setCell ((w.heap.size+1) 5) (.int .i64 0)).setCell ((w.heap.size+1) 6) (.int .i64 0)).setCell ((w.heap.size+1) 7) (.int .i64 0)).setCell ((w.heap.size+1) 8) (.int .i64 0)).setCell ((w.heap.size+1) 9) (.int .i64 0)):=⟨_,rfl⟩
  have hbut:But (w.heap.size+1) w2 W3:=by rw [hW3];exact (((((((((But.refl _ _).setCell 1 _).setCell 2 _).setCell 3 _).setCell 4 _).setCell 5 _).setCell 6 _).setCell 7 _).setCell 8 _).setCell 9 _
  rw [<-hW3]
  clear hW3 k21 r21 k22 r22 k23 r23 k24 r24 k25 r25 k26 r26 k27 r27 k28 r28 k29 r29
  have hB3:=hB2.but (by omega) hbut
  have hT3:=hT2.but (by omega) hbut
  have hD3:DP g d F W3:=((hd.ext hb0).ext hb2).but nQ hbut
  have hU3:Upd F w F W3:=(Upd.of_ext (hb0.trans (hb2.mono hb0.size))).but (.inr (by omega)) hbut
  obtain⟨x0,x1⟩:=hB3.cells
  obtain⟨x2,x3⟩:=hT3.cells
  have f0:=SBox.frz hB3 0
  have f1:=SBox.frz hB3 1
  go_region
  go_wp2_with fail
  refine ret3 rfl rfl rfl (SBox.set2 hB3 (0) (.slice none 0 0)) rfl rfl ?_
  exact OpP.err (by decide) hD3 hU3 nB _ _ _ _ _ _
 ·rw [if_neg hfit] at hR
  have hfit':Reg.fit d.st.length=true:=by simpa using hfit
  rw [(zc_o hfit').1,(zc_o hfit').2] at hpl
  obtain⟨l,hl⟩:∃ l,Reg.plan d.st.length=l:=⟨_,rfl⟩
  rw [hl] at hpl hR
  unfold layc at hpl
  have HP:=zH hpl
  have HL:=zH hl
  clear hpl hfit hl
  rcases h0:Disk.read d 0 with⟨ba,z0,e0⟩
  unfold Reg.open1 at hR
  rw [h0] at hR
  dsimp only at hR
  have HR0:=zH (fun W F' (h:DP g d F' W)=>h.read 0 h0)
  have n0:e0.st.length=d.st.length:=by have:=(Disk.read_st d 0).1;rw [h0] at this;exact congrArg List.length this
  clear h0
  go_enter Tryz.func55,Tryz.ntmps55
  go_wp2_with fail
  rw [<-HW0.out]
  refine HSEC.out.mono ?_;rintro e w1 ⟨rfl,rfl⟩
  go_wp2_with fail
  refine HP.out.mono ?_;rintro e w2 ⟨rfl,hb2⟩
  have hB2:=hB0.ext hb2
  have hQ2:=(hb2.block _ (za_a hQ0)).trans hQ0
  have hT2:=hT0.ext hb2
  have r2:=fun k=>frozen_of_row _ _ k _ _ hQ2
  have k2:=fun k=>cell_of_row _ _ k _ _ _ hQ2
  have k21:w2.cell? ((w.heap.size+1) 1)=some (.int .i64 0):=k2 1
  have r21:=r2 1
  have k22:w2.cell? ((w.heap.size+1) 2)=some (.int .i64 0):=k2 2
  have r22:=r2 2
  have k23:w2.cell? ((w.heap.size+1) 3)=some (.int .i64 0):=k2 3
  have r23:=r2 3
  have k24:w2.cell? ((w.heap.size+1) 4)=some (.int .i64 0):=k2 4
  have r24:=r2 4
  have k25:w2.cell? ((w.heap.size+1) 5)=some (.int .i64 0):=k2 5
  have r25:=r2 5
  have k26:w2.cell? ((w.heap.size+1) 6)=some (.int .i64 0):=k2 6
  have r26:=r2 6
  have k27:w2.cell? ((w.heap.size+1) 7)=some (.int .i64 0):=k2 7
  have r27:=r2 7
  have k28:w2.cell? ((w.heap.size+1) 8)=some (.int .i64 0):=k2 8
  have r28:=r2 8
  have k29:w2.cell? ((w.heap.size+1) 9)=some (.int .i64 0):=k2 9
  have r29:=r2 9
  clear k2 r2
  go_wp2_with fail
  obtain⟨W3,hW3⟩:∃ W3,W3=(((((((((w2.setCell ((w.heap.size+1) 1) (l.cap:Value)).setCell ((w.heap.size+1) 2) (.int .i64 (l.sf 0))).setCell ((w.heap.size+1) 3) (l.sc:Value)).setCell ((w.heap.size+1) 4) (.int .i64 (l.sf 1))).setCell ((w.heap.size+1) 5) (l.sc:Value)).setCell ((w.heap.size+1) 6) (.int .i64 (l.lf 0))).setCell ((w.heap.size+1) 7) (l.lc:Value)).setCell ((w.heap.size+1) 8) (.int .i64 (l.lf 1))).setCell ((w.heap.size+1) 9) (l.lc:Value)):=⟨_,rfl⟩
  have hbut:But (w.heap.size+1) w2 W3:=by rw [hW3];exact (((((((((But.refl _ _).setCell 1 _).setCell 2 _).setCell 3 _).setCell 4 _).setCell 5 _).setCell 6 _).setCell 7 _).setCell 8 _).setCell 9 _
  have hS3:SBv W3 (w.heap.size+1) g l 0 Super.zero (.pointer none) false:=by rw [hW3];exact SBv.lay l hQ2
  rw [<-hW3]
  clear hW3 k21 r21 k22 r22 k23 r23 k24 r24 k25 r25 k26 r26 k27 r27 k28 r28 k29 r29
  have hB3:=hB2.but (by omega) hbut
  have hT3:=hT2.but (by omega) hbut
  have hD3:DP g d F W3:=((hd.ext hb0).ext hb2).but nQ hbut
  have hU3:Upd F w F W3:=(Upd.of_ext (hb0.trans (hb2.mono hb0.size))).but (.inr (by omega)) hbut
  go_wp2_with fail
  refine (HR0.out _ _ hD3).mono ?_;rintro e w4 ⟨v4,rfl,hO4,hD4,hU4⟩
  obtain⟨a4,c4,rfl,hs4,hn4⟩:=hO4.sl
  have hB4:=hB3.stay (hU4.block _ (za_a hB3) nB)
  have hT4:=hT3.stay (hU4.block _ (za_a hT3) nT)
  have hS4:=hS3.kept hU4 nQ
  have hV4:=hU3.trans hU4
  by_cases hz0:z0=0
  ·subst hz0
   rw [if_neg (by simp)] at hR
   rcases h1:Disk.read e0 1 with⟨bb,z1,e1⟩
   unfold Reg.open2 at hR
   rw [h1] at hR
   dsimp only at hR
   have HR1:=zH (hD4.read 1 h1)
   have n1:e1.st.length=d.st.length:=by have:=(Disk.read_st e0 1).1;rw [h1] at this;exact (congrArg List.length this).trans n0
   clear h1
   go_wp2_with fail
   refine HR1.out.mono ?_;rintro e w5 ⟨v5,rfl,hO5,hD5,hU5⟩
   obtain⟨a5,c5,rfl,hs5,-⟩:=hO5.sl
   have hB5:=hB4.stay (hU5.block _ (za_a hB4) nB)
   have hT5:=hT4.stay (hU5.block _ (za_a hT4) nT)
   have hS5:=hS4.kept hU5 nQ
   have hV5:=hV4.trans hU5
   by_cases hz1:z1=0
   ·subst hz1
    rw [if_neg (by simp)] at hR
    have hs45:=hs4.upd hU5 (fun y hy _ e=>by have:=(hn4 y hy).2.1;have:=hd.lt _ e;have:=hU3.size;omega)
    rcases hch:Super.choose ba bb with⟨sl,sp,zc⟩
    have hco:=zj_a true a4 a5 ba.length bb.length c4 c5 ba bb w5 hs45 hs5
    unfold ChoosePost supv at hco
    rw [hch] at hco
    have HCO:=zH hco
    clear hco
    go_wp2_with fail
    refine HCO.out.mono ?_;rintro e w6 ⟨rfl,hb6⟩
    have hB6:=hB5.ext hb6
    have hT6:=hT5.ext hb6
    have hS6:=hS5.ext hb6
    have hD6:=hD5.ext hb6
    have hV6:=hV5.ext hb6
    have k610:w6.cell? ((w.heap.size+1) 10)=some (.int .i64 0):=hS6.at 10
    have r610:=hS6.free 10
    have k611:w6.cell? ((w.heap.size+1) 11)=some (.int .u64 0):=hS6.at 11
    have r611:=hS6.free 11
    have k612:w6.cell? ((w.heap.size+1) 12)=some (.int .i64 0):=hS6.at 12
    have r612:=hS6.free 12
    have k613:w6.cell? ((w.heap.size+1) 13)=some (.int .u32 0):=hS6.at 13
    have r613:=hS6.free 13
    have k614:w6.cell? ((w.heap.size+1) 14)=some (.int .i64 0):=hS6.at 14
    have r614:=hS6.free 14
    have k615:w6.cell? ((w.heap.size+1) 15)=some (.int .u32 0):=hS6.at 15
    have r615:=hS6.free 15
    by_cases hzc:zc=0
    ·subst hzc
     go_wp2_with fail
     obtain⟨W7,hW7⟩:∃ W7,W7=((((((w6.setCell ((w.heap.size+1) 10) (sl:Value)).setCell ((w.heap.size+1) 11) (.int .u64 sp.gen)).setCell ((w.heap.size+1) 12) (sp.act:Value)).setCell ((w.heap.size+1) 13) (.int .u32 sp.epoch)).setCell ((w.heap.size+1) 14) (sp.len:Value)).setCell ((w.heap.size+1) 15) (.int .u32 sp.sum)):=⟨_,rfl⟩
     have hbut7:But (w.heap.size+1) w6 W7:=by rw [hW7];exact ((((((But.refl _ _).setCell 10 _).setCell 11 _).setCell 12 _).setCell 13 _).setCell 14 _).setCell 15 _
     have hS7:SBv W7 (w.heap.size+1) g l sl sp (.pointer none) false:=by rw [hW7];exact hS6.sup sl sp
     rw [<-hW7]
     clear hW7 k610 r610 k611 r611 k612 r612 k613 r613 k614 r614 k615 r615
     have hB7:=hB6.but (by omega) hbut7
     have hT7:=hT6.but (by omega) hbut7
     have hD7:=hD6.but nQ hbut7
     have hV7:=hV6.but (.inr (by omega)) hbut7
     rw [Reg.open3_snap hch] at hR
     obtain⟨hsl,hval,hfits⟩:=Super.choose_facts hch
     have hav:=Reg.act_lt hval
     obtain⟨r,hr⟩:∃ r,sp.act.toNat=r:=⟨_,rfl⟩
     rw [hr] at hav hR
     have hlenb:0<=sp.len/\sp.len<=262144:=by
      simp only [Super.valid,Bool.and_eq_true,decide_eq_true_eq] at hval;omega
     rcases hsn:Reg.snapS l sp e1 with⟨⟨c,L⟩,z2,e2⟩
     rw [hsn] at hR
     dsimp only at hR
     obtain⟨i1,i3,i2,i4,m,hm,hsz,-⟩:=zk_y hfit' r hav.2
     rw [HL.out] at i1 i2 i3 i4 hsz
     have hsc:Extent.size l.sc<=100000:=by
      have:=Reg.fit_facts hfit'
      rw [HL.out] at this
      unfold Reg.Lay.sc;rw [Extent.size_nat _ (by omega)];omega
     have HSN:=zH (zj_z hav.2 hav.1 hS7 hD7 nQ i1 i2 hlenb hsc hsn)
     unfold SnapP at HSN
     go_wp2_with fail
     refine HSN.out.mono ?_;rintro e w8 ⟨a8,k8,rfl,hs8,hn8,hD8,hU8⟩
     have hB8:=hB7.stay (hU8.block _ (za_a hB7) nB)
     have hT8:=hT7.stay (hU8.block _ (za_a hT7) nT)
     have hS8:=hS7.kept hU8 nQ
     have hV8:=hV7.trans hU8
     obtain⟨n8,hn8L⟩:∃ n,L.length=n:=⟨_,rfl⟩
     rw [hn8L] at hs8
     rw [hn8L]
     obtain⟨x2,x3⟩:=hT8.cells
     have f2:=SBox.frz hT8 0
     have f3:=SBox.frz hT8 1
     by_cases hz2:z2=0
     ·subst hz2
      rw [if_neg (by simp)] at hR
      have hU9:=fun W (e:W=(w8.setCell (w.heap.size+2:Nat) (c:Value)).setCell ((w.heap.size+2) 1) (.slice a8 n8 k8))=>show But (w.heap.size+2) w8 W by rw [e];exact ((But.refl _ _).setCell 0 _).setCell 1 _
      have hsv9:=hs8.setOldS hT8 0 1 (c:Value) (.slice a8 n8 k8)
      have hT9':=SBox.set2 hT8 c (.slice a8 n8 k8)
      go_wp2_with fail
      obtain⟨W9,hW9⟩:∃ W9,W9=(w8.setCell (w.heap.size+2:Nat) (c:Value)).setCell ((w.heap.size+2) 1) (.slice a8 n8 k8):=⟨_,rfl⟩
      have hbut9:=hU9 W9 hW9
      rw [<-hW9] at hsv9 hT9'
      rw [<-hW9]
      clear hW9 hU9 x2 x3 f2 f3
      have hB9:=hB8.but (by omega) hbut9
      have hS9:SBv W9 (w.heap.size+1) g l sl sp (.pointer none) false:=hS8.same (hbut9.block _ hS8.lt (by omega))
      have hD9:=hD8.but nT hbut9
      have hV9:=hV8.but (.inr (by omega)) hbut9
      have n2:e2.st.length=d.st.length:=by
       have:=Reg.snapS_st l sp e1
       rw [hsn] at this
       exact this.trans n1
      rcases hwo:Wal.open e2 (l.lf r) l.lc sp.epoch with⟨lo,ps,z3,e3⟩
      rw [hwo] at hR
      have HWO:=zH ((hD9.ext (Below.drew (Below.refl _ W9))).wopen (l.lf r) l.lc i3 i4 sp.epoch hfits.2.1 (by omega) hwo)
      unfold WOP at HWO
      have hk9:∀ F' W,Upd F W9 F' W->(W.cell? ((w.heap.size+1) 12)=some (r:Value)/\W.cell? ((w.heap.size+1) (6+r * 2))=some (.int .i64 (l.lf r))/\W.cell? ((w.heap.size+1) (6+r * 2+1))=some (l.lc:Value)/\W.cell? ((w.heap.size+1) 13)=some (.int .u32 (sp.epoch:Nat)))/\SBv W (w.heap.size+1) g l sl sp (.pointer none) false:=fun F' W e=>by
       exact⟨(hS9.kept e nQ).logc hav.2 hav.1,hS9.kept e nQ⟩
      have HK9:=zH hk9
      obtain⟨⟨y1,y2,y3,y4⟩,-⟩:=hk9 F W9 (Upd.refl _ _)
      have r0:(0:Int)<=(r:Int):=by omega
      have r1:(r:Int) < 2:=by omega
      clear hk9
      go_region_held3 (fun W=>W.cell? ((w.heap.size+1) 12)=some (r:Value)/\W.cell? ((w.heap.size+1) (6+r * 2))=some (.int .i64 (l.lf r))/\W.cell? ((w.heap.size+1) (6+r * 2+1))=some (l.lc:Value)/\W.cell? ((w.heap.size+1) 13)=some (.int .u32 (sp.epoch:Nat))) (first|exact⟨y1,y2,y3,y4⟩|exact (HK9.out _ _ (by assumption)).1) (first
      |(go_at_call 66;go_must (refine HWO.out.mono ?_);rintro e w10 ⟨pv,v10,F10,rfl,hO10,hD10,hU10',Q10⟩;have hU10:Upd F W9 F10 w10:=(Upd.drew (Upd.refl _ _)).trans hU10';obtain⟨o10,rfl⟩:∃ o,pv=.pointer o:=WOP.ptr Q10;have q10:=zH Q10;clear Q10))
      by_cases hz3:z3=0
      ·subst hz3
       obtain⟨lg,hlo⟩:=Wal.open_some (d:=e2) (f:=l.lf r) (c:=l.lc) (ep:=sp.epoch) (by rw [hwo])
       rw [hwo] at hlo
       dsimp only at hlo
       subst hlo
       have hfl:=(Wal.open_fl (d:=e2) (f:=l.lf r) (c:=l.lc) (ep:=sp.epoch) (by rw [hwo])).1
       have hgl:GoodL lg:=GoodL.opened (d:=e2) hD9.ok (by omega) i3 i4 hfits.2.1 (by rw [hwo])
       have hsm:=Wal.open_small e2 (l.lf r) l.lc sp.epoch
       rw [hwo] at hsm
       dsimp only at hsm
       obtain⟨p,rfl,hp1,hp2,hp3⟩:∃ p,o10=.some (p:Nat)/\W9.drew.heap.size<=p/\LB w10 p g lg/\¬ F10 p:=by
        rcases q10.out with⟨h,-⟩|⟨L',p,h,h2,h3⟩
        ·cases h
        ·cases h;cases h2;exact⟨p,rfl,h3⟩
       have hp1':W9.heap.size<=p:=hp1
       have z92:=hbut9.size
       have zT:=za_a hT9'
       have zS:=hS9.lt
       have nT10:¬ F10 (w.heap.size+2):=fun e=>by
        rcases hU10.new _ e with e|e
        ·exact nT e
        ·omega
       have nB10:¬ F10 w.heap.size:=fun e=>by
        rcases hU10.new _ e with e|e
        ·exact nB e
        ·omega
       have nQ10:¬ F10 (w.heap.size+1):=fun e=>by
        rcases hU10.new _ e with e|e
        ·exact nQ e
        ·omega
       have hS10:=hS9.kept hU10 nQ
       have hB10:=hB9.stay (hU10.block _ (za_a hB9) nB)
       have hT10:=hT9'.stay (hU10.block _ (za_a hT9') nT)
       have k16:w10.cell? ((w.heap.size+1) 16)=some (.pointer none):=hS10.at 16
       have r16:=hS10.free 16
       have hL11:=hS10.setLog (.pointer p)
       obtain⟨a10,c10,rfl,-⟩:=hO10.sl
       have z12:=hU10.size
       have hpQ:p ≠ w.heap.size+1:=by omega
       have hsv10:SlN w10 a8 n8 k8 L:=hsv9.stay (fun x hx hl=>hU10.block _ (hsv9.blt' hx hl) (fun e=>by have:=hd.lt _ e;have:=hn8 x hx;have:=hV7.size;omega)) hU10.size
       go_wp2_with fail
       obtain⟨W11,hW11⟩:∃ W11,W11=w10.setCell ((w.heap.size+1) 16) (.pointer p):=⟨_,rfl⟩
       have hbut11:But (w.heap.size+1) w10 W11:=by rw [hW11];exact (But.refl _ _).setCell 16 _
       rw [<-hW11] at hL11
       rw [<-hW11]
       clear hW11
       have hI:OpI g p (w.heap.size+1) w.heap.size W9.drew.heap.size F F10 l sl sp lg ps (.slice a10 ps.length c10) e3 w W11 :=
        ⟨hD10.but nQ10 hbut11,hp2.same (hbut11.block _ hp2.lt hpQ),hL11,hB10.but (by omega) hbut11,hO10.keep (fun x x1 x2=>hbut11.block x x2 (by have:W9.heap.size<=x:=x1;omega)),(hV9.trans hU10).but (.inr (by omega)) hbut11⟩
       obtain⟨N,hN⟩:∃ N,ps.length=N:=⟨_,rfl⟩
       have hNl:N<=9223372036854775807:=by obtain⟨_,_,hv,hs⟩:=hO10.sl;have:=hs.le;omega
       obtain⟨Res,hRes⟩:∃ Res,Reg.replay l.cap c L ps=Res:=⟨_,rfl⟩
       have hcapL:Upt.stValid c L=true/\L.length<=l.cap:=Reg.snapS_ok hsn
       have hT0':OpT g p (w.heap.size+1) w.heap.size W9.drew.heap.size (w.heap.size+2) F F10 l sl sp lg ps (.slice a10 ps.length c10) e3 w c Res 0 W11 :=
        ⟨hI,a8,n8,k8,L,hT10.but (by omega) hbut11,hsv10.stay (fun x hx hl=>hbut11.block _ (hsv10.blt' hx hl) (by have:=hn8 x hx;have:=za_a hT7;omega)) hbut11.size,by rw [List.drop_zero];exact hRes,hcapL.1,hcapL.2,fun x hx hl=>by
         have h1:=hn8 x hx
         have h2:=hV7.size
         have h3:=hs8.blt' hx hl
         have h4:=za_a hT7
         exact⟨fun e=>by
          rcases hU10.new _ e with e|e
          ·have:=hd.lt _ e;omega
          ·omega,by omega,by omega,by omega⟩⟩
       rw [hN] at hI hT0'
       rw [hN]
       unfold Reg.open5 at hR
       dsimp only at hR
       rw [if_neg (by simp),hRes] at hR
       have HT0:=zH hT0'
       have HCP:=zH (show l.cap<=1000 from by have:=(Reg.fit_facts hfit').2.2.2.2.2.1;rw [HL.out] at this;exact this)
       have HZZ:=zH (show p ≠ w.heap.size+2/\w.heap.size+2 < W9.drew.heap.size/\p ≠ w.heap.size from ⟨by omega,zT,by omega⟩)
       have HSM:=zH hsm
       have HNN:=zH hN
       have HGL:=zH (And.intro hgl (And.intro hfl (And.intro hsl (And.intro hval hfits))))
       clear hT0' hsm hRes hI y1 y2 y3 y4
       go_wp2_with fail
       go_loopw [107] (fun i wr=>∃ k:Nat,i=.int .i64 k/\k<=N/\OpT g p (w.heap.size+1) w.heap.size W9.drew.heap.size (w.heap.size+2) F F10 l sl sp lg ps (.slice a10 N c10) e3 w c Res k wr) (fun i _=>N - (intOf i).toNat)
       case atStart=>exact⟨0,rfl,Nat.zero_le _,HT0.out⟩
       case round =>
        obtain⟨k,rfl,hk,hOT⟩:=hrel
        have k0:(0:Int)<=(k:Int):=by omega
        obtain⟨hI,a12,n12,m12,L12,hT12,hs12,hrp,hst,hcap,hap⟩:=hOT
        by_cases hlt:k < N
        ·have k1:(k:Int) < (N:Int):=by omega
         obtain⟨ar,cr,hvr,hsl⟩:=hI.rc.sl
         rw [HNN.out] at hvr hsl
         obtain⟨br,orr,har,hbr,pe,me,de,hce,hse⟩:=hsl.at hlt
         cases hvr
         subst har
         obtain⟨rec,hrec⟩:∃ rec,ps[k]?.getD []=rec:=⟨_,rfl⟩
         rw [hrec] at hse
         have hkl:k < ps.length:=by rw [HNN.out];exact hlt
         have hpk:ps[k]=rec:=by rw [List.getElem?_eq_getElem hkl] at hrec;exact hrec
         have hrb:me<=1024:=by
          have:=HSM.out rec (hpk ▸ List.getElem_mem hkl)
          have:=hse.len
          omega
         rw [List.drop_eq_getElem_cons hkl,hpk] at hrp
         have HDC:=zH (zo_y pe me de rec wr hse (by omega))
         unfold UDecP at HDC
         rcases hdc:Upt.dec rec with⟨u,zu⟩
         rw [hdc] at HDC
         unfold uv uc at HDC
         unfold Reg.replay at hrp
         rw [hdc] at hrp
         dsimp only at hrp
         have HMK:=zH (fun W (e:Below wr.heap.size wr W)=>hI.ext e)
         clear hrec hpk hse
         obtain⟨x2,x3⟩:=hT12.cells
         by_cases hzu:zu=0
         ·subst hzu
          rw [if_neg (by simp)] at hrp
          have hvu:=(Upt.enc_dec hdc).1
          rcases happ:Upt.apply c L12 u l.cap with⟨L',z'⟩
          rw [happ] at hrp
          dsimp only at hrp
          have hn12:=hs12.len
          have hn12b:n12<=100000:=by
           have:=(Upt.stValid_iff c L12).1 hst
           omega
          go_wp2_with fail
          refine HDC.out.mono ?_;rintro e w13 ⟨rfl,hb13⟩
          have hb13':Below wr.heap.size wr w13:=hb13
          have hU14:=UBox.new w13 u.k (str u.p.h) u.p.s u.p.x
          have hb14:=(Below.refl w13.heap.size w13).alloc (zN _) (.cells #[u.k,.string (str u.p.h),.bool u.p.s,u.p.x] 36)
          have x13:=(hb13'.cell (p:=(w.heap.size+2:Nat)) (za_a hT12)).trans x2
          have x14:=(hb13'.cell (p:=((w.heap.size+2) 1)) (za_a hT12)).trans x3
          go_wp2_with fail
          obtain⟨W14,hW14⟩:∃ W14,W14=w13.alloc (.cells #[u.k,.string (str u.p.h),.bool u.p.s,u.p.x] 36):=⟨_,rfl⟩
          rw [<-hW14] at hU14 hb14
          rw [<-hW14]
          clear hW14 x13 x14
          have hB14:Below wr.heap.size wr W14:=hb13'.trans (hb14.mono hb13'.size)
          have hI14:=HMK.out W14 hB14
          have hT14:=hT12.ext hB14
          have hs14:=hs12.ext hB14
          have HAP:=zH (show Calls Tryz.prog 116 #[.agg #[c,.slice a12 n12 m12],uv u,l.cap] W14.drew (UApP c L' z' W14.drew) by
           have:=zq_y c a12 n12 m12 L12 u l.cap W14.drew (hs14.stay (fun _ _ _=>rfl) (zN _)) hn12b (fun q hq=>Nat.le_trans (Upt.hosts_len hst q hq) (by omega)) (Nat.le_trans (Upt.host_len hvu) (by omega))
           rw [happ] at this
           exact this)
          unfold UApP sv uv uc at HAP
          obtain⟨y0,y1⟩:=hT14.cells
          have y2:=hU14.cells
          obtain⟨y3,y4,y5,y6⟩:=y2
          have y7:W14.cell? ((w.heap.size+1) 1)=some (l.cap:Value):=hI14.sb.at 1
          have hz14:=za_a hT14
          obtain⟨ck,hck⟩:∃ ck,Upt.ack c z'=ck:=⟨_,rfl⟩
          rw [hck] at HAP
          have HT15:=zH (fun W (e:Below W14.heap.size W14 W)=>hT14.ext e)
          go_region_law (go_simp;go_at_call 116;go_must (refine HAP.out.mono ?_);rintro e w15 ⟨v15,rfl,hO15,hb15⟩;obtain⟨a15,c15,rfl,hs15,hn15⟩:=hO15.sl;have hb15':Below W14.heap.size W14 w15:=(Below.drew (Below.refl _ W14)).trans hb15;obtain⟨v0,v1⟩:=SBox.cells (HT15.out w15 hb15');have g0:=SBox.frz (HT15.out w15 hb15') 0;have g1:=SBox.frz (HT15.out w15 hb15') 1)
          all_goals
           have hbut16:But (w.heap.size+2) w15 ((w15.setCell (w.heap.size+2:Nat) (ck:Value)).setCell ((w.heap.size+2) 1) (.slice a15 L'.length c15)):=((But.refl _ _).setCell 0 _).setCell 1 _
           have hT16:=SBox.set2 (HT15.out w15 hb15') ck (.slice a15 L'.length c15)
           obtain⟨W16,hW16⟩:∃ W16,W16=(w15.setCell (w.heap.size+2:Nat) (ck:Value)).setCell ((w.heap.size+2) 1) (.slice a15 L'.length c15):=⟨_,rfl⟩
           rw [<-hW16] at hT16 hbut16 ⊢
           have hB15:=hB14.trans (hb15'.mono hB14.size)
           have hI16:=(HMK.out w15 hB15).but hbut16 nT10 HZZ.out.1 (by omega) (by omega) HZZ.out.2.1 (by omega)
           clear hW16 v0 v1 g0 g1 y0 y1 y3 y4 y5 y6 y7
           by_cases hz':z'=0
           ·subst hz'
            obtain rfl:c=ck:=by rw [<-hck];rfl
            rw [if_neg (by simp)] at hrp
            obtain⟨e1,e2',e3'⟩:=Reg.apply_cap happ hcap HCP.out
            have hOT:=zH (show OpT g p (w.heap.size+1) w.heap.size W9.drew.heap.size (w.heap.size+2) F F10 l sl sp lg ps _ e3 w c Res (k+1) W16 from
             ⟨hI16,a15,L'.length,c15,L',hT16,hs15.stay (fun x hx hl=>hbut16.block _ (hs15.blt' hx hl) (by have:W14.heap.size<=x.block:=(hn15 x hx).1;omega)) hbut16.size,hrp,e2',e1,fun x hx hl=>by
              have h1:W14.heap.size<=x.block:=(hn15 x hx).1
              have h2:=hB14.size
              have h3:=hI.lb.lt
              have h4:=hI.sb.lt
              exact⟨fun e=>by have:=hI.dp.lt _ e;omega,by omega,by omega,by omega⟩⟩)
            clear hT16 hbut16 hs15
            go_wp2_with fail
            go_roundw
            case rel=>exact⟨k+1,by go_num,by omega,hOT.out⟩
            case measure=>simp [intOf];omega
           ·rw [if_pos hz'] at hrp
            subst hrp
            subst hR
            have t1:(z' == 0)=false:=by simpa using hz'
            go_wp2_with fail
            obtain⟨x0,x1⟩:=hI16.bx.cells
            obtain⟨x2,x3⟩:=hT16.cells
            have f0:=SBox.frz hI16.bx 0
            have f1:=SBox.frz hI16.bx 1
            go_region
            go_wp2_with fail
            refine ret3 rfl rfl rfl (SBox.set2 hI16.bx (ck) (.slice a15 L'.length c15)) rfl rfl ?_
            exact OpP.err (by decide) hI16.dp hI16.up nB10 _ _ _ _ _ _
         ·rw [if_pos hzu] at hrp
          subst hrp
          subst hR
          have t1:(zu == 0)=false:=by simpa using hzu
          go_wp2_with fail
          refine HDC.out.mono ?_;rintro e w13 ⟨rfl,hb13⟩
          have hb13':Below wr.heap.size wr w13:=hb13
          have hU14:=UBox.new w13 u.k (str u.p.h) u.p.s u.p.x
          have hb14:=(Below.refl w13.heap.size w13).alloc (zN _) (.cells #[u.k,.string (str u.p.h),.bool u.p.s,u.p.x] 36)
          have x13:=(hb13'.cell (p:=(w.heap.size+2:Nat)) (za_a hT12)).trans x2
          have x14:=(hb13'.cell (p:=((w.heap.size+2) 1)) (za_a hT12)).trans x3
          go_wp2_with fail
          obtain⟨W14,hW14⟩:∃ W14,W14=w13.alloc (.cells #[u.k,.string (str u.p.h),.bool u.p.s,u.p.x] 36):=⟨_,rfl⟩
          rw [<-hW14] at hU14 hb14
          rw [<-hW14]
          clear hW14 x13 x14
          have hB14:Below wr.heap.size wr W14:=hb13'.trans (hb14.mono hb13'.size)
          have hI14:=HMK.out W14 hB14
          have hT14:=hT12.ext hB14
          obtain⟨x0,x1⟩:=(hI14).bx.cells
          obtain⟨x2,x3⟩:=hT14.cells
          have f0:=SBox.frz (hI14).bx 0
          have f1:=SBox.frz (hI14).bx 1
          go_region
          go_wp2_with fail
          refine ret3 rfl rfl rfl (SBox.set2 (hI14).bx (c) (.slice a12 n12 m12)) rfl rfl ?_
          exact OpP.err (by decide) (hI14).dp (hI14).up nB10 _ _ _ _ _ _
        ·obtain rfl:k=N:=by omega
         rw [show ps.drop k=[] from List.drop_of_length_le (by rw [HNN.out];exact zN _)] at hrp
         have hrp':Res=some L12:=hrp.symm
         subst hrp'
         dsimp only at hR
         subst hR
         have hln:=hs12.len
         subst hln
         obtain⟨x0,x1⟩:=hI.bx.cells
         obtain⟨x2,x3⟩:=hT12.cells
         have f0:=SBox.frz hI.bx 0
         have f1:=SBox.frz hI.bx 1
         go_wp2_with fail
         go_region
         go_wp2_with fail
         refine ret3 rfl rfl rfl (SBox.set2 hI.bx c (.slice a12 L12.length m12)) rfl rfl ?_
         obtain⟨g1,g2,g3,g4,g5⟩:=HGL.out
         have hbut17:But w.heap.size wr ((wr.setCell w.heap.size (c:Value)).setCell (w.heap.size 1) (.slice a12 L12.length m12)):=((But.refl _ _).setCell 0 _).setCell 1 _
         have hdr:=fun W:World=>Below.drew (Below.refl W.heap.size W)
         have hsl0:((sl.toNat:Nat):Int)=sl:=by omega
         refine⟨rfl,w.heap.size+1,a12,m12,P1 (P1 F10 p) (w.heap.size+1),rfl,⟨F10,p,rfl,(hI.dp.but nB10 hbut17).ext (hdr _),(hI.lb.same (hbut17.block _ hI.lb.lt HZZ.out.2.2)).ext (hdr _),hp3,?_,nQ10,by omega⟩,?_,(hs12.setOldS hI.bx 0 1 (c:Value) (.slice a12 L12.length m12)).ext (hdr _),fun x hx hl=>?_,⟨hfit',hn,HL.out.symm,by dsimp only;omega,g4,g5,g1,fun _=>g2⟩,hst,hcap,by omega⟩
         ·have:=(hI.sb.same (hbut17.block _ hI.sb.lt (by omega))).ext (hdr _)
          unfold SB SBt stc
          dsimp only
          rw [hsl0]
          exact this
         ·refine ((hI.up.but (.inr (zN _)) hbut17).drew).grow fun y hy=>?_
          rcases hy with (hy|rfl)|rfl
          ·exact hI.up.new y hy
          ·right;have:=HZZ.out.2.2;omega
          ·right;omega
         ·obtain⟨h1,h2,h3,-⟩:=hap x hx hl
          rintro ((e|e)|e)
          ·exact h1 e
          ·exact h2 e
          ·exact h3 e
      ·have hR':R=Reg.bad z3 e3:=by rw [<-hR];unfold Reg.open5;exact if_pos hz3
       subst hR'
       have t1:(z3 == 0)=false:=by simpa using hz3
       have nB10:¬ F10 w.heap.size:=fun e=>by
        rcases hU10.new _ e with e|e
        ·exact nB e
        ·have:=za_a hB9;omega
       have hB10:=hB9.stay (hU10.block _ (za_a hB9) nB)
       have hT10:=hT9'.stay (hU10.block _ (za_a hT9') nT)
       have hV10:=hV9.trans hU10
       go_wp2_with fail
       obtain⟨x0,x1⟩:=hB10.cells
       obtain⟨x2,x3⟩:=hT10.cells
       have f0:=SBox.frz hB10 0
       have f1:=SBox.frz hB10 1
       go_region
       go_wp2_with fail
       refine ret3 rfl rfl rfl (SBox.set2 hB10 (c) (.slice a8 n8 k8)) rfl rfl ?_
       exact OpP.err hz3 hD10 hV10 nB10 _ _ _ _ _ _
     ·rw [if_pos hz2] at hR
      subst hR
      have t1:(z2 == 0)=false:=by simpa using hz2
      have hsv9:=hs8.setOldS hT8 0 1 (c:Value) (.slice a8 n8 k8)
      have hT9:=SBox.set2 hT8 c (.slice a8 n8 k8)
      go_wp2_with fail
      obtain⟨W9,hW9⟩:∃ W9,W9=(w8.setCell (w.heap.size+2:Nat) (c:Value)).setCell ((w.heap.size+2) 1) (.slice a8 n8 k8):=⟨_,rfl⟩
      have hbut9:But (w.heap.size+2) w8 W9:=by rw [hW9];exact ((But.refl _ _).setCell 0 _).setCell 1 _
      rw [<-hW9] at hsv9 hT9
      rw [<-hW9]
      clear hW9 x2 x3 f2 f3
      have hB9:=hB8.but (by omega) hbut9
      have hD9:=hD8.but nT hbut9
      have hV9:=hV8.but (.inr (by omega)) hbut9
      obtain⟨x0,x1⟩:=hB9.cells
      obtain⟨x2,x3⟩:=hT9.cells
      have f0:=SBox.frz hB9 0
      have f1:=SBox.frz hB9 1
      go_region
      go_wp2_with fail
      refine ret3 rfl rfl rfl (SBox.set2 hB9 (c) (.slice a8 n8 k8)) rfl rfl ?_
      exact OpP.err hz2 hD9 hV9 nB _ _ _ _ _ _
    ·have hR':R=Reg.bad 13 e1:=by rw [<-hR];unfold Reg.open3;rw [hch];exact if_pos hzc
     subst hR'
     have t1:(zc == 0)=false:=by simpa using hzc
     go_wp2_with fail
     obtain⟨W7,hW7⟩:∃ W7,W7=((((((w6.setCell ((w.heap.size+1) 10) (sl:Value)).setCell ((w.heap.size+1) 11) (.int .u64 sp.gen)).setCell ((w.heap.size+1) 12) (sp.act:Value)).setCell ((w.heap.size+1) 13) (.int .u32 sp.epoch)).setCell ((w.heap.size+1) 14) (sp.len:Value)).setCell ((w.heap.size+1) 15) (.int .u32 sp.sum)):=⟨_,rfl⟩
     have hbut7:But (w.heap.size+1) w6 W7:=by rw [hW7];exact ((((((But.refl _ _).setCell 10 _).setCell 11 _).setCell 12 _).setCell 13 _).setCell 14 _).setCell 15 _
     have hS7:SBv W7 (w.heap.size+1) g l sl sp (.pointer none) false:=by rw [hW7];exact hS6.sup sl sp
     rw [<-hW7]
     clear hW7 k610 r610 k611 r611 k612 r612 k613 r613 k614 r614 k615 r615
     have hB7:=hB6.but (by omega) hbut7
     have hT7:=hT6.but (by omega) hbut7
     have hD7:=hD6.but nQ hbut7
     have hV7:=hV6.but (.inr (by omega)) hbut7
     obtain⟨x0,x1⟩:=hB7.cells
     obtain⟨x2,x3⟩:=hT7.cells
     have f0:=SBox.frz hB7 0
     have f1:=SBox.frz hB7 1
     go_region
     go_wp2_with fail
     refine ret3 rfl rfl rfl (SBox.set2 hB7 (0) (.slice none 0 0)) rfl rfl ?_
     exact OpP.err (by decide) hD7 hV7 nB _ _ _ _ _ _
   ·rw [if_pos hz1] at hR
    subst hR
    have t1:(z1 == 0)=false:=by simpa using hz1
    go_wp2_with fail
    obtain⟨x0,x1⟩:=hB5.cells
    obtain⟨x2,x3⟩:=hT5.cells
    have f0:=SBox.frz hB5 0
    have f1:=SBox.frz hB5 1
    go_region
    go_wp2_with fail
    refine ret3 rfl rfl rfl (SBox.set2 hB5 (0) (.slice none 0 0)) rfl rfl ?_
    exact OpP.err hz1 hD5 hV5 nB _ _ _ _ _ _
  ·rw [if_pos hz0] at hR
   subst hR
   have t1:(z0 == 0)=false:=by simpa using hz0
   go_wp2_with fail
   obtain⟨x0,x1⟩:=hB4.cells
   obtain⟨x2,x3⟩:=hT4.cells
   have f0:=SBox.frz hB4 0
   have f1:=SBox.frz hB4 1
   go_region
   go_wp2_with fail
   refine ret3 rfl rfl rfl (SBox.set2 hB4 (0) (.slice none 0 0)) rfl rfl ?_
   exact OpP.err hz0 hD4 hV4 nB _ _ _ _ _ _
end
section
open Go.RowKit
open Disk (Dk)
variable {g:Nat} {d:Dk} {F:Nat->Prop} {w:World}
def OpQ (g n:Nat) (F:Nat->Prop) (w:World) (R:Reg.Res) (e:Ending) (w':World):Prop :=
 match R with
|(none,_,z,d')=>z ≠ 0/\∃ F',e=.returned (.tuple #[.pointer none,.agg #[.int .i64 0,.slice none 0 0],z])/\DP g d' F' w'/\Upd F w F' w'
|(some S,(c,L),z,d')=>z=0/\∃ q a k F',e=.returned (.tuple #[.pointer (q:Nat),.agg #[c,.slice a L.length k],z])/\PS g q S d' F' w'/\Upd F w F' w'/\SlN w' a L.length k L/\(∀ x,a=some x->L ≠ []->¬ F' x.block) ∧
  Reg.Ok n S/\Upt.stValid c L=true/\L.length<=S.lay.cap/\w.heap.size<=q
theorem PS.set {q:Nat} {S:Reg.St} (h:PS g q S d F w) {b:Nat} (hb:¬ F b) (o:Nat) (v:Value):PS g q S d F (w.setCell (b o) v) :=
 (PS.fp g q S d).stay h (fun k hk=>heap_setCell_other _ _ _ _ (by rintro rfl;exact hb hk)) (by simp)
set_option maxRecDepth 100000 in
set_option maxHeartbeats 8000000 in
theorem zh_g (hd:DP g d F w) (hn:d.st.length<=1000) {R:Reg.Res} (hR:Reg.openS d=R) :
 Calls Tryz.prog 13 #[.pointer g] w (OpQ g d.st.length F w R):=by
 obtain⟨W0,hW0⟩:∃ W0,W0=w.alloc (.cells #[.int .i64 0,.slice none 0 0] 44):=⟨_,rfl⟩
 have hb0:Below w.heap.size w W0:=by rw [hW0];exact (Below.refl _ _).alloc (zN _) _
 have hB0:SBox W0 w.heap.size 0 (.slice none 0 0):=by rw [hW0];exact SBox.new w 0 _
 have HW0:=zH hW0
 have HO:=zH (zs_m (hd.ext hb0) hn hR)
 have nB:¬ F w.heap.size:=fun e=>Nat.lt_irrefl _ (hd.lt _ e)
 have hlt:=za_a hB0
 clear hW0
 obtain⟨so,⟨c,L⟩,z,d'⟩:=R
 cases so with
|none =>
  unfold OpP at HO
  go_enter Tryz.func13,Tryz.ntmps13
  go_wp2_with fail
  rw [<-HW0.out]
  refine HO.out.mono ?_;rintro e w1 ⟨hz,c1,a1,m1,k1,F1,rfl,hD1,hU1⟩
  have t1:(z == 0)=false:=by simpa using hz
  have hB1:=hB0.stay (hU1.block _ hlt nB)
  have nB1:¬ F1 w.heap.size:=fun e=>by
   rcases hU1.new _ e with e|e
   ·exact nB e
   ·omega
  have t2:(z != 0)=true:=by simpa using hz
  obtain⟨x0,x1⟩:=hB1.cells
  have f0:=SBox.frz hB1 0
  have f1:=SBox.frz hB1 1
  have hlt1:=za_a hB1
  go_wp2_with fail
  have hE:=(SBox.set2 hB1 0 (.slice none 0 0)).ext ((Below.refl _ _).alloc (zN _) (.cells #[c1,.slice a1 m1 k1] 44))
  obtain⟨d0,d1⟩:=hE.cells
  refine bodyPost_ret (v:=.tuple #[.pointer none,.agg #[.int .i64 0,.slice none 0 0],z]) (by simp [results,Tryz.results13,go_sem,d0,d1]) rfl ?_
  exact⟨hz,F1,rfl,((hD1.set nB1 _ _).set nB1 _ _).ext ((Below.refl _ _).alloc (zN _) _),((((Upd.of_ext hb0).trans hU1).setCell (.inr (zN _)) _ _).setCell (.inr (zN _)) _ _).alloc _⟩
|some S =>
  unfold OpP at HO
  go_enter Tryz.func13,Tryz.ntmps13
  go_wp2_with fail
  rw [<-HW0.out]
  refine HO.out.mono ?_;rintro e w1 ⟨hz,q,a1,k1,F1,rfl,hP1,hU1,hs1,hap1,hok,hst,hcap,hq⟩
  subst hz
  have hB1:=hB0.stay (hU1.block _ hlt nB)
  have nB1:¬ F1 w.heap.size:=fun e=>by
   rcases hU1.new _ e with e|e
   ·exact nB e
   ·omega
  obtain⟨n1,hn1⟩:∃ n,L.length=n:=⟨_,rfl⟩
  have HN1:=zH hn1
  rw [hn1] at hs1 ⊢
  clear hn1
  obtain⟨x0,x1⟩:=hB1.cells
  have f0:=SBox.frz hB1 0
  have f1:=SBox.frz hB1 1
  have hlt1:=za_a hB1
  have hT2:=SBox.new w1 c (.slice a1 n1 k1)
  go_wp2_with fail
  obtain⟨W2,hW2⟩:∃ W2,W2=w1.alloc (.cells #[c,.slice a1 n1 k1] 44):=⟨_,rfl⟩
  have hb2:Below w1.heap.size w1 W2:=by rw [hW2];exact (Below.refl _ _).alloc (zN _) _
  rw [<-hW2] at hT2
  rw [<-hW2]
  clear hW2 x0 x1 f0 f1
  have hB2:=hB1.ext hb2
  obtain⟨x0,x1⟩:=hB2.cells
  obtain⟨x2,x3⟩:=hT2.cells
  have f0:=SBox.frz hB2 0
  have f1:=SBox.frz hB2 1
  go_region
  go_wp2_with fail
  refine ret3 rfl rfl rfl (SBox.set2 hB2 c (.slice a1 n1 k1)) rfl rfl ?_
  obtain rfl:=HN1.out
  have hdr:=fun W:World=>Below.drew (Below.refl W.heap.size W)
  exact⟨rfl,q,a1,k1,F1,rfl,(((hP1.ext hb2).set nB1 _ _).set nB1 _ _).ext (hdr _),(((((Upd.of_ext hb0).trans hU1).ext hb2).setCell (.inr (zN _)) _ _).setCell (.inr (zN _)) _ _).drew,((hs1.ext hb2).setOldS hB2 0 1 _ _).ext (hdr _),hap1,hok,hst,hcap,Nat.le_trans hb0.size hq⟩
end
section
open Go.RowKit
open Disk (Dk)
variable {fc fn g m q s:Nat} {d:Dk} {w:World} {F:Nat->Prop} {S:Reg.St} {fa:Option Addr} {L:Wal.L}
theorem PS.open (h:PS g q S d F w):∃ F0 p s m fa fn fc,F=P1 (P1 F0 p) q/\WD F0 w p g s m fa fn fc S.log d/\SB w q g p S/\¬ P1 F0 p q:=by
 obtain⟨F0,p,rfl,⟨s,m,fa,fn,fc,h1⟩,h2,h3,h4,h5,h6⟩:=h
 exact⟨F0,p,s,m,fa,fn,fc,rfl,⟨h1,h2,h3⟩,h4,fun e=>e.elim h5 h6⟩
theorem PS.make {p:Nat} {F0:Nat->Prop} (h:WD F0 w p g s m fa fn fc L d) (hs:SB w q g p S) (hl:S.log=L) (hn:¬ P1 F0 p q):PS g q S d (P1 (P1 F0 p) q) w :=
 ⟨F0,p,rfl,⟨s,m,fa,fn,fc,h.disk⟩,hl ▸ h.log,h.apart,hs,fun e=>hn (.inl e),fun e=>hn (.inr e)⟩
theorem WD.stay' {w':World} (h:WD F w q g s m fa fn fc L d) (k:∀ b,P1 F q b->w'.heap[b]?=w.heap[b]?) (hz:w.heap.size<=w'.heap.size):WD F w' q g s m fa fn fc L d :=
 ⟨h.disk.stay (fun b hb=>k b (.inl hb)) hz,h.log.same (k q (.inr rfl)),h.apart⟩
theorem WD.set (h:WD F w q g s m fa fn fc L d) {b:Nat} (hb:¬ P1 F q b) (o:Nat) (v:Value):WD F (w.setCell (b o) v) q g s m fa fn fc L d :=
 h.stay' (fun k hk=>heap_setCell_other _ _ _ _ (by rintro rfl;exact hb hk)) (by simp)
set_option maxRecDepth 100000 in
set_option maxHeartbeats 8000000 in
theorem zi_p {n:Nat} {S':Reg.St} {d':Dk} (h:PS g q S d F w) (hok:Reg.Ok n S) (u:UpdV) (hu:u.p.h.length<=900) {z:Int} (hr:Reg.append S d u=(z,S',d')) :
 Calls Tryz.prog 17 #[.pointer q,uv u] w fun e w'=>e=.returned (z:Value)/\∃ F',PS g q S' d' F' w'/\Upd F w F' w':=by
 have hb0:=(Below.refl w.heap.size w).alloc (zN _) (.cells #[u.k,.string (str u.p.h),.bool u.p.s,u.p.x] 36)
 have hU0:=UBox.new w u.k (str u.p.h) u.p.s u.p.x
 obtain⟨W0,hW0⟩:∃ W0,W0=w.alloc (.cells #[u.k,.string (str u.p.h),.bool u.p.s,u.p.x] 36):=⟨_,rfl⟩
 have HW0:=zH hW0
 rw [<-hW0] at hb0 hU0
 clear hW0
 have h0:=h.ext hb0
 obtain⟨F0,p,s,m,fa,fn,fc,rfl,hW,hS,hnq⟩:=h0.open
 have HF:=zH (zb_x hS)
 unfold Reg.append at hr
 unfold uv uc
 by_cases hfl:S.fl=true
 ·rw [if_pos hfl] at hr
  cases hr
  rw [hfl] at HF
  go_enter Tryz.func17,Tryz.ntmps17
  go_wp2_with fail
  rw [<-HW0.out]
  refine HF.out.mono ?_;rintro e w1 ⟨rfl,rfl⟩
  go_wp2_with fail
  go_ret
  exact⟨rfl,_,h0,Upd.of_ext hb0⟩
 ·rw [if_neg hfl] at hr
  have hfl':S.fl=false:=by simpa using hfl
  rw [hfl'] at HF
  have HEN:=zH (zo_z u hu W0)
  unfold UEncP uv uc at HEN
  obtain⟨y3,y4,y5,y6⟩:=hU0.cells
  by_cases hv:Upt.valid u=false
  ·rw [if_pos hv] at hr
   cases hr
   rw [hv] at HEN
   go_enter Tryz.func17,Tryz.ntmps17
   go_wp2_with fail
   rw [<-HW0.out]
   refine HF.out.mono ?_;rintro e w1 ⟨rfl,rfl⟩
   go_wp2_with fail
   refine HEN.out.mono ?_;rintro e w2 ⟨v2,rfl,hO2,hb2⟩
   go_wp2_with fail
   go_ret
   exact⟨rfl,_,h0.ext hb2,Upd.of_ext (hb0.trans (hb2.mono hb0.size))⟩
  ·rw [if_neg hv] at hr
   have hv':Upt.valid u=true:=by simpa using hv
   rw [hv'] at HEN
   rcases hwa:Wal.append S.log d (Upt.enc u) with⟨z1,L1,d1⟩
   rw [hwa] at hr
   dsimp only at hr
   have hfits:=hok.log.fits
   go_enter Tryz.func17,Tryz.ntmps17
   go_wp2_with fail
   rw [<-HW0.out]
   refine HF.out.mono ?_;rintro e w1 ⟨rfl,rfl⟩
   go_wp2_with fail
   refine HEN.out.mono ?_;rintro e w2 ⟨v2,rfl,hO2,hb2⟩
   obtain⟨a2,c2,rfl,hs2,-⟩:=hO2.sl
   have hS2:=hS.ext hb2
   have k16:=hS2.log
   have HAP:=zH (zp_b (hW.ext hb2) hfits a2 _ c2 (Upt.enc u) hs2 hwa)
   go_wp2_with fail
   refine HAP.out.mono ?_;rintro e w3 ⟨rfl,F1,hW3,hU3⟩
   have hlt2:=hS2.lt
   have hnq1:¬ P1 F1 p q:=fun e=>by
    rcases hU3.new q e with e|e
    ·exact hnq e
    ·omega
   have hS3:=(hS2.same (hU3.block q hlt2 hnq)).reLog L1
   have hV3:Upd (P1 (P1 F0 p) q) w (P1 (P1 F1 p) q) w3:=(Upd.of_ext (hb0.trans (hb2.mono hb0.size))).trans (hU3.beside q)
   by_cases h11:z1=11
   ·subst h11
    rw [if_pos rfl] at hr
    cases hr
    go_wp2_with fail
    go_ret
    exact⟨rfl,_,PS.make hW3 hS3 rfl hnq1,hV3⟩
   ·rw [if_neg h11] at hr
    have t1:(z1 == 11)=false:=by simpa using h11
    have HFL:=zH (zj_y hS3 z1)
    by_cases hz1:z1=0
    ·subst hz1
     rw [if_neg (by simp)] at hr
     rcases hsy:Wal.sync L1 d1 with⟨z2,L2,d2⟩
     rw [hsy] at hr
     dsimp only at hr
     clear t1
     go_wp2_with fail
     refine HFL.out.mono ?_;rintro e w4 ⟨rfl,hw4,hS4⟩
     have hW4:WD F1 w4 p g s m fa fn fc L1 d1:=by rw [hw4];exact hW3.set hnq1 17 _
     have hV4:Upd (P1 (P1 F0 p) q) w (P1 (P1 F1 p) q) w4:=by rw [hw4];exact hV3.setCell (.inl (.inr rfl)) _ _
     have k16:=hS4.log
     have HSY:=zH (zt_c hW4 hsy)
     clear hw4
     go_wp2_with fail
     refine HSY.out.mono ?_;rintro e w5 ⟨rfl,hW5,hU5⟩
     have hS5:=(hS4.same (hU5.block q hS4.lt hnq1)).reLog L2
     have hV5:=hV4.trans (hU5.beside q)
     have HFL2:=zH (zj_y hS5 z2)
     go_wp2_with fail
     refine HFL2.out.mono ?_;rintro e w6 ⟨rfl,hw6,hS6⟩
     have hW6:WD F1 w6 p g s m fa fn fc L2 d2:=by rw [hw6];exact hW5.set hnq1 17 _
     have hV6:Upd (P1 (P1 F0 p) q) w (P1 (P1 F1 p) q) w6:=by rw [hw6];exact hV5.setCell (.inl (.inr rfl)) _ _
     clear hw6
     go_wp2_with fail
     go_ret
     cases hr
     refine⟨rfl,_,PS.make hW6 ?_ rfl hnq1,hV6⟩
     rw [hfl'] at hS6
     have e6:((false || (0:Int) != 0) || z != 0)=decide (z ≠ 0):=by
      by_cases h2:z=0
      ·subst h2;rfl
      ·simp [h2]
     rw [e6] at hS6
     exact hS6
    ·rw [if_pos hz1] at hr
     cases hr
     have t2:(z == 0)=false:=by simpa using hz1
     have t3:(z != 0)=true:=by simpa using hz1
     go_wp2_with fail
     refine HFL.out.mono ?_;rintro e w4 ⟨rfl,hw4,hS4⟩
     have hW4:WD F1 w4 p g s m fa fn fc L1 d':=by rw [hw4];exact hW3.set hnq1 17 _
     have hV4:Upd (P1 (P1 F0 p) q) w (P1 (P1 F1 p) q) w4:=by rw [hw4];exact hV3.setCell (.inl (.inr rfl)) _ _
     clear hw4
     go_wp2_with fail
     go_ret
     refine⟨rfl,_,PS.make hW4 ?_ rfl hnq1,hV4⟩
     rw [t3,Bool.or_true] at hS4
     exact hS4
end
section
open Go.RowKit
open Disk (Dk)
variable {F0:Nat->Prop} {W:World} {bl k:Nat} {S:Reg.St} {b:List UInt8} {d:Dk}
theorem enters6:Enters 65:=fun _ _=>by kernel_rfl
theorem enters7:Enters 67:=fun _ _=>by kernel_rfl
theorem Upd.side {F1:Nat->Prop} {w:World} (u:Upd (P1 F0 bl) W (P1 F1 bl) w) (h1:¬ F0 k) (h2:k ≠ bl) (h3:k < W.heap.size):w.heap[k]?=W.heap[k]?/\¬ F1 k :=
 ⟨u.block k h3 (fun e=>e.elim h1 h2),fun e=>by
  rcases u.new k (.inl e) with e|e
  ·exact e.elim h1 h2
  ·omega⟩
def Reg.comp4 (S:Reg.St) (b:List UInt8) (L:Wal.L) (r:Int × Dk):Int × Reg.St × Dk :=
 if r.1 ≠ 0 then (r.1,{ S with fl:=true },r.2) else (0,{ S with slot:=1 - S.slot,sup:=Reg.next S b,log:=L },r.2)
theorem Reg.compact3_ok {L:Wal.L} {ps:List (List UInt8)}:Reg.compact3 S b (some L,ps,0,d)=Reg.comp4 S b L (Reg.run [fun d=>Disk.write d ((1 - S.slot:Nat):Int) (Super.enc (Reg.next S b)),Disk.sync] d):=by
 unfold Reg.compact3 Reg.comp4
 rw [if_neg (by simp)]
 rfl
def CPhi (g bl:Nat) (S:Reg.St) (b:List UInt8) (r:Nat) (F0:Nat->Prop) (W:World) (T:Int × Reg.St × Dk) (i:Nat) (w:World):Prop :=
 ∃ d1 F1 lv,DP g d1 F1 w/\Upd (P1 F0 bl) W (P1 F1 bl) w/\¬ F1 bl/\Bx w bl 106 lv/\d1.st.length<=1000 ∧
  ((i<=3/\Reg.compact2 S b (Reg.run ((Reg.prep S.lay r b).drop i) d1)=T) ∨
   (4<=i/\∃ L p,lv=.pointer (p:Nat)/\LB w p g L/\¬ F1 p/\W.heap.size<=p/\Reg.comp4 S b L (Reg.run ([fun d=>Disk.write d ((1 - S.slot:Nat):Int) (Super.enc (Reg.next S b)),Disk.sync].drop (i - 4)) d1)=T))
def CPost (g bl:Nat) (S:Reg.St) (b:List UInt8) (F0:Nat->Prop) (W:World) (T:Int × Reg.St × Dk) (y:Int) (w:World):Prop :=
 y=T.1/\∃ F1 lv,DP g T.2.2 F1 w/\Upd (P1 F0 bl) W (P1 F1 bl) w/\¬ F1 bl/\Bx w bl 106 lv ∧
  ((T.1 ≠ 0/\T.2.1={ S with fl:=true })\/(T.1=0/\∃ L p,lv=.pointer (p:Nat)/\LB w p g L/\¬ F1 p/\W.heap.size<=p/\T.2.1={ S with slot:=1 - S.slot,sup:=Reg.next S b,log:=L }))
theorem zo_h {g q p N bs bn bu br B r n:Nat} {a:Option Addr} {m K:Nat} {t:TypeId} {T:Int × Reg.St × Dk} (hok:Reg.Ok n S) (hB:∀ k,F0 k->k < B) (hn:d.st.length<=1000)
 (h1:B<=bs) (h2:B<=bn) (h3:B<=bl) (h4:B<=bu) (h5:B<=br) (h6:B<=N) (h7:B<=K) (h8:∀ y,a=some y->B<=y.block) (e1:bs ≠ bl) (e2:bn ≠ bl) (e4:bu ≠ bl) (e5:br ≠ bl) (e6:∀ i,i < 4->N+i ≠ bl) (e7:K ≠ bl) (e8:∀ y,a=some y->y.block ≠ bl) (e9:q ≠ bl)
 (row:W.heap[br]?=some (.cells #[prep1 N,prep2 N,syncv g,.func (.func 65) #[] #[.pointer bs,.pointer bn,.pointer bl],.func (.func 67) #[] #[.pointer bs,.pointer bu],syncv g] t (0,0)))
 (hp:PB W N g S.lay r (.slice a m k)) (hxs:Bx W bs 41 (.pointer q)) (hq:SB W q g p S) (hqF:¬ F0 q) (hxn:SupBox W bn (Reg.next S b)) (hxl:Bx W bl 106 (.pointer none)) (hu:Bx W bu 70 (.slice K 64 64))
 (hs:SlB W a m k b) (hK:SlB W K 64 64 (Super.enc (Reg.next S b))) (hd:DP g d F0 W) (hr2:r < 2) (hact:(Reg.next S b).act=(r:Int)) (hep:(Reg.next S b).epoch < 4294967296)
 (hT:Reg.compact2 S b (Reg.run (Reg.prep S.lay r b) d)=T) :
 Calls Tryz.prog 50 #[.slice br 6 6] W fun e w'=>∃ y:Int,e=.returned (y:Value)/\CPost g bl S b F0 W T y w':=by
 have nF:∀ x,B<=x->¬ F0 x:=fun x hx e=>by have:=hB x e;omega
 have hbr:br < W.heap.size:=za_a row
 obtain⟨i1,i3,i2,i4,mm,hm,hsz,hsz2⟩:=zk_y hok.fit r hr2
 rw [<-hok.lay] at i1 i2 i3 i4 hsz hsz2
 refine zr_i 6 (by omega) br (fun i=>(#[prep1 N,prep2 N,syncv g,.func (.func 65) #[] #[.pointer bs,.pointer bn,.pointer bl],.func (.func 67) #[] #[.pointer bs,.pointer bu],syncv g]:Array Value)[i]?.getD undef) (CPhi g bl S b r F0 W T) (CPost g bl S b F0 W T) ?_ ?_ ?_ W ⟨d,F0,_,hd,Upd.refl _ _,nF _ h3,hxl,hn,.inl ⟨by omega,hT⟩⟩
 ·rintro i w hi ⟨d1,F1,lv,-,u,-⟩
  refine⟨Nat.lt_of_lt_of_le hbr u.size,?_⟩
  have hb:=(u.side (nF _ h5) e5 hbr).1.trans row
  rw [cell_of_row _ _ _ _ _ _ hb,Array.getElem?_eq_getElem (by simpa using hi)]
  rfl
 ·rintro i w hi ⟨d1,F1,lv,hd1,u,nbl,hl1,hn1,hcase⟩
  have hlt1:=hl1.lt
  have step:∀ (f:Dk->Int × Dk) (fs:List (Dk->Int × Dk)),i<=2->(Reg.prep S.lay r b).drop i=f :: fs->fs=(Reg.prep S.lay r b).drop (i+1)->Reg.compact2 S b (Reg.run ((Reg.prep S.lay r b).drop i) d1)=T->(f d1).2.st.length=d1.st.length->∀ (e:Ending) (w':World),(e=.returned (.int .i64 (f d1).1)/\∃ F2,DP g (f d1).2 F2 w'/\Upd F1 w F2 w') →
   ∃ z:Int,e=.returned (z:Value)/\((z=0/\CPhi g bl S b r F0 W T (i+1) w')\/(z ≠ 0/\CPost g bl S b F0 W T z w')):=by
   rintro f fs hi2 hf hfs hrun hlen e w' ⟨rfl,F2,h1,h2⟩
   refine⟨_,rfl,?_⟩
   have u2:=u.trans (h2.beside bl)
   have n2:¬ F2 bl:=fun e=>by
    rcases h2.new _ e with e|e
    ·exact nbl e
    ·omega
   have hl2:=hl1.same (h2.block _ hlt1 nbl)
   rcases hfd:f d1 with⟨y,d2⟩
   rw [hfd] at h1 hlen
   rw [hf] at hrun
   by_cases hy:y=0
   ·subst hy
    rw [Reg.run_ok hfd,hfs] at hrun
    exact .inl ⟨rfl,d2,F2,lv,h1,u2,n2,hl2,by dsimp only at hlen;omega,.inl ⟨by omega,hrun⟩⟩
   ·rw [Reg.run_er hfd hy] at hrun
    have hT2:T=(y,{ S with fl:=true },d2):=by rw [<-hrun];exact if_pos hy
    subst hT2
    exact .inr ⟨hy,rfl,F2,lv,h1,u2,n2,hl2,.inl ⟨hy,rfl⟩⟩
  have stepL:∀ (f:Dk->Int × Dk) (fs:List (Dk->Int × Dk)) (L:Wal.L) (p':Nat),4<=i->lv=.pointer p'->LB w p' g L->¬ F1 p'->W.heap.size<=p' →
   ([fun d=>Disk.write d ((1 - S.slot:Nat):Int) (Super.enc (Reg.next S b)),Disk.sync]:List (Dk->Int × Dk)).drop (i - 4)=f :: fs->fs=([fun d=>Disk.write d ((1 - S.slot:Nat):Int) (Super.enc (Reg.next S b)),Disk.sync]:List (Dk->Int × Dk)).drop (i+1 - 4) →
   Reg.comp4 S b L (Reg.run (([fun d=>Disk.write d ((1 - S.slot:Nat):Int) (Super.enc (Reg.next S b)),Disk.sync]:List (Dk->Int × Dk)).drop (i - 4)) d1)=T->(f d1).2.st.length=d1.st.length->∀ (e:Ending) (w':World),(e=.returned (.int .i64 (f d1).1)/\∃ F2,DP g (f d1).2 F2 w'/\Upd F1 w F2 w') →
   ∃ z:Int,e=.returned (z:Value)/\((z=0/\CPhi g bl S b r F0 W T (i+1) w')\/(z ≠ 0/\CPost g bl S b F0 W T z w')):=by
   rintro f fs L p' hi4 hlv hL hp' hWp hf hfs hrun hlen e w' ⟨rfl,F2,h1,h2⟩
   refine⟨_,rfl,?_⟩
   have u2:=u.trans (h2.beside bl)
   have n2:¬ F2 bl:=fun e=>by
    rcases h2.new _ e with e|e
    ·exact nbl e
    ·omega
   have hl2:=hl1.same (h2.block _ hlt1 nbl)
   have hL2:=hL.same (h2.block _ hL.lt hp')
   have hp2:¬ F2 p':=fun e=>by
    rcases h2.new _ e with e|e
    ·exact hp' e
    ·have:=hL.lt;omega
   rcases hfd:f d1 with⟨y,d2⟩
   rw [hfd] at h1 hlen
   rw [hf] at hrun
   by_cases hy:y=0
   ·subst hy
    rw [Reg.run_ok hfd,hfs] at hrun
    exact .inl ⟨rfl,d2,F2,lv,h1,u2,n2,hl2,by dsimp only at hlen;omega,.inr ⟨by omega,L,p',hlv,hL2,hp2,hWp,hrun⟩⟩
   ·rw [Reg.run_er hfd hy] at hrun
    have hT2:T=(y,{ S with fl:=true },d2):=by rw [<-hrun];exact if_pos hy
    subst hT2
    exact .inr ⟨hy,rfl,F2,lv,h1,u2,n2,hl2,.inl ⟨hy,rfl⟩⟩
  have kp:∀ x,B<=x->x ≠ bl->x < W.heap.size->w.heap[x]?=W.heap[x]?/\¬ F1 x:=fun x hx hne hlt=>u.side (nF x hx) hne hlt
  match i,hi,hcase with
 |0,_,hcase =>
   rcases hcase with⟨-,hrun⟩|⟨h,-⟩
   ·refine⟨_,_,_,rfl,enters1,?_⟩
    have s1:SlB w a m k b:=hs.stay (fun y hy hx=>(kp _ (h8 y hy) (e8 y hy) (by subst hy;exact hs.blt hx)).1) u.size
    refine (zl_f hr2 (hp.stay fun j hj=>(kp _ (by omega) (e6 j hj) (by have:=hp.lt;omega)).1) hd1 s1 (fun y hy hx=>(kp _ (h8 y hy) (e8 y hy) (by subst hy;exact hs.blt hx)).2) i1 i2 rfl).mono fun e w' he=>?_
    exact step _ _ (by omega) rfl rfl hrun (Extent.write_st _ _ _ _ _) e w' he
   ·omega
 |1,_,hcase =>
   rcases hcase with⟨-,hrun⟩|⟨h,-⟩
   ·refine⟨_,_,_,rfl,enters2,?_⟩
    refine (zl_g hr2 (hp.stay fun j hj=>(kp _ (by omega) (e6 j hj) (by have:=hp.lt;omega)).1) hd1 (fun j hj=>(kp _ (by omega) (e6 j hj) (by have:=hp.lt;omega)).2) i3 i4 hm hsz rfl).mono fun e w' he=>?_
    have st:=step (fun d=>Extent.write d (S.lay.lf r) S.lay.lc 0 (List.replicate mm 0)) [Disk.sync] (by omega) (by rw [<-hsz2];rfl) rfl hrun (Extent.write_st _ _ _ _ _) e w'
    exact st he
   ·omega
 |2,_,hcase =>
   rcases hcase with⟨-,hrun⟩|⟨h,-⟩
   ·refine⟨_,_,_,rfl,enters3,(hd1.sync rfl).mono fun e w' he=>?_⟩
    exact step Disk.sync [] (by omega) rfl rfl hrun (Disk.sync_len _) e w' ⟨he.1,_,he.2⟩
   ·omega
 |3,_,hcase =>
   rcases hcase with⟨-,hrun⟩|⟨h,-⟩
   ·rw [show (Reg.prep S.lay r b).drop 3=[] from rfl,Reg.run_nil] at hrun
    unfold Reg.compact2 at hrun
    rw [if_neg (by simp)] at hrun
    dsimp only at hrun
    have ea:(1 - S.sup.act).toNat=r:=by
     have:(1 - S.sup.act)=(r:Int):=hact
     omega
    rw [ea] at hrun
    rcases hwo:Wal.open d1 (S.lay.lf r) S.lay.lc (Reg.next S b).epoch with⟨lo,ps,z3,d3⟩
    have hwo2:Wal.open d1 (S.lay.lf r) S.lay.lc ((S.sup.epoch+1) % 4294967296)=(lo,ps,z3,d3):=hwo
    rw [hwo2] at hrun
    refine⟨_,_,_,rfl,enters6,?_⟩
    refine (zj_w hr2 hact (hxs.same (kp _ h1 e1 hxs.lt).1) (hq.same (u.side hqF e9 hq.lt).1) (show SupBox w bn (Reg.next S b) from (kp _ h2 e2 (za_a hxn)).1.trans hxn) hl1 hd1 nbl (kp _ h1 e1 hxs.lt).2 (kp _ h2 e2 (za_a hxn)).2 (u.side hqF e9 hq.lt).2 (Ne.symm e1) (Ne.symm e2) (Ne.symm e9) i3 i4 hep hn1 hwo).mono ?_
    rintro e w' ⟨rfl,pv,w1,F2,rfl,g1,g2,g3⟩
    refine⟨_,rfl,?_⟩
    have n2:¬ F2 bl:=fun e=>by
     rcases g2.new _ e with e|e
     ·exact nbl e
     ·omega
    have hl2:Bx (w1.setCell bl pv) bl 106 pv:=heap_setCell_same _ _ _ _ _ _ (hl1.same (g2.block _ hlt1 nbl))
    have u2:=(u.trans (g2.beside bl)).setCell (g:=bl) (.inl (.inr rfl)) 0 pv
    have n3:d3.st.length<=1000:=by have:=Wal.open_st d1 (S.lay.lf r) S.lay.lc (Reg.next S b).epoch;rw [hwo] at this;dsimp only at this;omega
    by_cases hz3:z3=0
    ·subst hz3
     obtain⟨L,hL⟩:=Wal.open_some (d:=d1) (f:=S.lay.lf r) (c:=S.lay.lc) (ep:=(Reg.next S b).epoch) (by rw [hwo])
     rw [hwo] at hL
     dsimp only at hL
     subst hL
     rw [Reg.compact3_ok] at hrun
     rcases g3 with⟨h,-⟩|⟨L',p',hL',hpv,hpw,hLB,hpF⟩
     ·cases h
     ·cases hL'
      refine .inl ⟨rfl,d3,F2,pv,g1.set n2 _ _,u2,n2,hl2,n3,.inr ⟨by omega,L,p',hpv,hLB.same (heap_setCell_other _ _ _ _ (by rintro rfl;omega)),hpF,Nat.le_trans u.size hpw,hrun⟩⟩
    ·have hT2:T=(z3,{ S with fl:=true },d3):=by rw [<-hrun];exact if_pos hz3
     subst hT2
     exact .inr ⟨hz3,rfl,F2,pv,g1.set n2 _ _,u2,n2,hl2,.inl ⟨hz3,rfl⟩⟩
   ·omega
 |4,_,hcase =>
   rcases hcase with⟨h,-⟩|⟨-,L,p',hlv,hL,hp',hWp,hrun⟩
   ·omega
   ·refine⟨_,_,_,rfl,enters7,?_⟩
    have s1:SlB w K 64 64 (Super.enc (Reg.next S b)):=hK.stay (fun y hy hx=>by cases hy;exact (kp _ h7 e7 (hK.blt hx)).1) u.size
    refine (zj_x (hxs.same (kp _ h1 e1 hxs.lt).1) (hq.same (u.side hqF e9 hq.lt).1) (hu.same (kp _ h4 e4 hu.lt).1) hd1 hok.slot s1 (fun y hy hx=>by cases hy;exact (kp _ h7 e7 (hK.blt hx)).2) rfl).mono fun e w' he=>?_
    exact stepL _ _ L p' (by omega) hlv hL hp' hWp rfl rfl hrun (congrArg List.length (Disk.write_st _ _ _)) e w' he
 |5,_,hcase =>
   rcases hcase with⟨h,-⟩|⟨-,L,p',hlv,hL,hp',hWp,hrun⟩
   ·omega
   ·refine⟨_,_,_,rfl,enters3,(hd1.sync rfl).mono fun e w' he=>?_⟩
    exact stepL Disk.sync [] L p' (by omega) hlv hL hp' hWp rfl rfl hrun (Disk.sync_len _) e w' ⟨he.1,_,he.2⟩
 |i+6,hi,_=>omega
 ·rintro w ⟨d1,F1,lv,hd1,u,nbl,hl1,hn1,hcase⟩
  rcases hcase with⟨h,-⟩|⟨-,L,p',hlv,hL,hp',hW,hrun⟩
  ·omega
  ·have:([fun d=>Disk.write d ((1 - S.slot:Nat):Int) (Super.enc (Reg.next S b)),Disk.sync]:List (Dk->Int × Dk)).drop (6 - 4)=[]:=rfl
   rw [this,Reg.run_nil] at hrun
   unfold Reg.comp4 at hrun
   rw [if_neg (by simp)] at hrun
   subst hrun
   exact⟨rfl,F1,lv,hd1,u,nbl,hl1,.inr ⟨rfl,L,p',hlv,hL,hp',hW,rfl⟩⟩
end
end Go.Proofs.YtmanejniepghlaaGreatDoor
