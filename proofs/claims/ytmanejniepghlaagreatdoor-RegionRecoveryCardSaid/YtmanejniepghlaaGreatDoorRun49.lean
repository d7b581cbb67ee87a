import Derived.Test.YtmanejniepghlaaGreatDoorRun48
import Derived.Test.YtmanejniepghlaaGreatDoorRun30
import Derived.Test.YtmanejniepghlaaGreatDoorRun39
import Derived.Deep.RegionHeld3
import Derived.Test.YtmanejniepghlaaGreatDoorRun31
namespace Go.Proofs.YtmanejniepghlaaGreatDoor
section
open Go.RowKit
set_option maxRecDepth 100000
variable {w w':World} {cb fc fn g q sb sc:Nat} {L L':Wal.L} {F:Nat->Prop} {fa:Option Addr} {d d':Disk.Dk} {z:Int}
def RLB (w:World) (q g:Nat) (L:Wal.L):Prop :=
 w.heap[q]?=some (.cells #[.pointer g,L.f,L.c,.int .u32 (L.ep:Nat),.int .i64 (L.en:Nat),.int .i64 (L.rc:Nat),.int .i64 (L.sy:Nat),.bool L.fl] 181 (0,0))
theorem RLB.lt (h:RLB w q g L):q < w.heap.size:=za_a h
theorem RLB.same (h:RLB w q g L) (e:w'.heap[q]?=w.heap[q]?):RLB w' q g L:=e.trans h
theorem RLB.ext (h:RLB w q g L) (e:Below w.heap.size w w'):RLB w' q g L:=h.same (e.block _ h.lt)
structure RW (F:Nat->Prop) (w:World) (q g sb cb sc:Nat) (fa:Option Addr) (fn fc:Nat) (L:Wal.L) (d:Disk.Dk):Prop where
 disk:RD F w g sb cb sc fa fn fc d
 log:RLB w q g L
 apart:¬ F q
end
section
open Go.RowKit
def RWOpenPost (F:Nat->Prop) (w:World) (g sb cb sc:Nat) (fa:Option Addr) (fn fc:Nat) (r:Option Wal.L × List (List UInt8) × Int × Disk.Dk) (e:Ending) (w':World):Prop :=
 match r with
|(none,_,z,d')=>e=.returned (.tuple #[.pointer none,.slice none 0 0,z])/\∃ F',RD F' w' g sb cb sc fa fn fc d'/\Upd F w F' w'
|(some L,ps,z,d')=>∃ F' q v,e=.returned (.tuple #[.pointer (q:Nat),v,z])/\w.heap.size<=q/\OwnL w.heap.size w' v ps/\RW F' w' q g sb cb sc fa fn fc L d'/\Upd F w F' w'
theorem zo_n (n:Nat) (hn:n<=1000000) (w:World):∃ w' c,Sem.run Tryz.prog (Instr.makeSlice 70 (n:Value) (n:Value)) w=.ok (Value.slice w.heap.size n c) w'/\SlB w' w.heap.size n c (List.replicate n 0)/\Below w.heap.size w w':=by
 obtain⟨i0,hi,hz0,hz1,hz2⟩:=info_parts info5
 obtain⟨w',hrun,r1,r2⟩:=run_make_full (P:=Tryz.prog) w w.heap.size 70 5 i0 (.int .u8 0) 1 Tryz.underlying70 hi hz0 hz1 .i64 .i64 n (by rw [hz2];omega) (by unfold maxLen;omega) (zN _)
 rw [madeB n] at r1
 have hO:OwnB w.heap.size w' (.slice w.heap.size n n) (List.replicate n 0):=by unfold OwnB;rw [List.length_replicate];exact r1
 obtain⟨a,c,e,hs,-⟩:=hO.sl
 rw [List.length_replicate] at e hs
 refine⟨w',n,hrun,?_,(Below.refl _ _).grown r2 (zN _) (fun k hk=>by cases hk)⟩
 cases e;exact hs
set_option maxRecDepth 100000 in
set_option maxHeartbeats 8000000 in
theorem zs_n {F:Nat->Prop} {w:World} {g sb cb sc:Nat} {fa:Option Addr} {fn fc:Nat} {d:Disk.Dk} (h:RD F w g sb cb sc fa fn fc d) (f c:Int) (hf:ib f) (hc:ib c) (ep:Nat) (hep:ep < 4294967296) (hn:d.st.length<=1000) :
 Calls Tryz.prog 83 #[.pointer g,.agg #[f,c],.int .u32 (ep:Nat)] w (RWOpenPost F w g sb cb sc fa fn fc (Wal.open d f c ep)):=by
 have hb:=(Below.refl _ w).alloc (zN _) (.cells #[f,c] 23)
 have HV:=zH (zl_d (h.ext ((Below.refl _ w).alloc (zN _) (.cells #[f,c] 23))) f c)
 have hbox:XBox (w.alloc (.cells #[f,c] 23)) w.heap.size f c:=za_b _ _ _ rfl
 have hbz:(w.alloc (.cells #[f,c] 23)).heap.size=w.heap.size+1:=by simp
 obtain⟨b,z,d1,hr⟩:∃ b z d1,Extent.read d f c 0 (Extent.size c)=(b,z,d1):=⟨_,_,_,rfl⟩
 obtain⟨vb,hvb⟩:∃ vb,Extent.valid d.st.length f c=vb:=⟨_,rfl⟩
 rw [hvb] at HV
 cases vb with
|false =>
  have hz1:Extent.read d f c 0 (Extent.size c)=([],1,d):=by
   unfold Extent.read Extent.check
   rw [hvb];simp
  have HO:=zH (Wal.open_e1 (ep:=ep) hz1 (by decide))
  clear hz1 hvb hr
  go_enter Tryz.func83,Tryz.ntmps83
  go_wp2_with (go_at_call 138;go_must (refine HV.out.mono ?_);rintro e1 w1 ⟨rfl,hb1⟩)
  go_ret3
  rw [HO.out]
  have hB:=hb.trans (hb1.mono (by rw [hbz];exact Nat.le_succ _))
  exact⟨rfl,F,h.ext hB,Upd.of_ext hB⟩
|true =>
  clear hvb
  have HSZ:=zH (fun W=>zj_u f c hc W)
  have HRE:=zH (fun W (e:Below w.heap.size w W)=>by
   have:=zo_f (h.ext e) f c 0 (Extent.size c) hf hc ⟨by decide,by decide⟩ (zk_d c)
   unfold RExReadPost at this;rw [hr] at this;exact this)
  have HRD:=zH hr
  obtain⟨sz,hsz⟩:∃ sz,Extent.size c=sz:=⟨_,rfl⟩
  have HSE:=zH hsz
  rw [hsz] at HSZ HRE
  have hlt:=h.lt
  have hRX:=zH (fun hz:z=0=>Wal.read_all h.ok hn (by rw [hr,hz]))
  clear hr hsz
  have q0:=hbox.cells.1
  by_cases hz:z=0
  ·subst hz
   obtain⟨r1,r2,r3⟩:=hRX.out rfl
   obtain⟨en,hen⟩:∃ en,en=(Frame.scan b ep).2:=⟨_,rfl⟩
   obtain⟨ps,hps⟩:∃ ps,ps=(Frame.scan b ep).1:=⟨_,rfl⟩
   have hsc:Frame.scan b ep=(ps,en):=by rw [hen,hps]
   have hle:=Frame.scan_le b ep
   rw [hsc] at hle
   obtain⟨l1,l2⟩:=hle
   simp only at l1 l2
   have HSC:=zH hsc
   obtain⟨N,hN⟩:∃ N,b.length=N:=⟨_,rfl⟩
   rw [hN] at r1 r2 l1
   have HN:=zH hN
   obtain⟨z2,d2,he⟩:∃ z2 d2,Wal.erase d1 f c en (b.drop en)=(z2,d2):=⟨_,_,rfl⟩
   have HER:=zH (show Wal.erase d1 f c (Frame.scan b ep).2 (b.drop (Frame.scan b ep).2)=(z2,d2) by rw [hsc];exact he)
   have HE:=zH he
   have HFS:=zH (fun W (a:Option Addr) (k:Nat) (hs:SlB W a N k b)=>by
    have:=zn_f a N k b ep hep W hs (by omega)
    unfold ScanPost at this;rw [hsc] at this;exact this)
   clear hsc hen hps hN he r3 hRX
   go_enter Tryz.func83,Tryz.ntmps83
   go_wp2_with (go_at_call 138;go_must (refine HV.out.mono ?_);rintro e1 w1 ⟨rfl,hb1⟩)
   have hB1:Below w.heap.size w w1:=hb.trans (hb1.mono (by rw [hbz];exact Nat.le_succ _))
   have hbx1:XBox w1 w.heap.size f c:=(hb1.block _ (by rw [hbz];exact Nat.lt_succ_self _)).trans hbox
   obtain⟨x0,x1⟩:=hbx1.cells
   go_region_held3 (fun w'=>w'.cell? w.heap.size=some (f:Value)/\w'.cell? (w.heap.size 1)=some (c:Value)) (first|exact⟨x0,x1⟩|exact⟨u0,u1⟩|exact⟨y0,y1⟩) (first
   |(go_at_call 79;go_must (refine (HSZ.out _).mono ?_);rintro e2 w2 ⟨rfl,hb2⟩;have hb2':Below w1.heap.size w1 w2:=(Below.drew (Below.refl _ _)).trans hb2;have hB2:=hB1.trans (hb2'.mono hB1.size);have hbx2:XBox w2 w.heap.size f c:=(hb2'.block _ (za_a hbx1)).trans hbx1;obtain⟨u0,u1⟩:=hbx2.cells)
   |(go_at_call 80;go_must (refine (HRE.out _ hB2).mono ?_);rintro e3 w3 ⟨v3,rfl,hO3,hP3,hU3⟩;obtain⟨g3,c3,rfl,hc3,hg3,hs3⟩:=zi_l hO3 N HN.out (by omega);have hbx3:XBox w3 w.heap.size f c:=(hU3.block _ (za_a hbx2) (fun e=>Nat.lt_irrefl _ (hlt _ e))).trans hbx2;obtain⟨y0,y1⟩:=hbx3.cells))
   go_wp2_with (go_at_call 139;go_must (refine (HFS.out _ _ _ hs3).mono ?_);rintro e4 w4 ⟨v4,rfl,hO4,hb4⟩)
   have hU4:Upd F w F w4:=((Upd.of_ext hB2).trans hU3).ext hb4
   have hP4:=hP3.ext hb4
   have hs4:=hs3.ext hb4
   have hbx4:XBox w4 w.heap.size f c:=(hb4.block _ (za_a hbx3)).trans hbx3
   have hz3':w.heap.size<=w3.heap.size:=Nat.le_trans hB2.size hU3.size
   have hF3:∀ k,F k->k < w3.heap.size:=hP3.lt
   clear hO3 hP3 hs3 hbx3 hbx2 hbx1 y0 y1 u0 u1 x0 x1 hb1 hb2 hb2' HSZ HRE HFS HV hU3 hb4
   obtain⟨x0,x1⟩:=hbx4.cells
   have hbF:¬ F w.heap.size:=fun e=>Nat.lt_irrefl _ (hlt _ e)
   have HZ:=zH (fun (k:Nat) (hk:en+k < N)=>zg_t b en k (by rw [HN.out];exact hk))
   go_loopw [13,14] (fun cl i wr=>∃ k:Nat,en+k<=N/\i=.int .i64 ((en+k:Nat):Int)/\cl=.bool (zeros ((b.drop en).take k))/\wr=w4) (fun _ i _=>N - (intOf i).toNat)
   case atStart=>exact⟨0,l1,rfl,rfl,rfl⟩
   case round =>
    obtain⟨k,hk,rfl,rfl,rfl⟩:=hrel
    by_cases hlk:en+k < N
    ·obtain⟨_,_,e5,-,-,cB⟩:=hs4.at hlk
     cases e5
     have hzz:=HZ.out k hlk
     obtain⟨zk,hzk⟩:∃ zk,zeros ((b.drop en).take k)=zk:=⟨_,rfl⟩
     obtain⟨zk1,hzk1⟩:∃ zk1,zeros ((b.drop en).take (k+1))=zk1:=⟨_,rfl⟩
     rw [hzk,hzk1] at hzz
     obtain⟨x,hx⟩:∃ x,b[en+k]?.getD 0=x:=⟨_,rfl⟩
     rw [hx] at cB hzz
     rw [hzk]
     have HK:=zH (And.intro hzz hzk1)
     obtain⟨p,hp⟩:∃ p,p=en+k:=⟨_,rfl⟩
     rw [<-hp] at hlk cB hk
     rw [Nat.zero_add] at cB
     rw [<-hp]
     have HPP:=zH hp
     have i0:(0:Int)<=(p:Int):=by omega
     have i1:(p:Int) < (N:Int):=by omega
     clear hzz hzk hzk1 hx hp
     cases zk with
    |false =>
      go_wp2
      exact⟨⟨k+1,by have:=HPP.out;omega,by have:=HPP.out;rw [show en+(k+1)=p+1 by omega];go_num,by rw [HK.out.2,HK.out.1];rfl,trivial⟩,by simp [intOf];omega⟩
    |true =>
      by_cases hx0:x=0
      ·subst hx0
       have cB0:wr.cell? _=some (.int .u8 0):=cB
       clear cB
       go_wp2
       exact⟨⟨k+1,by have:=HPP.out;omega,by have:=HPP.out;rw [show en+(k+1)=p+1 by omega];go_num,by rw [HK.out.2,HK.out.1];rfl,trivial⟩,by simp [intOf];omega⟩
      ·have tx:((x.toNat:Int) == 0)=false:=by
        apply beq_eq_false_iff_ne.2
        intro e9;exact hx0 (UInt8.toNat_inj.1 (by simpa using e9))
       have tb:(x == 0)=false:=by simpa using hx0
       have HTB:=zH tb
       clear hx0 tb
       go_wp2
       exact⟨⟨k+1,by have:=HPP.out;omega,by have:=HPP.out;rw [show en+(k+1)=p+1 by omega];go_num,by rw [HK.out.2,HK.out.1,HTB.out];rfl,trivial⟩,by simp [intOf];omega⟩
    ·have hkN:en+k=N:=by omega
     have hall:(b.drop en).take k=b.drop en:=List.take_of_length_le (by rw [List.length_drop,HN.out];omega)
     rw [hall,hkN]
     have hE2:=HE.out
     unfold Wal.erase at hE2
     obtain⟨zz,hzz⟩:∃ zz,zeros (b.drop en)=zz:=⟨_,rfl⟩
     rw [hzz] at hE2 ⊢
     clear hall hkN hzz HZ hlk hk
     cases zz with
    |true =>
      rw [if_pos rfl] at hE2
      have e1:z2=0:=(congrArg Prod.fst hE2).symm
      have e2:d2=d1:=(congrArg Prod.snd hE2).symm
      clear hE2 HE
      subst e1
      subst e2
      have hP5:=hP4
      have hU45:Upd F wr F wr:=Upd.refl _ _
      obtain⟨z3,d3,hs⟩:∃ z3 d3,Disk.sync d2=(z3,d3):=⟨_,_,rfl⟩
      have hsy:=zo_e hP5
      rw [hs] at hsy
      have HSY:=zH hsy
      by_cases hz3:z3=0
      ·subst hz3
       have HOPN:=zH (Wal.open_o HRD.out HER.out hs)
       rw [HSC.out] at HOPN
       clear hs hsy
       go_wp2_with (go_at_call 92;go_must (refine HSY.out.mono ?_);rintro e6 w6 ⟨rfl,hP6,hU6⟩;have hbx6:XBox w6 w.heap.size f c:=((hU45.trans hU6).block w.heap.size (za_a hbx4) hbF).trans hbx4;obtain⟨y0,y1⟩:=hbx6.cells;have hO6:=(hO4.keep (fun k hk hkl=>(hU45.trans hU6).block k hkl (fun e=>by have:=hF3 k e;omega))).mono hz3';obtain⟨a6,c6,rfl,hs6⟩:=hO6.sl)
       go_ret3
       rw [HOPN.out]
       have hal:Below w6.heap.size w6 (w6.alloc (.cells #[.pointer g,f,c,.int .u32 (ep:Nat),en,.int .i64 (ps.length:Nat),.int .i64 (ps.length:Nat),.bool false] 181)):=(Below.refl _ _).alloc (zN _) _
       have hU6':=hU4.trans (hU45.trans hU6)
       exact⟨F,w6.heap.size,_,rfl,hU6'.size,hO6.ext hal,⟨hP6.ext hal,za_b _ _ _ rfl,fun e=>Nat.lt_irrefl _ (hP6.lt _ e)⟩,hU6'.ext hal⟩
      ·have t3:(z3 != 0)=true:=by simpa using hz3
       have HOPN:=zH (Wal.open_e3 HRD.out HER.out hs hz3)
       clear hs hsy hz3
       go_wp2_with (go_at_call 92;go_must (refine HSY.out.mono ?_);rintro e6 w6 ⟨rfl,hP6,hU6⟩)
       go_ret3
       rw [HOPN.out]
       exact⟨rfl,F,hP6,hU4.trans (hU45.trans hU6)⟩
    |false =>
      rw [if_neg (by decide)] at hE2
      obtain⟨m,hm⟩:∃ m,(b.drop en).length=m:=⟨_,rfl⟩
      rw [hm] at hE2
      rw [List.length_drop,HN.out] at hm
      have hmi:(N:Int) - (en:Int)=(m:Int):=by omega
      have hmw:IntKind.i64.wrap (m:Int)=(m:Int):=by rw [IntKind.wrap_i64];omega
      have hmb:m<=1000000:=by omega
      obtain⟨wm,cm,hrun,hsm,hbm⟩:=zo_n m hmb wr.drew
      have hbm':Below wr.heap.size wr wm:=(Below.drew (Below.refl _ _)).trans hbm
      have hbxm:XBox wm w.heap.size f c:=(hbm'.block _ (za_a hbx4)).trans hbx4
      obtain⟨m0,m1⟩:=hbxm.cells
      have HW:=zH (show Calls Tryz.prog 91 #[.pointer g,.agg #[f,c],en,.slice wr.drew.heap.size m cm] wm fun e w'=>e=.returned (z2:Value)/\∃ F',RD F' w' g sb cb sc fa fn fc d2/\Upd F wm F' w' by
       have:=zq_k (hP4.ext hbm') f c en hf hc ⟨by omega,by omega⟩ wr.drew.heap.size m cm (List.replicate m 0) hsm (fun y hy _ e=>by cases hy;exact Nat.lt_irrefl _ (hP4.lt _ e))
       unfold RExWritePost at this;rw [hE2] at this;exact this)
      clear hE2 HE hm
      by_cases hz2:z2=0
      ·subst hz2
       go_wp2_with fail
       go_region_held3 (fun w'=>w'.cell? w.heap.size=some (f:Value)/\w'.cell? (w.heap.size 1)=some (c:Value)) (first|exact⟨x0,x1⟩|exact⟨m0,m1⟩|exact⟨k0,k1⟩) (first
       |(go_at_call 91;go_must (refine HW.out.mono ?_);rintro e5 w5 ⟨rfl,F5,hP5,hU5⟩;have hbx5:XBox w5 w.heap.size f c:=(hU5.block _ (za_a hbxm) hbF).trans hbxm;obtain⟨k0,k1⟩:=hbx5.cells))
       have hU45:Upd F wr F5 w5:=(Upd.of_ext hbm').trans hU5
       obtain⟨z3,d3,hs⟩:∃ z3 d3,Disk.sync d2=(z3,d3):=⟨_,_,rfl⟩
       have hsy:=zo_e hP5
       rw [hs] at hsy
       have HSY:=zH hsy
       by_cases hz3:z3=0
       ·subst hz3
        have HOPN:=zH (Wal.open_o HRD.out HER.out hs)
        rw [HSC.out] at HOPN
        clear hs hsy
        go_wp2_with (go_at_call 92;go_must (refine HSY.out.mono ?_);rintro e6 w6 ⟨rfl,hP6,hU6⟩;have hbx6:XBox w6 w.heap.size f c:=((hU45.trans hU6).block w.heap.size (za_a hbx4) hbF).trans hbx4;obtain⟨y0,y1⟩:=hbx6.cells;have hO6:=(hO4.keep (fun k hk hkl=>(hU45.trans hU6).block k hkl (fun e=>by have:=hF3 k e;omega))).mono hz3';obtain⟨a6,c6,rfl,hs6⟩:=hO6.sl)
        go_ret3
        rw [HOPN.out]
        have hal:Below w6.heap.size w6 (w6.alloc (.cells #[.pointer g,f,c,.int .u32 (ep:Nat),en,.int .i64 (ps.length:Nat),.int .i64 (ps.length:Nat),.bool false] 181)):=(Below.refl _ _).alloc (zN _) _
        have hU6':=hU4.trans (hU45.trans hU6)
        exact⟨F5,w6.heap.size,_,rfl,hU6'.size,hO6.ext hal,⟨hP6.ext hal,za_b _ _ _ rfl,fun e=>Nat.lt_irrefl _ (hP6.lt _ e)⟩,hU6'.ext hal⟩
       ·have t3:(z3 != 0)=true:=by simpa using hz3
        have HOPN:=zH (Wal.open_e3 HRD.out HER.out hs hz3)
        clear hs hsy hz3
        go_wp2_with (go_at_call 92;go_must (refine HSY.out.mono ?_);rintro e6 w6 ⟨rfl,hP6,hU6⟩)
        go_ret3
        rw [HOPN.out]
        exact⟨rfl,F5,hP6,hU4.trans (hU45.trans hU6)⟩
      ·have t2:(z2 != 0)=true:=by simpa using hz2
       have HOPN:=zH (Wal.open_e2 HRD.out HER.out hz2)
       clear hz2
       go_wp2_with fail
       go_region_held3 (fun w'=>w'.cell? w.heap.size=some (f:Value)/\w'.cell? (w.heap.size 1)=some (c:Value)) (first|exact⟨x0,x1⟩|exact⟨m0,m1⟩|exact⟨k0,k1⟩) (first
       |(go_at_call 91;go_must (refine HW.out.mono ?_);rintro e5 w5 ⟨rfl,F5,hP5,hU5⟩;have hbx5:XBox w5 w.heap.size f c:=(hU5.block _ (za_a hbxm) hbF).trans hbxm;obtain⟨k0,k1⟩:=hbx5.cells))
       go_wp2_with fail
       go_ret3
       rw [HOPN.out]
       exact⟨rfl,F5,hP5,hU4.trans ((Upd.of_ext hbm').trans hU5)⟩
  ·have t1:(z != 0)=true:=by simpa using hz
   have HOPN:=zH (Wal.open_e1 (ep:=ep) HRD.out hz)
   clear hz hRX
   go_enter Tryz.func83,Tryz.ntmps83
   go_wp2_with (go_at_call 138;go_must (refine HV.out.mono ?_);rintro e1 w1 ⟨rfl,hb1⟩)
   have hB1:Below w.heap.size w w1:=hb.trans (hb1.mono (by rw [hbz];exact Nat.le_succ _))
   have hbx1:XBox w1 w.heap.size f c:=(hb1.block _ (by rw [hbz];exact Nat.lt_succ_self _)).trans hbox
   obtain⟨x0,x1⟩:=hbx1.cells
   go_region_held3 (fun w'=>w'.cell? w.heap.size=some (f:Value)/\w'.cell? (w.heap.size 1)=some (c:Value)) (first|exact⟨x0,x1⟩|exact⟨u0,u1⟩|exact⟨y0,y1⟩) (first
   |(go_at_call 79;go_must (refine (HSZ.out _).mono ?_);rintro e2 w2 ⟨rfl,hb2⟩;have hb2':Below w1.heap.size w1 w2:=(Below.drew (Below.refl _ _)).trans hb2;have hB2:=hB1.trans (hb2'.mono hB1.size);have hbx2:XBox w2 w.heap.size f c:=(hb2'.block _ (za_a hbx1)).trans hbx1;obtain⟨u0,u1⟩:=hbx2.cells)
   |(go_at_call 80;go_must (refine (HRE.out _ hB2).mono ?_);rintro e3 w3 ⟨v3,rfl,hO3,hP3,hU3⟩;have hbx3:XBox w3 w.heap.size f c:=(hU3.block _ (za_a hbx2) (fun e=>Nat.lt_irrefl _ (hlt _ e))).trans hbx2;obtain⟨y0,y1⟩:=hbx3.cells;obtain⟨a3,c3,rfl,hs3,-⟩:=hO3.sl))
   go_wp2_with fail
   go_ret3
   rw [HOPN.out]
   exact⟨rfl,F,hP3,(Upd.of_ext hB2).trans hU3⟩
end
end Go.Proofs.YtmanejniepghlaaGreatDoor
