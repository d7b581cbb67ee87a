import Derived.Test.YtmanejniepghlaaGreatDoorRun45
import Derived.Test.YtmanejniepghlaaGreatDoorRun4
import Derived.Test.YtmanejniepghlaaGreatDoorRun41
namespace Go.Proofs.YtmanejniepghlaaGreatDoor
section
open Go.RowKit
open Disk (Dk)
set_option maxRecDepth 100000
variable {w:World} {g p q:Nat} {S:Reg.St}
theorem Upd.drop1 {F0 F1:Nat->Prop} {w':World} {bl:Nat} (u:Upd (P1 F0 bl) w (P1 F1 bl) w') (h:w.heap.size<=bl):Upd F0 w F1 w' :=
 ⟨u.os,u.tape,u.output,u.size,fun k hk hn=>u.block k hk (fun e=>e.elim hn (fun e=>by omega)),fun k hk=>by
  rcases u.new k (.inl hk) with e|e
  ·rcases e with e|e
   ·exact .inl e
   ·exact .inr (by omega)
  ·exact .inr e⟩
set_option maxHeartbeats 64000000 in
theorem zg_l {n:Nat} {S':Reg.St} {d d':Dk} {F:Nat->Prop} (h:PS g q S d F w) (hok:Reg.Ok n S) (hdn:d.st.length<=1000) (c:Int) (a:Option Addr) (m k:Nat) (L:List Pin) (hs:SlN w a m k L) (hL:∀ p ∈ L,p.h.length<=1000000) {z:Int} (hr:Reg.compact S d c L=(z,S',d')) :
 Calls Tryz.prog 19 #[.pointer q,.agg #[c,.slice a m k]] w fun e w'=>e=.returned (z:Value)/\∃ F',PS g q S' d' F' w'/\Upd F w F' w':=by
 have z0:(w.alloc (.cells #[.pointer q] 41)).heap.size=w.heap.size+1:=by simp
 obtain⟨W0,hW0⟩:∃ W0,W0=(w.alloc (.cells #[.pointer q] 41)).alloc (.cells #[c,.slice a m k] 44):=⟨_,rfl⟩
 have hb0:Below w.heap.size w W0:=by rw [hW0];exact ((Below.refl _ _).alloc (zN _) _).alloc (by omega) _
 have hx0:Bx W0 w.heap.size 41 (.pointer q):=by
  unfold Bx
  rw [hW0,za_c _ _ _ (by omega),za_b _ _ _ rfl]
 have ht0:SBox W0 (w.heap.size+1) c (.slice a m k):=by
  unfold SBox
  rw [hW0,za_b _ _ _ z0.symm]
 have HW0:=zH hW0
 clear hW0 z0
 have h0:=h.ext hb0
 obtain⟨F0,p,s,mm,fa,fn,fc,rfl,hW,hS,hnq⟩:=h0.open
 have HF:=zH (zb_x hS)
 have y0:=hx0.cell
 obtain⟨y1,y2⟩:=ht0.cells
 have hml:=hs.len
 unfold Reg.compact at hr
 by_cases hfl:S.fl=true
 ·rw [if_pos hfl] at hr
  cases hr
  rw [hfl] at HF
  go_enter Tryz.func19,Tryz.ntmps19
  go_wp2_with fail
  rw [<-HW0.out]
  go_wp2_with fail
  refine HF.out.mono ?_;rintro e w1 ⟨rfl,rfl⟩
  go_wp2_with fail
  go_ret
  exact⟨rfl,_,h0,Upd.of_ext hb0⟩
 ·rw [if_neg hfl] at hr
  have hfl':S.fl=false:=by simpa using hfl
  rw [hfl'] at HF
  have HEN:=zH (zi_w c a m k L W0 (hs.ext hb0) hL)
  unfold SEncP at HEN
  rw [hml] at hr
  by_cases hv:Upt.stValid c L=false
  ·rw [if_pos (.inl hv)] at hr
   cases hr
   rw [hv] at HEN
   go_enter Tryz.func19,Tryz.ntmps19
   go_wp2_with fail
   rw [<-HW0.out]
   go_wp2_with fail
   refine HF.out.mono ?_;rintro e w1 ⟨rfl,rfl⟩
   go_wp2_with fail
   refine HEN.out.mono ?_;rintro e w2 ⟨v2,rfl,hO2,hb2⟩
   go_wp2_with fail
   go_quiet (fail)
   go_wp2_with fail
   go_ret
   have hb2':Below W0.heap.size W0 w2:=hb2
   have hbq:Below W0.heap.size W0 (w2.drewN nq):=hb2'.trans ⟨rfl,rfl,rfl,zN _,fun _ _=>rfl⟩
   exact⟨rfl,_,h0.ext hbq,Upd.of_ext (hb0.trans (hbq.mono hb0.size))⟩
  ·have hv':Upt.stValid c L=true:=by simpa using hv
   rw [hv',if_pos rfl,if_pos rfl] at HEN
   by_cases hc:S.lay.cap < m
   ·rw [if_pos (.inr hc)] at hr
    cases hr
    have t1:decide ((S.lay.cap:Int) < (m:Int))=true:=by simp;omega
    go_enter Tryz.func19,Tryz.ntmps19
    go_wp2_with fail
    rw [<-HW0.out]
    go_wp2_with fail
    refine HF.out.mono ?_;rintro e w1 ⟨rfl,rfl⟩
    go_wp2_with fail
    refine HEN.out.mono ?_;rintro e w2 ⟨v2,rfl,hO2,hb2⟩
    have hb2':Below W0.heap.size W0 w2:=hb2
    have k0:w2.cell? w.heap.size=some (.pointer q):=(hx0.same (hb2'.block _ hx0.lt)).cell
    have k1:w2.cell? ((w.heap.size+1) 1)=some (.slice a m k):=(SBox.cells (ht0.ext hb2)).2
    have k2:=(hS.ext hb2').cap
    go_wp2_with fail
    go_quiet (fail)
    go_wp2_with fail
    go_ret
    have hbq:Below W0.heap.size W0 (w2.drewN nq):=hb2'.trans ⟨rfl,rfl,rfl,zN _,fun _ _=>rfl⟩
    exact⟨rfl,_,h0.ext hbq,Upd.of_ext (hb0.trans (hbq.mono hb0.size))⟩
   ·rw [if_neg (by rw [hv'];simp;omega)] at hr
    have t1:decide ((S.lay.cap:Int) < (m:Int))=false:=by simp;omega
    have r1:(m:Int)<=(S.lay.cap:Int):=by omega
    by_cases hg:S.sup.gen=18446744073709551615
    ·rw [if_pos hg] at hr
     cases hr
     go_enter Tryz.func19,Tryz.ntmps19
     go_wp2_with fail
     rw [<-HW0.out]
     go_wp2_with fail
     refine HF.out.mono ?_;rintro e w1 ⟨rfl,rfl⟩
     go_wp2_with fail
     refine HEN.out.mono ?_;rintro e w2 ⟨v2,rfl,hO2,hb2⟩
     have hb2':Below W0.heap.size W0 w2:=hb2
     have k0:w2.cell? w.heap.size=some (.pointer q):=(hx0.same (hb2'.block _ hx0.lt)).cell
     have k1:w2.cell? ((w.heap.size+1) 1)=some (.slice a m k):=(SBox.cells (ht0.ext hb2)).2
     have k2:=(hS.ext hb2').cap
     have k3:w2.cell? (q 11)=some (.int .u64 18446744073709551615):=by rw [(hS.ext hb2').gen,hg];rfl
     go_wp2_with fail
     go_quiet (fail)
     go_wp2_with fail
     go_ret
     have hbq:Below W0.heap.size W0 (w2.drewN nq):=hb2'.trans ⟨rfl,rfl,rfl,zN _,fun _ _=>rfl⟩
     exact⟨rfl,_,h0.ext hbq,Upd.of_ext (hb0.trans (hbq.mono hb0.size))⟩
    ·rw [if_neg hg] at hr
     obtain⟨b,hbE⟩:∃ b,Snap.enc c L=b:=⟨_,rfl⟩
     rw [hbE] at hr HEN
     obtain⟨nx,hnx⟩:∃ nx,Reg.next S b=nx:=⟨_,rfl⟩
     obtain⟨hav1,hav2⟩:=Reg.act_lt hok.val
     obtain⟨r,hr9⟩:∃ r,(1 - S.sup.act).toNat=r:=⟨_,rfl⟩
     rw [hr9] at hr
     have hr2:r < 2:=by omega
     have hact:nx.act=(r:Int):=by rw [<-hnx];show 1 - S.sup.act=_;omega
     have g1:IntKind.u64.wrap ((S.sup.gen:Int)+1)=(nx.gen:Int):=by
      rw [<-hnx]
      have:=hok.fits.1
      unfold IntKind.wrap
      simp [IntKind.bits,IntKind.signed,Reg.next]
      omega
     have g2:IntKind.u32.wrap ((S.sup.epoch:Int)+1)=(nx.epoch:Int):=by
      rw [<-hnx]
      unfold IntKind.wrap
      simp [IntKind.bits,IntKind.signed,Reg.next]
     have g3:(1:Int) - S.sup.act=(r:Int):=by rw [<-hnx] at hact;exact hact
     have hblen:b.length<=262144/\(b.length:Int)=nx.len:=by
      rw [<-hnx,<-hbE]
      refine⟨?_,rfl⟩
      have:=(Reg.snap_len hok.fit hv' (by rw [hml];have:=hok.lay;rw [this] at hc;omega)).2
      exact this
     have hval:Super.valid nx=true:=by
      unfold Super.valid
      rw [hact,<-hblen.2]
      simp
      omega
     have hfits:nx.fits:=by
      rw [<-hnx]
      refine⟨?_,Nat.mod_lt _ (by omega),Crc.update_lt _ _⟩
      have:=hok.fits.1
      show S.sup.gen+1 < _
      omega
     have HCR:=zH (fun a2 c2 W (hh:SlB W a2 b.length c2 b)=>show Calls Tryz.prog 48 #[.slice a2 b.length c2] W fun e w'=>e=.returned (.int .u32 (nx.sum:Nat))/\W=w' by rw [<-hnx];exact zc_g a2 b.length c2 b W hh)
     have HNX:=zH hnx
     have HNE:=zH (show b ≠ [] by rw [<-hbE];intro e;have:=(Snap.bound hv').2;rw [e] at this;simp at this)
     have HBL:=zH hblen
     have gG:((S.sup.gen:Int) == 18446744073709551615)=false:=by simp;omega
     obtain⟨bl,hbl⟩:∃ bl,b.length=bl:=⟨_,rfl⟩
     go_enter Tryz.func19,Tryz.ntmps19
     go_wp2_with fail
     rw [<-HW0.out]
     go_wp2_with fail
     refine HF.out.mono ?_;rintro e w1 ⟨rfl,rfl⟩
     go_wp2_with fail
     refine HEN.out.mono ?_;rintro e w2 ⟨v2,rfl,hO2,hb2⟩
     have hb2':Below W0.heap.size W0 w2:=hb2
     obtain⟨a2,c2,rfl,hs2,hn2⟩:=hO2.sl
     rw [hbl] at hs2 HCR HBL ⊢
     have k0:w2.cell? w.heap.size=some (.pointer q):=(hx0.same (hb2'.block _ hx0.lt)).cell
     have k1:w2.cell? ((w.heap.size+1) 1)=some (.slice a m k):=(SBox.cells (ht0.ext hb2)).2
     have k2:=(hS.ext hb2').cap
     have k3:=(hS.ext hb2').gen
     have hrw:IntKind.i64.wrap (r:Int)=(r:Int):=by rw [IntKind.wrap_i64];omega
     clear hbl hnx hav1 hav2 hr9 hbE hg hv hc
     go_wp2_with fail
     go_quiet (fail)
     go_wp2_with fail
     obtain⟨W3,hW3⟩:∃ W3,W3=w2.drewN nq:=⟨_,rfl⟩
     have hb3:Below W0.heap.size W0 W3:=by rw [hW3];exact hb2'.trans ⟨rfl,rfl,rfl,zN _,fun _ _=>rfl⟩
     have hs3:SlB W3 a2 bl c2 b:=by rw [hW3];exact hs2.stay (fun _ _ _=>rfl) (zN _)
     have HN3:=zH (fun x hx=>(hn2 x hx).2.1)
     rw [<-hW3]
     clear hW3 k0 k1 k2 k3
     have HK3:=zH (fun (W:World) (e:Below W3.heap.size W3 W)=>show W.cell? w.heap.size=some (.pointer q)/\W.cell? (q 11)=some (.int .u64 (S.sup.gen:Nat))/\W.cell? (q 12)=some (S.sup.act:Value)/\W.cell? (q 13)=some (.int .u32 (S.sup.epoch:Nat)) from
      ⟨(hx0.same ((hb3.trans (e.mono hb3.size)).block _ hx0.lt)).cell,(hS.ext (hb3.trans (e.mono hb3.size))).gen,(hS.ext (hb3.trans (e.mono hb3.size))).act,(hS.ext (hb3.trans (e.mono hb3.size))).epoch⟩)
     have HS3:=zH (fun (W:World) (e:Below W3.heap.size W3 W)=>hs3.ext e)
     have HBA:=zH (fun (o:Obj)=>(Below.drew ((Below.refl W3.heap.size W3).alloc (zN _) o)))
     have HBD:=zH (Below.drew (Below.refl W3.heap.size W3))
     have hq3:=(hS.ext hb3).lt
     have hw3:w.heap.size < W3.heap.size:=(hx0.same (hb3.block _ hx0.lt)).lt
     go_region_held3 (fun W=>W.cell? w.heap.size=some (.pointer q)/\W.cell? (q 11)=some (.int .u64 (S.sup.gen:Nat))/\W.cell? (q 12)=some (S.sup.act:Value)/\W.cell? (q 13)=some (.int .u32 (S.sup.epoch:Nat))) (first|exact HK3.out _ (Below.refl _ _)|exact HK3.out _ HBD.out|exact HK3.out _ (HBA.out _)) (first
     |(go_at_call 48;go_must (refine (HCR.out _ _ _ (HS3.out _ (by first|exact HBD.out|exact HBA.out _))).mono ?_);rintro e w4 ⟨rfl,rfl⟩))
     all_goals
      obtain⟨W4,hW4⟩:∃ W4,W4=(W3.alloc (.cells #[.int .u64 (nx.gen:Nat),r,.int .u32 (nx.epoch:Nat),bl,.int .u32 (nx.sum:Nat)] 94)).drew:=⟨_,rfl⟩
      have hb4:Below W3.heap.size W3 W4:=by rw [hW4];exact HBA.out _
      have hx4:W4.heap[W3.heap.size]?=some (.cells #[.int .u64 (nx.gen:Nat),r,.int .u32 (nx.epoch:Nat),bl,.int .u32 (nx.sum:Nat)] 94 (0,0)):=by rw [hW4];exact za_b _ _ _ rfl
      have hN4:SupBox W4 W3.heap.size nx:=by
       unfold SupBox
       rw [hact,<-HBL.out.2]
       exact hx4
      rw [<-hW4]
      have HSN:=zH (zo_j nx hval hfits)
      unfold supv at HSN
      rw [hact,<-HBL.out.2] at HSN
      have c0:W4.cell? W3.heap.size=some (.int .u64 (nx.gen:Nat)):=cell_of_row _ _ 0 _ _ _ hx4
      have c1:W4.cell? (W3.heap.size 1)=some (r:Value):=cell_of_row _ _ 1 _ _ _ hx4
      have c2':W4.cell? (W3.heap.size 2)=some (.int .u32 (nx.epoch:Nat)):=cell_of_row _ _ 2 _ _ _ hx4
      have c3:W4.cell? (W3.heap.size 3)=some (bl:Value):=cell_of_row _ _ 3 _ _ _ hx4
      have c4:W4.cell? (W3.heap.size 4)=some (.int .u32 (nx.sum:Nat)):=cell_of_row _ _ 4 _ _ _ hx4
      clear hW4
      go_wp2_with fail
      refine (HSN.out _).mono ?_;rintro e w5 ⟨K,rfl,hs5,hK5,hb5⟩
      go_wp2_with fail
      obtain⟨W7,hW7⟩:∃ W7,W7=(w5.alloc (.cells #[.slice K 64 64] 70)).alloc (.cells #[.pointer none] 106):=⟨_,rfl⟩
      have z6:(w5.alloc (.cells #[.slice K 64 64] 70)).heap.size=w5.heap.size+1:=by simp
      have hb7:Below w5.heap.size w5 W7:=by rw [hW7];exact ((Below.refl _ _).alloc (zN _) _).alloc (by omega) _
      have hu7:Bx W7 w5.heap.size 70 (.slice K 64 64):=by unfold Bx;rw [hW7,za_c _ _ _ (by omega),za_b _ _ _ rfl]
      have hl7:Bx W7 (w5.heap.size+1) 106 (.pointer none):=by unfold Bx;rw [hW7,za_b _ _ _ z6.symm]
      rw [<-hW7]
      clear hW7 z6 c0 c1 c2' c3 c4
      have hB5:Below W3.heap.size W3 w5:=hb4.trans (hb5.mono hb4.size)
      have hB7:Below W3.heap.size W3 W7:=hB5.trans (hb7.mono hB5.size)
      have hN7:W7.heap[W3.heap.size]?=some (.cells #[.int .u64 (nx.gen:Nat),r,.int .u32 (nx.epoch:Nat),bl,.int .u32 (nx.sum:Nat)] 94 (0,0)):=((hb5.trans (hb7.mono hb5.size)).block _ (za_a hx4)).trans hx4
      have hq7:=hS.ext (hb3.trans (hB7.mono hb3.size))
      have hx7:=hx0.same ((hb3.trans (hB7.mono hb3.size)).block _ hx0.lt)
      have HK7:=zH (fun (W:World) (e:Below W7.heap.size W7 W)=>show W.cell? w.heap.size=some (.pointer q)/\W.cell? q=some (.pointer g)/\W.cell? (W3.heap.size 1)=some (r:Value)/\W.cell? (q 1)=some (S.lay.cap:Value)/\W.cell? (q 2)=some (.int .i64 (S.lay.sf 0))/\W.cell? (q 3)=some (S.lay.sc:Value)/\W.cell? (q 4)=some (.int .i64 (S.lay.sf 1))/\W.cell? (q 5)=some (S.lay.sc:Value)/\W.cell? (q 6)=some (.int .i64 (S.lay.lf 0))/\W.cell? (q 7)=some (S.lay.lc:Value)/\W.cell? (q 8)=some (.int .i64 (S.lay.lf 1))/\W.cell? (q 9)=some (S.lay.lc:Value) from
       ⟨(hx7.same (e.block _ hx7.lt)).cell,(hq7.ext e).disk,cell_of_row _ _ 1 _ _ _ ((e.block _ (za_a hN7)).trans hN7),(hq7.ext e).at 1,(hq7.ext e).at 2,(hq7.ext e).at 3,(hq7.ext e).at 4,(hq7.ext e).at 5,(hq7.ext e).at 6,(hq7.ext e).at 7,(hq7.ext e).at 8,(hq7.ext e).at 9⟩)
      have HPR:=zH (fun W=>zg_m g S.lay (r:Int) a2 bl c2 W)
      unfold layc prep1 prep2 at HPR
      simp only [zr_y,layc] at HPR
      have HBD7:=zH (Below.drew (Below.refl W7.heap.size W7))
      go_region_held3 (fun W=>W.cell? w.heap.size=some (.pointer q)/\W.cell? q=some (.pointer g)/\W.cell? (W3.heap.size 1)=some (r:Value)/\W.cell? (q 1)=some (S.lay.cap:Value)/\W.cell? (q 2)=some (.int .i64 (S.lay.sf 0))/\W.cell? (q 3)=some (S.lay.sc:Value)/\W.cell? (q 4)=some (.int .i64 (S.lay.sf 1))/\W.cell? (q 5)=some (S.lay.sc:Value)/\W.cell? (q 6)=some (.int .i64 (S.lay.lf 0))/\W.cell? (q 7)=some (S.lay.lc:Value)/\W.cell? (q 8)=some (.int .i64 (S.lay.lf 1))/\W.cell? (q 9)=some (S.lay.lc:Value)) (first|exact HK7.out _ (Below.refl _ _)|exact HK7.out _ HBD7.out|exact HK7.out _ (by assumption)) (first
      |(go_at_call 49;go_must (refine (HPR.out _).mono ?_);rintro e w8 ⟨rfl,hb8',hp8⟩;have hb8:Below W7.heap.size W7 w8:=HBD7.out.trans hb8'))
      obtain⟨q1,q2,-⟩:=HK7.out w8 hb8
      go_wp2_with fail
      refine wp_region_still_tail 14 (by kernel_rfl) (by kernel_rfl) ?_
      simp only [List.take_succ_cons,List.take_zero,List.drop_succ_cons,List.drop_zero]
      repeat still_step
      refine wpStill_nil ?_
      change wpList _ _ _ _ _ w8.drew
      go_wp2_with fail
      obtain⟨W9,hW9⟩:∃ W9,W9=(w8.alloc (.cells #[prep1 W7.heap.size,prep2 W7.heap.size,syncv g,.func (.func 65) #[] #[.pointer w.heap.size,.pointer W3.heap.size,.pointer (w5.heap.size+1:Nat)],.func (.func 67) #[] #[.pointer w.heap.size,.pointer w5.heap.size],syncv g] 95)).drew:=⟨_,rfl⟩
      have hb9:Below w8.heap.size w8 W9:=by rw [hW9];exact ((Below.refl _ _).alloc (zN _) _).drew
      have row:W9.heap[w8.heap.size]?=some (.cells #[prep1 W7.heap.size,prep2 W7.heap.size,syncv g,.func (.func 65) #[] #[.pointer w.heap.size,.pointer W3.heap.size,.pointer (w5.heap.size+1:Nat)],.func (.func 67) #[] #[.pointer w.heap.size,.pointer w5.heap.size],syncv g] 95 (0,0)):=by rw [hW9];exact za_b _ _ _ rfl
      have HW9:=zH hW9
      unfold prep1 prep2 syncv at HW9
      rw [<-HW9.out]
      clear hW9
      have hp8':PB w8 W7.heap.size g S.lay (r:Int) (.slice a2 bl c2):=hp8
      have h79:Below W7.heap.size W7 W9:=hb8.trans (hb9.mono hb8.size)
      have h39:Below W3.heap.size W3 W9:=hB7.trans (h79.mono hB7.size)
      have h09:Below W0.heap.size W0 W9:=hb3.trans (h39.mono hb3.size)
      have hw9:Below w.heap.size w W9:=hb0.trans (h09.mono hb0.size)
      have h59:Below w5.heap.size w5 W9:=hb7.trans (h79.mono hb7.size)
      have hW':=(h.open)
      have hFw:∀ x,F0 x->x < w.heap.size:=fun x hx=>h.lt x (.inl (.inl hx))
      have hqw:q < w.heap.size:=h.lt q (.inr rfl)
      have hpw:p < w.heap.size:=h.lt p (.inl (.inr rfl))
      have s03:=hb3.size
      have s00:=hb0.size
      have s0x:=hx0.lt
      have s34:=za_a hx4
      have s45:=hb5.size
      have s57:=hl7.lt
      have s78:=hb8.size
      have s79:=hp8'.lt
      have s9:=hb9.size
      have hdW:DP g d F0 W9:=DP.ext (show DP g d F0 W0 from ⟨s,mm,fa,fn,fc,hW.disk⟩) h09
      have h49:Below W4.heap.size W4 W9:=hb5.trans (h59.mono hb5.size)
      have sK:K < w5.heap.size:=hs5.blt (by intro e;have:=Super.enc_length nx;rw [e] at this;simp at this)
      have hbne:b ≠ []:=HNE.out
      have hy3:∀ y,a2=some y->y.block < W3.heap.size:=fun y hy=>by subst hy;exact hs3.blt hbne
      have HST:=zH (zo_h (W:=W9) (B:=w.heap.size) (n:=n) (p:=p) (d:=d) hok hFw hdn (zN _) (by omega) (by omega) (by omega) (by omega) (by omega) (by omega) (fun y hy=>by have:=HN3.out y hy;omega) (by omega) (by omega) (by omega) (by omega) (fun j hj=>by omega) (by omega) (fun y hy e=>by have:=hy3 y hy;omega) (by omega) row (hp8'.ext hb9) (hx7.same (h79.block _ hx7.lt)) (hS.ext h09) (fun e=>hnq (.inl e)) (by rw [HNX.out];exact (h49.block _ s34).trans hN4) (hl7.same (h79.block _ hl7.lt)) (hu7.same (h79.block _ hu7.lt)) (hs3.ext h39) (by rw [HNX.out];exact hs5.ext h59) hdW hr2 (by rw [HNX.out];exact hact) (by rw [HNX.out];exact hfits.2.1) hr)
      refine HST.out.mono ?_;rintro e w10 ⟨y,rfl,hCP⟩
      obtain⟨hyz,F1,lv,hd1,u1,nbl,hl1,hcase⟩:=hCP
      dsimp only at hyz hd1 hcase
      subst hyz
      have hqF0:¬ F0 q:=fun e=>hnq (.inl e)
      have hqp:q ≠ p:=fun e=>hnq (.inr e)
      have hq10:=(hS.ext h09).same (u1.side hqF0 (by omega) (hS.ext h09).lt).1
      have nq1:=(u1.side hqF0 (show q ≠ w5.heap.size+1 by omega) (hS.ext h09).lt).2
      have hx9:=hx7.same (h79.block _ hx7.lt)
      have hxF:¬ F0 w.heap.size:=fun e=>Nat.lt_irrefl _ (hFw _ e)
      have hx10:=hx9.same (u1.side hxF (by omega) hx9.lt).1
      have x10:=hx10.cell
      have hp9:=hW.log.ext h09
      have hp10:=hp9.same (u1.side hW.apart (by omega) hp9.lt).1
      have np1:=(u1.side hW.apart (show p ≠ w5.heap.size+1 by omega) hp9.lt).2
      have hU10:Upd F0 w F1 w10:=Upd.drop1 ((Upd.of_ext (F:=P1 F0 (w5.heap.size+1)) hw9).trans u1) (by omega)
      have HFL:=zH (zj_y hq10 y)
      have xlt:w.heap.size < w10.heap.size:=hx10.lt
      have xne:q ≠ w.heap.size:=by omega
      rcases hcase with⟨hz,hS'⟩|⟨hz,L',p',hlv,hL',hp',hpW,hS'⟩
      ·subst hS'
       have t3:(y != 0)=true:=by simpa using hz
       have t4:(y == 0)=false:=by simpa using hz
       go_wp2_with fail
       refine HFL.out.mono ?_;rintro e w11 ⟨rfl,hw11,hS11⟩
       rw [t3,Bool.or_true] at hS11
       have hd11:DP g d' F1 w11:=by rw [hw11];exact hd1.set nq1 _ _
       have hp11:LB w11 p g S.log:=by rw [hw11];exact hp10.same (heap_setCell_other _ _ _ _ (Ne.symm hqp))
       have hU11:Upd (P1 (P1 F0 p) q) w (P1 (P1 F1 p) q) w11:=by rw [hw11];exact ((hU10.beside p).beside q).setCell (.inl (.inr rfl)) _ _
       clear hw11
       go_wp2_with fail
       go_ret
       exact⟨rfl,P1 (P1 F1 p) q,⟨F1,p,rfl,hd11,hp11,np1,hS11,nq1,hqp⟩,hU11⟩
      ·subst hz
       go_wp2_with fail
       refine HFL.out.mono ?_;rintro e w11 ⟨rfl,hw11,hS11⟩
       have hd11:DP g d' F1 w11:=by rw [hw11];exact hd1.set nq1 _ _
       have hL11:LB w11 p' g L':=by rw [hw11];exact hL'.same (heap_setCell_other _ _ _ _ (by rintro rfl;omega))
       have hU11:Upd (P1 (P1 F0 p) q) w (P1 F1 q) w11:=by
        rw [hw11]
        exact (((hU10.beside q).setCell (.inl (.inr rfl)) _ _).more fun b hb=>by rcases hb with e|e;exact .inl (.inl e);exact .inr e)
       have hx11:Bx w11 w.heap.size 41 (.pointer q):=by rw [hw11];exact hx10.same (heap_setCell_other _ _ _ _ (Ne.symm xne))
       have hn39:W3.heap.size < W9.heap.size:=by omega
       have hn310:W3.heap.size ≠ w5.heap.size+1:=by omega
       have hn3F:¬ F0 W3.heap.size:=fun e=>by have:=hFw _ e;omega
       have hn10:w10.heap[W3.heap.size]?=some (.cells #[.int .u64 (nx.gen:Nat),r,.int .u32 (nx.epoch:Nat),bl,.int .u32 (nx.sum:Nat)] 94 (0,0)):=((u1.side hn3F hn310 hn39).1).trans ((h49.block _ s34).trans hx4)
       have hn11:w11.heap[W3.heap.size]?=some (.cells #[.int .u64 (nx.gen:Nat),r,.int .u32 (nx.epoch:Nat),bl,.int .u32 (nx.sum:Nat)] 94 (0,0)):=by rw [hw11];exact (heap_setCell_other _ _ _ _ (show W3.heap.size ≠ q by omega)).trans hn10
       have hl11:Bx w11 (w5.heap.size+1) 106 (.pointer p'):=by rw [hw11];exact (hlv ▸ hl1).same (heap_setCell_other _ _ _ _ (show w5.heap.size+1 ≠ q by omega))
       have hfe:(S.fl || (0:Int) != 0)=false:=by rw [hfl'];rfl
       rw [hfe] at hS11
       clear hw11 HFL
       have g4:IntKind.i64.wrap (1 - (S.slot:Int))=((1 - S.slot:Nat):Int):=by have:=hok.slot;rw [IntKind.wrap_i64];omega
       have nw:w.heap.size ≠ q:=by omega
       have nN:W3.heap.size ≠ q:=by omega
       have nl:w5.heap.size+1 ≠ q:=by omega
       have hpq:p' ≠ q:=by omega
       have j0:=hx11.cell
       have j7:=hl11.cell
       obtain⟨V0,hV0⟩:∃ V0,V0=w11.drew:=⟨_,rfl⟩
       have hSV0:SB V0 q g p { S with fl:=false }:=by rw [hV0];exact hS11
       have hH0:(fun W=>W.cell? w.heap.size=some (.pointer q)/\W.cell? W3.heap.size=some (.int .u64 (nx.gen:Nat))/\W.cell? (W3.heap.size 1)=some (r:Value)/\W.cell? (W3.heap.size 2)=some (.int .u32 (nx.epoch:Nat))/\W.cell? (W3.heap.size 3)=some (bl:Value)/\W.cell? (W3.heap.size 4)=some (.int .u32 (nx.sum:Nat))/\W.cell? (w5.heap.size+1:Nat)=some (.pointer p')) V0:=by rw [hV0];exact⟨j0,cell_of_row _ _ 0 _ _ _ hn11,cell_of_row _ _ 1 _ _ _ hn11,cell_of_row _ _ 2 _ _ _ hn11,cell_of_row _ _ 3 _ _ _ hn11,cell_of_row _ _ 4 _ _ _ hn11,j7⟩
       have hS0:(fun W=>W.cell? (q 10)=some (.int .i64 (S.slot:Nat))) V0:=hSV0.slot
       have HHK:=zH (show ∀ (W:World) (k:Nat) (v:Value),(W.cell? w.heap.size=some (.pointer q)/\W.cell? W3.heap.size=some (.int .u64 (nx.gen:Nat))/\W.cell? (W3.heap.size 1)=some (r:Value)/\W.cell? (W3.heap.size 2)=some (.int .u32 (nx.epoch:Nat))/\W.cell? (W3.heap.size 3)=some (bl:Value)/\W.cell? (W3.heap.size 4)=some (.int .u32 (nx.sum:Nat))/\W.cell? (w5.heap.size+1:Nat)=some (.pointer p'))->(fun W=>W.cell? w.heap.size=some (.pointer q)/\W.cell? W3.heap.size=some (.int .u64 (nx.gen:Nat))/\W.cell? (W3.heap.size 1)=some (r:Value)/\W.cell? (W3.heap.size 2)=some (.int .u32 (nx.epoch:Nat))/\W.cell? (W3.heap.size 3)=some (bl:Value)/\W.cell? (W3.heap.size 4)=some (.int .u32 (nx.sum:Nat))/\W.cell? (w5.heap.size+1:Nat)=some (.pointer p')) (W.setCell (q k) v) from fun W k v ⟨a0,a1,a2,a3,a4,a5,a6⟩=>by
        have ot:∀ (b o:Nat),b ≠ q->(W.setCell (q k) v).cell? (b o)=W.cell? (b o):=fun b o hb=>World.cell?_of_block (a:=(b o)) (heap_setCell_other _ _ _ _ hb)
        exact⟨(ot _ _ nw).trans a0,(ot _ _ nN).trans a1,(ot _ _ nN).trans a2,(ot _ _ nN).trans a3,(ot _ _ nN).trans a4,(ot _ _ nN).trans a5,(ot _ _ nl).trans a6⟩)
       have HV0:=zH hV0
       have HFIN:=zH (And.intro hd11 (And.intro hL11 (And.intro hU11 (And.intro nq1 (And.intro hp' (And.intro hact (And.intro HNX.out (And.intro HBL.out.2 (And.intro hpW (And.intro hw9.size (And.intro hpq (And.intro hfl' hS'))))))))))))
       clear hV0 j0 j7
       clear hS11 hd11 hL11 hU11 hx11 hn10 hn11 hl11 hS' hact HNX HBL hpW hw9 hU10 np1 hp10 hp9 x10 hx10 hx9 hq10 hl1 hd1 u1 HST hdW row h79 h39 h09 h59 hW' hFw hp8 hp8' hb8 hb8' hb9 hq7 hx7 hN7 hB7 hB5 hl7 hu7 hb7 hs5 hb5 hN4 hx4 hb4 hs3 hb3 hs2 hO2 hn2 hb2 hb2' HK7 HPR HSN HK3 HS3 HBA HBD HBD7 HW9 HN3 HCR HEN HF HW0 hval hfits hlv hfl hfl' hr hL' h49 hbne hy3 HNE hn39 hn310 hn3F hqF0 hxF hblen hS h0 h hW ht0 hx0 hb0 y0 y1 y2 hv' t1 r1 g1 g2 g3 gG hs hL hok hdn hml hp' q1 q2 hnq hrw hq3 hw3 hK5 hqw hpw s03 s00 s0x s34 s45 s57 s78 s79 s9 sK xlt xne nbl hfe nq1 hpq nw nN nl hqp hr2
       have k10:=hSV0.slot
       have f10:=hSV0.free 10
       have lt0:=hSV0.lt
       dsimp only at k10
       go_wp2_with fail
       refine zk_n (by kernel_rfl) [12,15,18] (fun W=>W.cell? w.heap.size=some (.pointer q)/\W.cell? W3.heap.size=some (.int .u64 (nx.gen:Nat))/\W.cell? (W3.heap.size 1)=some (r:Value)/\W.cell? (W3.heap.size 2)=some (.int .u32 (nx.epoch:Nat))/\W.cell? (W3.heap.size 3)=some (bl:Value)/\W.cell? (W3.heap.size 4)=some (.int .u32 (nx.sum:Nat))/\W.cell? (w5.heap.size+1:Nat)=some (.pointer p')) (fun W=>W.cell? (q 10)=some (.int .i64 (S.slot:Nat))) ?_
       rw [<-HV0.out]
       refine tkB [0,1,2,8,9,3,4,5,6,7,10,11] ?_
       repeat ((first|(refine zc_m (v:=?_) rfl (by kernel_rfl) (by kernel_rfl) (by kernel_rfl) (by kernel_rfl) (fun _ _ _ h=>h) (Or.inl ⟨by rfl,?_⟩) (by assumption) ?_;rotate_left;·intro w hSw;(try dsimp only at hSw);go_simp;try with_reducible rfl)|(refine zj_d (v:=?_) rfl (by kernel_rfl) (by kernel_rfl) (by kernel_rfl) (by kernel_rfl) (by kernel_rfl) (fun _ _ _ h=>h) (Or.inl ⟨by rfl,?_⟩) (by assumption) (by assumption) ?_;rotate_left;·intro w hSw;(try dsimp only at hSw);go_simp;try with_reducible rfl));try simp only [Act.put])
       refine tkE ?_
       have hH1:=HHK.out V0 10 (.int .i64 ((1 - S.slot:Nat):Int)) hH0
       refine ze_f (i:=12) rfl (by kernel_rfl) (by simp) (fun K hK=>?_)
       go_simp
       refine hK.out _ _ (hH1) ?_;clear hK K
       try simp only [Act.put]
       have hSV1:=hSV0.setSlot (1 - S.slot)
       obtain⟨V1,hV1⟩:∃ V1,V1=V0.setCell (q 10) (.int .i64 ((1 - S.slot:Nat):Int)):=⟨_,rfl⟩
       rw [<-hV1] at hH1 hSV1
       rw [<-hV1]
       have HV1:=zH hV1
       clear hV1 k10 f10 hS0
       have lt1:=hSV1.lt
       have k11:=hSV1.gen
       have k12:=hSV1.act
       have k13:=hSV1.epoch
       have k14:=hSV1.len
       have k15:=hSV1.sum
       have f11:=hSV1.free 11
       have f12:=hSV1.free 12
       have f13:=hSV1.free 13
       have f14:=hSV1.free 14
       have f15:=hSV1.free 15
       dsimp only at k11 k12 k13 k14 k15
       refine tkB [13,14] ?_
       repeat ((refine zc_m (v:=?_) rfl (by kernel_rfl) (by kernel_rfl) (by kernel_rfl) (by kernel_rfl) (fun _ _ _ h=>h) (Or.inl ⟨by rfl,?_⟩) (by assumption) ?_;rotate_left;·intro w hSw;(try dsimp only at hSw);go_simp;try with_reducible rfl);try simp only [Act.put])
       refine tkE ?_
       have hH2:=HHK.out _ 15 (.int .u32 (nx.sum:Nat)) (HHK.out _ 14 (bl:Value) (HHK.out _ 13 (.int .u32 (nx.epoch:Nat)) (HHK.out _ 12 (r:Value) (HHK.out V1 11 (.int .u64 (nx.gen:Nat)) hH1))))
       refine ze_f (i:=15) rfl (by kernel_rfl) (by simp) (fun K hK=>?_)
       go_simp
       refine hK.out _ _ (hH2) ?_;clear hK K
       try simp only [Act.put]
       have hSV2:=hSV1.setSup nx
       rw [HFIN.out.2.2.2.2.2.1,<-HFIN.out.2.2.2.2.2.2.2.1] at hSV2
       obtain⟨V2,hV2⟩:∃ V2,V2=(((((V1.setCell (q 11) (.int .u64 nx.gen)).setCell (q 12) (r:Value)).setCell (q 13) (.int .u32 nx.epoch)).setCell (q 14) (bl:Value)).setCell (q 15) (.int .u32 nx.sum)):=⟨_,rfl⟩
       rw [<-hV2] at hH2 hSV2
       rw [<-hV2]
       have HV2:=zH hV2
       clear hV2 k11 k12 k13 k14 k15 f11 f12 f13 f14 f15 hH1
       have lt2:=hSV2.lt
       have k16:=hSV2.log
       have f16:=hSV2.free 16
       refine tkB [16,17] ?_
       repeat ((refine zc_m (v:=?_) rfl (by kernel_rfl) (by kernel_rfl) (by kernel_rfl) (by kernel_rfl) (fun _ _ _ h=>h) (Or.inl ⟨by rfl,?_⟩) (by assumption) ?_;rotate_left;·intro w hSw;(try dsimp only at hSw);go_simp;try with_reducible rfl);try simp only [Act.put])
       refine tkE ?_
       have hH3:=HHK.out V2 16 (.pointer p') hH2
       refine ze_f (i:=18) rfl (by kernel_rfl) (by simp) (fun K hK=>?_)
       go_simp
       refine hK.out _ _ (hH3) ?_;clear hK K
       try simp only [Act.put]
       refine zk_l (by kernel_rfl) ?_ _
       have hSV3:=hSV2.setLog p' L'
       go_wp2_with fail
       go_ret
       obtain⟨b2,b3,b4,b5,b6,b8,b9,b10,b11,b12,b15,b16,b17⟩:=HFIN.out
       have hbut:But q w11 (V2.setCell (q 16) (.pointer p')):=by
        rw [HV2.out,HV1.out,HV0.out]
        exact ((((((((But.refl q w11).drew).setCell 10 _).setCell 11 _).setCell 12 _).setCell 13 _).setCell 14 _).setCell 15 _).setCell 16 _
       refine⟨rfl,P1 (P1 F1 p') q,⟨F1,p',rfl,b2.but b5 hbut,?_,b6,?_,b5,Ne.symm b15⟩,?_⟩
       ·rw [b17]
        exact b3.same (hbut.block _ b3.lt b15)
       ·rw [b17,b9,b16]
        exact hSV3
       ·have hup2:Upd (P1 (P1 F0 p) q) w (P1 F1 q) (V2.setCell (q 16) (.pointer p')):=b4.but (.inl (.inr rfl)) hbut
        refine hup2.grow fun y hy=>?_
        rcases hy with (hy|rfl)|rfl
        ·exact hup2.new y (.inl hy)
        ·right;omega
        ·exact .inl (.inr rfl)
end
section
open Go.RowKit
open Disk (Dk)
variable {F:Nat->Prop} {w w':World}
theorem Upd.out {F':Nat->Prop} (u:Upd F w F' w') {k:Nat} (h1:¬ F k) (h2:k < w.heap.size):¬ F' k/\w'.heap[k]?=w.heap[k]? :=
 ⟨fun e=>by rcases u.new k e with e|e;exact h1 e;omega,u.block k h2 h1⟩
theorem lay60:planV 60=.agg #[.int .i64 3,.int .i64 2,.int .i64 14,.int .i64 31,.int .i64 14,.int .i64 16,.int .i64 15,.int .i64 45,.int .i64 15]/\planE 60=0:=by
 unfold planV planE
 rw [show Reg.fit 60=true by decide]
 exact⟨rfl,rfl⟩
theorem zs_s (b o k:Nat) (w:World):Sem.run Tryz.prog (Instr.indexAt 42 (Value.slice (b o) 1 k) (Value.int .i64 0)) w=.ok (.pointer (b o)) w:=by
 first
 |kernel_rfl
 |(simp [go_sem];done)
theorem OpQ.some {g n:Nat} {S:Reg.St} {c:Int} {L:List Pin} {d':Dk} {e:Ending} (h:OpQ g n F w (some S,(c,L),0,d') e w') :
 ∃ q a k F',e=.returned (.tuple #[.pointer (q:Nat),.agg #[c,.slice a L.length k],.int .i64 0])/\PS g q S d' F' w'/\Upd F w F' w'/\SlN w' a L.length k L/\(∀ x,a=some x->L ≠ []->¬ F' x.block)/\Reg.Ok n S:=by
 obtain⟨-,q,a,k,F',h1,h2,h3,h4,h5,h6,-⟩:=h
 exact⟨q,a,k,F',h1,h2,h3,h4,h5,h6⟩
set_option maxRecDepth 100000 in
set_option maxHeartbeats 8000000 in
theorem zj_p (w:World):Calls Tryz.prog 10 #[] w fun e w'=>e=.returned (.bool true)/\Below w.heap.size w w':=by
 obtain⟨d1,S1,d2,S2,d3,S3,d4,S4,d5,e1,e2,e3,e4,e5,e6,l1,l3,l4⟩:=Reg.aw33
 have H1:=zH e1;have H2:=zH e2;have H3:=zH e3;have H4:=zH e4;have H5:=zH e5;have H6:=zH e6
 have L1:=zH l1;have L3:=zH l3;have L4:=zH l4
 clear e1 e2 e3 e4 e5 e6 l1 l3 l4
 have HP:=zH (fun W=>show Calls Tryz.prog 8 #[.int .i64 60] W fun e w'=>e=.returned (.tuple #[.agg #[.int .i64 3,.int .i64 2,.int .i64 14,.int .i64 31,.int .i64 14,.int .i64 16,.int .i64 15,.int .i64 45,.int .i64 15],.int .i64 0])/\Below W.heap.size W w' by
  have:=zf_g true 60 W
  rwa [show (60:Int).toNat=60 from rfl,lay60.1,lay60.2] at this)
 have HQ:=zH (fun W=>show Calls Tryz.prog 8 #[.int .i64 21] W fun e w'=>e=.returned (.tuple #[lay0,.int .i64 2])/\Below W.heap.size W w' by
  have:=zf_g true 21 W
  rwa [show (21:Int).toNat=21 from rfl,(zb_p (show Reg.fit 21=false by decide)).1,(zb_p (show Reg.fit 21=false by decide)).2] at this)
 unfold lay0 layv at HQ
 go_enter Tryz.func10,Tryz.ntmps10
 go_wp2_with fail
 refine (HP.out _).mono ?_;rintro e w1 ⟨rfl,hb1⟩
 go_wp2_with fail
 obtain⟨W2,hW2⟩:∃ W2,W2=w1.alloc (.cells #[.int .i64 3,.int .i64 2,.int .i64 14,.int .i64 31,.int .i64 14,.int .i64 16,.int .i64 15,.int .i64 45,.int .i64 15] 26):=⟨_,rfl⟩
 have hb2:Below w.heap.size w W2:=by rw [hW2];exact hb1.alloc hb1.size _
 have hx2:W2.heap[w1.heap.size]?=some (.cells #[.int .i64 3,.int .i64 2,.int .i64 14,.int .i64 31,.int .i64 14,.int .i64 16,.int .i64 15,.int .i64 45,.int .i64 15] 26 (0,0)):=by rw [hW2];exact za_b _ _ _ rfl
 rw [<-hW2]
 clear hW2
 refine (HQ.out _).mono ?_;rintro e w3 ⟨rfl,hb3⟩
 go_wp2_with fail
 obtain⟨W4,hW4⟩:∃ W4,W4=w3.alloc (.cells #[.int .i64 0,.int .i64 0,.int .i64 0,.int .i64 0,.int .i64 0,.int .i64 0,.int .i64 0,.int .i64 0,.int .i64 0] 26):=⟨_,rfl⟩
 have hb4:Below W2.heap.size W2 W4:=by rw [hW4];exact hb3.alloc hb3.size _
 rw [<-hW4]
 clear hW4
 refine (DP.new 60 (by omega) (by omega) _ 60 rfl).mono ?_;rintro e w5 ⟨g,F,rfl,hd5,hF5,hb5⟩
 have hb25:Below W2.heap.size W2 w5:=hb4.trans (hb5.mono hb4.size)
 have hx5:=(hb25.block _ (za_a hx2)).trans hx2
 have hBw:Below w.heap.size w w5:=hb2.trans (hb25.mono hb2.size)
 have hFw:∀ k,F k->w.heap.size<=k:=fun k hk=>by have:=hF5 k hk;have:=hb4.size;have:=hb2.size;omega
 have y0:w5.cell? w1.heap.size=some (.int .i64 3):=cell_of_row _ _ 0 _ _ _ hx5
 have y7:w5.cell? (w1.heap.size 7)=some (.int .i64 45):=cell_of_row _ _ 7 _ _ _ hx5
 have y8:w5.cell? (w1.heap.size 8)=some (.int .i64 15):=cell_of_row _ _ 8 _ _ _ hx5
 clear hx5 hx2
 go_wp2_with fail
 refine (zi_q hd5 H1.out).mono ?_;rintro e w6 ⟨rfl,F6,hd6,hu6⟩
 clear y0 y7 y8
 go_wp2_with fail
 refine (zh_g hd6 (by rw [L1.out];omega) H2.out).mono ?_;rintro e w7 hop
 obtain⟨q,a,k,F7,rfl,hp7,hu7,-,-,hok7⟩:=OpQ.some hop
 rw [List.length_nil]
 clear hop
 have HAP:=zH (fun W (e:Below w7.heap.size w7 W)=>show Calls Tryz.prog 17 #[.pointer q,.agg #[.int .i64 1,.string ⟨#[97,46,98]⟩,.bool false,.int .i64 7]] W fun e w'=>e=.returned (.int .i64 0)/\∃ F',PS g q S2 d3 F' w'/\Upd F7 W F' w' from zi_p (hp7.ext e) hok7 Reg.u33 (by decide) H3.out)
 have n7:¬ F7 w7.heap.size:=fun e=>Nat.lt_irrefl _ (hp7.lt _ e)
 go_wp2_with fail
 obtain⟨W8,hW8⟩:∃ W8,W8=w7.alloc (.cells #[.int .i64 0,.slice a 0 k] 44):=⟨_,rfl⟩
 have hb8:Below w7.heap.size w7 W8:=by rw [hW8];exact (Below.refl _ _).alloc (zN _) _
 have hx8:SBox W8 w7.heap.size 0 (.slice a 0 k):=by rw [hW8];exact SBox.new w7 0 _
 rw [<-hW8]
 clear hW8
 obtain⟨y0,y1⟩:=hx8.cells
 have lt8:=za_a hx8
 go_wp2_with fail
 refine (HAP.out _ hb8).mono ?_;rintro e w9 ⟨rfl,F9,hp9,hu9⟩
 obtain⟨F10,hd10,hu10⟩:=hp9.forget
 have hu8:Upd F w5 F7 W8:=(hu6.trans hu7).ext hb8
 clear y0 y1
 go_wp2_with fail
 refine (hd10.restart (SlP.nil _) (fun y hy=>by cases hy) rfl).mono ?_;rintro e w11 ⟨rfl,F11,hd11,hu11⟩
 have hu811:Upd F7 W8 F11 w11:=(hu9.trans hu10).trans hu11
 go_wp2_with fail
 refine (zh_g hd11 (by rw [L3.out];omega) H4.out).mono ?_;rintro e w12 hop
 obtain⟨q2,a2,k2,F12,rfl,hp12,hu12,hs12,ha12,hok12⟩:=OpQ.some hop
 clear hop
 have hu812:=hu811.trans hu12
 obtain⟨n12,hx12⟩:=hu812.out n7 lt8
 have hx12:SBox w12 w7.heap.size 0 (.slice a 0 k):=hx12.trans hx8
 obtain⟨y0,y1⟩:=hx12.cells
 have f0:=frozen_of_row _ _ 0 _ _ hx12
 have f1:=frozen_of_row _ _ 1 _ _ hx12
 have lt12:=za_a hx12
 rw [show ([Reg.p33]:List Pin).length=1 from rfl] at hs12 ⊢
 have hbut:But w7.heap.size w12 ((w12.setCell w7.heap.size (.int .i64 0)).setCell (w7.heap.size 1) (.slice a2 1 k2)):=((But.refl _ _).setCell 0 _).setCell 1 _
 have hS13:SBox ((w12.setCell w7.heap.size (.int .i64 0)).setCell (w7.heap.size 1) (.slice a2 1 k2)) w7.heap.size 0 (.slice a2 1 k2):=by
  have h1:(w12.setCell w7.heap.size (.int .i64 0)).heap[w7.heap.size]?=some (.cells #[.int .i64 0,.slice a 0 k] 44 (0,0)):=heap_setCell_same _ _ _ _ _ _ hx12
  exact heap_setCell_same _ _ 1 _ _ _ h1
 have hs13:=hs12.setOldS hx12 0 1 (.int .i64 0) (.slice a2 1 k2)
 go_wp2_with fail
 obtain⟨W13,hW13⟩:∃ W13,W13=((w12.setCell w7.heap.size (.int .i64 0)).setCell (w7.heap.size 1) (.slice a2 1 k2)):=⟨_,rfl⟩
 rw [<-hW13] at hbut hS13 hs13
 rw [<-hW13]
 clear hW13 y0 y1 f0 f1
 obtain⟨y0,y1⟩:=hS13.cells
 have hp13:PS g q2 S3 d4 F12 W13:=(PS.fp _ _ _ _).stay hp12 (fun b hb=>hbut.block b (hp12.lt b hb) (by rintro rfl;exact n12 hb)) hbut.size
 have hu13:Upd F w5 F12 W13:=((hu8.trans hu812)).but (.inr (by have:=hu6.size;have:=hu7.size;omega)) hbut
 obtain⟨b13,o13,ha13,hb13,-,hi13⟩:=hs13.at (show 0 < 1 by omega)
 subst ha13
 obtain⟨i0,i1,i2⟩:=hi13
 have i0':W13.cell? (b13 o13)=some (.string ⟨#[97,46,98]⟩):=i0
 have HCO:=zH (zg_l hp13 hok12 (by rw [L4.out];omega) 0 _ 1 k2 [Reg.p33] hs13 (by intro p hp;simp at hp;subst hp;decide) H5.out)
 clear i0 i1 i2
 have hrun:=zs_s b13 o13 k2 W13
 go_wp2_with fail
 refine HCO.out.mono ?_;rintro e w14 ⟨rfl,F14,hp14,hu14⟩
 obtain⟨F0,p,s,m,fa,fn,fc,rfl,-,hS14,-⟩:=hp14.open
 have HGE:=zH (zh_h hS14)
 rw [H6.out] at HGE
 go_wp2_with fail
 refine HGE.out.mono ?_;rintro e w15 ⟨rfl,rfl⟩
 go_wp2_with fail
 go_ret
 exact⟨rfl,(hu13.trans hu14).below hBw hFw hBw.size⟩
end
end Go.Proofs.YtmanejniepghlaaGreatDoor
