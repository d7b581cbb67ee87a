import Derived.Test.YtmanejniepghlaaGreatDoorRun41
import Derived.Test.YtmanejniepghlaaGreatDoorRun35
import Derived.Deep.RegionHeld3
namespace Go.Proofs.YtmanejniepghlaaGreatDoor
open Go.RowKit
open Disk (Dk)
set_option maxRecDepth 100000
variable {w w':World} {N b b1 bs c g n p q:Nat} {v:Value} {l:Reg.Lay} {d d':Dk} {F:Nat->Prop} {t:TypeId} {r:Int} {a:Option Addr} {x:List UInt8} {S:Reg.St}
theorem zf_k (n:Nat) (hn:n<=1000000) (w:World):∃ w' c,Sem.run Tryz.prog (Instr.makeSlice 70 (n:Value) (n:Value)) w=.ok (Value.slice w.heap.size n c) w'/\SlB w' w.heap.size n c (List.replicate n 0)/\Below w.heap.size w w':=by
 obtain⟨i0,hi,hz0,hz1,hz2⟩:=info_parts info5
 obtain⟨w',hrun,r1,r2⟩:=run_make_full (P:=Tryz.prog) w w.heap.size 70 5 i0 (.int .u8 0) 1 Tryz.underlying70 hi hz0 hz1 .i64 .i64 n (by rw [hz2];omega) (by unfold maxLen;omega) (zN _)
 rw [madeB n] at r1
 have hO:OwnB w.heap.size w' (.slice w.heap.size n n) (List.replicate n 0):=by unfold OwnB;rw [List.length_replicate];exact r1
 obtain⟨a,c,e,hs,-⟩:=hO.sl
 rw [List.length_replicate] at e hs
 refine⟨w',n,hrun,?_,(Below.refl _ _).grown r2 (zN _) (fun k hk=>by cases hk)⟩
 cases e;exact hs
theorem zp_r (w:World) (o0 o1 o2 o3:Obj):((((w.alloc o0).alloc o1).alloc o2).alloc o3).heap[w.heap.size]?=some o0/\((((w.alloc o0).alloc o1).alloc o2).alloc o3).heap[w.heap.size+1]?=some o1 ∧
 ((((w.alloc o0).alloc o1).alloc o2).alloc o3).heap[w.heap.size+2]?=some o2/\((((w.alloc o0).alloc o1).alloc o2).alloc o3).heap[w.heap.size+3]?=some o3/\Below w.heap.size w ((((w.alloc o0).alloc o1).alloc o2).alloc o3):=by
 have s1:(w.alloc o0).heap.size=w.heap.size+1:=by simp
 have s2:((w.alloc o0).alloc o1).heap.size=w.heap.size+2:=by simp
 have s3:(((w.alloc o0).alloc o1).alloc o2).heap.size=w.heap.size+3:=by simp
 refine⟨?_,?_,?_,?_,?_⟩
 ·rw [za_c _ _ _ (by omega),za_c _ _ _ (by omega),za_c _ _ _ (by omega),za_b _ _ _ rfl]
 ·rw [za_c _ _ _ (by omega),za_c _ _ _ (by omega),za_b _ _ _ s1.symm]
 ·rw [za_c _ _ _ (by omega),za_b _ _ _ s2.symm]
 ·rw [za_b _ _ _ s3.symm]
 ·exact (((((Below.refl w.heap.size w).alloc (zN _) o0).alloc (by omega) o1).alloc (by omega) o2).alloc (by omega) o3)
def layc (l:Reg.Lay):Array Value:=#[l.cap,.int .i64 (l.sf 0),l.sc,.int .i64 (l.sf 1),l.sc,.int .i64 (l.lf 0),l.lc,.int .i64 (l.lf 1),l.lc]
theorem zr_y (l:Reg.Lay):l.v=.agg (layc l):=rfl
def Bx (w:World) (b:Nat) (t:TypeId) (v:Value):Prop:=w.heap[b]?=some (.cells #[v] t (0,0))
theorem Bx.cell (h:Bx w b t v):w.cell? b=some v:=by rw [cell_of_row _ _ _ _ _ _ h];rfl
theorem Bx.same (h:Bx w b t v) (e:w'.heap[b]?=w.heap[b]?):Bx w' b t v:=e.trans h
theorem Bx.lt (h:Bx w b t v):b < w.heap.size:=za_a h
structure PB (w:World) (N g:Nat) (l:Reg.Lay) (r:Int) (v:Value):Prop where
 b0:Bx w N 37 (.pointer g)
 b1:w.heap[N+1]?=some (.cells (layc l) 26 (0,0))
 b2:Bx w (N+2) 3 (r:Value)
 b3:Bx w (N+3) 70 v
theorem PB.stay (h:PB w N g l r v) (e:∀ i,i < 4->w'.heap[N+i]?=w.heap[N+i]?):PB w' N g l r v :=
 ⟨h.b0.same (e 0 (by omega)),(e 1 (by omega)).trans h.b1,h.b2.same (e 2 (by omega)),h.b3.same (e 3 (by omega))⟩
theorem PB.lt (h:PB w N g l r v):N+3 < w.heap.size:=h.b3.lt
theorem PB.ext (h:PB w N g l r v) (e:Below w.heap.size w w'):PB w' N g l r v :=
 h.stay fun i hi=>e.block _ (by have:=h.lt;omega)
def prep1 (N:Nat):Value:=.func (.func 107) #[] #[.pointer N,.pointer (N+1:Nat),.pointer (N+2:Nat),.pointer (N+3:Nat)]
def prep2 (N:Nat):Value:=.func (.func 109) #[] #[.pointer N,.pointer (N+1:Nat),.pointer (N+2:Nat)]
set_option maxHeartbeats 2000000 in
theorem zg_m (g:Nat) (l:Reg.Lay) (r:Int) (a:Option Addr) (n c:Nat) (w:World) :
 Calls Tryz.prog 49 #[.pointer g,l.v,r,.slice a n c] w fun e w'=>e=.returned (.tuple #[prep1 w.heap.size,prep2 w.heap.size])/\Below w.heap.size w w'/\PB w' w.heap.size g l r (.slice a n c):=by
 rw [zr_y]
 unfold layc
 go_enter Tryz.func49,Tryz.ntmps49
 go_wp2_with fail
 go_ret2
 obtain⟨q0,q1,q2,q3,hB⟩:=zp_r w (.cells #[.pointer g] 37) (.cells (layc l) 26) (.cells #[r] 3) (.cells #[.slice a n c] 70)
 exact⟨rfl,hB,q0,q1,q2,q3⟩
set_option maxHeartbeats 2000000 in
theorem zl_f {r:Nat} (hr2:r < 2) (hb:PB w N g l r (.slice a n c)) (hd:DP g d F w) (hx:SlB w a n c x)
 (hF:∀ y,a=some y->x ≠ []->¬ F y.block) (hf:ib (l.sf r)) (hc:ib l.sc) {z:Int} (hr:Extent.write d (l.sf r) l.sc 0 x=(z,d')) :
 Calls Tryz.prog 107 #[.pointer N,.pointer (N+1:Nat),.pointer (N+2:Nat),.pointer (N+3:Nat)] w fun e w'=>e=.returned (z:Value)/\∃ F',DP g d' F' w'/\Upd F w F' w':=by
 have HW:=zH ((hd.ext (Below.drew (Below.refl _ w))).ewrite (l.sf r) l.sc 0 hf hc (by unfold ib;omega) (hx.stay (fun _ _ _=>rfl) (zN _)) hF hr)
 have c0:=hb.b0.cell
 have c2:=hb.b2.cell
 have c3:=hb.b3.cell
 have c1:∀ k,w.cell? ((N+1) k)=(layc l)[k]?:=fun k=>cell_of_row _ _ _ _ _ _ hb.b1
 have hlt:=hb.lt
 have hU0:Upd F w F w.drew:=(Upd.refl F w).drew
 clear hb hd hx hr
 rcases (show r=0\/r=1 by omega) with rfl|rfl
 case' _=>
  have p1:w.cell? ((N+1) 1)=some (.int .i64 (l.sf 0)):=c1 1
  have p2:w.cell? ((N+1) 2)=some (l.sc:Value):=c1 2
 rotate_left
 case' _=>
  have p1:w.cell? ((N+1) 3)=some (.int .i64 (l.sf 1)):=c1 3
  have p2:w.cell? ((N+1) 4)=some (l.sc:Value):=c1 4
 all_goals
  clear c1
  go_enter Tryz.func107,Tryz.ntmps107
  go_wp2_with fail
  refine wp_region_still_tail 6 (by kernel_rfl) (by kernel_rfl) ?_
  simp only [List.take_succ_cons,List.take_zero,List.drop_succ_cons,List.drop_zero]
  repeat still_step
  refine wpStill_nil ?_
  change wpList _ _ _ _ _ w.drew
  go_wp2_with fail
  refine HW.out.mono ?_;rintro e w1 ⟨rfl,F1,h1,h2⟩
  go_wp2_with fail
  go_ret
  exact⟨rfl,F1,h1,hU0.trans h2⟩
set_option maxHeartbeats 4000000 in
theorem zl_g {r:Nat} (hr2:r < 2) (hb:PB w N g l r v) (hd:DP g d F w)
 (hN:∀ i,i < 4->¬ F (N+i)) (hf:ib (l.lf r)) (hc:ib l.lc) {m:Nat} (hm:m<=1000000) (hsz:Extent.size l.lc=(m:Int)) {z:Int} (hr:Extent.write d (l.lf r) l.lc 0 (List.replicate m 0)=(z,d')) :
 Calls Tryz.prog 109 #[.pointer N,.pointer (N+1:Nat),.pointer (N+2:Nat)] w fun e w'=>e=.returned (z:Value)/\∃ F',DP g d' F' w'/\Upd F w F' w':=by
 have HW:=zH (fun W (e:Below w.heap.size w W) b (k:Nat) (hbF:¬ F b) (hs:SlB W b m k (List.replicate m 0))=>(hd.ext e).ewrite (l.lf r) l.lc 0 hf hc (by unfold ib;omega) hs (fun y hy _=>by cases hy;exact hbF) hr)
 have HG:=zH (fun (W:World) (e:Below w.heap.size w W)=>show ¬ F W.heap.size from fun h=>by have:=hd.lt _ h;have:=e.size;omega)
 have HSZ:=zH (fun W=>show Calls Tryz.prog 110 #[.agg #[.int .i64 (l.lf r),l.lc]] W fun e w'=>e=.returned (m:Value)/\Below W.heap.size W w' by rw [<-hsz];exact zd_w _ _ hc W)
 have c0:=hb.b0.cell
 have c2:=hb.b2.cell
 have c1:∀ k,w.cell? ((N+1) k)=(layc l)[k]?:=fun k=>cell_of_row _ _ _ _ _ _ hb.b1
 have hlt:=hb.lt
 have HK:=zH (fun (W:World) (e:Below w.heap.size w W)=>hb.ext e)
 have HK2:=zH (fun (G:Nat->Prop) (W:World) (e:Upd F w G W)=>hb.stay (w':=W) fun i hi=>e.block _ (by omega) (hN i hi))
 clear hb hd hr hsz hN
 have hmw:IntKind.i64.wrap (m:Int)=(m:Int):=by rw [IntKind.wrap_i64];omega
 rcases (show r=0\/r=1 by omega) with rfl|rfl
 ·have p1:w.cell? ((N+1) 5)=some (.int .i64 (l.lf 0)):=c1 5
  have p2:w.cell? ((N+1) 6)=some (l.lc:Value):=c1 6
  have HK:=zH (fun W (e:Below w.heap.size w W)=>show W.cell? N=some (.pointer g)/\W.cell? (N+2:Nat)=some (.int .i64 ((0:Nat):Int))/\W.cell? ((N+1) 5)=some (.int .i64 (l.lf 0))/\W.cell? ((N+1) 6)=some (l.lc:Value) from ⟨(HK.out W e).b0.cell,(HK.out W e).b2.cell,cell_of_row _ _ _ _ _ _ (HK.out W e).b1,cell_of_row _ _ _ _ _ _ (HK.out W e).b1⟩)
  have HK2:=zH (fun G W (e:Upd F w G W)=>show W.cell? N=some (.pointer g)/\W.cell? (N+2:Nat)=some (.int .i64 ((0:Nat):Int))/\W.cell? ((N+1) 5)=some (.int .i64 (l.lf 0))/\W.cell? ((N+1) 6)=some (l.lc:Value) from ⟨(HK2.out G W e).b0.cell,(HK2.out G W e).b2.cell,cell_of_row _ _ _ _ _ _ (HK2.out G W e).b1,cell_of_row _ _ _ _ _ _ (HK2.out G W e).b1⟩)
  clear c1
  go_enter Tryz.func109,Tryz.ntmps109
  go_wp2_with fail
  go_region_held3 (fun W=>W.cell? N=some (.pointer g)/\W.cell? (N+2:Nat)=some (.int .i64 ((0:Nat):Int))/\W.cell? ((N+1) 5)=some (.int .i64 (l.lf 0))/\W.cell? ((N+1) 6)=some (l.lc:Value)) (first|exact⟨c0,c2,p1,p2⟩|exact HK.out _ (by assumption)|exact HK2.out _ _ (by assumption)) (first
  |(go_at_call 110;go_must (refine (HSZ.out _).mono ?_);rintro e w1 ⟨rfl,hb1⟩;have hB1:Below w.heap.size w w1:=(Below.drew (Below.refl _ w)).trans hb1;obtain⟨w2,c4,hrun,hs2,hb2⟩:=zf_k m hm w1;have hB2:Below w.heap.size w w2:=hB1.trans (hb2.mono hB1.size))
  |(go_at_call 108;go_must (refine (HW.out _ hB2 _ _ (HG.out _ hB1) hs2).mono ?_);rintro e w3 ⟨rfl,F1,h1,h2⟩;have hU2:Upd F w F1 w3:=(Upd.of_ext hB2).trans h2))
  go_wp2_with fail
  go_ret
  exact⟨rfl,F1,h1,hU2⟩
 ·have p1:w.cell? ((N+1) 7)=some (.int .i64 (l.lf 1)):=c1 7
  have p2:w.cell? ((N+1) 8)=some (l.lc:Value):=c1 8
  have HK:=zH (fun W (e:Below w.heap.size w W)=>show W.cell? N=some (.pointer g)/\W.cell? (N+2:Nat)=some (.int .i64 ((1:Nat):Int))/\W.cell? ((N+1) 7)=some (.int .i64 (l.lf 1))/\W.cell? ((N+1) 8)=some (l.lc:Value) from ⟨(HK.out W e).b0.cell,(HK.out W e).b2.cell,cell_of_row _ _ _ _ _ _ (HK.out W e).b1,cell_of_row _ _ _ _ _ _ (HK.out W e).b1⟩)
  have HK2:=zH (fun G W (e:Upd F w G W)=>show W.cell? N=some (.pointer g)/\W.cell? (N+2:Nat)=some (.int .i64 ((1:Nat):Int))/\W.cell? ((N+1) 7)=some (.int .i64 (l.lf 1))/\W.cell? ((N+1) 8)=some (l.lc:Value) from ⟨(HK2.out G W e).b0.cell,(HK2.out G W e).b2.cell,cell_of_row _ _ _ _ _ _ (HK2.out G W e).b1,cell_of_row _ _ _ _ _ _ (HK2.out G W e).b1⟩)
  clear c1
  go_enter Tryz.func109,Tryz.ntmps109
  go_wp2_with fail
  go_region_held3 (fun W=>W.cell? N=some (.pointer g)/\W.cell? (N+2:Nat)=some (.int .i64 ((1:Nat):Int))/\W.cell? ((N+1) 7)=some (.int .i64 (l.lf 1))/\W.cell? ((N+1) 8)=some (l.lc:Value)) (first|exact⟨c0,c2,p1,p2⟩|exact HK.out _ (by assumption)|exact HK2.out _ _ (by assumption)) (first
  |(go_at_call 110;go_must (refine (HSZ.out _).mono ?_);rintro e w1 ⟨rfl,hb1⟩;have hB1:Below w.heap.size w w1:=(Below.drew (Below.refl _ w)).trans hb1;obtain⟨w2,c4,hrun,hs2,hb2⟩:=zf_k m hm w1;have hB2:Below w.heap.size w w2:=hB1.trans (hb2.mono hB1.size))
  |(go_at_call 108;go_must (refine (HW.out _ hB2 _ _ (HG.out _ hB1) hs2).mono ?_);rintro e w3 ⟨rfl,F1,h1,h2⟩;have hU2:Upd F w F1 w3:=(Upd.of_ext hB2).trans h2))
  go_wp2_with fail
  go_ret
  exact⟨rfl,F1,h1,hU2⟩
theorem WOP.ptr {lo:Option Wal.L} {pv:Value} {P:Wal.L->Nat->Prop} (h:(lo=none/\pv=.pointer none)\/∃ L p,lo=some L/\pv=.pointer (p:Nat)/\P L p):∃ o,pv=.pointer o:=by
 rcases h with⟨-,rfl⟩|⟨L,p,-,rfl,-⟩ <;> exact⟨_,rfl⟩
theorem zm_e {b2:Nat} (h1:Bx w b1 37 (.pointer g)) (h2:Bx w b2 70 (.slice a n c))
 (hd:DP g d F w) (hx:SlB w a n c x) (hF:∀ y,a=some y->x ≠ []->¬ F y.block) {z:Int} (hr:Disk.write d 0 x=(z,d')) :
 Calls Tryz.prog 52 #[.pointer b1,.pointer b2] w fun e w'=>e=.returned (z:Value)/\∃ F',DP g d' F' w'/\Upd F w F' w':=by
 have HW:=zH (hd.write 0 hx hF hr)
 have c1:=h1.cell
 have c2:=h2.cell
 clear h1 h2 hd hx hr
 go_enter Tryz.func52,Tryz.ntmps52
 go_wp2_with fail
 refine HW.out.mono ?_;rintro e w1 ⟨rfl,F1,q1,q2⟩
 go_wp2_with fail
 go_ret
 exact⟨rfl,F1,q1,q2⟩
set_option maxHeartbeats 2000000 in
theorem zm_f (h1:Bx w b1 37 (.pointer g)) (hd:DP g d F w) (hb:¬ F b1) {z:Int} (hr:Disk.write d 1 (List.replicate 64 0)=(z,d')) :
 Calls Tryz.prog 54 #[.pointer b1] w fun e w'=>e=.returned (z:Value)/\∃ F',DP g d' F' w'/\Upd F w F' w':=by
 obtain⟨w2,c4,hrun0,hs2,hb2⟩:=zf_k 64 (by omega) w.drew
 have hrun:Sem.run Tryz.prog (Instr.makeSlice 70 (.int .i64 64) (.int .i64 64)) w.drew=.ok (Value.slice w.drew.heap.size 64 c4) w2:=hrun0
 clear hrun0
 have hB2:Below w.heap.size w w2:=(Below.drew (Below.refl _ w)).trans hb2
 have hg:¬ F w.drew.heap.size:=fun e=>Nat.lt_irrefl _ (hd.lt _ e)
 have HW:=zH ((hd.ext hB2).write 1 hs2 (fun y hy _=>by cases hy;exact hg) hr)
 have c1:=h1.cell
 have hlt:=h1.lt
 have HK:=zH (fun (W:World) (e:Below w.heap.size w W)=>(h1.same (e.block _ hlt)).cell)
 have HK2:=zH (fun (G:Nat->Prop) (W:World) (e:Upd F w G W)=>(h1.same (e.block _ hlt hb)).cell)
 clear h1 hd hr
 go_enter Tryz.func54,Tryz.ntmps54
 go_wp2_with fail
 go_region_held3 (fun W=>W.cell? b1=some (.pointer g)) (first|exact c1|exact HK.out _ (by assumption)|exact HK2.out _ _ (by assumption)) (first
 |(go_at_call 53;go_must (refine HW.out.mono ?_);rintro e w3 ⟨rfl,F1,q1,q2⟩;have hU2:Upd F w F1 w3:=(Upd.of_ext hB2).trans q2))
 go_wp2_with fail
 go_ret
 exact⟨rfl,F1,q1,hU2⟩
set_option maxHeartbeats 8000000 in
theorem zj_w {bn bl:Nat} {nx:Super.S} {lv:Value} {r:Nat} (hr2:r < 2) (hact:nx.act=(r:Int)) (h1:Bx w bs 41 (.pointer q)) (hq:SB w q g p S) (h2:SupBox w bn nx) (h3:Bx w bl 106 lv)
 {d:Dk} {F:Nat->Prop} (hd:DP g d F w) (hbl:¬ F bl) (hbs:¬ F bs) (hbn:¬ F bn) (hbq:¬ F q) (l1:bl ≠ bs) (l2:bl ≠ bn) (l3:bl ≠ q) (hf:ib (S.lay.lf r)) (hc:ib S.lay.lc) (hep:nx.epoch < 4294967296) (hn:d.st.length<=1000) {R:Option Wal.L × List (List UInt8) × Int × Dk} (hr:Wal.open d (S.lay.lf r) S.lay.lc nx.epoch=R) :
 Calls Tryz.prog 65 #[.pointer bs,.pointer bn,.pointer bl] w fun e w'=>e=.returned (R.2.2.1:Value) ∧
  ∃ pv w1 F',w'=w1.setCell bl pv/\DP g R.2.2.2 F' w1/\Upd F w F' w1/\((R.1=none/\pv=.pointer none)\/∃ L p',R.1=some L/\pv=.pointer (p':Nat)/\w.heap.size<=p'/\LB w1 p' g L/\¬ F' p'):=by
 have HW:=zH ((hd.ext (Below.drew (Below.refl _ w))).wopen (S.lay.lf r) S.lay.lc hf hc nx.epoch hep hn hr)
 have hlt:=h3.lt
 have HF:=zH (fun (G:Nat->Prop) (W:World) (e:Upd F w G W)=>frozen_of_row W bl 0 _ _ (h3.same (e.block _ hlt hbl)))
 have HC:=zH (fun (G:Nat->Prop) (W:World) (e:Upd F w G W)=>(h3.same (e.block _ hlt hbl)).cell)
 have c3:=h3.cell
 have c1:=h1.cell
 have s0:=hq.disk
 have n1:=h2.cells.2.1
 have n2:=h2.cells.2.2.1
 have HK:=zH (fun (G:Nat->Prop) (W:World) (e:Upd F w G W)=>And.intro (h1.same (e.block _ h1.lt hbs)) (And.intro (hq.same (e.block _ hq.lt hbq)) (show SupBox W bn nx from (e.block _ (za_a h2) hbn).trans h2)))
 have HK2:=zH (fun (G:Nat->Prop) (W:World) (v:Value) (e:Upd F w G W)=>And.intro (h1.same ((heap_setCell_other W bl bs v (Ne.symm l1)).trans (e.block _ h1.lt hbs))) (And.intro (hq.same ((heap_setCell_other W bl q v (Ne.symm l3)).trans (e.block _ hq.lt hbq))) (show SupBox (W.setCell bl v) bn nx from (heap_setCell_other W bl bn v (Ne.symm l2)).trans ((e.block _ (za_a h2) hbn).trans h2))))
 rw [hact] at n1
 have hU0:Upd F w F w.drew:=(Upd.refl F w).drew
 obtain⟨ep,hepE⟩:∃ ep,nx.epoch=ep:=⟨_,rfl⟩
 rw [hepE] at HW n2
 obtain⟨lo,ps,z,d'⟩:=R
 rcases (show r=0\/r=1 by omega) with rfl|rfl
 ·have s1:w.cell? (q 6)=some (.int .i64 (S.lay.lf 0)):=hq.at 6
  have s2:w.cell? (q 7)=some (S.lay.lc:Value):=hq.at 7
  have HK:=zH (fun G W (e:Upd F w G W)=>show W.cell? bs=some (.pointer q)/\W.cell? q=some (.pointer g)/\W.cell? (bn 1)=some (.int .i64 ((0:Nat):Int))/\W.cell? (q 6)=some (.int .i64 (S.lay.lf 0))/\W.cell? (q 7)=some (S.lay.lc:Value)/\W.cell? (bn 2)=some (.int .u32 (ep:Nat)) from ⟨(HK.out G W e).1.cell,(HK.out G W e).2.1.disk,by rw [(HK.out G W e).2.2.cells.2.1,hact],(HK.out G W e).2.1.at 6,(HK.out G W e).2.1.at 7,by rw [(HK.out G W e).2.2.cells.2.2.1,hepE]⟩)
  have HK2:=zH (fun G (W0:World) (v:Value) (e:Upd F w G W0)=>show (fun W:World=>W.cell? bs=some (.pointer q)/\W.cell? q=some (.pointer g)/\W.cell? (bn 1)=some (.int .i64 ((0:Nat):Int))/\W.cell? (q 6)=some (.int .i64 (S.lay.lf 0))/\W.cell? (q 7)=some (S.lay.lc:Value)/\W.cell? (bn 2)=some (.int .u32 (ep:Nat))) (W0.setCell bl v) from ⟨(HK2.out G W0 v e).1.cell,(HK2.out G W0 v e).2.1.disk,by rw [(HK2.out G W0 v e).2.2.cells.2.1,hact],(HK2.out G W0 v e).2.1.at 6,(HK2.out G W0 v e).2.1.at 7,by rw [(HK2.out G W0 v e).2.2.cells.2.2.1,hepE]⟩)
  clear h1 hq h2 h3 hd hr hact hepE
  go_enter Tryz.func65,Tryz.ntmps65
  go_wp2_with fail
  go_region_held3 (fun W=>W.cell? bs=some (.pointer q)/\W.cell? q=some (.pointer g)/\W.cell? (bn 1)=some (.int .i64 ((0:Nat):Int))/\W.cell? (q 6)=some (.int .i64 (S.lay.lf 0))/\W.cell? (q 7)=some (S.lay.lc:Value)/\W.cell? (bn 2)=some (.int .u32 (ep:Nat))) (first|exact⟨c1,s0,n1,s1,s2,n2⟩|exact HK.out _ _ (by assumption)|exact HK2.out _ _ _ (by assumption)) (first
  |(go_at_call 66;go_must (refine HW.out.mono ?_);rintro e w1 ⟨pv,v,F1,rfl,q1,q2,q3,q4⟩;have hU1:=hU0.trans q3;have f1:=HF.out F1 w1 hU1;have f2:=HC.out F1 w1 hU1;obtain⟨o,rfl⟩:∃ o,pv=.pointer o:=WOP.ptr q4;have Q4:=zH q4;clear q4))
  go_wp2_with fail
  go_ret
  exact⟨rfl,_,w1,F1,rfl,q2,hU1,Q4.out⟩
 ·have s1:w.cell? (q 8)=some (.int .i64 (S.lay.lf 1)):=hq.at 8
  have s2:w.cell? (q 9)=some (S.lay.lc:Value):=hq.at 9
  have HK:=zH (fun G W (e:Upd F w G W)=>show W.cell? bs=some (.pointer q)/\W.cell? q=some (.pointer g)/\W.cell? (bn 1)=some (.int .i64 ((1:Nat):Int))/\W.cell? (q 8)=some (.int .i64 (S.lay.lf 1))/\W.cell? (q 9)=some (S.lay.lc:Value)/\W.cell? (bn 2)=some (.int .u32 (ep:Nat)) from ⟨(HK.out G W e).1.cell,(HK.out G W e).2.1.disk,by rw [(HK.out G W e).2.2.cells.2.1,hact],(HK.out G W e).2.1.at 8,(HK.out G W e).2.1.at 9,by rw [(HK.out G W e).2.2.cells.2.2.1,hepE]⟩)
  have HK2:=zH (fun G (W0:World) (v:Value) (e:Upd F w G W0)=>show (fun W:World=>W.cell? bs=some (.pointer q)/\W.cell? q=some (.pointer g)/\W.cell? (bn 1)=some (.int .i64 ((1:Nat):Int))/\W.cell? (q 8)=some (.int .i64 (S.lay.lf 1))/\W.cell? (q 9)=some (S.lay.lc:Value)/\W.cell? (bn 2)=some (.int .u32 (ep:Nat))) (W0.setCell bl v) from ⟨(HK2.out G W0 v e).1.cell,(HK2.out G W0 v e).2.1.disk,by rw [(HK2.out G W0 v e).2.2.cells.2.1,hact],(HK2.out G W0 v e).2.1.at 8,(HK2.out G W0 v e).2.1.at 9,by rw [(HK2.out G W0 v e).2.2.cells.2.2.1,hepE]⟩)
  clear h1 hq h2 h3 hd hr hact hepE
  go_enter Tryz.func65,Tryz.ntmps65
  go_wp2_with fail
  go_region_held3 (fun W=>W.cell? bs=some (.pointer q)/\W.cell? q=some (.pointer g)/\W.cell? (bn 1)=some (.int .i64 ((1:Nat):Int))/\W.cell? (q 8)=some (.int .i64 (S.lay.lf 1))/\W.cell? (q 9)=some (S.lay.lc:Value)/\W.cell? (bn 2)=some (.int .u32 (ep:Nat))) (first|exact⟨c1,s0,n1,s1,s2,n2⟩|exact HK.out _ _ (by assumption)|exact HK2.out _ _ _ (by assumption)) (first
  |(go_at_call 66;go_must (refine HW.out.mono ?_);rintro e w1 ⟨pv,v,F1,rfl,q1,q2,q3,q4⟩;have hU1:=hU0.trans q3;have f1:=HF.out F1 w1 hU1;have f2:=HC.out F1 w1 hU1;obtain⟨o,rfl⟩:∃ o,pv=.pointer o:=WOP.ptr q4;have Q4:=zH q4;clear q4))
  go_wp2_with fail
  go_ret
  exact⟨rfl,_,w1,F1,rfl,q2,hU1,Q4.out⟩
set_option maxHeartbeats 4000000 in
theorem zj_x {bu:Nat} (h1:Bx w bs 41 (.pointer q)) (hq:SB w q g p S) (h2:Bx w bu 70 (.slice a n c))
 {d d':Dk} {F:Nat->Prop} (hd:DP g d F w) (hs:S.slot < 2) (hx:SlB w a n c x) (hF:∀ y,a=some y->x ≠ []->¬ F y.block) {z:Int} (hr:Disk.write d ((1 - S.slot:Nat):Int) x=(z,d')) :
 Calls Tryz.prog 67 #[.pointer bs,.pointer bu] w fun e w'=>e=.returned (z:Value)/\∃ F',DP g d' F' w'/\Upd F w F' w':=by
 have HW:=zH ((hd.ext (Below.drew (Below.refl _ w))).write ((1 - S.slot:Nat):Int) (hx.stay (fun _ _ _=>rfl) (zN _)) hF hr)
 have c1:=h1.cell
 have c2:=h2.cell
 have s0:=hq.disk
 have s1:=hq.slot
 have hU0:Upd F w F w.drew:=(Upd.refl F w).drew
 obtain⟨sl,hsl⟩:∃ sl:Int,((1 - S.slot:Nat):Int)=sl:=⟨_,rfl⟩
 have e1:(1:Int) - (S.slot:Int)=sl:=by omega
 rw [hsl] at HW
 have b0:0<=sl/\sl<=1:=by omega
 generalize (S.slot:Int)=so at *
 clear h1 hq h2 hd hx hr hsl hs
 go_enter Tryz.func67,Tryz.ntmps67
 go_wp2_with fail
 refine wp_region_still_tail 10 (by kernel_rfl) (by kernel_rfl) ?_
 simp only [List.take_succ_cons,List.take_zero,List.drop_succ_cons,List.drop_zero]
 repeat still_step
 refine wpStill_nil ?_
 change wpList _ _ _ _ _ w.drew
 go_wp2_with fail
 refine HW.out.mono ?_;rintro e w1 ⟨rfl,F1,q1,q2⟩
 go_wp2_with fail
 go_ret
 exact⟨rfl,F1,q1,hU0.trans q2⟩
end Go.Proofs.YtmanejniepghlaaGreatDoor
