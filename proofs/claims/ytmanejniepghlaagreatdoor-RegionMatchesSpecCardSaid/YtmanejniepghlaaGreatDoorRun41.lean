import Derived.Test.YtmanejniepghlaaGreatDoorRun40
import Derived.Test.YtmanejniepghlaaGreatDoorRun36
import Derived.Deep.RegionHeld3
set_option maxHeartbeats 8000000
namespace Go.Proofs.YtmanejniepghlaaGreatDoor
open Go.RowKit
open Dd (Dk)
set_option maxRecDepth 100000
variable {w w':World} {N b b1 bs c g n p q:Nat} {v:Value} {l:AH.DK} {d d':Dk} {F:Nat->Prop} {t:TypeId} {r:Int} {a:Option Addr} {x:List UInt8} {S:AH.St}
theorem Xj (n:Nat) (hn:n<=1000000) (w:World):∃ w' c,Sem.run Tryz.prog (Instr.makeSlice 70 (n:Value) (n:Value)) w=.ok (Value.slice w.heap.size n c) w'/\AM w' w.heap.size n c (List.replicate n 0)/\Below w.heap.size w w':=by
 obtain⟨y,s,i,j,m⟩:=info_parts JX
 obtain⟨w',h,f,z⟩:=run_make_full (P:=Tryz.prog) w w.heap.size 70 5 y (.int .u8 0) 1 Tryz.underlying70 s i j .i64 .i64 n (by rw [m];omega) (by unfold maxLen;omega) (zN _)
 rw [QH n] at f
 have o:AC w.heap.size w' (.slice w.heap.size n n) (List.replicate n 0):=by unfold AC;rw [List.length_replicate];exact f
 obtain⟨a,c,e,hs,-⟩:=o.sl
 rw [List.length_replicate] at e hs
 refine⟨w',n,h,?_,(Below.refl _ _).grown z (zN _) (fun k u=>by cases u)⟩
 cases e;exact hs
theorem Dx (w:World) (e f h i:Obj):((((w.alloc e).alloc f).alloc h).alloc i).heap[w.heap.size]?=some e/\((((w.alloc e).alloc f).alloc h).alloc i).heap[w.heap.size+1]?=some f ∧
 ((((w.alloc e).alloc f).alloc h).alloc i).heap[w.heap.size+2]?=some h/\((((w.alloc e).alloc f).alloc h).alloc i).heap[w.heap.size+3]?=some i/\Below w.heap.size w ((((w.alloc e).alloc f).alloc h).alloc i):=by
 have j:(w.alloc e).heap.size=w.heap.size+1:=by simp
 have k:((w.alloc e).alloc f).heap.size=w.heap.size+2:=by simp
 have m:(((w.alloc e).alloc f).alloc h).heap.size=w.heap.size+3:=by simp
 refine⟨?_,?_,?_,?_,?_⟩
 ·rw [Qd _ _ _ (by omega),Qd _ _ _ (by omega),Qd _ _ _ (by omega),Qb _ _ _ rfl]
 ·rw [Qd _ _ _ (by omega),Qd _ _ _ (by omega),Qb _ _ _ j.symm]
 ·rw [Qd _ _ _ (by omega),Qb _ _ _ k.symm]
 ·rw [Qb _ _ _ m.symm]
 ·exact (((((Below.refl w.heap.size w).alloc (zN _) e).alloc (by omega) f).alloc (by omega) h).alloc (by omega) i)
def layc (l:AH.DK):Array Value:=#[l.cap,.int .i64 (l.sf 0),l.sc,.int .i64 (l.sf 1),l.sc,.int .i64 (l.lf 0),l.lc,.int .i64 (l.lf 1),l.lc]
theorem Iu (l:AH.DK):l.v=.agg (layc l):=rfl
def Bx (w:World) (b:Nat) (t:TypeId) (v:Value):Prop:=w.heap[b]?=some (.cells #[v] t (0,0))
theorem Bx.cell (h:Bx w b t v):w.cell? b=some v:=by rw [cell_of_row _ _ _ _ _ _ h];rfl
theorem Bx.same (h:Bx w b t v) (e:w'.heap[b]?=w.heap[b]?):Bx w' b t v:=e.trans h
theorem Bx.lt (h:Bx w b t v):b < w.heap.size:=Qa h
structure PB (w:World) (N g:Nat) (l:AH.DK) (r:Int) (v:Value):Prop where
 b0:Bx w N 37 (.pointer g)
 b1:w.heap[N+1]?=some (.cells (layc l) 26 (0,0))
 b2:Bx w (N+2) 3 (r:Value)
 b3:Bx w (N+3) 70 v
theorem PB.AI (h:PB w N g l r v) (e:∀ i,i < 4->w'.heap[N+i]?=w.heap[N+i]?):PB w' N g l r v :=
 ⟨h.b0.same (e 0 (by omega)),(e 1 (by omega)).trans h.b1,h.b2.same (e 2 (by omega)),h.b3.same (e 3 (by omega))⟩
theorem PB.lt (h:PB w N g l r v):N+3 < w.heap.size:=h.b3.lt
theorem PB.ext (h:PB w N g l r v) (e:Below w.heap.size w w'):PB w' N g l r v :=
 h.AI fun i f=>e.block _ (by have:=h.lt;omega)
def EV (N:Nat):Value:=.func (.func 107) #[] #[.pointer N,.pointer (N+1:Nat),.pointer (N+2:Nat),.pointer (N+3:Nat)]
def EW (N:Nat):Value:=.func (.func 109) #[] #[.pointer N,.pointer (N+1:Nat),.pointer (N+2:Nat)]
theorem Hf (g:Nat) (l:AH.DK) (r:Int) (a:Option Addr) (n c:Nat) (w:World) :
 Calls Tryz.prog 49 #[.pointer g,l.v,r,.slice a n c] w fun e w'=>e=.returned (.tuple #[EV w.heap.size,EW w.heap.size])/\Below w.heap.size w w'/\PB w' w.heap.size g l r (.slice a n c):=by
 rw [Iu]
 unfold layc
 go_in
 go_wp2_with fail
 go_ret2
 obtain⟨h,i,j,k,f⟩:=Dx w (.cells #[.pointer g] 37) (.cells (layc l) 26) (.cells #[r] 3) (.cells #[.slice a n c] 70)
 exact⟨rfl,f,h,i,j,k⟩
theorem Nt {r:Nat} (J:r < 2) (f:PB w N g l r (.slice a n c)) (hd:DP g d F w) (j:AM w a n c x)
 (hF:∀ y,a=some y->x ≠ []->¬ F y.block) (C:ib (l.sf r)) (B:ib l.sc) {z:Int} (hr:Ex.write d (l.sf r) l.sc 0 x=(z,d')) :
 Calls Tryz.prog 107 #[.pointer N,.pointer (N+1:Nat),.pointer (N+2:Nat),.pointer (N+3:Nat)] w fun e w'=>e=.returned (z:Value)/\∃ i,DP g d' i w'/\AD F w i w':=by
 have s:=zH ((hd.ext (Below.drew (Below.refl _ w))).ewrite (l.sf r) l.sc 0 C B (by unfold ib;omega) (j.AI (fun _ _ _=>rfl) (zN _)) hF hr)
 have K:=f.b0.cell
 have M:=f.b2.cell
 have O:=f.b3.cell
 have h:∀ k,w.cell? ((N+1) k)=(layc l)[k]?:=fun k=>cell_of_row _ _ _ _ _ _ f.b1
 have I:=f.lt
 have m:AD F w F w.drew:=(AD.refl F w).drew
 clear f hd j hr
 rcases (show r=0\/r=1 by omega) with rfl|rfl
 case' _=>
  have G:w.cell? ((N+1) 1)=some (.int .i64 (l.sf 0)):=h 1
  have H:w.cell? ((N+1) 2)=some (l.sc:Value):=h 2
 rotate_left
 case' _=>
  have G:w.cell? ((N+1) 3)=some (.int .i64 (l.sf 1)):=h 3
  have H:w.cell? ((N+1) 4)=some (l.sc:Value):=h 4
 all_goals
  clear h
  go_in
  go_wp2_with fail
  refine wp_region_still_tail 6 (by kernel_rfl) (by kernel_rfl) ?_
  simp only [List.take_succ_cons,List.take_zero,List.drop_succ_cons,List.drop_zero]
  repeat still_step
  refine wpStill_nil ?_
  change wpList _ _ _ _ _ w.drew
  go_wp2_with fail
  refine s.out.mono ?_;rintro e P ⟨rfl,o,u,A⟩
  go_wp2_with fail
  go_ret
  exact⟨rfl,o,u,m.trans A⟩
theorem Nu {r:Nat} (ze:r < 2) (s:PB w N g l r v) (hd:DP g d F w)
 (hN:∀ i,i < 4->¬ F (N+i)) (hf:ib (l.lf r)) (hc:ib l.lc) {m:Nat} (hm:m<=1000000) (hsz:Ex.size l.lc=(m:Int)) {z:Int} (hr:Ex.write d (l.lf r) l.lc 0 (List.replicate m 0)=(z,d')) :
 Calls Tryz.prog 109 #[.pointer N,.pointer (N+1:Nat),.pointer (N+2:Nat)] w fun e w'=>e=.returned (z:Value)/\∃ X,DP g d' X w'/\AD F w X w':=by
 have Z:=zH (fun W (e:Below w.heap.size w W) b (k:Nat) (zb:¬ F b) (hs:AM W b m k (List.replicate m 0))=>(hd.ext e).ewrite (l.lf r) l.lc 0 hf hc (by unfold ib;omega) hs (fun y hy _=>by cases hy;exact zb) hr)
 have Y:=zH (fun (W:World) (e:Below w.heap.size w W)=>show ¬ F W.heap.size from fun h=>by have:=hd.lt _ h;have:=e.size;omega)
 have U:=zH (fun W=>show Calls Tryz.prog 110 #[.agg #[.int .i64 (l.lf r),l.lc]] W fun e w'=>e=.returned (m:Value)/\Below W.heap.size W w' by rw [<-hsz];exact Zj _ _ hc W)
 have c0:=s.b0.cell
 have c2:=s.b2.cell
 have u:∀ k,w.cell? ((N+1) k)=(layc l)[k]?:=fun k=>cell_of_row _ _ _ _ _ _ s.b1
 have zc:=s.lt
 have j:=zH (fun (W:World) (e:Below w.heap.size w W)=>s.ext e)
 have f:=zH (fun (G:Nat->Prop) (W:World) (e:AD F w G W)=>s.AI (w':=W) fun i hi=>e.block _ (by omega) (hN i hi))
 clear s hd hr hsz hN
 have zd:IntKind.i64.wrap (m:Int)=(m:Int):=by rw [IntKind.wrap_i64];omega
 rcases (show r=0\/r=1 by omega) with rfl|rfl
 ·have P:w.cell? ((N+1) 5)=some (.int .i64 (l.lf 0)):=u 5
  have Q:w.cell? ((N+1) 6)=some (l.lc:Value):=u 6
  have j:=zH (fun W (e:Below w.heap.size w W)=>show W.cell? N=some (.pointer g)/\W.cell? (N+2:Nat)=some (.int .i64 ((0:Nat):Int))/\W.cell? ((N+1) 5)=some (.int .i64 (l.lf 0))/\W.cell? ((N+1) 6)=some (l.lc:Value) from ⟨(j.out W e).b0.cell,(j.out W e).b2.cell,cell_of_row _ _ _ _ _ _ (j.out W e).b1,cell_of_row _ _ _ _ _ _ (j.out W e).b1⟩)
  have f:=zH (fun G W (e:AD F w G W)=>show W.cell? N=some (.pointer g)/\W.cell? (N+2:Nat)=some (.int .i64 ((0:Nat):Int))/\W.cell? ((N+1) 5)=some (.int .i64 (l.lf 0))/\W.cell? ((N+1) 6)=some (l.lc:Value) from ⟨(f.out G W e).b0.cell,(f.out G W e).b2.cell,cell_of_row _ _ _ _ _ _ (f.out G W e).b1,cell_of_row _ _ _ _ _ _ (f.out G W e).b1⟩)
  clear u
  go_in
  go_wp2_with fail
  go_region_held3 (fun W=>W.cell? N=some (.pointer g)/\W.cell? (N+2:Nat)=some (.int .i64 ((0:Nat):Int))/\W.cell? ((N+1) 5)=some (.int .i64 (l.lf 0))/\W.cell? ((N+1) 6)=some (l.lc:Value)) (first|exact⟨c0,c2,P,Q⟩|exact j.out _ (by assumption)|exact f.out _ _ (by assumption)) (first
  |(go_at_call 110;go_must (refine (U.out _).mono ?_);rintro e C ⟨rfl,I⟩;have o:Below w.heap.size w C:=(Below.drew (Below.refl _ w)).trans I;obtain⟨R,c4,za,K,J⟩:=Xj m hm C;have A:Below w.heap.size w R:=o.trans (J.mono o.size))
  |(go_at_call 108;go_must (refine (Z.out _ A _ _ (Y.out _ o) K).mono ?_);rintro e T ⟨rfl,B,M,O⟩;have H:AD F w B T:=(AD.AL A).trans O))
  go_wp2_with fail
  go_ret
  exact⟨rfl,B,M,H⟩
 ·have P:w.cell? ((N+1) 7)=some (.int .i64 (l.lf 1)):=u 7
  have Q:w.cell? ((N+1) 8)=some (l.lc:Value):=u 8
  have j:=zH (fun W (e:Below w.heap.size w W)=>show W.cell? N=some (.pointer g)/\W.cell? (N+2:Nat)=some (.int .i64 ((1:Nat):Int))/\W.cell? ((N+1) 7)=some (.int .i64 (l.lf 1))/\W.cell? ((N+1) 8)=some (l.lc:Value) from ⟨(j.out W e).b0.cell,(j.out W e).b2.cell,cell_of_row _ _ _ _ _ _ (j.out W e).b1,cell_of_row _ _ _ _ _ _ (j.out W e).b1⟩)
  have f:=zH (fun G W (e:AD F w G W)=>show W.cell? N=some (.pointer g)/\W.cell? (N+2:Nat)=some (.int .i64 ((1:Nat):Int))/\W.cell? ((N+1) 7)=some (.int .i64 (l.lf 1))/\W.cell? ((N+1) 8)=some (l.lc:Value) from ⟨(f.out G W e).b0.cell,(f.out G W e).b2.cell,cell_of_row _ _ _ _ _ _ (f.out G W e).b1,cell_of_row _ _ _ _ _ _ (f.out G W e).b1⟩)
  clear u
  go_in
  go_wp2_with fail
  go_region_held3 (fun W=>W.cell? N=some (.pointer g)/\W.cell? (N+2:Nat)=some (.int .i64 ((1:Nat):Int))/\W.cell? ((N+1) 7)=some (.int .i64 (l.lf 1))/\W.cell? ((N+1) 8)=some (l.lc:Value)) (first|exact⟨c0,c2,P,Q⟩|exact j.out _ (by assumption)|exact f.out _ _ (by assumption)) (first
  |(go_at_call 110;go_must (refine (U.out _).mono ?_);rintro e C ⟨rfl,I⟩;have o:Below w.heap.size w C:=(Below.drew (Below.refl _ w)).trans I;obtain⟨R,c4,za,K,J⟩:=Xj m hm C;have A:Below w.heap.size w R:=o.trans (J.mono o.size))
  |(go_at_call 108;go_must (refine (Z.out _ A _ _ (Y.out _ o) K).mono ?_);rintro e T ⟨rfl,B,M,O⟩;have H:AD F w B T:=(AD.AL A).trans O))
  go_wp2_with fail
  go_ret
  exact⟨rfl,B,M,H⟩
theorem VW.ptr {lo:Option AO.L} {pv:Value} {P:AO.L->Nat->Prop} (h:(lo=none/\pv=.pointer none)\/∃ L p,lo=some L/\pv=.pointer (p:Nat)/\P L p):∃ o,pv=.pointer o:=by
 rcases h with⟨-,rfl⟩|⟨L,p,-,rfl,-⟩ <;> exact⟨_,rfl⟩
theorem Rx {h:Nat} (i:Bx w b1 37 (.pointer g)) (j:Bx w h 70 (.slice a n c))
 (hd:DP g d F w) (k:AM w a n c x) (hF:∀ y,a=some y->x ≠ []->¬ F y.block) {z:Int} (hr:Dd.write d 0 x=(z,d')) :
 Calls Tryz.prog 52 #[.pointer b1,.pointer h] w fun e w'=>e=.returned (z:Value)/\∃ f,DP g d' f w'/\AD F w f w':=by
 have o:=zH (hd.write 0 k hF hr)
 have A:=i.cell
 have B:=j.cell
 clear i j hd k hr
 go_in
 go_wp2_with fail
 refine o.out.mono ?_;rintro e C ⟨rfl,m,s,u⟩
 go_wp2_with fail
 go_ret
 exact⟨rfl,m,s,u⟩
theorem Ry (f:Bx w b1 37 (.pointer g)) (hd:DP g d F w) (K:¬ F b1) {z:Int} (hr:Dd.write d 1 (List.replicate 64 0)=(z,d')) :
 Calls Tryz.prog 54 #[.pointer b1] w fun e w'=>e=.returned (z:Value)/\∃ k,DP g d' k w'/\AD F w k w':=by
 obtain⟨o,J,h,B,A⟩:=Xj 64 (by omega) w.drew
 have T:Sem.run Tryz.prog (Instr.makeSlice 70 (.int .i64 64) (.int .i64 64)) w.drew=.ok (Value.slice w.drew.heap.size 64 J) o:=h
 clear h
 have i:Below w.heap.size w o:=(Below.drew (Below.refl _ w)).trans A
 have M:¬ F w.drew.heap.size:=fun e=>Nat.lt_irrefl _ (hd.lt _ e)
 have H:=zH ((hd.ext i).write 1 B (fun y O _=>by cases O;exact M) hr)
 have I:=f.cell
 have j:=f.lt
 have C:=zH (fun (W:World) (e:Below w.heap.size w W)=>(f.same (e.block _ j)).cell)
 have s:=zH (fun (G:Nat->Prop) (W:World) (e:AD F w G W)=>(f.same (e.block _ j K)).cell)
 clear f hd hr
 go_in
 go_wp2_with fail
 go_region_held3 (fun W=>W.cell? b1=some (.pointer g)) (first|exact I|exact C.out _ (by assumption)|exact s.out _ _ (by assumption)) (first
 |(go_at_call 53;go_must (refine H.out.mono ?_);rintro e R ⟨rfl,m,P,Q⟩;have u:AD F w m R:=(AD.AL i).trans Q))
 go_wp2_with fail
 go_ret
 exact⟨rfl,m,P,u⟩
theorem Gj {f k:Nat} {A:Su.S} {lv:Value} {r:Nat} (zh:r < 2) (B:A.act=(r:Int)) (J:Bx w bs 41 (.pointer q)) (s:SB w q g p S) (y:AF w f A) (M:Bx w k 106 lv)
 {d:Dk} {F:Nat->Prop} (hd:DP g d F w) (zb:¬ F k) (ze:¬ F bs) (zc:¬ F f) (zd:¬ F q) (l1:k ≠ bs) (l2:k ≠ f) (l3:k ≠ q) (hf:ib (S.lay.lf r)) (hc:ib S.lay.lc) (zg:A.AA < 4294967296) (hn:d.st.length<=1000) {R:Option AO.L × List (List UInt8) × Int × Dk} (hr:AO.open d (S.lay.lf r) S.lay.lc A.AA=R) :
 Calls Tryz.prog 65 #[.pointer bs,.pointer f,.pointer k] w fun e w'=>e=.returned (R.2.2.1:Value) ∧
  ∃ pv m P,w'=m.setCell k pv/\DP g R.2.2.2 P m/\AD F w P m/\((R.1=none/\pv=.pointer none)\/∃ L O,R.1=some L/\pv=.pointer (O:Nat)/\w.heap.size<=O/\LB m O g L/\¬ P O):=by
 have Q:=zH ((hd.ext (Below.drew (Below.refl _ w))).wopen (S.lay.lf r) S.lay.lc hf hc A.AA zg hn hr)
 have zf:=M.lt
 have HF:=zH (fun (G:Nat->Prop) (W:World) (e:AD F w G W)=>frozen_of_row W k 0 _ _ (M.same (e.block _ zf zb)))
 have HC:=zH (fun (G:Nat->Prop) (W:World) (e:AD F w G W)=>(M.same (e.block _ zf zb)).cell)
 have c3:=M.cell
 have c1:=J.cell
 have s0:=s.disk
 have U:=y.cells.2.1
 have X:=y.cells.2.2.1
 have j:=zH (fun (G:Nat->Prop) (W:World) (e:AD F w G W)=>And.intro (J.same (e.block _ J.lt ze)) (And.intro (s.same (e.block _ s.lt zd)) (show AF W f A from (e.block _ (Qa y) zc).trans y)))
 have i:=zH (fun (G:Nat->Prop) (W:World) (v:Value) (e:AD F w G W)=>And.intro (J.same ((heap_setCell_other W k bs v (Ne.symm l1)).trans (e.block _ J.lt ze))) (And.intro (s.same ((heap_setCell_other W k q v (Ne.symm l3)).trans (e.block _ s.lt zd))) (show AF (W.setCell k v) f A from (heap_setCell_other W k f v (Ne.symm l2)).trans ((e.block _ (Qa y) zc).trans y))))
 rw [B] at U
 have za:AD F w F w.drew:=(AD.refl F w).drew
 obtain⟨u,C⟩:∃ u,A.AA=u:=⟨_,rfl⟩
 rw [C] at Q X
 obtain⟨lo,ps,z,d'⟩:=R
 rcases (show r=0\/r=1 by omega) with rfl|rfl
 ·have s1:w.cell? (q 6)=some (.int .i64 (S.lay.lf 0)):=s.at 6
  have s2:w.cell? (q 7)=some (S.lay.lc:Value):=s.at 7
  have j:=zH (fun G W (e:AD F w G W)=>show W.cell? bs=some (.pointer q)/\W.cell? q=some (.pointer g)/\W.cell? (f 1)=some (.int .i64 ((0:Nat):Int))/\W.cell? (q 6)=some (.int .i64 (S.lay.lf 0))/\W.cell? (q 7)=some (S.lay.lc:Value)/\W.cell? (f 2)=some (.int .u32 (u:Nat)) from ⟨(j.out G W e).1.cell,(j.out G W e).2.1.disk,by rw [(j.out G W e).2.2.cells.2.1,B],(j.out G W e).2.1.at 6,(j.out G W e).2.1.at 7,by rw [(j.out G W e).2.2.cells.2.2.1,C]⟩)
  have i:=zH (fun G (h:World) (v:Value) (e:AD F w G h)=>show (fun W:World=>W.cell? bs=some (.pointer q)/\W.cell? q=some (.pointer g)/\W.cell? (f 1)=some (.int .i64 ((0:Nat):Int))/\W.cell? (q 6)=some (.int .i64 (S.lay.lf 0))/\W.cell? (q 7)=some (S.lay.lc:Value)/\W.cell? (f 2)=some (.int .u32 (u:Nat))) (h.setCell k v) from ⟨(i.out G h v e).1.cell,(i.out G h v e).2.1.disk,by rw [(i.out G h v e).2.2.cells.2.1,B],(i.out G h v e).2.1.at 6,(i.out G h v e).2.1.at 7,by rw [(i.out G h v e).2.2.cells.2.2.1,C]⟩)
  clear J s y M hd hr B C
  go_in
  go_wp2_with fail
  go_region_held3 (fun W=>W.cell? bs=some (.pointer q)/\W.cell? q=some (.pointer g)/\W.cell? (f 1)=some (.int .i64 ((0:Nat):Int))/\W.cell? (q 6)=some (.int .i64 (S.lay.lf 0))/\W.cell? (q 7)=some (S.lay.lc:Value)/\W.cell? (f 2)=some (.int .u32 (u:Nat))) (first|exact⟨c1,s0,U,s1,s2,X⟩|exact j.out _ _ (by assumption)|exact i.out _ _ _ (by assumption)) (first
  |(go_at_call 66;go_must (refine Q.out.mono ?_);rintro e m ⟨pv,v,I,rfl,q1,Y,Z,K⟩;have H:=za.trans Z;have f1:=HF.out I m H;have f2:=HC.out I m H;obtain⟨o,rfl⟩:∃ o,pv=.pointer o:=VW.ptr K;have T:=zH K;clear K))
  go_wp2_with fail
  go_ret
  exact⟨rfl,_,m,I,rfl,Y,H,T.out⟩
 ·have s1:w.cell? (q 8)=some (.int .i64 (S.lay.lf 1)):=s.at 8
  have s2:w.cell? (q 9)=some (S.lay.lc:Value):=s.at 9
  have j:=zH (fun G W (e:AD F w G W)=>show W.cell? bs=some (.pointer q)/\W.cell? q=some (.pointer g)/\W.cell? (f 1)=some (.int .i64 ((1:Nat):Int))/\W.cell? (q 8)=some (.int .i64 (S.lay.lf 1))/\W.cell? (q 9)=some (S.lay.lc:Value)/\W.cell? (f 2)=some (.int .u32 (u:Nat)) from ⟨(j.out G W e).1.cell,(j.out G W e).2.1.disk,by rw [(j.out G W e).2.2.cells.2.1,B],(j.out G W e).2.1.at 8,(j.out G W e).2.1.at 9,by rw [(j.out G W e).2.2.cells.2.2.1,C]⟩)
  have i:=zH (fun G (h:World) (v:Value) (e:AD F w G h)=>show (fun W:World=>W.cell? bs=some (.pointer q)/\W.cell? q=some (.pointer g)/\W.cell? (f 1)=some (.int .i64 ((1:Nat):Int))/\W.cell? (q 8)=some (.int .i64 (S.lay.lf 1))/\W.cell? (q 9)=some (S.lay.lc:Value)/\W.cell? (f 2)=some (.int .u32 (u:Nat))) (h.setCell k v) from ⟨(i.out G h v e).1.cell,(i.out G h v e).2.1.disk,by rw [(i.out G h v e).2.2.cells.2.1,B],(i.out G h v e).2.1.at 8,(i.out G h v e).2.1.at 9,by rw [(i.out G h v e).2.2.cells.2.2.1,C]⟩)
  clear J s y M hd hr B C
  go_in
  go_wp2_with fail
  go_region_held3 (fun W=>W.cell? bs=some (.pointer q)/\W.cell? q=some (.pointer g)/\W.cell? (f 1)=some (.int .i64 ((1:Nat):Int))/\W.cell? (q 8)=some (.int .i64 (S.lay.lf 1))/\W.cell? (q 9)=some (S.lay.lc:Value)/\W.cell? (f 2)=some (.int .u32 (u:Nat))) (first|exact⟨c1,s0,U,s1,s2,X⟩|exact j.out _ _ (by assumption)|exact i.out _ _ _ (by assumption)) (first
  |(go_at_call 66;go_must (refine Q.out.mono ?_);rintro e m ⟨pv,v,I,rfl,q1,Y,Z,K⟩;have H:=za.trans Z;have f1:=HF.out I m H;have f2:=HC.out I m H;obtain⟨o,rfl⟩:∃ o,pv=.pointer o:=VW.ptr K;have T:=zH K;clear K))
  go_wp2_with fail
  go_ret
  exact⟨rfl,_,m,I,rfl,Y,H,T.out⟩
theorem Gk {k:Nat} (m:Bx w bs 41 (.pointer q)) (f:SB w q g p S) (o:Bx w k 70 (.slice a n c))
 {d d':Dk} {F:Nat->Prop} (hd:DP g d F w) (hs:S.slot < 2) (s:AM w a n c x) (hF:∀ y,a=some y->x ≠ []->¬ F y.block) {z:Int} (hr:Dd.write d ((1 - S.slot:Nat):Int) x=(z,d')) :
 Calls Tryz.prog 67 #[.pointer bs,.pointer k] w fun e w'=>e=.returned (z:Value)/\∃ i,DP g d' i w'/\AD F w i w':=by
 have j:=zH ((hd.ext (Below.drew (Below.refl _ w))).write ((1 - S.slot:Nat):Int) (s.AI (fun _ _ _=>rfl) (zN _)) hF hr)
 have H:=m.cell
 have I:=o.cell
 have K:=f.disk
 have M:=f.slot
 have u:AD F w F w.drew:=(AD.refl F w).drew
 obtain⟨sl,h⟩:∃ sl:Int,((1 - S.slot:Nat):Int)=sl:=⟨_,rfl⟩
 have J:(1:Int) - (S.slot:Int)=sl:=by omega
 rw [h] at j
 have G:0<=sl/\sl<=1:=by omega
 generalize (S.slot:Int)=O at *
 clear m f o hd s hr h hs
 go_in
 go_wp2_with fail
 refine wp_region_still_tail 10 (by kernel_rfl) (by kernel_rfl) ?_
 simp only [List.take_succ_cons,List.take_zero,List.drop_succ_cons,List.drop_zero]
 repeat still_step
 refine wpStill_nil ?_
 change wpList _ _ _ _ _ w.drew
 go_wp2_with fail
 refine j.out.mono ?_;rintro e P ⟨rfl,A,B,C⟩
 go_wp2_with fail
 go_ret
 exact⟨rfl,A,B,u.trans C⟩
end Go.Proofs.YtmanejniepghlaaGreatDoor
