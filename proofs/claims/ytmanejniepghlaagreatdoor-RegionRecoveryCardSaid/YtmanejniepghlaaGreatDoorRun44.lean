import Derived.Test.YtmanejniepghlaaGreatDoorRun43
import Derived.Test.YtmanejniepghlaaGreatDoorRun24
import Derived.Test.YtmanejniepghlaaGreatDoorRun40
namespace Go.Proofs.YtmanejniepghlaaGreatDoor
open Go.RowKit
open Disk (Dk)
set_option maxRecDepth 100000
variable {F F':Nat->Prop} {W w:World} {B N b g k n:Nat} {a:Option Addr} {x:List UInt8} {l:Reg.Lay} {v:Value} {t:TypeId} {d d':Dk} {z:Int}
theorem zo_j (s:Super.S) (hv:Super.valid s=true) (hf:s.fits) (w:World):Calls Tryz.prog 47 #[supv s] w fun e w' =>
 ∃ K,e=.returned (.tuple #[.slice (K:Nat) 64 64,.int .i64 0])/\SlB w' K 64 64 (Super.enc s)/\w.heap.size<=K/\Below w.heap.size w w':=by
 obtain⟨gen,act,epoch,len,sum,rfl,h1,h2,h3,h4,h5⟩:=Super.valid_cases hv hf
 refine (zg_o gen act epoch len sum h1 h2 h3 h4 h5 hv w).mono ?_
 rintro e w' ⟨K,rfl,hr,hK,hb⟩
 refine⟨K,rfl,?_,hK,hb⟩
 have hl:=Super.enc_length ⟨gen,act,epoch,len,sum⟩
 have:=hr.slb 0 64 64 (by omega) (zN _) (by decide)
 rw [List.drop_zero,List.take_of_length_le (by omega)] at this
 exact this
theorem zq_m (hn:n<=100) (vs:Nat->Value) (fs:List (Dk->Int × Dk)) (hl:fs.length=n) (hb:b < W.heap.size) (hbF:¬ F b) (hrow:∀ i,i < n->W.cell? (b i)=some (vs i))
 (hstep:∀ i f,fs[i]?=some f->∀ w F' d',DP g d' F' w->Upd F W F' w->∃ k fa ca,vs i=.func (.func k) fa ca/\Enters k/\Calls Tryz.prog k (fa ++ ca) w fun e w'=>e=.returned (.int .i64 (f d').1)/\∃ F'',DP g (f d').2 F'' w'/\Upd F' w F'' w')
 {d d':Dk} (hd:DP g d F W) {z:Int} (hr:Reg.run fs d=(z,d')) :
 Calls Tryz.prog 50 #[.slice b n n] W fun e w'=>e=.returned (z:Value)/\∃ F',DP g d' F' w'/\Upd F W F' w':=by
 refine (zr_i n hn b vs (fun i w=>∃ d1 F1,Reg.run (fs.drop i) d1=(z,d')/\DP g d1 F1 w/\Upd F W F1 w) (fun y w=>y=z/\∃ F1,DP g d' F1 w/\Upd F W F1 w) ?_ ?_ ?_ W ⟨d,F,hr,hd,Upd.refl _ _⟩).mono ?_
 ·rintro i w hi ⟨d1,F1,-,-,u⟩
  exact⟨Nat.lt_of_lt_of_le hb u.size,(World.cell?_of_block (a:=(b i)) (u.block b hb hbF)).trans (hrow i hi)⟩
 ·rintro i w hi ⟨d1,F1,h1,h2,u⟩
  have hi':i < fs.length:=by omega
  obtain⟨k,fa,ca,e1,e2,e3⟩:=hstep i fs[i] (List.getElem?_eq_getElem hi') w F1 d1 h2 u
  refine⟨k,fa,ca,e1,e2,e3.mono ?_⟩
  rintro e w' ⟨rfl,F2,h3,u2⟩
  refine⟨_,rfl,?_⟩
  rw [List.drop_eq_getElem_cons hi'] at h1
  rcases hf:fs[i] d1 with⟨y,d2⟩
  rw [hf] at h3
  by_cases hy:y=0
  ·subst hy
   rw [Reg.run_ok hf] at h1
   exact .inl ⟨rfl,d2,F2,h1,h3,u.trans u2⟩
  ·rw [Reg.run_er hf hy] at h1
   cases h1
   exact .inr ⟨hy,rfl,F2,h3,u.trans u2⟩
 ·rintro w ⟨d1,F1,h1,h2,u⟩
  rw [List.drop_of_length_le (by omega),Reg.run_nil] at h1
  cases h1
  exact⟨rfl,F1,h2,u⟩
 ·rintro e w' ⟨y,rfl,rfl,F1,h1,h2⟩
  exact⟨rfl,F1,h1,h2⟩
theorem enters3:Enters 51:=fun _ _=>by kernel_rfl
theorem enters4:Enters 52:=fun _ _=>by kernel_rfl
theorem enters5:Enters 54:=fun _ _=>by kernel_rfl
def syncv (g:Nat):Value:=.func (.func 51) #[.pointer g] #[]
theorem Upd.older (u:Upd F W F' w) (hB:∀ k,F k->k < B) (h1:B<=k) (h2:k < W.heap.size):¬ F' k:=fun e=>by
 rcases u.new k e with e|e
 ·have:=hB k e;omega
 ·omega
theorem Upd.kept (u:Upd F W F' w) (hB:∀ k,F k->k < B) (h1:B<=k) (h2:k < W.heap.size):w.heap[k]?=W.heap[k]?:=u.block k h2 fun e=>by have:=hB k e;omega
theorem SlB.kept {c:Nat} (h:SlB W a n c x) (u:Upd F W F' w) (hB:∀ k,F k->k < B) (ha:∀ y,a=some y->B<=y.block):SlB w a n c x/\∀ y,a=some y->x ≠ []->¬ F' y.block:=by
 refine⟨h.upd u fun y hy _ e=>?_,fun y hy hx=>?_⟩
 ·have:=hB _ e;have:=ha y hy;omega
 ·subst hy
  exact u.older hB (ha y rfl) (h.blt hx)
theorem PB.kept {r:Int} (h:PB W N g l r v) (u:Upd F W F' w) (hB:∀ k,F k->k < B) (hN:B<=N):PB w N g l r v/\∀ i,i < 4->¬ F' (N+i) :=
 ⟨h.stay fun i hi=>u.kept hB (by omega) (by have:=h.lt;omega),fun i hi=>u.older hB (by omega) (by have:=h.lt;omega)⟩
theorem Bx.kept (h:Bx W b t v) (u:Upd F W F' w) (hB:∀ k,F k->k < B) (hb:B<=b):Bx w b t v/\¬ F' b:=⟨h.same (u.kept hB hb h.lt),u.older hB hb h.lt⟩
theorem zo_i {bd bu:Nat} {K:Nat} {m:Nat} (hB:∀ k,F k->k < B) (h1:B<=bd) (h2:B<=bu) (h3:B<=b) (h4:B<=N) (h5:B<=K) (h6:∀ y,a=some y->B<=y.block)
 (row:W.heap[b]?=some (.cells #[prep1 N,prep2 N,syncv g,.func (.func 52) #[] #[.pointer bd,.pointer bu],.func (.func 54) #[] #[.pointer bd],syncv g] t (0,0)))
 (hp:PB W N g l 0 (.slice a 2 k)) (hx:Bx W bd 37 (.pointer g)) (hu:Bx W bu 70 (.slice K 64 64)) (hs:SlB W a 2 k [0,0]) (hK:SlB W K 64 64 x) (hd:DP g d F W)
 (i1:ib (l.sf 0)) (i2:ib l.sc) (i3:ib (l.lf 0)) (i4:ib l.lc) (hm:m<=1000000) (hsz:Extent.size l.lc=(m:Int)) (hsz2:(Extent.size l.lc).toNat=m)
 (hr:Reg.run (Reg.prep l 0 [0,0] ++ [fun d=>Disk.write d 0 x,fun d=>Disk.write d 1 (List.replicate 64 0),Disk.sync]) d=(z,d')) :
 Calls Tryz.prog 50 #[.slice b 6 6] W fun e w'=>e=.returned (z:Value)/\∃ F',DP g d' F' w'/\Upd F W F' w':=by
 have hblt:b < W.heap.size:=za_a row
 refine zq_m (n:=6) (by omega) (fun i=>(#[prep1 N,prep2 N,syncv g,.func (.func 52) #[] #[.pointer bd,.pointer bu],.func (.func 54) #[] #[.pointer bd],syncv g]:Array Value)[i]?.getD undef) _ rfl hblt (fun e=>by have:=hB _ e;omega) (fun i hi=>?_) ?_ hd hr
 ·rw [cell_of_row _ _ _ _ _ _ row]
  rw [Array.getElem?_eq_getElem (by simpa using hi)]
  rfl
 ·intro i f hf w F' d1 q1 u
  match i,hf with
 |0,hf =>
   cases hf
   refine⟨_,_,_,rfl,enters1,?_⟩
   obtain⟨s1,s2⟩:=hs.kept u hB h6
   exact zl_f (r:=0) (by omega) (hp.kept u hB h4).1 q1 s1 s2 i1 i2 rfl
 |1,hf =>
   cases hf
   refine⟨_,_,_,rfl,enters2,?_⟩
   obtain⟨s1,s2⟩:=hp.kept u hB h4
   rw [hsz2]
   exact zl_g (r:=0) (by omega) s1 q1 s2 i3 i4 hm hsz rfl
 |2,hf =>
   cases hf
   refine⟨_,_,_,rfl,enters3,(q1.sync rfl).mono ?_⟩
   rintro e w' ⟨e1,e2,e3⟩
   exact⟨e1,_,e2,e3⟩
 |3,hf =>
   cases hf
   refine⟨_,_,_,rfl,enters4,?_⟩
   obtain⟨s1,s2⟩:=hK.kept u hB (fun y hy=>by cases hy;exact h5)
   exact zm_e (hx.kept u hB h1).1 (hu.kept u hB h2).1 q1 s1 s2 rfl
 |4,hf =>
   cases hf
   refine⟨_,_,_,rfl,enters5,?_⟩
   exact zm_f (hx.kept u hB h1).1 q1 (hx.kept u hB h1).2 rfl
 |5,hf =>
   cases hf
   refine⟨_,_,_,rfl,enters3,(q1.sync rfl).mono ?_⟩
   rintro e w' ⟨e1,e2,e3⟩
   exact⟨e1,_,e2,e3⟩
 |i+6,hf=>simp [Reg.prep] at hf
theorem zk_y (h:Reg.fit n=true) (i:Nat) (hi:i < 2):ib ((Reg.plan n).sf i)/\ib ((Reg.plan n).lf i)/\ib (Reg.plan n).sc/\ib (Reg.plan n).lc/\∃ m:Nat,m<=1000000/\Extent.size (Reg.plan n).lc=(m:Int)/\(Extent.size (Reg.plan n).lc).toNat=m:=by
 obtain⟨h1,h2,h3,h4,h5,h6,h7⟩:=Reg.fit_facts h
 have hm:i * (Reg.plan n).h<=(Reg.plan n).h:=by
  have:=Nat.mul_le_mul_right (Reg.plan n).h (show i<=1 by omega);omega
 refine⟨?_,?_,?_,?_,((Reg.plan n).h - (Reg.plan n).s) * 64,by omega,?_,?_⟩
 ·unfold Reg.Lay.sf ib;omega
 ·unfold Reg.Lay.lf ib;omega
 ·unfold Reg.Lay.sc ib;omega
 ·unfold Reg.Lay.lc ib;omega
 ·unfold Reg.Lay.lc;rw [Extent.size_nat _ (by omega)]
 ·unfold Reg.Lay.lc;rw [Extent.size_nat _ (by omega)];omega
theorem zc_o (h:Reg.fit n=true):planE n=0/\planV n=.agg (layc (Reg.plan n)):=by unfold planE planV;rw [h];exact⟨rfl,rfl⟩
set_option maxHeartbeats 8000000 in
theorem zi_q (hd:DP g d F w) (hr:Reg.format d=(z,d')) :
 Calls Tryz.prog 12 #[.pointer g] w fun e w'=>e=.returned (z:Value)/\∃ F',DP g d' F' w'/\Upd F w F' w':=by
 have hb0:=(Below.refl w.heap.size w).alloc (zN _) (.cells #[.pointer g] 37)
 have hx0:Bx (w.alloc (.cells #[.pointer g] 37)) w.heap.size 37 (.pointer g):=za_b _ _ _ rfl
 have hz0:(w.alloc (.cells #[.pointer g] 37)).heap.size=w.heap.size+1:=by simp
 obtain⟨W0,hW0⟩:∃ W0,W0=w.alloc (.cells #[.pointer g] 37):=⟨_,rfl⟩
 have HW0:=zH hW0
 rw [<-hW0] at hb0 hx0 hz0
 have hd0:=hd.ext hb0
 have hpl:=zf_g true (d.st.length:Nat) W0
 rw [show ((d.st.length:Nat):Int).toNat=d.st.length by omega] at hpl
 have HSEC:=zH hd0.sectors
 unfold Reg.format at hr
 clear hW0
 by_cases hfit:Reg.fit d.st.length=false
 ·rw [if_pos hfit] at hr
  cases hr
  rw [(zb_p hfit).1,(zb_p hfit).2] at hpl
  unfold lay0 layv at hpl
  have HP:=zH hpl
  clear hpl hfit
  go_enter Tryz.func12,Tryz.ntmps12
  go_wp2_with fail
  rw [<-HW0.out]
  have c0:=hx0.cell
  go_wp2_with (first
  |(go_at_call 45;go_must (refine HSEC.out.mono ?_);rintro e w1 ⟨rfl,rfl⟩)
  |(go_at_call 8;go_must (refine HP.out.mono ?_);rintro e w2 ⟨rfl,hb⟩))
  go_ret
  have hB:=(hb0.trans (hb.mono hb0.size)).alloc (by have:=hb.size;have:=hb0.size;omega) (.cells #[.int .i64 0,.int .i64 0,.int .i64 0,.int .i64 0,.int .i64 0,.int .i64 0,.int .i64 0,.int .i64 0,.int .i64 0] 26)
  exact⟨rfl,F,hd.ext hB,Upd.of_ext hB⟩
 ·rw [if_neg hfit] at hr
  have hfit':Reg.fit d.st.length=true:=by simpa using hfit
  rw [(zc_o hfit').1,(zc_o hfit').2] at hpl
  obtain⟨l,hl⟩:∃ l,Reg.plan d.st.length=l:=⟨_,rfl⟩
  rw [hl] at hpl hr
  unfold layc at hpl
  have HP:=zH hpl
  have HL:=zH hl
  clear hpl hfit hl
  go_enter Tryz.func12,Tryz.ntmps12
  go_wp2_with fail
  rw [<-HW0.out]
  have c0:=hx0.cell
  go_wp2_with (first
  |(go_at_call 45;go_must (refine HSEC.out.mono ?_);rintro e w1 ⟨rfl,rfl⟩)
  |(go_at_call 8;go_must (refine HP.out.mono ?_);rintro e w2 ⟨rfl,hb⟩))
  obtain⟨W3,hW3⟩:∃ W3,W3=w2.alloc (.cells (layc l) 26):=⟨_,rfl⟩
  have hb3:Below w2.heap.size w2 W3:=by rw [hW3];exact (Below.refl _ _).alloc (zN _) _
  have hl3:W3.heap[w2.heap.size]?=some (.cells (layc l) 26 (0,0)):=by rw [hW3];exact za_b _ _ _ rfl
  have HW3:=zH hW3
  unfold layc at HW3
  rw [<-HW3.out]
  clear hW3
  have hB3:Below W0.heap.size W0 W3:=hb.trans (hb3.mono hb.size)
  have HSE:=zH (zi_w 0 none 0 0 [] W3 (SlN.nil _) (by simp))
  unfold SEncP at HSE
  rw [show Upt.stValid 0 []=true by decide +kernel,if_pos rfl,if_pos rfl,show Snap.enc 0 []=[0,0] by decide +kernel] at HSE
  obtain⟨cr,hcr⟩:∃ cr,Crc.update 0 [0,0]=cr:=⟨_,rfl⟩
  have hcrb:cr < 4294967296:=by rw [<-hcr];exact Crc.update_lt _ _
  have hs1:Reg.sup1=⟨1,0,1,2,cr⟩:=by rw [<-hcr];rfl
  rw [hs1] at hr
  have HEN:=zH (fun W=>zo_j ⟨1,0,1,2,cr⟩ rfl ⟨show (1:Nat) < 18446744073709551616 by decide,show (1:Nat) < 4294967296 by decide,hcrb⟩ W)
  unfold supv at HEN
  have HCR:=zH (fun a c W (h:SlB W a 2 c [0,0])=>zc_g a 2 c [0,0] W h)
  rw [hcr] at HCR
  have HPR:=zH (fun a c W=>zg_m g l 0 a 2 c W)
  rw [zr_y] at HPR
  unfold layc prep1 prep2 at HPR
  have hcl:∀ W4,Below W3.heap.size W3 W4->∀ k,W4.cell? (w2.heap.size k)=(layc l)[k]?:=fun W4 e k=>cell_of_row _ _ _ _ _ _ ((e.block _ (za_a hl3)).trans hl3)
  have HCL:=zH hcl
  have HC0:=zH (fun W4 (e:Below W3.heap.size W3 W4)=>(hx0.same ((hB3.trans (e.mono hB3.size)).block _ hx0.lt)).cell)
  have HR:=zH hr
  clear hcl hr hcr hs1
  go_wp2_with (first
  |(go_at_call 46;go_must (refine HSE.out.mono ?_);rintro e w4 ⟨v4,rfl,hO4,hb4⟩;obtain⟨a4,k4,rfl,hs4,hn4⟩:=hO4.sl;simp only [List.length_cons,List.length_nil] at hs4)
  |(go_at_call 48;go_must (refine (HCR.out _ _ _ hs4).mono ?_);rintro e w5 ⟨rfl,rfl⟩))
  refine (HEN.out _).mono ?_;rintro e w6 ⟨K,rfl,hs6,hK6,hb6⟩
  have hb4':Below W3.heap.size W3 w4:=hb4
  have hB6:Below W3.heap.size W3 w6:=hb4'.trans (hb6.mono hb4'.size)
  have x6:=HC0.out w6 hB6
  have z6:=hB6.size
  have z3:=za_a hl3
  have z5:=hb.size
  have q6:w.heap.size < w6.heap.size:=by omega
  have q7:w2.heap.size < w6.heap.size:=by omega
  have y0:w6.cell? w2.heap.size=some (l.cap:Value):=HCL.out w6 hB6 0
  have y1:w6.cell? (w2.heap.size 1)=some (.int .i64 (l.sf 0)):=HCL.out w6 hB6 1
  have y2:w6.cell? (w2.heap.size 2)=some (l.sc:Value):=HCL.out w6 hB6 2
  have y3:w6.cell? (w2.heap.size 3)=some (.int .i64 (l.sf 1)):=HCL.out w6 hB6 3
  have y4:w6.cell? (w2.heap.size 4)=some (l.sc:Value):=HCL.out w6 hB6 4
  have y5:w6.cell? (w2.heap.size 5)=some (.int .i64 (l.lf 0)):=HCL.out w6 hB6 5
  have y6:w6.cell? (w2.heap.size 6)=some (l.lc:Value):=HCL.out w6 hB6 6
  have y7:w6.cell? (w2.heap.size 7)=some (.int .i64 (l.lf 1)):=HCL.out w6 hB6 7
  have y8:w6.cell? (w2.heap.size 8)=some (l.lc:Value):=HCL.out w6 hB6 8
  have hz7:(w6.alloc (.cells #[.slice K 64 64] 70)).heap.size=w6.heap.size+1:=by simp
  have hx7:Bx (w6.alloc (.cells #[.slice K 64 64] 70)) w6.heap.size 70 (.slice K 64 64):=za_b _ _ _ rfl
  have hb7:=(Below.refl w6.heap.size w6).alloc (zN _) (.cells #[.slice K 64 64] 70)
  go_wp2_with fail
  obtain⟨W7,hW7⟩:∃ W7,W7=w6.alloc (.cells #[.slice K 64 64] 70):=⟨_,rfl⟩
  rw [<-hW7] at hz7 hx7 hb7 ⊢
  have HW7:=zH hW7
  clear hW7
  refine (HPR.out _ _ _).mono ?_;rintro e w8 ⟨rfl,hb8,hp8⟩
  have hB8:Below W3.heap.size W3 w8:=hB6.trans ((hb7.trans (hb8.mono hb7.size)).mono z6)
  have x8:=HC0.out w8 hB8
  have z8:=hb8.size
  clear x6 y0 y1 y2 y3 y4 y5 y6 y7 y8
  go_wp2_with fail
  obtain⟨W9,hW9⟩:∃ W9,W9=w8.alloc (.cells #[prep1 W7.heap.size,prep2 W7.heap.size,syncv g,.func (.func 52) #[] #[.pointer w.heap.size,.pointer w6.heap.size],.func (.func 54) #[] #[.pointer w.heap.size],syncv g] 95):=⟨_,rfl⟩
  have hb9:Below w8.heap.size w8 W9:=by rw [hW9];exact (Below.refl _ _).alloc (zN _) _
  have row:W9.heap[w8.heap.size]?=some (.cells #[prep1 W7.heap.size,prep2 W7.heap.size,syncv g,.func (.func 52) #[] #[.pointer w.heap.size,.pointer w6.heap.size],.func (.func 54) #[] #[.pointer w.heap.size],syncv g] 95 (0,0)):=by rw [hW9];exact za_b _ _ _ rfl
  have HW9:=zH hW9
  unfold prep1 prep2 syncv at HW9
  rw [hz7] at HW9
  rw [<-HW9.out]
  clear hW9
  have hB9:Below W3.heap.size W3 W9:=hB8.trans (hb9.mono hB8.size)
  have hBw:Below w.heap.size w W9:=hb0.trans ((hB3.trans (hB9.mono hB3.size)).mono hb0.size)
  have h69:Below w6.heap.size w6 W9:=hb7.trans ((hb8.trans (hb9.mono hb8.size)).mono hb7.size)
  have h49:Below w4.heap.size w4 W9:=hb6.trans (h69.mono hb6.size)
  obtain⟨i1,i3,i2,i4,m,hm,hsz,hsz2⟩:=zk_y hfit' 0 (by omega)
  rw [HL.out] at i1 i2 i3 i4 hsz hsz2
  have z9:=hb9.size
  have z46:=hb6.size
  have z34:=hb4'.size
  have hz3:=hb3.size
  have HST:=zH (zo_i (W:=W9) (B:=w.heap.size) (hd.lt) (zN _) (by omega) (by omega) (by omega) (by omega) (fun y hy=>by have:=(hn4 y hy).2.1;omega) row (hp8.ext hb9) (hx0.same ((hB3.trans (hB9.mono hB3.size)).block _ hx0.lt)) (hx7.same ((hb8.trans (hb9.mono hb8.size)).block _ hx7.lt)) (hs4.ext h49) (hs6.ext h69) (hd.ext hBw) i1 i2 i3 i4 hm hsz hsz2 HR.out)
  refine HST.out.mono ?_;rintro e w10 ⟨rfl,F',q1,q2⟩
  go_wp2_with fail
  go_ret
  exact⟨rfl,F',q1,(Upd.of_ext hBw).trans q2⟩
end Go.Proofs.YtmanejniepghlaaGreatDoor
