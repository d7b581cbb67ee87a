import Derived.Test.YtmanejniepghlaaGreatDoorRun21
import Derived.Test.YtmanejniepghlaaGreatDoorRun19
import Derived.Test.YtmanejniepghlaaGreatDoorRun46
import Derived.Test.YtmanejniepghlaaGreatDoorRun50
import Derived.Test.YtmanejniepghlaaGreatDoorRun44
import Derived.Test.YtmanejniepghlaaGreatDoorRun45
import Derived.Test.YtmanejniepghlaaGreatDoorRun23
import Derived.Test.YtmanejniepghlaaGreatDoorRun40
import Derived.Deep.RegionHeld3
namespace Go.Proofs.YtmanejniepghlaaGreatDoor
section
open Go.RowKit
open Disk (Dk)
variable {w w':World} {F F':Nat->Prop} {B D g q:Nat} {c:Int} {L:List Pin} {a:Option Addr} {k:Nat} {S:Reg.St} {d:Dk}
def StB (F:Nat->Prop) (w:World) (B:Nat) (c:Int) (L:List Pin) (a:Option Addr) (k:Nat):Prop:=SBox w B c (.slice a L.length k)/\SlN w a L.length k L/\(∀ x,a=some x->L ≠ []->¬ F x.block)/\¬ F B/\L.length<=100000/\∀ p ∈ L,p.h.length<=1000000
theorem StB.upd (h:StB F w B c L a k) (u:Upd F w F' w'):StB F' w' B c L a k:=by
 obtain⟨h1,h2,h3,h4,h5,h6⟩:=h
 have o:=u.out h4 (za_a h1)
 exact⟨h1.stay o.2,h2.upd u h3,fun x hx hl=>(u.out (h3 x hx hl) (h2.blt' hx hl)).1,o.1,h5,h6⟩
theorem StB.ext (h:StB F w B c L a k) (e:Below w.heap.size w w'):StB F w' B c L a k:=h.upd (Upd.of_ext e)
theorem StB.put (h:StB F w B c L a k) {c2:Int} {L2:List Pin} {a2:Option Addr} {k2:Nat} (h2:SlN w a2 L2.length k2 L2) (h3:∀ x,a2=some x->L2 ≠ []->¬ F x.block) (h5:L2.length<=100000) (h6:∀ p ∈ L2,p.h.length<=1000000) :
 StB F ((w.setCell B (c2:Value)).setCell (B 1) (.slice a2 L2.length k2)) B c2 L2 a2 k2:=⟨SBox.set2 h.1 c2 _,h2.setOldS h.1 0 1 _ _,h3,h.2.2.2.1,h5,h6⟩
theorem StB.beside (h:StB F w B c L a k) {c':Int} {v:Value} (hb:SBox w D c' v) (hne:D ≠ B) (x y:Value):StB F ((w.setCell D x).setCell (D 1) y) B c L a k :=
 ⟨SBox.other (SBox.other h.1 hne 0 x) hne 1 y,h.2.1.setOldS hb 0 1 _ _,h.2.2⟩
theorem zn_q {d:Dk} (h:d.Ok):Disk.load d.st.length d.st.flatten=⟨d.st,List.replicate d.st.length none,[],0,false⟩:=by
 unfold Disk.load
 congr 1
 unfold Disk.chunks
 refine List.ext_getElem (by simp) fun i h1 h2=>?_
 simp only [List.getElem_map,List.getElem_range]
 rw [Disk.flat_slot _ h.st64 i h2,List.getElem?_eq_getElem h2];rfl
theorem ze_c (d:Dk) (ks:List (Int × Int)):(Disk.restart d ks).st.length=d.st.length:=by
 have h:∀ (ks:List (Int × Int)) (d:Dk),(ks.foldl Disk.tear d).st.length=d.st.length:=fun ks=>by
  induction ks with
 |nil=>intro d;rfl
 |cons k ks ih =>
   intro d
   rw [List.foldl_cons,ih]
   unfold Disk.tear
   split
   ·split <;> simp
   ·rfl
 exact h ks d
theorem zi_j {d:Dk} {ks:List (Int × Int)} (h:(Disk.restart d ks).Ok):Disk.load d.st.length (Disk.restart d ks).st.flatten=Disk.restart d ks:=by
 have:=zn_q h
 rw [ze_c] at this
 rw [this]
 have hl:d.ca.length=d.st.length:=by have:=h.len;rw [ze_c] at this;simpa [Disk.restart] using this
 unfold Disk.restart
 rw [hl]
theorem zm_n {L L1:List Pin} {u:UpdV} {c cap:Int} (h:Upt.apply c L u cap=(L1,0)):L1.length<=100000/\∀ p ∈ L1,p.h.length<=1000000:=by
 obtain⟨h1,h2,h3⟩:=Upt.apply_ok (c:=c) (L:=L) (u:=u) (cap:=cap) (by rw [h])
 rw [h] at h3
 have h3:L1=Upt.upd L u:=h3
 obtain⟨a1,a2,a3,a4,a5⟩:=(Upt.stValid_iff c L).1 h1
 refine⟨?_,fun p hp=>Nat.le_trans (Pin.name_len ((Pin.valid_iff _).1 (Upt.upd_good a5 h2 a4 p (h3 ▸ hp))).1) (by omega)⟩
 rw [h3];unfold Upt.upd Upt.ins Tab.remove
 split
 ·split <;> simp only [List.length_append,List.length_take,List.length_drop] <;> omega
 ·split <;> simp only [List.length_append,List.length_cons,List.length_set,List.length_take,List.length_drop] <;> omega
theorem PS.arm {ks:List (Int × Int)} {n c:Nat} {a:Option Addr} (h:PS g q S d F w) (hk:SlP w a n c ks) {z:Int} {d':Dk} (hr:Disk.arm d ks=(z,d')) :
 Calls Tryz.prog 26 #[.pointer g,.slice a n c] w fun e w'=>e=.returned (z:Value)/\∃ F',PS g q S d' F' w'/\Upd F w F' w':=by
 obtain⟨F0,p,rfl,h1,h2,h3,h4,h5,h6⟩:=h
 refine (DP.arm h1 hk hr).mono fun e w' hh=>?_
 obtain⟨he,F1,hd,hu⟩:=hh
 exact⟨he,_,PS.turn h2 h3 h4 h5 h6 hd hu⟩
theorem zr_m (d:Dk) (ks:List (Int × Int)):(Disk.arm d ks).2.st.length=d.st.length:=by unfold Disk.arm;split <;> rfl
end
section
open Go.RowKit
open Disk (Dk)
variable {w w' wr:World} {F F':Nat->Prop} {B:Nat}
def obx (kd:Int) (u:UpdV) (sc:Int) (v6 v7 v8:Value):Obj:=.cells #[kd,u.k,.string (str u.p.h),.bool u.p.s,u.p.x,sc,v6,v7,v8] 64
theorem zi_k {kd sc:Int} {u:UpdV} {v6 v7 v8:Value} (h:w.heap[B]?=some (obx kd u sc v6 v7 v8)):(w.cell? B=some (kd:Value)/\w.cell? (B 1)=some (u.k:Value)/\w.cell? (B 2)=some (.string (str u.p.h))/\w.cell? (B 3)=some (.bool u.p.s)/\w.cell? (B 4)=some (u.p.x:Value)) ∧
 (w.cell? (B 5)=some (sc:Value)/\w.cell? (B 6)=some v6/\w.cell? (B 7)=some v7/\w.cell? (B 8)=some v8)/\B < w.heap.size:=by
 have hh:=fun k=>cell_of_row _ _ k _ _ _ h
 exact⟨⟨hh 0,hh 1,hh 2,hh 3,hh 4⟩,⟨hh 5,hh 6,hh 7,hh 8⟩,za_a h⟩
def RcI (N g B8 B9:Nat) (F0:Nat->Prop) (w5:World) (p:Value) (wr:World):Prop:=∃ q S d F c L a k c2 L2 a2 k2,p=.pointer (q:Nat)/\PS g q S d F wr/\Reg.Ok N S/\d.st.length=N/\StB F wr B8 c L a k/\StB F wr B9 c2 L2 a2 k2/\Upd F0 w5 F wr
theorem RcI.put {N g B8 B9 q:Nat} {F0:Nat->Prop} {w5 W:World} {S:Reg.St} {d:Dk} {c c2 c':Int} {L L2 L':List Pin} {a a2 a':Option Addr} {k k2 k':Nat} (hP:PS g q S d F W) (hok:Reg.Ok N S) (hdl:d.st.length=N) (h8:StB F W B8 c L a k) (h9:StB F W B9 c2 L2 a2 k2) (hU:Upd F0 w5 F W) (h5:w5.heap.size<=B8) (hne:B8 ≠ B9) (hs:SlN W a' L'.length k' L') (hn:∀ x,a'=some x->L' ≠ []->¬ F x.block) (hl:L'.length<=100000) (hh:∀ p ∈ L',p.h.length<=1000000) :
 RcI N g B8 B9 F0 w5 (.pointer q) ((W.setCell B8 (c':Value)).setCell (B8 1) (.slice a' L'.length k')):=
 ⟨q,S,d,F,c',L',a',k',c2,L2,a2,k2,rfl,(hP.set h8.2.2.2.1 _ _).set h8.2.2.2.1 _ _,hok,hdl,h8.put hs hn hl hh,h9.beside h8.1 hne _ _,(hU.setCell (.inr h5) _ _).setCell (.inr h5) _ _⟩
theorem RcI.swap {N g B8 B9:Nat} {F0:Nat->Prop} {w5 W:World} {p:Value} (h:RcI N g B9 B8 F0 w5 p W):RcI N g B8 B9 F0 w5 p W:=by
 obtain⟨q,S,d,F,c,L,a,k,c2,L2,a2,k2,h1,h2,h3,h4,h5,h6,h7⟩:=h
 exact⟨q,S,d,F,c2,L2,a2,k2,c,L,a,k,h1,h2,h3,h4,h6,h5,h7⟩
theorem RcI.ext {N g B8 B9:Nat} {F0:Nat->Prop} {w5 W W':World} {p:Value} (h:RcI N g B8 B9 F0 w5 p W) (e:Below W.heap.size W W'):RcI N g B8 B9 F0 w5 p W':=by
 obtain⟨q,S,d,F,c,L,a,k,c2,L2,a2,k2,h1,h2,h3,h4,h5,h6,h7⟩:=h
 exact⟨q,S,d,F,c,L,a,k,c2,L2,a2,k2,h1,h2.ext e,h3,h4,h5.ext e,h6.ext e,h7.ext e⟩
def RcV (R:Reg.Res):Int × List Pin:=match R with
|(none,_)=>(0,[])
|(some _,v,_)=>v
theorem ropq {g n:Nat} {R:Reg.Res} {e:Ending} (h:ROpQ g n F w R e w'):∃ p a k F',e=.returned (.tuple #[.pointer p,.agg #[.int .i64 (RcV R).1,.slice a (RcV R).2.length k],R.2.2.1])/\Upd F w F' w'/\SlN w' a (RcV R).2.length k (RcV R).2/\∀ x,a=some x->(RcV R).2 ≠ []->w.heap.size<=x.block:=by
 obtain⟨_|S,⟨c,L⟩,z,d'⟩:=R
 ·obtain⟨h1,F',rfl,h3,h4⟩:=h
  exact⟨none,none,0,F',rfl,h4,SlN.nil _,fun x hx=>by cases hx⟩
 ·obtain⟨rfl,q,a,k,F',rfl,h3,h4,h5,h6,-⟩:=h
  exact⟨_,a,k,F',rfl,h4,h5,fun x hx hl=>(h6 x hx hl).2⟩
theorem opq {g n:Nat} {R:Reg.Res} {e:Ending} (h:OpQ g n F w R e w'):∃ p a k F',e=.returned (.tuple #[.pointer p,.agg #[.int .i64 (RcV R).1,.slice a (RcV R).2.length k],R.2.2.1])/\Upd F w F' w'/\SlN w' a (RcV R).2.length k (RcV R).2 ∧
 (∀ x,a=some x->(RcV R).2 ≠ []->¬ F' x.block)/\(RcV R).2.length<=100000/\(∀ p ∈ (RcV R).2,p.h.length<=1000000)/\(R.2.2.1 ≠ 0\/∃ S q,p=.some (q:Nat)/\PS g q S R.2.2.2 F' w'/\Reg.Ok n S):=by
 obtain⟨_|S,⟨c,L⟩,z,d'⟩:=R
 ·obtain⟨h1,F',rfl,h3,h4⟩:=h
  exact⟨none,none,0,F',rfl,h4,SlN.nil _,fun x hx=>(by cases hx),Nat.zero_le _,fun p hp=>(by cases hp),.inl h1⟩
 ·obtain⟨rfl,q,a,k,F',rfl,h3,h4,h5,h6,h7,h8,-⟩:=h
  exact⟨_,a,k,F',rfl,h4,h5,h6,by have:=((Upt.stValid_iff c L).1 h8).2.2.1;show L.length<=100000;omega,fun p hp=>Nat.le_trans (Upt.hosts_len h8 p hp) (by omega),.inr ⟨S,q,rfl,h3,h7⟩⟩
set_option maxRecDepth 100000 in
set_option maxHeartbeats 64000000 in
theorem rec33 (n:Int) (a:Option Addr) (m k:Nat) (l:List O33) (w:World) (hn:(Lit.int .i64 n).wf=true) (h:SlO33 w a m k l) :
 Calls Tryz.prog 6 #[n,.slice a m k] w fun e w'=>e=.returned (.bool true)/\Below w.heap.size w w':=by
 have HA:=zH zj_p
 have hle:=h.le
 have HS:=zH (small33 a m k l w h)
 unfold SmallP33 at HS
 by_cases hg:n < 30\/100 < n
 ·rcases (show n < 30\/(¬ n < 30/\100 < n) by omega) with t|⟨t,t'⟩
  all_goals
   clear hg
   go_enter Tryz.func6,Tryz.ntmps6
   go_wp2_with fail
   refine (HA.out _).mono ?_;rintro e w5 ⟨rfl,hb5⟩
   go_wp2_with fail
   go_ret
   exact⟨rfl,hb5⟩
 obtain⟨N,rfl⟩:∃ N:Nat,n=(N:Int):=⟨n.toNat,by omega⟩
 have hN1:30<=N:=by omega
 have hN2:N<=100:=by omega
 have t1:¬ (N:Int) < 30:=by omega
 have t2:¬ 100 < (N:Int):=by omega
 obtain⟨d1,S1,d2,f1,f2⟩:=fresh33 hN1 hN2
 have hl1:d1.st.length=N:=by have:=Reg.format_len (Disk.new N);rw [f1] at this;exact this.trans (by simp [Disk.new])
 have hl2:d2.st.length=N:=by have:=Reg.open_len d1;rw [f2] at this;exact this.trans hl1
 have H1:=zH f1
 have H2:=zH f2
 have HS0:=zH h
 clear f1 f2 hg
 go_enter Tryz.func6,Tryz.ntmps6
 go_wp2_with fail
 refine HS.out.mono ?_;rintro e w1 ⟨r,rfl,hr,hb1⟩
 cases r with
|false =>
  go_wp2_with fail
  refine (HA.out _).mono ?_;rintro e w5 ⟨rfl,hb5⟩
  go_wp2_with fail
  go_ret
  exact⟨rfl,hb1.trans (hb5.mono hb1.size)⟩
|true =>
  obtain⟨hm30,hsm⟩:=hr rfl
  have HSM:=zH hsm
  clear hr hsm h
  go_wp2_with fail
  refine (DP.new N (by omega) (by omega) _ N rfl).mono ?_;rintro e w5 ⟨g,F0,rfl,hd5,hF5,hb5⟩
  go_wp2_with fail
  refine (zi_q hd5 H1.out).mono ?_;rintro e w6 ⟨rfl,F6,hd6,hu6⟩
  go_wp2_with fail
  refine (zh_g hd6 (by rw [hl1];omega) H2.out).mono ?_;rintro e w7 hop
  obtain⟨q,a7,k7,F7,rfl,hp7,hu7,hs7,-,hok7⟩:=OpQ.some hop
  rw [hl1] at hok7
  rw [List.length_nil] at hs7 ⊢
  clear hop
  have n7:¬ F7 w7.heap.size:=fun e=>Nat.lt_irrefl _ (hp7.lt _ e)
  have hb8:=(Below.refl w7.heap.size w7).alloc (zN _) (.cells #[.int .i64 0,.slice a7 0 k7] 44)
  have hx8:=SBox.new w7 0 (.slice a7 0 k7)
  obtain⟨W8,hW8⟩:∃ W8,w7.alloc (.cells #[.int .i64 0,.slice a7 0 k7] 44)=W8:=⟨_,rfl⟩
  rw [hW8] at hb8 hx8
  have HK:=zH (zb_g 0 0 a7 none 0 0 k7 0 [] [] W8 (hs7.ext hb8) (SlN.nil _))
  unfold sv at HK
  obtain⟨x0,x1⟩:=hx8.cells
  have hz8:=za_a hx8
  have HX8:=zH hx8
  go_wp2_with fail
  refine HK.out.mono ?_;rintro e w9 ⟨rfl,hb9⟩
  obtain⟨y0,y1⟩:=(SBox.ext HX8.out hb9).cells
  have hz9:=za_a (SBox.ext HX8.out hb9)
  go_wp2_with fail
  have hbA:=(Below.refl w9.heap.size w9).alloc (zN _) (.cells #[.int .i64 0,.slice a7 0 k7] 44)
  have hx9:=SBox.new w9 0 (.slice a7 0 k7)
  obtain⟨W10,hW10⟩:∃ W10,w9.alloc (.cells #[.int .i64 0,.slice a7 0 k7] 44)=W10:=⟨_,rfl⟩
  rw [hW10] at hbA hx9 ⊢
  have h7A:=hb8.trans ((hb9.trans (hbA.mono hb9.size)).mono hb8.size)
  have hSB8:StB F7 W10 w7.heap.size 0 [] a7 k7:=⟨SBox.ext (SBox.ext HX8.out hb9) hbA,hs7.ext h7A,fun x _ h=>absurd rfl h,n7,by simp,fun p hp=>by cases hp⟩
  have hSB9:StB F7 W10 w9.heap.size 0 [] a7 k7:=⟨hx9,hs7.ext h7A,fun x _ h=>absurd rfl h,fun e=>by have:=hp7.lt _ e;have:=hb8.size;have:=hb9.size;omega,by simp,fun p hp=>by cases hp⟩
  have hI0:RcI N g w7.heap.size w9.heap.size F0 w5 (.pointer q) W10:=⟨q,S1,d2,F7,0,[],a7,k7,0,[],a7,k7,rfl,hp7.ext h7A,hok7,hl2,hSB8,hSB9,(hu6.trans hu7).ext h7A⟩
  have hF:∀ k,F0 k->w.heap.size<=k:=fun k e=>by have:=hF5 k e;have:=hb1.size;omega
  have hBw:Below w.heap.size w w5:=hb1.trans (hb5.mono hb1.size)
  have h89:w7.heap.size ≠ w9.heap.size:=by have:=za_a (SBox.ext HX8.out hb9);omega
  have h5:w5.heap.size<=w7.heap.size:=Nat.le_trans hu6.size hu7.size
  have h59:w5.heap.size<=w9.heap.size:=by have:=za_a (SBox.ext HX8.out hb9);omega
  clear hSB8 hSB9 h7A hbA hx9 hW10 y0 y1 x0 x1 hz8 hz9 HX8 HK hb8 hb9 hW8 hs7 hp7 n7 hok7 hu6 hu7 hd5 hd6 hb1 hb5 hF5
  obtain⟨B8,hB8⟩:∃ B8,w7.heap.size=B8:=⟨_,rfl⟩
  obtain⟨B9,hB9⟩:∃ B9,w9.heap.size=B9:=⟨_,rfl⟩
  rw [hB8] at hI0 h89 h5 ⊢
  rw [hB9] at hI0 h89 h59 ⊢
  go_loopw [7,10,11] (fun p pe i wr=>∃ (j:Nat) (b:Bool),i=.int .i64 j/\pe=.bool b/\j<=m/\RcI N g B8 B9 F0 w5 p wr) (fun _ _ i _=>m - (intOf i).toNat)
  case atStart=>exact⟨0,false,rfl,rfl,Nat.zero_le _,hI0⟩
  case round =>
   obtain⟨j,pe,rfl,rfl,hj,q,S,d,F,c,L,av,kv,c2,L2,a2,k2,rfl,hP,hok,hdl,h8,h9,hU⟩:=hrel
   have hbr:Below w.heap.size w wr:=hU.below hBw hF hBw.size
   have hFl:=hU.lo hF hBw.size
   have j0:(0:Int)<=(j:Int):=by omega
   by_cases hlt:j < m
   ·have j1:(j:Int) < (m:Int):=by omega
    obtain⟨b,o,x,rfl,hb,hx,hi⟩:=HS0.out.at hlt
    have hsx:=HSM.out x (List.mem_of_getElem? hx)
    obtain⟨kd,u,sc,pn,fs,ks⟩:=x
    obtain⟨z1,⟨z2,z3⟩,z4,z5⟩:=hsx
    dsimp only at z1 z2 z3 z4 z5
    obtain⟨i0,i1,⟨i2,i3,i4⟩,i5,⟨p6,m6,d6,i6,s6⟩,⟨p7,m7,d7,i7,s7⟩,⟨p8,m8,d8,i8,s8⟩⟩:=hi
    have hc:=fun k=>hbr.cell (p:=(b k)) hb
    replace i0:=(hc _).trans i0
    replace i1:=(hc _).trans i1
    replace i2:=(hc _).trans i2
    replace i3:wr.cell? (b (o+j * 9+3))=some (.bool u.p.s):=(hc _).trans i3
    replace i4:wr.cell? (b (o+j * 9+4))=some (u.p.x:Value):=(hc _).trans i4
    replace i5:=(hc _).trans i5
    replace i6:=(hc _).trans i6
    replace i7:=(hc _).trans i7
    replace i8:=(hc _).trans i8
    have hbb:b < wr.heap.size:=Nat.lt_of_lt_of_le hb hbr.size
    have hbv:=(Below.refl wr.heap.size wr).alloc (zN _) (obx kd u sc (.slice p6 m6 d6) (.slice p7 m7 d7) (.slice p8 m8 d8))
    obtain⟨V,hV⟩:∃ V,wr.alloc (obx kd u sc (.slice p6 m6 d6) (.slice p7 m7 d7) (.slice p8 m8 d8))=V:=⟨_,rfl⟩
    have hob:V.heap[wr.heap.size]?=some (obx kd u sc (.slice p6 m6 d6) (.slice p7 m7 d7) (.slice p8 m8 d8)):=by rw [<-hV];exact za_b _ _ _ rfl
    rw [hV] at hbv
    unfold obx at hV
    obtain⟨⟨v0,v1,v2,v3,v4⟩,⟨v5,v6,v7,v8⟩,vl⟩:=zi_k hob
    have nF:¬ F wr.heap.size:=fun e=>Nat.lt_irrefl _ (hP.lt _ e)
    have hPV:=hP.ext hbv
    have h8V:=h8.ext hbv
    have h9V:=h9.ext hbv
    have hUV:=hU.ext hbv
    have hbV:Below w.heap.size w V:=hbr.trans (hbv.mono hbr.size)
    clear hx hP h8 h9 hU hbr hc hFl
    by_cases e4:kd=4
    ·as_aux_lemma =>
     subst e4
     obtain⟨FD,hD,hUD⟩:=hPV.forget
     have hUF:=hUV.trans hUD
     have hFD:=hUF.lo hF hBw.size
     have h8D:=h8V.upd hUD
     have h9D:=h9V.upd hUD
     clear hPV hUD h8V h9V hUV
     obtain⟨dR,hdR⟩:∃ x,Disk.restart d ks=x:=⟨_,rfl⟩
     have hlR:dR.st.length=N:=by rw [<-hdR];exact (ze_c d ks).trans hdl
     have hokR:dR.Ok:=by rw [<-hdR];exact hD.ok.restart ks
     have e5:Disk.load N dR.st.flatten=dR:=by have:=zi_j (d:=d) (ks:=ks) (by rw [hdR];exact hokR);rw [hdR,hdl] at this;exact this
     have e6:dR.st.flatten.length=64 * N:=by rw [Disk.flat_length _ hokR.st64,hlR]
     obtain⟨im,him⟩:∃ x,dR.st.flatten=x:=⟨_,rfl⟩
     rw [him] at e5 e6
     obtain⟨R,hR⟩:∃ R,Reg.openS dR=R:=⟨_,rfl⟩
     have hlR2:R.2.2.2.st.length=N:=by rw [<-hR,Reg.open_len];exact hlR
     go_wp2_with fail
     refine (DP.restart hD (s8.ext hbV) (fun y hy hk e=>by have:=hFD _ e;subst hy;have:=s8.blt hk;omega) hdR).mono ?_;rintro e wR ⟨rfl,FR,hDR,hUR⟩
     clear hdR
     replace h8D:=h8D.upd hUR
     replace h9D:=h9D.upd hUR
     replace hUF:=hUF.trans hUR
     go_wp2_with fail
     refine (DP.image hDR).mono ?_;rintro e wI ⟨vI,rfl,hoI,hbI⟩
     rw [him] at hoI
     obtain⟨aI,cI,rfl,hsI,-⟩:=hoI.sl
     rw [e6] at hsI ⊢
     replace h8D:=h8D.ext hbI
     replace h9D:=h9D.ext hbI
     replace hUF:=hUF.ext hbI
     replace hDR:=hDR.ext hbI
     have hFI:=hDR.lt
     go_wp2_with fail
     refine (RDP.load aI N cI im wI (by omega) (by omega) (64 * N) rfl hsI).mono ?_;rintro e wL ⟨g2,FX,rfl,hDL,hFX,hbL⟩
     rw [e5] at hDL
     go_wp2_with fail
     refine (zs_p hDL (by omega) hR).mono ?_;rintro e wP hop
     obtain⟨p9,a9,k9,F9,rfl,hu9,hs9,hn9⟩:=ropq hop
     have hbP:=hu9.below hbL hFX hbL.size
     obtain⟨⟨cR,LR⟩,hRv⟩:∃ v,RcV R=v:=⟨_,rfl⟩
     obtain⟨zR,hRz⟩:∃ z,R.2.2.1=z:=⟨_,rfl⟩
     rw [hRv] at hs9 hn9 ⊢
     rw [hRz]
     dsimp only at hs9 hn9 ⊢
     obtain⟨nR,hnR⟩:∃ n,LR.length=n:=⟨_,rfl⟩
     rw [hnR] at hs9 ⊢
     have hbQ:=(Below.refl wP.heap.size wP).alloc (zN _) (.cells #[cR,.slice a9 nR k9] 44)
     have hxQ:=SBox.new wP cR (.slice a9 nR k9)
     obtain⟨WQ,hWQ⟩:∃ WQ,wP.alloc (.cells #[cR,.slice a9 nR k9] 44)=WQ:=⟨_,rfl⟩
     rw [hWQ] at hbQ hxQ
     have hbPQ:=hbP.trans (hbQ.mono hbP.size)
     replace h8D:=h8D.ext hbPQ
     replace h9D:=h9D.ext hbPQ
     replace hUF:=hUF.ext hbPQ
     replace hDR:=hDR.ext hbPQ
     replace hs9:=hs9.ext hbQ
     have hbPz:=hbP.size
     obtain⟨B18,hB18⟩:∃ b,wP.heap.size=b:=⟨_,rfl⟩
     rw [hB18] at hxQ hbQ
     have zQ:=za_a hxQ
     have n9:∀ x,a9=some x->LR ≠ []->¬ FR x.block:=fun x hx hl e=>by have:=hn9 x hx hl;have:=hFI _ e;have:=hbL.size;omega
     have nQ:¬ FR B18:=fun e=>by have:=hFI _ e;omega
     go_wp2_with fail
     refine (zh_g hDR (by omega) hR).mono ?_;rintro e wO hop
     obtain⟨po,ao,ko,FO,rfl,huO,hsO,hnO,hlO,hhO,hor⟩:=opq hop
     rw [hRv] at hsO hnO hlO hhO ⊢
     rw [hRz] at hor ⊢
     dsimp only at hsO hnO hlO hhO ⊢
     rw [hnR] at hsO ⊢
     replace h8D:=h8D.upd huO
     replace h9D:=h9D.upd huO
     replace hUF:=hUF.trans huO
     replace hxQ:=SBox.stay hxQ (huO.out nQ zQ).2
     replace hs9:=hs9.upd huO n9
     have hbT:=(Below.refl wO.heap.size wO).alloc (zN _) (.cells #[cR,.slice ao nR ko] 44)
     have hxT:=SBox.new wO cR (.slice ao nR ko)
     obtain⟨WT,hWT⟩:∃ W,wO.alloc (.cells #[cR,.slice ao nR ko] 44)=W:=⟨_,rfl⟩
     rw [hWT] at hbT hxT
     replace h8D:=h8D.ext hbT
     replace h9D:=h9D.ext hbT
     replace hUF:=hUF.ext hbT
     replace hxQ:=SBox.ext hxQ hbT
     replace hs9:=hs9.ext hbT
     replace hsO:=hsO.ext hbT
     obtain⟨B21,hB21⟩:∃ b,wO.heap.size=b:=⟨_,rfl⟩
     rw [hB21] at hxT
     have hbW:=hUF.below hBw hF hBw.size
     have HC:=zH (fun W (e:Below WT.heap.size WT W)=>And.intro (SBox.ext h8D.1 e).al (And.intro (SBox.ext h9D.1 e).al (And.intro (SBox.ext hxQ e).al (SBox.ext hxT e).al)))
     have HS1:=zH (fun W (e:Below WT.heap.size WT W)=>zb_g cR c ao av nR L.length ko kv LR L W (hsO.ext e) (h8D.2.1.ext e))
     have HS2:=zH (fun W (e:Below WT.heap.size WT W)=>zb_g cR c2 ao a2 nR L2.length ko k2 LR L2 W (hsO.ext e) (h9D.2.1.ext e))
     have HS3:=zH (fun W (e:Below WT.heap.size WT W)=>zb_g cR cR ao a9 nR nR ko k9 LR LR W (hsO.ext e) (hs9.ext e))
     have HA3:=zH (fun W (e:Below WT.heap.size WT W)=>acc33 cR c c2 zR a9 av a2 nR L.length L2.length k9 kv k2 LR L L2 pe W (hs9.ext e) (h8D.2.1.ext e) (h9D.2.1.ext e))
     unfold sv at HS1 HS2 HS3
     rw [decide_eq_true (show cR=cR/\LR=LR from ⟨rfl,rfl⟩)] at HS3
     obtain⟨r1,hr1⟩:∃ r,decide (cR=c/\LR=L)=r:=⟨_,rfl⟩
     obtain⟨r2,hr2⟩:∃ r,decide (cR=c2/\LR=L2)=r:=⟨_,rfl⟩
     rw [hr1] at HS1 HA3
     rw [hr2] at HS2 HA3
     have hq:=Below.refl WT.heap.size WT
     obtain⟨⟨⟨x0,x1⟩,-,l8⟩,⟨⟨x2,x3⟩,-,l9⟩,⟨⟨x4,x5⟩,-,l18⟩,⟨x6,x7⟩,-,l21⟩:=HC.out _ hq
     have HALL:=zH (And.intro hor (And.intro h8D (And.intro h9D (And.intro hUF (And.intro hsO (And.intro hnO (And.intro hlO (And.intro hhO (And.intro hbT hnR)))))))))
     clear hor h8D h9D hUF hsO hnO hlO hhO hbT hr1 hr2 hs9 hxQ hxT hn9 n9 nQ hnR
     have hcut:(zR=0/\(r1 || (pe && r2))=true)\/(decide (zR ≠ 0) || (!r1 && !(pe && r2)))=true:=by
      by_cases hz:zR=0
      ·cases r1 <;> cases pe <;> cases r2 <;> simp [hz]
      ·exact .inr (by simp [hz])
     rcases hcut with⟨rfl,hg⟩|hret
     ·obtain⟨S9,q9,rfl,-,-⟩:=HALL.out.1.resolve_left (by simp)
      cases r1 <;> cases pe <;> cases r2 <;> (first|(exfalso;simp at hg;done)|skip)
      all_goals
       go_wp2_with (first
       |(go_at_call_of 22 (Value.agg #[c,.slice av L.length kv]);go_must (refine (HS1.out _ hq).mono ?_);rintro e w1 ⟨rfl,hb1⟩;replace hq:=Below.trans hq (Below.mono hb1 (Below.size hq));obtain⟨⟨⟨x0,x1⟩,-,l8⟩,⟨⟨x2,x3⟩,-,l9⟩,⟨⟨x4,x5⟩,-,l18⟩,⟨x6,x7⟩,-,l21⟩:=HC.out _ hq)
       |(go_at_call_of 22 (Value.agg #[c2,.slice a2 L2.length k2]);go_must (refine (HS2.out _ hq).mono ?_);rintro e w1 ⟨rfl,hb1⟩;replace hq:=Below.trans hq (Below.mono hb1 (Below.size hq));obtain⟨⟨⟨x0,x1⟩,-,l8⟩,⟨⟨x2,x3⟩,-,l9⟩,⟨⟨x4,x5⟩,-,l18⟩,⟨x6,x7⟩,-,l21⟩:=HC.out _ hq))
       have fz:=(HC.out _ hq).1.2.1
       have fz0:=fz 0
       have fz1:=fz 1
       go_region
       go_wp2_with fail
       go_roundw
       case measure=>simp [intOf];omega
       obtain⟨hor,h8D,h9D,hUF,hsO,hnO,hlO,hhO,hbT,hnR⟩:=HALL.out
       obtain⟨S8,q8,hpo,hP9,hok9⟩:=hor.resolve_left (by simp)
       cases hpo
       subst hnR
       have hI:=RcI.put (g:=g) ((hP9.ext hbT).ext hq) (hlR ▸ hok9) hlR2 (h8D.ext hq) (h9D.ext hq) (hUF.ext hq) h5 h89 (c':=cR) (hsO.ext hq) hnO hlO hhO
       exact⟨j+1,false,by go_num,rfl,by omega,by first|exact hI|exact hI.ext (Below.drew (Below.refl _ _))⟩
     ·rw [hret] at HA3
      by_cases hz:zR=0
      case' pos=>
       subst hz
       obtain⟨S9,q9,rfl,-,-⟩:=HALL.out.1.resolve_left (by simp)
      case' neg=>
       have f1:(zR == 0)=false:=by simpa using hz
       have f2:(zR != 0)=true:=by simpa using hz
      all_goals cases r1 <;> cases pe <;> cases r2 <;> (first|(exfalso;simp at hret;done)|skip)
      all_goals
       go_wp2_with (first
       |(go_at_call_of 22 (Value.agg #[c,.slice av L.length kv]);go_must (refine (HS1.out _ hq).mono ?_);rintro e w1 ⟨rfl,hb1⟩;replace hq:=Below.trans hq (Below.mono hb1 (Below.size hq));obtain⟨⟨⟨x0,x1⟩,-,l8⟩,⟨⟨x2,x3⟩,-,l9⟩,⟨⟨x4,x5⟩,-,l18⟩,⟨x6,x7⟩,-,l21⟩:=HC.out _ hq)
       |(go_at_call_of 22 (Value.agg #[c2,.slice a2 L2.length k2]);go_must (refine (HS2.out _ hq).mono ?_);rintro e w1 ⟨rfl,hb1⟩;replace hq:=Below.trans hq (Below.mono hb1 (Below.size hq));obtain⟨⟨⟨x0,x1⟩,-,l8⟩,⟨⟨x2,x3⟩,-,l9⟩,⟨⟨x4,x5⟩,-,l18⟩,⟨x6,x7⟩,-,l21⟩:=HC.out _ hq)
       |(go_at_call_of 22 (Value.agg #[cR,.slice a9 nR k9]);go_must (refine (HS3.out _ hq).mono ?_);rintro e w1 ⟨rfl,hb1⟩;replace hq:=Below.trans hq (Below.mono hb1 (Below.size hq));obtain⟨⟨⟨x0,x1⟩,-,l8⟩,⟨⟨x2,x3⟩,-,l9⟩,⟨⟨x4,x5⟩,-,l18⟩,⟨x6,x7⟩,-,l21⟩:=HC.out _ hq)
       |(go_at_call 30;go_must (refine (HA3.out _ hq).mono ?_);rintro e w1 ⟨rfl,hb1⟩;replace hq:=Below.trans hq (Below.mono hb1 (Below.size hq)))
       |(go_at_call 10;go_must (refine (HA.out _).mono ?_);rintro e w1 ⟨rfl,hb1⟩;replace hq:=Below.trans hq (Below.mono hb1 (Below.size hq))))
       go_ret
       exact⟨rfl,hbW.trans (Below.mono hq hbW.size)⟩
    by_cases e2:kd=2
    ·as_aux_lemma =>
     subst e2
     rcases ea:Disk.arm d fs with⟨z,d'⟩
     have hld:=zr_m d fs
     rw [ea] at hld
     go_wp2_with fail
     refine (PS.arm hPV (s7.ext hbV) ea).mono ?_;rintro e w2 ⟨rfl,F2,hP2,hU2⟩
     go_wp2_with fail
     go_roundw
     case rel=>exact⟨j+1,pe,by go_num,rfl,by omega,q,S,d',F2,c,L,av,kv,c2,L2,a2,k2,rfl,hP2,hok,hld.trans hdl,h8V.upd hU2,h9V.upd hU2,hUV.trans hU2⟩
     case measure=>simp [intOf];omega
    by_cases e0:kd=0
    ·as_aux_lemma =>
     subst e0
     obtain⟨Fp,p0,s0,m0,fa,fn,fc,-,-,hSB,-⟩:=hPV.open
     have HSB:=zH hSB
     have HCA:=zH (fun W (e:Below V.heap.size V W)=>zj_v (hSB.ext e))
     rcases happ:Upt.apply c L u S.lay.cap with⟨L',z'⟩
     have HAP:=zH (fun W (e:Below V.heap.size V W)=>show Calls Tryz.prog 14 #[.agg #[c,.slice av L.length kv],uv u,S.lay.cap] W (RUApN av L c L' z' W) by
      have:=ze_m c av L.length kv L u S.lay.cap W (h8V.2.1.ext e) h8V.2.2.2.2.1 h8V.2.2.2.2.2 (by omega)
      rw [happ] at this
      exact this)
     unfold RUApN sv uv uc at HAP
     obtain⟨ck,hck⟩:∃ k,Upt.ack c z'=k:=⟨_,rfl⟩
     rw [hck] at HAP
     obtain⟨cp,hcp⟩:∃ k,S.lay.cap=k:=⟨_,rfl⟩
     rw [hcp] at HAP HCA happ
     obtain⟨y0,y1⟩:=h8V.1.cells
     have hbl:=za_a h8V.1
     have HK:=zH (fun W (e:Below V.heap.size V W)=>show W.cell? B8=some (c:Value)/\W.cell? (B8 1)=some (.slice av L.length kv)/\W.cell? (wr.heap.size 1)=some (u.k:Value)/\W.cell? (wr.heap.size 2)=some (.string (str u.p.h))/\W.cell? (wr.heap.size 3)=some (.bool u.p.s)/\W.cell? (wr.heap.size 4)=some (u.p.x:Value) from
      ⟨(SBox.ext h8V.1 e).cells.1,(SBox.ext h8V.1 e).cells.2,(e.cell (p:=(wr.heap.size 1)) vl).trans v1,(e.cell (p:=(wr.heap.size 2)) vl).trans v2,(e.cell (p:=(wr.heap.size 3)) vl).trans v3,(e.cell (p:=(wr.heap.size 4)) vl).trans v4⟩)
     have HRr:=zH (Below.refl V.heap.size V)
     have HRd:=zH (Below.drew (Below.refl V.heap.size V))
     have HRa:=zH (fun (o:Obj)=>(Below.drew ((Below.refl V.heap.size V).alloc (zN _) o)))
     have HNB:=zH (show SBox ((V.alloc (.cells #[.int .i64 0,.slice none 0 0] 44)).drew) V.heap.size 0 (.slice none 0 0) from SBox.new V 0 _)
     have HALL:=zH (And.intro hPV (And.intro h8V (And.intro h9V (And.intro hUV (And.intro happ (And.intro hck hcp))))))
     clear hPV h8V h9V hUV happ hck hcp hSB
     go_wp2_with fail
     go_region_held3 (fun W=>W.cell? B8=some (c:Value)/\W.cell? (B8 1)=some (.slice av L.length kv)/\W.cell? (wr.heap.size 1)=some (u.k:Value)/\W.cell? (wr.heap.size 2)=some (.string (str u.p.h))/\W.cell? (wr.heap.size 3)=some (.bool u.p.s)/\W.cell? (wr.heap.size 4)=some (u.p.x:Value)) (first|exact HK.out _ HRr.out|exact HK.out _ HRd.out|exact HK.out _ (HRa.out _)|exact HK.out _ (by assumption)|exact HK.out _ (HW2.out _)|exact HK.out _ ((hb2'.setCell (p:=V.heap.size) (zN _) _).setCell (p:=(V.heap.size 1)) (zN _) _)) (first
      |(go_at_call 15;go_must (refine (HCA.out _ (by first|exact HRd.out|exact HRa.out _)).mono ?_);rintro e w1 ⟨rfl,rfl⟩)
      |(go_at_call 14;go_must (refine (HAP.out _ (by first|exact HRd.out|exact HRa.out _)).mono ?_);rintro e w2 ⟨a3,c3,rfl,hs2,hb2,hn2⟩;have hb2':Below V.heap.size V w2:=(by first|exact HRd.out.trans hb2|exact (HRa.out _).trans (Below.mono hb2 (HRa.out _).size));have HW2:=zH (fun (o:Obj)=>hb2'.alloc hb2'.size o);(first|(have hbx9:SBox w2 V.heap.size 0 (.slice none 0 0):=SBox.ext HNB.out hb2;obtain⟨z0,z1⟩:=SBox.cells hbx9;have zf0:=SBox.frz hbx9 0;have zf1:=SBox.frz hbx9 1;have zl:=za_a hbx9)|skip)))
     all_goals
      obtain⟨hPV,h8V,h9V,hUV,happ,hck,hcp⟩:=HALL.out
      first
      |(obtain⟨W3,hW3⟩:∃ W3,W3=w2.alloc (.cells #[ck,.slice a3 L'.length c3] 44):=⟨_,rfl⟩
        obtain⟨B3,hB3⟩:∃ B3,B3=w2.heap.size:=⟨_,rfl⟩
        have hx3:SBox W3 B3 ck (.slice a3 L'.length c3):=by rw [hW3,hB3];exact SBox.new w2 ck _
        have hb3:Below V.heap.size V W3:=by rw [hW3];exact hb2'.alloc hb2'.size _
        have hs3:SlN W3 a3 L'.length c3 L':=by rw [hW3];exact hs2.ext ((Below.refl _ _).alloc (zN _) _)
        have hB4:V.heap.size<=B3:=by rw [hB3];exact hb2'.size
        have hn3:∀ x,a3=some x->V.heap.size<=x.block\/(a3=av/\L'=L):=fun x hx=>hn2 x hx
        rw [<-hW3,<-hB3]
        clear hW3 hB3)
      |(obtain⟨W3,hW3⟩:∃ W3,W3=(w2.setCell V.heap.size (ck:Value)).setCell (V.heap.size 1) (.slice a3 L'.length c3):=⟨_,rfl⟩
        obtain⟨B3,hB3⟩:∃ B3,B3=V.heap.size:=⟨_,rfl⟩
        have hx3:SBox W3 B3 ck (.slice a3 L'.length c3):=by rw [hW3,hB3];exact SBox.set2 hbx9 ck _
        have hb3:Below V.heap.size V W3:=by rw [hW3];exact below2 hb2' (zN _)
        have hs3:SlN W3 a3 L'.length c3 L':=by rw [hW3];exact hs2.setOldS hbx9 0 1 _ _
        have hB4:V.heap.size<=B3:=by rw [hB3];exact zN _
        have hn3:∀ x,a3=some x->V.heap.size<=x.block\/(a3=av/\L'=L):=fun x hx=>(hn2 x hx).imp (fun h=>Nat.le_trans (by simp) h) id
        rw [<-hW3,<-hB3]
        clear hW3 hB3)
      have hP3:=hPV.ext hb3
      have h83:=h8V.ext hb3
      have h93:=h9V.ext hb3
      have hU3:=hUV.ext hb3
      have hlt3:=hPV.lt
      have nB3:¬ F B3:=fun e=>by have:=hlt3 _ e;omega
      clear hs2 hn2
      by_cases hz:z'=0
      ·subst hz
       cases hfl:S.fl with
      |true =>
        go_wp2_with fail
        refine (zb_x (HSB.out.ext hb3)).mono ?_;rintro e w4 ⟨rfl,rfl⟩
        rw [hfl]
        go_wp2_with fail
        go_roundw
        case rel=>exact⟨j+1,pe,by go_num,rfl,by omega,q,S,d,F,c,L,av,kv,c2,L2,a2,k2,rfl,hP3,hok,hdl,h83,h93,hU3⟩
        case measure=>simp [intOf];omega
      |false =>
        rcases ea:Reg.append S d u with⟨za,S1,d'⟩
        have hla:=Reg.append_len S d u
        have hoka:=(Reg.append_facts hok d u).1
        rw [ea] at hla hoka
        replace hla:=hla.trans hdl
        obtain⟨hl1,hh1⟩:=zm_n happ
        have hn5:∀ x,a3=some x->L' ≠ []->¬ F x.block:=fun x hx hl=>by
         rcases hn3 x hx with h|⟨h,h'⟩
         ·exact fun e=>by have:=hlt3 _ e;omega
         ·exact h8V.2.2.1 x (h ▸ hx) (h' ▸ hl)
        obtain⟨-,-,o1,o2,o3,o4⟩:=HK.out _ hb3
        go_wp2_with fail
        refine (zb_x (HSB.out.ext hb3)).mono ?_;rintro e w4 ⟨rfl,rfl⟩
        rw [hfl]
        go_wp2_with fail
        refine (zi_p hP3 hok u (by omega) ea).mono ?_;rintro e wA ⟨rfl,FA,hPA,hUA⟩
        replace h83:=h83.upd hUA
        replace h93:=h93.upd hUA
        replace hU3:=hU3.trans hUA
        replace hx3:=SBox.stay hx3 (hUA.out nB3 (za_a hx3)).2
        have hnA:∀ x,a3=some x->L' ≠ []->¬ FA x.block:=fun x hx hl=>(hUA.out (hn5 x hx hl) (hs3.blt' hx hl)).1
        replace hs3:=hs3.upd hUA hn5
        obtain⟨⟨q0,q1⟩,-,ql⟩:=hx3.al
        obtain⟨⟨q2,q3⟩,qf,ql2⟩:=h83.1.al
        obtain⟨⟨q4,q5⟩,qg,ql3⟩:=h93.1.al
        by_cases hza:za=0\/za=9\/za=10
        ·rcases hza with rfl|rfl|rfl
         all_goals
          go_wp2_with fail
          go_roundw
          case measure=>simp [intOf];omega
          first
          |exact⟨j+1,pe,by go_num,rfl,by omega,RcI.put hPA hoka hla h83 h93 hU3 h5 h89 hs3 hnA hl1 hh1⟩
          |exact⟨j+1,true,by go_num,rfl,by omega,RcI.swap (RcI.put hPA hoka hla h93 h83 hU3 h59 (Ne.symm h89) hs3 hnA hl1 hh1)⟩
        have g0:(za == 0)=false:=by simp;omega
        have g1:(za == 9)=false:=by simp;omega
        have g2:(za == 10)=false:=by simp;omega
        go_wp2_with fail
        go_roundw
        case rel=>exact⟨j+1,pe,by go_num,rfl,by omega,q,S1,d',FA,c,L,av,kv,c2,L2,a2,k2,rfl,hPA,hoka,hla,h83,h93,hU3⟩
        case measure=>simp [intOf];omega
      ·have g0:(z' == 0)=false:=by simpa using hz
       have g1:(z' != 0)=true:=by simpa using hz
       go_wp2_with fail
       go_roundw
       case rel=>exact⟨j+1,pe,by go_num,rfl,by omega,q,S,d,F,c,L,av,kv,c2,L2,a2,k2,rfl,hP3,hok,hdl,h83,h93,hU3⟩
       case measure=>simp [intOf];omega
    by_cases e1:kd=1
    ·as_aux_lemma =>
     subst e1
     obtain⟨Fp,p0,s0,m0,fa,fn,fc,-,-,hSB,-⟩:=hPV.open
     cases hfl:S.fl with
    |true =>
      go_wp2_with fail
      refine (zb_x hSB).mono ?_;rintro e w1 ⟨rfl,rfl⟩
      rw [hfl]
      go_wp2_with fail
      go_roundw
      case rel=>exact⟨j+1,pe,by go_num,rfl,by omega,q,S,d,F,c,L,av,kv,c2,L2,a2,k2,rfl,hPV,hok,hdl,h8V,h9V,hUV⟩
      case measure=>simp [intOf];omega
    |false =>
      rcases ec:Reg.compact S d sc pn with⟨z,S1,d'⟩
      have hlc:=Reg.compact_len S d sc pn
      have hokc:=Reg.compact_ok hok (by obtain⟨_,_,-,h1,-⟩:=hPV;exact h1.ok) hdl sc pn
      rw [ec] at hlc hokc
      replace hlc:=hlc.trans hdl
      obtain rfl:pn.length=m6:=s6.len
      go_wp2_with fail
      refine (zb_x hSB).mono ?_;rintro e w1 ⟨rfl,rfl⟩
      rw [hfl]
      go_wp2_with fail
      refine (zg_l hPV hok (by omega) sc p6 _ d6 pn (s6.ext hbV) (fun p hp=>by have:=z3 p hp;omega) ec).mono ?_;rintro e w2 ⟨rfl,F2,hP2,hU2⟩
      have nO:¬ F wr.heap.size:=nF
      obtain⟨⟨v0,v1,v2,v3,v4⟩,⟨v5,v6,v7,v8⟩,vl'⟩:=zi_k ((hU2.out nO vl).2.trans hob)
      replace h8V:=h8V.upd hU2
      replace h9V:=h9V.upd hU2
      replace hUV:=hUV.trans hU2
      have HOS:=zH (zh_a sc p6 _ d6 pn w2 (s6.ext (hUV.below hBw hF hBw.size)) (by omega))
      unfold sv at HOS
      by_cases hz:z=0\/z=9\/z=10
      ·rcases hz with rfl|rfl|rfl
       all_goals
        go_wp2_with fail
        refine HOS.out.mono ?_;rintro e w3 ⟨a9,c9,rfl,ho,hb3⟩
        obtain⟨⟨y0,y1⟩,yf,yl⟩:=(SBox.ext h8V.1 hb3).al
        obtain⟨⟨y2,y3⟩,yg,yl'⟩:=(SBox.ext h9V.1 hb3).al
        go_wp2_with fail
        have hs9:=OwnN.slN ho
        have hn9:∀ x,a9=some x->pn ≠ []->¬ F2 x.block:=fun x hx hl e=>by
         obtain⟨_,_,hv,-,hb9⟩:=ho.sl
         cases hv
         have:=(hb9 x hx).1;have:=hP2.lt _ e;omega
        go_roundw
        case measure=>simp [intOf];omega
        first
        |exact⟨j+1,pe,by go_num,rfl,by omega,RcI.put (hP2.ext hb3) hokc hlc (h8V.ext hb3) (h9V.ext hb3) (hUV.ext hb3) h5 h89 hs9 hn9 (by omega) (fun p hp=>by have:=z3 p hp;omega)⟩
        |exact⟨j+1,true,by go_num,rfl,by omega,RcI.swap (RcI.put (hP2.ext hb3) hokc hlc (h9V.ext hb3) (h8V.ext hb3) (hUV.ext hb3) h59 (Ne.symm h89) hs9 hn9 (by omega) (fun p hp=>by have:=z3 p hp;omega))⟩
      have g0:(z == 0)=false:=by simp;omega
      have g1:(z == 9)=false:=by simp;omega
      have g2:(z == 10)=false:=by simp;omega
      go_wp2_with fail
      go_roundw
      case rel=>exact⟨j+1,pe,by go_num,rfl,by omega,q,S1,d',F2,c,L,av,kv,c2,L2,a2,k2,rfl,hP2,hokc,hlc,h8V,h9V,hUV⟩
      case measure=>simp [intOf];omega
    replace e0:(kd == 0)=false:=by simpa using e0
    replace e1:(kd == 1)=false:=by simpa using e1
    replace e2:(kd == 2)=false:=by simpa using e2
    replace e4:(kd == 4)=false:=by simpa using e4
    go_wp2_with fail
    go_roundw
    case rel=>exact⟨j+1,pe,by go_num,rfl,by omega,q,S,d,F,c,L,av,kv,c2,L2,a2,k2,rfl,hPV,hok,hdl,h8V,h9V,hUV⟩
    case measure=>simp [intOf];omega
   ·obtain rfl:j=m:=by omega
    go_wp2_with fail
    refine (HA.out _).mono ?_;rintro e wE ⟨rfl,hbE⟩
    go_wp2_with fail
    go_ret
    exact⟨rfl,hbr.trans (hbE.mono hbr.size)⟩
end
end Go.Proofs.YtmanejniepghlaaGreatDoor
