import Derived.Test.YtmanejniepghlaaGreatDoorRun27
import Derived.Test.YtmanejniepghlaaGreatDoorRun1
namespace Go.Proofs.YtmanejniepghlaaGreatDoor
section
open Go.RowKit
section
variable {F:Nat->Prop} {w w':World} {g sb cb sc:Nat} {fa:Option Addr} {fn fc:Nat} {d d':Disk.Dk}
theorem zr_b (d:Disk.Dk) (i:Int) (x:List UInt8):Disk.write d i x=if d.off then (10,d) else if (Disk.fits d i && decide (x.length=64)) then (if Disk.fault d=1 then (9,Disk.tick d) else if Disk.fault d=2 then (10,Disk.cut (Disk.put (Disk.tick d) i.toNat x)) else (0,Disk.put (Disk.tick d) i.toNat x)) else (2,d):=by
 unfold Disk.write Disk.begin
 cases d.off
 ·cases (Disk.fits d i && decide (x.length=64))
  ·rfl
  ·by_cases h1:Disk.fault d=1
   ·simp [h1]
   ·by_cases h2:Disk.fault d=2
    ·simp [h2]
    ·simp only [Bool.false_eq_true,if_false,if_true,if_neg h1,if_neg h2]
 ·rfl
theorem OwnB.at0 {base:Nat} {w:World} {v:Value} {l:List UInt8} (h:OwnB base w v l) (hl:l.length=64):∃ b c,v=.slice (b:Nat) 64 c/\base<=b/\b < w.heap.size/\SlB w b 64 c l:=by
 have hlt:=h.lt
 obtain⟨a,c,rfl,hs,hf⟩:=h.sl
 rw [hl] at hs hlt ⊢
 cases a with
|none=>have:=(hs.2.2.2.1 rfl).1;subst this;simp at hl
|some x =>
  obtain⟨e,hb,-⟩:=hf x rfl
  have:=hlt x.block rfl
  exact⟨x.block,c,by rw [<-e],hb,this.2,by rw [<-e];exact hs⟩
theorem RD.put (h:RD F w g sb cb sc fa fn fc d) {i b c:Nat} (hi:i < d.st.length) {x:List UInt8} (hx:x.length=64) (hb:w.heap.size<=b) {w1:World} (hB:Below w.heap.size w w1) (hs:SlB w1 b 64 c x) (hbl:b < w1.heap.size) :
 RD (fun k=>F k\/k=b) (w1.setCell (cb i) (.slice b 64 c)) g sb cb sc fa fn fc (Disk.put d i x)/\Upd F w (fun k=>F k\/k=b) (w1.setCell (cb i) (.slice b 64 c)):=by
 have h1:=h.ext hB
 have ne:∀ k,F k->k ≠ b:=fun k hk e=>by have:=h.lt k hk;omega
 have hst:∀ k,k ≠ cb->(w1.setCell (cb i) (.slice b 64 c)).heap[k]?=w1.heap[k]?:=fun k hk=>heap_setCell_other _ _ _ _ hk
 have hR:∀ k,Rw F g sb cb k->Rw (fun k=>F k\/k=b) g sb cb k:=fun k hk=>⟨.inl hk.1,hk.2⟩
 have hcl:i < d.ca.length:=by rw [h.ok.len];exact hi
 refine⟨⟨h.ok.put i x hx,?_,?_,?_,?_,fun y hy hl=>hR _ (h.fltF y hy hl),fun k hk=>?_,.inl h.Fg,.inl h.Fs,.inl h.Fc,h.gs,h.gc,h.sc',h.cap⟩,?_⟩
 ·exact (hst g h.gc).trans h1.box
 ·exact h1.sto.stay (hst sb h.sc') (fun k hk=>hst k hk.2.2.2) (by simp) hR
 ·have h2:RowS (Rw (fun k=>F k\/k=b) g sb cb) w1 cb d.ca:=h1.cac.stay rfl (fun _ _=>rfl) (zN _) hR
  exact h2.set (fun e=>e.2.2.2 rfl) hcl ⟨b,c,rfl,⟨.inr rfl,fun e=>ne g h.Fg e.symm,fun e=>ne sb h.Fs e.symm,fun e=>ne cb h.Fc e.symm⟩,hs⟩
 ·exact h1.flt.stay (fun y hy hl=>hst _ (h.fltF y hy hl).2.2.2) (by simp)
 ·rcases hk with e|e
  ·have:=h1.lt k e;simpa using this
  ·subst e;simpa using hbl
 ·exact ((Upd.of_ext hB).setCell (.inl h.Fc) _ _).grow fun k hk=>by
   rcases hk with e|e
   ·exact .inl e
   ·exact .inr (by omega)
def RWritePost (F:Nat->Prop) (w:World) (g sb cb sc:Nat) (fa:Option Addr) (fn fc:Nat) (r:Int × Disk.Dk) (e:Ending) (w':World):Prop :=
 e=.returned (r.1:Value)/\∃ F',RD F' w' g sb cb sc fa fn fc r.2/\Upd F w F' w'
set_option maxRecDepth 100000 in
set_option maxHeartbeats 4000000 in
theorem zq_j (h:RD F w g sb cb sc fa fn fc d) (i:Int) (a:Option Addr) (n0 c0:Nat) (x:List UInt8) (hx:SlB w a n0 c0 x) (hF:∀ y,a=some y->x ≠ []->¬ F y.block) :
 Calls Tryz.prog 94 #[.pointer g,i,.slice a n0 c0] w (RWritePost F w g sb cb sc fa fn fc (Disk.write d i x)):=by
 rw [zr_b]
 have hFg:=h.Fg
 have hxl:=hx.len
 have hxe:=hx.le
 rw [hxl]
 obtain⟨q0,-,-,-,q4⟩:=h.cells
 by_cases hoff:d.off=true
 ·rw [if_pos hoff]
  rw [hoff] at q4
  go_enter Tryz.func94,Tryz.ntmps94
  go_wp2
  go_ret
  exact⟨rfl,F,h,Upd.refl _ _⟩
 have hoff':d.off=false:=by simpa using hoff
 rw [if_neg hoff]
 rw [hoff'] at q4
 have hmx:=h.ok.max
 by_cases hfit:(Disk.fits d i && decide (n0=64))=true
 ·rw [if_pos hfit]
  unfold Disk.fits at hfit
  simp only [Bool.and_eq_true,decide_eq_true_eq] at hfit
  obtain⟨⟨f1,f2⟩,rfl⟩:=hfit
  obtain⟨j,rfl⟩:∃ j:Nat,i=(j:Int):=⟨i.toNat,by omega⟩
  have HF:=zH (zh_d h)
  obtain⟨R,hR⟩:∃ R,Disk.fault d=R:=⟨_,rfl⟩
  rw [hR] at HF ⊢
  clear hR
  have hjl:j < (Disk.tick d).st.length:=by
   show j < d.st.length
   omega
  have hcj:(Disk.tick d).ca[j]?=some ((Disk.tick d).ca[j]'(by rw [h.ok.tick.len];exact hjl)):=List.getElem?_eq_getElem _
  have HCJ:=zH hcj
  have hjt:Int.toNat (j:Int)=j:=rfl
  rw [hjt]
  obtain⟨n,hn⟩:∃ n,n=d.st.length:=⟨_,rfl⟩
  have hnt:(Disk.tick d).st.length=n:=hn.symm
  have HNT:=zH hnt
  rw [<-hn] at q0 f2 hmx
  have hjn:(j:Int) < (n:Int):=by omega
  clear hn hnt hcj hjt
  by_cases h1:R=1
  ·subst h1
   rw [if_pos rfl]
   go_enter Tryz.func94,Tryz.ntmps94
   go_wp2_with (go_at_call 131;go_must (refine HF.out.mono ?_);rintro e w1 ⟨rfl,hP,hU⟩)
   go_ret
   exact⟨rfl,F,hP,hU⟩
  ·rw [if_neg h1]
   have t1:(R == 1)=false:=by simp [h1]
   have HXL:=zH hxl
   clear hxl
   obtain⟨RR,hRR⟩:∃ RR:Int × Disk.Dk,(if R=2 then (10,Disk.cut (Disk.put (Disk.tick d) j x)) else (0,Disk.put (Disk.tick d) j x))=RR:=⟨_,rfl⟩
   rw [hRR]
   have HRR:=zH hRR
   clear hRR
   go_enter Tryz.func94,Tryz.ntmps94
   go_wp2_with (go_at_call 131;go_must (refine HF.out.mono ?_);rintro e w1 ⟨rfl,hP,hU⟩;have y1:=hP.cells.2.1;rw [HNT.out] at y1;have fj:=hP.cac.free j;have hx1:=hx.upd hU hF)
   have z1:w1.drew.cell? (g 1)=some (.slice cb n n):=y1
   obtain⟨vj,cj,-⟩:=hP.cac.cell HCJ.out
   have bcb:=hP.cac.lt
   have bg:=za_a hP.box
   go_region_law (refine zb_z rfl (.tmp 41) (.tmp 42) rfl w1.drew.heap.size _ [] (by simp [Act.eval]) (OwnB.empty w1.drew (zN _)) a 64 c0 x (by simp [Act.eval]) ((hx1.stay (w':=w1.drew) (fun _ _ _=>rfl) (zN _)).ext ((Below.refl _ _).alloc (zN _) _)) (by simp) (by simp) ?_;intro v3 w3 hO3 hg3;obtain⟨b,c,rfl,hb,hbl,hs3⟩:=OwnB.at0 (l:=x) hO3 HXL.out;have hB3:=((Below.refl w1.drew.heap.size w1.drew).alloc (zN _) (.cells #[] 5)).grown hg3 (by simp) (fun k hk=>by cases hk;exact zN _);have z3:=(hB3.cell (p:=(g 1)) bg).trans z1;have f3:w3.frozen? (cb j)=false:=(((hP.stay (w':=w1.drew) (fun _ _=>rfl) (zN _)).ext hB3).cac.free j);have c3:=(hB3.cell (p:=(cb j)) bcb).trans cj)
   all_goals
    have hB1:Below w1.heap.size w1 w3:=(Below.drew (Below.refl _ _)).trans hB3
    obtain⟨hP4,hU4⟩:=hP.put hjl HXL.out hb hB1 hs3 hbl
    clear z1 z3 f3 c3 cj y1 fj hs3 hO3 hg3 hB3 hB1
    generalize w3.setCell (cb j) (.slice b 64 c)=W4 at *
    have y4:=hP4.cells.2.2.2.2
    have f4:=hP4.free 4
    have off4:(Disk.put (Disk.tick d) j x).off=false:=hoff'
    rw [off4] at y4
    have HP4:=zH hP4
    have HU4:=zH (hU.trans hU4)
    clear hP4 hU4 hP off4
    by_cases h2:R=2
    ·have hrr:=HRR.out
     rw [if_pos h2] at hrr
     have HRR2:=zH hrr
     subst h2
     clear hrr HRR
     go_wp2_with fail
     go_ret
     rw [<-HRR2.out]
     exact⟨rfl,_,HP4.out.setOff true,HU4.out.setCell (.inl hFg) _ _⟩
    ·have t2:(R == 2)=false:=by simp [h2]
     have hrr:=HRR.out
     rw [if_neg h2] at hrr
     have HRR2:=zH hrr
     clear hrr HRR
     go_wp2_with fail
     go_ret
     rw [<-HRR2.out]
     exact⟨rfl,_,HP4.out,HU4.out⟩
 ·rw [if_neg hfit]
  obtain⟨n,hn⟩:∃ n,n=d.st.length:=⟨_,rfl⟩
  rw [<-hn] at q0
  unfold Disk.fits at hfit
  rw [<-hn] at hfit
  simp only [Bool.and_eq_true,decide_eq_true_eq] at hfit
  clear hn
  by_cases hneg:i < 0
  ·clear hfit
   go_enter Tryz.func94,Tryz.ntmps94
   go_wp2
   go_ret
   exact⟨rfl,F,h,Upd.refl _ _⟩
  ·by_cases hge:(n:Int)<=i
   case' pos=>clear hfit
   case' neg=>
    have h64:¬ n0=64:=fun e=>hfit ⟨⟨by omega,by omega⟩,e⟩
    have t64:((n0:Int) != 64)=true:=by simp;omega
    have t65:((n0:Int) == 64)=false:=by simp;omega
    clear hfit h64
   all_goals
    go_enter Tryz.func94,Tryz.ntmps94
    go_wp2
    go_ret
    exact⟨rfl,F,h,Upd.refl _ _⟩
end
end
section
open Go.RowKit
variable {i:Nat}
namespace Disk
def caAt (d:Dk) (i:Nat):List (Option (List UInt8)):=(List.range d.ca.length).map fun k=>if k < i then none else d.ca[k]?.getD none
def mid (d:Dk) (i:Nat):Dk:={ d with st:=stAt d (fun k=>decide (k < i)),ca:=caAt d i }
theorem caAt_get (d:Dk) (i k:Nat) (hk:k < d.ca.length):(caAt d i)[k]?=some (if k < i then none else d.ca[k]?.getD none):=by
 unfold caAt;simp [hk]
theorem zm_q (d:Dk):caAt d 0=d.ca:=by
 unfold caAt
 apply List.ext_getElem
 ·simp
 ·intro k h1 h2
  simp [h2]
theorem zm_p (d:Dk) (i:Nat) (hi:d.ca[i]?=some none):caAt d (i+1)=caAt d i:=by
 unfold caAt
 refine List.map_congr_left fun k hk=>?_
 by_cases h:k=i
 ·subst h;simp [hi]
 ·have:(k < i+1) ↔ (k < i):=by omega
  simp [this]
theorem zp_k (d:Dk) (i:Nat):caAt d (i+1)=(caAt d i).set i none:=by
 unfold caAt
 apply List.ext_getElem
 ·simp
 ·intro k h1 h2
  simp only [List.getElem_map,List.getElem_range,List.getElem_set]
  by_cases h:i=k
  ·subst h;simp
  ·have:(k < i+1) ↔ (k < i):=by omega
   simp [this,h]
theorem zp_j (d:Dk) (i:Nat) (hi:d.ca.length<=i):caAt d i=List.replicate d.ca.length none:=by
 unfold caAt
 apply List.ext_getElem
 ·simp
 ·intro k h1 h2
  simp at h1
  simp [show k < i by omega]
theorem mid_zero (d:Dk):mid d 0=d:=by
 unfold mid
 rw [zm_q]
 have:(fun k=>decide (k < 0))=fun (_:Nat)=>false:=by funext k;simp
 rw [this,stAt_none]
theorem mid_none (d:Dk) (i:Nat) (hi:d.ca[i]?=some none):mid d (i+1)=mid d i:=by
 unfold mid
 rw [zm_p d i hi]
 congr 1
 unfold stAt
 refine List.map_congr_left fun k hk=>?_
 by_cases h:k=i
 ·subst h;simp [content,hi]
 ·have:(k < i+1) ↔ (k < i):=by omega
  simp [this]
theorem mid_some (d:Dk) (i:Nat) (h:i < d.st.length) (x:List UInt8) (hi:d.ca[i]?=some (some x)):mid d (i+1)={ mid d i with st:=(mid d i).st.set i x,ca:=(mid d i).ca.set i none }:=by
 have e:(fun k=>decide (k < i+1))=fun k=>decide (k < i) || k == i:=by
  funext k
  by_cases h:k=i
  ·subst h;simp
  ·have:(k < i+1) ↔ (k < i):=by omega
   simp [this,h]
 show Dk.mk (stAt d (fun k=>decide (k < i+1))) (caAt d (i+1)) d.fs d.cnt d.off=Dk.mk ((stAt d (fun k=>decide (k < i))).set i x) ((caAt d i).set i none) d.fs d.cnt d.off
 rw [e,stAt_step d _ i h x hi,zp_k]
theorem mid_all {d:Dk} (h:d.Ok):mid d d.st.length=flush d:=by
 unfold mid flush
 rw [zp_j d _ (by rw [h.len];exact zN _),stAt_all]
 intro i x hx
 have:=(List.getElem?_eq_some_iff.1 hx).1
 have:=h.len
 simp;omega
theorem mid_len (d:Dk) (i:Nat):(mid d i).st.length=d.st.length:=by simp [mid,stAt]
end Disk
section
variable {F:Nat->Prop} {w w':World} {g sb cb sc:Nat} {fa:Option Addr} {fn fc:Nat} {d d':Disk.Dk}
theorem RD.setSto (h:RD F w g sb cb sc fa fn fc d) (hi:i < d.st.length) {v:Value} {x:List UInt8} (hv:IsS (Rw F g sb cb) w v (some x)) (h64:x.length=64) :
 RD F (w.setCell (sb i) v) g sb cb sc fa fn fc { d with st:=d.st.set i x }:=by
 have k:∀ b,b ≠ sb->(w.setCell (sb i) v).heap[b]?=w.heap[b]?:=fun b hb=>heap_setCell_other _ _ _ _ hb
 have hz:(w.setCell (sb i) v).heap.size=w.heap.size:=by simp
 refine⟨⟨by simpa using h.ok.len,by simpa using h.ok.pos,by simpa using h.ok.max,fun y hy=>?_,h.ok.ca64⟩,?_,?_,h.cac.stay (k cb (Ne.symm h.sc')) (fun b hb=>k b hb.2.2.1) (Nat.le_of_eq hz.symm) (fun _ e=>e),h.flt.stay (fun y hy hl=>k _ (h.fltF y hy hl).2.2.1) (Nat.le_of_eq hz.symm),h.fltF,fun b hb=>by rw [hz];exact h.lt b hb,h.Fg,h.Fs,h.Fc,h.gs,h.gc,h.sc',by simpa using h.cap⟩
 ·rcases List.mem_or_eq_of_mem_set hy with h1|h1
  ·exact h.ok.st64 y h1
  ·rw [h1];exact h64
 ·rw [List.length_set];exact (k g h.gs).trans h.box
 ·have:=h.sto.set (fun e=>e.2.2.1 rfl) (i:=i) (by simpa using hi) hv
  rw [<-List.map_set] at this
  exact this
theorem RD.setNone (h:RD F w g sb cb sc fa fn fc d) (hi:i < d.st.length) :
 RD F (w.setCell (cb i) (.slice none 0 0)) g sb cb sc fa fn fc { d with ca:=d.ca.set i none }:=by
 have k:∀ b,b ≠ cb->(w.setCell (cb i) (.slice none 0 0)).heap[b]?=w.heap[b]?:=fun b hb=>heap_setCell_other _ _ _ _ hb
 have hz:(w.setCell (cb i) (.slice none 0 0)).heap.size=w.heap.size:=by simp
 refine⟨⟨by simpa using h.ok.len,h.ok.pos,h.ok.max,h.ok.st64,fun y hy=>?_⟩,(k g h.gc).trans h.box,h.sto.stay (k sb h.sc') (fun b hb=>k b hb.2.2.2) (Nat.le_of_eq hz.symm) (fun _ e=>e),h.cac.set (fun e=>e.2.2.2 rfl) (by rw [h.ok.len];exact hi) rfl,h.flt.stay (fun y hy hl=>k _ (h.fltF y hy hl).2.2.2) (Nat.le_of_eq hz.symm),h.fltF,fun b hb=>by rw [hz];exact h.lt b hb,h.Fg,h.Fs,h.Fc,h.gs,h.gc,h.sc',h.cap⟩
 rcases List.mem_or_eq_of_mem_set hy with h1|h1
 ·exact h.ok.ca64 y h1
 ·cases h1
theorem zo_v (d:Disk.Dk):Disk.sync d=if d.off then (10,d) else if Disk.fault d=1 then (9,Disk.tick d) else if Disk.fault d=2 then (10,Disk.cut (Disk.tick d)) else (0,Disk.flush (Disk.tick d)):=by
 unfold Disk.sync Disk.begin
 cases d.off
 ·by_cases h1:Disk.fault d=1
  ·simp [h1]
  ·by_cases h2:Disk.fault d=2
   ·simp [h2]
   ·simp only [Bool.false_eq_true,if_false,if_true,if_neg h1,if_neg h2]
 ·rfl
set_option maxRecDepth 100000 in
set_option maxHeartbeats 4000000 in
theorem zo_e (h:RD F w g sb cb sc fa fn fc d) :
 Calls Tryz.prog 92 #[.pointer g] w fun e w'=>e=.returned (.int .i64 (Disk.sync d).1)/\RD F w' g sb cb sc fa fn fc (Disk.sync d).2/\Upd F w F w':=by
 rw [zo_v]
 have hFg:=h.Fg
 obtain⟨-,-,-,-,q4⟩:=h.cells
 by_cases hoff:d.off=true
 ·rw [if_pos hoff]
  rw [hoff] at q4
  go_enter Tryz.func92,Tryz.ntmps92
  go_wp2
  go_ret
  exact⟨rfl,h,Upd.refl _ _⟩
 have hoff':d.off=false:=by simpa using hoff
 rw [if_neg hoff]
 rw [hoff'] at q4
 have HF:=zH (zh_d h)
 obtain⟨R,hR⟩:∃ R,Disk.fault d=R:=⟨_,rfl⟩
 rw [hR] at HF ⊢
 clear hR
 by_cases h1:R=1
 ·subst h1
  rw [if_pos rfl]
  go_enter Tryz.func92,Tryz.ntmps92
  go_wp2_with (go_at_call 131;go_must (refine HF.out.mono ?_);rintro e w1 ⟨rfl,hP,hU⟩)
  go_ret
  exact⟨rfl,hP,hU⟩
 rw [if_neg h1]
 by_cases h2:R=2
 ·subst h2
  rw [if_pos rfl]
  clear h1
  go_enter Tryz.func92,Tryz.ntmps92
  go_wp2_with (go_at_call 131;go_must (refine HF.out.mono ?_);rintro e w1 ⟨rfl,hP,hU⟩;have y4:=hP.cells.2.2.2.2;have f4:=hP.free 4)
  go_ret
  exact⟨rfl,hP.setOff true,hU.setCell (.inl hFg) _ _⟩
 rw [if_neg h2]
 have t1:(R == 1)=false:=by simp [h1]
 have t2:(R == 2)=false:=by simp [h2]
 have hmx:=h.ok.max
 obtain⟨n,hn⟩:∃ n,n=d.st.length:=⟨_,rfl⟩
 rw [<-hn] at hmx
 have hall:Disk.mid (Disk.tick d) n=Disk.flush (Disk.tick d):=by rw [hn];exact Disk.mid_all h.ok.tick
 have hnl:∀ k,(Disk.mid (Disk.tick d) k).st.length=n:=fun k=>by rw [Disk.mid_len];exact hn.symm
 have hcl:(Disk.tick d).ca.length=n:=by rw [hn];exact h.ok.len
 have HN:=zH (And.intro hall (And.intro hnl hcl))
 clear hn hall hnl hcl h1 h2 hoff hoff'
 have h0:Disk.mid (Disk.tick d) 0=Disk.tick d:=Disk.mid_zero _
 have H0:=zH h0
 clear h0
 go_enter Tryz.func92,Tryz.ntmps92
 go_wp2_with (go_at_call 131;go_must (refine HF.out.mono ?_);rintro e w1 ⟨rfl,hP1,hU1⟩)
 rw [<-H0.out] at hP1
 clear q4
 go_loopw [3] (fun i wr=>∃ k:Nat,k<=n/\i=.int .i64 k/\RD F wr g sb cb sc fa fn fc (Disk.mid (Disk.tick d) k)/\Upd F w F wr) (fun i _=>n - (intOf i).toNat)
 case atStart=>exact⟨0,by omega,rfl,hP1,hU1⟩
 case round =>
  obtain⟨k,hk,rfl,hP,hU⟩:=hrel
  clear hP1 hU1
  obtain⟨y0,y1,-⟩:=hP.cells
  rw [HN.out.2.1] at y0 y1
  by_cases hlt:k < n
  ·have hkc:k < (Disk.tick d).ca.length:=by rw [HN.out.2.2];exact hlt
   have hcg:(Disk.mid (Disk.tick d) k).ca[k]?=some ((Disk.tick d).ca[k]'hkc):=by
    show (Disk.caAt (Disk.tick d) k)[k]?=_
    rw [Disk.caAt_get _ _ _ hkc,if_neg (Nat.lt_irrefl _),List.getElem?_eq_getElem hkc];rfl
   have hdk:(Disk.tick d).ca[k]?=some ((Disk.tick d).ca[k]'hkc):=List.getElem?_eq_getElem hkc
   obtain⟨v,cv,sv⟩:=hP.cac.cell hcg
   obtain⟨x,hx⟩:∃ x,(Disk.tick d).ca[k]'hkc=x:=⟨_,rfl⟩
   rw [hx] at sv hdk hcg
   have HCG:=zH hcg
   clear hcg hx
   have i0:(0:Int)<=(k:Int):=by omega
   have i1:(k:Int) < (n:Int):=by omega
   cases x with
  |none =>
    have sv:v=.slice none 0 0:=sv
    subst sv
    have hmid:=Disk.mid_none _ _ hdk
    have HM:=zH hmid
    clear hmid hdk hkc
    go_wp2
    exact⟨⟨k+1,by omega,by go_num,by rw [HM.out];exact hP,hU⟩,by simp [intOf];omega⟩
  |some x =>
    have hmid:=Disk.mid_some _ _ (by have:=HN.out.2.1 0;rw [Disk.mid_len] at this;rw [this];exact hlt) x hdk
    have h64:x.length=64:=h.ok.tick.ca64 x (List.mem_of_getElem? hdk)
    have hsv:=sv
    obtain⟨b,c,rfl,r1,l1⟩:=sv
    have fs:=hP.sto.free k
    obtain⟨vs,cs,-⟩:=hP.sto.cell (i:=k) (x:=some ((Disk.mid (Disk.tick d) k).st[k]'(by rw [HN.out.2.1];exact hlt))) (by rw [List.getElem?_map,List.getElem?_eq_getElem];rfl)
    have HS:=zH (hP.setSto (by rw [HN.out.2.1];exact hlt) hsv h64)
    have HM:=zH hmid
    clear hmid hdk hkc hsv r1 l1 h64
    go_wp2
    go_region
    have hP2:=HS.out.stay (w':=(wr.setCell (sb k) (.slice b 64 c)).drew) (fun _ _=>rfl) (zN _)
    have hU2:=(hU.setCell (.inl h.Fs) k (.slice b 64 c)).drew
    clear HS hP hU y0 y1 cv fs cs
    generalize (wr.setCell (sb k) (.slice b 64 c)).drew=W2 at *
    have hl2:((Disk.mid (Disk.tick d) k).st.set k x).length=n:=by rw [List.length_set];exact HN.out.2.1 k
    have z1:=hP2.cells.2.1
    change _=some (Value.slice _ ((Disk.mid (Disk.tick d) k).st.set k x).length ((Disk.mid (Disk.tick d) k).st.set k x).length) at z1
    rw [hl2] at z1
    have fz:=hP2.cac.free k
    obtain⟨vz,cz,-⟩:=hP2.cac.cell HCG.out
    have HS3:=zH (hP2.setNone (i:=k) (by change k < ((Disk.mid (Disk.tick d) k).st.set k x).length;rw [hl2];exact hlt))
    clear hP2 hl2
    go_wp2
    exact⟨⟨k+1,by omega,by go_num,by rw [HM.out];exact HS3.out,hU2.setCell (.inl h.Fc) _ _⟩,by simp [intOf];omega⟩
  ·obtain rfl:k=n:=by omega
   rw [HN.out.1] at hP
   go_wp2
   go_ret
   exact⟨rfl,hP,hU⟩
end
end
end Go.Proofs.YtmanejniepghlaaGreatDoor
