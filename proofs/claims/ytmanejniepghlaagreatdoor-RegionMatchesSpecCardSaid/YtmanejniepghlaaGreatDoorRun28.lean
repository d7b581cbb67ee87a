import Derived.Test.YtmanejniepghlaaGreatDoorRun26
import Derived.Test.YtmanejniepghlaaGreatDoorRun2
set_option maxHeartbeats 4000000
set_option maxRecDepth 100000
namespace Go.Proofs.YtmanejniepghlaaGreatDoor
section
open Go.RowKit
section
variable {F:Nat->Prop} {w w':World} {g sb cb sc:Nat} {fa:Option Addr} {fn fc:Nat} {d d':Dd.Dk}
theorem Fu (d:Dd.Dk) (i:Int) (x:List UInt8):Dd.write d i x=if d.off then (10,d) else if (Dd.fits d i && decide (x.length=64)) then (if Dd.fault d=1 then (9,Dd.tick d) else if Dd.fault d=2 then (10,Dd.cut (Dd.put (Dd.tick d) i.toNat x)) else (0,Dd.put (Dd.tick d) i.toNat x)) else (2,d):=by
 unfold Dd.write Dd.begin
 cases d.off
 ·cases (Dd.fits d i && decide (x.length=64))
  ·rfl
  ·by_cases a:Dd.fault d=1
   ·simp [a]
   ·by_cases b:Dd.fault d=2
    ·simp [b]
    ·simp only [Bool.false_eq_true,if_false,if_true,if_neg a,if_neg b]
 ·rfl
theorem AC.NB {base:Nat} {w:World} {v:Value} {l:List UInt8} (h:AC base w v l) (i:l.length=64):∃ b c,v=.slice (b:Nat) 64 c/\base<=b/\b < w.heap.size/\AM w b 64 c l:=by
 have f:=h.lt
 obtain⟨a,c,rfl,hs,k⟩:=h.sl
 rw [i] at hs f ⊢
 cases a with
|none=>have:=(hs.2.2.2.1 rfl).1;subst this;simp at i
|some x =>
  obtain⟨e,j,-⟩:=k x rfl
  have:=f x.block rfl
  exact⟨x.block,c,by rw [<-e],j,this.2,by rw [<-e];exact hs⟩
theorem RD.put (h:RD F w g sb cb sc fa fn fc d) {i b c:Nat} (t:i < d.st.length) {x:List UInt8} (u:x.length=64) (z:w.heap.size<=b) {f:World} (p:Below w.heap.size w f) (hs:AM f b 64 c x) (q:b < f.heap.size) :
 RD (fun k=>F k\/k=b) (f.setCell (cb i) (.slice b 64 c)) g sb cb sc fa fn fc (Dd.put d i x)/\AD F w (fun k=>F k\/k=b) (f.setCell (cb i) (.slice b 64 c)):=by
 have j:=h.ext p
 have ne:∀ k,F k->k ≠ b:=fun k a e=>by have:=h.lt k a;omega
 have l:∀ k,k ≠ cb->(f.setCell (cb i) (.slice b 64 c)).heap[k]?=f.heap[k]?:=fun k a=>heap_setCell_other _ _ _ _ a
 have m:∀ k,Rw F g sb cb k->Rw (fun k=>F k\/k=b) g sb cb k:=fun k a=>⟨.inl a.1,a.2⟩
 have r:i < d.ca.length:=by rw [h.ok.len];exact t
 refine⟨⟨h.ok.put i x u,?_,?_,?_,?_,fun y o n=>m _ (h.fltF y o n),fun k a=>?_,.inl h.Fg,.inl h.Fs,.inl h.Fc,h.gs,h.gc,h.sc',h.cap⟩,?_⟩
 ·exact (l g h.gc).trans j.box
 ·exact j.sto.AI (l sb h.sc') (fun k a=>l k a.2.2.2) (by simp) m
 ·have s:RowS (Rw (fun k=>F k\/k=b) g sb cb) f cb d.ca:=j.cac.AI rfl (fun _ _=>rfl) (zN _) m
  exact s.set (fun e=>e.2.2.2 rfl) r ⟨b,c,rfl,⟨.inr rfl,fun e=>ne g h.Fg e.symm,fun e=>ne sb h.Fs e.symm,fun e=>ne cb h.Fc e.symm⟩,hs⟩
 ·exact j.flt.AI (fun y o n=>l _ (h.fltF y o n).2.2.2) (by simp)
 ·rcases a with e|e
  ·have:=j.lt k e;simpa using this
  ·subst e;simpa using q
 ·exact ((AD.AL p).setCell (.inl h.Fc) _ _).grow fun k a=>by
   rcases a with e|e
   ·exact .inl e
   ·exact .inr (by omega)
def JO (F:Nat->Prop) (w:World) (g sb cb sc:Nat) (fa:Option Addr) (fn fc:Nat) (r:Int × Dd.Dk) (e:Ending) (w':World):Prop :=
 e=.returned (r.1:Value)/\∃ a,RD a w' g sb cb sc fa fn fc r.2/\AD F w a w'
theorem Et (h:RD F w g sb cb sc fa fn fc d) (i:Int) (a:Option Addr) (q I:Nat) (x:List UInt8) (K:AM w a q I x) (hF:∀ y,a=some y->x ≠ []->¬ F y.block) :
 Calls Tryz.prog 94 #[.pointer g,i,.slice a q I] w (JO F w g sb cb sc fa fn fc (Dd.write d i x)):=by
 rw [Fu]
 have zj:=h.Fg
 have G:=K.len
 have zq:=K.le
 rw [G]
 obtain⟨q0,-,-,-,q4⟩:=h.cells
 by_cases s:d.off=true
 ·rw [if_pos s]
  rw [s] at q4
  go_in
  go_wp2
  go_ret
  exact⟨rfl,F,h,AD.refl _ _⟩
 have O:d.off=false:=by simpa using s
 rw [if_neg s]
 rw [O] at q4
 have zl:=h.ok.max
 by_cases hfit:(Dd.fits d i && decide (q=64))=true
 ·rw [if_pos hfit]
  unfold Dd.fits at hfit
  simp only [Bool.and_eq_true,decide_eq_true_eq] at hfit
  obtain⟨⟨f1,f2⟩,rfl⟩:=hfit
  obtain⟨j,rfl⟩:∃ j:Nat,i=(j:Int):=⟨i.toNat,by omega⟩
  have H:=zH (Wb h)
  obtain⟨R,hR⟩:∃ R,Dd.fault d=R:=⟨_,rfl⟩
  rw [hR] at H ⊢
  clear hR
  have zb:j < (Dd.tick d).st.length:=by
   show j < d.st.length
   omega
  have Z:(Dd.tick d).ca[j]?=some ((Dd.tick d).ca[j]'(by rw [h.ok.tick.len];exact zb)):=List.getElem?_eq_getElem _
  have zf:=zH Z
  have zc:Int.toNat (j:Int)=j:=rfl
  rw [zc]
  obtain⟨n,hn⟩:∃ n,n=d.st.length:=⟨_,rfl⟩
  have zd:(Dd.tick d).st.length=n:=hn.symm
  have zg:=zH zd
  rw [<-hn] at q0 f2 zl
  have zp:(j:Int) < (n:Int):=by omega
  clear hn zd Z zc
  by_cases J:R=1
  ·subst J
   rw [if_pos rfl]
   go_in
   go_wp2_with (go_at_call 131;go_must (refine H.out.mono ?_);rintro e m ⟨rfl,f,A⟩)
   go_ret
   exact⟨rfl,F,f,A⟩
  ·rw [if_neg J]
   have t1:(R == 1)=false:=by simp [J]
   have U:=zH G
   clear G
   obtain⟨RR,C⟩:∃ RR:Int × Dd.Dk,(if R=2 then (10,Dd.cut (Dd.put (Dd.tick d) j x)) else (0,Dd.put (Dd.tick d) j x))=RR:=⟨_,rfl⟩
   rw [C]
   have t:=zH C
   clear C
   go_in
   go_wp2_with (go_at_call 131;go_must (refine H.out.mono ?_);rintro e m ⟨rfl,f,A⟩;have N:=f.cells.2.1;rw [zg.out] at N;have fj:=f.cac.free j;have zm:=K.upd A hF)
   have z1:m.drew.cell? (g 1)=some (.slice cb n n):=N
   obtain⟨vj,cj,-⟩:=f.cac.cell zf.out
   have zh:=f.cac.lt
   have bg:=Qa f.box
   go_region_law (refine Jd rfl (.tmp 41) (.tmp 42) rfl m.drew.heap.size _ [] (by simp [Act.eval]) (AC.empty m.drew (zN _)) a 64 I x (by simp [Act.eval]) ((zm.AI (w':=m.drew) (fun _ _ _=>rfl) (zN _)).ext ((Below.refl _ _).alloc (zN _) _)) (by simp) (by simp) ?_;intro v3 M X za;obtain⟨b,c,rfl,hb,zk,ze⟩:=AC.NB (l:=x) X U.out;have r:=((Below.refl m.drew.heap.size m.drew).alloc (zN _) (.cells #[] 5)).grown za (by simp) (fun k hk=>by cases hk;exact zN _);have z3:=(r.cell (p:=(g 1)) bg).trans z1;have f3:M.frozen? (cb j)=false:=(((f.AI (w':=m.drew) (fun _ _=>rfl) (zN _)).ext r).cac.free j);have c3:=(r.cell (p:=(cb j)) zh).trans cj)
   all_goals
    have W:Below m.heap.size m M:=(Below.drew (Below.refl _ _)).trans r
    obtain⟨u,Y⟩:=f.put zb U.out hb W ze zk
    clear z1 z3 f3 c3 cj N fj ze X za r W
    generalize M.setCell (cb j) (.slice b 64 c)=W4 at *
    have y4:=u.cells.2.2.2.2
    have f4:=u.free 4
    have P:(Dd.put (Dd.tick d) j x).off=false:=O
    rw [P] at y4
    have Q:=zH u
    have T:=zH (A.trans Y)
    clear u Y f P
    by_cases z:R=2
    ·have o:=t.out
     rw [if_pos z] at o
     have B:=zH o
     subst z
     clear o t
     go_wp2_with fail
     go_ret
     rw [<-B.out]
     exact⟨rfl,_,Q.out.FG true,T.out.setCell (.inl zj) _ _⟩
    ·have t2:(R == 2)=false:=by simp [z]
     have o:=t.out
     rw [if_neg z] at o
     have B:=zH o
     clear o t
     go_wp2_with fail
     go_ret
     rw [<-B.out]
     exact⟨rfl,_,Q.out,T.out⟩
 ·rw [if_neg hfit]
  obtain⟨n,hn⟩:∃ n,n=d.st.length:=⟨_,rfl⟩
  rw [<-hn] at q0
  unfold Dd.fits at hfit
  rw [<-hn] at hfit
  simp only [Bool.and_eq_true,decide_eq_true_eq] at hfit
  clear hn
  by_cases zn:i < 0
  ·clear hfit
   go_in
   go_wp2
   go_ret
   exact⟨rfl,F,h,AD.refl _ _⟩
  ·by_cases zo:(n:Int)<=i
   case' pos=>clear hfit
   case' neg=>
    have zi:¬ q=64:=fun e=>hfit ⟨⟨by omega,by omega⟩,e⟩
    have t64:((q:Int) != 64)=true:=by simp;omega
    have zr:((q:Int) == 64)=false:=by simp;omega
    clear hfit zi
   all_goals
    go_in
    go_wp2
    go_ret
    exact⟨rfl,F,h,AD.refl _ _⟩
end
end
section
open Go.RowKit
variable {i:Nat}
namespace Dd
def GE (d:Dk) (i:Nat):List (Option (List UInt8)):=(List.range d.ca.length).map fun k=>if k < i then none else d.ca[k]?.getD none
def mid (d:Dk) (i:Nat):Dk:={ d with st:=DE d (fun k=>decide (k < i)),ca:=GE d i }
theorem SC (d:Dk) (i k:Nat) (a:k < d.ca.length):(GE d i)[k]?=some (if k < i then none else d.ca[k]?.getD none):=by
 unfold GE;simp [a]
theorem Pk (d:Dk):GE d 0=d.ca:=by
 unfold GE
 apply List.ext_getElem
 ·simp
 ·intro k b a
  simp [a]
theorem Pj (d:Dk) (i:Nat) (a:d.ca[i]?=some none):GE d (i+1)=GE d i:=by
 unfold GE
 refine List.map_congr_left fun k b=>?_
 by_cases h:k=i
 ·subst h;simp [a]
 ·have:(k < i+1) ↔ (k < i):=by omega
  simp [this]
theorem Dq (d:Dk) (i:Nat):GE d (i+1)=(GE d i).set i none:=by
 unfold GE
 apply List.ext_getElem
 ·simp
 ·intro k a b
  simp only [List.getElem_map,List.getElem_range,List.getElem_set]
  by_cases h:i=k
  ·subst h;simp
  ·have:(k < i+1) ↔ (k < i):=by omega
   simp [this,h]
theorem Dp (d:Dk) (i:Nat) (c:d.ca.length<=i):GE d i=List.replicate d.ca.length none:=by
 unfold GE
 apply List.ext_getElem
 ·simp
 ·intro k a b
  simp at a
  simp [show k < i by omega]
theorem TI (d:Dk):mid d 0=d:=by
 unfold mid
 rw [Pk]
 have:(fun k=>decide (k < 0))=fun (_:Nat)=>false:=by funext k;simp
 rw [this,LT]
theorem TG (d:Dk) (i:Nat) (a:d.ca[i]?=some none):mid d (i+1)=mid d i:=by
 unfold mid
 rw [Pj d i a]
 congr 1
 unfold DE
 refine List.map_congr_left fun k b=>?_
 by_cases h:k=i
 ·subst h;simp [content,a]
 ·have:(k < i+1) ↔ (k < i):=by omega
  simp [this]
theorem TH (d:Dk) (i:Nat) (h:i < d.st.length) (x:List UInt8) (a:d.ca[i]?=some (some x)):mid d (i+1)={ mid d i with st:=(mid d i).st.set i x,ca:=(mid d i).ca.set i none }:=by
 have e:(fun k=>decide (k < i+1))=fun k=>decide (k < i) || k == i:=by
  funext k
  by_cases h:k=i
  ·subst h;simp
  ·have:(k < i+1) ↔ (k < i):=by omega
   simp [this,h]
 show Dk.mk (DE d (fun k=>decide (k < i+1))) (GE d (i+1)) d.fs d.cnt d.off=Dk.mk ((DE d (fun k=>decide (k < i))).set i x) ((GE d i).set i none) d.fs d.cnt d.off
 rw [e,LU d _ i h x a,Dq]
theorem UY {d:Dk} (h:d.Ok):mid d d.st.length=flush d:=by
 unfold mid flush
 rw [Dp d _ (by rw [h.len];exact zN _),OO]
 intro i x a
 have:=(List.getElem?_eq_some_iff.1 a).1
 have:=h.len
 simp;omega
theorem QI (d:Dk) (i:Nat):(mid d i).st.length=d.st.length:=by simp [mid,DE]
end Dd
section
variable {F:Nat->Prop} {w w':World} {g sb cb sc:Nat} {fa:Option Addr} {fn fc:Nat} {d d':Dd.Dk}
theorem RD.TU (h:RD F w g sb cb sc fa fn fc d) (m:i < d.st.length) {v:Value} {x:List UInt8} (o:WC (Rw F g sb cb) w v (some x)) (l:x.length=64) :
 RD F (w.setCell (sb i) v) g sb cb sc fa fn fc { d with st:=d.st.set i x }:=by
 have k:∀ b,b ≠ sb->(w.setCell (sb i) v).heap[b]?=w.heap[b]?:=fun b a=>heap_setCell_other _ _ _ _ a
 have j:(w.setCell (sb i) v).heap.size=w.heap.size:=by simp
 refine⟨⟨by simpa using h.ok.len,by simpa using h.ok.pos,by simpa using h.ok.max,fun y f=>?_,h.ok.ca64⟩,?_,?_,h.cac.AI (k cb (Ne.symm h.sc')) (fun b a=>k b a.2.2.1) (Nat.le_of_eq j.symm) (fun _ e=>e),h.flt.AI (fun y f n=>k _ (h.fltF y f n).2.2.1) (Nat.le_of_eq j.symm),h.fltF,fun b a=>by rw [j];exact h.lt b a,h.Fg,h.Fs,h.Fc,h.gs,h.gc,h.sc',by simpa using h.cap⟩
 ·rcases List.mem_or_eq_of_mem_set f with c|c
  ·exact h.ok.st64 y c
  ·rw [c];exact l
 ·rw [List.length_set];exact (k g h.gs).trans h.box
 ·have:=h.sto.set (fun e=>e.2.2.1 rfl) (i:=i) (by simpa using m) o
  rw [<-List.map_set] at this
  exact this
theorem RD.VF (h:RD F w g sb cb sc fa fn fc d) (l:i < d.st.length) :
 RD F (w.setCell (cb i) (.slice none 0 0)) g sb cb sc fa fn fc { d with ca:=d.ca.set i none }:=by
 have k:∀ b,b ≠ cb->(w.setCell (cb i) (.slice none 0 0)).heap[b]?=w.heap[b]?:=fun b a=>heap_setCell_other _ _ _ _ a
 have j:(w.setCell (cb i) (.slice none 0 0)).heap.size=w.heap.size:=by simp
 refine⟨⟨by simpa using h.ok.len,h.ok.pos,h.ok.max,h.ok.st64,fun y f=>?_⟩,(k g h.gc).trans h.box,h.sto.AI (k sb h.sc') (fun b a=>k b a.2.2.2) (Nat.le_of_eq j.symm) (fun _ e=>e),h.cac.set (fun e=>e.2.2.2 rfl) (by rw [h.ok.len];exact l) rfl,h.flt.AI (fun y f m=>k _ (h.fltF y f m).2.2.2) (Nat.le_of_eq j.symm),h.fltF,fun b a=>by rw [j];exact h.lt b a,h.Fg,h.Fs,h.Fc,h.gs,h.gc,h.sc',h.cap⟩
 rcases List.mem_or_eq_of_mem_set f with c|c
 ·exact h.ok.ca64 y c
 ·cases c
theorem RD.widen (h:RD F w g sb cb sc fa fn fc d) {F':Nat->Prop} (hF:∀ k,F k->F' k) (c:∀ k,F' k->k < w.heap.size):RD F' w g sb cb sc fa fn fc d :=
 ⟨h.ok,h.box,h.sto.AI rfl (fun _ _=>rfl) (zN _) (fun k e=>⟨hF k e.1,e.2⟩),h.cac.AI rfl (fun _ _=>rfl) (zN _) (fun k e=>⟨hF k e.1,e.2⟩),h.flt,fun x b a=>⟨hF _ (h.fltF x b a).1,(h.fltF x b a).2⟩,c,hF _ h.Fg,hF _ h.Fs,hF _ h.Fc,h.gs,h.gc,h.sc',h.cap⟩
theorem RD.OM (h:RD F w g sb cb sc fa fn fc d) (a:Option Addr) (n c:Nat) (fs:List (Int × Int)) (l:CZ w a n c fs) (hF:∀ y,a=some y->fs ≠ []->Rw F g sb cb y.block) :
 RD F (w.setCell (g 2) (.slice a n c)) g sb cb sc a n c { d with fs:=fs }:=by
 have k:∀ b,b ≠ g->(w.setCell (g 2) (.slice a n c)).heap[b]?=w.heap[b]?:=fun b f=>heap_setCell_other _ _ _ _ f
 have j:(w.setCell (g 2) (.slice a n c)).heap.size=w.heap.size:=by simp
 exact⟨⟨h.ok.len,h.ok.pos,h.ok.max,h.ok.st64,h.ok.ca64⟩,by rw [heap_setCell_same _ _ _ _ _ _ h.box];rfl,h.sto.AI (k sb (Ne.symm h.gs)) (fun b f=>k b f.2.1) (Nat.le_of_eq j.symm) (fun _ e=>e),h.cac.AI (k cb (Ne.symm h.gc)) (fun b f=>k b f.2.1) (Nat.le_of_eq j.symm) (fun _ e=>e),l.AI (fun x o m=>k _ (hF x o m).2.1) (Nat.le_of_eq j.symm),hF,fun b f=>by rw [j];exact h.lt b f,h.Fg,h.Fs,h.Fc,h.gs,h.gc,h.sc',h.cap⟩
theorem RD.YD (h:RD F w g sb cb sc fa fn fc d) {b:Nat} {f:Array Value} (l:w.heap[b]?=some (.cells f 70 (0,0))) (hn:d.st.length<=f.size) (r:∀ i,i < d.st.length->f[i]?=some (.slice none 0 0)) (hF:¬ F b) :
 RD (fun k=>F k\/k=b) (w.setCell (g 1) (.slice b d.st.length d.st.length)) g sb b sc fa fn fc { d with ca:=List.replicate d.ca.length none }:=by
 have k:∀ j,j ≠ g->(w.setCell (g 1) (.slice b d.st.length d.st.length)).heap[j]?=w.heap[j]?:=fun j a=>heap_setCell_other _ _ _ _ a
 have p:(w.setCell (g 1) (.slice b d.st.length d.st.length)).heap.size=w.heap.size:=by simp
 have ne:∀ j,F j->j ≠ b:=fun j a e=>hF (e ▸ a)
 have q:∀ j,Rw F g sb cb j->Rw (fun k=>F k\/k=b) g sb b j:=fun j a=>⟨.inl a.1,a.2.1,a.2.2.1,ne j a.1⟩
 refine⟨⟨by simpa using h.ok.len,h.ok.pos,h.ok.max,h.ok.st64,fun y o=>by simp at o⟩,by rw [heap_setCell_same _ _ _ _ _ _ h.box];rfl,h.sto.AI (k sb (Ne.symm h.gs)) (fun b l=>k b l.2.1) (Nat.le_of_eq p.symm) q,⟨f,(k b (Ne.symm (ne g h.Fg))).trans l,by simpa [h.ok.len] using hn,fun i x c=>?_⟩,h.flt.AI (fun x c n=>k _ (h.fltF x c n).2.1) (Nat.le_of_eq p.symm),fun y o n=>q _ (h.fltF y o n),fun j a=>?_,.inl h.Fg,.inl h.Fs,.inr rfl,h.gs,ne g h.Fg,ne sb h.Fs,h.cap⟩
 ·have m:=(List.getElem?_eq_some_iff.1 c).1
  simp at m
  rw [List.getElem?_replicate,if_pos m] at c
  cases c
  exact⟨_,r i (by rw [<-h.ok.len];exact m),rfl⟩
 ·rw [p]
  rcases a with e|rfl
  ·exact h.lt j e
  ·exact Qa l
theorem Cy (d:Dd.Dk):Dd.sync d=if d.off then (10,d) else if Dd.fault d=1 then (9,Dd.tick d) else if Dd.fault d=2 then (10,Dd.cut (Dd.tick d)) else (0,Dd.flush (Dd.tick d)):=by
 unfold Dd.sync Dd.begin
 cases d.off
 ·by_cases a:Dd.fault d=1
  ·simp [a]
  ·by_cases b:Dd.fault d=2
   ·simp [b]
   ·simp only [Bool.false_eq_true,if_false,if_true,if_neg a,if_neg b]
 ·rfl
theorem Wc (h:RD F w g sb cb sc fa fn fc d) :
 Calls Tryz.prog 92 #[.pointer g] w fun e w'=>e=.returned (.int .i64 (Dd.sync d).1)/\RD F w' g sb cb sc fa fn fc (Dd.sync d).2/\AD F w F w':=by
 rw [Cy]
 have za:=h.Fg
 obtain⟨-,-,-,-,C⟩:=h.cells
 by_cases p:d.off=true
 ·rw [if_pos p]
  rw [p] at C
  go_in
  go_wp2
  go_ret
  exact⟨rfl,h,AD.refl _ _⟩
 have G:d.off=false:=by simpa using p
 rw [if_neg p]
 rw [G] at C
 have u:=zH (Wb h)
 obtain⟨R,P⟩:∃ R,Dd.fault d=R:=⟨_,rfl⟩
 rw [P] at u ⊢
 clear P
 by_cases s:R=1
 ·subst s
  rw [if_pos rfl]
  go_in
  go_wp2_with (go_at_call 131;go_must (refine u.out.mono ?_);rintro e T ⟨rfl,a,j⟩)
  go_ret
  exact⟨rfl,a,j⟩
 rw [if_neg s]
 by_cases y:R=2
 ·subst y
  rw [if_pos rfl]
  clear s
  go_in
  go_wp2_with (go_at_call 131;go_must (refine u.out.mono ?_);rintro e T ⟨rfl,a,j⟩;have y4:=a.cells.2.2.2.2;have f4:=a.free 4)
  go_ret
  exact⟨rfl,a.FG true,j.setCell (.inl za) _ _⟩
 rw [if_neg y]
 have t1:(R == 1)=false:=by simp [s]
 have t2:(R == 2)=false:=by simp [y]
 have zc:=h.ok.max
 obtain⟨n,hn⟩:∃ n,n=d.st.length:=⟨_,rfl⟩
 rw [<-hn] at zc
 have H:Dd.mid (Dd.tick d) n=Dd.flush (Dd.tick d):=by rw [hn];exact Dd.UY h.ok.tick
 have M:∀ k,(Dd.mid (Dd.tick d) k).st.length=n:=fun k=>by rw [Dd.QI];exact hn.symm
 have K:(Dd.tick d).ca.length=n:=by rw [hn];exact h.ok.len
 have l:=zH (And.intro H (And.intro M K))
 clear hn H M K s y p G
 have h0:Dd.mid (Dd.tick d) 0=Dd.tick d:=Dd.TI _
 have H0:=zH h0
 clear h0
 go_in
 go_wp2_with (go_at_call 131;go_must (refine u.out.mono ?_);rintro e T ⟨rfl,z,J⟩)
 rw [<-H0.out] at z
 clear C
 go_loopw [3] (fun i wr=>∃ k:Nat,k<=n/\i=.int .i64 k/\RD F wr g sb cb sc fa fn fc (Dd.mid (Dd.tick d) k)/\AD F w F wr) (fun i _=>n - (intOf i).toNat)
 case atStart=>exact⟨0,by omega,rfl,z,J⟩
 case round =>
  obtain⟨k,hk,rfl,a,j⟩:=hrel
  clear z J
  obtain⟨U,W,-⟩:=a.cells
  rw [l.out.2.1] at U W
  by_cases r:k < n
  ·have f:k < (Dd.tick d).ca.length:=by rw [l.out.2.2];exact r
   have t:(Dd.mid (Dd.tick d) k).ca[k]?=some ((Dd.tick d).ca[k]'f):=by
    show (Dd.GE (Dd.tick d) k)[k]?=_
    rw [Dd.SC _ _ _ f,if_neg (Nat.lt_irrefl _),List.getElem?_eq_getElem f];rfl
   have m:(Dd.tick d).ca[k]?=some ((Dd.tick d).ca[k]'f):=List.getElem?_eq_getElem f
   obtain⟨v,cv,sv⟩:=a.cac.cell t
   obtain⟨x,Q⟩:∃ x,(Dd.tick d).ca[k]'f=x:=⟨_,rfl⟩
   rw [Q] at sv m t
   have Y:=zH t
   clear t Q
   have i0:(0:Int)<=(k:Int):=by omega
   have i1:(k:Int) < (n:Int):=by omega
   cases x with
  |none =>
    have sv:v=.slice none 0 0:=sv
    subst sv
    have o:=Dd.TG _ _ m
    have B:=zH o
    clear o m f
    go_wp2
    exact⟨⟨k+1,by omega,by go_num,by rw [B.out];exact a,j⟩,by simp [intOf];omega⟩
  |some x =>
    have o:=Dd.TH _ _ (by have:=l.out.2.1 0;rw [Dd.QI] at this;rw [this];exact r) x m
    have I:x.length=64:=h.ok.tick.ca64 x (List.mem_of_getElem? m)
    have N:=sv
    obtain⟨b,c,rfl,r1,l1⟩:=sv
    have fs:=a.sto.free k
    obtain⟨vs,cs,-⟩:=a.sto.cell (i:=k) (x:=some ((Dd.mid (Dd.tick d) k).st[k]'(by rw [l.out.2.1];exact r))) (by rw [List.getElem?_map,List.getElem?_eq_getElem];rfl)
    have O:=zH (a.TU (by rw [l.out.2.1];exact r) N I)
    have B:=zH o
    clear o m f N r1 l1 I
    go_wp2
    go_region
    have q:=O.out.AI (w':=(wr.setCell (sb k) (.slice b 64 c)).drew) (fun _ _=>rfl) (zN _)
    have zb:=(j.setCell (.inl h.Fs) k (.slice b 64 c)).drew
    clear O a j U W cv fs cs
    generalize (wr.setCell (sb k) (.slice b 64 c)).drew=W2 at *
    have A:((Dd.mid (Dd.tick d) k).st.set k x).length=n:=by rw [List.length_set];exact l.out.2.1 k
    have X:=q.cells.2.1
    change _=some (Value.slice _ ((Dd.mid (Dd.tick d) k).st.set k x).length ((Dd.mid (Dd.tick d) k).st.set k x).length) at X
    rw [A] at X
    have fz:=q.cac.free k
    obtain⟨vz,cz,-⟩:=q.cac.cell Y.out
    have Z:=zH (q.VF (i:=k) (by change k < ((Dd.mid (Dd.tick d) k).st.set k x).length;rw [A];exact r))
    clear q A
    go_wp2
    exact⟨⟨k+1,by omega,by go_num,by rw [B.out];exact Z.out,zb.setCell (.inl h.Fc) _ _⟩,by simp [intOf];omega⟩
  ·obtain rfl:k=n:=by omega
   rw [l.out.1] at a
   go_wp2
   go_ret
   exact⟨rfl,a,j⟩
end
end
section
open Go.RowKit
namespace Dd
def CR (d:Dk) (k:Nat):List Int:=((List.range k).filter fun (i:Nat)=>(d.ca[i]?.getD none).isSome).map fun (i:Nat)=>(i:Int)
theorem MJ (d:Dk) (k:Nat) (h:d.ca[k]?.getD none=none):CR d (k+1)=CR d k:=by
 unfold CR;rw [List.range_succ,List.filter_append];simp [h]
theorem MK (d:Dk) (k:Nat) (x:List UInt8) (h:d.ca[k]?.getD none=some x):CR d (k+1)=CR d k ++ [(k:Int)]:=by
 unfold CR;rw [List.range_succ,List.filter_append,List.map_append];simp [h]
theorem NT (d:Dk) (k:Nat):(CR d k).length<=k:=by
 unfold CR;rw [List.length_map];exact Nat.le_trans (List.length_filter_le ..) (by simp)
theorem NS {d:Dk} (h:d.Ok):CR d d.st.length=dirty d:=by unfold CR dirty;rw [h.len]
end Dd
section
variable {F:Nat->Prop} {w w':World} {g sb cb sc:Nat} {fa:Option Addr} {fn fc:Nat} {d d':Dd.Dk}
theorem Ep (h:RD F w g sb cb sc fa fn fc d) :
 Calls Tryz.prog 42 #[.pointer g] w fun e w'=>∃ v,e=.returned v/\AS w.heap.size w' v (Dd.dirty d)/\Below w.heap.size w w':=by
 have G:=h.ok.max
 obtain⟨n,hn⟩:∃ n,n=d.st.length:=⟨_,rfl⟩
 rw [<-hn] at G
 have y:=zH (Dd.NS h.ok)
 have l:=zH hn
 have z:=zH h.ok.len
 clear hn
 go_in
 go_wp2
 go_loopw [3,4] (fun v i wr=>∃ k:Nat,k<=n/\i=.int .i64 k/\AS w.heap.size wr v (Dd.CR d k)/\Below w.heap.size w wr) (fun _ i _=>n - (intOf i).toNat)
 case atStart=>exact⟨0,by omega,rfl,AS.nil _ _,Below.refl _ _⟩
 case round =>
  obtain⟨k,s,rfl,m,f⟩:=hrel
  have q:=h.ext f
  have r:=Ya q
  rw [<-l.out] at r
  have p:=zH r
  clear r
  have M:=q.cells.2.1
  rw [<-l.out] at M
  by_cases C:k < n
  ·have j:k < d.ca.length:=by rw [z.out,<-l.out];exact C
   have a:=List.getElem?_eq_getElem j
   obtain⟨K,N,sv⟩:=q.cac.cell a
   obtain⟨x,t⟩:∃ x,d.ca[k]'j=x:=⟨_,rfl⟩
   rw [t] at sv a
   clear t
   have O:(0:Int)<=(k:Int):=by omega
   have P:(k:Int) < (n:Int):=by omega
   cases x with
  |none =>
    have sv:K=.slice none 0 0:=sv
    subst sv
    have o:=zH (Dd.MJ d k (by rw [a];rfl))
    clear a j
    go_wp2_with (go_at_call 76;go_must (refine p.out.mono ?_);rintro e u ⟨rfl,rfl⟩)
    exact⟨⟨k+1,by omega,by go_num,by rw [o.out];exact m,f⟩,by simp [intOf];omega⟩
  |some x =>
    obtain⟨b,c,rfl,J,I⟩:=sv
    have o:=zH (Dd.MK d k x (by rw [a];rfl))
    have H:=zH (Dd.NT d k)
    clear a j I J
    have hsz:=f.size
    go_wp2_with (first
    |(go_at_call 76;go_must (refine p.out.mono ?_);rintro e u ⟨rfl,rfl⟩)
    |(at_builtin;go_must (refine Xf rfl _ _ rfl w.heap.size _ _ rfl (m.alloc _) _ _ _ [(k:Int)] rfl (DX.one wr k _) (by have:=H.out;omega) (by simp;omega) ?_);intro v5 Q A B))
    exact⟨⟨k+1,by omega,by go_num,by rw [o.out];exact A,(f.alloc hsz _).grown B (by simp;omega) (fun k s=>(m.lt k s).1)⟩,by simp [intOf];omega⟩
  ·obtain rfl:n=k:=by omega
   go_wp2_with (go_at_call 76;go_must (refine p.out.mono ?_);rintro e u ⟨rfl,rfl⟩)
   go_ret
   exact⟨_,rfl,by rw [<-y.out,<-l.out];exact m,f⟩
theorem Er (h:RD F w g sb cb sc fa fn fc d) :
 Calls Tryz.prog 44 #[.pointer g] w fun e w'=>∃ v,e=.returned v/\AC w.heap.size w' v d.st.flatten/\Below w.heap.size w w':=by
 have G:=h.ok.max
 obtain⟨n,hn⟩:∃ n,n=d.st.length:=⟨_,rfl⟩
 rw [<-hn] at G
 have a:=zH hn
 have z:=zH h.ok.st64
 clear hn
 go_in
 go_wp2
 go_loopw [3,4] (fun v i wr=>∃ k:Nat,k<=n/\i=.int .i64 k/\AC w.heap.size wr v (d.st.take k).flatten/\Below w.heap.size w wr) (fun _ i _=>n - (intOf i).toNat)
 case atStart=>exact⟨0,by omega,rfl,AC.nil _ _,Below.refl _ _⟩
 case round =>
  obtain⟨k,u,rfl,j,f⟩:=hrel
  have q:=h.ext f
  have r:=Ya q
  rw [<-a.out] at r
  have t:=zH r
  clear r
  have K:=q.cells.1
  rw [<-a.out] at K
  by_cases C:k < n
  ·have p:k < d.st.length:=by rw [<-a.out];exact C
   have s:(d.st.map some)[k]?=some (some d.st[k]):=by simp [p]
   obtain⟨Q,M,sv⟩:=q.sto.cell s
   obtain⟨b,c,rfl,P,y⟩:=sv
   have m:(d.st.take (k+1)).flatten=(d.st.take k).flatten ++ d.st[k]:=by rw [List.take_succ_eq_append_getElem p,List.flatten_append,List.flatten_cons,List.flatten_nil,List.append_nil]
   have o:(d.st.take k).flatten.length=64 * (d.st.take k).length:=Dd.CO _ (fun x l=>z.out x (List.mem_of_mem_take l))
   rw [List.length_take] at o
   obtain⟨x,l⟩:∃ x,d.st[k]=x:=⟨_,rfl⟩
   rw [l] at y m
   have H:=zH m
   have I:=zH o
   clear s p l m o
   have N:(0:Int)<=(k:Int):=by omega
   have O:(k:Int) < (n:Int):=by omega
   have hsz:=f.size
   go_wp2_with (first
   |(go_at_call 76;go_must (refine t.out.mono ?_);rintro e J ⟨rfl,rfl⟩)
   |(at_builtin;go_must (refine Qc rfl _ _ rfl w.heap.size _ _ rfl j _ _ _ _ rfl y (by have:=I.out;omega) hsz ?_);intro v5 R A B _))
   exact⟨⟨k+1,by omega,by go_num,by rw [H.out];exact A,f.grown B hsz (fun k u=>(j.lt k u).1)⟩,by simp [intOf];omega⟩
  ·obtain rfl:n=k:=by omega
   go_wp2_with (go_at_call 76;go_must (refine t.out.mono ?_);rintro e J ⟨rfl,rfl⟩)
   go_ret
   rw [List.take_of_length_le (by rw [<-a.out];exact zN _)] at j
   exact⟨_,rfl,j,f⟩
theorem Es (a:Option Addr) (n c:Nat) (l:List (Int × Int)) (w:World) (h:CZ w a n c l) :
 Calls Tryz.prog 95 #[.slice a n c] w fun e w'=>e=.returned (.bool (Dd.CA l))/\w=w':=by
 have q:=zH h.len
 have P:=h.le
 obtain⟨r,hr⟩:∃ r,Dd.CA l=r:=⟨_,rfl⟩
 rw [hr]
 unfold Dd.CA at hr
 rw [q.out] at hr
 have y:=zH hr
 clear hr
 go_in
 go_wp2
 go_loopw [3] (fun i wr=>∃ k:Nat,k<=n/\i=.int .i64 k/\Hid ((l.take k).any Dd.badf=false)/\w=wr) (fun i _=>n - (intOf i).toNat)
 case atStart=>exact⟨0,Nat.zero_le _,rfl,zH rfl,rfl⟩
 case round =>
  obtain⟨k,R,rfl,C,rfl⟩:=hrel
  by_cases u:k < n
  ·obtain⟨b,o,rfl,Q,N,O⟩:=h.at u
   have H:=zH (Nc l k (by rw [q.out];exact u) C.out)
   have G:=zH (Ph l k (by rw [q.out];exact u))
   generalize l[k]?.getD (0,0)=K at *
   obtain⟨m,f⟩:=K
   simp only at N O
   have B:Dd.badf (m,f)=((f != 1 && f != 2) || decide (m < 0)):=rfl
   have p:=zH B
   clear B
   have T:(0:Int)<=(k:Int):=by omega
   have U:(k:Int) < (n:Int):=by omega
   by_cases I:m < 0
   ·have t0:decide (m < 0)=true:=by simpa using I
    have x:r=false:=by rw [<-y.out,G.out (by rw [p.out,t0,Bool.or_true])];simp
    subst x
    go_wp2
    go_ret
    exact⟨rfl,rfl⟩
   have t0:decide (m < 0)=false:=by simpa using I
   by_cases s:f=1
   ·subst s
    go_wp2
    exact⟨⟨k+1,by omega,by go_num,zH (H.out (by rw [p.out,t0];rfl)),trivial⟩,by simp [intOf];omega⟩
   have J:(f != 1)=true:=by simpa using s
   by_cases z:f=2
   ·subst z
    clear s
    go_wp2
    exact⟨⟨k+1,by omega,by go_num,zH (H.out (by rw [p.out,t0,J];rfl)),trivial⟩,by simp [intOf];omega⟩
   have M:(f != 2)=true:=by simpa using z
   have x:r=false:=by rw [<-y.out,G.out (by rw [p.out,t0,J,M];rfl)];simp
   subst x
   clear s z
   go_wp2
   go_ret
   exact⟨rfl,rfl⟩
  ·obtain rfl:k=n:=by omega
   have t:=C.out
   rw [List.take_of_length_le (by rw [q.out];exact zN _)] at t
   have j:=y.out
   rw [t] at j
   simp only [Bool.not_false,Bool.and_true] at j
   by_cases A:k<=64
   ·have:r=true:=by rw [<-j];simpa using A
    subst this
    clear j t
    have t0:decide ((k:Int)<=64)=true:=by simp;omega
    go_wp2
    go_ret
    exact⟨rfl,rfl⟩
   ·have:r=false:=by rw [<-j];simpa using A
    subst this
    clear j t
    have t0:decide ((k:Int)<=64)=false:=by simp;omega
    go_wp2
    go_ret
    exact⟨rfl,rfl⟩
theorem Xx {w:World} {i:Array Oper} {rest:List Oper} {o:Oper} {a:Act} {Q:Exit->Act->World->Prop} (hgd:o.guard=none) (s x:Operand)
 (ho:o.op=.call { callee:=.builtin .append,args:=#[s,x],argTypes:=#[61,61] })
 (base:Nat) (v:Value) (l:List (Int × Int)) (hs:a.eval s=v) (e:JA base w v l) (b:Option Addr) (m c:Nat) (l2:List (Int × Int)) (j:a.eval x=.slice b m c) (f:CZ w b m c l2)
 (p:l.length+m<=1000000000) (n:base<=w.heap.size)
 (h:∀ k w',JA base w' k (l ++ l2)->w.grownBy w' v.ownBlock->wpList Tryz.prog i Q rest (a.put o.dst k) w'):wpList Tryz.prog i Q (o :: rest) a w:=by
 obtain⟨t,r,u,y,z⟩:=info_parts LI
 cases b with
|none =>
  obtain⟨rfl,rfl⟩:=f.2.2.2.1 rfl
  obtain rfl:m=0:=f.1.symm
  refine wpList_append_own_none hgd s x 61 ho base 123 t 2 Tryz.underlying61 r v l.length _ hs e j ?_
  exact h v w (by simpa using e) ⟨rfl,rfl,rfl,zN _,fun _ _ _=>rfl⟩
|some q=>exact Ju hgd s x ho base v l hs e q m c l2 j f p n h
def NE (F:Nat->Prop) (w:World) (g sb cb sc:Nat) (r:Int × Dd.Dk) (e:Ending) (w':World):Prop :=
 e=.returned (r.1:Value)/\∃ a fa fn fc,RD a w' g sb cb sc fa fn fc r.2/\AD F w a w'
theorem Ml (h:RD F w g sb cb sc fa fn fc d) (a:Option Addr) (n c:Nat) (l:List (Int × Int)) (o:CZ w a n c l) :
 Calls Tryz.prog 34 #[.pointer g,.slice a n c] w (NE F w g sb cb sc (Dd.arm d l)):=by
 have j:=zH (Es a n c l w o)
 by_cases f:Dd.CA l=true
 ·have hr:Dd.arm d l=(0,{ d with fs:=l,cnt:=0 }):=by unfold Dd.arm;rw [if_pos f]
  have hn:l.length<=64:=by unfold Dd.CA at f;simp at f;exact f.1
  rw [hr]
  rw [f] at j
  have q:=o.len
  have u:=zH (And.intro hn q)
  clear hr f hn q
  go_in
  have Q:=h.cells.2.2.1
  have K:=h.free 2
  go_wp2_with (first
  |(go_at_call 95;go_must (refine j.out.mono ?_);rintro e I ⟨rfl,rfl⟩)
  |(at_builtin;go_must (refine Xx rfl _ _ rfl w.heap.size _ [] rfl (JA.empty w (zN _)) a n c l rfl (o.ext ((Below.refl _ _).alloc (zN _) _)) (by have:=u.out;simp;omega) (by simp) ?_);intro P J C A;have i:=((Below.refl _ _).alloc (zN _) (.cells #[] 123)).grown A (by simp) (fun k b=>by cases b;exact zN _);obtain⟨a2,B,rfl,r,m⟩:=C.sl;have R:=(h.ext i).cells.2.2.1;have z3:=(h.ext i).cells.2.2.2.1;have M:=(h.ext i).free 2;have N:=(h.ext i).free 3))
  go_ret
  rw [List.nil_append] at r
  have G:=(h.ext i).widen (F':=fun k=>F k\/∃ x,a2=some x/\k=x.block) (fun k b=>.inl b) (fun k b=>by
   rcases b with b|⟨x,p,rfl⟩
   ·exact Nat.lt_of_lt_of_le (h.lt k b) i.size
   ·exact (m x p).2)
  have H:AD F w (fun k=>F k\/∃ x,a2=some x/\k=x.block) J:=(AD.AL i).grow (fun k b=>by
   rcases b with b|⟨x,p,rfl⟩
   ·exact .inl b
   ·exact .inr (m x p).1)
  have z:=(G.OM a2 l.length B l r (fun y t _=>by
   have O:=(m y t).1
   exact⟨.inr ⟨y,t,rfl⟩,by have:=h.lt g h.Fg;omega,by have:=h.lt sb h.Fs;omega,by have:=h.lt cb h.Fc;omega⟩)).GO 0
  exact⟨rfl,_,_,_,_,z,(H.setCell (.inl h.Fg) _ _).setCell (.inl h.Fg) _ _⟩
 ·have hr:Dd.arm d l=(1,d):=by unfold Dd.arm;rw [if_neg f]
  have s:Dd.CA l=false:=by simpa using f
  rw [hr]
  rw [s] at j
  clear hr f s
  go_in
  go_wp2_with (go_at_call 95;go_must (refine j.out.mono ?_);rintro e I ⟨rfl,rfl⟩)
  go_ret
  exact⟨rfl,F,fa,fn,fc,h,AD.refl _ _⟩
end
end
end Go.Proofs.YtmanejniepghlaaGreatDoor
