import Derived.Test.YtmanejniepghlaaGreatDoorRun24
import Derived.Test.YtmanejniepghlaaGreatDoorRun25
import Derived.Deep.RegionLaw
import Derived.Test.YtmanejniepghlaaGreatDoorRun4
import Derived.Test.YtmanejniepghlaaGreatDoorRun1
import Derived.Deep.QuietTactic
import Derived.BigQuiet
set_option maxHeartbeats 2000000
set_option maxRecDepth 100000
namespace Go.Proofs.YtmanejniepghlaaGreatDoor
open _root_.Go.Proofs.Tryz
section
open Go.RowKit
variable {d d':Dd.Dk} {e i:Int} {F:Nat->Prop} {w:World} {fc fn g m s:Nat} {fa:Option Addr} {x:List UInt8}
def NI (F:Nat->Prop) (w:World) (g s m:Nat) (fa:Option Addr) (fn fc:Nat) (r:List UInt8 × Int × Dd.Dk) (e:Ending) (w':World):Prop :=
 ∃ v,e=.returned (.tuple #[v,r.2.1])/\AC w.heap.size w' v r.1/\PD F w' g s m fa fn fc r.2.2/\AD F w F w'
theorem We (a:Dd.begin d (Dd.fits d i)=(false,e,d')) (b:e ≠ 0):Dd.read d i=([],e,d'):=by
 unfold Dd.read;rw [a];exact if_neg b
theorem Ns (a:Dd.begin d (Dd.fits d i)=(true,e,d')):Dd.read d i=([],10,Dd.cut d'):=by
 unfold Dd.read;rw [a]
theorem Cd (a:Dd.begin d (Dd.fits d i)=(false,0,d')):Dd.read d i=(Dd.content d i.toNat,0,d'):=by
 unfold Dd.read;rw [a];exact if_pos rfl
theorem Yi (d:Dd.Dk):∃ e,e ≠ 0/\Dd.begin d false=(false,e,d):=by
 unfold Dd.begin;split
 ·exact⟨10,by decide,rfl⟩
 ·exact⟨2,by decide,by simp⟩
theorem Zh (d:Dd.Dk):(∃ e d',e ≠ 0/\Dd.begin d true=(false,e,d'))\/(∃ d',Dd.begin d true=(true,0,d')/\d'.st=d.st/\d'.ca=d.ca)\/(∃ d',Dd.begin d true=(false,0,d')/\d'.st=d.st/\d'.ca=d.ca):=by
 unfold Dd.begin;split
 ·exact .inl ⟨10,d,by decide,rfl⟩
 ·rw [if_pos rfl]
  split
  ·exact .inl ⟨9,Dd.tick d,by decide,rfl⟩
  ·split
   ·exact .inr (.inl ⟨_,rfl,rfl,rfl⟩)
   ·exact .inr (.inr ⟨_,rfl,rfl,rfl⟩)
theorem Lx (h:PD F w g s m fa fn fc d) (i:Int) :
 Calls prog 112 #[.pointer g,i] w (NI F w g s m fa fn fc (Dd.read d i)):=by
 have q:=zH (Wl h)
 have G:=zH (Yc h)
 by_cases H:0<=i/\i < (d.st.length:Int)
 ·obtain⟨h0,N⟩:=H
  have hfit:Dd.fits d i=true:=by simp [Dd.fits,h0,N]
  obtain⟨k,rfl⟩:=Int.eq_ofNat_of_zero_le h0
  have zd:k < d.st.length:=by omega
  have ze:=h.ok.max
  rcases Zh d with⟨e,d',u,j⟩|⟨d',j,C,B⟩|⟨d',j,C,B⟩
  ·have p:=zH (We (by rw [hfit];exact j) u)
   have f:=q.out true
   rw [j] at f
   have f:=zH f
   have t1:(e != 0)=true:=by simpa using u
   clear j u hfit q
   generalize Dd.read d (k:Int)=r at *
   generalize d.st.length=n at *
   go_in
   go_wp2_with (first|(go_at_call 45;refine G.out.mono ?_;rintro t l ⟨rfl,rfl⟩)|(go_at_call 111;refine f.out.mono ?_;rintro t l ⟨rfl,b,o⟩))
   go_ret2
   rw [p.out];exact⟨_,rfl,AC.nil _ _,b,o⟩
  ·have p:=zH (Ns (by rw [hfit];exact j))
   have f:=q.out true
   rw [j] at f
   have f:=zH f
   clear j hfit q C B
   generalize Dd.read d (k:Int)=r at *
   generalize d.st.length=n at *
   go_in
   go_wp2_with (first|(go_at_call 45;refine G.out.mono ?_;rintro t l ⟨rfl,rfl⟩)|(go_at_call 111;refine f.out.mono ?_;rintro t l ⟨rfl,b,o⟩;have X:=b.cells.2.2.2.2;have f4:=b.free 4;have HO:=zH (b.FG true)))
   go_ret2
   rw [p.out];exact⟨_,rfl,AC.nil _ _,HO.out,o.setCell (.inl h.Fg) _ _⟩
  ·have p:=zH (Cd (by rw [hfit];exact j))
   have f:=q.out true
   rw [j] at f
   have f:=zH f
   clear j hfit q
   have K:=zH C;have P:=zH B
   generalize Dd.read d (k:Int)=r at *
   generalize hn:d.st.length=n at *
   have za:=zH hn
   clear hn C B
   go_in
   go_wp2_with fail
   refine G.out.mono ?_;rintro t l ⟨rfl,rfl⟩
   go_wp2_with fail
   refine f.out.mono ?_;rintro t l ⟨rfl,b,o⟩
   change PD F l g s m fa fn fc d' at b
   obtain⟨W,q1,q2,q3,X⟩:=b.cells
   have HQ:=zH W
   clear W q2 q3 X
   rcases b.map.look (k:Int) with⟨k',x,a,c,hz,M,hs,hR,hx,y⟩|⟨R,y⟩
   ·have Z:=y l rfl
    clear y
    obtain rfl:k=k':=by omega
    have z:Dd.content d k=x:=by
     unfold Dd.content;rw [<-P.out,M];rfl
    have zc:=zH (b.ok.ca64 x (List.mem_of_getElem? M))
    have J:=zH z
    have I:=zH (Zb (some a) x.length c x l hs (by rw [zc.out];omega))
    clear z M hz
    generalize x.length=xl at *
    go_wp2_with (first|(go_at_call 75;refine I.out.mono ?_;rintro U Y ⟨v,rfl,O,A⟩))
    go_ret2
    rw [p.out]
    exact⟨v,rfl,by rw [show (k:Int).toNat=k from rfl,J.out];exact O.mono o.size,b.ext A,o.ext A⟩
   ·have Z:=y l rfl
    clear y
    have z:Dd.content d k=d.st[k]?.getD []:=by
     unfold Dd.content;rw [<-P.out,R k rfl];rfl
    have J:=zH z
    have Q:k < d'.st.length:=by rw [K.out,za.out];exact zd
    have T:AM l (s (64 * k)) 64 (64 * d'.st.length - 64 * k) (d.st[k]?.getD []):=by
     have:=b.row.slb (64 * k) 64 (64 * d'.st.length - 64 * k) (by rw [Dd.CO _ b.ok.st64];omega) (by omega) (by have:=b.ok.max;unfold maxLen;omega)
     rw [Dd.RF _ b.ok.st64 k Q,K.out] at this;rw [K.out];exact this
    have zb:=zH (Gq b k Q k rfl)
    have I:=zH (Zb _ _ _ _ l T (by omega))
    clear z R T
    go_wp2_with (first|(go_at_call 68;refine zb.out.mono ?_;rintro U Y ⟨rfl,rfl⟩)|(go_at_call 75;refine I.out.mono ?_;rintro U Y ⟨v,rfl,O,A⟩))
    go_ret2
    rw [p.out]
    exact⟨v,rfl,by rw [show (k:Int).toNat=k from rfl,J.out];exact O.mono o.size,b.ext A,o.ext A⟩
 ·have hfit:Dd.fits d i=false:=by simp only [Dd.fits];rw [<-Bool.decide_and];exact decide_eq_false H
  obtain⟨e,u,j⟩:=Yi d
  have p:=zH (We (by rw [hfit];exact j) u)
  have f:=q.out false
  rw [j] at f
  have f:=zH f
  have t1:(e != 0)=true:=by simpa using u
  clear j u hfit q
  have ze:=h.ok.max
  generalize Dd.read d i=r at *
  generalize d.st.length=n at *
  by_cases h0:0<=i
  ·have N:¬ i < (n:Int):=by omega
   have t2:decide (i < (n:Int))=false:=by simpa using N
   clear H
   go_in
   go_wp2_with (first|(go_at_call 45;refine G.out.mono ?_;rintro t l ⟨rfl,rfl⟩)|(go_at_call 111;refine f.out.mono ?_;rintro t l ⟨rfl,b,o⟩))
   go_ret2
   rw [p.out];exact⟨_,rfl,AC.nil _ _,b,o⟩
  ·clear H
   go_in
   go_wp2_with (first|(go_at_call 111;refine f.out.mono ?_;rintro t l ⟨rfl,b,o⟩))
   go_ret2
   rw [p.out];exact⟨_,rfl,AC.nil _ _,b,o⟩
theorem Zg (a:Dd.begin d (Dd.fits d i && decide (x.length=64))=(false,e,d')) (b:e ≠ 0):Dd.write d i x=(e,d'):=by
 unfold Dd.write;rw [a];exact if_neg b
theorem Om (a:Dd.begin d (Dd.fits d i && decide (x.length=64))=(true,e,d')):Dd.write d i x=(10,Dd.cut (Dd.put d' i.toNat x)):=by
 unfold Dd.write;rw [a]
theorem Ny (a:Dd.begin d (Dd.fits d i && decide (x.length=64))=(false,0,d')):Dd.write d i x=(0,Dd.put d' i.toNat x):=by
 unfold Dd.write;rw [a];exact if_pos rfl
def KY (F:Nat->Prop) (w:World) (g s m:Nat) (fa:Option Addr) (fn fc:Nat) (r:Int × Dd.Dk) (e:Ending) (w':World):Prop :=
 e=.returned (r.1:Value)/\∃ a,PD a w' g s m fa fn fc r.2/\AD F w a w'
theorem PD.put {j:World} (h:PD F w g s m fa fn fc d) (u:Below w.heap.size w j) (i:Nat) (K:i < d.ca.length) (x:List UInt8) (q:x.length=64) {v:Value} (I:AC w.heap.size j v x) :
 ∃ (a:Addr) (c:Nat) (o:Obj),v=.slice (some a) 64 c/\(Instr.mapUpdate 85 (.map (some m)) (i:Value) (.slice (some a) 64 c)).run prog j=.ok () (ChangeMaps.setBlock j m o) ∧
  PD (fun k=>F k\/k=a.block) (ChangeMaps.setBlock j m o) g s m fa fn fc (Dd.put d i x)/\AD F w (fun k=>F k\/k=a.block) (ChangeMaps.setBlock j m o):=by
 have b:=h.ext u
 obtain⟨G,c,rfl,hs,B⟩:=I.sl
 have n:x ≠ []:=by rintro rfl;simp at q
 cases G with
|none=>have:=(hs.2.2.2.1 rfl).1;exact absurd this n
|some a =>
  obtain⟨-,A,-⟩:=B a rfl
  have C:=hs.blt n
  have l:∀ k,F k->k < w.heap.size:=h.lt
  have z:∀ k,Rw F g s m k->Rw (fun k=>F k\/k=a.block) g s m k:=fun k f=>⟨.inl f.1,f.2⟩
  have J:Rw (fun k=>F k\/k=a.block) g s m a.block:=⟨.inr rfl,by have:=l g h.Fg;omega,by have:=l s h.Fs;omega,by have:=l m h.Fm;omega⟩
  obtain⟨o,t,H⟩:=(b.map.mono z).update i K x a c hs J n (fun e=>e.2.2.2 rfl)
  rw [q] at t ⊢
  refine⟨a,c,o,rfl,t,⟨b.ok.put i x q,(Ql _ _ b.gm).trans b.box,b.row.keep (Ql _ _ b.sm),H,b.flt.AI (fun y r p=>Ql _ _ (b.fltF y r p).2.2.2) (by rw [Qu];exact zN _),fun y r p=>z _ (b.fltF y r p),fun k f=>?_,.inl h.Fg,.inl h.Fs,.inl h.Fm⟩,?_⟩
  ·rw [Qu]
   rcases f with f|rfl
   ·exact b.lt k f
   ·exact C
  ·refine (((AD.refl F w).ext u).setBlock (.inl h.Fm) o).grow (fun k f=>?_)
   rcases f with f|rfl
   ·exact .inl f
   ·exact .inr A
theorem Fd (h:PD F w g s m fa fn fc d) (i:Int) (a:Option Addr) (n c:Nat) (x:List UInt8) (K:AM w a n c x) (hF:∀ y,a=some y->x ≠ []->¬ F y.block) :
 Calls prog 53 #[.pointer g,i,.slice a n c] w (KY F w g s m fa fn fc (Dd.write d i x)):=by
 have t:=zH (Wl h)
 have H:=zH (Yc h)
 have I:=zH K.len
 have zd:=K.le
 by_cases J:0<=i/\i < (d.st.length:Int)
 ·obtain⟨h0,R⟩:=J
  have hfit:Dd.fits d i=true:=by simp [Dd.fits,h0,R]
  obtain⟨k,rfl⟩:=Int.eq_ofNat_of_zero_le h0
  have X:k < d.st.length:=by omega
  have za:=h.ok.max
  by_cases hn:n=64
  ·subst hn
   have p:(Dd.fits d (k:Int) && decide (x.length=64))=true:=by rw [hfit,I.out];rfl
   rcases Zh d with⟨e,d',q,f⟩|⟨d',f,P,G⟩|⟨d',f,P,G⟩
   ·have u:=zH (Zg (by rw [p];exact f) q)
    have b:=t.out true
    rw [f] at b
    have b:=zH b
    have Y:(e != 0)=true:=by simpa using q
    clear f q hfit t p
    generalize Dd.write d (k:Int) x=r at *
    generalize d.st.length=A at *
    go_in
    go_wp2_with (first|(go_at_call 45;refine H.out.mono ?_;rintro z l ⟨rfl,rfl⟩)|(go_at_call 111;refine b.out.mono ?_;rintro z l ⟨rfl,j,o⟩))
    go_ret
    rw [u.out];exact⟨rfl,F,j,o⟩
   ·have u:=zH (Om (by rw [p];exact f))
    have b:=t.out true
    rw [f] at b
    have b:=zH b
    have O:k < d'.ca.length:=by rw [G,h.ok.len];exact X
    clear f hfit t p P G
    generalize Dd.write d (k:Int) x=r at *
    generalize d.st.length=A at *
    go_in
    go_wp2_with (first|(go_at_call 45;refine H.out.mono ?_;rintro z l ⟨rfl,rfl⟩)|(go_at_call 111;refine b.out.mono ?_;rintro z l ⟨rfl,j,o⟩))
    change PD F l g s m fa fn fc d' at j
    have Q:=K.upd o hF
    have U:=j.cells.2.1
    have zb:l.drew.cell? (g 1)=some (.map (some m)):=U
    have M:=zH (Zb a 64 c x l.drew Q (by omega))
    go_region_law (go_simp;go_at_call 75;refine M.out.mono ?_;rintro e2 W ⟨v,rfl,T,B⟩;obtain⟨a2,c2,o2,rfl,Z,C,N⟩:=j.drew.put B k O x I.out T;have zc:W.cell? (g 1)=some (.map (some m)):=(j.drew.ext B).cells.2.1)
    all_goals
     have q4:=C.cells.2.2.2.2
     have f4:=C.free 4
     have HO:=zH (C.FG true)
     go_wp2
     go_ret
     rw [u.out]
     exact⟨rfl,_,HO.out,(o.drew.trans N).setCell (.inl h.Fg) _ _⟩
   ·have u:=zH (Ny (by rw [p];exact f))
    have b:=t.out true
    rw [f] at b
    have b:=zH b
    have O:k < d'.ca.length:=by rw [G,h.ok.len];exact X
    clear f hfit t p P G
    generalize Dd.write d (k:Int) x=r at *
    generalize d.st.length=A at *
    go_in
    go_wp2_with (first|(go_at_call 45;refine H.out.mono ?_;rintro z l ⟨rfl,rfl⟩)|(go_at_call 111;refine b.out.mono ?_;rintro z l ⟨rfl,j,o⟩))
    change PD F l g s m fa fn fc d' at j
    have Q:=K.upd o hF
    have U:=j.cells.2.1
    have zb:l.drew.cell? (g 1)=some (.map (some m)):=U
    have M:=zH (Zb a 64 c x l.drew Q (by omega))
    go_region_law (go_simp;go_at_call 75;refine M.out.mono ?_;rintro e2 W ⟨v,rfl,T,B⟩;obtain⟨a2,c2,o2,rfl,Z,C,N⟩:=j.drew.put B k O x I.out T;have zc:W.cell? (g 1)=some (.map (some m)):=(j.drew.ext B).cells.2.1)
    all_goals
     go_wp2
     go_ret
     rw [u.out]
     exact⟨rfl,_,C,o.drew.trans N⟩
  ·have p:(Dd.fits d (k:Int) && decide (x.length=64))=false:=by rw [I.out,decide_eq_false hn,Bool.and_false]
   obtain⟨e,q,f⟩:=Yi d
   have u:=zH (Zg (by rw [p];exact f) q)
   have b:=t.out false
   rw [f] at b
   have b:=zH b
   have Y:(e != 0)=true:=by simpa using q
   have t2:((n:Int) == 64)=false:=by simp;omega
   clear f q hfit t p hn
   generalize Dd.write d (k:Int) x=r at *
   generalize d.st.length=A at *
   go_in
   go_wp2_with (first|(go_at_call 45;refine H.out.mono ?_;rintro z l ⟨rfl,rfl⟩)|(go_at_call 111;refine b.out.mono ?_;rintro z l ⟨rfl,j,o⟩))
   go_ret
   rw [u.out];exact⟨rfl,F,j,o⟩
 ·have p:(Dd.fits d i && decide (x.length=64))=false:=by
   have:Dd.fits d i=false:=by simp only [Dd.fits];rw [<-Bool.decide_and];exact decide_eq_false J
   rw [this];rfl
  obtain⟨e,q,f⟩:=Yi d
  have u:=zH (Zg (by rw [p];exact f) q)
  have b:=t.out false
  rw [f] at b
  have b:=zH b
  have Y:(e != 0)=true:=by simpa using q
  clear f q p t
  have za:=h.ok.max
  generalize Dd.write d i x=r at *
  generalize d.st.length=A at *
  by_cases h0:0<=i
  ·have R:¬ i < (A:Int):=by omega
   have t2:decide (i < (A:Int))=false:=by simpa using R
   clear J
   go_in
   go_wp2_with (first|(go_at_call 45;refine H.out.mono ?_;rintro z l ⟨rfl,rfl⟩)|(go_at_call 111;refine b.out.mono ?_;rintro z l ⟨rfl,j,o⟩))
   go_ret
   rw [u.out];exact⟨rfl,F,j,o⟩
  ·clear J
   go_in
   go_wp2_with (first|(go_at_call 111;refine b.out.mono ?_;rintro z l ⟨rfl,j,o⟩))
   go_ret
   rw [u.out];exact⟨rfl,F,j,o⟩
end
section
open Go.RowKit
variable {d d':Dd.Dk} {F:Nat->Prop} {w:World} {fc fn g m s:Nat} {fa:Option Addr} {e:Int}
namespace Dd
def DE (d:Dk) (done:Nat->Bool):List (List UInt8):=(List.range d.st.length).map fun i=>if done i then content d i else d.st[i]?.getD []
theorem IW (d:Dk) (done:Nat->Bool):(DE d done).length=d.st.length:=by simp [DE]
theorem LT (d:Dk):DE d (fun _=>false)=d.st:=by
 unfold DE
 apply List.ext_getElem
 ·simp
 ·intro i b a
  simp [a]
theorem OO (d:Dk) (done:Nat->Bool) (h:∀ (i:Nat) (x:List UInt8),d.ca[i]?=some (some x)->done i=true):DE d done=(List.range d.st.length).map (content d):=by
 unfold DE
 refine List.map_congr_left fun i _=>?_
 split
 ·rfl
 ·rename_i hd
  unfold content
  cases a:d.ca[i]? with
 |none=>rfl
 |some o =>
   cases o with
  |none=>rfl
  |some x=>exact absurd (h i x a) hd
theorem LU (d:Dk) (done:Nat->Bool) (i:Nat) (_hi:i < d.st.length) (x:List UInt8) (b:d.ca[i]?=some (some x)):DE d (fun k=>done k || k == i)=(DE d done).set i x:=by
 unfold DE
 apply List.ext_getElem
 ·simp
 ·intro k c f
  simp only [List.getElem_map,List.getElem_range,List.getElem_set]
  by_cases a:i=k
  ·subst a
   simp [content,b]
  ·have:(k == i)=false:=by simp;omega
   simp [a,this]
theorem VI {d:Dk} (h:d.Ok) (done:Nat->Bool):∀ x ∈ DE d done,x.length=64:=by
 intro x c
 obtain⟨i,b,rfl⟩:=List.mem_map.1 c
 have a:=List.mem_range.1 b
 split
 ·exact GB h i a
 ·rw [List.getElem?_eq_getElem a];exact h.st64 _ (List.getElem_mem a)
end Dd
theorem PD.ON {w':World} (h:PD F w g s m fa fn fc d) (k:BQ s w w') (c:List (List UInt8)) (a:c.length=d.st.length) (j:∀ x ∈ c,x.length=64)
 (hr:RowIs w' s 5 c.flatten):PD F w' g s m fa fn fc { d with st:=c } :=
 ⟨⟨by rw [a];exact h.ok.len,by rw [a];exact h.ok.pos,by rw [a];exact h.ok.max,j,h.ok.ca64⟩,by rw [a];exact (k.block g (h.lt g h.Fg) h.gs).trans h.box,hr,h.map.AI (fun b f l=>k.block b l f.2.2.1) (k.block m (h.lt m h.Fm) (Ne.symm h.sm)) k.size,h.flt.AI (fun x i a=>k.block _ (h.lt _ (h.fltF x i a).1) (h.fltF x i a).2.2.1) k.size,h.fltF,fun b f=>Nat.lt_of_lt_of_le (h.lt b f) k.size,h.Fg,h.Fs,h.Fm⟩
theorem PD.clear (h:PD F w g s m fa fn fc d) (o:Obj) (c:∀ a n,BU a (ChangeMaps.setBlock w m o) m (List.replicate n none)) :
 PD F (ChangeMaps.setBlock w m o) g s m fa fn fc { d with ca:=List.replicate d.ca.length none } :=
 ⟨⟨by rw [List.length_replicate];exact h.ok.len,h.ok.pos,h.ok.max,h.ok.st64,fun x j=>by simp at j⟩,(Ql _ _ h.gm).trans h.box,h.row.keep (Ql _ _ h.sm),c _ _,h.flt.AI (fun y k i=>Ql _ _ (h.fltF y k i).2.2.2) (by rw [Qu];exact zN _),h.fltF,fun b f=>by rw [Qu];exact h.lt b f,h.Fg,h.Fs,h.Fm⟩
def UL (F:Nat->Prop) (w:World) (g s m:Nat) (fa:Option Addr) (fn fc:Nat) (d:Dd.Dk) (a:Nat) (wr:World):Prop :=
 ∃ (done:Nat->Bool) (cnt:Nat),CG (Rw F g s m) wr m a d.ca done cnt/\PD F wr g s m fa fn fc { d with st:=Dd.DE d done }/\AD F w F wr
theorem Fi (a:Dd.begin d true=(false,e,d')) (b:e ≠ 0):Dd.sync d=(e,d'):=by
 unfold Dd.sync;rw [a];exact if_neg b
theorem Fj (a:Dd.begin d true=(true,e,d')):Dd.sync d=(10,Dd.cut d'):=by
 unfold Dd.sync;rw [a]
theorem Ma (a:Dd.begin d true=(false,0,d')):Dd.sync d=(0,Dd.flush d'):=by
 unfold Dd.sync;rw [a];exact if_pos rfl
theorem Ly (h:PD F w g s m fa fn fc d) :
 Calls prog 51 #[.pointer g] w fun e w'=>e=.returned (.int .i64 (Dd.sync d).1)/\PD F w' g s m fa fn fc (Dd.sync d).2/\AD F w F w':=by
 have u:=zH (Wl h)
 rcases Zh d with⟨e,d',Q,f⟩|⟨d',f,A,O⟩|⟨d',f,A,O⟩
 ·have B:=zH (Fi f Q)
  have j:=u.out true
  rw [f] at j
  have j:=zH j
  have t1:(e != 0)=true:=by simpa using Q
  clear f Q u
  generalize Dd.sync d=r at *
  go_in
  go_wp2_with (first|(go_at_call 111;refine j.out.mono ?_;rintro e1 p ⟨rfl,a,n⟩))
  go_ret
  rw [B.out];exact⟨rfl,a,n⟩
 ·have B:=zH (Fj f)
  have j:=u.out true
  rw [f] at j
  have j:=zH j
  clear f u A O
  generalize Dd.sync d=r at *
  go_in
  go_wp2_with (first|(go_at_call 111;refine j.out.mono ?_;rintro e1 p ⟨rfl,a,n⟩;have q4:=a.cells.2.2.2.2;have f4:=a.free 4;have HO:=zH (a.FG true)))
  go_ret
  rw [B.out];exact⟨rfl,HO.out,n.setCell (.inl h.Fg) _ _⟩
 ·have B:=zH (Ma f)
  have j:=u.out true
  rw [f] at j
  have j:=zH j
  clear f u A O
  generalize Dd.sync d=r at *
  go_in
  go_wp2_with fail
  refine j.out.mono ?_;rintro e1 p ⟨rfl,a,n⟩
  change PD F p g s m fa fn fc d' at a
  have q1:=a.cells.2.1
  go_wp2_with (at_range;refine Zf rfl _ rfl rfl a.map (fun b f=>a.lt b f.1) ?_;intro o cnt I)
  go_frame
  have M:¬ F p.heap.size:=fun e=>Nat.lt_irrefl _ (a.lt _ e)
  have zb:F p.heap.size\/w.heap.size<=p.heap.size:=.inr n.size
  have zj:=a.alloc o
  have zf:=a.ok
  have zm:=n.alloc o
  have zr:p.heap.size < (p.alloc o).heap.size:=by simp
  clear q1 a n
  generalize p.alloc o=w2 at *
  generalize p.heap.size=q at *
  go_loopw [5] (fun _ wr=>UL F w g s m fa fn fc d' q wr) (fun _ wr=>wr.rangeLeft m q)
  case atStart=>exact⟨_,cnt,I,by rw [Dd.LT];exact zj,zm⟩
  case round =>
   obtain⟨done,cnt,I,a,n⟩:=hrel
   have G:=a.ok
   have T:=Dd.IW d' done
   have y:=zH T
   have zg:=zH G.len
   clear T
   go_wp2_with (at_next;refine Zs rfl _ rfl rfl I (fun b f e=>M (by rw [<-e];exact f.1)) ?_ ?_)
   ·intro zd
    have q1:=a.cells.2.1
    go_wp2_with ((show wpList _ _ _ (Oper.mk none _ _ _ _ _ :: _) _ _);go_must (refine Va rfl (.tmp 37) rfl rfl a.map ?_);intro o2 zi)
    go_ret
    rw [B.out]
    refine⟨rfl,?_,n.setBlock (.inl h.Fm) _⟩
    have:=a.clear o2 zi
    rw [Dd.OO d' done zd] at this;exact this
   ·intro i x b c W o zq Z zu zt C zc zs N P zn
    have hW:∀ k,F k->(ChangeMaps.setBlock W q o).heap[k]?=wr.heap[k]?:=fun k hk=>(Ql _ _ (by intro e;subst e;exact M hk)).trans (by rcases C with rfl|rfl <;> rfl)
    have Y:(ChangeMaps.setBlock W q o).heap.size=wr.heap.size:=by rw [Qu];rcases C with rfl|rfl <;> rfl
    have z:=a.AI hW (Nat.le_of_eq Y.symm)
    have zl:AD F w F (ChangeMaps.setBlock W q o):=by
     rcases C with rfl|rfl
     ·exact n.setBlock zb o
     ·exact n.drew.setBlock zb o
    have K:=G.ca64 x (List.mem_of_getElem? Z)
    rw [K] at zc zn ⊢
    have U:=zH K
    clear C hW Y K
    generalize ChangeMaps.setBlock W q o=W2 at *
    have J:i < d'.st.length:=by rw [<-y.out];have:=zg.out;change d'.ca.length=(Dd.DE d' done).length at this;omega
    have zh:=zH (Gq z i (by rw [y.out];exact J) i rfl)
    go_wp2_with (first|(go_at_call 68;refine zh.out.mono ?_;rintro e2 R ⟨rfl,rfl⟩)|((show wpList _ _ _ (Oper.mk (some 33) _ _ _ _ _ :: _) _ _);go_must (refine Qz rfl _ _ rfl s (64 * i) 64 _ _ _ _ x rfl rfl 5 _ z.row zc (by rw [Dd.CO _ z.ok.st64];change 64 * i+min 64 64<=64 * (Dd.DE d' done).length;rw [y.out];omega) ?_);intro R H t))
    have zo:q ≠ s:=by rintro rfl;exact M h.Fs
    have X:=N.AI (fun b f P=>t.block b P f.2.2.1) (t.block m N.map.lt (Ne.symm z.sm)) (t.block q N.lt zo) t.size
    have A:Dd.DE d' (fun k=>done k || k == i)=(Dd.DE d' done).set i x:=Dd.LU d' done i J x Z
    have ze:=Dd.VI (d:={ d' with st:=d'.st }) zf (fun k=>done k || k == i)
    have zp:RowIs R s 5 (Dd.DE d' (fun k=>done k || k == i)).flatten:=by
     have h1:=Dd.NU (Dd.DE d' done) G.st64 i (by rw [y.out];exact J) x 64 U.out (zN _)
     have h2:((Dd.DE d' done)[i]?.getD []).drop 64=[]:=by
      have za:i < (Dd.DE d' done).length:=by rw [y.out];exact J
      rw [List.getElem?_eq_getElem za,Option.getD_some]
      exact List.drop_eq_nil_of_le (by have:=G.st64 _ (List.getElem_mem za);omega)
     rw [h2,List.append_nil] at h1
     rw [List.take_of_length_le (l:=x) (i:=64) (by have:=U.out;omega)] at H
     change RowIs R s 5 ((Dd.DE d' done).flatten.take (64 * i) ++ x ++ (Dd.DE d' done).flatten.drop (64 * i+64)) at H
     rw [h1,<-A] at H;exact H
    have zk:=z.ON t (Dd.DE d' (fun k=>done k || k == i)) (by simp only [Dd.IW]) ze zp
    go_roundw
    case rel=>exact⟨_,_,X,zk,zl.but (.inl h.Fs) t⟩
    case measure=>rw [X.QE,I.QE];exact P
theorem PD.OM (h:PD F w g s m fa fn fc d) (a:Option Addr) (n c:Nat) (fs:List (Int × Int)) (j:CZ w a n c fs) (hF:∀ y,a=some y->fs ≠ []->Rw F g s m y.block) :
 PD F (w.setCell (g 2) (.slice a n c)) g s m a n c { d with fs:=fs }:=by
 have k:∀ b,b ≠ g->(w.setCell (g 2) (.slice a n c)).heap[b]?=w.heap[b]?:=fun b f=>heap_setCell_other _ _ _ _ f
 have i:(w.setCell (g 2) (.slice a n c)).heap.size=w.heap.size:=by simp
 exact⟨⟨h.ok.len,h.ok.pos,h.ok.max,h.ok.st64,h.ok.ca64⟩,by rw [heap_setCell_same _ _ _ _ _ _ h.box];rfl,h.row.keep (k s (Ne.symm h.gs)),h.map.AI (fun b f _=>k b f.2.1) (k m (Ne.symm h.gm)) (Nat.le_of_eq i.symm),j.AI (fun x o l=>k _ (hF x o l).2.1) (Nat.le_of_eq i.symm),hF,fun b f=>by rw [i];exact h.lt b f,h.Fg,h.Fs,h.Fm⟩
theorem Hl (d:Dd.Dk) (a:List (Int × Int)) (k:Nat) (b:k < a.length):(a.take (k+1)).foldl Dd.tear d=Dd.tear ((a.take k).foldl Dd.tear d) (a[k]?.getD (0,0)):=by
 rw [List.take_succ_eq_append_getElem b,List.foldl_append,List.getElem?_eq_getElem b];rfl
theorem Pa (h:PD F w g s m fa fn fc d) (a:Option Addr) (n c:Nat) (r:List (Int × Int)) (H:CZ w a n c r) (hF:∀ y,a=some y->r ≠ []->¬ F y.block) :
 Calls prog 21 #[.pointer g,.slice a n c] w fun e C=>e=.returned (.tuple #[])/\PD F C g s m none 0 0 (Dd.restart d r)/\AD F w F C:=by
 have za:=zH H.len
 have zx:=H.le
 have H0:=zH h
 go_in
 go_wp2
 go_loopw [12] (fun i wr=>∃ k:Nat,k<=n/\i=.int .i64 k/\PD F wr g s m fa fn fc ((r.take k).foldl Dd.tear d)/\AD F w F wr) (fun i _=>n - (intOf i).toNat)
 case atStart=>exact⟨0,Nat.zero_le _,rfl,h,AD.refl _ _⟩
 case round =>
  obtain⟨k,zw,rfl,u,T⟩:=hrel
  by_cases zf:k < n
  ·have zo:=H.upd T hF
   obtain⟨b,o,rfl,hb,y1,y2⟩:=zo.at zf
   have HT:=zH (Hl d r k (by rw [za.out];exact zf))
   generalize List.foldl Dd.tear d (List.take k r)=p at *
   generalize zq:r[k]?.getD (0,0)=pr at *
   obtain⟨t,j⟩:=pr
   change _=some (Value.int IntKind.i64 t) at y1
   change _=some (Value.int IntKind.i64 j) at y2
   clear zq
   go_wp2_with fail
   have q:=u.alloc (.cells #[t,j] 116)
   have A:=T.alloc (.cells #[t,j] 116)
   have x0:(wr.alloc (.cells #[t,j] 116)).cell? wr.heap.size=some (t:Value):=by rw [World.cell?_alloc_at _ _ _ _ rfl];rfl
   have x1:(wr.alloc (.cells #[t,j] 116)).cell? (wr.heap.size 1)=some (j:Value):=by rw [World.cell?_alloc_at _ _ _ _ rfl];rfl
   have zu:¬ F wr.heap.size:=fun e=>Nat.lt_irrefl _ (u.lt _ e)
   generalize wr.alloc (.cells #[t,j] 116)=W at *
   generalize wr.heap.size=bx at *
   have q1:=q.cells.2.1
   clear hb y1 y2
   rcases q.map.look t with⟨i,x,ad,G,rfl,N,hs,hR,hx,z⟩|⟨zp,z⟩
   ·have O:=fun nq=>z (W.drewN nq) rfl
    have I:=q.ok.ca64 x (List.mem_of_getElem? N)
    rw [I] at O hs
    have Z:=zH I
    clear z I
    go_quiet (fail)
    go_wp2_with fail
    have K:PD F (W.drewN nq) g s m fa fn fc p:=q.AI (fun _ _=>rfl) (zN _)
    have zm:=A.drewN nq
    have yb:(W.drewN nq).cell? bx=some (i:Value):=x0
    have yc:(W.drewN nq).cell? (bx 1)=some (j:Value):=x1
    have Q:AM (W.drewN nq) (some ad) 64 G x:=hs.AI (fun _ _ _=>rfl) (zN _)
    clear q A x0 x1 hs O q1
    generalize W.drewN nq=B at *
    have hi:i < p.st.length:=by rw [<-K.ok.len];exact (List.getElem?_eq_some_iff.1 N).1
    have zj:=zH ((Gq K.drew i hi i rfl).mono (R':=fun e C=>e=.returned (.slice (s (64 * i)) 64 (64 * p.st.length - 64 * i))/\C=B.drew) (by rintro e C ⟨h1,R⟩;exact⟨h1,R.symm⟩))
    obtain⟨f,zg⟩:∃ f:Nat,(f:Int)=min (max j 0) 64:=⟨(min (max j 0) 64).toNat,by omega⟩
    have Y:f<=64:=by omega
    have ya:(if 64 < (if j < 0 then 0 else j) then 64 else if j < 0 then 0 else j)=(f:Int):=by omega
    have zi:=zH zg
    clear zg
    have zv:=Q.2.1
    obtain⟨ab,ao,zk⟩:=ad
    obtain rfl:zk=none:=(Q.2.2.2.2 _ rfl 0 (by have:=Z.out;omega)).1
    have zz:f<=G:=by omega
    have zt:(f:Int)<=(G:Int):=by omega
    have zy:(0:Int)<=(f:Int):=by omega
    refine wp_region_still_tail 10 (by kernel_rfl) (by kernel_rfl) ?_
    simp only [List.take_succ_cons,List.take_zero,List.drop_succ_cons,List.drop_zero]
    repeat still_step
    still_call zj.out
    repeat still_step
    refine wpStill_nil ?_
    change wpList _ _ _ _ _ B.drew
    have zs:AM B.drew (ab ao) f G (x.take f):=(Q.AI (w':=B.drew) (fun _ _ _=>rfl) (zN _)).take Y
    have M:=K.drew
    have zn:=zm.drew
    generalize B.drew=W4 at *
    have P:=M.ok
    go_wp2_with ((show wpList _ _ _ (Oper.mk (some 37) _ _ _ _ _ :: _) _ _);go_must (refine Qz rfl _ _ rfl s (64 * i) 64 _ _ _ _ (x.take f) rfl rfl 5 _ M.row zs (by rw [Dd.CO _ P.st64];omega) ?_);intro w3 zh zd)
    have zr:RowIs w3 s 5 (p.st.set i (x.take f ++ (p.st[i]?.getD []).drop f)).flatten:=by
     rw [<-Dd.NU p.st P.st64 i hi (x.take f) f (by rw [List.length_take];have:=Z.out;omega) Y]
     rw [List.take_of_length_le (l:=x.take f) (i:=64) (by rw [List.length_take];omega),show min f 64=f by omega] at zh
     exact zh
    have X:Dd.tear p ((i:Int),j)={ p with st:=p.st.set i (x.take f ++ (p.st[i]?.getD []).drop f) }:=by
     unfold Dd.tear
     rw [if_pos (show (0:Int)<=((i:Int),j).1 from Int.natCast_nonneg _)]
     have e1:((i:Int),j).1.toNat=i:=rfl
     have e2:(min (max ((i:Int),j).2 0) 64).toNat=f:=by show (min (max j 0) 64).toNat=f;have:=zi.out;omega
     rw [e1,e2,N]
    have zb:=P.tear ((i:Int),j)
    rw [X] at zb
    have zc:=M.ON zd (p.st.set i (x.take f ++ (p.st[i]?.getD []).drop f)) (by simp) zb.st64 zr
    rw [<-X,<-HT.out] at zc
    go_roundw
    case rel=>exact⟨k+1,by omega,by go_num,zc,zn.but (.inl h.Fs) zd⟩
    case measure=>simp [intOf];omega
   ·have O:=fun nq=>z (W.drewN nq) rfl
    clear z
    have J:Dd.tear p (t,j)=p:=by
     unfold Dd.tear
     split
     ·rename_i h0
      obtain⟨i,rfl⟩:=Int.eq_ofNat_of_zero_le h0
      have:=zp i rfl
      have e:((i:Int),j).1.toNat=i:=rfl
      rw [e]
      cases hc:p.ca[i]? with
     |none=>rfl
     |some oo =>
       rw [hc] at this
       simp only [Option.getD_some] at this
       subst this;rfl
     ·rfl
    have J:=zH J
    go_quiet (fail)
    go_wp2_with fail
    go_roundw
    case rel=>exact⟨k+1,by omega,by go_num,by rw [HT.out,J.out];exact q.AI (fun _ _=>rfl) (zN _),A.drewN _⟩
    case measure=>simp [intOf];omega
  ·obtain rfl:k=n:=by omega
   have ze:r.take k=r:=List.take_of_length_le (by rw [za.out];exact zN _)
   rw [ze] at u
   have HR:Dd.restart d r={ r.foldl Dd.tear d with ca:=List.replicate (r.foldl Dd.tear d).ca.length none,fs:=[],cnt:=0,off:=false }:=by
    have R:=(h.ok.tears r).2.1
    unfold Dd.restart;rw [R]
   have HR:=zH HR
   clear ze H
   generalize r.foldl Dd.tear d=p at *
   have q1:=u.cells.2.1
   go_wp2_with ((show wpList _ _ _ (Oper.mk none (Op.call _) _ _ _ _ :: _) _ _);go_must (refine Va rfl (.tmp 42) rfl rfl u.map ?_);intro U zl;have q:=u.clear U zl;have A:=T.setBlock (.inl h.Fm) U;have p2:=q.cells.2.2.1;have p3:=q.cells.2.2.2.1;have p4:=q.cells.2.2.2.2;have f2:=q.free 2;have f3:=q.free 3;have f4:=q.free 4;generalize ChangeMaps.setBlock wr m U=w2 at *)
   go_end0
   refine⟨rfl,?_,((A.setCell (.inl h.Fg) _ _).setCell (.inl h.Fg) _ _).setCell (.inl h.Fg) _ _⟩
   exact ((q.OM none 0 0 [] (CZ.nil _) (fun y hy=>by cases hy)).GO 0).FG false
end
section
open Go.RowKit
variable {w:World} {F:Nat->Prop} {fc fn g m s:Nat} {fa:Option Addr} {d:Dd.Dk}
theorem Fa (h:PD F w g s m fa fn fc d) :
 Calls prog 28 #[.pointer g] w fun e a=>∃ v,e=.returned v/\AC w.heap.size a v d.st.flatten/\Below w.heap.size w a:=by
 have k:=h.cells.1
 have b:=Dd.CO _ h.ok.st64
 have j:=h.ok.max
 have hs:AM w s (64 * d.st.length) (64 * d.st.length) d.st.flatten:=by
  have:=h.row.slb 0 (64 * d.st.length) (64 * d.st.length) (by omega) (zN _) (by unfold maxLen;omega)
  rwa [List.drop_zero,List.take_of_length_le (by omega)] at this
 have c:=zH (Zb _ _ _ _ w hs (by omega))
 clear b hs
 generalize d.st.length=n at *
 go_in
 go_wp2_with (go_at_call 75;refine c.out.mono ?_;rintro e l ⟨v,rfl,i,f⟩)
 go_ret
 exact⟨v,rfl,i,f⟩
theorem Mv (p:Int × Int) (w:World):Calls prog 72 #[.agg #[p.1,p.2]] w fun e n=>e=.returned (.bool (Dd.badf p))/\Below w.heap.size w n:=by
 obtain⟨a,k⟩:=p
 obtain⟨r,hr⟩:∃ r,r=Dd.badf (a,k):=⟨_,rfl⟩
 rw [<-hr]
 unfold Dd.badf at hr
 simp only at hr ⊢
 by_cases f:k=1
 ·subst f
  by_cases i:a < 0
  all_goals
   have b:r=decide (a < 0):=by rw [hr];simp
   have c:=zH b
   clear hr b
   go_in
   go_wp2
   go_ret
   exact⟨by rw [c.out];simp [i],(Below.refl _ _).alloc (zN _) _⟩
 by_cases h:k=2
 ·subst h
  by_cases i:a < 0
  all_goals
   have b:r=decide (a < 0):=by rw [hr];simp
   have c:=zH b
   clear hr b
   go_in
   go_wp2
   go_ret
   exact⟨by rw [c.out];simp [i],(Below.refl _ _).alloc (zN _) _⟩
 ·have j:(k != 1)=true:=by simpa using f
  have l:(k != 2)=true:=by simpa using h
  have b:r=true:=by rw [hr,j,l];rfl
  subst b
  clear hr f h
  go_in
  go_wp2
  go_ret
  exact⟨rfl,(Below.refl _ _).alloc (zN _) _⟩
theorem Nc (l:List (Int × Int)) (k:Nat) (b:k < l.length) (h:(l.take k).any Dd.badf=false) (a:Dd.badf (l[k]?.getD (0,0))=false):(l.take (k+1)).any Dd.badf=false:=by
 rw [List.take_succ_eq_append_getElem b,List.any_append,h]
 rw [List.getElem?_eq_getElem b] at a
 simpa using a
theorem Ph (l:List (Int × Int)) (k:Nat) (b:k < l.length) (a:Dd.badf (l[k]?.getD (0,0))=true):l.any Dd.badf=true:=by
 rw [List.getElem?_eq_getElem b] at a
 exact List.any_eq_true.2 ⟨_,List.getElem_mem b,a⟩
def UH (l:List (Int × Int)) (w:World) (e:Ending) (w':World):Prop:=∃ z:Int,e=.returned (z:Value)/\decide (0<=z)=l.any Dd.badf/\Below w.heap.size w w'
theorem Fb (a:Option Addr) (n c:Nat) (l:List (Int × Int)) (w:World) (h:CZ w a n c l) :
 Calls prog 130 #[.slice a n c,.func (.func 72) #[] #[]] w (UH l w):=by
 have j:=zH h.len
 have I:=h.le
 go_in
 go_wp2
 go_loopw [8] (fun i wr=>∃ k:Nat,k<=n/\i=.int .i64 k/\Hid ((l.take k).any Dd.badf=false)/\Below w.heap.size w wr) (fun i _=>n - (intOf i).toNat)
 case atStart=>exact⟨0,Nat.zero_le _,rfl,zH rfl,Below.refl _ _⟩
 case round =>
  obtain⟨k,M,rfl,r,f⟩:=hrel
  by_cases q:k < n
  ·obtain⟨b,o,rfl,K,G,H⟩:=(h.ext f).at q
   have z:=zH (Nc l k (by rw [j.out];exact q) r.out)
   have y:=zH (Ph l k (by rw [j.out];exact q))
   generalize l[k]?.getD (0,0)=B at *
   obtain⟨u,x⟩:=B
   simp only at G H
   have t:=zH (fun W=>Mv (u,x) W)
   generalize Dd.badf (u,x)=A at *
   have hsz:=f.size
   have J:(0:Int)<=(k:Int):=by omega
   cases A with
  |true =>
    go_wp2_with (go_at_call 72;refine (t.out _).mono ?_;rintro e C ⟨rfl,p⟩)
    go_ret
    exact⟨k,rfl,by rw [y.out trivial];simp,f.trans (Below.mono p hsz)⟩
  |false =>
    go_wp2_with (go_at_call 72;refine (t.out _).mono ?_;rintro e C ⟨rfl,p⟩)
    go_roundw
    case rel=>exact⟨k+1,by omega,by go_num,zH (z.out trivial),f.trans (Below.mono p hsz)⟩
    case measure=>simp [intOf];omega
  ·obtain rfl:k=n:=by omega
   go_wp2
   go_ret
   refine⟨-1,rfl,?_,f⟩
   have:=r.out
   rw [List.take_of_length_le (by rw [j.out];exact zN _)] at this
   rw [this];rfl
theorem Gp (a:Option Addr) (n c:Nat) (l:List (Int × Int)) (w:World) (h:CZ w a n c l) :
 Calls prog 73 #[.slice a n c,.func (.func 72) #[] #[]] w fun e k=>e=.returned (.bool (l.any Dd.badf))/\Below w.heap.size w k:=by
 have f:=zH (Fb a n c l w h)
 go_in
 go_wp2_with (go_at_call 130;refine f.out.mono ?_;rintro e o ⟨z,rfl,b,j⟩;have i:=zH b;clear b)
 go_ret
 exact⟨by rw [<-i.out];rfl,j⟩
theorem PD.grow {F':Nat->Prop} (h:PD F w g s m fa fn fc d) (a:∀ k,F k->F' k) (f:∀ k,F' k->k < w.heap.size):PD F' w g s m fa fn fc d :=
 ⟨h.ok,h.box,h.row,h.map.mono (fun _ b=>⟨a _ b.1,b.2⟩),h.flt,fun x e c=>⟨a _ (h.fltF x e c).1,(h.fltF x e c).2⟩,f,a _ h.Fg,a _ h.Fs,a _ h.Fm⟩
def PP (F:Nat->Prop) (w:World) (g s m:Nat) (r:Int × Dd.Dk) (e:Ending) (w':World):Prop :=
 e=.returned (r.1:Value)/\∃ a fa fn fc,PD a w' g s m fa fn fc r.2/\AD F w a w'
theorem Mu (h:PD F w g s m fa fn fc d) (a:Option Addr) (n c:Nat) (l:List (Int × Int)) (t:CZ w a n c l) :
 Calls prog 26 #[.pointer g,.slice a n c] w (PP F w g s m (Dd.arm d l)):=by
 have O:=t.le
 have C:=zH t.len
 obtain⟨r,hr⟩:∃ r,r=Dd.arm d l:=⟨_,rfl⟩
 rw [<-hr]
 unfold Dd.arm Dd.CA at hr
 rw [C.out] at hr
 by_cases hn:n<=64
 ·rw [decide_eq_true hn,Bool.true_and] at hr
  have q:=zH (Gp a n c l w t)
  cases p:l.any Dd.badf with
 |true =>
   rw [p] at hr q
   rw [if_neg (by decide)] at hr
   have j:=zH hr
   clear hr p
   go_in
   go_wp2_with (go_at_call 73;refine q.out.mono ?_;rintro e B ⟨rfl,f⟩)
   go_ret
   rw [j.out];exact⟨rfl,F,fa,fn,fc,h.ext f,AD.AL f⟩
 |false =>
   rw [p] at hr q
   rw [if_pos (by decide)] at hr
   have j:=zH hr
   clear hr p
   go_in
   go_wp2_with fail
   refine q.out.mono ?_;rintro e B ⟨rfl,i⟩
   go_wp2_with fail
   refine (Vw a n c l B (t.ext i) (by omega)).mono ?_;rintro e N ⟨v,rfl,K,H⟩
   have f:=i.trans (Below.mono H i.size)
   obtain⟨a2,J,rfl,I,u⟩:=K.sl
   have o:=(h.ext f).grow (F':=fun k=>F k\/∃ x,a2=some x/\k=x.block) (fun k b=>.inl b) (fun k b=>by
    rcases b with b|⟨x,z,rfl⟩
    ·exact Nat.lt_of_lt_of_le (h.lt k b) f.size
    ·exact (u x z).2)
   have M:AD F w (fun k=>F k\/∃ x,a2=some x/\k=x.block) N:=(AD.AL f).grow (fun k b=>by
    rcases b with b|⟨x,z,rfl⟩
    ·exact .inl b
    ·exact .inr (Nat.le_trans i.size (u x z).1))
   have G:=(o.OM a2 l.length J l I (fun y A _=>by
    have T:=(u y A).1
    have U:=i.size
    exact⟨.inr ⟨y,A,rfl⟩,by have:=h.lt g h.Fg;omega,by have:=h.lt s h.Fs;omega,by have:=h.lt m h.Fm;omega⟩)).GO 0
   have W:=o.cells.2.2.1
   have X:=o.cells.2.2.2.1
   have Q:=o.free 2
   have R:=o.free 3
   go_wp2_with fail
   go_ret
   rw [j.out];exact⟨rfl,_,_,_,_,G,(M.setCell (.inl h.Fg) _ _).setCell (.inl h.Fg) _ _⟩
 ·rw [decide_eq_false hn,Bool.false_and,if_neg (by decide)] at hr
  have j:=zH hr
  have P:64 < n:=by omega
  clear hr hn
  go_in
  go_wp2_with fail
  go_ret
  rw [j.out];exact⟨rfl,F,fa,fn,fc,h,AD.refl _ _⟩
def VU (a b c:Nat) (k:Nat):Prop:=k=a\/k=b\/k=c
theorem PD.made (n:Nat) (f:1<=n) (h:n<=4096) {a:World} (i:AC w.heap.size a (.slice w.heap.size (64 * n) (64 * n)) (List.replicate (64 * n) 0)) :
 PD (VU (a.heap.size+1) w.heap.size a.heap.size) ((a.alloc (.map #[] 0)).alloc (.cells #[.slice w.heap.size (64 * n) (64 * n),.map (some a.heap.size),.slice none 0 0,.int .i64 0,.bool false] 87 (0,0)))
  (a.heap.size+1) w.heap.size a.heap.size none 0 0 (Dd.new n):=by
 obtain⟨_,c⟩:=i.TC
 have e:=Qa c
 refine⟨Dd.WR n f h,?_,?_,?_,CZ.nil _,(fun x o=>by cases o),fun k l=>?_,.inl rfl,.inr (.inl rfl),.inr (.inr rfl)⟩
 ·rw [Qb _ _ _ (by simp)];simp [Dd.new]
 ·unfold RowIs
  rw [Qd _ _ _ (by simp;omega),Qd _ _ _ e,Dd.TK];exact c
 ·have:=BU.made (Rw (VU (a.heap.size+1) w.heap.size a.heap.size) (a.heap.size+1) w.heap.size a.heap.size) a n
  refine this.AI (fun b _ j=>Qd _ _ _ j) (Qd _ _ _ (by simp)) (by simp)
 ·rcases l with rfl|rfl|rfl <;> simp <;> omega
theorem TB:(prog.info? 5).map (fun i=>(i.zero,i.size,i.bytes))=some (some (.int .u8 0),1,1):=by kernel_rfl
theorem QH (n:Nat):(madeCells (Value.int .u8 0).cells (n * 1)).toList=(List.replicate n (0:UInt8)).map bv:=by
 rw [Nat.mul_one,show madeCells (Value.int .u8 0).cells n=madeCells #[.int .u8 0] n from rfl,toList_madeCells_one];simp [bv]
def PR (w:World) (d:Dd.Dk) (e:Ending) (w':World):Prop :=
 ∃ F g s m fa fn fc,e=.returned (.tuple #[.pointer (g:Nat),.int .i64 0])/\PD F w' g s m fa fn fc d/\(∀ k,F k->w.heap.size<=k)/\Below w.heap.size w w'
theorem Ie (n:Nat) (t:1<=n) (u:n<=4096) (w:World) (z:Int) (x:z=(n:Int)):Calls prog 11 #[z] w (PR w (Dd.new n)):=by
 subst x
 obtain⟨y,l,h,b,i⟩:=info_parts TB
 have a:=zH (And.intro l (And.intro h (And.intro b i)))
 have q:=zH (QH (64 * n))
 have B:=@run_makeMap prog
 clear l h b i
 go_in
 go_wp2_with (refine wpList_make_full _ rfl _ _ 70 rfl w.heap.size 5 y (.int .u8 0) 1 underlying70 a.out.1 a.out.2.1 a.out.2.2.1 .i64 .i64 _ _ (64 * n) rfl rfl (by omega) (by omega) (by rw [a.out.2.2.2];omega) (by unfold maxLen;omega) (zN _) ?_;intro o e p;rw [q.out] at e;have j:AC w.heap.size o (.slice w.heap.size (64 * n) (64 * n)) (List.replicate (64 * n) 0):=(by unfold AC;rw [List.length_replicate];exact e);have f:=(Below.refl w.heap.size w).grown p (zN _) (fun k c=>by cases c);have r:=zH (PD.made n t u j))
 go_ret2
 have b:=f.size
 have A:w.heap.size < o.heap.size:=Qa j.TC.2
 exact⟨_,_,_,_,_,_,_,rfl,r.out,(fun k c=>by rcases c with rfl|rfl|rfl <;> omega),(f.alloc (by omega) _).alloc (by simp;omega) _⟩
theorem Lw (a:Option Addr) (k c:Nat) (l:List UInt8) (w:World) (A:1<=k) (B:k<=4096) (n:Nat) (hn:n=64 * k) (h:AM w a n c l):Calls prog 31 #[.slice a n c] w (PR w (Dd.load k l)):=by
 subst hn
 have f:=zH h.len
 have z:=zH (Ie k A B w k rfl)
 go_in
 go_wp2_with fail
 refine z.out.mono ?_;rintro e H ⟨F,g,s,m,fa,fn,fc,rfl,b,hF,o⟩
 have C:=b.cells.1
 have t:=h.ext o
 have j:(Dd.new k).st.length=k:=by simp [Dd.new]
 rw [j] at C
 have x:=b.ok
 have i:=Dd.CO _ x.st64
 rw [j] at i
 have p:=zH i
 clear j i
 go_wp2_with ((show wpList _ _ _ (Oper.mk (some 25) _ _ _ _ _ :: _) _ _);go_must (refine Qz rfl _ _ rfl s 0 (64 * k) _ a (64 * k) c l rfl rfl 5 _ b.row t (by rw [p.out];omega) ?_);intro G r q)
 go_ret2
 have y:RowIs G s 5 (Dd.BB k l).flatten:=by
  rw [Dd.NM k l f.out]
  rw [List.take_zero,List.nil_append,List.take_of_length_le (by rw [f.out];exact zN _),List.drop_of_length_le (by rw [p.out];omega),List.append_nil] at r
  exact r
 have u:=b.ON q (Dd.BB k l) (by rw [Dd.EJ];simp [Dd.new]) (Dd.JS k l f.out) y
 exact⟨F,g,s,m,fa,fn,fc,rfl,u,hF,BQ.below o q (hF s b.Fs) o.size⟩
end
section
open Go.RowKit
variable {z:Int} {a:Option Addr} {c n:Nat}
section
variable {F:Nat->Prop} {w:World} {g s m:Nat} {fa:Option Addr} {fn fc:Nat} {d d':Dd.Dk}
theorem Xn (h:PD F w g s m fa fn fc d) (i:Int) {x:List UInt8} (j:AM w a n c x) (hF:∀ y,a=some y->x ≠ []->¬ F y.block) (hr:Dd.write d i x=(z,d')) :
 Calls prog 53 #[.pointer g,i,.slice a n c] w fun e f=>e=.returned (z:Value)/\∃ b,PD b f g s m fa fn fc d'/\AD F w b f:=by
 have:=Fd h i a n c x j hF
 unfold KY at this;rw [hr] at this;exact this
theorem Zp (h:PD F w g s m fa fn fc d) (i:Int) {b:List UInt8} (hr:Dd.read d i=(b,z,d')) :
 Calls prog 112 #[.pointer g,i] w fun e f=>∃ v,e=.returned (.tuple #[v,z])/\AC w.heap.size f v b/\PD F f g s m fa fn fc d'/\AD F w F f:=by
 have:=Lx h i
 unfold NI at this;rw [hr] at this;exact this
theorem Zq (h:PD F w g s m fa fn fc d) (hr:Dd.sync d=(z,d')) :
 Calls prog 51 #[.pointer g] w fun e b=>e=.returned (z:Value)/\PD F b g s m fa fn fc d'/\AD F w F b:=by
 have:=Ly h
 rw [hr] at this;exact this
theorem Ct (h:PD F w g s m fa fn fc d) {l:List (Int × Int)} (i:CZ w a n c l) (hr:Dd.arm d l=(z,d')) :
 Calls prog 26 #[.pointer g,.slice a n c] w fun e f=>e=.returned (z:Value)/\∃ b fa fn fc,PD b f g s m fa fn fc d'/\AD F w b f:=by
 have:=Mu h a n c l i
 unfold PP at this;rw [hr] at this;exact this
theorem Wm (h:PD F w g s m fa fn fc d) {b:List (Int × Int)} (i:CZ w a n c b) (hF:∀ y,a=some y->b ≠ []->¬ F y.block) (hr:Dd.restart d b=d') :
 Calls prog 21 #[.pointer g,.slice a n c] w fun e f=>e=.returned (.tuple #[])/\PD F f g s m none 0 0 d'/\AD F w F f:=by
 have:=Pa h a n c b i hF
 rw [hr] at this;exact this
end
end
section
open Go.RowKit
variable {R R':Nat->Prop} {w w':World} {b i:Nat} {ls:List (Option (List UInt8))} {x:Option (List UInt8)} {v:Value}
def WC (R:Nat->Prop) (w:World) (v:Value) (x:Option (List UInt8)):Prop :=
 match x with
|none=>v=.slice none 0 0
|some l=>∃ b c,v=.slice (b:Nat) 64 c/\R b/\AM w b 64 c l
theorem WC.AI (h:WC R w v x) (f:∀ k,R k->w'.heap[k]?=w.heap[k]?) (m:w.heap.size<=w'.heap.size) (a:∀ k,R k->R' k):WC R' w' v x:=by
 cases x with
|none=>exact h
|some l =>
  obtain⟨b,c,e,hr,hs⟩:=h
  exact⟨b,c,e,a b hr,hs.AI (fun y j _=>by cases j;exact f b hr) m⟩
def RowS (R:Nat->Prop) (w:World) (b:Nat) (ls:List (Option (List UInt8))):Prop :=
 ∃ a:Array Value,w.heap[b]?=some (.cells a 70 (0,0))/\ls.length<=a.size/\∀ (i:Nat) (x:Option (List UInt8)),ls[i]?=some x->∃ v,a[i]?=some v/\WC R w v x
theorem RowS.lt (h:RowS R w b ls):b < w.heap.size:=by
 obtain⟨c,a,-⟩:=h;exact Qa a
theorem RowS.cell (h:RowS R w b ls) (j:ls[i]?=some x):∃ v,w.cell? (b i)=some v/\WC R w v x:=by
 obtain⟨k,a,-,c⟩:=h
 obtain⟨v,e,f⟩:=c i x j
 exact⟨v,by rw [cell_of_row _ _ _ _ _ _ a];exact e,f⟩
theorem RowS.free (h:RowS R w b ls) (k:Nat):w.frozen? (b k)=false:=by
 obtain⟨c,a,-⟩:=h;exact frozen_of_row _ _ _ _ _ a
theorem RowS.AI (h:RowS R w b ls) (o:w'.heap[b]?=w.heap[b]?) (n:∀ k,R k->w'.heap[k]?=w.heap[k]?) (q:w.heap.size<=w'.heap.size) (a:∀ k,R k->R' k):RowS R' w' b ls:=by
 obtain⟨c,e,f,j⟩:=h
 refine⟨c,o.trans e,f,fun i x p=>?_⟩
 obtain⟨v,l,m⟩:=j i x p
 exact⟨v,l,m.AI n q a⟩
theorem RowS.set (h:RowS R w b ls) (q:¬ R b) (r:i < ls.length) (t:WC R w v x):RowS R (w.setCell (b i) v) b (ls.set i x):=by
 obtain⟨f,l,m,n⟩:=h
 have hs:∀ k,R k->(w.setCell (b i) v).heap[k]?=w.heap[k]?:=fun k s=>heap_setCell_other _ _ _ _ (by rintro rfl;exact q s)
 refine⟨f.setIfInBounds i v,by rw [heap_setCell_same _ _ _ _ _ _ l],by simpa using m,fun j y a=>?_⟩
 by_cases e:j=i
 ·subst e
  rw [List.getElem?_set_self r] at a
  cases a
  exact⟨v,by rw [Array.getElem?_setIfInBounds_self_of_lt (by omega)],t.AI hs (by simp) (fun _ h=>h)⟩
 ·rw [List.getElem?_set_ne (fun c=>e c.symm)] at a
  obtain⟨u,o,p⟩:=n j y a
  exact⟨u,by rw [Array.getElem?_setIfInBounds_ne (fun c=>e c.symm)];exact o,p.AI hs (by simp) (fun _ h=>h)⟩
structure RD (F:Nat->Prop) (w:World) (g sb cb sc:Nat) (fa:Option Addr) (fn fc:Nat) (d:Dd.Dk):Prop where
 ok:d.Ok
 box:w.heap[g]?=some (.cells #[.slice sb d.st.length sc,.slice cb d.st.length d.st.length,.slice fa fn fc,d.cnt,.bool d.off] 128 (0,0))
 sto:RowS (Rw F g sb cb) w sb (d.st.map some)
 cac:RowS (Rw F g sb cb) w cb d.ca
 flt:CZ w fa fn fc d.fs
 fltF:∀ x,fa=some x->d.fs ≠ []->Rw F g sb cb x.block
 lt:∀ k,F k->k < w.heap.size
 Fg:F g
 Fs:F sb
 Fc:F cb
 gs:g ≠ sb
 gc:g ≠ cb
 sc':sb ≠ cb
 cap:d.st.length<=sc
section
variable {F:Nat->Prop} {w w':World} {g sb cb sc:Nat} {fa:Option Addr} {fn fc:Nat} {d:Dd.Dk}
theorem RD.cells (h:RD F w g sb cb sc fa fn fc d):w.cell? g=some (.slice sb d.st.length sc)/\w.cell? (g 1)=some (.slice cb d.st.length d.st.length)/\w.cell? (g 2)=some (.slice fa fn fc)/\w.cell? (g 3)=some (d.cnt:Value)/\w.cell? (g 4)=some (.bool d.off):=by
 refine⟨?_,?_,?_,?_,?_⟩ <;> rw [cell_of_row _ _ _ _ _ _ h.box] <;> rfl
theorem RD.free (h:RD F w g sb cb sc fa fn fc d) (k:Nat):w.frozen? (g k)=false:=frozen_of_row _ _ _ _ _ h.box
theorem RD.AI (h:RD F w g sb cb sc fa fn fc d) (k:∀ b,F b->w'.heap[b]?=w.heap[b]?) (c:w.heap.size<=w'.heap.size):RD F w' g sb cb sc fa fn fc d :=
 ⟨h.ok,(k g h.Fg).trans h.box,h.sto.AI (k sb h.Fs) (fun b a=>k b a.1) c (fun _ e=>e),h.cac.AI (k cb h.Fc) (fun b a=>k b a.1) c (fun _ e=>e),h.flt.AI (fun x j f=>k _ (h.fltF x j f).1) c,h.fltF,fun b a=>Nat.lt_of_lt_of_le (h.lt b a) c,h.Fg,h.Fs,h.Fc,h.gs,h.gc,h.sc',h.cap⟩
theorem RD.ext (h:RD F w g sb cb sc fa fn fc d) (e:Below w.heap.size w w'):RD F w' g sb cb sc fa fn fc d:=h.AI (fun b a=>e.block b (h.lt b a)) e.size
theorem RD.drewN (h:RD F w g sb cb sc fa fn fc d) (n:Nat):RD F (w.drewN n) g sb cb sc fa fn fc d:=h.AI (fun _ _=>rfl) (zN _)
theorem RD.rebox (h:RD F w g sb cb sc fa fn fc d) (k:∀ b,b ≠ g->w'.heap[b]?=w.heap[b]?) (f:w'.heap.size=w.heap.size) (c:Dd.Dk) (m:c.st=d.st) (j:c.ca=d.ca) (l:c.fs=d.fs)
 (a:w'.heap[g]?=some (.cells #[.slice sb d.st.length sc,.slice cb d.st.length d.st.length,.slice fa fn fc,c.cnt,.bool c.off] 128 (0,0))):RD F w' g sb cb sc fa fn fc c:=by
 obtain⟨z,u,y,cnt,off⟩:=d
 obtain⟨t,r,s,p,q⟩:=c
 simp only at m j l a
 subst m;subst j;subst l
 exact⟨⟨h.ok.len,h.ok.pos,h.ok.max,h.ok.st64,h.ok.ca64⟩,a,h.sto.AI (k sb (Ne.symm h.gs)) (fun b a=>k b a.2.1) (Nat.le_of_eq f.symm) (fun _ e=>e),h.cac.AI (k cb (Ne.symm h.gc)) (fun b a=>k b a.2.1) (Nat.le_of_eq f.symm) (fun _ e=>e),h.flt.AI (fun x o n=>k _ (h.fltF x o n).2.1) (Nat.le_of_eq f.symm),h.fltF,fun b a=>by rw [f];exact h.lt b a,h.Fg,h.Fs,h.Fc,h.gs,h.gc,h.sc',h.cap⟩
theorem RD.GO (h:RD F w g sb cb sc fa fn fc d) (z:Int):RD F (w.setCell (g 3) (z:Value)) g sb cb sc fa fn fc { d with cnt:=z } :=
 h.rebox (fun b a=>heap_setCell_other _ _ _ _ a) (by simp) _ rfl rfl rfl (by rw [heap_setCell_same _ _ _ _ _ _ h.box];rfl)
theorem RD.FG (h:RD F w g sb cb sc fa fn fc d) (z:Bool):RD F (w.setCell (g 4) (.bool z)) g sb cb sc fa fn fc { d with off:=z } :=
 h.rebox (fun b a=>heap_setCell_other _ _ _ _ a) (by simp) _ rfl rfl rfl (by rw [heap_setCell_same _ _ _ _ _ _ h.box];rfl)
theorem Ya (h:RD F w g sb cb sc fa fn fc d):Calls prog 76 #[.pointer g] w fun e w'=>e=.returned (.int .i64 (d.st.length:Nat))/\w=w':=by
 have h0:=h.cells.1
 go_in
 go_wp2
 go_ret
 exact⟨rfl,rfl⟩
theorem Mm (h:RD F w g sb cb sc fa fn fc d):Calls prog 39 #[.pointer g] w fun e w'=>e=.returned (.bool d.off)/\w=w':=by
 have h0:=h.cells.2.2.2.2
 go_in
 go_wp2
 go_ret
 exact⟨rfl,rfl⟩
theorem Dv {l:List (Int × Int)} {c:Int} {k:Nat} (e:k < l.length) {p:Int × Int} (a:l[k]?.getD (0,0)=p):ffrom (l.drop k) c=if p.1 == c then p.2 else ffrom (l.drop (k+1)) c:=by
 cases h:(p.1 == c)
 ·rw [Kw l c k e (by rw [a];exact h)];simp
 ·rw [Uf l c k e (by rw [a];exact h),a];simp
theorem Wb (h:RD F w g sb cb sc fa fn fc d):Calls prog 131 #[.pointer g] w fun e w'=>e=.returned (.int .i64 (Dd.fault d))/\RD F w' g sb cb sc fa fn fc (Dd.tick d)/\AD F w F w':=by
 obtain⟨-,-,t,u,-⟩:=h.cells
 have K:=h.flt.le
 have s:=zH h.flt.len
 have h0:ffrom (d.fs.drop 0) d.cnt=Dd.fault d:=rfl
 have C:=zH h0
 generalize Dd.fault d=R at *
 clear h0
 go_in
 go_wp2
 clear t u
 go_loopw [3,4] (fun I i wr=>∃ k:Nat,k<=fn/\i=.int .i64 ((k:Int) - 1)/\I=.int .i64 (ffrom (d.fs.drop k) d.cnt)/\RD F wr g sb cb sc fa fn fc d/\AD F w F wr) (fun _ i _=>(intOf i+1).toNat)
 case atStart=>exact⟨fn,zN _,by go_num,by rw [List.drop_of_length_le (by rw [s.out];exact zN _)];rfl,h,AD.refl _ _⟩
 case round =>
  obtain⟨k,Q,rfl,rfl,a,A⟩:=hrel
  obtain⟨-,-,t,u,-⟩:=a.cells
  have J:=a.free 3
  by_cases M:0 < k
  ·obtain⟨j,rfl⟩:∃ j,k=j+1:=⟨k - 1,by omega⟩
   have z:((j+1:Nat):Int) - 1=(j:Int):=by omega
   rw [z]
   obtain⟨b,o,rfl,P,n,q⟩:=a.flt.at (show j < fn by omega)
   obtain⟨p,l⟩:∃ p,d.fs[j]?.getD (0,0)=p:=⟨_,rfl⟩
   have y:=Dv (c:=d.cnt) (show j < d.fs.length by rw [s.out];omega) l
   have f:=zH y
   clear y
   change _=some (Value.int IntKind.i64 (d.fs[j]?.getD (0,0)).1) at n
   change _=some (Value.int IntKind.i64 (d.fs[j]?.getD (0,0)).2) at q
   rw [l] at n q
   clear l z
   obtain⟨r,T⟩:=p
   simp only at n q f
   have N:(0:Int)<=(j:Int):=by omega
   have O:(j:Int) < (fn:Int):=by omega
   by_cases m:r=d.cnt
   case' pos=>have B:(r == d.cnt)=true:=by simp [m]
   case' neg=>have B:(r == d.cnt)=false:=by simp [m]
   all_goals
    rw [B] at f
    clear m
    go_wp2
    go_quiet (fail)
    go_wp2
    exact⟨⟨j,by omega,by go_num,by rw [f.out];rfl,a.drewN _,A.drewN _⟩,by simp [intOf]⟩
  ·obtain rfl:k=0:=by omega
   have G:=zH (a.GO (wrap64 (d.cnt+1)))
   have H:=zH (A.setCell (.inl a.Fg) 3 (.int .i64 (wrap64 (d.cnt+1))))
   rw [C.out]
   go_wp2
   go_ret
   exact⟨rfl,G.out,H.out⟩
end
end
section
open Go.RowKit
section
variable {F:Nat->Prop} {w w':World} {g sb cb sc:Nat} {fa:Option Addr} {fn fc:Nat} {d d':Dd.Dk}
theorem Rs (h:RD F w g sb cb sc fa fn fc d) (i:Nat) (a:i < d.st.length) (z:Int) (q:z=(i:Int)) :
 Calls prog 132 #[.pointer g,z] w fun e w'=>∃ b c,e=.returned (.slice (b:Nat) 64 c)/\Rw F g sb cb b/\AM w b 64 c (Dd.content d i)/\w=w':=by
 subst q
 obtain⟨A,B,-⟩:=h.cells
 have m:=h.ok.max
 have l:(d.st.map some)[i]?=some (some d.st[i]):=by simp [a]
 have j:i < d.ca.length:=by rw [h.ok.len];exact a
 obtain⟨v0,M,H⟩:=h.sto.cell l
 obtain⟨o,r,rfl,C,t⟩:=H
 obtain⟨I,N,f⟩:=h.cac.cell (List.getElem?_eq_getElem j)
 have k:Dd.content d i=(d.ca[i]).getD d.st[i]:=by unfold Dd.content;simp [a,j]
 rw [k]
 obtain⟨n,hn⟩:∃ n,n=d.st.length:=⟨_,rfl⟩
 rw [<-hn] at A B a m
 have J:(0:Int)<=(i:Int):=by omega
 have K:(i:Int) < (n:Int):=by omega
 clear l k
 generalize d.ca[i]=x at *
 generalize d.st[i]=y at *
 clear j hn
 cases x with
|none =>
  have f:I=.slice none 0 0:=f
  subst f
  go_in
  go_wp2
  go_ret
  exact⟨o,r,rfl,C,t,rfl⟩
|some x =>
  obtain⟨p,s,rfl,G,u⟩:=f
  go_in
  go_wp2
  go_ret
  exact⟨p,s,rfl,G,u,rfl⟩
def KV (F:Nat->Prop) (w:World) (g sb cb sc:Nat) (fa:Option Addr) (fn fc:Nat) (r:List UInt8 × Int × Dd.Dk) (e:Ending) (w':World):Prop :=
 ∃ v,e=.returned (.tuple #[v,r.2.1])/\AC w.heap.size w' v r.1/\RD F w' g sb cb sc fa fn fc r.2.2/\AD F w F w'
theorem Lj (d:Dd.Dk) (i:Int):Dd.read d i=if d.off then ([],10,d) else if Dd.fits d i then (if Dd.fault d=1 then ([],9,Dd.tick d) else if Dd.fault d=2 then ([],10,Dd.cut (Dd.tick d)) else (Dd.content d i.toNat,0,Dd.tick d)) else ([],2,d):=by
 unfold Dd.read Dd.begin
 cases d.off
 ·cases Dd.fits d i
  ·rfl
  ·by_cases a:Dd.fault d=1
   ·simp [a]
   ·by_cases b:Dd.fault d=2
    ·simp [b]
    ·simp only [Bool.false_eq_true,if_false,if_true,if_neg a,if_neg b]
 ·rfl
theorem Li (h:RD F w g sb cb sc fa fn fc d) (i:Int) :
 Calls prog 77 #[.pointer g,i] w (KV F w g sb cb sc fa fn fc (Dd.read d i)):=by
 rw [Lj]
 obtain⟨z,-,-,-,A⟩:=h.cells
 by_cases l:d.off=true
 ·rw [if_pos l]
  rw [l] at A
  go_in
  go_wp2
  go_ret2
  exact⟨_,rfl,AC.nil _ _,h,AD.refl _ _⟩
 have C:d.off=false:=by simpa using l
 rw [if_neg l]
 rw [C] at A
 have H:=h.ok.max
 by_cases hfit:Dd.fits d i=true
 ·rw [if_pos hfit]
  unfold Dd.fits at hfit
  simp only [Bool.and_eq_true,decide_eq_true_eq] at hfit
  obtain⟨X,K⟩:=hfit
  obtain⟨j,rfl⟩:∃ j:Nat,i=(j:Int):=⟨i.toNat,by omega⟩
  have m:=zH (Wb h)
  obtain⟨R,y⟩:∃ R,Dd.fault d=R:=⟨_,rfl⟩
  rw [y] at m ⊢
  clear y
  obtain⟨n,hn⟩:∃ n,n=d.st.length:=⟨_,rfl⟩
  rw [<-hn] at z K H
  have s:j < (Dd.tick d).st.length:=by
   show j < d.st.length
   omega
  have T:(j:Int) < (n:Int):=by omega
  clear hn
  by_cases f:R=1
  ·subst f
   rw [if_pos rfl]
   go_in
   go_wp2_with (go_at_call 131;go_must (refine m.out.mono ?_);rintro e b ⟨rfl,a,c⟩)
   go_ret2
   exact⟨_,rfl,AC.nil _ _,a,c⟩
  ·rw [if_neg f]
   by_cases o:R=2
   ·subst o
    rw [if_pos rfl]
    clear f
    go_in
    go_wp2_with (go_at_call 131;go_must (refine m.out.mono ?_);rintro e b ⟨rfl,a,c⟩;have y4:=a.cells.2.2.2.2;have Y:=a.free 4)
    go_ret2
    exact⟨_,rfl,AC.nil _ _,a.FG true,c.setCell (.inl a.Fg) _ _⟩
   ·rw [if_neg o]
    have Z:(R == 1)=false:=by simp [f]
    have t2:(R == 2)=false:=by simp [o]
    have r:Dd.content d (Int.toNat j)=Dd.content (Dd.tick d) j:=rfl
    rw [r]
    have p:=Dd.GB h.ok.tick j s
    obtain⟨x,q⟩:∃ x,Dd.content (Dd.tick d) j=x:=⟨_,rfl⟩
    have I:=zH q
    rw [q] at p ⊢
    have P:=zH p
    clear f o r q p
    go_in
    go_wp2_with (first
    |(go_at_call 131;go_must (refine m.out.mono ?_);rintro e b ⟨rfl,a,c⟩)
    |(go_at_call 132;go_must (refine (Rs (a.ext ((Below.refl _ _).alloc (zN _) _)) j s _ rfl).mono ?_);rintro e w2 ⟨W,J,rfl,U,t,rfl⟩;rw [I.out] at t)
    |(at_builtin;refine Qc rfl _ _ rfl b.heap.size _ [] rfl (AC.empty b (zN _)) _ 64 J x rfl t (by simp) (by simp) ?_;intro v B G M _))
    go_ret2
    have u:Below b.heap.size b B:=((Below.refl _ _).alloc (zN _) _).grown M (by simp) (fun k N=>by cases N;exact zN _)
    exact⟨_,rfl,(by simpa using G:AC b.heap.size B v x).mono c.size,a.ext u,c.ext u⟩
 ·rw [if_neg hfit]
  obtain⟨n,hn⟩:∃ n,n=d.st.length:=⟨_,rfl⟩
  rw [<-hn] at z
  unfold Dd.fits at hfit
  rw [<-hn] at hfit
  simp only [Bool.and_eq_true,decide_eq_true_eq] at hfit
  clear hn
  by_cases O:i < 0
  case' neg=>have Q:(n:Int)<=i:=by omega
  all_goals
   clear hfit
   go_in
   go_wp2
   go_ret2
   exact⟨_,rfl,AC.nil _ _,h,AD.refl _ _⟩
end
end
end Go.Proofs.YtmanejniepghlaaGreatDoor
