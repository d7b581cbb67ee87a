import Derived.Test.YtmanejniepghlaaGreatDoorRun25
import Derived.Test.YtmanejniepghlaaGreatDoorRun26
import Derived.Deep.RegionLaw
import Derived.Test.YtmanejniepghlaaGreatDoorRun0
import Derived.Test.YtmanejniepghlaaGreatDoorRun1
import Derived.Deep.QuietTactic
import Derived.BigQuiet
namespace Go.Proofs.YtmanejniepghlaaGreatDoor
section
open Go.RowKit
set_option maxRecDepth 100000
variable {d d':Disk.Dk} {e i:Int} {F:Nat->Prop} {w:World} {fc fn g m s:Nat} {fa:Option Addr} {x:List UInt8}
def ReadPost (F:Nat->Prop) (w:World) (g s m:Nat) (fa:Option Addr) (fn fc:Nat) (r:List UInt8 × Int × Disk.Dk) (e:Ending) (w':World):Prop :=
 ∃ v,e=.returned (.tuple #[v,r.2.1])/\OwnB w.heap.size w' v r.1/\PD F w' g s m fa fn fc r.2.2/\Upd F w F w'
theorem zh_e (hb:Disk.begin d (Disk.fits d i)=(false,e,d')) (he:e ≠ 0):Disk.read d i=([],e,d'):=by
 unfold Disk.read;rw [hb];exact if_neg he
theorem zl_e (hb:Disk.begin d (Disk.fits d i)=(true,e,d')):Disk.read d i=([],10,Disk.cut d'):=by
 unfold Disk.read;rw [hb]
theorem zo_g (hb:Disk.begin d (Disk.fits d i)=(false,0,d')):Disk.read d i=(Disk.content d i.toNat,0,d'):=by
 unfold Disk.read;rw [hb];exact if_pos rfl
theorem zc_v (d:Disk.Dk):∃ e,e ≠ 0/\Disk.begin d false=(false,e,d):=by
 unfold Disk.begin;split
 ·exact⟨10,by decide,rfl⟩
 ·exact⟨2,by decide,by simp⟩
theorem zd_u (d:Disk.Dk):(∃ e d',e ≠ 0/\Disk.begin d true=(false,e,d'))\/(∃ d',Disk.begin d true=(true,0,d')/\d'.st=d.st/\d'.ca=d.ca)\/(∃ d',Disk.begin d true=(false,0,d')/\d'.st=d.st/\d'.ca=d.ca):=by
 unfold Disk.begin;split
 ·exact .inl ⟨10,d,by decide,rfl⟩
 ·rw [if_pos rfl]
  split
  ·exact .inl ⟨9,Disk.tick d,by decide,rfl⟩
  ·split
   ·exact .inr (.inl ⟨_,rfl,rfl,rfl⟩)
   ·exact .inr (.inr ⟨_,rfl,rfl,rfl⟩)
set_option maxHeartbeats 2000000 in
theorem zs_t (h:PD F w g s m fa fn fc d) (i:Int) :
 Calls Tryz.prog 112 #[.pointer g,i] w (ReadPost F w g s m fa fn fc (Disk.read d i)):=by
 have HB:=zH (zh_k h)
 have HS:=zH (zc_q h)
 by_cases hf:0<=i/\i < (d.st.length:Int)
 ·obtain⟨h0,h1⟩:=hf
  have hfit:Disk.fits d i=true:=by simp [Disk.fits,h0,h1]
  obtain⟨k,rfl⟩:=Int.eq_ofNat_of_zero_le h0
  have hkn:k < d.st.length:=by omega
  have hmx:=h.ok.max
  rcases zd_u d with⟨e,d',he,hb⟩|⟨d',hb,hst,hca⟩|⟨d',hb,hst,hca⟩
  ·have HR:=zH (zh_e (by rw [hfit];exact hb) he)
   have HC:=HB.out true
   rw [hb] at HC
   have HC:=zH HC
   have t1:(e != 0)=true:=by simpa using he
   clear hb he hfit HB
   generalize Disk.read d (k:Int)=r at *
   generalize d.st.length=n at *
   go_enter Tryz.func112,Tryz.ntmps112
   go_wp2_with (first|(go_at_call 45;refine HS.out.mono ?_;rintro e1 w1 ⟨rfl,rfl⟩)|(go_at_call 111;refine HC.out.mono ?_;rintro e1 w1 ⟨rfl,hP,hU⟩))
   go_ret2
   rw [HR.out];exact⟨_,rfl,OwnB.nil _ _,hP,hU⟩
  ·have HR:=zH (zl_e (by rw [hfit];exact hb))
   have HC:=HB.out true
   rw [hb] at HC
   have HC:=zH HC
   clear hb hfit HB hst hca
   generalize Disk.read d (k:Int)=r at *
   generalize d.st.length=n at *
   go_enter Tryz.func112,Tryz.ntmps112
   go_wp2_with (first|(go_at_call 45;refine HS.out.mono ?_;rintro e1 w1 ⟨rfl,rfl⟩)|(go_at_call 111;refine HC.out.mono ?_;rintro e1 w1 ⟨rfl,hP,hU⟩;have q4:=hP.cells.2.2.2.2;have f4:=hP.free 4;have HO:=zH (hP.setOff true)))
   go_ret2
   rw [HR.out];exact⟨_,rfl,OwnB.nil _ _,HO.out,hU.setCell (.inl h.Fg) _ _⟩
  ·have HR:=zH (zo_g (by rw [hfit];exact hb))
   have HC:=HB.out true
   rw [hb] at HC
   have HC:=zH HC
   clear hb hfit HB
   have HST:=zH hst;have HCA:=zH hca
   generalize Disk.read d (k:Int)=r at *
   generalize hn:d.st.length=n at *
   have HNN:=zH hn
   clear hn hst hca
   go_enter Tryz.func112,Tryz.ntmps112
   go_wp2_with fail
   refine HS.out.mono ?_;rintro e1 w1 ⟨rfl,rfl⟩
   go_wp2_with fail
   refine HC.out.mono ?_;rintro e1 w1 ⟨rfl,hP,hU⟩
   change PD F w1 g s m fa fn fc d' at hP
   obtain⟨q0,q1,q2,q3,q4⟩:=hP.cells
   have HQ:=zH q0
   clear q0 q2 q3 q4
   rcases hP.map.look (k:Int) with⟨k',x,a,c,hz,hci,hs,hR,hx,hrunA⟩|⟨hno,hrunA⟩
   ·have hrun:=hrunA w1 rfl
    clear hrunA
    obtain rfl:k=k':=by omega
    have hct:Disk.content d k=x:=by
     unfold Disk.content;rw [<-HCA.out,hci];rfl
    have h64:=zH (hP.ok.ca64 x (List.mem_of_getElem? hci))
    have HCT:=zH hct
    have HCL:=zH (zd_l (some a) x.length c x w1 hs (by rw [h64.out];omega))
    clear hct hci hz
    generalize x.length=xl at *
    go_wp2_with (first|(go_at_call 75;refine HCL.out.mono ?_;rintro e2 w2 ⟨v,rfl,hO,hB⟩))
    go_ret2
    rw [HR.out]
    exact⟨v,rfl,by rw [show (k:Int).toNat=k from rfl,HCT.out];exact hO.mono hU.size,hP.ext hB,hU.ext hB⟩
   ·have hrun:=hrunA w1 rfl
    clear hrunA
    have hct:Disk.content d k=d.st[k]?.getD []:=by
     unfold Disk.content;rw [<-HCA.out,hno k rfl];rfl
    have HCT:=zH hct
    have hk2:k < d'.st.length:=by rw [HST.out,HNN.out];exact hkn
    have hsl:SlB w1 (s (64 * k)) 64 (64 * d'.st.length - 64 * k) (d.st[k]?.getD []):=by
     have:=hP.row.slb (64 * k) 64 (64 * d'.st.length - 64 * k) (by rw [Disk.flat_length _ hP.ok.st64];omega) (by omega) (by have:=hP.ok.max;unfold maxLen;omega)
     rw [Disk.flat_slot _ hP.ok.st64 k hk2,HST.out] at this;rw [HST.out];exact this
    have HSL:=zH (zk_c hP k hk2 k rfl)
    have HCL:=zH (zd_l _ _ _ _ w1 hsl (by omega))
    clear hct hno hsl
    go_wp2_with (first|(go_at_call 68;refine HSL.out.mono ?_;rintro e2 w2 ⟨rfl,rfl⟩)|(go_at_call 75;refine HCL.out.mono ?_;rintro e2 w2 ⟨v,rfl,hO,hB⟩))
    go_ret2
    rw [HR.out]
    exact⟨v,rfl,by rw [show (k:Int).toNat=k from rfl,HCT.out];exact hO.mono hU.size,hP.ext hB,hU.ext hB⟩
 ·have hfit:Disk.fits d i=false:=by simp only [Disk.fits];rw [<-Bool.decide_and];exact decide_eq_false hf
  obtain⟨e,he,hb⟩:=zc_v d
  have HR:=zH (zh_e (by rw [hfit];exact hb) he)
  have HC:=HB.out false
  rw [hb] at HC
  have HC:=zH HC
  have t1:(e != 0)=true:=by simpa using he
  clear hb he hfit HB
  have hmx:=h.ok.max
  generalize Disk.read d i=r at *
  generalize d.st.length=n at *
  by_cases h0:0<=i
  ·have h1:¬ i < (n:Int):=by omega
   have t2:decide (i < (n:Int))=false:=by simpa using h1
   clear hf
   go_enter Tryz.func112,Tryz.ntmps112
   go_wp2_with (first|(go_at_call 45;refine HS.out.mono ?_;rintro e1 w1 ⟨rfl,rfl⟩)|(go_at_call 111;refine HC.out.mono ?_;rintro e1 w1 ⟨rfl,hP,hU⟩))
   go_ret2
   rw [HR.out];exact⟨_,rfl,OwnB.nil _ _,hP,hU⟩
  ·clear hf
   go_enter Tryz.func112,Tryz.ntmps112
   go_wp2_with (first|(go_at_call 111;refine HC.out.mono ?_;rintro e1 w1 ⟨rfl,hP,hU⟩))
   go_ret2
   rw [HR.out];exact⟨_,rfl,OwnB.nil _ _,hP,hU⟩
theorem zd_t (hb:Disk.begin d (Disk.fits d i && decide (x.length=64))=(false,e,d')) (he:e ≠ 0):Disk.write d i x=(e,d'):=by
 unfold Disk.write;rw [hb];exact if_neg he
theorem zj_f (hb:Disk.begin d (Disk.fits d i && decide (x.length=64))=(true,e,d')):Disk.write d i x=(10,Disk.cut (Disk.put d' i.toNat x)):=by
 unfold Disk.write;rw [hb]
theorem zl_k (hb:Disk.begin d (Disk.fits d i && decide (x.length=64))=(false,0,d')):Disk.write d i x=(0,Disk.put d' i.toNat x):=by
 unfold Disk.write;rw [hb];exact if_pos rfl
def WritePost (F:Nat->Prop) (w:World) (g s m:Nat) (fa:Option Addr) (fn fc:Nat) (r:Int × Disk.Dk) (e:Ending) (w':World):Prop :=
 e=.returned (r.1:Value)/\∃ F',PD F' w' g s m fa fn fc r.2/\Upd F w F' w'
theorem PD.put {w2:World} (h:PD F w g s m fa fn fc d) (hB:Below w.heap.size w w2) (i:Nat) (hi:i < d.ca.length) (x:List UInt8) (hx:x.length=64) {v:Value} (hO:OwnB w.heap.size w2 v x) :
 ∃ (a:Addr) (c:Nat) (o:Obj),v=.slice (some a) 64 c/\(Instr.mapUpdate 85 (.map (some m)) (i:Value) (.slice (some a) 64 c)).run Tryz.prog w2=.ok () (ChangeMaps.setBlock w2 m o) ∧
  PD (fun k=>F k\/k=a.block) (ChangeMaps.setBlock w2 m o) g s m fa fn fc (Disk.put d i x)/\Upd F w (fun k=>F k\/k=a.block) (ChangeMaps.setBlock w2 m o):=by
 have h2:=h.ext hB
 obtain⟨ao,c,rfl,hs,hblk⟩:=hO.sl
 have hne:x ≠ []:=by rintro rfl;simp at hx
 cases ao with
|none=>have:=(hs.2.2.2.1 rfl).1;exact absurd this hne
|some a =>
  obtain⟨-,hbase,-⟩:=hblk a rfl
  have hlt:=hs.blt hne
  have hnew:∀ k,F k->k < w.heap.size:=h.lt
  have hR:∀ k,Rw F g s m k->Rw (fun k=>F k\/k=a.block) g s m k:=fun k hk=>⟨.inl hk.1,hk.2⟩
  have ha:Rw (fun k=>F k\/k=a.block) g s m a.block:=⟨.inr rfl,by have:=hnew g h.Fg;omega,by have:=hnew s h.Fs;omega,by have:=hnew m h.Fm;omega⟩
  obtain⟨o,hrun,hM⟩:=(h2.map.mono hR).update i hi x a c hs ha hne (fun e=>e.2.2.2 rfl)
  rw [hx] at hrun ⊢
  refine⟨a,c,o,rfl,hrun,⟨h2.ok.put i x hx,(za_l _ _ h2.gm).trans h2.box,h2.row.keep (za_l _ _ h2.sm),hM,h2.flt.stay (fun y hy hl=>za_l _ _ (h2.fltF y hy hl).2.2.2) (by rw [za_s];exact zN _),fun y hy hl=>hR _ (h2.fltF y hy hl),fun k hk=>?_,.inl h.Fg,.inl h.Fs,.inl h.Fm⟩,?_⟩
  ·rw [za_s]
   rcases hk with hk|rfl
   ·exact h2.lt k hk
   ·exact hlt
  ·refine (((Upd.refl F w).ext hB).setBlock (.inl h.Fm) o).grow (fun k hk=>?_)
   rcases hk with hk|rfl
   ·exact .inl hk
   ·exact .inr hbase
set_option maxHeartbeats 2000000 in
theorem zq_r (h:PD F w g s m fa fn fc d) (i:Int) (a:Option Addr) (n c:Nat) (x:List UInt8) (hx:SlB w a n c x) (hF:∀ y,a=some y->x ≠ []->¬ F y.block) :
 Calls Tryz.prog 53 #[.pointer g,i,.slice a n c] w (WritePost F w g s m fa fn fc (Disk.write d i x)):=by
 have HB:=zH (zh_k h)
 have HS:=zH (zc_q h)
 have HLN:=zH hx.len
 have hle:=hx.le
 by_cases hf:0<=i/\i < (d.st.length:Int)
 ·obtain⟨h0,h1⟩:=hf
  have hfit:Disk.fits d i=true:=by simp [Disk.fits,h0,h1]
  obtain⟨k,rfl⟩:=Int.eq_ofNat_of_zero_le h0
  have hkn:k < d.st.length:=by omega
  have hmx:=h.ok.max
  by_cases hn:n=64
  ·subst hn
   have hfx:(Disk.fits d (k:Int) && decide (x.length=64))=true:=by rw [hfit,HLN.out];rfl
   rcases zd_u d with⟨e,d',he,hb⟩|⟨d',hb,hst,hca⟩|⟨d',hb,hst,hca⟩
   ·have HR:=zH (zd_t (by rw [hfx];exact hb) he)
    have HC:=HB.out true
    rw [hb] at HC
    have HC:=zH HC
    have t1:(e != 0)=true:=by simpa using he
    clear hb he hfit HB hfx
    generalize Disk.write d (k:Int) x=r at *
    generalize d.st.length=nn at *
    go_enter Tryz.func53,Tryz.ntmps53
    go_wp2_with (first|(go_at_call 45;refine HS.out.mono ?_;rintro e1 w1 ⟨rfl,rfl⟩)|(go_at_call 111;refine HC.out.mono ?_;rintro e1 w1 ⟨rfl,hP,hU⟩))
    go_ret
    rw [HR.out];exact⟨rfl,F,hP,hU⟩
   ·have HR:=zH (zj_f (by rw [hfx];exact hb))
    have HC:=HB.out true
    rw [hb] at HC
    have HC:=zH HC
    have hkc:k < d'.ca.length:=by rw [hca,h.ok.len];exact hkn
    clear hb hfit HB hfx hst hca
    generalize Disk.write d (k:Int) x=r at *
    generalize d.st.length=nn at *
    go_enter Tryz.func53,Tryz.ntmps53
    go_wp2_with (first|(go_at_call 45;refine HS.out.mono ?_;rintro e1 w1 ⟨rfl,rfl⟩)|(go_at_call 111;refine HC.out.mono ?_;rintro e1 w1 ⟨rfl,hP,hU⟩))
    change PD F w1 g s m fa fn fc d' at hP
    have hx1:=hx.upd hU hF
    have q1:=hP.cells.2.1
    have q1':w1.drew.cell? (g 1)=some (.map (some m)):=q1
    have HCL:=zH (zd_l a 64 c x w1.drew hx1 (by omega))
    go_region_law (go_simp;go_at_call 75;refine HCL.out.mono ?_;rintro e2 w2 ⟨v,rfl,hO,hBB⟩;obtain⟨a2,c2,o2,rfl,hrun,hP2,hU2⟩:=hP.drew.put hBB k hkc x HLN.out hO;have q12:w2.cell? (g 1)=some (.map (some m)):=(hP.drew.ext hBB).cells.2.1)
    all_goals
     have q4:=hP2.cells.2.2.2.2
     have f4:=hP2.free 4
     have HO:=zH (hP2.setOff true)
     go_wp2
     go_ret
     rw [HR.out]
     exact⟨rfl,_,HO.out,(hU.drew.trans hU2).setCell (.inl h.Fg) _ _⟩
   ·have HR:=zH (zl_k (by rw [hfx];exact hb))
    have HC:=HB.out true
    rw [hb] at HC
    have HC:=zH HC
    have hkc:k < d'.ca.length:=by rw [hca,h.ok.len];exact hkn
    clear hb hfit HB hfx hst hca
    generalize Disk.write d (k:Int) x=r at *
    generalize d.st.length=nn at *
    go_enter Tryz.func53,Tryz.ntmps53
    go_wp2_with (first|(go_at_call 45;refine HS.out.mono ?_;rintro e1 w1 ⟨rfl,rfl⟩)|(go_at_call 111;refine HC.out.mono ?_;rintro e1 w1 ⟨rfl,hP,hU⟩))
    change PD F w1 g s m fa fn fc d' at hP
    have hx1:=hx.upd hU hF
    have q1:=hP.cells.2.1
    have q1':w1.drew.cell? (g 1)=some (.map (some m)):=q1
    have HCL:=zH (zd_l a 64 c x w1.drew hx1 (by omega))
    go_region_law (go_simp;go_at_call 75;refine HCL.out.mono ?_;rintro e2 w2 ⟨v,rfl,hO,hBB⟩;obtain⟨a2,c2,o2,rfl,hrun,hP2,hU2⟩:=hP.drew.put hBB k hkc x HLN.out hO;have q12:w2.cell? (g 1)=some (.map (some m)):=(hP.drew.ext hBB).cells.2.1)
    all_goals
     go_wp2
     go_ret
     rw [HR.out]
     exact⟨rfl,_,hP2,hU.drew.trans hU2⟩
  ·have hfx:(Disk.fits d (k:Int) && decide (x.length=64))=false:=by rw [HLN.out,decide_eq_false hn,Bool.and_false]
   obtain⟨e,he,hb⟩:=zc_v d
   have HR:=zH (zd_t (by rw [hfx];exact hb) he)
   have HC:=HB.out false
   rw [hb] at HC
   have HC:=zH HC
   have t1:(e != 0)=true:=by simpa using he
   have t2:((n:Int) == 64)=false:=by simp;omega
   clear hb he hfit HB hfx hn
   generalize Disk.write d (k:Int) x=r at *
   generalize d.st.length=nn at *
   go_enter Tryz.func53,Tryz.ntmps53
   go_wp2_with (first|(go_at_call 45;refine HS.out.mono ?_;rintro e1 w1 ⟨rfl,rfl⟩)|(go_at_call 111;refine HC.out.mono ?_;rintro e1 w1 ⟨rfl,hP,hU⟩))
   go_ret
   rw [HR.out];exact⟨rfl,F,hP,hU⟩
 ·have hfx:(Disk.fits d i && decide (x.length=64))=false:=by
   have:Disk.fits d i=false:=by simp only [Disk.fits];rw [<-Bool.decide_and];exact decide_eq_false hf
   rw [this];rfl
  obtain⟨e,he,hb⟩:=zc_v d
  have HR:=zH (zd_t (by rw [hfx];exact hb) he)
  have HC:=HB.out false
  rw [hb] at HC
  have HC:=zH HC
  have t1:(e != 0)=true:=by simpa using he
  clear hb he hfx HB
  have hmx:=h.ok.max
  generalize Disk.write d i x=r at *
  generalize d.st.length=nn at *
  by_cases h0:0<=i
  ·have h1:¬ i < (nn:Int):=by omega
   have t2:decide (i < (nn:Int))=false:=by simpa using h1
   clear hf
   go_enter Tryz.func53,Tryz.ntmps53
   go_wp2_with (first|(go_at_call 45;refine HS.out.mono ?_;rintro e1 w1 ⟨rfl,rfl⟩)|(go_at_call 111;refine HC.out.mono ?_;rintro e1 w1 ⟨rfl,hP,hU⟩))
   go_ret
   rw [HR.out];exact⟨rfl,F,hP,hU⟩
  ·clear hf
   go_enter Tryz.func53,Tryz.ntmps53
   go_wp2_with (first|(go_at_call 111;refine HC.out.mono ?_;rintro e1 w1 ⟨rfl,hP,hU⟩))
   go_ret
   rw [HR.out];exact⟨rfl,F,hP,hU⟩
end
section
open Go.RowKit
set_option maxRecDepth 100000
variable {d d':Disk.Dk} {F:Nat->Prop} {w:World} {fc fn g m s:Nat} {fa:Option Addr} {e:Int}
namespace Disk
def stAt (d:Dk) (done:Nat->Bool):List (List UInt8):=(List.range d.st.length).map fun i=>if done i then content d i else d.st[i]?.getD []
theorem stAt_length (d:Dk) (done:Nat->Bool):(stAt d done).length=d.st.length:=by simp [stAt]
theorem stAt_none (d:Dk):stAt d (fun _=>false)=d.st:=by
 unfold stAt
 apply List.ext_getElem
 ·simp
 ·intro i h1 h2
  simp [h2]
theorem stAt_all (d:Dk) (done:Nat->Bool) (h:∀ (i:Nat) (x:List UInt8),d.ca[i]?=some (some x)->done i=true):stAt d done=(List.range d.st.length).map (content d):=by
 unfold stAt
 refine List.map_congr_left fun i _=>?_
 split
 ·rfl
 ·rename_i hd
  unfold content
  cases hc:d.ca[i]? with
 |none=>rfl
 |some o =>
   cases o with
  |none=>rfl
  |some x=>exact absurd (h i x hc) hd
theorem stAt_step (d:Dk) (done:Nat->Bool) (i:Nat) (_hi:i < d.st.length) (x:List UInt8) (hx:d.ca[i]?=some (some x)):stAt d (fun k=>done k || k == i)=(stAt d done).set i x:=by
 unfold stAt
 apply List.ext_getElem
 ·simp
 ·intro k h1 h2
  simp only [List.getElem_map,List.getElem_range,List.getElem_set]
  by_cases hki:i=k
  ·subst hki
   simp [content,hx]
  ·have:(k == i)=false:=by simp;omega
   simp [hki,this]
theorem stAt_64 {d:Dk} (h:d.Ok) (done:Nat->Bool):∀ x ∈ stAt d done,x.length=64:=by
 intro x hx
 obtain⟨i,hi,rfl⟩:=List.mem_map.1 hx
 have hi':=List.mem_range.1 hi
 split
 ·exact content64 h i hi'
 ·rw [List.getElem?_eq_getElem hi'];exact h.st64 _ (List.getElem_mem hi')
end Disk
theorem PD.setSt {w':World} (h:PD F w g s m fa fn fc d) (k:But s w w') (st':List (List UInt8)) (hl:st'.length=d.st.length) (h64:∀ x ∈ st',x.length=64)
 (hr:RowIs w' s 5 st'.flatten):PD F w' g s m fa fn fc { d with st:=st' } :=
 ⟨⟨by rw [hl];exact h.ok.len,by rw [hl];exact h.ok.pos,by rw [hl];exact h.ok.max,h64,h.ok.ca64⟩,by rw [hl];exact (k.block g (h.lt g h.Fg) h.gs).trans h.box,hr,h.map.stay (fun b hb hlt=>k.block b hlt hb.2.2.1) (k.block m (h.lt m h.Fm) (Ne.symm h.sm)) k.size,h.flt.stay (fun x hx hl=>k.block _ (h.lt _ (h.fltF x hx hl).1) (h.fltF x hx hl).2.2.1) k.size,h.fltF,fun b hb=>Nat.lt_of_lt_of_le (h.lt b hb) k.size,h.Fg,h.Fs,h.Fm⟩
theorem PD.clear (h:PD F w g s m fa fn fc d) (o:Obj) (hM:∀ R' n,MapIs R' (ChangeMaps.setBlock w m o) m (List.replicate n none)) :
 PD F (ChangeMaps.setBlock w m o) g s m fa fn fc { d with ca:=List.replicate d.ca.length none } :=
 ⟨⟨by rw [List.length_replicate];exact h.ok.len,h.ok.pos,h.ok.max,h.ok.st64,fun x hx=>by simp at hx⟩,(za_l _ _ h.gm).trans h.box,h.row.keep (za_l _ _ h.sm),hM _ _,h.flt.stay (fun y hy hl=>za_l _ _ (h.fltF y hy hl).2.2.2) (by rw [za_s];exact zN _),h.fltF,fun b hb=>by rw [za_s];exact h.lt b hb,h.Fg,h.Fs,h.Fm⟩
def SyncRel (F:Nat->Prop) (w:World) (g s m:Nat) (fa:Option Addr) (fn fc:Nat) (d:Disk.Dk) (ri:Nat) (wr:World):Prop :=
 ∃ (done:Nat->Bool) (cnt:Nat),MRange (Rw F g s m) wr m ri d.ca done cnt/\PD F wr g s m fa fn fc { d with st:=Disk.stAt d done }/\Upd F w F wr
theorem zq_v (hb:Disk.begin d true=(false,e,d')) (he:e ≠ 0):Disk.sync d=(e,d'):=by
 unfold Disk.sync;rw [hb];exact if_neg he
theorem zq_w (hb:Disk.begin d true=(true,e,d')):Disk.sync d=(10,Disk.cut d'):=by
 unfold Disk.sync;rw [hb]
theorem zs_w (hb:Disk.begin d true=(false,0,d')):Disk.sync d=(0,Disk.flush d'):=by
 unfold Disk.sync;rw [hb];exact if_pos rfl
set_option maxHeartbeats 2000000 in
theorem zs_u (h:PD F w g s m fa fn fc d) :
 Calls Tryz.prog 51 #[.pointer g] w fun e w'=>e=.returned (.int .i64 (Disk.sync d).1)/\PD F w' g s m fa fn fc (Disk.sync d).2/\Upd F w F w':=by
 have HB:=zH (zh_k h)
 rcases zd_u d with⟨e,d',he,hb⟩|⟨d',hb,hst,hca⟩|⟨d',hb,hst,hca⟩
 ·have HR:=zH (zq_v hb he)
  have HC:=HB.out true
  rw [hb] at HC
  have HC:=zH HC
  have t1:(e != 0)=true:=by simpa using he
  clear hb he HB
  generalize Disk.sync d=r at *
  go_enter Tryz.func51,Tryz.ntmps51
  go_wp2_with (first|(go_at_call 111;refine HC.out.mono ?_;rintro e1 w1 ⟨rfl,hP,hU⟩))
  go_ret
  rw [HR.out];exact⟨rfl,hP,hU⟩
 ·have HR:=zH (zq_w hb)
  have HC:=HB.out true
  rw [hb] at HC
  have HC:=zH HC
  clear hb HB hst hca
  generalize Disk.sync d=r at *
  go_enter Tryz.func51,Tryz.ntmps51
  go_wp2_with (first|(go_at_call 111;refine HC.out.mono ?_;rintro e1 w1 ⟨rfl,hP,hU⟩;have q4:=hP.cells.2.2.2.2;have f4:=hP.free 4;have HO:=zH (hP.setOff true)))
  go_ret
  rw [HR.out];exact⟨rfl,HO.out,hU.setCell (.inl h.Fg) _ _⟩
 ·have HR:=zH (zs_w hb)
  have HC:=HB.out true
  rw [hb] at HC
  have HC:=zH HC
  clear hb HB hst hca
  generalize Disk.sync d=r at *
  go_enter Tryz.func51,Tryz.ntmps51
  go_wp2_with fail
  refine HC.out.mono ?_;rintro e1 w1 ⟨rfl,hP,hU⟩
  change PD F w1 g s m fa fn fc d' at hP
  have q1:=hP.cells.2.1
  go_wp2_with (at_range;refine zd_s rfl _ rfl rfl hP.map (fun b hb=>hP.lt b hb.1) ?_;intro o' cnt hM)
  go_frame
  have hFr:¬ F w1.heap.size:=fun e=>Nat.lt_irrefl _ (hP.lt _ e)
  have hrw:F w1.heap.size\/w.heap.size<=w1.heap.size:=.inr hU.size
  have hP0:=hP.alloc o'
  have hok0:=hP.ok
  have hU0:=hU.alloc o'
  have hsz0:w1.heap.size < (w1.alloc o').heap.size:=by simp
  clear q1 hP hU
  generalize w1.alloc o'=w2 at *
  generalize w1.heap.size=ri at *
  go_loopw [5] (fun _ wr=>SyncRel F w g s m fa fn fc d' ri wr) (fun _ wr=>wr.rangeLeft m ri)
  case atStart=>exact⟨_,cnt,hM,by rw [Disk.stAt_none];exact hP0,hU0⟩
  case round =>
   obtain⟨done,cnt,hM,hP,hU⟩:=hrel
   have hok:=hP.ok
   have hlen:=Disk.stAt_length d' done
   have HLEN:=zH hlen
   have HCL:=zH hok.len
   clear hlen
   go_wp2_with (at_next;refine ze_i rfl _ rfl rfl hM (fun b hb e=>hFr (by rw [<-e];exact hb.1)) ?_ ?_)
   ·intro hall
    have q1:=hP.cells.2.1
    go_wp2_with ((show wpList _ _ _ (Oper.mk none _ _ _ _ _ :: _) _ _);go_must (refine ze_q rfl (.tmp 37) rfl rfl hP.map ?_);intro o2 hM2)
    go_ret
    rw [HR.out]
    refine⟨rfl,?_,hU.setBlock (.inl h.Fm) _⟩
    have:=hP.clear o2 hM2
    rw [Disk.stAt_all d' done hall] at this;exact this
   ·intro i x b c W o' cnt' hci hil hdn hal hsx hRb hM' hlt hen
    have hW:∀ k,F k->(ChangeMaps.setBlock W ri o').heap[k]?=wr.heap[k]?:=fun k hk=>(za_l _ _ (by intro e;subst e;exact hFr hk)).trans (by rcases hal with rfl|rfl <;> rfl)
    have hWz:(ChangeMaps.setBlock W ri o').heap.size=wr.heap.size:=by rw [za_s];rcases hal with rfl|rfl <;> rfl
    have hP':=hP.stay hW (Nat.le_of_eq hWz.symm)
    have hU':Upd F w F (ChangeMaps.setBlock W ri o'):=by
     rcases hal with rfl|rfl
     ·exact hU.setBlock hrw o'
     ·exact hU.drew.setBlock hrw o'
    have hi64:=hok.ca64 x (List.mem_of_getElem? hci)
    rw [hi64] at hsx hen ⊢
    have H64:=zH hi64
    clear hal hW hWz hi64
    generalize ChangeMaps.setBlock W ri o'=W2 at *
    have hi:i < d'.st.length:=by rw [<-HLEN.out];have:=HCL.out;change d'.ca.length=(Disk.stAt d' done).length at this;omega
    have HSL:=zH (zk_c hP' i (by rw [HLEN.out];exact hi) i rfl)
    go_wp2_with (first|(go_at_call 68;refine HSL.out.mono ?_;rintro e2 w3 ⟨rfl,rfl⟩)|((show wpList _ _ _ (Oper.mk (some 33) _ _ _ _ _ :: _) _ _);go_must (refine zc_a rfl _ _ rfl s (64 * i) 64 _ _ _ _ x rfl rfl 5 _ hP'.row hsx (by rw [Disk.flat_length _ hP'.ok.st64];change 64 * i+min 64 64<=64 * (Disk.stAt d' done).length;rw [HLEN.out];omega) ?_);intro w3 hr3 hb3))
    have hne:ri ≠ s:=by rintro rfl;exact hFr h.Fs
    have hM3:=hM'.stay (fun b hb hlt=>hb3.block b hlt hb.2.2.1) (hb3.block m hM'.map.lt (Ne.symm hP'.sm)) (hb3.block ri hM'.lt hne) hb3.size
    have hst:Disk.stAt d' (fun k=>done k || k == i)=(Disk.stAt d' done).set i x:=Disk.stAt_step d' done i hi x hci
    have hok':=Disk.stAt_64 (d:={ d' with st:=d'.st }) hok0 (fun k=>done k || k == i)
    have hr4:RowIs w3 s 5 (Disk.stAt d' (fun k=>done k || k == i)).flatten:=by
     have h1:=Disk.flat_set (Disk.stAt d' done) hok.st64 i (by rw [HLEN.out];exact hi) x 64 H64.out (zN _)
     have h2:((Disk.stAt d' done)[i]?.getD []).drop 64=[]:=by
      have hi2:i < (Disk.stAt d' done).length:=by rw [HLEN.out];exact hi
      rw [List.getElem?_eq_getElem hi2,Option.getD_some]
      exact List.drop_eq_nil_of_le (by have:=hok.st64 _ (List.getElem_mem hi2);omega)
     rw [h2,List.append_nil] at h1
     rw [List.take_of_length_le (l:=x) (i:=64) (by have:=H64.out;omega)] at hr3
     change RowIs w3 s 5 ((Disk.stAt d' done).flatten.take (64 * i) ++ x ++ (Disk.stAt d' done).flatten.drop (64 * i+64)) at hr3
     rw [h1,<-hst] at hr3;exact hr3
    have hP3:=hP'.setSt hb3 (Disk.stAt d' (fun k=>done k || k == i)) (by simp only [Disk.stAt_length]) hok' hr4
    go_roundw
    case rel=>exact⟨_,_,hM3,hP3,hU'.but (.inl h.Fs) hb3⟩
    case measure=>rw [hM3.left_eq,hM.left_eq];exact hlt
theorem PD.setFs (h:PD F w g s m fa fn fc d) (a:Option Addr) (n c:Nat) (fs:List (Int × Int)) (hf:SlP w a n c fs) (hF:∀ y,a=some y->fs ≠ []->Rw F g s m y.block) :
 PD F (w.setCell (g 2) (.slice a n c)) g s m a n c { d with fs:=fs }:=by
 have k:∀ b,b ≠ g->(w.setCell (g 2) (.slice a n c)).heap[b]?=w.heap[b]?:=fun b hb=>heap_setCell_other _ _ _ _ hb
 have hz:(w.setCell (g 2) (.slice a n c)).heap.size=w.heap.size:=by simp
 exact⟨⟨h.ok.len,h.ok.pos,h.ok.max,h.ok.st64,h.ok.ca64⟩,by rw [heap_setCell_same _ _ _ _ _ _ h.box];rfl,h.row.keep (k s (Ne.symm h.gs)),h.map.stay (fun b hb _=>k b hb.2.1) (k m (Ne.symm h.gm)) (Nat.le_of_eq hz.symm),hf.stay (fun x hx hl=>k _ (hF x hx hl).2.1) (Nat.le_of_eq hz.symm),hF,fun b hb=>by rw [hz];exact h.lt b hb,h.Fg,h.Fs,h.Fm⟩
theorem zm_i (d:Disk.Dk) (ks:List (Int × Int)) (k:Nat) (hk:k < ks.length):(ks.take (k+1)).foldl Disk.tear d=Disk.tear ((ks.take k).foldl Disk.tear d) (ks[k]?.getD (0,0)):=by
 rw [List.take_succ_eq_append_getElem hk,List.foldl_append,List.getElem?_eq_getElem hk];rfl
set_option maxHeartbeats 2000000 in
theorem zm_g (h:PD F w g s m fa fn fc d) (a:Option Addr) (n c:Nat) (ks:List (Int × Int)) (hk:SlP w a n c ks) (hF:∀ y,a=some y->ks ≠ []->¬ F y.block) :
 Calls Tryz.prog 21 #[.pointer g,.slice a n c] w fun e w'=>e=.returned (.tuple #[])/\PD F w' g s m none 0 0 (Disk.restart d ks)/\Upd F w F w':=by
 have HLN:=zH hk.len
 have hle:=hk.le
 have H0:=zH h
 go_enter Tryz.func21,Tryz.ntmps21
 go_wp2
 go_loopw [12] (fun i wr=>∃ k:Nat,k<=n/\i=.int .i64 k/\PD F wr g s m fa fn fc ((ks.take k).foldl Disk.tear d)/\Upd F w F wr) (fun i _=>n - (intOf i).toNat)
 case atStart=>exact⟨0,Nat.zero_le _,rfl,h,Upd.refl _ _⟩
 case round =>
  obtain⟨k,hkn,rfl,hP,hU⟩:=hrel
  by_cases hlt:k < n
  ·have hk1:=hk.upd hU hF
   obtain⟨b,o,rfl,hb,y1,y2⟩:=hk1.at hlt
   have HT:=zH (zm_i d ks k (by rw [HLN.out];exact hlt))
   generalize List.foldl Disk.tear d (List.take k ks)=dk at *
   generalize hpr:ks[k]?.getD (0,0)=pr at *
   obtain⟨z1,z2⟩:=pr
   change _=some (Value.int IntKind.i64 z1) at y1
   change _=some (Value.int IntKind.i64 z2) at y2
   clear hpr
   go_wp2_with fail
   have hP2:=hP.alloc (.cells #[z1,z2] 116)
   have hU2:=hU.alloc (.cells #[z1,z2] 116)
   have x0:(wr.alloc (.cells #[z1,z2] 116)).cell? wr.heap.size=some (z1:Value):=by rw [World.cell?_alloc_at _ _ _ _ rfl];rfl
   have x1:(wr.alloc (.cells #[z1,z2] 116)).cell? (wr.heap.size 1)=some (z2:Value):=by rw [World.cell?_alloc_at _ _ _ _ rfl];rfl
   have hbF:¬ F wr.heap.size:=fun e=>Nat.lt_irrefl _ (hP.lt _ e)
   generalize wr.alloc (.cells #[z1,z2] 116)=W at *
   generalize wr.heap.size=bx at *
   have q1:=hP2.cells.2.1
   clear hb y1 y2
   rcases hP2.map.look z1 with⟨i,x,ad,cc,rfl,hci,hs,hR,hx,hrun⟩|⟨hno,hrun⟩
   ·have hlk:=fun nq=>hrun (W.drewN nq) rfl
    have hi64:=hP2.ok.ca64 x (List.mem_of_getElem? hci)
    rw [hi64] at hlk hs
    have H64:=zH hi64
    clear hrun hi64
    go_quiet (fail)
    go_wp2_with fail
    have hP3:PD F (W.drewN nq) g s m fa fn fc dk:=hP2.stay (fun _ _=>rfl) (zN _)
    have hU3:=hU2.drewN nq
    have x0':(W.drewN nq).cell? bx=some (i:Value):=x0
    have x1':(W.drewN nq).cell? (bx 1)=some (z2:Value):=x1
    have hs3:SlB (W.drewN nq) (some ad) 64 cc x:=hs.stay (fun _ _ _=>rfl) (zN _)
    clear hP2 hU2 x0 x1 hs hlk q1
    generalize W.drewN nq=W3 at *
    have hi:i < dk.st.length:=by rw [<-hP3.ok.len];exact (List.getElem?_eq_some_iff.1 hci).1
    have HSL:=zH ((zk_c hP3.drew i hi i rfl).mono (R':=fun e w'=>e=.returned (.slice (s (64 * i)) 64 (64 * dk.st.length - 64 * i))/\w'=W3.drew) (by rintro e w' ⟨h1,h2⟩;exact⟨h1,h2.symm⟩))
    obtain⟨mm,hmm⟩:∃ mm:Nat,(mm:Int)=min (max z2 0) 64:=⟨(min (max z2 0) 64).toNat,by omega⟩
    have hm64:mm<=64:=by omega
    have hmi:(if 64 < (if z2 < 0 then 0 else z2) then 64 else if z2 < 0 then 0 else z2)=(mm:Int):=by omega
    have HMM:=zH hmm
    clear hmm
    have hcc:=hs3.2.1
    obtain⟨ab,ao,asp⟩:=ad
    obtain rfl:asp=none:=(hs3.2.2.2.2 _ rfl 0 (by have:=H64.out;omega)).1
    have hmc:mm<=cc:=by omega
    have hmc':(mm:Int)<=(cc:Int):=by omega
    have hm0:(0:Int)<=(mm:Int):=by omega
    refine wp_region_still_tail 10 (by kernel_rfl) (by kernel_rfl) ?_
    simp only [List.take_succ_cons,List.take_zero,List.drop_succ_cons,List.drop_zero]
    repeat still_step
    still_call HSL.out
    repeat still_step
    refine wpStill_nil ?_
    change wpList _ _ _ _ _ W3.drew
    have hs4:SlB W3.drew (ab ao) mm cc (x.take mm):=(hs3.stay (w':=W3.drew) (fun _ _ _=>rfl) (zN _)).take hm64
    have hP4:=hP3.drew
    have hU4:=hU3.drew
    generalize W3.drew=W4 at *
    have hok:=hP4.ok
    go_wp2_with ((show wpList _ _ _ (Oper.mk (some 37) _ _ _ _ _ :: _) _ _);go_must (refine zc_a rfl _ _ rfl s (64 * i) 64 _ _ _ _ (x.take mm) rfl rfl 5 _ hP4.row hs4 (by rw [Disk.flat_length _ hok.st64];omega) ?_);intro w3 hr3 hb3)
    have hr4:RowIs w3 s 5 (dk.st.set i (x.take mm ++ (dk.st[i]?.getD []).drop mm)).flatten:=by
     rw [<-Disk.flat_set dk.st hok.st64 i hi (x.take mm) mm (by rw [List.length_take];have:=H64.out;omega) hm64]
     rw [List.take_of_length_le (l:=x.take mm) (i:=64) (by rw [List.length_take];omega),show min mm 64=mm by omega] at hr3
     exact hr3
    have htear:Disk.tear dk ((i:Int),z2)={ dk with st:=dk.st.set i (x.take mm ++ (dk.st[i]?.getD []).drop mm) }:=by
     unfold Disk.tear
     rw [if_pos (show (0:Int)<=((i:Int),z2).1 from Int.natCast_nonneg _)]
     have e1:((i:Int),z2).1.toNat=i:=rfl
     have e2:(min (max ((i:Int),z2).2 0) 64).toNat=mm:=by show (min (max z2 0) 64).toNat=mm;have:=HMM.out;omega
     rw [e1,e2,hci]
    have h64:=hok.tear ((i:Int),z2)
    rw [htear] at h64
    have hP5:=hP4.setSt hb3 (dk.st.set i (x.take mm ++ (dk.st[i]?.getD []).drop mm)) (by simp) h64.st64 hr4
    rw [<-htear,<-HT.out] at hP5
    go_roundw
    case rel=>exact⟨k+1,by omega,by go_num,hP5,hU4.but (.inl h.Fs) hb3⟩
    case measure=>simp [intOf];omega
   ·have hlk:=fun nq=>hrun (W.drewN nq) rfl
    clear hrun
    have HT2:Disk.tear dk (z1,z2)=dk:=by
     unfold Disk.tear
     split
     ·rename_i h0
      obtain⟨i,rfl⟩:=Int.eq_ofNat_of_zero_le h0
      have:=hno i rfl
      have e:((i:Int),z2).1.toNat=i:=rfl
      rw [e]
      cases hc:dk.ca[i]? with
     |none=>rfl
     |some oo =>
       rw [hc] at this
       simp only [Option.getD_some] at this
       subst this;rfl
     ·rfl
    have HT2:=zH HT2
    go_quiet (fail)
    go_wp2_with fail
    go_roundw
    case rel=>exact⟨k+1,by omega,by go_num,by rw [HT.out,HT2.out];exact hP2.stay (fun _ _=>rfl) (zN _),hU2.drewN _⟩
    case measure=>simp [intOf];omega
  ·obtain rfl:k=n:=by omega
   have hks:ks.take k=ks:=List.take_of_length_le (by rw [HLN.out];exact zN _)
   rw [hks] at hP
   have HR:Disk.restart d ks={ ks.foldl Disk.tear d with ca:=List.replicate (ks.foldl Disk.tear d).ca.length none,fs:=[],cnt:=0,off:=false }:=by
    have h2:=(h.ok.tears ks).2.1
    unfold Disk.restart;rw [h2]
   have HR:=zH HR
   clear hks hk
   generalize ks.foldl Disk.tear d=dk at *
   have q1:=hP.cells.2.1
   go_wp2_with ((show wpList _ _ _ (Oper.mk none (Op.call _) _ _ _ _ :: _) _ _);go_must (refine ze_q rfl (.tmp 42) rfl rfl hP.map ?_);intro o2 hM2;have hP2:=hP.clear o2 hM2;have hU2:=hU.setBlock (.inl h.Fm) o2;have p2:=hP2.cells.2.2.1;have p3:=hP2.cells.2.2.2.1;have p4:=hP2.cells.2.2.2.2;have f2:=hP2.free 2;have f3:=hP2.free 3;have f4:=hP2.free 4;generalize ChangeMaps.setBlock wr m o2=w2 at *)
   go_end0
   refine⟨rfl,?_,((hU2.setCell (.inl h.Fg) _ _).setCell (.inl h.Fg) _ _).setCell (.inl h.Fg) _ _⟩
   exact ((hP2.setFs none 0 0 [] (SlP.nil _) (fun y hy=>by cases hy)).setCnt 0).setOff false
end
section
open Go.RowKit
set_option maxRecDepth 100000
variable {w:World} {F:Nat->Prop} {fc fn g m s:Nat} {fa:Option Addr} {d:Disk.Dk}
theorem zq_p (h:PD F w g s m fa fn fc d) :
 Calls Tryz.prog 28 #[.pointer g] w fun e w'=>∃ v,e=.returned v/\OwnB w.heap.size w' v d.st.flatten/\Below w.heap.size w w':=by
 have q0:=h.cells.1
 have hfl:=Disk.flat_length _ h.ok.st64
 have hmx:=h.ok.max
 have hs:SlB w s (64 * d.st.length) (64 * d.st.length) d.st.flatten:=by
  have:=h.row.slb 0 (64 * d.st.length) (64 * d.st.length) (by omega) (zN _) (by unfold maxLen;omega)
  rwa [List.drop_zero,List.take_of_length_le (by omega)] at this
 have HC:=zH (zd_l _ _ _ _ w hs (by omega))
 clear hfl hs
 generalize d.st.length=n at *
 go_enter Tryz.func28,Tryz.ntmps28
 go_wp2_with (go_at_call 75;refine HC.out.mono ?_;rintro e w1 ⟨v,rfl,hO,hB⟩)
 go_ret
 exact⟨v,rfl,hO,hB⟩
theorem zt_l (p:Int × Int) (w:World):Calls Tryz.prog 72 #[.agg #[p.1,p.2]] w fun e w'=>e=.returned (.bool (Disk.badf p))/\Below w.heap.size w w':=by
 obtain⟨a,k⟩:=p
 obtain⟨r,hr⟩:∃ r,r=Disk.badf (a,k):=⟨_,rfl⟩
 rw [<-hr]
 unfold Disk.badf at hr
 simp only at hr ⊢
 by_cases h1:k=1
 ·subst h1
  by_cases ha:a < 0
  all_goals
   have hr2:r=decide (a < 0):=by rw [hr];simp
   have HR:=zH hr2
   clear hr hr2
   go_enter Tryz.func72,Tryz.ntmps72
   go_wp2
   go_ret
   exact⟨by rw [HR.out];simp [ha],(Below.refl _ _).alloc (zN _) _⟩
 by_cases h2:k=2
 ·subst h2
  by_cases ha:a < 0
  all_goals
   have hr2:r=decide (a < 0):=by rw [hr];simp
   have HR:=zH hr2
   clear hr hr2
   go_enter Tryz.func72,Tryz.ntmps72
   go_wp2
   go_ret
   exact⟨by rw [HR.out];simp [ha],(Below.refl _ _).alloc (zN _) _⟩
 ·have t1:(k != 1)=true:=by simpa using h1
  have t2:(k != 2)=true:=by simpa using h2
  have hr2:r=true:=by rw [hr,t1,t2];rfl
  subst hr2
  clear hr h1 h2
  go_enter Tryz.func72,Tryz.ntmps72
  go_wp2
  go_ret
  exact⟨rfl,(Below.refl _ _).alloc (zN _) _⟩
theorem zp_f (l:List (Int × Int)) (k:Nat) (hk:k < l.length) (h:(l.take k).any Disk.badf=false) (h2:Disk.badf (l[k]?.getD (0,0))=false):(l.take (k+1)).any Disk.badf=false:=by
 rw [List.take_succ_eq_append_getElem hk,List.any_append,h]
 rw [List.getElem?_eq_getElem hk] at h2
 simpa using h2
theorem zr_l (l:List (Int × Int)) (k:Nat) (hk:k < l.length) (h2:Disk.badf (l[k]?.getD (0,0))=true):l.any Disk.badf=true:=by
 rw [List.getElem?_eq_getElem hk] at h2
 exact List.any_eq_true.2 ⟨_,List.getElem_mem hk,h2⟩
def IdxPost (l:List (Int × Int)) (w:World) (e:Ending) (w':World):Prop:=∃ z:Int,e=.returned (z:Value)/\decide (0<=z)=l.any Disk.badf/\Below w.heap.size w w'
set_option maxHeartbeats 1000000 in
theorem zq_q (a:Option Addr) (n c:Nat) (l:List (Int × Int)) (w:World) (h:SlP w a n c l) :
 Calls Tryz.prog 130 #[.slice a n c,.func (.func 72) #[] #[]] w (IdxPost l w):=by
 have HLN:=zH h.len
 have hle:=h.le
 go_enter Tryz.func130,Tryz.ntmps130
 go_wp2
 go_loopw [8] (fun i wr=>∃ k:Nat,k<=n/\i=.int .i64 k/\Hid ((l.take k).any Disk.badf=false)/\Below w.heap.size w wr) (fun i _=>n - (intOf i).toNat)
 case atStart=>exact⟨0,Nat.zero_le _,rfl,zH rfl,Below.refl _ _⟩
 case round =>
  obtain⟨k,hk,rfl,HA,hB⟩:=hrel
  by_cases hlt:k < n
  ·obtain⟨b,o,rfl,hb,y1,y2⟩:=(h.ext hB).at hlt
   have HT:=zH (zp_f l k (by rw [HLN.out];exact hlt) HA.out)
   have HH:=zH (zr_l l k (by rw [HLN.out];exact hlt))
   generalize l[k]?.getD (0,0)=pr at *
   obtain⟨z1,z2⟩:=pr
   simp only at y1 y2
   have HC:=zH (fun W=>zt_l (z1,z2) W)
   generalize Disk.badf (z1,z2)=bb at *
   have hsz:=hB.size
   have b0:(0:Int)<=(k:Int):=by omega
   cases bb with
  |true =>
    go_wp2_with (go_at_call 72;refine (HC.out _).mono ?_;rintro e w1 ⟨rfl,hb1⟩)
    go_ret
    exact⟨k,rfl,by rw [HH.out trivial];simp,hB.trans (Below.mono hb1 hsz)⟩
  |false =>
    go_wp2_with (go_at_call 72;refine (HC.out _).mono ?_;rintro e w1 ⟨rfl,hb1⟩)
    go_roundw
    case rel=>exact⟨k+1,by omega,by go_num,zH (HT.out trivial),hB.trans (Below.mono hb1 hsz)⟩
    case measure=>simp [intOf];omega
  ·obtain rfl:k=n:=by omega
   go_wp2
   go_ret
   refine⟨-1,rfl,?_,hB⟩
   have:=HA.out
   rw [List.take_of_length_le (by rw [HLN.out];exact zN _)] at this
   rw [this];rfl
theorem zk_b (a:Option Addr) (n c:Nat) (l:List (Int × Int)) (w:World) (h:SlP w a n c l) :
 Calls Tryz.prog 73 #[.slice a n c,.func (.func 72) #[] #[]] w fun e w'=>e=.returned (.bool (l.any Disk.badf))/\Below w.heap.size w w':=by
 have HC:=zH (zq_q a n c l w h)
 go_enter Tryz.func73,Tryz.ntmps73
 go_wp2_with (go_at_call 130;refine HC.out.mono ?_;rintro e w1 ⟨z,rfl,hz,hb⟩;have HZ:=zH hz;clear hz)
 go_ret
 exact⟨by rw [<-HZ.out];rfl,hb⟩
theorem PD.grow {F':Nat->Prop} (h:PD F w g s m fa fn fc d) (h1:∀ k,F k->F' k) (h2:∀ k,F' k->k < w.heap.size):PD F' w g s m fa fn fc d :=
 ⟨h.ok,h.box,h.row,h.map.mono (fun _ hk=>⟨h1 _ hk.1,hk.2⟩),h.flt,fun x hx hl=>⟨h1 _ (h.fltF x hx hl).1,(h.fltF x hx hl).2⟩,h2,h1 _ h.Fg,h1 _ h.Fs,h1 _ h.Fm⟩
def ArmPost (F:Nat->Prop) (w:World) (g s m:Nat) (r:Int × Disk.Dk) (e:Ending) (w':World):Prop :=
 e=.returned (r.1:Value)/\∃ F' fa fn fc,PD F' w' g s m fa fn fc r.2/\Upd F w F' w'
set_option maxHeartbeats 1000000 in
theorem zt_k (h:PD F w g s m fa fn fc d) (a:Option Addr) (n c:Nat) (l:List (Int × Int)) (hl:SlP w a n c l) :
 Calls Tryz.prog 26 #[.pointer g,.slice a n c] w (ArmPost F w g s m (Disk.arm d l)):=by
 have hle:=hl.le
 have HLN:=zH hl.len
 obtain⟨r,hr⟩:∃ r,r=Disk.arm d l:=⟨_,rfl⟩
 rw [<-hr]
 unfold Disk.arm Disk.validFaults at hr
 rw [HLN.out] at hr
 by_cases hn:n<=64
 ·rw [decide_eq_true hn,Bool.true_and] at hr
  have HC:=zH (zk_b a n c l w hl)
  cases hany:l.any Disk.badf with
 |true =>
   rw [hany] at hr HC
   rw [if_neg (by decide)] at hr
   have HR:=zH hr
   clear hr hany
   go_enter Tryz.func26,Tryz.ntmps26
   go_wp2_with (go_at_call 73;refine HC.out.mono ?_;rintro e w1 ⟨rfl,hb⟩)
   go_ret
   rw [HR.out];exact⟨rfl,F,fa,fn,fc,h.ext hb,Upd.of_ext hb⟩
 |false =>
   rw [hany] at hr HC
   rw [if_pos (by decide)] at hr
   have HR:=zH hr
   clear hr hany
   go_enter Tryz.func26,Tryz.ntmps26
   go_wp2_with fail
   refine HC.out.mono ?_;rintro e w1 ⟨rfl,hb1⟩
   go_wp2_with fail
   refine (zf_l a n c l w1 (hl.ext hb1) (by omega)).mono ?_;rintro e w2 ⟨v,rfl,hO,hb2⟩
   have hb:=hb1.trans (Below.mono hb2 hb1.size)
   obtain⟨a2,c2,rfl,hs2,hbl⟩:=hO.sl
   have hP:=(h.ext hb).grow (F':=fun k=>F k\/∃ x,a2=some x/\k=x.block) (fun k hk=>.inl hk) (fun k hk=>by
    rcases hk with hk|⟨x,hx,rfl⟩
    ·exact Nat.lt_of_lt_of_le (h.lt k hk) hb.size
    ·exact (hbl x hx).2)
   have hU:Upd F w (fun k=>F k\/∃ x,a2=some x/\k=x.block) w2:=(Upd.of_ext hb).grow (fun k hk=>by
    rcases hk with hk|⟨x,hx,rfl⟩
    ·exact .inl hk
    ·exact .inr (Nat.le_trans hb1.size (hbl x hx).1))
   have hP2:=(hP.setFs a2 l.length c2 l hs2 (fun y hy _=>by
    have h1:=(hbl y hy).1
    have h2:=hb1.size
    exact⟨.inr ⟨y,hy,rfl⟩,by have:=h.lt g h.Fg;omega,by have:=h.lt s h.Fs;omega,by have:=h.lt m h.Fm;omega⟩)).setCnt 0
   have q2:=hP.cells.2.2.1
   have q3:=hP.cells.2.2.2.1
   have f2:=hP.free 2
   have f3:=hP.free 3
   go_wp2_with fail
   go_ret
   rw [HR.out];exact⟨rfl,_,_,_,_,hP2,(hU.setCell (.inl h.Fg) _ _).setCell (.inl h.Fg) _ _⟩
 ·rw [decide_eq_false hn,Bool.false_and,if_neg (by decide)] at hr
  have HR:=zH hr
  have hn':64 < n:=by omega
  clear hr hn
  go_enter Tryz.func26,Tryz.ntmps26
  go_wp2_with fail
  go_ret
  rw [HR.out];exact⟨rfl,F,fa,fn,fc,h,Upd.refl _ _⟩
def Three (a b c:Nat) (k:Nat):Prop:=k=a\/k=b\/k=c
theorem PD.made (n:Nat) (h1:1<=n) (h2:n<=4096) {w1:World} (hO:OwnB w.heap.size w1 (.slice w.heap.size (64 * n) (64 * n)) (List.replicate (64 * n) 0)) :
 PD (Three (w1.heap.size+1) w.heap.size w1.heap.size) ((w1.alloc (.map #[] 0)).alloc (.cells #[.slice w.heap.size (64 * n) (64 * n),.map (some w1.heap.size),.slice none 0 0,.int .i64 0,.bool false] 87 (0,0)))
  (w1.heap.size+1) w.heap.size w1.heap.size none 0 0 (Disk.new n):=by
 obtain⟨_,hrow⟩:=hO.isRow
 have hlt:=za_a hrow
 refine⟨Disk.new_ok n h1 h2,?_,?_,?_,SlP.nil _,(fun x hx=>by cases hx),fun k hk=>?_,.inl rfl,.inr (.inl rfl),.inr (.inr rfl)⟩
 ·rw [za_b _ _ _ (by simp)];simp [Disk.new]
 ·unfold RowIs
  rw [za_c _ _ _ (by simp;omega),za_c _ _ _ hlt,Disk.new_flat];exact hrow
 ·have:=MapIs.made (Rw (Three (w1.heap.size+1) w.heap.size w1.heap.size) (w1.heap.size+1) w.heap.size w1.heap.size) w1 n
  refine this.stay (fun b _ hb=>za_c _ _ _ hb) (za_c _ _ _ (by simp)) (by simp)
 ·rcases hk with rfl|rfl|rfl <;> simp <;> omega
theorem info5':(Tryz.prog.info? 5).map (fun i=>(i.zero,i.size,i.bytes))=some (some (.int .u8 0),1,1):=by kernel_rfl
theorem madeB (n:Nat):(madeCells (Value.int .u8 0).cells (n * 1)).toList=(List.replicate n (0:UInt8)).map bv:=by
 rw [Nat.mul_one,show madeCells (Value.int .u8 0).cells n=madeCells #[.int .u8 0] n from rfl,toList_madeCells_one];simp [bv]
def NewPost (w:World) (d:Disk.Dk) (e:Ending) (w':World):Prop :=
 ∃ F g s m fa fn fc,e=.returned (.tuple #[.pointer (g:Nat),.int .i64 0])/\PD F w' g s m fa fn fc d/\(∀ k,F k->w.heap.size<=k)/\Below w.heap.size w w'
theorem zt_m (n:Nat) (h1:1<=n) (h2:n<=4096) (w:World) (z:Int) (hz:z=(n:Int)):Calls Tryz.prog 11 #[z] w (NewPost w (Disk.new n)):=by
 subst hz
 obtain⟨i0,hi,hz0,hz1,hz2⟩:=info_parts info5'
 have HI:=zH (And.intro hi (And.intro hz0 (And.intro hz1 hz2)))
 have HM:=zH (madeB (64 * n))
 have hmm:=@run_makeMap Tryz.prog
 clear hi hz0 hz1 hz2
 go_enter Tryz.func11,Tryz.ntmps11
 go_wp2_with (refine wpList_make_full _ rfl _ _ 70 rfl w.heap.size 5 i0 (.int .u8 0) 1 Tryz.underlying70 HI.out.1 HI.out.2.1 HI.out.2.2.1 .i64 .i64 _ _ (64 * n) rfl rfl (by omega) (by omega) (by rw [HI.out.2.2.2];omega) (by unfold maxLen;omega) (zN _) ?_;intro w1 hown hg1;rw [HM.out] at hown;have hO:OwnB w.heap.size w1 (.slice w.heap.size (64 * n) (64 * n)) (List.replicate (64 * n) 0):=(by unfold OwnB;rw [List.length_replicate];exact hown);have hb1:=(Below.refl w.heap.size w).grown hg1 (zN _) (fun k hk=>by cases hk);have HP:=zH (PD.made n h1 h2 hO))
 go_ret2
 have hz1:=hb1.size
 have hlt1:w.heap.size < w1.heap.size:=za_a hO.isRow.2
 exact⟨_,_,_,_,_,_,_,rfl,HP.out,(fun k hk=>by rcases hk with rfl|rfl|rfl <;> omega),(hb1.alloc (by omega) _).alloc (by simp;omega) _⟩
end
section
open Go.RowKit
variable {z:Int} {a:Option Addr} {c n:Nat}
section
variable {F:Nat->Prop} {w:World} {g s m:Nat} {fa:Option Addr} {fn fc:Nat} {d d':Disk.Dk}
theorem zc_d (h:PD F w g s m fa fn fc d) (i:Int) {x:List UInt8} (hx:SlB w a n c x) (hF:∀ y,a=some y->x ≠ []->¬ F y.block) (hr:Disk.write d i x=(z,d')) :
 Calls Tryz.prog 53 #[.pointer g,i,.slice a n c] w fun e w'=>e=.returned (z:Value)/\∃ F',PD F' w' g s m fa fn fc d'/\Upd F w F' w':=by
 have:=zq_r h i a n c x hx hF
 unfold WritePost at this;rw [hr] at this;exact this
theorem ze_d (h:PD F w g s m fa fn fc d) (i:Int) {b:List UInt8} (hr:Disk.read d i=(b,z,d')) :
 Calls Tryz.prog 112 #[.pointer g,i] w fun e w'=>∃ v,e=.returned (.tuple #[v,z])/\OwnB w.heap.size w' v b/\PD F w' g s m fa fn fc d'/\Upd F w F w':=by
 have:=zs_t h i
 unfold ReadPost at this;rw [hr] at this;exact this
theorem ze_e (h:PD F w g s m fa fn fc d) (hr:Disk.sync d=(z,d')) :
 Calls Tryz.prog 51 #[.pointer g] w fun e w'=>e=.returned (z:Value)/\PD F w' g s m fa fn fc d'/\Upd F w F w':=by
 have:=zs_u h
 rw [hr] at this;exact this
theorem zo_q (h:PD F w g s m fa fn fc d) {l:List (Int × Int)} (hl:SlP w a n c l) (hr:Disk.arm d l=(z,d')) :
 Calls Tryz.prog 26 #[.pointer g,.slice a n c] w fun e w'=>e=.returned (z:Value)/\∃ F' fa fn fc,PD F' w' g s m fa fn fc d'/\Upd F w F' w':=by
 have:=zt_k h a n c l hl
 unfold ArmPost at this;rw [hr] at this;exact this
theorem zh_l (h:PD F w g s m fa fn fc d) {ks:List (Int × Int)} (hk:SlP w a n c ks) (hF:∀ y,a=some y->ks ≠ []->¬ F y.block) (hr:Disk.restart d ks=d') :
 Calls Tryz.prog 21 #[.pointer g,.slice a n c] w fun e w'=>e=.returned (.tuple #[])/\PD F w' g s m none 0 0 d'/\Upd F w F w':=by
 have:=zm_g h a n c ks hk hF
 rw [hr] at this;exact this
end
end
section
open Go.RowKit
variable {R R':Nat->Prop} {w w':World} {b i:Nat} {ls:List (Option (List UInt8))} {x:Option (List UInt8)} {v:Value}
def IsS (R:Nat->Prop) (w:World) (v:Value) (x:Option (List UInt8)):Prop :=
 match x with
|none=>v=.slice none 0 0
|some l=>∃ b c,v=.slice (b:Nat) 64 c/\R b/\SlB w b 64 c l
theorem IsS.stay (h:IsS R w v x) (hb:∀ k,R k->w'.heap[k]?=w.heap[k]?) (hz:w.heap.size<=w'.heap.size) (hR:∀ k,R k->R' k):IsS R' w' v x:=by
 cases x with
|none=>exact h
|some l =>
  obtain⟨b,c,e,hr,hs⟩:=h
  exact⟨b,c,e,hR b hr,hs.stay (fun y hy _=>by cases hy;exact hb b hr) hz⟩
def RowS (R:Nat->Prop) (w:World) (b:Nat) (ls:List (Option (List UInt8))):Prop :=
 ∃ cs:Array Value,w.heap[b]?=some (.cells cs 70 (0,0))/\ls.length<=cs.size/\∀ (i:Nat) (x:Option (List UInt8)),ls[i]?=some x->∃ v,cs[i]?=some v/\IsS R w v x
theorem RowS.lt (h:RowS R w b ls):b < w.heap.size:=by
 obtain⟨cs,h1,-⟩:=h;exact za_a h1
theorem RowS.cell (h:RowS R w b ls) (hx:ls[i]?=some x):∃ v,w.cell? (b i)=some v/\IsS R w v x:=by
 obtain⟨cs,h1,-,h3⟩:=h
 obtain⟨v,h4,h5⟩:=h3 i x hx
 exact⟨v,by rw [cell_of_row _ _ _ _ _ _ h1];exact h4,h5⟩
theorem RowS.free (h:RowS R w b ls) (k:Nat):w.frozen? (b k)=false:=by
 obtain⟨cs,h1,-⟩:=h;exact frozen_of_row _ _ _ _ _ h1
theorem RowS.stay (h:RowS R w b ls) (hb:w'.heap[b]?=w.heap[b]?) (hR:∀ k,R k->w'.heap[k]?=w.heap[k]?) (hz:w.heap.size<=w'.heap.size) (hRR:∀ k,R k->R' k):RowS R' w' b ls:=by
 obtain⟨cs,h1,h2,h3⟩:=h
 refine⟨cs,hb.trans h1,h2,fun i x hx=>?_⟩
 obtain⟨v,h4,h5⟩:=h3 i x hx
 exact⟨v,h4,h5.stay hR hz hRR⟩
theorem RowS.set (h:RowS R w b ls) (hb:¬ R b) (hi:i < ls.length) (hv:IsS R w v x):RowS R (w.setCell (b i) v) b (ls.set i x):=by
 obtain⟨cs,h1,h2,h3⟩:=h
 have hs:∀ k,R k->(w.setCell (b i) v).heap[k]?=w.heap[k]?:=fun k hk=>heap_setCell_other _ _ _ _ (by rintro rfl;exact hb hk)
 refine⟨cs.setIfInBounds i v,by rw [heap_setCell_same _ _ _ _ _ _ h1],by simpa using h2,fun j y hy=>?_⟩
 by_cases e:j=i
 ·subst e
  rw [List.getElem?_set_self hi] at hy
  cases hy
  exact⟨v,by rw [Array.getElem?_setIfInBounds_self_of_lt (by omega)],hv.stay hs (by simp) (fun _ h=>h)⟩
 ·rw [List.getElem?_set_ne (fun e2=>e e2.symm)] at hy
  obtain⟨u,h4,h5⟩:=h3 j y hy
  exact⟨u,by rw [Array.getElem?_setIfInBounds_ne (fun e2=>e e2.symm)];exact h4,h5.stay hs (by simp) (fun _ h=>h)⟩
structure RD (F:Nat->Prop) (w:World) (g sb cb sc:Nat) (fa:Option Addr) (fn fc:Nat) (d:Disk.Dk):Prop where
 ok:d.Ok
 box:w.heap[g]?=some (.cells #[.slice sb d.st.length sc,.slice cb d.st.length d.st.length,.slice fa fn fc,d.cnt,.bool d.off] 128 (0,0))
 sto:RowS (Rw F g sb cb) w sb (d.st.map some)
 cac:RowS (Rw F g sb cb) w cb d.ca
 flt:SlP w fa fn fc d.fs
 fltF:∀ x,fa=some x->d.fs ≠ []->Rw F g sb cb x.block
 lt:∀ k,F k->k < w.heap.size
 Fg:F g
 Fs:F sb
 Fc:F cb
 gs:g ≠ sb
 gc:g ≠ cb
 sc':sb ≠ cb
 cap:d.st.length<=sc
section
variable {F:Nat->Prop} {w w':World} {g sb cb sc:Nat} {fa:Option Addr} {fn fc:Nat} {d:Disk.Dk}
theorem RD.cells (h:RD F w g sb cb sc fa fn fc d):w.cell? g=some (.slice sb d.st.length sc)/\w.cell? (g 1)=some (.slice cb d.st.length d.st.length)/\w.cell? (g 2)=some (.slice fa fn fc)/\w.cell? (g 3)=some (d.cnt:Value)/\w.cell? (g 4)=some (.bool d.off):=by
 refine⟨?_,?_,?_,?_,?_⟩ <;> rw [cell_of_row _ _ _ _ _ _ h.box] <;> rfl
theorem RD.free (h:RD F w g sb cb sc fa fn fc d) (k:Nat):w.frozen? (g k)=false:=frozen_of_row _ _ _ _ _ h.box
theorem RD.stay (h:RD F w g sb cb sc fa fn fc d) (k:∀ b,F b->w'.heap[b]?=w.heap[b]?) (hz:w.heap.size<=w'.heap.size):RD F w' g sb cb sc fa fn fc d :=
 ⟨h.ok,(k g h.Fg).trans h.box,h.sto.stay (k sb h.Fs) (fun b hb=>k b hb.1) hz (fun _ e=>e),h.cac.stay (k cb h.Fc) (fun b hb=>k b hb.1) hz (fun _ e=>e),h.flt.stay (fun x hx hl=>k _ (h.fltF x hx hl).1) hz,h.fltF,fun b hb=>Nat.lt_of_lt_of_le (h.lt b hb) hz,h.Fg,h.Fs,h.Fc,h.gs,h.gc,h.sc',h.cap⟩
theorem RD.ext (h:RD F w g sb cb sc fa fn fc d) (e:Below w.heap.size w w'):RD F w' g sb cb sc fa fn fc d:=h.stay (fun b hb=>e.block b (h.lt b hb)) e.size
theorem RD.drewN (h:RD F w g sb cb sc fa fn fc d) (n:Nat):RD F (w.drewN n) g sb cb sc fa fn fc d:=h.stay (fun _ _=>rfl) (zN _)
theorem RD.rebox (h:RD F w g sb cb sc fa fn fc d) (k:∀ b,b ≠ g->w'.heap[b]?=w.heap[b]?) (hz:w'.heap.size=w.heap.size) (d':Disk.Dk) (hst:d'.st=d.st) (hca:d'.ca=d.ca) (hfs:d'.fs=d.fs)
 (hb:w'.heap[g]?=some (.cells #[.slice sb d.st.length sc,.slice cb d.st.length d.st.length,.slice fa fn fc,d'.cnt,.bool d'.off] 128 (0,0))):RD F w' g sb cb sc fa fn fc d':=by
 obtain⟨st,ca,fs,cnt,off⟩:=d
 obtain⟨st',ca',fs',cnt',off'⟩:=d'
 simp only at hst hca hfs hb
 subst hst;subst hca;subst hfs
 exact⟨⟨h.ok.len,h.ok.pos,h.ok.max,h.ok.st64,h.ok.ca64⟩,hb,h.sto.stay (k sb (Ne.symm h.gs)) (fun b hb=>k b hb.2.1) (Nat.le_of_eq hz.symm) (fun _ e=>e),h.cac.stay (k cb (Ne.symm h.gc)) (fun b hb=>k b hb.2.1) (Nat.le_of_eq hz.symm) (fun _ e=>e),h.flt.stay (fun x hx hl=>k _ (h.fltF x hx hl).2.1) (Nat.le_of_eq hz.symm),h.fltF,fun b hb=>by rw [hz];exact h.lt b hb,h.Fg,h.Fs,h.Fc,h.gs,h.gc,h.sc',h.cap⟩
theorem RD.setCnt (h:RD F w g sb cb sc fa fn fc d) (z:Int):RD F (w.setCell (g 3) (z:Value)) g sb cb sc fa fn fc { d with cnt:=z } :=
 h.rebox (fun b hb=>heap_setCell_other _ _ _ _ hb) (by simp) _ rfl rfl rfl (by rw [heap_setCell_same _ _ _ _ _ _ h.box];rfl)
theorem RD.setOff (h:RD F w g sb cb sc fa fn fc d) (z:Bool):RD F (w.setCell (g 4) (.bool z)) g sb cb sc fa fn fc { d with off:=z } :=
 h.rebox (fun b hb=>heap_setCell_other _ _ _ _ hb) (by simp) _ rfl rfl rfl (by rw [heap_setCell_same _ _ _ _ _ _ h.box];rfl)
theorem zg_k (h:RD F w g sb cb sc fa fn fc d):Calls Tryz.prog 76 #[.pointer g] w fun e w'=>e=.returned (.int .i64 (d.st.length:Nat))/\w=w':=by
 have h0:=h.cells.1
 go_enter Tryz.func76,Tryz.ntmps76
 go_wp2
 go_ret
 exact⟨rfl,rfl⟩
theorem zp_p {l:List (Int × Int)} {c:Int} {k:Nat} (hk:k < l.length) {p:Int × Int} (hp:l[k]?.getD (0,0)=p):ffrom (l.drop k) c=if p.1 == c then p.2 else ffrom (l.drop (k+1)) c:=by
 cases h:(p.1 == c)
 ·rw [zg_e l c k hk (by rw [hp];exact h)];simp
 ·rw [zi_b l c k hk (by rw [hp];exact h),hp];simp
set_option maxRecDepth 100000 in
set_option maxHeartbeats 1000000 in
theorem zh_d (h:RD F w g sb cb sc fa fn fc d):Calls Tryz.prog 131 #[.pointer g] w fun e w'=>e=.returned (.int .i64 (Disk.fault d))/\RD F w' g sb cb sc fa fn fc (Disk.tick d)/\Upd F w F w':=by
 obtain⟨-,-,hc2,hc3,-⟩:=h.cells
 have hle:=h.flt.le
 have HLN:=zH h.flt.len
 have h0:ffrom (d.fs.drop 0) d.cnt=Disk.fault d:=rfl
 have H0:=zH h0
 generalize Disk.fault d=R at *
 clear h0
 go_enter Tryz.func131,Tryz.ntmps131
 go_wp2
 clear hc2 hc3
 go_loopw [3,4] (fun kd i wr=>∃ k:Nat,k<=fn/\i=.int .i64 ((k:Int) - 1)/\kd=.int .i64 (ffrom (d.fs.drop k) d.cnt)/\RD F wr g sb cb sc fa fn fc d/\Upd F w F wr) (fun _ i _=>(intOf i+1).toNat)
 case atStart=>exact⟨fn,zN _,by go_num,by rw [List.drop_of_length_le (by rw [HLN.out];exact zN _)];rfl,h,Upd.refl _ _⟩
 case round =>
  obtain⟨k,hk,rfl,rfl,hP,hU⟩:=hrel
  obtain⟨-,-,hc2,hc3,-⟩:=hP.cells
  have hf3:=hP.free 3
  by_cases hlt:0 < k
  ·obtain⟨j,rfl⟩:∃ j,k=j+1:=⟨k - 1,by omega⟩
   have ej:((j+1:Nat):Int) - 1=(j:Int):=by omega
   rw [ej]
   obtain⟨b,o,rfl,hb,q1,q2⟩:=hP.flt.at (show j < fn by omega)
   obtain⟨p,hp⟩:∃ p,d.fs[j]?.getD (0,0)=p:=⟨_,rfl⟩
   have hff:=zp_p (c:=d.cnt) (show j < d.fs.length by rw [HLN.out];omega) hp
   have HFF:=zH hff
   clear hff
   change _=some (Value.int IntKind.i64 (d.fs[j]?.getD (0,0)).1) at q1
   change _=some (Value.int IntKind.i64 (d.fs[j]?.getD (0,0)).2) at q2
   rw [hp] at q1 q2
   clear hp ej
   obtain⟨y1,y2⟩:=p
   simp only at q1 q2 HFF
   have b0:(0:Int)<=(j:Int):=by omega
   have b1:(j:Int) < (fn:Int):=by omega
   by_cases hy:y1=d.cnt
   case' pos=>have t1:(y1 == d.cnt)=true:=by simp [hy]
   case' neg=>have t1:(y1 == d.cnt)=false:=by simp [hy]
   all_goals
    rw [t1] at HFF
    clear hy
    go_wp2
    go_quiet (fail)
    go_wp2
    exact⟨⟨j,by omega,by go_num,by rw [HFF.out];rfl,hP.drewN _,hU.drewN _⟩,by simp [intOf]⟩
  ·obtain rfl:k=0:=by omega
   have HP:=zH (hP.setCnt (wrap64 (d.cnt+1)))
   have HU:=zH (hU.setCell (.inl hP.Fg) 3 (.int .i64 (wrap64 (d.cnt+1))))
   rw [H0.out]
   go_wp2
   go_ret
   exact⟨rfl,HP.out,HU.out⟩
end
end
section
open Go.RowKit
section
variable {F:Nat->Prop} {w w':World} {g sb cb sc:Nat} {fa:Option Addr} {fn fc:Nat} {d d':Disk.Dk}
theorem zm_b (h:RD F w g sb cb sc fa fn fc d) (i:Nat) (hi:i < d.st.length) (z:Int) (hz:z=(i:Int)) :
 Calls Tryz.prog 132 #[.pointer g,z] w fun e w'=>∃ b c,e=.returned (.slice (b:Nat) 64 c)/\Rw F g sb cb b/\SlB w b 64 c (Disk.content d i)/\w=w':=by
 subst hz
 obtain⟨q0,q1,-⟩:=h.cells
 have hmx:=h.ok.max
 have hst:(d.st.map some)[i]?=some (some d.st[i]):=by simp [hi]
 have hci:i < d.ca.length:=by rw [h.ok.len];exact hi
 obtain⟨v0,c0,s0⟩:=h.sto.cell hst
 obtain⟨b0,k0,rfl,r0,l0⟩:=s0
 obtain⟨v1,c1,s1⟩:=h.cac.cell (List.getElem?_eq_getElem hci)
 have hcon:Disk.content d i=(d.ca[i]).getD d.st[i]:=by unfold Disk.content;simp [hi,hci]
 rw [hcon]
 obtain⟨n,hn⟩:∃ n,n=d.st.length:=⟨_,rfl⟩
 rw [<-hn] at q0 q1 hi hmx
 have b0':(0:Int)<=(i:Int):=by omega
 have b1':(i:Int) < (n:Int):=by omega
 clear hst hcon
 generalize d.ca[i]=x at *
 generalize d.st[i]=y at *
 clear hci hn
 cases x with
|none =>
  have s1:v1=.slice none 0 0:=s1
  subst s1
  go_enter Tryz.func132,Tryz.ntmps132
  go_wp2
  go_ret
  exact⟨b0,k0,rfl,r0,l0,rfl⟩
|some x =>
  obtain⟨b1,k1,rfl,r1,l1⟩:=s1
  go_enter Tryz.func132,Tryz.ntmps132
  go_wp2
  go_ret
  exact⟨b1,k1,rfl,r1,l1,rfl⟩
def RReadPost (F:Nat->Prop) (w:World) (g sb cb sc:Nat) (fa:Option Addr) (fn fc:Nat) (r:List UInt8 × Int × Disk.Dk) (e:Ending) (w':World):Prop :=
 ∃ v,e=.returned (.tuple #[v,r.2.1])/\OwnB w.heap.size w' v r.1/\RD F w' g sb cb sc fa fn fc r.2.2/\Upd F w F w'
theorem zs_l (d:Disk.Dk) (i:Int):Disk.read d i=if d.off then ([],10,d) else if Disk.fits d i then (if Disk.fault d=1 then ([],9,Disk.tick d) else if Disk.fault d=2 then ([],10,Disk.cut (Disk.tick d)) else (Disk.content d i.toNat,0,Disk.tick d)) else ([],2,d):=by
 unfold Disk.read Disk.begin
 cases d.off
 ·cases Disk.fits d i
  ·rfl
  ·by_cases h1:Disk.fault d=1
   ·simp [h1]
   ·by_cases h2:Disk.fault d=2
    ·simp [h2]
    ·simp only [Bool.false_eq_true,if_false,if_true,if_neg h1,if_neg h2]
 ·rfl
set_option maxRecDepth 100000 in
set_option maxHeartbeats 2000000 in
theorem zs_k (h:RD F w g sb cb sc fa fn fc d) (i:Int) :
 Calls Tryz.prog 77 #[.pointer g,i] w (RReadPost F w g sb cb sc fa fn fc (Disk.read d i)):=by
 rw [zs_l]
 obtain⟨q0,-,-,-,q4⟩:=h.cells
 by_cases hoff:d.off=true
 ·rw [if_pos hoff]
  rw [hoff] at q4
  go_enter Tryz.func77,Tryz.ntmps77
  go_wp2
  go_ret2
  exact⟨_,rfl,OwnB.nil _ _,h,Upd.refl _ _⟩
 have hoff':d.off=false:=by simpa using hoff
 rw [if_neg hoff]
 rw [hoff'] at q4
 have hmx:=h.ok.max
 by_cases hfit:Disk.fits d i=true
 ·rw [if_pos hfit]
  unfold Disk.fits at hfit
  simp only [Bool.and_eq_true,decide_eq_true_eq] at hfit
  obtain⟨f1,f2⟩:=hfit
  obtain⟨j,rfl⟩:∃ j:Nat,i=(j:Int):=⟨i.toNat,by omega⟩
  have HF:=zH (zh_d h)
  obtain⟨R,hR⟩:∃ R,Disk.fault d=R:=⟨_,rfl⟩
  rw [hR] at HF ⊢
  clear hR
  obtain⟨n,hn⟩:∃ n,n=d.st.length:=⟨_,rfl⟩
  rw [<-hn] at q0 f2 hmx
  have hjl:j < (Disk.tick d).st.length:=by
   show j < d.st.length
   omega
  have hjn:(j:Int) < (n:Int):=by omega
  clear hn
  by_cases h1:R=1
  ·subst h1
   rw [if_pos rfl]
   go_enter Tryz.func77,Tryz.ntmps77
   go_wp2_with (go_at_call 131;go_must (refine HF.out.mono ?_);rintro e w1 ⟨rfl,hP,hU⟩)
   go_ret2
   exact⟨_,rfl,OwnB.nil _ _,hP,hU⟩
  ·rw [if_neg h1]
   by_cases h2:R=2
   ·subst h2
    rw [if_pos rfl]
    clear h1
    go_enter Tryz.func77,Tryz.ntmps77
    go_wp2_with (go_at_call 131;go_must (refine HF.out.mono ?_);rintro e w1 ⟨rfl,hP,hU⟩;have y4:=hP.cells.2.2.2.2;have f4:=hP.free 4)
    go_ret2
    exact⟨_,rfl,OwnB.nil _ _,hP.setOff true,hU.setCell (.inl hP.Fg) _ _⟩
   ·rw [if_neg h2]
    have t1:(R == 1)=false:=by simp [h1]
    have t2:(R == 2)=false:=by simp [h2]
    have hcon:Disk.content d (Int.toNat j)=Disk.content (Disk.tick d) j:=rfl
    rw [hcon]
    have hcl:=Disk.content64 h.ok.tick j hjl
    obtain⟨x,hx⟩:∃ x,Disk.content (Disk.tick d) j=x:=⟨_,rfl⟩
    have HX:=zH hx
    rw [hx] at hcl ⊢
    have HCL:=zH hcl
    clear h1 h2 hcon hx hcl
    go_enter Tryz.func77,Tryz.ntmps77
    go_wp2_with (first
    |(go_at_call 131;go_must (refine HF.out.mono ?_);rintro e w1 ⟨rfl,hP,hU⟩)
    |(go_at_call 132;go_must (refine (zm_b (hP.ext ((Below.refl _ _).alloc (zN _) _)) j hjl _ rfl).mono ?_);rintro e w2 ⟨b2,c2,rfl,hr2,hs2,rfl⟩;rw [HX.out] at hs2)
    |(at_builtin;refine za_d rfl _ _ rfl w1.heap.size _ [] rfl (OwnB.empty w1 (zN _)) _ 64 c2 x rfl hs2 (by simp) (by simp) ?_;intro v w3 hown hg _))
    go_ret2
    have hB:Below w1.heap.size w1 w3:=((Below.refl _ _).alloc (zN _) _).grown hg (by simp) (fun k hk=>by cases hk;exact zN _)
    exact⟨_,rfl,(by simpa using hown:OwnB w1.heap.size w3 v x).mono hU.size,hP.ext hB,hU.ext hB⟩
 ·rw [if_neg hfit]
  obtain⟨n,hn⟩:∃ n,n=d.st.length:=⟨_,rfl⟩
  rw [<-hn] at q0
  unfold Disk.fits at hfit
  rw [<-hn] at hfit
  simp only [Bool.and_eq_true,decide_eq_true_eq] at hfit
  clear hn
  by_cases hneg:i < 0
  case' neg=>have hge:(n:Int)<=i:=by omega
  all_goals
   clear hfit
   go_enter Tryz.func77,Tryz.ntmps77
   go_wp2
   go_ret2
   exact⟨_,rfl,OwnB.nil _ _,h,Upd.refl _ _⟩
end
end
end Go.Proofs.YtmanejniepghlaaGreatDoor
