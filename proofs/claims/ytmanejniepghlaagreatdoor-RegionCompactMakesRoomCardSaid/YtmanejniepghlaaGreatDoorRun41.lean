import Derived.Test.YtmanejniepghlaaGreatDoorRun40
import Derived.Test.YtmanejniepghlaaGreatDoorRun32
import Derived.ProofKit
import Derived.OpenShut
import Derived.ShutString
import Derived.ChangeOld
import Derived.Deep.Slices
import Derived.Test.YtmanejniepghlaaGreatDoorRun0
namespace Go.Proofs.YtmanejniepghlaaGreatDoor
section
open Go.RowKit
open Disk (Dk)
variable {F0:Nat->Prop} {W:World} {bl k:Nat} {S:Reg.St} {b:List UInt8} {d:Dk}
theorem enters6:Enters 65:=fun _ _=>by kernel_rfl
theorem enters7:Enters 67:=fun _ _=>by kernel_rfl
theorem Upd.side {F1:Nat->Prop} {w:World} (u:Upd (P1 F0 bl) W (P1 F1 bl) w) (h1:¬ F0 k) (h2:k ≠ bl) (h3:k < W.heap.size):w.heap[k]?=W.heap[k]?/\¬ F1 k :=
 ⟨u.block k h3 (fun e=>e.elim h1 h2),fun e=>by
  rcases u.new k (.inl e) with e|e
  ·exact e.elim h1 h2
  ·omega⟩
def Reg.comp4 (S:Reg.St) (b:List UInt8) (L:Wal.L) (r:Int × Dk):Int × Reg.St × Dk :=
 if r.1 ≠ 0 then (r.1,{ S with fl:=true },r.2) else (0,{ S with slot:=1 - S.slot,sup:=Reg.next S b,log:=L },r.2)
theorem Reg.compact3_ok {L:Wal.L} {ps:List (List UInt8)}:Reg.compact3 S b (some L,ps,0,d)=Reg.comp4 S b L (Reg.run [fun d=>Disk.write d ((1 - S.slot:Nat):Int) (Super.enc (Reg.next S b)),Disk.sync] d):=by
 unfold Reg.compact3 Reg.comp4
 rw [if_neg (by simp)]
 rfl
def CPhi (g bl:Nat) (S:Reg.St) (b:List UInt8) (r:Nat) (F0:Nat->Prop) (W:World) (T:Int × Reg.St × Dk) (i:Nat) (w:World):Prop :=
 ∃ d1 F1 lv,DP g d1 F1 w/\Upd (P1 F0 bl) W (P1 F1 bl) w/\¬ F1 bl/\Bx w bl 106 lv/\d1.st.length<=1000 ∧
  ((i<=3/\Reg.compact2 S b (Reg.run ((Reg.prep S.lay r b).drop i) d1)=T) ∨
   (4<=i/\∃ L p,lv=.pointer (some ⟨p,0,none⟩)/\LB w p g L/\¬ F1 p/\W.heap.size<=p/\Reg.comp4 S b L (Reg.run ([fun d=>Disk.write d ((1 - S.slot:Nat):Int) (Super.enc (Reg.next S b)),Disk.sync].drop (i - 4)) d1)=T))
def CPost (g bl:Nat) (S:Reg.St) (b:List UInt8) (F0:Nat->Prop) (W:World) (T:Int × Reg.St × Dk) (y:Int) (w:World):Prop :=
 y=T.1/\∃ F1 lv,DP g T.2.2 F1 w/\Upd (P1 F0 bl) W (P1 F1 bl) w/\¬ F1 bl/\Bx w bl 106 lv ∧
  ((T.1 ≠ 0/\T.2.1={ S with fl:=true })\/(T.1=0/\∃ L p,lv=.pointer (some ⟨p,0,none⟩)/\LB w p g L/\¬ F1 p/\W.heap.size<=p/\T.2.1={ S with slot:=1 - S.slot,sup:=Reg.next S b,log:=L }))
theorem zo_w {g q p N bs bn bu br B r n:Nat} {a:Option Addr} {m K:Nat} {t:TypeId} {T:Int × Reg.St × Dk} (hok:Reg.Ok n S) (hB:∀ k,F0 k->k < B) (hn:d.st.length<=1000)
 (h1:B<=bs) (h2:B<=bn) (h3:B<=bl) (h4:B<=bu) (h5:B<=br) (h6:B<=N) (h7:B<=K) (h8:∀ y,a=some y->B<=y.block) (e1:bs ≠ bl) (e2:bn ≠ bl) (e4:bu ≠ bl) (e5:br ≠ bl) (e6:∀ i,i < 4->N+i ≠ bl) (e7:K ≠ bl) (e8:∀ y,a=some y->y.block ≠ bl) (e9:q ≠ bl)
 (row:W.heap[br]?=some (.cells #[prep1 N,prep2 N,syncv g,.func (.func 65) #[] #[.pointer (some ⟨bs,0,none⟩),.pointer (some ⟨bn,0,none⟩),.pointer (some ⟨bl,0,none⟩)],.func (.func 67) #[] #[.pointer (some ⟨bs,0,none⟩),.pointer (some ⟨bu,0,none⟩)],syncv g] t (0,0)))
 (hp:PB W N g S.lay r (.slice a m k)) (hxs:Bx W bs 41 (.pointer (some ⟨q,0,none⟩))) (hq:SB W q g p S) (hqF:¬ F0 q) (hxn:SupBox W bn (Reg.next S b)) (hxl:Bx W bl 106 (.pointer none)) (hu:Bx W bu 70 (.slice (some ⟨K,0,none⟩) 64 64))
 (hs:SlB W a m k b) (hK:SlB W (some ⟨K,0,none⟩) 64 64 (Super.enc (Reg.next S b))) (hd:DP g d F0 W) (hr2:r < 2) (hact:(Reg.next S b).act=(r:Int)) (hep:(Reg.next S b).epoch < 4294967296)
 (hT:Reg.compact2 S b (Reg.run (Reg.prep S.lay r b) d)=T) :
 Calls Tryz.prog 50 #[.slice (some ⟨br,0,none⟩) 6 6] W fun e w'=>∃ y:Int,e=.returned (.int .i64 y)/\CPost g bl S b F0 W T y w':=by
 have nF:∀ x,B<=x->¬ F0 x:=fun x hx e=>by have:=hB x e;omega
 have hbr:br < W.heap.size:=za_a row
 obtain⟨i1,i3,i2,i4,mm,hm,hsz,hsz2⟩:=zn_h hok.fit r hr2
 rw [<-hok.lay] at i1 i2 i3 i4 hsz hsz2
 refine zr_k 6 (by omega) br (fun i=>(#[prep1 N,prep2 N,syncv g,.func (.func 65) #[] #[.pointer (some ⟨bs,0,none⟩),.pointer (some ⟨bn,0,none⟩),.pointer (some ⟨bl,0,none⟩)],.func (.func 67) #[] #[.pointer (some ⟨bs,0,none⟩),.pointer (some ⟨bu,0,none⟩)],syncv g]:Array Value)[i]?.getD undef) (CPhi g bl S b r F0 W T) (CPost g bl S b F0 W T) ?_ ?_ ?_ W ⟨d,F0,_,hd,Upd.refl _ _,nF _ h3,hxl,hn,.inl ⟨by omega,hT⟩⟩
 ·rintro i w hi ⟨d1,F1,lv,-,u,-⟩
  refine⟨Nat.lt_of_lt_of_le hbr u.size,?_⟩
  have hb:=(u.side (nF _ h5) e5 hbr).1.trans row
  rw [cell_of_row _ _ _ _ _ _ hb,Array.getElem?_eq_getElem (by simpa using hi)]
  rfl
 ·rintro i w hi ⟨d1,F1,lv,hd1,u,nbl,hl1,hn1,hcase⟩
  have hlt1:=hl1.lt
  have step:∀ (f:Dk->Int × Dk) (fs:List (Dk->Int × Dk)),i<=2->(Reg.prep S.lay r b).drop i=f :: fs->fs=(Reg.prep S.lay r b).drop (i+1)->Reg.compact2 S b (Reg.run ((Reg.prep S.lay r b).drop i) d1)=T->(f d1).2.st.length=d1.st.length->∀ (e:Ending) (w':World),(e=.returned (.int .i64 (f d1).1)/\∃ F2,DP g (f d1).2 F2 w'/\Upd F1 w F2 w') →
   ∃ z:Int,e=.returned (.int .i64 z)/\((z=0/\CPhi g bl S b r F0 W T (i+1) w')\/(z ≠ 0/\CPost g bl S b F0 W T z w')):=by
   rintro f fs hi2 hf hfs hrun hlen e w' ⟨rfl,F2,h1,h2⟩
   refine⟨_,rfl,?_⟩
   have u2:=u.trans (h2.beside bl)
   have n2:¬ F2 bl:=fun e=>by
    rcases h2.new _ e with e|e
    ·exact nbl e
    ·omega
   have hl2:=hl1.same (h2.block _ hlt1 nbl)
   rcases hfd:f d1 with⟨y,d2⟩
   rw [hfd] at h1 hlen
   rw [hf] at hrun
   by_cases hy:y=0
   ·subst hy
    rw [Reg.run_ok hfd,hfs] at hrun
    exact .inl ⟨rfl,d2,F2,lv,h1,u2,n2,hl2,by dsimp only at hlen;omega,.inl ⟨by omega,hrun⟩⟩
   ·rw [Reg.run_er hfd hy] at hrun
    have hT2:T=(y,{ S with fl:=true },d2):=by rw [<-hrun];exact if_pos hy
    subst hT2
    exact .inr ⟨hy,rfl,F2,lv,h1,u2,n2,hl2,.inl ⟨hy,rfl⟩⟩
  have stepL:∀ (f:Dk->Int × Dk) (fs:List (Dk->Int × Dk)) (L:Wal.L) (p':Nat),4<=i->lv=.pointer (some ⟨p',0,none⟩)->LB w p' g L->¬ F1 p'->W.heap.size<=p' →
   ([fun d=>Disk.write d ((1 - S.slot:Nat):Int) (Super.enc (Reg.next S b)),Disk.sync]:List (Dk->Int × Dk)).drop (i - 4)=f :: fs->fs=([fun d=>Disk.write d ((1 - S.slot:Nat):Int) (Super.enc (Reg.next S b)),Disk.sync]:List (Dk->Int × Dk)).drop (i+1 - 4) →
   Reg.comp4 S b L (Reg.run (([fun d=>Disk.write d ((1 - S.slot:Nat):Int) (Super.enc (Reg.next S b)),Disk.sync]:List (Dk->Int × Dk)).drop (i - 4)) d1)=T->(f d1).2.st.length=d1.st.length->∀ (e:Ending) (w':World),(e=.returned (.int .i64 (f d1).1)/\∃ F2,DP g (f d1).2 F2 w'/\Upd F1 w F2 w') →
   ∃ z:Int,e=.returned (.int .i64 z)/\((z=0/\CPhi g bl S b r F0 W T (i+1) w')\/(z ≠ 0/\CPost g bl S b F0 W T z w')):=by
   rintro f fs L p' hi4 hlv hL hp' hWp hf hfs hrun hlen e w' ⟨rfl,F2,h1,h2⟩
   refine⟨_,rfl,?_⟩
   have u2:=u.trans (h2.beside bl)
   have n2:¬ F2 bl:=fun e=>by
    rcases h2.new _ e with e|e
    ·exact nbl e
    ·omega
   have hl2:=hl1.same (h2.block _ hlt1 nbl)
   have hL2:=hL.same (h2.block _ hL.lt hp')
   have hp2:¬ F2 p':=fun e=>by
    rcases h2.new _ e with e|e
    ·exact hp' e
    ·have:=hL.lt;omega
   rcases hfd:f d1 with⟨y,d2⟩
   rw [hfd] at h1 hlen
   rw [hf] at hrun
   by_cases hy:y=0
   ·subst hy
    rw [Reg.run_ok hfd,hfs] at hrun
    exact .inl ⟨rfl,d2,F2,lv,h1,u2,n2,hl2,by dsimp only at hlen;omega,.inr ⟨by omega,L,p',hlv,hL2,hp2,hWp,hrun⟩⟩
   ·rw [Reg.run_er hfd hy] at hrun
    have hT2:T=(y,{ S with fl:=true },d2):=by rw [<-hrun];exact if_pos hy
    subst hT2
    exact .inr ⟨hy,rfl,F2,lv,h1,u2,n2,hl2,.inl ⟨hy,rfl⟩⟩
  have kp:∀ x,B<=x->x ≠ bl->x < W.heap.size->w.heap[x]?=W.heap[x]?/\¬ F1 x:=fun x hx hne hlt=>u.side (nF x hx) hne hlt
  match i,hi,hcase with
 |0,_,hcase =>
   rcases hcase with⟨-,hrun⟩|⟨h,-⟩
   ·refine⟨_,_,_,rfl,enters1,?_⟩
    have s1:SlB w a m k b:=hs.stay (fun y hy hx=>(kp _ (h8 y hy) (e8 y hy) (by subst hy;exact hs.blt hx)).1) u.size
    refine (zk_o hr2 (hp.stay fun j hj=>(kp _ (by omega) (e6 j hj) (by have:=hp.lt;omega)).1) hd1 s1 (fun y hy hx=>(kp _ (h8 y hy) (e8 y hy) (by subst hy;exact hs.blt hx)).2) i1 i2 rfl).mono fun e w' he=>?_
    exact step _ _ (by omega) rfl rfl hrun (Extent.write_st _ _ _ _ _) e w' he
   ·omega
 |1,_,hcase =>
   rcases hcase with⟨-,hrun⟩|⟨h,-⟩
   ·refine⟨_,_,_,rfl,enters2,?_⟩
    refine (zl_d hr2 (hp.stay fun j hj=>(kp _ (by omega) (e6 j hj) (by have:=hp.lt;omega)).1) hd1 (fun j hj=>(kp _ (by omega) (e6 j hj) (by have:=hp.lt;omega)).2) i3 i4 hm hsz rfl).mono fun e w' he=>?_
    have st:=step (fun d=>Extent.write d (S.lay.lf r) S.lay.lc 0 (List.replicate mm 0)) [Disk.sync] (by omega) (by rw [<-hsz2];rfl) rfl hrun (Extent.write_st _ _ _ _ _) e w'
    exact st he
   ·omega
 |2,_,hcase =>
   rcases hcase with⟨-,hrun⟩|⟨h,-⟩
   ·refine⟨_,_,_,rfl,enters3,(hd1.sync rfl).mono fun e w' he=>?_⟩
    exact step Disk.sync [] (by omega) rfl rfl hrun (Disk.sync_len _) e w' ⟨he.1,_,he.2⟩
   ·omega
 |3,_,hcase =>
   rcases hcase with⟨-,hrun⟩|⟨h,-⟩
   ·rw [show (Reg.prep S.lay r b).drop 3=[] from rfl,Reg.run_nil] at hrun
    unfold Reg.compact2 at hrun
    rw [if_neg (by simp)] at hrun
    dsimp only at hrun
    have ea:(1 - S.sup.act).toNat=r:=by
     have:(1 - S.sup.act)=(r:Int):=hact
     omega
    rw [ea] at hrun
    rcases hwo:Wal.open d1 (S.lay.lf r) S.lay.lc (Reg.next S b).epoch with⟨lo,ps,z3,d3⟩
    have hwo2:Wal.open d1 (S.lay.lf r) S.lay.lc ((S.sup.epoch+1) % 4294967296)=(lo,ps,z3,d3):=hwo
    rw [hwo2] at hrun
    refine⟨_,_,_,rfl,enters6,?_⟩
    refine (zj_s hr2 hact (hxs.same (kp _ h1 e1 hxs.lt).1) (hq.same (u.side hqF e9 hq.lt).1) (show SupBox w bn (Reg.next S b) from (kp _ h2 e2 (za_a hxn)).1.trans hxn) hl1 hd1 nbl (kp _ h1 e1 hxs.lt).2 (kp _ h2 e2 (za_a hxn)).2 (u.side hqF e9 hq.lt).2 (Ne.symm e1) (Ne.symm e2) (Ne.symm e9) i3 i4 hep hn1 hwo).mono ?_
    rintro e w' ⟨rfl,pv,w1,F2,rfl,g1,g2,g3⟩
    refine⟨_,rfl,?_⟩
    have n2:¬ F2 bl:=fun e=>by
     rcases g2.new _ e with e|e
     ·exact nbl e
     ·omega
    have hl2:Bx (w1.setCell ⟨bl,0,none⟩ pv) bl 106 pv:=heap_setCell_same _ _ _ _ _ _ (hl1.same (g2.block _ hlt1 nbl))
    have u2:=(u.trans (g2.beside bl)).setCell (g:=bl) (.inl (.inr rfl)) 0 pv
    have n3:d3.st.length<=1000:=by have:=Wal.open_st d1 (S.lay.lf r) S.lay.lc (Reg.next S b).epoch;rw [hwo] at this;dsimp only at this;omega
    by_cases hz3:z3=0
    ·subst hz3
     obtain⟨L,hL⟩:=Wal.open_some (d:=d1) (f:=S.lay.lf r) (c:=S.lay.lc) (ep:=(Reg.next S b).epoch) (by rw [hwo])
     rw [hwo] at hL
     dsimp only at hL
     subst hL
     rw [Reg.compact3_ok] at hrun
     rcases g3 with⟨h,-⟩|⟨L',p',hL',hpv,hpw,hLB,hpF⟩
     ·cases h
     ·cases hL'
      refine .inl ⟨rfl,d3,F2,pv,g1.set n2 _ _,u2,n2,hl2,n3,.inr ⟨by omega,L,p',hpv,hLB.same (heap_setCell_other _ _ _ _ (by rintro rfl;omega)),hpF,Nat.le_trans u.size hpw,hrun⟩⟩
    ·have hT2:T=(z3,{ S with fl:=true },d3):=by rw [<-hrun];exact if_pos hz3
     subst hT2
     exact .inr ⟨hz3,rfl,F2,pv,g1.set n2 _ _,u2,n2,hl2,.inl ⟨hz3,rfl⟩⟩
   ·omega
 |4,_,hcase =>
   rcases hcase with⟨h,-⟩|⟨-,L,p',hlv,hL,hp',hWp,hrun⟩
   ·omega
   ·refine⟨_,_,_,rfl,enters7,?_⟩
    have s1:SlB w (some ⟨K,0,none⟩) 64 64 (Super.enc (Reg.next S b)):=hK.stay (fun y hy hx=>by cases hy;exact (kp _ h7 e7 (hK.blt hx)).1) u.size
    refine (zj_e (hxs.same (kp _ h1 e1 hxs.lt).1) (hq.same (u.side hqF e9 hq.lt).1) (hu.same (kp _ h4 e4 hu.lt).1) hd1 hok.slot s1 (fun y hy hx=>by cases hy;exact (kp _ h7 e7 (hK.blt hx)).2) rfl).mono fun e w' he=>?_
    exact stepL _ _ L p' (by omega) hlv hL hp' hWp rfl rfl hrun (congrArg List.length (Disk.write_st _ _ _)) e w' he
 |5,_,hcase =>
   rcases hcase with⟨h,-⟩|⟨-,L,p',hlv,hL,hp',hWp,hrun⟩
   ·omega
   ·refine⟨_,_,_,rfl,enters3,(hd1.sync rfl).mono fun e w' he=>?_⟩
    exact stepL Disk.sync [] L p' (by omega) hlv hL hp' hWp rfl rfl hrun (Disk.sync_len _) e w' ⟨he.1,_,he.2⟩
 |i+6,hi,_=>omega
 ·rintro w ⟨d1,F1,lv,hd1,u,nbl,hl1,hn1,hcase⟩
  rcases hcase with⟨h,-⟩|⟨-,L,p',hlv,hL,hp',hW,hrun⟩
  ·omega
  ·have:([fun d=>Disk.write d ((1 - S.slot:Nat):Int) (Super.enc (Reg.next S b)),Disk.sync]:List (Dk->Int × Dk)).drop (6 - 4)=[]:=rfl
   rw [this,Reg.run_nil] at hrun
   unfold Reg.comp4 at hrun
   rw [if_neg (by simp)] at hrun
   subst hrun
   exact⟨rfl,F1,lv,hd1,u,nbl,hl1,.inr ⟨rfl,L,p',hlv,hL,hp',hW,rfl⟩⟩
end
section
open Go.RowKit
section
open Go.ChangeShapes Go.WideShapes Go.ChangeAt
variable {H:Type} {enc:TypeId × Value->H} {P:Program} {w:World} {base:Nat} {spare:Nat->Bool} {held:Bool}
theorem fieldPI {fs:Array Field} {xs:List (DataW H × List MemPlace)} {cs:List Value} {n:Nat} (hg:∀ (i:Nat) (f:Field),fs[i]?=some f->DataW.trod enc P w base spare held n f.type ((cs.drop f.offset).take (P.cellsOf f.type))=xs[i]?)
 (hl:xs.length=fs.size) (i:Nat) (f:Field) (hf:fs[i]?=some f) (k:IntKind) (hu:P.underlying f.type=some (.int k)) (o:Nat) (ho:f.offset=o) (hk:P.cellsOf f.type=1):∃ m,cs[o]?=some (.int k m)/\(Lit.int k m).wf=true:=by
 have hi:i < fs.size:=(Array.getElem?_eq_some_iff.1 hf).1
 have h:=hg i f hf
 rw [List.getElem?_eq_getElem (by omega)] at h
 obtain⟨m,h1,_,h3⟩:=DataW.trod_int hu h
 rw [ho,hk] at h1
 refine⟨m,?_,h3⟩
 have:=congrArg (fun l:List Value=>l[0]?) h1
 simpa using this
end
end
section
open Go.RowKit
instance:Inhabited Pin:=⟨Pin.none⟩
section
open Go.ChangeShapes Go.WideShapes Go.ChangeAt
variable {H:Type} {enc:TypeId × Value->H} {P:Program} {w:World} {base:Nat} {spare:Nat->Bool} {held:Bool}
end
section
open Go.ChangeShapes Go.WideShapes Go.ChangeAt
variable {H:Type} {enc:TypeId × Value->H} {w:World} {base:Nat} {held:Bool}
end
end
section
open Go.RowKit
variable {qs:List Value}
section
open Go.ChangeShapes Go.WideShapes Go.ChangeAt
variable {H:Type} {enc:TypeId × Value->H} {P:Program} {w:World} {base:Nat} {spare:Nat->Bool} {held:Bool}
theorem zc_r {e:TypeId} {fs:Array Field} {n:Nat} {x:DataW H × List MemPlace} (he:P.underlying e=some (.struct fs)) (h:DataW.trod enc P w base spare held n e qs=some x)
 (j:Nat) (f:Field) (hf:fs[j]?=some f) (o:Nat) (ho:f.offset=o) (hol:o < qs.length) (hk:P.cellsOf f.type=1):∃ (v:Value) (m:Nat) (y:DataW H × List MemPlace),qs[o]?=some v/\DataW.trod enc P w base spare held m f.type [v]=some y:=by
 obtain⟨xs,m,_,_,_,hxl,hg⟩:=DataW.trod_struct he h
 have hj:j < fs.size:=(Array.getElem?_eq_some_iff.1 hf).1
 have h1:=hg j f hf
 rw [ho,hk,List.getElem?_eq_getElem (by omega)] at h1
 have h2:(qs.drop o).take 1=[qs[o]]:=by rw [List.drop_eq_getElem_cons hol];rfl
 rw [h2] at h1
 exact⟨qs[o],m,_,List.getElem?_eq_getElem hol,h1⟩
end
section
open Go.ChangeShapes Go.WideShapes Go.ChangeAt
variable {H:Type} {enc:TypeId × Value->H} {w:World} {base:Nat} {held:Bool}
theorem zc_s {fuel:Nat} {x:DataW H × List MemPlace} (hl:qs.length=3) (h:DataW.trod enc Tryz.prog w base (fun _=>true) held fuel 34 qs=some x):∃ q:Pin,qs[0]?=some (.string (str q.h))/\qs[1]?=some (.bool q.s)/\qs[2]?=some (.int .i64 q.x):=by
 have he:=Tryz.underlying34
 obtain⟨v0,m0,y0,c0,t0⟩:=zc_r he h 0 _ rfl 0 rfl (by omega) (by kernel_rfl)
 obtain⟨v1,m1,y1,c1,t1⟩:=zc_r he h 1 _ rfl 1 rfl (by omega) (by kernel_rfl)
 obtain⟨v2,m2,y2,c2,t2⟩:=zc_r he h 2 _ rfl 2 rfl (by omega) (by kernel_rfl)
 obtain⟨s0,e0,-,-⟩:=DataW.trod_string Tryz.underlying9 t0
 obtain⟨s1,e1,-⟩:=DataW.trod_bool Tryz.underlying4 t1
 obtain⟨z2,e2,-,-⟩:=DataW.trod_int Tryz.underlying3 t2
 obtain rfl:v0=.string s0:=List.singleton_inj.1 e0
 obtain rfl:v1=.bool s1:=List.singleton_inj.1 e1
 obtain rfl:v2=.int .i64 z2:=List.singleton_inj.1 e2
 exact⟨⟨s0.data.toList,s1,z2⟩,by simpa [str] using c0,c1,c2⟩
end
end
section
open Go.RowKit
section
open Go.ChangeShapes Go.WideShapes Go.ChangeAt
variable {H:Type} {enc:TypeId × Value->H} {w:World} {base:Nat} {held:Bool}
set_option maxRecDepth 100000 in
theorem zp_s {r:Reach} {b0:Nat} {v:Value} {d:DataW H} {p:List MemPlace} (hv:Value.okWide Tryz.prog w r b0 36 v) (h:DataW.Trod enc Tryz.prog w base (fun _=>true) held 36 v d p) :
 ∃ u:UpdV,v=uv u:=by
 obtain⟨cs,rfl,hsz⟩:=okWide_struct Tryz.underlying36 hv
 obtain⟨fuel,hf⟩:=h
 obtain⟨xs,n,_,hx,hcl,hlen,hg⟩:=DataW.trod_struct Tryz.underlying36 hf
 have h2:cs.size=4:=hsz.trans (by kernel_rfl)
 obtain⟨l⟩:=cs
 match l,h2 with
|[c0,c1,c2,c3],_ =>
  obtain⟨m0,e0,-⟩:=fieldPI hg hlen 0 _ rfl .i64 (by kernel_rfl) 0 rfl (by kernel_rfl)
  have hj:1 < xs.length:=by rw [hlen];decide
  have h1:=hg 1 _ rfl
  rw [List.getElem?_eq_getElem hj] at h1
  obtain⟨q,q0,q1,q2⟩:=zc_s (by kernel_rfl) h1
  have f0:c0=.int .i64 m0:=Option.some.inj e0
  have f1:c1=.string (str q.h):=Option.some.inj q0
  have f2:c2=.bool q.s:=Option.some.inj q1
  have f3:c3=.int .i64 q.x:=Option.some.inj q2
  subst f0;subst f1;subst f2;subst f3
  exact⟨⟨m0,q⟩,rfl⟩
end
end
section
open Go.RowKit
variable {qs:List Value}
structure O33 where
 kind:Int
 up:UpdV
 ck:Int
 pins:List Pin
 fs:List (Int × Int)
 ks:List (Int × Int)
instance:Inhabited O33:=⟨⟨0,Upt.none,0,[],[],[]⟩⟩
section
open Go.ChangeShapes Go.WideShapes Go.ChangeAt
variable {H:Type} {enc:TypeId × Value->H} {P:Program} {w:World} {base:Nat} {spare:Nat->Bool} {held:Bool}
theorem zp_d {e:TypeId} {fs:Array Field} {n:Nat} {x:DataW H × List MemPlace} (he:P.underlying e=some (.struct fs)) (h:DataW.trod enc P w base spare held n e qs=some x)
 (j:Nat) (f:Field) (hf:fs[j]?=some f) (o K:Nat) (ho:f.offset=o) (hk:P.cellsOf f.type=K):∃ (m:Nat) (y:DataW H × List MemPlace),DataW.trod enc P w base spare held m f.type ((qs.drop o).take K)=some y:=by
 obtain⟨xs,m,_,_,_,hxl,hg⟩:=DataW.trod_struct he h
 have hj:j < fs.size:=(Array.getElem?_eq_some_iff.1 hf).1
 have h1:=hg j f hf
 rw [ho,hk,List.getElem?_eq_getElem (by omega)] at h1
 exact⟨m,_,h1⟩
end
section
open Go.ChangeShapes Go.WideShapes Go.ChangeAt
variable {H:Type} {enc:TypeId × Value->H} {w:World} {base:Nat} {held:Bool}
theorem zc_t {fuel:Nat} {x:DataW H × List MemPlace} (hl:qs.length=4) (h:DataW.trod enc Tryz.prog w base (fun _=>true) held fuel 36 qs=some x) :
 ∃ u:UpdV,qs[0]?=some (.int .i64 u.k)/\qs[1]?=some (.string (str u.p.h))/\qs[2]?=some (.bool u.p.s)/\qs[3]?=some (.int .i64 u.p.x):=by
 have he:=Tryz.underlying36
 obtain⟨v0,m0,y0,c0,t0⟩:=zc_r he h 0 _ rfl 0 rfl (by omega) (by kernel_rfl)
 obtain⟨z0,e0,-,-⟩:=DataW.trod_int Tryz.underlying3 t0
 obtain rfl:v0=.int .i64 z0:=List.singleton_inj.1 e0
 obtain⟨m1,y1,t1⟩:=zp_d he h 1 _ rfl 1 3 rfl (by kernel_rfl)
 obtain⟨q,q0,q1,q2⟩:=zc_s (by rw [List.length_take,List.length_drop];omega) t1
 rw [List.getElem?_take_of_lt (by omega),List.getElem?_drop] at q0 q1 q2
 exact⟨⟨z0,q⟩,c0,q0,q1,q2⟩
end
end
section
open Go.RowKit
variable {w w':World} {a:Option Addr} {c n:Nat} {l:List UpdV}
instance:Inhabited UpdV:=⟨Upt.none⟩
def IsUp (w:World) (b o:Nat) (u:UpdV):Prop:=w.cell? ⟨b,o,none⟩=some (.int .i64 u.k)/\PinAt w b (o+1) u.p
theorem IsUp.ext {b o:Nat} {u:UpdV} (h:IsUp w b o u) (hb:b < w.heap.size) (e:Below w.heap.size w w'):IsUp w' b o u :=
 ⟨(e.cell (p:=⟨b,o,none⟩) hb).trans h.1,h.2.stay (e.block b hb)⟩
def SlU (w:World) (a:Option Addr) (n c:Nat) (l:List UpdV):Prop :=
 l.length=n/\n<=c/\c<=maxLen/\(a=none->l=[]/\c=0) ∧
  ∀ x,a=some x->∀ i (h:i < l.length),x.spot=none/\x.block < w.heap.size/\IsUp w x.block (x.off+i * 4) l[i]
theorem SlU.len (h:SlU w a n c l):l.length=n:=h.1
theorem SlU.le (h:SlU w a n c l):n<=9223372036854775807:=by
 have:=h.2.1;have:=h.2.2.1;unfold maxLen at *;omega
theorem SlU.nil (w:World):SlU w none 0 0 []:=⟨rfl,zN _,by unfold maxLen;omega,fun _=>⟨rfl,rfl⟩,fun x hx=>by cases hx⟩
theorem SlU.at (h:SlU w a n c l) {k:Nat} (hk:k < n):∃ b o x,a=some ⟨b,o,none⟩/\b < w.heap.size/\l[k]?=some x/\IsUp w b (o+k * 4) x:=by
 obtain⟨hl,hn,hc,h0,h1⟩:=h
 cases a with
|none=>have:=(h0 rfl).1;subst this;simp at hl;omega
|some x =>
  obtain⟨b,o,sp⟩:=x
  have hk':k < l.length:=by omega
  obtain⟨hs,hb,hq⟩:=h1 _ rfl k hk'
  simp only at hs;subst hs
  exact⟨b,o,l[k],rfl,hb,List.getElem?_eq_getElem hk',hq⟩
theorem SlU.ext (h:SlU w a n c l) (e:Below w.heap.size w w'):SlU w' a n c l:=by
 obtain⟨hl,hn,hc,h0,h1⟩:=h
 refine⟨hl,hn,hc,h0,fun x hx i hi=>?_⟩
 obtain⟨hs,hb,hq⟩:=h1 x hx i hi
 exact⟨hs,Nat.lt_of_lt_of_le hb e.size,hq.ext hb e⟩
section
open Go.ChangeShapes Go.WideShapes Go.ChangeAt
variable {H:Type} {enc:TypeId × Value->H} {w:World} {base:Nat} {held:Bool}
set_option maxRecDepth 100000 in
theorem zq_k {fuel:Nat} {v:Value} {x:DataW H × List MemPlace} (h:DataW.trod enc Tryz.prog w base (fun _=>true) held fuel 32 [v]=some x):∃ a n c l,v=.slice a n c/\SlU w a n c l:=by
 rcases Go.Deep.open_slice Tryz.underlying32 h with⟨hcs,_⟩|⟨a,len,cap,m,n,D,Pl,hcs,hb,hl,hm,hmm,hx,hi⟩
 ·exact⟨none,0,0,[],List.singleton_inj.1 hcs,SlU.nil w⟩
 ·have hlm:len<=m:=by rw [hmm];split <;> omega
  have hC:Tryz.prog.cellsOf 36=4:=by kernel_rfl
  have hel:∀ i,i < len->∃ q:UpdV,∀ b o,a=⟨b,o,none⟩->IsUp w b (o+i * 4) q:=by
   intro i hil
   obtain⟨cs',hc,ht'⟩:=hi i (by omega)
   rw [hC] at hc
   obtain⟨_,hlen,hat⟩:=World.cells?_some hc
   obtain⟨u,q0,q1,q2,q3⟩:=zc_t hlen ht'
   refine⟨u,fun b o hab=>?_⟩
   subst hab
   have hadd:∀ (p:Nat) j,(⟨b,p,none⟩:Addr).add j=⟨b,p+j,none⟩:=by intro p j;unfold Addr.add;split <;> simp_all
   have k0:=hat 0 (by omega)
   have k1:=hat 1 (by omega)
   have k2:=hat 2 (by omega)
   have k3:=hat 3 (by omega)
   simp only [hadd] at k0 k1 k2 k3
   exact⟨k0.trans q0,k1.trans q1,k2.trans q2,k3.trans q3⟩
  obtain⟨p,hp⟩:=Go.Deep.choose_lt (α:=UpdV) (p:=fun i q=>∀ b o,a=⟨b,o,none⟩->IsUp w b (o+i * 4) q) hel
  have hspot:0 < len->a.spot=none:=by
   intro hil
   obtain⟨cs',hc,ht'⟩:=hi 0 (by omega)
   rw [hC] at hc
   obtain⟨_,hlen,hat⟩:=World.cells?_some hc
   obtain⟨u,q0,-⟩:=zc_t hlen ht'
   have h2:=World.cell?_spot ((hat 0 (by omega)).trans q0)
   revert h2
   obtain⟨b,o,sp⟩:=a
   unfold Addr.add;split <;> simp_all
  refine⟨some a,len,cap,(List.range len).map p,List.singleton_inj.1 hcs,by simp,hl,hm,(fun h=>by cases h),fun y hy i hil=>?_⟩
  cases hy
  simp at hil
  have hsp:=hspot (by omega)
  obtain⟨b,o,sp⟩:=a
  simp only at hsp;subst hsp
  have hq:=hp i hil b o rfl
  refine⟨rfl,World.block_lt_of_cell? w ⟨b,o+i * 4,none⟩ hq.1,?_⟩
  simpa using hq
end
end
end Go.Proofs.YtmanejniepghlaaGreatDoor
