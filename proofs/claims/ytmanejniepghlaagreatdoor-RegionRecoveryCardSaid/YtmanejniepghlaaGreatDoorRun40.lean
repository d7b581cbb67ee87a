import Derived.Test.YtmanejniepghlaaGreatDoorRun1
import Derived.Test.YtmanejniepghlaaGreatDoorRun39
import Derived.Test.YtmanejniepghlaaGreatDoorRun4
import Derived.LoopN
namespace Go.Proofs.YtmanejniepghlaaGreatDoor
section
namespace Reg
open Disk (Dk)
structure Lay where
 h:Nat
 s:Nat
 cap:Nat
def plan (n:Nat):Lay:=⟨(n - 2) / 2,(n - 2) / 2 / 2,min (((n - 2) / 2 / 2 * 64 - 8) / 262) 1000⟩
def fit (n:Nat):Bool:=decide (1<=n/\n<=4096/\1<=(plan n).cap/\5<=(plan n).h - (plan n).s)
def Lay.sf (l:Lay) (i:Nat):Int:=((2+i * l.h:Nat):Int)
def Lay.lf (l:Lay) (i:Nat):Int:=((2+i * l.h+l.s:Nat):Int)
def Lay.sc (l:Lay):Int:=(l.s:Int)
def Lay.lc (l:Lay):Int:=((l.h - l.s:Nat):Int)
structure St where
 lay:Lay
 slot:Nat
 sup:Super.S
 log:Wal.L
 fl:Bool
def run:List (Dk->Int × Dk)->Dk->Int × Dk
|[],d=>(0,d)
|f :: fs,d=>if (f d).1=0 then run fs (f d).2 else f d
def crc (b:List UInt8):Nat:=Crc.update 0 b
def prep (l:Lay) (i:Nat) (b:List UInt8):List (Dk->Int × Dk) :=
 [fun d=>Extent.write d (l.sf i) l.sc 0 b,fun d=>Extent.write d (l.lf i) l.lc 0 (List.replicate (Extent.size l.lc).toNat 0),Disk.sync]
def sup1:Super.S:=⟨1,0,1,2,crc [0,0]⟩
def format (d:Dk):Int × Dk :=
 if fit d.st.length=false then (2,d) else
  run (prep (plan d.st.length) 0 [0,0] ++ [fun d=>Disk.write d 0 (Super.enc sup1),fun d=>Disk.write d 1 (List.replicate 64 0),Disk.sync]) d
def replay (cap:Int) (c:Int):List Pin->List (List UInt8)->Option (List Pin)
|L,[]=>some L
|L,r :: rs=>if (Upt.dec r).2 ≠ 0 then none else if (Upt.apply c L (Upt.dec r).1 cap).2 ≠ 0 then none else replay cap c (Upt.apply c L (Upt.dec r).1 cap).1 rs
abbrev Res:=Option St × (Int × List Pin) × Int × Dk
def bad (z:Int) (d:Dk):Res:=(none,(0,[]),z,d)
def open5 (l:Lay) (slot:Nat) (sup:Super.S) (c:Int) (L:List Pin) (r:Option Wal.L × List (List UInt8) × Int × Dk):Res :=
 if r.2.2.1 ≠ 0 then bad r.2.2.1 r.2.2.2 else
  match replay l.cap c L r.2.1 with
 |none=>bad 13 r.2.2.2
 |some L'=>(some ⟨l,slot,sup,r.1.getD ⟨0,0,0,0,0,0,false⟩,false⟩,(c,L'),0,r.2.2.2)
def open4 (l:Lay) (slot:Nat) (sup:Super.S) (r:List UInt8 × Int × Dk):Res :=
 if r.2.1 ≠ 0 then bad r.2.1 r.2.2 else
  if crc r.1 ≠ sup.sum\/(Snap.dec r.1).2 ≠ 0\/l.cap < (Snap.dec r.1).1.2.length then bad 13 r.2.2 else
   open5 l slot sup (Snap.dec r.1).1.1 (Snap.dec r.1).1.2 (Wal.open r.2.2 (l.lf sup.act.toNat) l.lc sup.epoch)
def open3 (l:Lay) (a b:List UInt8) (d:Dk):Res :=
 if (Super.choose a b).2.2 ≠ 0 then bad 13 d else
  if Extent.size l.sc < (Super.choose a b).2.1.len then bad 13 d else
   open4 l (Super.choose a b).1.toNat (Super.choose a b).2.1 (Extent.read d (l.sf (Super.choose a b).2.1.act.toNat) l.sc 0 (Super.choose a b).2.1.len)
def open2 (l:Lay) (a:List UInt8) (r:List UInt8 × Int × Dk):Res:=if r.2.1 ≠ 0 then bad r.2.1 r.2.2 else open3 l a r.1 r.2.2
def open1 (l:Lay) (r:List UInt8 × Int × Dk):Res:=if r.2.1 ≠ 0 then bad r.2.1 r.2.2 else open2 l r.1 (Disk.read r.2.2 1)
def openS (d:Dk):Res:=if fit d.st.length=false then bad 2 d else open1 (plan d.st.length) (Disk.read d 0)
def append (S:St) (d:Dk) (u:UpdV):Int × St × Dk :=
 if S.fl then (12,S,d) else if Upt.valid u=false then (1,S,d) else
  match Wal.append S.log d (Upt.enc u) with
 |(z,L1,d1)=>if z=11 then (11,{ S with log:=L1 },d1) else if z ≠ 0 then (z,{ S with log:=L1,fl:=true },d1) else
   match Wal.sync L1 d1 with
  |(z2,L2,d2)=>(z2,{ S with log:=L2,fl:=decide (z2 ≠ 0) },d2)
def next (S:St) (b:List UInt8):Super.S:=⟨S.sup.gen+1,1 - S.sup.act,(S.sup.epoch+1) % 4294967296,b.length,crc b⟩
def compact3 (S:St) (b:List UInt8) (r:Option Wal.L × List (List UInt8) × Int × Dk):Int × St × Dk :=
 if r.2.2.1 ≠ 0 then (r.2.2.1,{ S with fl:=true },r.2.2.2) else
  match run [fun d=>Disk.write d ((1 - S.slot:Nat):Int) (Super.enc (next S b)),Disk.sync] r.2.2.2 with
 |(z,d')=>if z ≠ 0 then (z,{ S with fl:=true },d') else (0,{ S with slot:=1 - S.slot,sup:=next S b,log:=r.1.getD ⟨0,0,0,0,0,0,false⟩ },d')
def compact2 (S:St) (b:List UInt8) (r:Int × Dk):Int × St × Dk :=
 if r.1 ≠ 0 then (r.1,{ S with fl:=true },r.2) else compact3 S b (Wal.open r.2 (S.lay.lf (1 - S.sup.act).toNat) S.lay.lc ((S.sup.epoch+1) % 4294967296))
def compact (S:St) (d:Dk) (c:Int) (L:List Pin):Int × St × Dk :=
 if S.fl then (12,S,d) else if Upt.stValid c L=false\/S.lay.cap < L.length then (1,S,d) else if S.sup.gen=18446744073709551615 then (3,S,d) else
  compact2 S (Snap.enc c L) (run (prep S.lay (1 - S.sup.act).toNat (Snap.enc c L)) d)
end Reg
end
section
set_option maxRecDepth 100000
open Disk (Dk)
namespace Reg
def u33:UpdV:=⟨1,⟨[97,46,98],false,7⟩⟩
def p33:Pin:=⟨[97,46,98],false,7⟩
def go0 (R:Res):St:=R.1.getD ⟨⟨0,0,0⟩,0,⟨0,0,0,0,0⟩,⟨0,0,0,0,0,0,false⟩,false⟩
def a1:=format (Disk.new 60)
def a2:=openS a1.2
def a3:=append (go0 a2) a2.2.2.2 u33
def a4:=openS (Disk.restart a3.2.2 [])
def a5:=compact (go0 a4) a4.2.2.2 0 [p33]
theorem ck:(a1.1=0/\a2.1.isSome/\a2.2.1=(0,[])/\a2.2.2.1=0/\a3.1=0/\a4.1.isSome/\a4.2.1=(0,[p33])/\a4.2.2.1=0/\a5.1=0/\a5.2.1.sup.gen=2/\a1.2.st.length=60/\(Disk.restart a3.2.2 []).st.length=60/\a4.2.2.2.st.length=60):=by decide +kernel
theorem aw33:∃ d1 S1 d2 S2 d3 S3 d4 S4 d5,format (Disk.new 60)=(0,d1)/\openS d1=(some S1,(0,[]),0,d2)/\append S1 d2 u33=(0,S2,d3) ∧
 openS (Disk.restart d3 [])=(some S3,(0,[p33]),0,d4)/\compact S3 d4 0 [p33]=(0,S4,d5)/\S4.sup.gen=2/\d1.st.length=60/\(Disk.restart d3 []).st.length=60/\d4.st.length=60:=by
 have k:=ck
 rcases h1:a1 with⟨z1,d1⟩
 rcases h2:a2 with⟨s2,q2,z2,d2⟩
 rcases h3:a3 with⟨z3,S3,d3⟩
 rcases h4:a4 with⟨s4,q4,z4,d4⟩
 rcases h5:a5 with⟨z5,S5,d5⟩
 rw [h1,h2,h3,h4,h5] at k
 obtain⟨rfl,k2,rfl,rfl,rfl,k4,rfl,rfl,rfl,kg,l1,l3,l4⟩:=k
 obtain⟨S1,rfl⟩:=Option.isSome_iff_exists.1 k2
 obtain⟨S4,rfl⟩:=Option.isSome_iff_exists.1 k4
 have g2:=h2
 have g3:=h3
 have g4:=h4
 have g5:=h5
 unfold a2 at g2
 unfold a3 at g3
 unfold a4 at g4
 unfold a5 at g5
 rw [h1] at g2
 rw [h2] at g3
 rw [h3] at g4
 rw [h4] at g5
 exact⟨d1,S1,d2,S3,d3,S4,d4,S5,d5,h1,g2,g3,g4,g5,kg,l1,l3,l4⟩
end Reg
end
section
open Super (spl)
variable {i n slot:Nat} {d d':Disk.Dk} {L L':List Pin} {c:Int} {a b:List UInt8} {s sup t:Super.S} {u:UpdV} {f:Disk.Dk->Int × Disk.Dk} {fs:List (Disk.Dk->Int × Disk.Dk)}
namespace Reg
open Disk (Dk)
open Extent (Quiet V)
theorem fit_facts (h:fit n=true):(plan n).s+5<=(plan n).h/\5<=(plan n).s/\2+2 * (plan n).h<=n/\n<=4096/\1<=(plan n).cap/\(plan n).cap<=1000/\8+262 * (plan n).cap<=64 * (plan n).s:=by
 unfold fit at h
 rw [decide_eq_true_eq] at h
 obtain⟨h1,h2,h3,h4⟩:=h
 unfold plan at h3 h4 ⊢
 dsimp only at h3 h4 ⊢
 omega
theorem act_lt (h:Super.valid s=true):s.act=((s.act.toNat:Nat):Int)/\s.act.toNat < 2:=by
 simp only [Super.valid,Bool.and_eq_true,Bool.or_eq_true,beq_iff_eq,decide_eq_true_eq] at h
 omega
theorem snap_len (h:fit n=true) (hs:Upt.stValid c L=true) (hc:L.length<=(plan n).cap):(Snap.enc c L).length<=64 * (plan n).s/\(Snap.enc c L).length<=262144:=by
 have hf:=fit_facts h
 have hb:=Snap.bound hs
 omega
theorem zm_y (h:Upt.valid u=true):(Upt.enc u).length<=263:=by
 unfold Upt.enc
 rcases Upt.valid_cases h with⟨h1,h2⟩|⟨h1,h2,-⟩
 ·rw [if_neg (by omega)]
  have:=Snap.pin_len h2
  simp only [List.length_cons];omega
 ·rw [if_pos h1]
  have h3:=Pin.name_len h2
  have h4:=Wire.enc_len_bound 1 u.p.h.length (by omega)
  unfold Wire.txt
  simp only [List.length_cons,List.length_append];omega
theorem apply_cap {cap:Nat} (h:Upt.apply c L u cap=(L',0)) (hL:L.length<=cap) (hc:cap<=1000):L'.length<=cap/\Upt.stValid c L'=true/\Upt.valid u=true:=by
 obtain⟨h1,h2,h3⟩:=Upt.apply_ok (c:=c) (L:=L) (u:=u) (cap:=cap) (by rw [h])
 rw [h] at h3
 have h3:L'=Upt.upd L u:=h3
 have hl:L'.length<=cap:=by
  rcases Upt.kind_of h2 with hk|hk
  ·cases hh:Tab.hit L u.p.h with
  |true =>
    rw [Upt.apply_hit h1 h2 hk hh] at h
    cases h
    simpa using hL
  |false =>
    by_cases hf:min (cap:Int) 1000<=(L.length:Int)
    ·rw [Upt.apply_full h1 h2 hk hh hf] at h;cases h
    ·rw [Upt.apply_ins h1 h2 hk hh hf] at h
     cases h
     simp only [List.length_append,List.length_cons,List.length_take,List.length_drop]
     omega
  ·rw [Upt.apply_rem h1 h2 hk] at h
   cases h
   unfold Tab.remove
   split
   ·simp only [List.length_append,List.length_take,List.length_drop];omega
   ·exact hL
 refine⟨hl,?_,h2⟩
 rw [h3] at hl ⊢
 exact Upt.upd_state h1 h2 (by omega)
theorem run_nil (d:Dk):run [] d=(0,d):=rfl
theorem run_ok (h:f d=(0,d')):run (f :: fs) d=run fs d':=by simp only [run,h,if_true]
theorem run_er {z:Int} (h:f d=(z,d')) (hz:z ≠ 0):run (f :: fs) d=(z,d'):=by simp only [run,h,if_neg hz]
end Reg
end
section
open Disk (Dk)
variable {d:Dk} {c f:Int} {ep:Nat}
theorem Frame.go_small (b:List UInt8) (ep f:Nat):∀ k out e,(∀ p ∈ out,p.length<=1024)->∀ p ∈ (Frame.go b ep f k out e).1,p.length<=1024:=by
 induction f with
|zero=>intro k out e h;exact h
|succ f ih =>
  intro k out e h
  by_cases hz:(Frame.dec (b.drop e) ep k).2.2=0
  ·rw [Frame.go_ok _ _ _ _ _ _ hz]
   refine ih _ _ _ fun p hp=>?_
   rcases List.mem_append.1 hp with hp|hp
   ·exact h p hp
   ·rw [List.mem_singleton.1 hp];exact (Frame.dec_ok _ _ _ hz).2.2
  ·rw [Frame.go_end _ _ _ _ _ _ hz];exact h
theorem Frame.scan_small (b:List UInt8) (ep:Nat):∀ p ∈ (Frame.scan b ep).1,p.length<=1024:=Frame.go_small _ _ _ _ _ _ (by simp)
theorem Wal.open_small (d:Dk) (f c:Int) (ep:Nat):∀ p ∈ (Wal.open d f c ep).2.1,p.length<=1024:=by
 rcases h0:Extent.read d f c 0 (Extent.size c) with⟨b,z,d1⟩
 by_cases hz:z=0
 ·subst hz
  rcases he:Wal.erase d1 f c (Frame.scan b ep).2 (b.drop (Frame.scan b ep).2) with⟨z2,d2⟩
  by_cases hz2:z2=0
  ·subst hz2
   rcases hs:Disk.sync d2 with⟨z3,d3⟩
   by_cases hz3:z3=0
   ·subst hz3;rw [Wal.open_o h0 he hs];exact Frame.scan_small b ep
   ·rw [Wal.open_e3 h0 he hs hz3];simp
  ·rw [Wal.open_e2 h0 he hz2];simp
 ·rw [Wal.open_e1 h0 hz];simp
theorem Wal.open_fl {L:Wal.L} (h:(Wal.open d f c ep).1=some L):L.fl=false/\(Wal.open d f c ep).2.2.1=0:=by
 rcases h0:Extent.read d f c 0 (Extent.size c) with⟨b,z,d1⟩
 by_cases hz:z=0
 ·subst hz
  rcases he:Wal.erase d1 f c (Frame.scan b ep).2 (b.drop (Frame.scan b ep).2) with⟨z2,d2⟩
  by_cases hz2:z2=0
  ·subst hz2
   rcases hs:Disk.sync d2 with⟨z3,d3⟩
   by_cases hz3:z3=0
   ·subst hz3;rw [Wal.open_o h0 he hs] at h ⊢;cases h;exact⟨rfl,rfl⟩
   ·rw [Wal.open_e3 h0 he hs hz3] at h;cases h
  ·rw [Wal.open_e2 h0 he hz2] at h;cases h
 ·rw [Wal.open_e1 h0 hz] at h;cases h
theorem Wal.open_some (h:(Wal.open d f c ep).2.2.1=0):∃ L,(Wal.open d f c ep).1=some L:=by
 rcases h0:Extent.read d f c 0 (Extent.size c) with⟨b,z,d1⟩
 by_cases hz:z=0
 ·subst hz
  rcases he:Wal.erase d1 f c (Frame.scan b ep).2 (b.drop (Frame.scan b ep).2) with⟨z2,d2⟩
  by_cases hz2:z2=0
  ·subst hz2
   rcases hs:Disk.sync d2 with⟨z3,d3⟩
   by_cases hz3:z3=0
   ·subst hz3;rw [Wal.open_o h0 he hs];exact⟨_,rfl⟩
   ·rw [Wal.open_e3 h0 he hs hz3] at h;exact absurd h hz3
  ·rw [Wal.open_e2 h0 he hz2] at h;exact absurd h hz2
 ·rw [Wal.open_e1 h0 hz] at h;exact absurd h hz
namespace Super
theorem zg_w (b:List UInt8) (i n:Nat):field b i n < 256 ^ n:=by
 unfold field
 refine Nat.lt_of_lt_of_le (unle_lt _) (Nat.pow_le_pow_right (by omega) ?_)
 rw [List.length_take];omega
theorem zh_y {l:List UInt8} {t:S} (h:dec l=(t,0)):valid t=true/\t.fits:=by
 unfold dec at h
 split at h
 ·cases h
 ·split at h
  ·cases h
  ·split at h
   ·rename_i hv
    cases h
    exact⟨hv.1,zg_w l 6 8,zg_w l 14 4,zg_w l 22 4⟩
   ·cases h
theorem choose_facts {a b:List UInt8} {k:Int} {s:S} (h:choose a b=(k,s,0)):(k=0\/k=1)/\valid s=true/\s.fits:=by
 unfold choose at h
 split at h
 ·cases h
 ·rename_i h0
  split at h
  ·rename_i h1
   injection h with hs h;injection h with hq _
   refine⟨.inr hs.symm,zh_y (l:=b) (Prod.ext hq ?_)⟩
   rcases h1 with h1|h1
   ·by_cases hb:(dec b).2=0
    ·exact hb
    ·exact absurd ⟨h1,hb⟩ h0
   ·exact h1.1
  ·rename_i h1
   injection h with hs h;injection h with hq _
   refine⟨.inl hs.symm,zh_y (l:=a) (Prod.ext hq ?_)⟩
   by_cases ha:(dec a).2=0
   ·exact ha
   ·exact absurd (.inl ha) h1
end Super
namespace Reg
structure Ok (n:Nat) (S:St):Prop where
 fit:fit n=true
 max:n<=1000
 lay:S.lay=plan n
 slot:S.slot < 2
 val:Super.valid S.sup=true
 fits:S.sup.fits
 log:GoodL S.log
 fl:S.fl=false->S.log.fl=false
end Reg
end
section
open Disk (Dk)
structure Kept (P:Dk->Prop):Prop where
 rd:∀ d i,P d->P (Disk.read d i).2.2
 wr:∀ d i x,P d->P (Disk.write d i x).2
 sy:∀ d,P d->P (Disk.sync d).2
theorem Kept.okN (N:Nat):Kept fun d=>d.Ok/\d.st.length=N where
 rd:=fun d i ⟨h,e⟩=>⟨h.read i,by rw [(Disk.read_st d i).1];exact e⟩
 wr:=fun d i x ⟨h,e⟩=>⟨h.write i x,by rw [Disk.write_st d i x];exact e⟩
 sy:=fun d ⟨h,e⟩=>⟨h.sync,by rw [Disk.sync_len];exact e⟩
theorem Reg.run_kept {P:Dk->Prop}:∀ (fs:List (Dk->Int × Dk)) (d:Dk),(∀ f ∈ fs,∀ d,P d->P (f d).2)->P d->P (Reg.run fs d).2
|[],_,_,h=>h
|f :: fs,d,hf,h=>by
  have h1:=hf f (List.mem_cons_self ..) d h
  rcases hfd:f d with⟨z,d1⟩
  rw [hfd] at h1
  by_cases hz:z=0
  ·subst hz
   rw [Reg.run_ok hfd]
   exact Reg.run_kept fs d1 (fun g hg=>hf g (List.mem_cons_of_mem _ hg)) h1
  ·rw [Reg.run_er hfd hz];exact h1
section
variable {P:Dk->Prop} (K:Kept P)
include K
theorem Kept.erd (first off e:Nat):∀ (m k:Nat) (acc:List UInt8) (d:Dk),P d->P (Extent.rd first off e m k acc d).2.2:=by
 intro m
 induction m with
|zero=>intro k acc d h;exact h
|succ m ih =>
  intro k acc d h
  rcases hr:Disk.read d ((first+Extent.pos off e k / 64:Nat):Int) with⟨b,z,d1⟩
  have hs:=K.rd d ((first+Extent.pos off e k / 64:Nat):Int) h
  rw [hr] at hs
  by_cases hz:z=0
  ·subst hz;rw [Extent.rd_ok hr];exact ih _ _ _ hs
  ·rw [Extent.rd_err hr hz];exact hs
theorem Kept.ewr (first off e:Nat):∀ (m k:Nat) (x:List UInt8) (d:Dk),P d->P (Extent.wr first off e m k x d).2:=by
 intro m
 induction m with
|zero=>intro k x d h;exact h
|succ m ih =>
  intro k x d h
  by_cases hs:Extent.step e (Extent.pos off e k) < 64
  ·rcases hr:Disk.read d ((first+Extent.pos off e k / 64:Nat):Int) with⟨b,z,d1⟩
   have h1:=K.rd d ((first+Extent.pos off e k / 64:Nat):Int) h
   rw [hr] at h1
   by_cases hz:z=0
   ·subst hz
    rcases hw:Disk.write d1 ((first+Extent.pos off e k / 64:Nat):Int) (b.take (Extent.pos off e k % 64) ++ x.take (Extent.step e (Extent.pos off e k)) ++ b.drop (Extent.pos off e k % 64+Extent.step e (Extent.pos off e k))) with⟨z2,d2⟩
    have h2:=K.wr d1 ((first+Extent.pos off e k / 64:Nat):Int) (b.take (Extent.pos off e k % 64) ++ x.take (Extent.step e (Extent.pos off e k)) ++ b.drop (Extent.pos off e k % 64+Extent.step e (Extent.pos off e k))) h1
    rw [hw] at h2
    rw [Extent.wr_part hs hr hw]
    split
    ·exact ih _ _ _ h2
    ·exact h2
   ·rw [Extent.wr_rerr hs hr hz];exact h1
  ·rcases hw:Disk.write d ((first+Extent.pos off e k / 64:Nat):Int) (x.take (Extent.step e (Extent.pos off e k))) with⟨z2,d2⟩
   have h2:=K.wr d ((first+Extent.pos off e k / 64:Nat):Int) (x.take (Extent.step e (Extent.pos off e k))) h
   rw [hw] at h2
   rw [Extent.wr_full hs hw]
   split
   ·exact ih _ _ _ h2
   ·exact h2
theorem Kept.eread {d:Dk} (h:P d) (f c off len:Int):P (Extent.read d f c off len).2.2:=by
 unfold Extent.read;split
 ·exact K.erd _ _ _ _ _ _ _ h
 ·exact h
theorem Kept.ewrite {d:Dk} (h:P d) (f c off:Int) (x:List UInt8):P (Extent.write d f c off x).2:=by
 unfold Extent.write;split
 ·exact K.ewr _ _ _ _ _ _ _ h
 ·exact h
theorem Kept.prep (l:Reg.Lay) (i:Nat) (b:List UInt8) {d:Dk} (h:P d):P (Reg.run (Reg.prep l i b) d).2:=by
 refine Reg.run_kept _ _ (fun f hf d h=>?_) h
 simp only [Reg.prep,List.mem_cons,List.not_mem_nil,or_false] at hf
 rcases hf with rfl|rfl|rfl
 ·exact K.ewrite h _ _ _ _
 ·exact K.ewrite h _ _ _ _
 ·exact K.sy d h
theorem Kept.erase {d:Dk} (h:P d) (f c en:Int) (r:List UInt8):P (Wal.erase d f c en r).2:=by
 unfold Wal.erase;split
 ·exact h
 ·exact K.ewrite h _ _ _ _
theorem Kept.wsync {d:Dk} (h:P d) (L:Wal.L):P (Wal.sync L d).2.2:=by
 unfold Wal.sync;split
 ·exact h
 ·have h1:=K.sy d h
  rcases hs:Disk.sync d with⟨z,d1⟩
  rw [hs] at h1
  simp only
  split <;> exact h1
theorem Kept.wappend {d:Dk} (h:P d) (L:Wal.L) (p:List UInt8):P (Wal.append L d p).2.2:=by
 unfold Wal.append
 split
 ·exact h
 ·split
  ·exact h
  ·split
   ·exact h
   ·have h1:=K.ewrite h L.f L.c L.en (Frame.enc L.ep L.rc p)
    rcases hs:Extent.write d L.f L.c L.en (Frame.enc L.ep L.rc p) with⟨z,d1⟩
    rw [hs] at h1
    simp only
    split <;> exact h1
theorem Kept.wopen {d:Dk} (h:P d) (f c:Int) (ep:Nat):P (Wal.open d f c ep).2.2.2:=by
 rcases hr:Extent.read d f c 0 (Extent.size c) with⟨b,z,d1⟩
 have h1:=K.eread h f c 0 (Extent.size c)
 rw [hr] at h1
 by_cases hz:z=0
 ·subst hz
  rcases he:Wal.erase d1 f c (Frame.scan b ep).2 (b.drop (Frame.scan b ep).2) with⟨z2,d2⟩
  have h2:=K.erase h1 f c (Frame.scan b ep).2 (b.drop (Frame.scan b ep).2)
  rw [he] at h2
  by_cases hz2:z2=0
  ·subst hz2
   rcases hs:Disk.sync d2 with⟨z3,d3⟩
   have h3:=K.sy d2 h2
   rw [hs] at h3
   by_cases hz3:z3=0
   ·subst hz3;rw [Wal.open_o hr he hs];exact h3
   ·rw [Wal.open_e3 hr he hs hz3];exact h3
  ·rw [Wal.open_e2 hr he hz2];exact h2
 ·rw [Wal.open_e1 hr hz];exact h1
namespace Reg
theorem keptFormat {d:Dk} (h:P d):P (format d).2:=by
 unfold format
 split
 ·exact h
 ·refine Reg.run_kept _ _ (fun f hf d h=>?_) h
  simp only [prep,List.cons_append,List.nil_append,List.mem_cons,List.not_mem_nil,or_false] at hf
  rcases hf with rfl|rfl|rfl|rfl|rfl|rfl
  ·exact K.ewrite h _ _ _ _
  ·exact K.ewrite h _ _ _ _
  ·exact K.sy d h
  ·exact K.wr d _ _ h
  ·exact K.wr d _ _ h
  ·exact K.sy d h
theorem keptAppend {d:Dk} (h:P d) (S:St) (u:UpdV):P (append S d u).2.2:=by
 unfold append
 split
 ·exact h
 ·split
  ·exact h
  ·have h1:=K.wappend h S.log (Upt.enc u)
   rcases ha:Wal.append S.log d (Upt.enc u) with⟨z,L1,d1⟩
   rw [ha] at h1
   dsimp only at h1 ⊢
   split
   ·exact h1
   ·split
    ·exact h1
    ·have h2:=K.wsync h1 L1
     rcases hs:Wal.sync L1 d1 with⟨z2,L2,d2⟩
     rw [hs] at h2
     exact h2
theorem keptCompact {d:Dk} (h:P d) (S:St) (c:Int) (L:List Pin):P (compact S d c L).2.2:=by
 unfold compact
 split
 ·exact h
 ·split
  ·exact h
  ·split
   ·exact h
   ·have h1:=K.prep S.lay (1 - S.sup.act).toNat (Snap.enc c L) h
    rcases hp:run (prep S.lay (1 - S.sup.act).toNat (Snap.enc c L)) d with⟨z,d1⟩
    rw [hp] at h1
    unfold compact2
    split
    ·exact h1
    ·dsimp only at h1 ⊢
     have h2:=K.wopen h1 (S.lay.lf (1 - S.sup.act).toNat) S.lay.lc ((S.sup.epoch+1) % 4294967296)
     rcases ho:Wal.open d1 (S.lay.lf (1 - S.sup.act).toNat) S.lay.lc ((S.sup.epoch+1) % 4294967296) with⟨lo,ps,z2,d2⟩
     rw [ho] at h2
     unfold compact3
     split
     ·exact h2
     ·have h3:P (run [fun d=>Disk.write d ((1 - S.slot:Nat):Int) (Super.enc (next S (Snap.enc c L))),Disk.sync] d2).2:=by
       refine Reg.run_kept _ _ (fun f hf d h=>?_) h2
       simp only [List.mem_cons,List.not_mem_nil,or_false] at hf
       rcases hf with rfl|rfl
       ·exact K.wr d _ _ h
       ·exact K.sy d h
      dsimp only
      rcases hq:run [fun d=>Disk.write d ((1 - S.slot:Nat):Int) (Super.enc (next S (Snap.enc c L))),Disk.sync] d2 with⟨z3,d3⟩
      rw [hq] at h3
      dsimp only
      split <;> exact h3
theorem keptOpen {d:Dk} (h:P d):P (openS d).2.2.2:=by
 unfold openS
 split
 ·exact h
 ·have h1:=K.rd d 0 h
  rcases hr:Disk.read d 0 with⟨a,z,d1⟩
  rw [hr] at h1
  unfold open1
  split
  ·exact h1
  ·dsimp only at h1 ⊢
   have h2:=K.rd d1 1 h1
   rcases hr2:Disk.read d1 1 with⟨b,z2,d2⟩
   rw [hr2] at h2
   unfold open2
   split
   ·exact h2
   ·dsimp only at h2 ⊢
    unfold open3
    split
    ·exact h2
    ·split
     ·exact h2
     ·have h3:=K.eread h2 ((plan d.st.length).sf (Super.choose a b).2.1.act.toNat) (plan d.st.length).sc 0 (Super.choose a b).2.1.len
      rcases hr3:Extent.read d2 ((plan d.st.length).sf (Super.choose a b).2.1.act.toNat) (plan d.st.length).sc 0 (Super.choose a b).2.1.len with⟨x,z3,d3⟩
      rw [hr3] at h3
      unfold open4
      split
      ·exact h3
      ·split
       ·exact h3
       ·dsimp only at h3 ⊢
        have h4:=K.wopen h3 ((plan d.st.length).lf (Super.choose a b).2.1.act.toNat) (plan d.st.length).lc (Super.choose a b).2.1.epoch
        rcases ho:Wal.open d3 ((plan d.st.length).lf (Super.choose a b).2.1.act.toNat) (plan d.st.length).lc (Super.choose a b).2.1.epoch with⟨lo,ps,z4,d4⟩
        rw [ho] at h4
        unfold open5
        split
        ·exact h4
        ·split <;> exact h4
end Reg
end
def dz (z:Int):Prop:=z=0\/z=1\/z=2\/z=9\/z=10
theorem Disk.begin_z (d:Dk) (b:Bool):dz (Disk.begin d b).2.1:=by
 unfold Disk.begin dz
 split
 ·simp
 ·split
  ·split
   ·simp
   ·split <;> simp
  ·simp
theorem Disk.read_z (d:Dk) (i:Int):dz (Disk.read d i).2.1:=by
 have h:=Disk.begin_z d (Disk.fits d i)
 unfold Disk.read
 rcases hb:Disk.begin d (Disk.fits d i) with⟨t,e,d1⟩
 rw [hb] at h
 cases t
 ·dsimp only;split
  ·exact .inl rfl
  ·exact h
 ·exact .inr (.inr (.inr (.inr rfl)))
theorem Disk.write_z (d:Dk) (i:Int) (x:List UInt8):dz (Disk.write d i x).1:=by
 have h:=Disk.begin_z d (Disk.fits d i && decide (x.length=64))
 unfold Disk.write
 rcases hb:Disk.begin d (Disk.fits d i && decide (x.length=64)) with⟨t,e,d1⟩
 rw [hb] at h
 cases t
 ·dsimp only;split
  ·exact .inl rfl
  ·exact h
 ·exact .inr (.inr (.inr (.inr rfl)))
theorem Extent.wr_z (first off e:Nat):∀ (m k:Nat) (x:List UInt8) (d:Dk),dz (Extent.wr first off e m k x d).1:=by
 intro m
 induction m with
|zero=>intro k x d;exact .inl rfl
|succ m ih =>
  intro k x d
  by_cases hs:Extent.step e (Extent.pos off e k) < 64
  ·rcases hr:Disk.read d ((first+Extent.pos off e k / 64:Nat):Int) with⟨b,z,d1⟩
   have h1:=Disk.read_z d ((first+Extent.pos off e k / 64:Nat):Int)
   rw [hr] at h1
   by_cases hz:z=0
   ·subst hz
    rcases hw:Disk.write d1 ((first+Extent.pos off e k / 64:Nat):Int) (b.take (Extent.pos off e k % 64) ++ x.take (Extent.step e (Extent.pos off e k)) ++ b.drop (Extent.pos off e k % 64+Extent.step e (Extent.pos off e k))) with⟨z2,d2⟩
    have h2:=Disk.write_z d1 ((first+Extent.pos off e k / 64:Nat):Int) (b.take (Extent.pos off e k % 64) ++ x.take (Extent.step e (Extent.pos off e k)) ++ b.drop (Extent.pos off e k % 64+Extent.step e (Extent.pos off e k)))
    rw [hw] at h2
    rw [Extent.wr_part hs hr hw]
    split
    ·exact ih _ _ _
    ·exact h2
   ·rw [Extent.wr_rerr hs hr hz];exact h1
  ·rcases hw:Disk.write d ((first+Extent.pos off e k / 64:Nat):Int) (x.take (Extent.step e (Extent.pos off e k))) with⟨z2,d2⟩
   have h2:=Disk.write_z d ((first+Extent.pos off e k / 64:Nat):Int) (x.take (Extent.step e (Extent.pos off e k)))
   rw [hw] at h2
   rw [Extent.wr_full hs hw]
   split
   ·exact ih _ _ _
   ·exact h2
theorem Extent.check_z (n:Nat) (f c off len:Int):dz (Extent.check n f c off len):=by
 unfold Extent.check dz
 split
 ·split <;> simp
 ·simp
theorem Extent.write_z (d:Dk) (f c off:Int) (x:List UInt8):dz (Extent.write d f c off x).1:=by
 unfold Extent.write;split
 ·exact Extent.wr_z _ _ _ _ _ _ _
 ·exact Extent.check_z _ _ _ _ _
namespace Reg
theorem zl_y {n:Nat} {S:St} (h:Ok n S) {c:Int} {L:List Pin} (hv:Upt.stValid c L=true) (hc:L.length<=S.lay.cap) (hg:S.sup.gen ≠ 18446744073709551615) :
 Super.valid (next S (Snap.enc c L))=true/\(next S (Snap.enc c L)).fits/\(((1 - S.sup.act).toNat:Nat):Int)=1 - S.sup.act/\(1 - S.sup.act).toNat < 2:=by
 obtain⟨a1,a2⟩:=act_lt h.val
 have hl:=(snap_len h.fit hv (by have:=h.lay;rw [this] at hc;exact hc)).2
 refine⟨?_,⟨?_,Nat.mod_lt _ (by omega),Crc.update_lt _ _⟩,by omega,by omega⟩
 ·have e1:(next S (Snap.enc c L)).act=1 - S.sup.act:=rfl
  have e2:(next S (Snap.enc c L)).len=((Snap.enc c L).length:Int):=rfl
  have e3:(next S (Snap.enc c L)).gen=S.sup.gen+1:=rfl
  unfold Super.valid
  rw [e1,e2]
  simp
  omega
 ·have:=h.fits.1
  show S.sup.gen+1 < _
  omega
theorem append_facts {n:Nat} {S:St} (h:Ok n S) (d:Dk) (u:UpdV) :
 Ok n (append S d u).2.1/\(append S d u).2.1.sup=S.sup/\(S.fl=false->Upt.valid u=true->(append S d u).2.1.fl=(append S d u).2.1.log.fl)/\(S.fl=true\/Upt.valid u=false->(append S d u).2.1=S):=by
 unfold append
 by_cases hf:S.fl=true
 ·rw [if_pos hf];exact⟨h,rfl,fun e=>(by rw [hf] at e;cases e),fun _=>rfl⟩
 ·rw [if_neg hf]
  have hf':S.fl=false:=by simpa using hf
  by_cases hv:Upt.valid u=false
  ·rw [if_pos hv];exact⟨h,rfl,fun _ e=>(by rw [hv] at e;cases e),fun _=>rfl⟩
  ·rw [if_neg hv]
   have hv':Upt.valid u=true:=by simpa using hv
   have hlf:=h.fl hf'
   have hen:=zm_y hv'
   have hG:=h.log.append d (Upt.enc u)
   have key:∀ z L1 d1,Wal.append S.log d (Upt.enc u)=(z,L1,d1)->(z=11->L1=S.log)/\(z=0->L1.fl=false)/\(z ≠ 0->z ≠ 11->L1.fl=true):=by
    intro z L1 d1 ha
    unfold Wal.append at ha
    rw [if_neg (by rw [hlf];decide),if_neg (by omega)] at ha
    split at ha
    ·injection ha with h1 ha;injection ha with h2 _
     exact⟨fun _=>h2.symm,fun e=>by omega,fun _ e=>absurd h1.symm e⟩
    ·have hz:=Extent.write_z d S.log.f S.log.c S.log.en (Frame.enc S.log.ep S.log.rc (Upt.enc u))
     rcases hs:Extent.write d S.log.f S.log.c S.log.en (Frame.enc S.log.ep S.log.rc (Upt.enc u)) with⟨z1,d2⟩
     rw [hs] at ha hz
     dsimp only at ha hz
     split at ha
     ·injection ha with h1 ha;injection ha with h2 _
      subst h1 h2
      exact⟨fun e=>(by cases e),fun _=>hlf,fun e=>absurd rfl e⟩
     ·rename_i hz1
      injection ha with h1 ha;injection ha with h2 _
      subst h1 h2
      refine⟨fun e=>?_,fun e=>absurd e hz1,fun _ _=>rfl⟩
      unfold dz at hz;omega
   rcases ha:Wal.append S.log d (Upt.enc u) with⟨z,L1,d1⟩
   obtain⟨k1,k2,k3⟩:=key _ _ _ ha
   rw [ha] at hG
   have hG1:GoodL L1:=hG
   dsimp only
   have nf:¬ (S.fl=true\/Upt.valid u=false):=by rintro (e|e);exact hf e;exact hv e
   by_cases hz11:z=11
   ·rw [if_pos hz11]
    have:=k1 hz11
    subst this
    exact⟨⟨h.fit,h.max,h.lay,h.slot,h.val,h.fits,hG1,h.fl⟩,rfl,fun _ _=>by show S.fl=S.log.fl;rw [hf',hlf],fun e=>absurd e nf⟩
   ·rw [if_neg hz11]
    by_cases hz0:z=0
    ·rw [if_neg (by simpa using hz0)]
     have hl1:=k2 hz0
     have hG2:=hG1.sync d1
     have key2:∀ z2 L2 d2,Wal.sync L1 d1=(z2,L2,d2)->L2.fl=decide (z2 ≠ 0):=by
      intro z2 L2 d2 hs
      unfold Wal.sync at hs
      rw [if_neg (by rw [hl1];decide)] at hs
      rcases hd:Disk.sync d1 with⟨z3,d3⟩
      rw [hd] at hs
      dsimp only at hs
      split at hs
      ·injection hs with h1 hs;injection hs with h2 _
       subst h1 h2;simpa using hl1
      ·rename_i hz3
       injection hs with h1 hs;injection hs with h2 _
       subst h1 h2;simp [hz3]
     rcases hs:Wal.sync L1 d1 with⟨z2,L2,d2⟩
     have k4:=key2 _ _ _ hs
     rw [hs] at hG2
     have hG3:GoodL L2:=hG2
     dsimp only
     exact⟨⟨h.fit,h.max,h.lay,h.slot,h.val,h.fits,hG3,fun e=>by rw [k4];exact e⟩,rfl,fun _ _=>k4.symm,fun e=>absurd e nf⟩
    ·rw [if_pos hz0]
     exact⟨⟨h.fit,h.max,h.lay,h.slot,h.val,h.fits,hG1,fun e=>by cases e⟩,rfl,fun _ _=>(k3 hz0 hz11).symm,fun e=>absurd e nf⟩
theorem Ok.failed {n:Nat} {S:St} (h:Ok n S):Ok n { S with fl:=true }:=⟨h.fit,h.max,h.lay,h.slot,h.val,h.fits,h.log,fun e=>by cases e⟩
theorem compact_ok {n:Nat} {S:St} (h:Ok n S) {d:Dk} (hd:d.Ok) (hn:d.st.length=n) (c:Int) (L:List Pin):Ok n (compact S d c L).2.1:=by
 unfold compact
 split
 ·exact h
 ·rename_i hf
  split
  ·exact h
  ·rename_i hv
   split
   ·exact h
   ·rename_i hg
    have hv':Upt.stValid c L=true:=by
     cases e:Upt.stValid c L
     ·exact absurd (.inl e) hv
     ·rfl
    have hc':L.length<=S.lay.cap:=by
     rcases Nat.lt_or_ge S.lay.cap L.length with e|e
     ·exact absurd (.inr e) hv
     ·exact e
    obtain⟨n1,n2,n3,n4⟩:=zl_y h hv' hc' hg
    have h1:=(Kept.okN n).prep S.lay (1 - S.sup.act).toNat (Snap.enc c L) ⟨hd,hn⟩
    rcases hp:run (prep S.lay (1 - S.sup.act).toNat (Snap.enc c L)) d with⟨z,d1⟩
    rw [hp] at h1
    unfold compact2
    split
    ·exact h.failed
    ·dsimp only at h1 ⊢
     have hib:ib (S.lay.lf (1 - S.sup.act).toNat)/\ib S.lay.lc:=by
      rw [h.lay]
      have hff:=fit_facts h.fit
      have hm:(1 - S.sup.act).toNat * (plan n).h<=(plan n).h:=by
       have:=Nat.mul_le_mul_right (plan n).h (show (1 - S.sup.act).toNat<=1 by omega);omega
      unfold Lay.lf Lay.lc ib
      omega
     have hgo:=fun L (e:(Wal.open d1 (S.lay.lf (1 - S.sup.act).toNat) S.lay.lc ((S.sup.epoch+1) % 4294967296)).1=some L)=>GoodL.opened h1.1 (by rw [h1.2];exact h.max) hib.1 hib.2 (Nat.mod_lt _ (by omega)) e
     have hfl:=fun L (e:(Wal.open d1 (S.lay.lf (1 - S.sup.act).toNat) S.lay.lc ((S.sup.epoch+1) % 4294967296)).1=some L)=>(Wal.open_fl e).1
     have hso:=fun (e:(Wal.open d1 (S.lay.lf (1 - S.sup.act).toNat) S.lay.lc ((S.sup.epoch+1) % 4294967296)).2.2.1=0)=>Wal.open_some e
     rcases ho:Wal.open d1 (S.lay.lf (1 - S.sup.act).toNat) S.lay.lc ((S.sup.epoch+1) % 4294967296) with⟨lo,ps,z2,d2⟩
     rw [ho] at hgo hfl hso
     unfold compact3
     split
     ·exact h.failed
     ·rename_i hz2
      dsimp only at hz2 hgo hfl hso ⊢
      obtain⟨L1,hL1⟩:=hso (by simpa using hz2)
      have g1:=hgo L1 hL1
      have g2:=hfl L1 hL1
      subst hL1
      rcases hq:run [fun d=>Disk.write d ((1 - S.slot:Nat):Int) (Super.enc (next S (Snap.enc c L))),Disk.sync] d2 with⟨z3,d3⟩
      dsimp only
      split
      ·exact h.failed
      ·exact⟨h.fit,h.max,h.lay,by show 1 - S.slot < 2;omega,n1,n2,g1,fun _=>g2⟩
theorem compact_len (S:St) (d:Dk) (c:Int) (L:List Pin):(compact S d c L).2.2.st.length=d.st.length :=
 keptCompact (P:=fun x=>x.st.length=d.st.length) ⟨fun a i h=>by rw [(Disk.read_st a i).1];exact h,fun a i x h=>by rw [Disk.write_st a i x];exact h,fun a h=>by rw [Disk.sync_len];exact h⟩ rfl S c L
theorem append_len (S:St) (d:Dk) (u:UpdV):(append S d u).2.2.st.length=d.st.length :=
 keptAppend (P:=fun x=>x.st.length=d.st.length) ⟨fun a i h=>by rw [(Disk.read_st a i).1];exact h,fun a i x h=>by rw [Disk.write_st a i x];exact h,fun a h=>by rw [Disk.sync_len];exact h⟩ rfl S u
theorem format_len (d:Dk):(format d).2.st.length=d.st.length :=
 keptFormat (P:=fun x=>x.st.length=d.st.length) ⟨fun a i h=>by rw [(Disk.read_st a i).1];exact h,fun a i x h=>by rw [Disk.write_st a i x];exact h,fun a h=>by rw [Disk.sync_len];exact h⟩ rfl
theorem open_len (d:Dk):(openS d).2.2.2.st.length=d.st.length :=
 keptOpen (P:=fun x=>x.st.length=d.st.length) ⟨fun a i h=>by rw [(Disk.read_st a i).1];exact h,fun a i x h=>by rw [Disk.write_st a i x];exact h,fun a h=>by rw [Disk.sync_len];exact h⟩ rfl
end Reg
end
section
open Disk (Dk)
def tf33 (n:Nat):Bool:=decide ((Reg.format (Disk.new n)).1=0/\(Reg.openS (Reg.format (Disk.new n)).2).1.isSome/\(Reg.openS (Reg.format (Disk.new n)).2).2.1=(0,[])/\(Reg.openS (Reg.format (Disk.new n)).2).2.2.1=0)
theorem zt_p:(List.range' 30 6).all tf33=true:=by decide +kernel
theorem zt_q:(List.range' 36 6).all tf33=true:=by decide +kernel
theorem zt_r:(List.range' 42 6).all tf33=true:=by decide +kernel
theorem zt_s:(List.range' 48 6).all tf33=true:=by decide +kernel
theorem zt_t:(List.range' 54 6).all tf33=true:=by decide +kernel
theorem zt_u:(List.range' 60 6).all tf33=true:=by decide +kernel
theorem zt_v:(List.range' 66 6).all tf33=true:=by decide +kernel
theorem zt_w:(List.range' 72 6).all tf33=true:=by decide +kernel
theorem zt_x:(List.range' 78 6).all tf33=true:=by decide +kernel
theorem zt_y:(List.range' 84 6).all tf33=true:=by decide +kernel
theorem zs_x:(List.range' 90 6).all tf33=true:=by decide +kernel
theorem zs_y:(List.range' 96 6).all tf33=true:=by decide +kernel
attribute [irreducible] tf33
theorem fresh33 {n:Nat} (h1:30<=n) (h2:n<=100):∃ d1 S d2,Reg.format (Disk.new n)=(0,d1)/\Reg.openS d1=(some S,(0,[]),0,d2):=by
 have key:∀ a,a < 12->(List.range' (30+6 * a) 6).all tf33=true:=fun a ha=>by
  match a,ha with
  |0,_=>exact zt_p
  |1,_=>exact zt_q
  |2,_=>exact zt_r
  |3,_=>exact zt_s
  |4,_=>exact zt_t
  |5,_=>exact zt_u
  |6,_=>exact zt_v
  |7,_=>exact zt_w
  |8,_=>exact zt_x
  |9,_=>exact zt_y
  |10,_=>exact zs_x
  |11,_=>exact zs_y
 have h:=List.all_eq_true.1 (key ((n - 30) / 6) (by omega)) n (by rw [List.mem_range'_1];omega)
 unfold tf33 at h
 have k:=of_decide_eq_true h
 clear h key
 obtain⟨r1,e1⟩:∃ r,r=Reg.format (Disk.new n):=⟨_,rfl⟩
 rw [<-e1] at k ⊢
 obtain⟨z1,d1⟩:=r1
 dsimp only at k
 obtain⟨r2,e2⟩:∃ r,r=Reg.openS d1:=⟨_,rfl⟩
 rw [<-e2] at k
 obtain⟨s,q,z,d2⟩:=r2
 dsimp only at k
 obtain⟨rfl,k2,rfl,rfl⟩:=k
 obtain⟨S,rfl⟩:=Option.isSome_iff_exists.1 k2
 exact⟨d1,S,d2,rfl,e2.symm⟩
end
section
open Go.RowKit
set_option maxRecDepth 100000
variable {h k k0 m n s:Nat}
def layv (k a b c d s t:Int):Value:=.agg #[k,a,s,b,s,c,t,d,t]
def Reg.Lay.v (l:Reg.Lay):Value:=layv l.cap (l.sf 0) (l.sf 1) (l.lf 0) (l.lf 1) l.sc l.lc
def lay0:Value:=layv 0 0 0 0 0 0 0
def planV (n:Nat):Value:=if Reg.fit n then (Reg.plan n).v else lay0
def planE (n:Nat):Int:=if Reg.fit n then 0 else 2
theorem zb_p (h:Reg.fit n=false):planV n=lay0/\planE n=2:=by unfold planV planE;rw [h];exact⟨rfl,rfl⟩
theorem zs_d (hf:Reg.fit n=true) (hh:(n - 2) / 2=h) (hs:h / 2=s) (hk:min ((s * 64 - 8) / 262) 1000=k):planE n=0/\planV n=layv k 2 (2+h) (2+s) (2+h+s) s ((h:Int) - s):=by
 have e:Reg.plan n=⟨h,s,k⟩:=by unfold Reg.plan;rw [hh,hs,hk]
 have hsh:s<=h:=by omega
 unfold planV planE
 rw [hf,e]
 refine⟨rfl,?_⟩
 unfold Reg.Lay.v Reg.Lay.sf Reg.Lay.lf Reg.Lay.sc Reg.Lay.lc
 simp only [if_true]
 congr 1 <;> omega
theorem zj_t (hh:(m - 2) / 2=h) (hs:h / 2=s) (hk0:(s * 64 - 8) / 262=k0) (hk:min k0 1000=k) (h1:1<=m) (hm:m<=4096):s<=h/\h<=2047/\k<=1000/\((s:Int) < 1->k < 1)/\s<=4096/\1<=m/\m<=4096:=by omega
theorem zn_v (hk:min k0 1000=k):min (k0:Int) 1000=(k:Int):=by omega
theorem zn_w (hk:min k0 1000=k):min 1000 (k0:Int)=(k:Int):=by omega
theorem zs_a (hh:(m - 2) / 2=h) (hm:1<=m):((m:Int) - 2).tdiv 2=(h:Int):=by
 by_cases h1:m=1
 ·subst h1;subst hh;rfl
 ·rw [Int.tdiv_eq_ediv_of_nonneg (by omega)];omega
theorem zs_b (hs:h / 2=s):(h:Int) / 2=(s:Int):=by omega
theorem zs_c (hk:(s * 64 - 8) / 262=k0):((s:Int) * 64 - 8).tdiv 262=(k0:Int):=by
 by_cases h1:s=0
 ·subst h1;subst hk;rfl
 ·rw [Int.tdiv_eq_ediv_of_nonneg (by omega)];omega
theorem zq_g (hk:(s * 64 - 8) / 262=k0) (q:¬ (s:Int) < 1):((s:Int) * 64 - 8) / 262=(k0:Int):=by omega
theorem zs_e (h:1<=k):¬ (k:Int) < 1:=by omega
theorem zs_f (q:5<=h - s):¬ (h:Int) - (s:Int) < 5:=by omega
theorem zs_g (h:k < 1):(k:Int) < 1:=by omega
theorem zs_h (q1:¬ (k:Int) < 1):1<=k:=by omega
theorem zs_i (q1:¬ (k:Int) < 1) (hk0:(s * 64 - 8) / 262=k0) (hs:h / 2=s) (hk:min k0 1000=k):5<=h - s:=by omega
set_option linter.unusedSimpArgs false in
set_option maxHeartbeats 4000000 in
theorem zf_g (β:Bool) (n:Int) (w:World) :
 Calls Tryz.prog (cond β 8 9) #[n] w fun e w'=>e=.returned (.tuple #[planV n.toNat,.int .i64 (planE n.toNat)])/\Below w.heap.size w w':=by
 cases β <;> dsimp only [cond]
 all_goals
  by_cases hr:1<=n/\n<=4096
  ·obtain⟨m,rfl⟩:∃ m:Nat,n=(m:Int):=⟨n.toNat,by omega⟩
   have e0:(m:Int).toNat=m:=by omega
   rw [e0]
   obtain⟨h,hh⟩:∃ h,(m - 2) / 2=h:=⟨_,rfl⟩
   obtain⟨s,hs⟩:∃ s,h / 2=s:=⟨_,rfl⟩
   obtain⟨k0,hk0⟩:∃ k,(s * 64 - 8) / 262=k:=⟨_,rfl⟩
   obtain⟨k,hk⟩:∃ k,min k0 1000=k:=⟨_,rfl⟩
   have m0:¬ (m:Int) < 1:=by omega
   have m1:¬ 4096 < (m:Int):=by omega
   obtain⟨b1,b2,b3,b4,b5,b6,b7⟩:=zj_t hh hs hk0 hk (by omega) (by omega)
   have HS0:=zH (show (s:Int) < 1->k < 1 from b4)
   have hfit:Reg.fit m=decide (1<=k/\5<=h - s):=by
    unfold Reg.fit Reg.plan
    rw [hh,hs,hk0,hk]
    exact decide_eq_decide.2 ⟨fun q=>⟨q.2.2.1,q.2.2.2⟩,fun q=>⟨b6,b7,q.1,q.2⟩⟩
   have HP:=zH (fun hf=>zs_d (n:=m) hf hh hs (hk0.symm ▸ hk))
   have HN:=zH (fun hf=>zb_p (n:=m) hf)
   clear hr e0
   have e1:((m:Int) - 2).tdiv 2=(h:Int):=zs_a hh b6
   have e2:(h:Int) / 2=(s:Int):=zs_b hs
   have e5:((s:Int) * 64 - 8).tdiv 262=(k0:Int):=zs_c hk0
   have E5:=zH (fun q=>zq_g hk0 q)
   have K0:=zH hk0
   have KK:=zH hk
   have H2:=zH hs
   have e6:=zn_v hk
   have e7:=zn_w hk
   clear hh hs hk0 hk b4 b6 b7
   by_cases hok:1<=k/\5<=h - s
   ·rw [decide_eq_true hok] at hfit
    have q1:¬ (k:Int) < 1:=zs_e hok.1
    have q2:¬ (h:Int) - (s:Int) < 5:=zs_f hok.2
    have q3:¬ (s:Int) < 1:=fun hlt=>q1 (zs_g (HS0.out hlt))
    rw [(HP.out hfit).1,(HP.out hfit).2]
    have e55:((s:Int) * 64 - 8) / 262=(k0:Int):=E5.out q3
    clear hok hfit
    first|(go_at_call 8;go_enter Tryz.func8,Tryz.ntmps8)|go_enter Tryz.func9,Tryz.ntmps9
    go_wp2_with fail
    refine wp_loop_rounds 3 ?_
    rw [rounds_succ];go_wp2_with fail
    rw [rounds_succ];go_wp2_with fail
    rw [rounds_succ];go_wp2_with fail
    refine bodyPost_ret (v:=.tuple #[layv k 2 (2+h) (2+s) (2+h+s) s ((h:Int) - s),.int .i64 0]) (by simp [results,Tryz.results8,Tryz.results9,go_sem,layv]) rfl ⟨rfl,?_⟩
    first|exact (Below.refl _ _).alloc (zN _) _|exact ((Below.refl _ _).alloc (zN _) _).alloc (by simp) _
   ·rw [decide_eq_false hok] at hfit
    rw [(HN.out hfit).1,(HN.out hfit).2]
    by_cases q1:(k:Int) < 1
    ·clear hok hfit
     by_cases q3:(s:Int) < 1
     case' neg=>have e55:((s:Int) * 64 - 8) / 262=(k0:Int):=E5.out q3
     all_goals
      first|(go_at_call 8;go_enter Tryz.func8,Tryz.ntmps8)|go_enter Tryz.func9,Tryz.ntmps9
      go_wp2_with fail
      refine bodyPost_ret (v:=.tuple #[lay0,.int .i64 2]) (by simp [results,Tryz.results8,Tryz.results9,go_sem,lay0,layv]) rfl ⟨rfl,?_⟩
      first|exact (Below.refl _ _).alloc (zN _) _|exact ((Below.refl _ _).alloc (zN _) _).alloc (by simp) _
    ·exact absurd hok (fun hok=>hok ⟨zs_h q1,zs_i q1 K0.out H2.out KK.out⟩)
  ·have hf:Reg.fit n.toNat=false:=by
    unfold Reg.fit
    rw [decide_eq_false_iff_not]
    omega
   rw [(zb_p hf).1,(zb_p hf).2]
   by_cases hn:n < 1
   case' neg=>have hn2:4096 < n:=by omega
   all_goals
    clear hf hr
    first|(go_at_call 8;go_enter Tryz.func8,Tryz.ntmps8)|go_enter Tryz.func9,Tryz.ntmps9
    go_wp2_with fail
    refine bodyPost_ret (v:=.tuple #[lay0,.int .i64 2]) (by simp [results,Tryz.results8,Tryz.results9,go_sem,lay0,layv]) rfl ⟨rfl,?_⟩
    first|exact (Below.refl _ _).alloc (zN _) _|exact ((Below.refl _ _).alloc (zN _) _).alloc (by simp) _
end
end Go.Proofs.YtmanejniepghlaaGreatDoor
