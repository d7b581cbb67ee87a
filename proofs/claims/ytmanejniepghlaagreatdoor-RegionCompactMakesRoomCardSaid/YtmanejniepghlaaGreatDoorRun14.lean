import Derived.Test.YtmanejniepghlaaGreatDoorRun0
import Derived.Test.YtmanejniepghlaaGreatDoorRun13
import Derived.Test.YtmanejniepghlaaGreatDoorRun2
import Derived.LoopN
namespace Go.Proofs.YtmanejniepghlaaGreatDoor
section
namespace Reg
open Disk (Dk)
structure Lay where
 h:Nat
 s:Nat
 cap:Nat
def plan (n:Nat):Lay:=⟨(n - 2) / 2,(n - 2) / 2 / 2,min (((n - 2) / 2 / 2 * 64 - 8) / 262) 1000⟩
def fit (n:Nat):Bool:=decide (1<=n/\n<=4096/\1<=(plan n).cap/\5<=(plan n).h - (plan n).s)
def Lay.sf (l:Lay) (i:Nat):Int:=((2+i * l.h:Nat):Int)
def Lay.lf (l:Lay) (i:Nat):Int:=((2+i * l.h+l.s:Nat):Int)
def Lay.sc (l:Lay):Int:=(l.s:Int)
def Lay.lc (l:Lay):Int:=((l.h - l.s:Nat):Int)
structure St where
 lay:Lay
 slot:Nat
 sup:Super.S
 log:Wal.L
 fl:Bool
def run:List (Dk->Int × Dk)->Dk->Int × Dk
|[],d=>(0,d)
|f :: fs,d=>if (f d).1=0 then run fs (f d).2 else f d
def crc (b:List UInt8):Nat:=Crc.update 0 b
def prep (l:Lay) (i:Nat) (b:List UInt8):List (Dk->Int × Dk) :=
 [fun d=>Extent.write d (l.sf i) l.sc 0 b,fun d=>Extent.write d (l.lf i) l.lc 0 (List.replicate (Extent.size l.lc).toNat 0),Disk.sync]
def sup1:Super.S:=⟨1,0,1,2,crc [0,0]⟩
def format (d:Dk):Int × Dk :=
 if fit d.st.length=false then (2,d) else
  run (prep (plan d.st.length) 0 [0,0] ++ [fun d=>Disk.write d 0 (Super.enc sup1),fun d=>Disk.write d 1 (List.replicate 64 0),Disk.sync]) d
def replay (cap:Int) (c:Int):List Pin->List (List UInt8)->Option (List Pin)
|L,[]=>some L
|L,r :: rs=>if (Upt.dec r).2 ≠ 0 then none else if (Upt.apply c L (Upt.dec r).1 cap).2 ≠ 0 then none else replay cap c (Upt.apply c L (Upt.dec r).1 cap).1 rs
abbrev Res:=Option St × (Int × List Pin) × Int × Dk
def bad (z:Int) (d:Dk):Res:=(none,(0,[]),z,d)
def open5 (l:Lay) (slot:Nat) (sup:Super.S) (c:Int) (L:List Pin) (r:Option Wal.L × List (List UInt8) × Int × Dk):Res :=
 if r.2.2.1 ≠ 0 then bad r.2.2.1 r.2.2.2 else
  match replay l.cap c L r.2.1 with
 |none=>bad 13 r.2.2.2
 |some L'=>(some ⟨l,slot,sup,r.1.getD ⟨0,0,0,0,0,0,false⟩,false⟩,(c,L'),0,r.2.2.2)
def open4 (l:Lay) (slot:Nat) (sup:Super.S) (r:List UInt8 × Int × Dk):Res :=
 if r.2.1 ≠ 0 then bad r.2.1 r.2.2 else
  if crc r.1 ≠ sup.sum\/(Snap.dec r.1).2 ≠ 0\/l.cap < (Snap.dec r.1).1.2.length then bad 13 r.2.2 else
   open5 l slot sup (Snap.dec r.1).1.1 (Snap.dec r.1).1.2 (Wal.open r.2.2 (l.lf sup.act.toNat) l.lc sup.epoch)
def open3 (l:Lay) (a b:List UInt8) (d:Dk):Res :=
 if (Super.choose a b).2.2 ≠ 0 then bad 13 d else
  if Extent.size l.sc < (Super.choose a b).2.1.len then bad 13 d else
   open4 l (Super.choose a b).1.toNat (Super.choose a b).2.1 (Extent.read d (l.sf (Super.choose a b).2.1.act.toNat) l.sc 0 (Super.choose a b).2.1.len)
def open2 (l:Lay) (a:List UInt8) (r:List UInt8 × Int × Dk):Res:=if r.2.1 ≠ 0 then bad r.2.1 r.2.2 else open3 l a r.1 r.2.2
def open1 (l:Lay) (r:List UInt8 × Int × Dk):Res:=if r.2.1 ≠ 0 then bad r.2.1 r.2.2 else open2 l r.1 (Disk.read r.2.2 1)
def openS (d:Dk):Res:=if fit d.st.length=false then bad 2 d else open1 (plan d.st.length) (Disk.read d 0)
def append (S:St) (d:Dk) (u:UpdV):Int × St × Dk :=
 if S.fl then (12,S,d) else if Upt.valid u=false then (1,S,d) else
  match Wal.append S.log d (Upt.enc u) with
 |(z,L1,d1)=>if z=11 then (11,{ S with log:=L1 },d1) else if z ≠ 0 then (z,{ S with log:=L1,fl:=true },d1) else
   match Wal.sync L1 d1 with
  |(z2,L2,d2)=>(z2,{ S with log:=L2,fl:=decide (z2 ≠ 0) },d2)
def next (S:St) (b:List UInt8):Super.S:=⟨S.sup.gen+1,1 - S.sup.act,(S.sup.epoch+1) % 4294967296,b.length,crc b⟩
def compact3 (S:St) (b:List UInt8) (r:Option Wal.L × List (List UInt8) × Int × Dk):Int × St × Dk :=
 if r.2.2.1 ≠ 0 then (r.2.2.1,{ S with fl:=true },r.2.2.2) else
  match run [fun d=>Disk.write d ((1 - S.slot:Nat):Int) (Super.enc (next S b)),Disk.sync] r.2.2.2 with
 |(z,d')=>if z ≠ 0 then (z,{ S with fl:=true },d') else (0,{ S with slot:=1 - S.slot,sup:=next S b,log:=r.1.getD ⟨0,0,0,0,0,0,false⟩ },d')
def compact2 (S:St) (b:List UInt8) (r:Int × Dk):Int × St × Dk :=
 if r.1 ≠ 0 then (r.1,{ S with fl:=true },r.2) else compact3 S b (Wal.open r.2 (S.lay.lf (1 - S.sup.act).toNat) S.lay.lc ((S.sup.epoch+1) % 4294967296))
def compact (S:St) (d:Dk) (c:Int) (L:List Pin):Int × St × Dk :=
 if S.fl then (12,S,d) else if Upt.stValid c L=false\/S.lay.cap < L.length then (1,S,d) else if S.sup.gen=18446744073709551615 then (3,S,d) else
  compact2 S (Snap.enc c L) (run (prep S.lay (1 - S.sup.act).toNat (Snap.enc c L)) d)
end Reg
end
section
open Super (spl)
variable {i n slot:Nat} {d d':Disk.Dk} {L L':List Pin} {c:Int} {a b:List UInt8} {s sup t:Super.S} {u:UpdV} {f:Disk.Dk->Int × Disk.Dk} {fs:List (Disk.Dk->Int × Disk.Dk)}
namespace Reg
open Disk (Dk)
open Extent (Quiet V)
theorem fit_facts (h:fit n=true):(plan n).s+5<=(plan n).h/\5<=(plan n).s/\2+2 * (plan n).h<=n/\n<=4096/\1<=(plan n).cap/\(plan n).cap<=1000/\8+262 * (plan n).cap<=64 * (plan n).s:=by
 unfold fit at h
 rw [decide_eq_true_eq] at h
 obtain⟨h1,h2,h3,h4⟩:=h
 unfold plan at h3 h4 ⊢
 dsimp only at h3 h4 ⊢
 omega
theorem fit_of (h1:22<=n) (h2:n<=100):fit n=true:=by
 unfold fit plan
 rw [decide_eq_true_eq]
 dsimp only
 omega
abbrev sa (n i:Nat):Nat:=2+i * (plan n).h
abbrev la (n i:Nat):Nat:=2+i * (plan n).h+(plan n).s
abbrev lc (n:Nat):Nat:=(plan n).h - (plan n).s
structure Img (n:Nat) (v:List UInt8) (slot:Nat) (sup:Super.S) (c:Int) (L0:List Pin) (ps:List (List UInt8)) (m:Nat):Prop where
 len:v.length=64 * n
 s2:slot < 2
 ch:Super.choose ((v.drop (64 * 0)).take 64) ((v.drop (64 * 1)).take 64)=((slot:Int),sup,0)
 val:Super.valid sup=true
 fits:sup.fits
 ln:sup.len=((Snap.enc c L0).length:Int)
 sum:sup.sum=crc (Snap.enc c L0)
 st:Upt.stValid c L0=true
 cap:L0.length<=(plan n).cap
 snap:(v.drop (64 * sa n sup.act.toNat)).take (Snap.enc c L0).length=Snap.enc c L0
 log:(v.drop (64 * la n sup.act.toNat)).take (64 * lc n)=Frame.cat sup.epoch 0 ps ++ List.replicate m 0
 small:∀ p ∈ ps,p.length<=1024
theorem act_lt (h:Super.valid s=true):s.act=((s.act.toNat:Nat):Int)/\s.act.toNat < 2:=by
 simp only [Super.valid,Bool.and_eq_true,Bool.or_eq_true,beq_iff_eq,decide_eq_true_eq] at h
 omega
theorem zb_n (h:fit n=true) (hi:i < 2):sa n i+(plan n).s=la n i/\la n i+lc n<=n/\2<=sa n i/\5<=lc n/\sa n i+(plan n).h<=n:=by
 have hf:=fit_facts h
 rcases (show i=0\/i=1 by omega) with rfl|rfl
 ·refine⟨?_,?_,?_,?_,?_⟩ <;> simp only [sa,la,lc,Nat.zero_mul] <;> omega
 ·refine⟨?_,?_,?_,?_,?_⟩ <;> simp only [sa,la,lc,Nat.one_mul] <;> omega
theorem snap_len (h:fit n=true) (hs:Upt.stValid c L=true) (hc:L.length<=(plan n).cap):(Snap.enc c L).length<=64 * (plan n).s/\(Snap.enc c L).length<=262144:=by
 have hf:=fit_facts h
 have hb:=Snap.bound hs
 omega
theorem zi_l (h:Upt.valid u=true):(Upt.enc u).length<=263:=by
 unfold Upt.enc
 rcases Upt.valid_cases h with⟨h1,h2⟩|⟨h1,h2,-⟩
 ·rw [if_neg (by omega)]
  have:=Snap.pin_len h2
  simp only [List.length_cons];omega
 ·rw [if_pos h1]
  have h3:=Pin.name_len h2
  have h4:=Wire.enc_len_bound 1 u.p.h.length (by omega)
  unfold Wire.txt
  simp only [List.length_cons,List.length_append];omega
theorem zj_c (_h2:slot < 2) (h:Super.choose a b=((slot:Int),sup,0)):Super.dec (if slot=0 then a else b)=(sup,0):=by
 unfold Super.choose at h
 split at h
 ·injection h with _ h;injection h with _ h;cases h
 ·rename_i h0
  split at h
  ·rename_i h1
   injection h with hs h;injection h with hq _
   have:slot=1:=by omega
   rw [if_neg (by omega)]
   refine Prod.ext hq ?_
   rcases h1 with h1|h1
   ·by_cases hb:(Super.dec b).2=0
    ·exact hb
    ·exact absurd ⟨h1,hb⟩ h0
   ·exact h1.1
  ·rename_i h1
   injection h with hs h;injection h with hq _
   have:slot=0:=by omega
   rw [if_pos this]
   refine Prod.ext hq ?_
   by_cases ha:(Super.dec a).2=0
   ·exact ha
   ·exact absurd (.inl ha) h1
theorem zh_t (ha:Super.dec a=(s,0)) (hb:Super.dec b=(t,0)) (hg:t.gen < s.gen):Super.choose a b=(0,s,0):=by
 unfold Super.choose
 rw [ha,hb,if_neg (by simp),if_neg (by simp;omega)]
theorem zh_i (ha:Super.dec a=(t,0)) (hb:Super.dec b=(s,0)) (hg:t.gen < s.gen):Super.choose a b=(1,s,0):=by
 unfold Super.choose
 rw [ha,hb,if_neg (by simp),if_pos (.inr ⟨rfl,hg⟩)]
theorem zj_r (ha:Super.dec a=(s,0)) (hb:(Super.dec b).2 ≠ 0):Super.choose a b=(0,s,0):=by
 unfold Super.choose
 rw [ha,if_neg (by simp),if_neg]
 rintro (h|h)
 ·exact h rfl
 ·exact hb h.1
theorem zf_a:(Super.dec (List.replicate 64 0)).2 ≠ 0:=by decide +kernel
def logOf (n:Nat) (sup:Super.S) (ps:List (List UInt8)) (sy:Nat):Wal.L:=⟨(plan n).lf sup.act.toNat,(plan n).lc,sup.epoch,(Frame.cat sup.epoch 0 ps).length,ps.length,sy,false⟩
theorem zk_x (hq:Quiet n d) (hf:fit n=true) {L0:List Pin} {ps:List (List UInt8)} {m:Nat} (hi:Img n (V d) slot sup c L0 ps m) (hr:replay (plan n).cap c L0 ps=some L) :
 ∃ d',openS d=(some ⟨plan n,slot,sup,logOf n sup ps ps.length,false⟩,(c,L),0,d')/\Quiet n d'/\V d'=V d/\d'.st.flatten=V d':=by
 obtain⟨ha1,ha2⟩:=act_lt hi.val
 obtain⟨g1,g2,g3,g4,g5⟩:=zb_n hf ha2
 have hff:=fit_facts hf
 have hsl:=snap_len hf hi.st hi.cap
 have hr0:=hq.read 0 (by omega)
 have hr1:=hq.tick.read 1 (by omega)
 rw [show V (Disk.tick d)=V d from rfl] at hr1
 obtain⟨d2,r1,r2,r3⟩:=Extent.read_quiet hq.tick.tick (f:=sa n sup.act.toNat) (c:=(plan n).s) (o:=0) (l:=(Snap.enc c L0).length) (by omega) (by omega) (by omega)
 rw [show V (Disk.tick (Disk.tick d))=V d from rfl,Nat.add_zero,hi.snap] at r1
 rw [show V (Disk.tick (Disk.tick d))=V d from rfl] at r3
 obtain⟨d3,o1,o2,o3,o4⟩:=Wal.open_quiet r2 (f:=la n sup.act.toNat) (c:=lc n) (by omega) (by omega) sup.epoch hi.fits.2.1 ps m hi.small (by rw [r3];exact hi.log)
 refine⟨d3,?_,o2,o3.trans r3,o4⟩
 have e0:d.st.length=n:=hq.len
 unfold openS
 rw [e0,if_neg (by rw [hf];decide),show (0:Int)=((0:Nat):Int) from rfl,hr0]
 unfold open1
 rw [if_neg (by simp)]
 dsimp only
 rw [show (1:Int)=((1:Nat):Int) from rfl,hr1]
 unfold open2
 rw [if_neg (by simp)]
 dsimp only
 unfold open3
 rw [hi.ch]
 dsimp only
 rw [if_neg (by simp),if_neg (by rw [hi.ln];unfold Lay.sc;rw [Extent.size_nat _ (by omega)];omega)]
 have e1:(plan n).sf sup.act.toNat=((sa n sup.act.toNat:Nat):Int):=rfl
 have e2:(plan n).lf sup.act.toNat=((la n sup.act.toNat:Nat):Int):=rfl
 have e3:(plan n).lc=((lc n:Nat):Int):=rfl
 have e4:(plan n).sc=(((plan n).s:Nat):Int):=rfl
 rw [show ((0:Nat):Int)=0 from rfl] at r1
 rw [e1,e4,hi.ln,r1]
 unfold open4
 dsimp only
 rw [if_neg (by simp),hi.sum,Snap.dec_enc hi.st,if_neg (by have:=hi.cap;dsimp only;simp;omega)]
 dsimp only
 rw [e2,e3,o1]
 unfold open5
 dsimp only
 rw [if_neg (by simp),hr]
 rfl
theorem zf_b (cap c:Int) (u:UpdV) (hu:Upt.valid u=true) (ha:Upt.apply c L u cap=(L',0)):∀ (ps:List (List UInt8)) (L0:List Pin),replay cap c L0 ps=some L->replay cap c L0 (ps ++ [Upt.enc u])=some L'
|[],L0,h=>by
  cases h
  simp only [List.nil_append,replay]
  rw [Upt.dec_enc hu,if_neg (by simp)]
  dsimp only
  rw [ha,if_neg (by simp)]
|p :: ps,L0,h=>by
  simp only [List.cons_append,replay] at h ⊢
  split
  ·rename_i h1;rw [if_pos h1] at h;cases h
  ·rename_i h1
   rw [if_neg h1] at h
   split
   ·rename_i h2;rw [if_pos h2] at h;cases h
   ·rename_i h2
    rw [if_neg h2] at h
    exact zf_b cap c u hu ha ps _ h
structure Has (n:Nat) (d:Dk) (S:St) (c:Int) (L:List Pin):Prop where
 quiet:Quiet n d
 fit:fit n=true
 lay:S.lay=plan n
 fl:S.fl=false
 st:Upt.stValid c L=true
 cap:L.length<=(plan n).cap
 img:∃ L0 ps m sy,Img n (V d) S.slot S.sup c L0 ps m/\S.log=logOf n S.sup ps sy/\replay (plan n).cap c L0 ps=some L
theorem Has.open {d0:Dk} {S:St} (h:Has n d S c L) (hq:Quiet n d0) (hV:V d0=V d):∃ S' d',openS d0=(some S',(c,L),0,d')/\Has n d' S' c L/\S'.sup=S.sup/\d'.st.flatten=V d':=by
 obtain⟨L0,ps,m,sy,h1,h2,h3⟩:=h.img
 rw [<-hV] at h1
 obtain⟨d',o1,o2,o3,o4⟩:=zk_x hq h.fit h1 h3
 refine⟨_,d',o1,⟨o2,h.fit,rfl,rfl,h.st,h.cap,L0,ps,m,ps.length,by rw [o3];exact h1,rfl,h3⟩,rfl,o4⟩
theorem apply_cap {cap:Nat} (h:Upt.apply c L u cap=(L',0)) (hL:L.length<=cap) (hc:cap<=1000):L'.length<=cap/\Upt.stValid c L'=true/\Upt.valid u=true:=by
 obtain⟨h1,h2,h3⟩:=Upt.apply_ok (c:=c) (L:=L) (u:=u) (cap:=cap) (by rw [h])
 rw [h] at h3
 have h3:L'=Upt.upd L u:=h3
 have hl:L'.length<=cap:=by
  rcases Upt.kind_of h2 with hk|hk
  ·cases hh:Tab.hit L u.p.h with
  |true =>
    rw [Upt.apply_hit h1 h2 hk hh] at h
    cases h
    simpa using hL
  |false =>
    by_cases hf:min (cap:Int) 1000<=(L.length:Int)
    ·rw [Upt.apply_full h1 h2 hk hh hf] at h;cases h
    ·rw [Upt.apply_ins h1 h2 hk hh hf] at h
     cases h
     simp only [List.length_append,List.length_cons,List.length_take,List.length_drop]
     omega
  ·rw [Upt.apply_rem h1 h2 hk] at h
   cases h
   unfold Tab.remove
   split
   ·simp only [List.length_append,List.length_take,List.length_drop];omega
   ·exact hL
 refine⟨hl,?_,h2⟩
 rw [h3] at hl ⊢
 exact Upt.upd_state h1 h2 (by omega)
theorem Has.append {S:St} (h:Has n d S c L) (ha:Upt.apply c L u (plan n).cap=(L',0)) :
 (∃ S' d',append S d u=(0,S',d')/\Has n d' S' c L'/\S'.sup=S.sup/\d'.st.flatten=V d')\/(append S d u=(11,S,d)/\S.log.en ≠ 0):=by
 obtain⟨L0,ps,m,sy,h1,h2,h3⟩:=h.img
 have hff:=fit_facts h.fit
 obtain⟨c1,c2,c3⟩:=apply_cap ha h.cap hff.2.2.2.2.2.1
 obtain⟨ha1,ha2⟩:=act_lt h1.val
 obtain⟨g1,g2,g3,g4,g5⟩:=zb_n h.fit ha2
 have hes:=zi_l c3
 have hV:=Extent.V_length h.quiet.ok
 rw [h.quiet.len] at hV
 have hll:=congrArg List.length h1.log
 rw [List.length_take,List.length_drop,List.length_append,List.length_replicate,hV] at hll
 have e0:(S.log:Wal.L)=⟨((la n S.sup.act.toNat:Nat):Int),((lc n:Nat):Int),S.sup.epoch,(Frame.cat S.sup.epoch 0 ps).length,ps.length,sy,false⟩:=h2
 obtain⟨lay,slot,sup,log,fl⟩:=S
 obtain rfl:lay=plan n:=h.lay
 obtain rfl:fl=false:=h.fl
 dsimp only at *
 subst e0
 by_cases hfit:(Frame.cat sup.epoch 0 ps).length+(14+(Upt.enc u).length)<=lc n * 64
 ·left
  obtain⟨d1,a1,a2,a3⟩:=Wal.append_fits h.quiet (f:=la n sup.act.toNat) (c:=lc n) (by omega) g2 sup.epoch (Frame.cat sup.epoch 0 ps).length ps.length sy (Upt.enc u) (by omega) hfit
  obtain⟨d2,b1,b2,b3,b4⟩:=Wal.sync_quiet a2 (la n sup.act.toNat:Nat) (lc n:Nat) sup.epoch ((Frame.cat sup.epoch 0 ps).length+(14+(Upt.enc u).length)) (ps.length+1) sy
  have hen:=Frame.enc_length sup.epoch ps.length (Upt.enc u)
  refine⟨⟨plan n,slot,sup,logOf n sup (ps ++ [Upt.enc u]) (ps.length+1),false⟩,d2,?_,⟨b2,h.fit,rfl,rfl,c2,c1,L0,ps ++ [Upt.enc u],m - (14+(Upt.enc u).length),ps.length+1,?_,rfl,zf_b _ _ _ c3 ha ps L0 h3⟩,rfl,b4⟩
  ·unfold Reg.append
   dsimp only
   rw [if_neg (by simp),if_neg (by rw [c3];decide),a1]
   dsimp only
   rw [if_neg (by decide),if_neg (by decide),b1]
   dsimp only
   unfold logOf
   rw [Frame.cat_snoc,List.length_append,Nat.zero_add,hen,List.length_append]
   rfl
  ·rw [b3,a3]
   dsimp only
   refine⟨by rw [Super.spl_length _ _ _ (by rw [hen];omega)];exact h1.len,h1.s2,?_,h1.val,h1.fits,h1.ln,h1.sum,h1.st,h1.cap,?_,?_,?_⟩
   ·rw [zd_t _ _ _ _ _ (by omega) (by omega),zd_t _ _ _ _ _ (by omega) (by omega)]
    exact h1.ch
   ·have:=snap_len h.fit h1.st h1.cap
    rw [zd_t _ _ _ _ _ (by omega) (by omega)]
    exact h1.snap
   ·rw [zt_d _ _ _ _ _ (by omega) (by rw [hen];omega) (by omega),h1.log,Nat.add_sub_cancel_left]
    unfold Super.spl
    rw [List.take_left,hen,Frame.drop_app _ (by omega),Frame.cat_snoc,Nat.zero_add]
    congr 1
    rw [List.drop_replicate]
    congr 1;omega
   ·intro p hp
    rcases List.mem_append.1 hp with hp|hp
    ·exact h1.small p hp
    ·rw [List.mem_singleton.1 hp];omega
 ·right
  refine⟨?_,?_⟩
  ·unfold Reg.append
   dsimp only
   rw [if_neg (by simp),if_neg (by rw [c3];decide),Wal.append_refused (by omega) _ _ _ _ _ (by omega) (by omega)]
   dsimp only
   rw [if_pos rfl]
  ·intro he
   dsimp only at he
   omega
theorem run_nil (d:Dk):run [] d=(0,d):=rfl
theorem run_ok (h:f d=(0,d')):run (f :: fs) d=run fs d':=by simp only [run,h,if_true]
theorem run_er {z:Int} (h:f d=(z,d')) (hz:z ≠ 0):run (f :: fs) d=(z,d'):=by simp only [run,h,if_neg hz]
theorem zg_g (hq:Quiet n d) (hf:fit n=true) (hi:i < 2) (hb:b.length<=64 * (plan n).s) (fs:List (Dk->Int × Dk)) :
 ∃ d',run (prep (plan n) i b ++ fs) d=run fs d'/\Quiet n d'/\V d'=spl (spl (V d) (64 * sa n i) b) (64 * la n i) (List.replicate (64 * lc n) 0):=by
 obtain⟨g1,g2,g3,g4,g5⟩:=zb_n hf hi
 have hff:=fit_facts hf
 obtain⟨d1,a1,a2,a3⟩:=Extent.write_quiet hq (f:=sa n i) (c:=(plan n).s) (o:=0) (x:=b) (by omega) (by omega) (by omega)
 obtain⟨d2,b1,b2,b3⟩:=Extent.write_quiet a2 (f:=la n i) (c:=lc n) (o:=0) (x:=List.replicate (64 * lc n) 0) (by omega) (by omega) (by simp;omega)
 obtain⟨d3,s1,s2,s3,-⟩:=Extent.sync_quiet b2
 refine⟨d3,?_,s2,by rw [s3,b3,a3,Nat.add_zero,Nat.add_zero]⟩
 have e1:(plan n).sf i=((sa n i:Nat):Int):=rfl
 have e2:(plan n).lf i=((la n i:Nat):Int):=rfl
 have e3:(plan n).lc=((lc n:Nat):Int):=rfl
 have e4:(plan n).sc=(((plan n).s:Nat):Int):=rfl
 have e5:(Extent.size (plan n).lc).toNat=64 * lc n:=by rw [e3,Extent.size_nat _ (by omega)];omega
 unfold prep
 rw [e5,e1,e2,e3,e4]
 exact (run_ok a1).trans ((run_ok b1).trans (run_ok s1))
theorem zl_y (hq:Quiet n d) (hf:fit n=true):∃ d',format d=(0,d')/\Quiet n d'/\Img n (V d') 0 sup1 0 [] [] (64 * lc n)/\d'.st.flatten=V d':=by
 have hff:=fit_facts hf
 obtain⟨g1,g2,g3,g4,g5⟩:=zb_n hf (show 0 < 2 by omega)
 have hV:=Extent.V_length hq.ok
 rw [hq.len] at hV
 obtain⟨d1,p1,p2,p3⟩:=zg_g hq hf (i:=0) (b:=[0,0]) (by omega) (by simp;omega) [fun d=>Disk.write d 0 (Super.enc sup1),fun d=>Disk.write d 1 (List.replicate 64 0),Disk.sync]
 obtain⟨d2,a1,a2,a3⟩:=p2.swrite 0 (by omega) (Super.enc sup1) (Super.enc_length _)
 obtain⟨d3,b1,b2,b3⟩:=a2.swrite 1 (by omega) (List.replicate 64 0) (by simp)
 obtain⟨d4,s1,s2,s3,s4⟩:=Extent.sync_quiet b2
 have hc:crc [0,0] < 4294967296:=Crc.update_lt _ _
 have hv1:Super.valid sup1=true:=rfl
 have hfi:sup1.fits:=⟨by decide,by decide,hc⟩
 have hes:=Super.enc_length sup1
 refine⟨d4,?_,s2,?_,s4⟩
 ·unfold format
  rw [hq.len,if_neg (by rw [hf];decide),p1]
  exact (run_ok a1).trans ((run_ok b1).trans (run_ok s1))
 ·have l1:(spl (V d) (64 * sa n 0) [0,0]).length=64 * n:=by rw [Super.spl_length _ _ _ (by simp;omega)];exact hV
  have l2:(spl (spl (V d) (64 * sa n 0) [0,0]) (64 * la n 0) (List.replicate (64 * lc n) 0)).length=64 * n:=by rw [Super.spl_length _ _ _ (by rw [l1];simp;omega)];exact l1
  have l3:(spl (V d1) (64 * 0) (Super.enc sup1)).length=64 * n:=by rw [p3,Super.spl_length _ _ _ (by rw [l2,hes];omega)];exact l2
  rw [s3,b3,a3]
  have e40:Snap.enc 0 []=[0,0]:=by decide +kernel
  refine⟨?_,by omega,?_,hv1,hfi,by rw [e40];rfl,by rw [e40];rfl,by decide +kernel,by simp,?_,?_,by simp⟩
  ·rw [Super.spl_length _ _ _ (by rw [l3];simp;omega)];exact l3
  ·have e1:=zb_q (spl (V d1) (64 * 0) (Super.enc sup1)) (List.replicate 64 0) (64 * 1) (by omega)
   have e2:=zb_q (V d1) (Super.enc sup1) (64 * 0) (by omega)
   rw [List.length_replicate] at e1
   rw [hes] at e2
   rw [e1,zd_t _ _ _ _ _ (by omega) (by omega),e2]
   exact zj_r (Super.dec_enc _ hv1 hfi) zf_a
  ·have e3:sup1.act.toNat=0:=rfl
   have e4:=e40
   rw [e3,e4,zf_d _ _ _ _ _ (by simp;omega) (by omega),zf_d _ _ _ _ _ (by rw [hes];omega) (by omega),p3,zd_t _ _ _ _ _ (by simp;omega) (by omega)]
   exact zb_q _ _ _ (by omega)
  ·have e3:sup1.act.toNat=0:=rfl
   rw [e3,zf_d _ _ _ _ _ (by simp;omega) (by omega),zf_d _ _ _ _ _ (by rw [hes];omega) (by omega),p3]
   have:=zb_q (spl (V d) (64 * sa n 0) [0,0]) (List.replicate (64 * lc n) 0) (64 * la n 0) (by omega)
   rw [List.length_replicate] at this
   rw [this]
   rfl
theorem Has.compact {S:St} (h:Has n d S c L) {c':Int} (hs:Upt.stValid c' L'=true) (hc:L'.length<=(plan n).cap) (hg:S.sup.gen < 18446744073709551615) :
 ∃ S' d',compact S d c' L'=(0,S',d')/\Has n d' S' c' L'/\S'.sup.gen=S.sup.gen+1/\S'.log.en=0/\d'.st.flatten=V d':=by
 obtain⟨L0,ps,m,sy,h1,h2,h3⟩:=h.img
 have hff:=fit_facts h.fit
 obtain⟨ha1,ha2⟩:=act_lt h1.val
 have hV:=Extent.V_length h.quiet.ok
 rw [h.quiet.len] at hV
 obtain⟨lay,slot,sup,log,fl⟩:=S
 obtain rfl:lay=plan n:=h.lay
 obtain rfl:fl=false:=h.fl
 have hs2:=h1.s2
 have hch:=h1.ch
 have hfi:=h1.fits
 dsimp only at *
 have hb:=snap_len h.fit hs hc
 have hk:(1 - sup.act).toNat=1 - sup.act.toNat:=by omega
 have hk2:(1 - sup.act).toNat < 2:=by omega
 obtain⟨g1,g2,g3,g4,g5⟩:=zb_n h.fit hk2
 generalize hkk:(1 - sup.act).toNat=k at *
 obtain⟨d1,p1,p2,p3⟩:=zg_g h.quiet h.fit hk2 (b:=Snap.enc c' L') hb.1 []
 rw [List.append_nil] at p1
 have l1:(spl (V d) (64 * sa n k) (Snap.enc c' L')).length=64 * n:=by rw [Super.spl_length _ _ _ (by omega)];exact hV
 have l2:(V d1).length=64 * n:=by rw [p3,Super.spl_length _ _ _ (by rw [l1];simp;omega)];exact l1
 have hz:=zb_q (spl (V d) (64 * sa n k) (Snap.enc c' L')) (List.replicate (64 * lc n) 0) (64 * la n k) (by omega)
 rw [List.length_replicate,<-p3] at hz
 obtain⟨d2,o1,o2,o3,-⟩:=Wal.open_quiet p2 (f:=la n k) (c:=lc n) (by omega) g2 ((sup.epoch+1) % 4294967296) (by omega) [] (64 * lc n) (by simp) (by rw [hz];rfl)
 obtain⟨S',hS'⟩:∃ S':St,S'=⟨plan n,1 - slot,next ⟨plan n,slot,sup,log,false⟩ (Snap.enc c' L'),⟨((la n k:Nat):Int),((lc n:Nat):Int),(sup.epoch+1) % 4294967296,0,0,0,false⟩,false⟩:=⟨_,rfl⟩
 generalize hnx:next ⟨plan n,slot,sup,log,false⟩ (Snap.enc c' L')=nx at *
 have hn1:nx.gen=sup.gen+1:=by rw [<-hnx];rfl
 have hn2:nx.act=((k:Nat):Int):=by rw [<-hnx];show 1 - sup.act=_;omega
 have hn3:nx.epoch=(sup.epoch+1) % 4294967296:=by rw [<-hnx];rfl
 have hn4:nx.len=((Snap.enc c' L').length:Int):=by rw [<-hnx];rfl
 have hn5:nx.sum=crc (Snap.enc c' L'):=by rw [<-hnx];rfl
 have hnv:Super.valid nx=true:=by
  unfold Super.valid
  rw [hn2,hn4]
  simp only [Bool.and_eq_true,Bool.or_eq_true,beq_iff_eq,decide_eq_true_eq]
  omega
 have hnf:nx.fits:=⟨by omega,by omega,by rw [hn5];exact Crc.update_lt _ _⟩
 have hes:=Super.enc_length nx
 obtain⟨d3,b1,b2,b3⟩:=o2.swrite (1 - slot) (by omega) (Super.enc nx) hes
 obtain⟨d4,s1,s2,s3,s4⟩:=Extent.sync_quiet b2
 have hka:nx.act.toNat=k:=by omega
 refine⟨S',d4,?_,⟨s2,h.fit,by rw [hS'],by rw [hS'],hs,hc,L',[],64 * lc n,0,?_,?_,rfl⟩,by rw [hS'];exact hn1,by rw [hS'],s4⟩
 ·unfold Reg.compact
  dsimp only
  rw [if_neg (by simp),if_neg (by rw [hs];simp;omega),if_neg (by omega),hkk,p1]
  rw [run_nil]
  unfold compact2
  dsimp only
  rw [if_neg (by simp),hkk]
  have e2:(plan n).lf k=((la n k:Nat):Int):=rfl
  have e3:(plan n).lc=((lc n:Nat):Int):=rfl
  rw [e2,e3,o1]
  unfold compact3
  dsimp only
  rw [if_neg (by simp),hnx]
  rw [(run_ok b1).trans ((run_ok s1).trans (run_nil _))]
  dsimp only
  rw [if_neg (by simp),hS']
  rfl
 ·rw [hS',s3,b3,o3]
  dsimp only
  have e0:∀ i,i < 2->((V d1).drop (64 * i)).take 64=((V d).drop (64 * i)).take 64:=fun i hi=>by
   rw [p3,zd_t _ _ _ _ _ (by omega) (by omega),zd_t _ _ _ _ _ (by omega) (by omega)]
  have hold:=zj_c hs2 hch
  have hnew:=Super.dec_enc nx hnv hnf
  refine⟨?_,by omega,?_,hnv,hnf,hn4,hn5,hs,hc,?_,?_,by simp⟩
  ·rw [Super.spl_length _ _ _ (by omega)];exact l2
  ·rcases (show slot=0\/slot=1 by omega) with rfl|rfl
   ·have e1:=zb_q (V d1) (Super.enc nx) (64 * 1) (by omega)
    rw [hes] at e1
    rw [if_pos rfl] at hold
    rw [e1,zd_t _ _ _ _ _ (by omega) (by omega),e0 0 (by omega)]
    exact zh_i hold hnew (by omega)
   ·have e1:=zb_q (V d1) (Super.enc nx) (64 * 0) (by omega)
    rw [hes] at e1
    rw [if_neg (by omega)] at hold
    rw [e1,zf_d _ _ _ _ _ (by omega) (by omega),e0 1 (by omega)]
    exact zh_t hnew hold (by omega)
  ·rw [hka,zf_d _ _ _ _ _ (by omega) (by omega),p3,zd_t _ _ _ _ _ (by omega) (by omega)]
   exact zb_q _ _ _ (by omega)
  ·rw [hka,zf_d _ _ _ _ _ (by omega) (by omega),hz]
   rfl
 ·rw [hS']
  unfold logOf
  rw [hka]
  show _=_
  rw [hn3]
  rfl
end Reg
end
section
open Disk (Dk)
variable {d:Dk} {c f:Int} {ep:Nat}
theorem Frame.go_small (b:List UInt8) (ep f:Nat):∀ k out e,(∀ p ∈ out,p.length<=1024)->∀ p ∈ (Frame.go b ep f k out e).1,p.length<=1024:=by
 induction f with
|zero=>intro k out e h;exact h
|succ f ih =>
  intro k out e h
  by_cases hz:(Frame.dec (b.drop e) ep k).2.2=0
  ·rw [Frame.go_ok _ _ _ _ _ _ hz]
   refine ih _ _ _ fun p hp=>?_
   rcases List.mem_append.1 hp with hp|hp
   ·exact h p hp
   ·rw [List.mem_singleton.1 hp];exact (Frame.dec_ok _ _ _ hz).2.2
  ·rw [Frame.go_end _ _ _ _ _ _ hz];exact h
theorem Frame.scan_small (b:List UInt8) (ep:Nat):∀ p ∈ (Frame.scan b ep).1,p.length<=1024:=Frame.go_small _ _ _ _ _ _ (by simp)
theorem Wal.open_small (d:Dk) (f c:Int) (ep:Nat):∀ p ∈ (Wal.open d f c ep).2.1,p.length<=1024:=by
 rcases h0:Extent.read d f c 0 (Extent.size c) with⟨b,z,d1⟩
 by_cases hz:z=0
 ·subst hz
  rcases he:Wal.erase d1 f c (Frame.scan b ep).2 (b.drop (Frame.scan b ep).2) with⟨z2,d2⟩
  by_cases hz2:z2=0
  ·subst hz2
   rcases hs:Disk.sync d2 with⟨z3,d3⟩
   by_cases hz3:z3=0
   ·subst hz3;rw [Wal.open_o h0 he hs];exact Frame.scan_small b ep
   ·rw [Wal.open_e3 h0 he hs hz3];simp
  ·rw [Wal.open_e2 h0 he hz2];simp
 ·rw [Wal.open_e1 h0 hz];simp
theorem Wal.open_fl {L:Wal.L} (h:(Wal.open d f c ep).1=some L):L.fl=false/\(Wal.open d f c ep).2.2.1=0:=by
 rcases h0:Extent.read d f c 0 (Extent.size c) with⟨b,z,d1⟩
 by_cases hz:z=0
 ·subst hz
  rcases he:Wal.erase d1 f c (Frame.scan b ep).2 (b.drop (Frame.scan b ep).2) with⟨z2,d2⟩
  by_cases hz2:z2=0
  ·subst hz2
   rcases hs:Disk.sync d2 with⟨z3,d3⟩
   by_cases hz3:z3=0
   ·subst hz3;rw [Wal.open_o h0 he hs] at h ⊢;cases h;exact⟨rfl,rfl⟩
   ·rw [Wal.open_e3 h0 he hs hz3] at h;cases h
  ·rw [Wal.open_e2 h0 he hz2] at h;cases h
 ·rw [Wal.open_e1 h0 hz] at h;cases h
theorem Wal.open_some (h:(Wal.open d f c ep).2.2.1=0):∃ L,(Wal.open d f c ep).1=some L:=by
 rcases h0:Extent.read d f c 0 (Extent.size c) with⟨b,z,d1⟩
 by_cases hz:z=0
 ·subst hz
  rcases he:Wal.erase d1 f c (Frame.scan b ep).2 (b.drop (Frame.scan b ep).2) with⟨z2,d2⟩
  by_cases hz2:z2=0
  ·subst hz2
   rcases hs:Disk.sync d2 with⟨z3,d3⟩
   by_cases hz3:z3=0
   ·subst hz3;rw [Wal.open_o h0 he hs];exact⟨_,rfl⟩
   ·rw [Wal.open_e3 h0 he hs hz3] at h;exact absurd h hz3
  ·rw [Wal.open_e2 h0 he hz2] at h;exact absurd h hz2
 ·rw [Wal.open_e1 h0 hz] at h;exact absurd h hz
namespace Super
theorem zh_c (b:List UInt8) (i n:Nat):field b i n < 256 ^ n:=by
 unfold field
 refine Nat.lt_of_lt_of_le (unle_lt _) (Nat.pow_le_pow_right (by omega) ?_)
 rw [List.length_take];omega
theorem zi_q {l:List UInt8} {t:S} (h:dec l=(t,0)):valid t=true/\t.fits:=by
 unfold dec at h
 split at h
 ·cases h
 ·split at h
  ·cases h
  ·split at h
   ·rename_i hv
    cases h
    exact⟨hv.1,zh_c l 6 8,zh_c l 14 4,zh_c l 22 4⟩
   ·cases h
theorem choose_facts {a b:List UInt8} {k:Int} {s:S} (h:choose a b=(k,s,0)):(k=0\/k=1)/\valid s=true/\s.fits:=by
 unfold choose at h
 split at h
 ·cases h
 ·rename_i h0
  split at h
  ·rename_i h1
   injection h with hs h;injection h with hq _
   refine⟨.inr hs.symm,zi_q (l:=b) (Prod.ext hq ?_)⟩
   rcases h1 with h1|h1
   ·by_cases hb:(dec b).2=0
    ·exact hb
    ·exact absurd ⟨h1,hb⟩ h0
   ·exact h1.1
  ·rename_i h1
   injection h with hs h;injection h with hq _
   refine⟨.inl hs.symm,zi_q (l:=a) (Prod.ext hq ?_)⟩
   by_cases ha:(dec a).2=0
   ·exact ha
   ·exact absurd (.inl ha) h1
end Super
namespace Reg
structure Ok (n:Nat) (S:St):Prop where
 fit:fit n=true
 max:n<=1000
 lay:S.lay=plan n
 slot:S.slot < 2
 val:Super.valid S.sup=true
 fits:S.sup.fits
 log:GoodL S.log
 fl:S.fl=false->S.log.fl=false
end Reg
end
section
open Disk (Dk)
variable {d:Dk} {n:Nat}
structure Kept (P:Dk->Prop):Prop where
 rd:∀ d i,P d->P (Disk.read d i).2.2
 wr:∀ d i x,P d->P (Disk.write d i x).2
 sy:∀ d,P d->P (Disk.sync d).2
theorem Kept.okN (N:Nat):Kept fun d=>d.Ok/\d.st.length=N where
 rd:=fun d i ⟨h,e⟩=>⟨h.read i,by rw [(Disk.read_st d i).1];exact e⟩
 wr:=fun d i x ⟨h,e⟩=>⟨h.write i x,by rw [Disk.write_st d i x];exact e⟩
 sy:=fun d ⟨h,e⟩=>⟨h.sync,by rw [Disk.sync_len];exact e⟩
theorem Reg.run_kept {P:Dk->Prop}:∀ (fs:List (Dk->Int × Dk)) (d:Dk),(∀ f ∈ fs,∀ d,P d->P (f d).2)->P d->P (Reg.run fs d).2
|[],_,_,h=>h
|f :: fs,d,hf,h=>by
  have h1:=hf f (List.mem_cons_self ..) d h
  rcases hfd:f d with⟨z,d1⟩
  rw [hfd] at h1
  by_cases hz:z=0
  ·subst hz
   rw [Reg.run_ok hfd]
   exact Reg.run_kept fs d1 (fun g hg=>hf g (List.mem_cons_of_mem _ hg)) h1
  ·rw [Reg.run_er hfd hz];exact h1
section
variable {P:Dk->Prop} (K:Kept P)
include K
theorem Kept.erd (first off e:Nat):∀ (m k:Nat) (acc:List UInt8) (d:Dk),P d->P (Extent.rd first off e m k acc d).2.2:=by
 intro m
 induction m with
|zero=>intro k acc d h;exact h
|succ m ih =>
  intro k acc d h
  rcases hr:Disk.read d ((first+Extent.pos off e k / 64:Nat):Int) with⟨b,z,d1⟩
  have hs:=K.rd d ((first+Extent.pos off e k / 64:Nat):Int) h
  rw [hr] at hs
  by_cases hz:z=0
  ·subst hz;rw [Extent.rd_ok hr];exact ih _ _ _ hs
  ·rw [Extent.rd_err hr hz];exact hs
theorem Kept.ewr (first off e:Nat):∀ (m k:Nat) (x:List UInt8) (d:Dk),P d->P (Extent.wr first off e m k x d).2:=by
 intro m
 induction m with
|zero=>intro k x d h;exact h
|succ m ih =>
  intro k x d h
  by_cases hs:Extent.step e (Extent.pos off e k) < 64
  ·rcases hr:Disk.read d ((first+Extent.pos off e k / 64:Nat):Int) with⟨b,z,d1⟩
   have h1:=K.rd d ((first+Extent.pos off e k / 64:Nat):Int) h
   rw [hr] at h1
   by_cases hz:z=0
   ·subst hz
    rcases hw:Disk.write d1 ((first+Extent.pos off e k / 64:Nat):Int) (b.take (Extent.pos off e k % 64) ++ x.take (Extent.step e (Extent.pos off e k)) ++ b.drop (Extent.pos off e k % 64+Extent.step e (Extent.pos off e k))) with⟨z2,d2⟩
    have h2:=K.wr d1 ((first+Extent.pos off e k / 64:Nat):Int) (b.take (Extent.pos off e k % 64) ++ x.take (Extent.step e (Extent.pos off e k)) ++ b.drop (Extent.pos off e k % 64+Extent.step e (Extent.pos off e k))) h1
    rw [hw] at h2
    rw [Extent.wr_part hs hr hw]
    split
    ·exact ih _ _ _ h2
    ·exact h2
   ·rw [Extent.wr_rerr hs hr hz];exact h1
  ·rcases hw:Disk.write d ((first+Extent.pos off e k / 64:Nat):Int) (x.take (Extent.step e (Extent.pos off e k))) with⟨z2,d2⟩
   have h2:=K.wr d ((first+Extent.pos off e k / 64:Nat):Int) (x.take (Extent.step e (Extent.pos off e k))) h
   rw [hw] at h2
   rw [Extent.wr_full hs hw]
   split
   ·exact ih _ _ _ h2
   ·exact h2
theorem Kept.eread (h:P d) (f c off len:Int):P (Extent.read d f c off len).2.2:=by
 unfold Extent.read;split
 ·exact K.erd _ _ _ _ _ _ _ h
 ·exact h
theorem Kept.ewrite (h:P d) (f c off:Int) (x:List UInt8):P (Extent.write d f c off x).2:=by
 unfold Extent.write;split
 ·exact K.ewr _ _ _ _ _ _ _ h
 ·exact h
theorem Kept.prep (l:Reg.Lay) (i:Nat) (b:List UInt8) (h:P d):P (Reg.run (Reg.prep l i b) d).2:=by
 refine Reg.run_kept _ _ (fun f hf d h=>?_) h
 simp only [Reg.prep,List.mem_cons,List.not_mem_nil,or_false] at hf
 rcases hf with rfl|rfl|rfl
 ·exact K.ewrite h _ _ _ _
 ·exact K.ewrite h _ _ _ _
 ·exact K.sy d h
theorem Kept.erase (h:P d) (f c en:Int) (r:List UInt8):P (Wal.erase d f c en r).2:=by
 unfold Wal.erase;split
 ·exact h
 ·exact K.ewrite h _ _ _ _
theorem Kept.wopen (h:P d) (f c:Int) (ep:Nat):P (Wal.open d f c ep).2.2.2:=by
 rcases hr:Extent.read d f c 0 (Extent.size c) with⟨b,z,d1⟩
 have h1:=K.eread h f c 0 (Extent.size c)
 rw [hr] at h1
 by_cases hz:z=0
 ·subst hz
  rcases he:Wal.erase d1 f c (Frame.scan b ep).2 (b.drop (Frame.scan b ep).2) with⟨z2,d2⟩
  have h2:=K.erase h1 f c (Frame.scan b ep).2 (b.drop (Frame.scan b ep).2)
  rw [he] at h2
  by_cases hz2:z2=0
  ·subst hz2
   rcases hs:Disk.sync d2 with⟨z3,d3⟩
   have h3:=K.sy d2 h2
   rw [hs] at h3
   by_cases hz3:z3=0
   ·subst hz3;rw [Wal.open_o hr he hs];exact h3
   ·rw [Wal.open_e3 hr he hs hz3];exact h3
  ·rw [Wal.open_e2 hr he hz2];exact h2
 ·rw [Wal.open_e1 hr hz];exact h1
namespace Reg
theorem keptFormat (h:P d):P (format d).2:=by
 unfold format
 split
 ·exact h
 ·refine Reg.run_kept _ _ (fun f hf d h=>?_) h
  simp only [prep,List.cons_append,List.nil_append,List.mem_cons,List.not_mem_nil,or_false] at hf
  rcases hf with rfl|rfl|rfl|rfl|rfl|rfl
  ·exact K.ewrite h _ _ _ _
  ·exact K.ewrite h _ _ _ _
  ·exact K.sy d h
  ·exact K.wr d _ _ h
  ·exact K.wr d _ _ h
  ·exact K.sy d h
end Reg
end
def dz (z:Int):Prop:=z=0\/z=1\/z=2\/z=9\/z=10
theorem Disk.begin_z (d:Dk) (b:Bool):dz (Disk.begin d b).2.1:=by
 unfold Disk.begin dz
 split
 ·simp
 ·split
  ·split
   ·simp
   ·split <;> simp
  ·simp
theorem Disk.read_z (d:Dk) (i:Int):dz (Disk.read d i).2.1:=by
 have h:=Disk.begin_z d (Disk.fits d i)
 unfold Disk.read
 rcases hb:Disk.begin d (Disk.fits d i) with⟨t,e,d1⟩
 rw [hb] at h
 cases t
 ·dsimp only;split
  ·exact .inl rfl
  ·exact h
 ·exact .inr (.inr (.inr (.inr rfl)))
theorem Disk.write_z (d:Dk) (i:Int) (x:List UInt8):dz (Disk.write d i x).1:=by
 have h:=Disk.begin_z d (Disk.fits d i && decide (x.length=64))
 unfold Disk.write
 rcases hb:Disk.begin d (Disk.fits d i && decide (x.length=64)) with⟨t,e,d1⟩
 rw [hb] at h
 cases t
 ·dsimp only;split
  ·exact .inl rfl
  ·exact h
 ·exact .inr (.inr (.inr (.inr rfl)))
theorem Extent.wr_z (first off e:Nat):∀ (m k:Nat) (x:List UInt8) (d:Dk),dz (Extent.wr first off e m k x d).1:=by
 intro m
 induction m with
|zero=>intro k x d;exact .inl rfl
|succ m ih =>
  intro k x d
  by_cases hs:Extent.step e (Extent.pos off e k) < 64
  ·rcases hr:Disk.read d ((first+Extent.pos off e k / 64:Nat):Int) with⟨b,z,d1⟩
   have h1:=Disk.read_z d ((first+Extent.pos off e k / 64:Nat):Int)
   rw [hr] at h1
   by_cases hz:z=0
   ·subst hz
    rcases hw:Disk.write d1 ((first+Extent.pos off e k / 64:Nat):Int) (b.take (Extent.pos off e k % 64) ++ x.take (Extent.step e (Extent.pos off e k)) ++ b.drop (Extent.pos off e k % 64+Extent.step e (Extent.pos off e k))) with⟨z2,d2⟩
    have h2:=Disk.write_z d1 ((first+Extent.pos off e k / 64:Nat):Int) (b.take (Extent.pos off e k % 64) ++ x.take (Extent.step e (Extent.pos off e k)) ++ b.drop (Extent.pos off e k % 64+Extent.step e (Extent.pos off e k)))
    rw [hw] at h2
    rw [Extent.wr_part hs hr hw]
    split
    ·exact ih _ _ _
    ·exact h2
   ·rw [Extent.wr_rerr hs hr hz];exact h1
  ·rcases hw:Disk.write d ((first+Extent.pos off e k / 64:Nat):Int) (x.take (Extent.step e (Extent.pos off e k))) with⟨z2,d2⟩
   have h2:=Disk.write_z d ((first+Extent.pos off e k / 64:Nat):Int) (x.take (Extent.step e (Extent.pos off e k)))
   rw [hw] at h2
   rw [Extent.wr_full hs hw]
   split
   ·exact ih _ _ _
   ·exact h2
theorem Extent.check_z (n:Nat) (f c off len:Int):dz (Extent.check n f c off len):=by
 unfold Extent.check dz
 split
 ·split <;> simp
 ·simp
theorem Extent.write_z (d:Dk) (f c off:Int) (x:List UInt8):dz (Extent.write d f c off x).1:=by
 unfold Extent.write;split
 ·exact Extent.wr_z _ _ _ _ _ _ _
 ·exact Extent.check_z _ _ _ _ _
namespace Reg
theorem zl_o {S:St} (h:Ok n S) {c:Int} {L:List Pin} (hv:Upt.stValid c L=true) (hc:L.length<=S.lay.cap) (hg:S.sup.gen ≠ 18446744073709551615) :
 Super.valid (next S (Snap.enc c L))=true/\(next S (Snap.enc c L)).fits/\(((1 - S.sup.act).toNat:Nat):Int)=1 - S.sup.act/\(1 - S.sup.act).toNat < 2:=by
 obtain⟨a1,a2⟩:=act_lt h.val
 have hl:=(snap_len h.fit hv (by have:=h.lay;rw [this] at hc;exact hc)).2
 refine⟨?_,⟨?_,Nat.mod_lt _ (by omega),Crc.update_lt _ _⟩,by omega,by omega⟩
 ·have e1:(next S (Snap.enc c L)).act=1 - S.sup.act:=rfl
  have e2:(next S (Snap.enc c L)).len=((Snap.enc c L).length:Int):=rfl
  have e3:(next S (Snap.enc c L)).gen=S.sup.gen+1:=rfl
  unfold Super.valid
  rw [e1,e2]
  simp
  omega
 ·have:=h.fits.1
  show S.sup.gen+1 < _
  omega
theorem append_facts {S:St} (h:Ok n S) (d:Dk) (u:UpdV) :
 Ok n (append S d u).2.1/\(append S d u).2.1.sup=S.sup/\(S.fl=false->Upt.valid u=true->(append S d u).2.1.fl=(append S d u).2.1.log.fl)/\(S.fl=true\/Upt.valid u=false->(append S d u).2.1=S):=by
 unfold append
 by_cases hf:S.fl=true
 ·rw [if_pos hf];exact⟨h,rfl,fun e=>(by rw [hf] at e;cases e),fun _=>rfl⟩
 ·rw [if_neg hf]
  have hf':S.fl=false:=by simpa using hf
  by_cases hv:Upt.valid u=false
  ·rw [if_pos hv];exact⟨h,rfl,fun _ e=>(by rw [hv] at e;cases e),fun _=>rfl⟩
  ·rw [if_neg hv]
   have hv':Upt.valid u=true:=by simpa using hv
   have hlf:=h.fl hf'
   have hen:=zi_l hv'
   have hG:=h.log.append d (Upt.enc u)
   have key:∀ z L1 d1,Wal.append S.log d (Upt.enc u)=(z,L1,d1)->(z=11->L1=S.log)/\(z=0->L1.fl=false)/\(z ≠ 0->z ≠ 11->L1.fl=true):=by
    intro z L1 d1 ha
    unfold Wal.append at ha
    rw [if_neg (by rw [hlf];decide),if_neg (by omega)] at ha
    split at ha
    ·injection ha with h1 ha;injection ha with h2 _
     exact⟨fun _=>h2.symm,fun e=>by omega,fun _ e=>absurd h1.symm e⟩
    ·have hz:=Extent.write_z d S.log.f S.log.c S.log.en (Frame.enc S.log.ep S.log.rc (Upt.enc u))
     rcases hs:Extent.write d S.log.f S.log.c S.log.en (Frame.enc S.log.ep S.log.rc (Upt.enc u)) with⟨z1,d2⟩
     rw [hs] at ha hz
     dsimp only at ha hz
     split at ha
     ·injection ha with h1 ha;injection ha with h2 _
      subst h1 h2
      exact⟨fun e=>(by cases e),fun _=>hlf,fun e=>absurd rfl e⟩
     ·rename_i hz1
      injection ha with h1 ha;injection ha with h2 _
      subst h1 h2
      refine⟨fun e=>?_,fun e=>absurd e hz1,fun _ _=>rfl⟩
      unfold dz at hz;omega
   rcases ha:Wal.append S.log d (Upt.enc u) with⟨z,L1,d1⟩
   obtain⟨k1,k2,k3⟩:=key _ _ _ ha
   rw [ha] at hG
   have hG1:GoodL L1:=hG
   dsimp only
   have nf:¬ (S.fl=true\/Upt.valid u=false):=by rintro (e|e);exact hf e;exact hv e
   by_cases hz11:z=11
   ·rw [if_pos hz11]
    have:=k1 hz11
    subst this
    exact⟨⟨h.fit,h.max,h.lay,h.slot,h.val,h.fits,hG1,h.fl⟩,rfl,fun _ _=>by show S.fl=S.log.fl;rw [hf',hlf],fun e=>absurd e nf⟩
   ·rw [if_neg hz11]
    by_cases hz0:z=0
    ·rw [if_neg (by simpa using hz0)]
     have hl1:=k2 hz0
     have hG2:=hG1.sync d1
     have key2:∀ z2 L2 d2,Wal.sync L1 d1=(z2,L2,d2)->L2.fl=decide (z2 ≠ 0):=by
      intro z2 L2 d2 hs
      unfold Wal.sync at hs
      rw [if_neg (by rw [hl1];decide)] at hs
      rcases hd:Disk.sync d1 with⟨z3,d3⟩
      rw [hd] at hs
      dsimp only at hs
      split at hs
      ·injection hs with h1 hs;injection hs with h2 _
       subst h1 h2;simpa using hl1
      ·rename_i hz3
       injection hs with h1 hs;injection hs with h2 _
       subst h1 h2;simp [hz3]
     rcases hs:Wal.sync L1 d1 with⟨z2,L2,d2⟩
     have k4:=key2 _ _ _ hs
     rw [hs] at hG2
     have hG3:GoodL L2:=hG2
     dsimp only
     exact⟨⟨h.fit,h.max,h.lay,h.slot,h.val,h.fits,hG3,fun e=>by rw [k4];exact e⟩,rfl,fun _ _=>k4.symm,fun e=>absurd e nf⟩
    ·rw [if_pos hz0]
     exact⟨⟨h.fit,h.max,h.lay,h.slot,h.val,h.fits,hG1,fun e=>by cases e⟩,rfl,fun _ _=>(k3 hz0 hz11).symm,fun e=>absurd e nf⟩
theorem Ok.failed {S:St} (h:Ok n S):Ok n { S with fl:=true }:=⟨h.fit,h.max,h.lay,h.slot,h.val,h.fits,h.log,fun e=>by cases e⟩
theorem compact_ok {S:St} (h:Ok n S) (hd:d.Ok) (hn:d.st.length=n) (c:Int) (L:List Pin):Ok n (compact S d c L).2.1:=by
 unfold compact
 split
 ·exact h
 ·rename_i hf
  split
  ·exact h
  ·rename_i hv
   split
   ·exact h
   ·rename_i hg
    have hv':Upt.stValid c L=true:=by
     cases e:Upt.stValid c L
     ·exact absurd (.inl e) hv
     ·rfl
    have hc':L.length<=S.lay.cap:=by
     rcases Nat.lt_or_ge S.lay.cap L.length with e|e
     ·exact absurd (.inr e) hv
     ·exact e
    obtain⟨n1,n2,n3,n4⟩:=zl_o h hv' hc' hg
    have h1:=(Kept.okN n).prep S.lay (1 - S.sup.act).toNat (Snap.enc c L) ⟨hd,hn⟩
    rcases hp:run (prep S.lay (1 - S.sup.act).toNat (Snap.enc c L)) d with⟨z,d1⟩
    rw [hp] at h1
    unfold compact2
    split
    ·exact h.failed
    ·dsimp only at h1 ⊢
     have hib:ib (S.lay.lf (1 - S.sup.act).toNat)/\ib S.lay.lc:=by
      rw [h.lay]
      have hff:=fit_facts h.fit
      have hm:(1 - S.sup.act).toNat * (plan n).h<=(plan n).h:=by
       have:=Nat.mul_le_mul_right (plan n).h (show (1 - S.sup.act).toNat<=1 by omega);omega
      unfold Lay.lf Lay.lc ib
      omega
     have hgo:=fun L (e:(Wal.open d1 (S.lay.lf (1 - S.sup.act).toNat) S.lay.lc ((S.sup.epoch+1) % 4294967296)).1=some L)=>GoodL.opened h1.1 (by rw [h1.2];exact h.max) hib.1 hib.2 (Nat.mod_lt _ (by omega)) e
     have hfl:=fun L (e:(Wal.open d1 (S.lay.lf (1 - S.sup.act).toNat) S.lay.lc ((S.sup.epoch+1) % 4294967296)).1=some L)=>(Wal.open_fl e).1
     have hso:=fun (e:(Wal.open d1 (S.lay.lf (1 - S.sup.act).toNat) S.lay.lc ((S.sup.epoch+1) % 4294967296)).2.2.1=0)=>Wal.open_some e
     rcases ho:Wal.open d1 (S.lay.lf (1 - S.sup.act).toNat) S.lay.lc ((S.sup.epoch+1) % 4294967296) with⟨lo,ps,z2,d2⟩
     rw [ho] at hgo hfl hso
     unfold compact3
     split
     ·exact h.failed
     ·rename_i hz2
      dsimp only at hz2 hgo hfl hso ⊢
      obtain⟨L1,hL1⟩:=hso (by simpa using hz2)
      have g1:=hgo L1 hL1
      have g2:=hfl L1 hL1
      subst hL1
      rcases hq:run [fun d=>Disk.write d ((1 - S.slot:Nat):Int) (Super.enc (next S (Snap.enc c L))),Disk.sync] d2 with⟨z3,d3⟩
      dsimp only
      split
      ·exact h.failed
      ·exact⟨h.fit,h.max,h.lay,by show 1 - S.slot < 2;omega,n1,n2,g1,fun _=>g2⟩
theorem format_len (d:Dk):(format d).2.st.length=d.st.length :=
 keptFormat (P:=fun x=>x.st.length=d.st.length) ⟨fun a i h=>by rw [(Disk.read_st a i).1];exact h,fun a i x h=>by rw [Disk.write_st a i x];exact h,fun a h=>by rw [Disk.sync_len];exact h⟩ rfl
end Reg
end
section
open Go.RowKit
variable {h k k0 m n s:Nat}
def layv (k a b c d s t:Int):Value:=.agg #[.int .i64 k,.int .i64 a,.int .i64 s,.int .i64 b,.int .i64 s,.int .i64 c,.int .i64 t,.int .i64 d,.int .i64 t]
def Reg.Lay.v (l:Reg.Lay):Value:=layv l.cap (l.sf 0) (l.sf 1) (l.lf 0) (l.lf 1) l.sc l.lc
def lay0:Value:=layv 0 0 0 0 0 0 0
def planV (n:Nat):Value:=if Reg.fit n then (Reg.plan n).v else lay0
def planE (n:Nat):Int:=if Reg.fit n then 0 else 2
theorem zb_z (h:Reg.fit n=false):planV n=lay0/\planE n=2:=by unfold planV planE;rw [h];exact⟨rfl,rfl⟩
theorem zs_j (hf:Reg.fit n=true) (hh:(n - 2) / 2=h) (hs:h / 2=s) (hk:min ((s * 64 - 8) / 262) 1000=k):planE n=0/\planV n=layv k 2 (2+h) (2+s) (2+h+s) s ((h:Int) - s):=by
 have e:Reg.plan n=⟨h,s,k⟩:=by unfold Reg.plan;rw [hh,hs,hk]
 have hsh:s<=h:=by omega
 unfold planV planE
 rw [hf,e]
 refine⟨rfl,?_⟩
 unfold Reg.Lay.v Reg.Lay.sf Reg.Lay.lf Reg.Lay.sc Reg.Lay.lc
 simp only [if_true]
 congr 1 <;> omega
theorem zk_f (hh:(m - 2) / 2=h) (hs:h / 2=s) (hk0:(s * 64 - 8) / 262=k0) (hk:min k0 1000=k) (h1:1<=m) (hm:m<=4096):s<=h/\h<=2047/\k<=1000/\((s:Int) < 1->k < 1)/\s<=4096/\1<=m/\m<=4096:=by omega
theorem zo_m (hk:min k0 1000=k):min (k0:Int) 1000=(k:Int):=by omega
theorem zs_n (hh:(m - 2) / 2=h) (hm:1<=m):((m:Int) - 2).tdiv 2=(h:Int):=by
 by_cases h1:m=1
 ·subst h1;subst hh;rfl
 ·rw [Int.tdiv_eq_ediv_of_nonneg (by omega)];omega
theorem zs_x (hs:h / 2=s):(h:Int) / 2=(s:Int):=by omega
theorem zs_m (hk:(s * 64 - 8) / 262=k0):((s:Int) * 64 - 8).tdiv 262=(k0:Int):=by
 by_cases h1:s=0
 ·subst h1;subst hk;rfl
 ·rw [Int.tdiv_eq_ediv_of_nonneg (by omega)];omega
theorem zp_i (hk:(s * 64 - 8) / 262=k0) (q:¬ (s:Int) < 1):((s:Int) * 64 - 8) / 262=(k0:Int):=by omega
theorem zs_c (h:1<=k):¬ (k:Int) < 1:=by omega
theorem zs_r (q:5<=h - s):¬ (h:Int) - (s:Int) < 5:=by omega
theorem zr_z (h:k < 1):(k:Int) < 1:=by omega
theorem zs_f (q1:¬ (k:Int) < 1):1<=k:=by omega
theorem zr_o (q1:¬ (k:Int) < 1) (hk0:(s * 64 - 8) / 262=k0) (hs:h / 2=s) (hk:min k0 1000=k):5<=h - s:=by omega
set_option maxRecDepth 100000 in
set_option maxHeartbeats 4000000 in
theorem zh_n (n:Int) (w:World) :
 Calls Tryz.prog 8 #[.int .i64 n] w fun e w'=>e=.returned (.tuple #[planV n.toNat,.int .i64 (planE n.toNat)])/\Below w.heap.size w w':=by
 by_cases hr:1<=n/\n<=4096
 ·obtain⟨m,rfl⟩:∃ m:Nat,n=(m:Int):=⟨n.toNat,by omega⟩
  have e0:(m:Int).toNat=m:=by omega
  rw [e0]
  obtain⟨h,hh⟩:∃ h,(m - 2) / 2=h:=⟨_,rfl⟩
  obtain⟨s,hs⟩:∃ s,h / 2=s:=⟨_,rfl⟩
  obtain⟨k0,hk0⟩:∃ k,(s * 64 - 8) / 262=k:=⟨_,rfl⟩
  obtain⟨k,hk⟩:∃ k,min k0 1000=k:=⟨_,rfl⟩
  have m0:¬ (m:Int) < 1:=by omega
  have m1:¬ 4096 < (m:Int):=by omega
  obtain⟨b1,b2,b3,b4,b5,b6,b7⟩:=zk_f hh hs hk0 hk (by omega) (by omega)
  have HS0:=zH (show (s:Int) < 1->k < 1 from b4)
  have hfit:Reg.fit m=decide (1<=k/\5<=h - s):=by
   unfold Reg.fit Reg.plan
   rw [hh,hs,hk0,hk]
   exact decide_eq_decide.2 ⟨fun q=>⟨q.2.2.1,q.2.2.2⟩,fun q=>⟨b6,b7,q.1,q.2⟩⟩
  have HP:=zH (fun hf=>zs_j (n:=m) hf hh hs (hk0.symm ▸ hk))
  have HN:=zH (fun hf=>zb_z (n:=m) hf)
  clear hr e0
  have e1:((m:Int) - 2).tdiv 2=(h:Int):=zs_n hh b6
  have e2:(h:Int) / 2=(s:Int):=zs_x hs
  have e5:((s:Int) * 64 - 8).tdiv 262=(k0:Int):=zs_m hk0
  have E5:=zH (fun q=>zp_i hk0 q)
  have K0:=zH hk0
  have KK:=zH hk
  have H2:=zH hs
  have e6:min (k0:Int) 1000=(k:Int):=zo_m hk
  clear hh hs hk0 hk b4 b6 b7
  by_cases hok:1<=k/\5<=h - s
  ·rw [decide_eq_true hok] at hfit
   have q1:¬ (k:Int) < 1:=zs_c hok.1
   have q2:¬ (h:Int) - (s:Int) < 5:=zs_r hok.2
   have q3:¬ (s:Int) < 1:=fun hlt=>q1 (zr_z (HS0.out hlt))
   rw [(HP.out hfit).1,(HP.out hfit).2]
   have e55:((s:Int) * 64 - 8) / 262=(k0:Int):=E5.out q3
   clear hok hfit
   go_enter Tryz.func8,Tryz.ntmps8
   go_wp2_with fail
   refine wp_loop_rounds 3 ?_
   rw [rounds_succ];go_wp2_with fail
   rw [rounds_succ];go_wp2_with fail
   rw [rounds_succ];go_wp2_with fail
   refine bodyPost_ret (v:=.tuple #[layv k 2 (2+h) (2+s) (2+h+s) s ((h:Int) - s),.int .i64 0]) (by simp [results,Tryz.results8,go_sem,layv]) rfl ⟨rfl,?_⟩
   first|exact (Below.refl _ _).alloc (zN _) _|exact ((Below.refl _ _).alloc (zN _) _).alloc (by simp) _
  ·rw [decide_eq_false hok] at hfit
   rw [(HN.out hfit).1,(HN.out hfit).2]
   by_cases q1:(k:Int) < 1
   ·clear hok hfit
    by_cases q3:(s:Int) < 1
    ·go_enter Tryz.func8,Tryz.ntmps8
     go_wp2_with fail
     refine bodyPost_ret (v:=.tuple #[lay0,.int .i64 2]) (by simp [results,Tryz.results8,go_sem,lay0,layv]) rfl ⟨rfl,?_⟩
     first|exact (Below.refl _ _).alloc (zN _) _|exact ((Below.refl _ _).alloc (zN _) _).alloc (by simp) _
    ·have e55:((s:Int) * 64 - 8) / 262=(k0:Int):=E5.out q3
     go_enter Tryz.func8,Tryz.ntmps8
     go_wp2_with fail
     refine bodyPost_ret (v:=.tuple #[lay0,.int .i64 2]) (by simp [results,Tryz.results8,go_sem,lay0,layv]) rfl ⟨rfl,?_⟩
     first|exact (Below.refl _ _).alloc (zN _) _|exact ((Below.refl _ _).alloc (zN _) _).alloc (by simp) _
   ·exact absurd hok (fun hok=>hok ⟨zs_f q1,zr_o q1 K0.out H2.out KK.out⟩)
 ·have hf:Reg.fit n.toNat=false:=by
   unfold Reg.fit
   rw [decide_eq_false_iff_not]
   omega
  rw [(zb_z hf).1,(zb_z hf).2]
  by_cases hn:n < 1
  ·clear hf hr
   go_enter Tryz.func8,Tryz.ntmps8
   go_wp2_with fail
   refine bodyPost_ret (v:=.tuple #[lay0,.int .i64 2]) (by simp [results,Tryz.results8,go_sem,lay0,layv]) rfl ⟨rfl,?_⟩
   first|exact (Below.refl _ _).alloc (zN _) _|exact ((Below.refl _ _).alloc (zN _) _).alloc (by simp) _
  ·have hn2:4096 < n:=by omega
   clear hf hr
   go_enter Tryz.func8,Tryz.ntmps8
   go_wp2_with fail
   refine bodyPost_ret (v:=.tuple #[lay0,.int .i64 2]) (by simp [results,Tryz.results8,go_sem,lay0,layv]) rfl ⟨rfl,?_⟩
   first|exact (Below.refl _ _).alloc (zN _) _|exact ((Below.refl _ _).alloc (zN _) _).alloc (by simp) _
end
end Go.Proofs.YtmanejniepghlaaGreatDoor
