import Derived.Test.YtmanejniepghlaaGreatDoorRun1
import Derived.Test.YtmanejniepghlaaGreatDoorRun38
import Derived.Test.YtmanejniepghlaaGreatDoorRun2
import Derived.LoopN
set_option maxRecDepth 100000
namespace Go.Proofs.YtmanejniepghlaaGreatDoor
section
namespace AH
open Dd (Dk)
structure DK where
 h:Nat
 s:Nat
 cap:Nat
def plan (n:Nat):DK:=⟨(n - 2) / 2,(n - 2) / 2 / 2,min (((n - 2) / 2 / 2 * 64 - 8) / 262) 1000⟩
def fit (n:Nat):Bool:=decide (1<=n/\n<=4096/\1<=(plan n).cap/\5<=(plan n).h - (plan n).s)
def DK.sf (l:DK) (i:Nat):Int:=((2+i * l.h:Nat):Int)
def DK.lf (l:DK) (i:Nat):Int:=((2+i * l.h+l.s:Nat):Int)
def DK.sc (l:DK):Int:=(l.s:Int)
def DK.lc (l:DK):Int:=((l.h - l.s:Nat):Int)
structure St where
 lay:DK
 slot:Nat
 sup:Su.S
 log:AO.L
 fl:Bool
def run:List (Dk->Int × Dk)->Dk->Int × Dk
|[],d=>(0,d)
|f :: fs,d=>if (f d).1=0 then run fs (f d).2 else f d
def crc (b:List UInt8):Nat:=AX.update 0 b
def prep (l:DK) (i:Nat) (b:List UInt8):List (Dk->Int × Dk) :=
 [fun d=>Ex.write d (l.sf i) l.sc 0 b,fun d=>Ex.write d (l.lf i) l.lc 0 (List.replicate (Ex.size l.lc).toNat 0),Dd.sync]
def XB:Su.S:=⟨1,0,1,2,crc [0,0]⟩
def format (d:Dk):Int × Dk :=
 if fit d.st.length=false then (2,d) else
  run (prep (plan d.st.length) 0 [0,0] ++ [fun d=>Dd.write d 0 (Su.enc XB),fun d=>Dd.write d 1 (List.replicate 64 0),Dd.sync]) d
def replay (cap:Int) (c:Int):List AJ->List (List UInt8)->Option (List AJ)
|L,[]=>some L
|L,r :: rs=>if (AN.dec r).2 ≠ 0 then none else if (AN.apply c L (AN.dec r).1 cap).2 ≠ 0 then none else replay cap c (AN.apply c L (AN.dec r).1 cap).1 rs
abbrev FY:=Option St × (Int × List AJ) × Int × Dk
def bad (z:Int) (d:Dk):FY:=(none,(0,[]),z,d)
def KD (l:DK) (slot:Nat) (sup:Su.S) (c:Int) (L:List AJ) (r:Option AO.L × List (List UInt8) × Int × Dk):FY :=
 if r.2.2.1 ≠ 0 then bad r.2.2.1 r.2.2.2 else
  match replay l.cap c L r.2.1 with
 |none=>bad 13 r.2.2.2
 |some a=>(some ⟨l,slot,sup,r.1.getD ⟨0,0,0,0,0,0,false⟩,false⟩,(c,a),0,r.2.2.2)
def QM (l:DK) (slot:Nat) (sup:Su.S) (r:List UInt8 × Int × Dk):FY :=
 if r.2.1 ≠ 0 then bad r.2.1 r.2.2 else
  if crc r.1 ≠ sup.sum\/(Sp.dec r.1).2 ≠ 0\/l.cap < (Sp.dec r.1).1.2.length then bad 13 r.2.2 else
   KD l slot sup (Sp.dec r.1).1.1 (Sp.dec r.1).1.2 (AO.open r.2.2 (l.lf sup.act.toNat) l.lc sup.AA)
def KC (l:DK) (a b:List UInt8) (d:Dk):FY :=
 if (Su.choose a b).2.2 ≠ 0 then bad 13 d else
  if Ex.size l.sc < (Su.choose a b).2.1.len then bad 13 d else
   QM l (Su.choose a b).1.toNat (Su.choose a b).2.1 (Ex.read d (l.sf (Su.choose a b).2.1.act.toNat) l.sc 0 (Su.choose a b).2.1.len)
def QL (l:DK) (a:List UInt8) (r:List UInt8 × Int × Dk):FY:=if r.2.1 ≠ 0 then bad r.2.1 r.2.2 else KC l a r.1 r.2.2
def QK (l:DK) (r:List UInt8 × Int × Dk):FY:=if r.2.1 ≠ 0 then bad r.2.1 r.2.2 else QL l r.1 (Dd.read r.2.2 1)
def EG (d:Dk):FY:=if fit d.st.length=false then bad 2 d else QK (plan d.st.length) (Dd.read d 0)
def append (S:St) (d:Dk) (u:BS):Int × St × Dk :=
 if S.fl then (12,S,d) else if AN.AB u=false then (1,S,d) else
  match AO.append S.log d (AN.enc u) with
 |(z,L1,d1)=>if z=11 then (11,{ S with log:=L1 },d1) else if z ≠ 0 then (z,{ S with log:=L1,fl:=true },d1) else
   match AO.sync L1 d1 with
  |(z2,L2,d2)=>(z2,{ S with log:=L2,fl:=decide (z2 ≠ 0) },d2)
def next (S:St) (b:List UInt8):Su.S:=⟨S.sup.gen+1,1 - S.sup.act,(S.sup.AA+1) % 4294967296,b.length,crc b⟩
def DY (S:St) (b:List UInt8) (r:Option AO.L × List (List UInt8) × Int × Dk):Int × St × Dk :=
 if r.2.2.1 ≠ 0 then (r.2.2.1,{ S with fl:=true },r.2.2.2) else
  match run [fun d=>Dd.write d ((1 - S.slot:Nat):Int) (Su.enc (next S b)),Dd.sync] r.2.2.2 with
 |(z,d')=>if z ≠ 0 then (z,{ S with fl:=true },d') else (0,{ S with slot:=1 - S.slot,sup:=next S b,log:=r.1.getD ⟨0,0,0,0,0,0,false⟩ },d')
def CF (S:St) (b:List UInt8) (r:Int × Dk):Int × St × Dk :=
 if r.1 ≠ 0 then (r.1,{ S with fl:=true },r.2) else DY S b (AO.open r.2 (S.lay.lf (1 - S.sup.act).toNat) S.lay.lc ((S.sup.AA+1) % 4294967296))
def compact (S:St) (d:Dk) (c:Int) (L:List AJ):Int × St × Dk :=
 if S.fl then (12,S,d) else if AN.AK c L=false\/S.lay.cap < L.length then (1,S,d) else if S.sup.gen=18446744073709551615 then (3,S,d) else
  CF S (Sp.enc c L) (run (prep S.lay (1 - S.sup.act).toNat (Sp.enc c L)) d)
end AH
end
section
open Dd (Dk)
namespace AH
def ZG:BS:=⟨1,⟨[97,46,98],false,7⟩⟩
def XE:AJ:=⟨[97,46,98],false,7⟩
def ZL (R:FY):St:=R.1.getD ⟨⟨0,0,0⟩,0,⟨0,0,0,0,0⟩,⟨0,0,0,0,0,0,false⟩,false⟩
def a1:=format (Dd.new 60)
def a2:=EG a1.2
def a3:=append (ZL a2) a2.2.2.2 ZG
def a4:=EG (Dd.restart a3.2.2 [])
def a5:=compact (ZL a4) a4.2.2.2 0 [XE]
theorem ck:(a1.1=0/\a2.1.isSome/\a2.2.1=(0,[])/\a2.2.2.1=0/\a3.1=0/\a4.1.isSome/\a4.2.1=(0,[XE])/\a4.2.2.1=0/\a5.1=0/\a5.2.1.sup.gen=2/\a1.2.st.length=60/\(Dd.restart a3.2.2 []).st.length=60/\a4.2.2.2.st.length=60):=by decide +kernel
theorem YL:∃ a d g s b e c f h,format (Dd.new 60)=(0,a)/\EG a=(some d,(0,[]),0,g)/\append d g ZG=(0,s,b) ∧
 EG (Dd.restart b [])=(some e,(0,[XE]),0,c)/\compact e c 0 [XE]=(0,f,h)/\f.sup.gen=2/\a.st.length=60/\(Dd.restart b []).st.length=60/\c.st.length=60:=by
 have k:=ck
 rcases n:a1 with⟨H,a⟩
 rcases o:a2 with⟨F,B,I,g⟩
 rcases p:a3 with⟨z3,e,b⟩
 rcases q:a4 with⟨G,C,z4,c⟩
 rcases r:a5 with⟨z5,t,h⟩
 rw [n,o,p,q,r] at k
 obtain⟨rfl,u,rfl,rfl,rfl,w,rfl,rfl,rfl,x,y,z,A⟩:=k
 obtain⟨d,rfl⟩:=Option.isSome_iff_exists.1 u
 obtain⟨f,rfl⟩:=Option.isSome_iff_exists.1 w
 have i:=o
 have j:=p
 have l:=q
 have m:=r
 unfold a2 at i
 unfold a3 at j
 unfold a4 at l
 unfold a5 at m
 rw [n] at i
 rw [o] at j
 rw [p] at l
 rw [q] at m
 exact⟨a,d,g,e,b,f,c,t,h,n,i,j,l,m,x,y,z,A⟩
end AH
end
section
open Su (spl)
variable {i n slot:Nat} {d d':Dd.Dk} {L L':List AJ} {c:Int} {a b:List UInt8} {s sup t:Su.S} {u:BS} {f:Dd.Dk->Int × Dd.Dk} {fs:List (Dd.Dk->Int × Dd.Dk)}
namespace AH
open Dd (Dk)
open Ex (VP V)
theorem DB (h:fit n=true):(plan n).s+5<=(plan n).h/\5<=(plan n).s/\2+2 * (plan n).h<=n/\n<=4096/\1<=(plan n).cap/\(plan n).cap<=1000/\8+262 * (plan n).cap<=64 * (plan n).s:=by
 unfold fit at h
 rw [decide_eq_true_eq] at h
 obtain⟨j,k,e,g⟩:=h
 unfold plan at e g ⊢
 dsimp only at e g ⊢
 omega
theorem MB (h:Su.AB s=true):s.act=((s.act.toNat:Nat):Int)/\s.act.toNat < 2:=by
 simp only [Su.AB,Bool.and_eq_true,Bool.or_eq_true,beq_iff_eq,decide_eq_true_eq] at h
 omega
theorem KN (h:fit n=true) (hs:AN.AK c L=true) (g:L.length<=(plan n).cap):(Sp.enc c L).length<=64 * (plan n).s/\(Sp.enc c L).length<=262144:=by
 have j:=DB h
 have e:=Sp.bound hs
 omega
theorem Pt (h:AN.AB u=true):(AN.enc u).length<=263:=by
 unfold AN.enc
 rcases AN.AW h with⟨g,e⟩|⟨g,e,-⟩
 ·rw [if_neg (by omega)]
  have:=Sp.QO e
  simp only [List.length_cons];omega
 ·rw [if_pos g]
  have j:=AJ.CI e
  have k:=Wi.BN 1 u.p.h.length (by omega)
  unfold Wi.txt
  simp only [List.length_cons,List.length_append];omega
theorem KZ {cap:Nat} (h:AN.apply c L u cap=(L',0)) (m:L.length<=cap) (r:cap<=1000):L'.length<=cap/\AN.AK c L'=true/\AN.AB u=true:=by
 obtain⟨g,e,k⟩:=AN.RY (c:=c) (L:=L) (u:=u) (cap:=cap) (by rw [h])
 rw [h] at k
 have k:L'=AN.upd L u:=k
 have q:L'.length<=cap:=by
  rcases AN.MP e with j|j
  ·cases l:BA.hit L u.p.h with
  |true =>
    rw [AN.LA g e j l] at h
    cases h
    simpa using m
  |false =>
    by_cases o:min (cap:Int) 1000<=(L.length:Int)
    ·rw [AN.JQ g e j l o] at h;cases h
    ·rw [AN.LC g e j l o] at h
     cases h
     simp only [List.length_append,List.length_cons,List.length_take,List.length_drop]
     omega
  ·rw [AN.GA g e j] at h
   cases h
   unfold BA.remove
   split
   ·simp only [List.length_append,List.length_take,List.length_drop];omega
   ·exact m
 refine⟨q,?_,e⟩
 rw [k] at q ⊢
 exact AN.RP g e (by omega)
theorem II (d:Dk):run [] d=(0,d):=rfl
theorem CM (h:f d=(0,d')):run (f :: fs) d=run fs d':=by simp only [run,h,if_true]
theorem CL {z:Int} (h:f d=(z,d')) (e:z ≠ 0):run (f :: fs) d=(z,d'):=by simp only [run,h,if_neg e]
end AH
end
section
open Dd (Dk)
variable {d:Dk} {c f:Int} {ep:Nat}
theorem Fr.SY (b:List UInt8) (ep f:Nat):∀ k out e,(∀ p ∈ out,p.length<=1024)->∀ p ∈ (Fr.go b ep f k out e).1,p.length<=1024:=by
 induction f with
|zero=>intro k out e h;exact h
|succ f ih =>
  intro k out e h
  by_cases g:(Fr.dec (b.drop e) ep k).2.2=0
  ·rw [Fr.QB _ _ _ _ _ _ g]
   refine ih _ _ _ fun p a=>?_
   rcases List.mem_append.1 a with a|a
   ·exact h p a
   ·rw [List.mem_singleton.1 a];exact (Fr.MI _ _ _ g).2.2
  ·rw [Fr.ML _ _ _ _ _ _ g];exact h
theorem Fr.PO (b:List UInt8) (ep:Nat):∀ p ∈ (Fr.scan b ep).1,p.length<=1024:=Fr.SY _ _ _ _ _ _ (by simp)
theorem AO.KE (d:Dk) (f c:Int) (ep:Nat):∀ p ∈ (AO.open d f c ep).2.1,p.length<=1024:=by
 rcases h0:Ex.read d f c 0 (Ex.size c) with⟨b,z,i⟩
 by_cases h:z=0
 ·subst h
  rcases a:AO.erase i f c (Fr.scan b ep).2 (b.drop (Fr.scan b ep).2) with⟨k,j⟩
  by_cases e:k=0
  ·subst e
   rcases hs:Dd.sync j with⟨z3,l⟩
   by_cases g:z3=0
   ·subst g;rw [AO.EK h0 a hs];exact Fr.PO b ep
   ·rw [AO.DI h0 a hs g];simp
  ·rw [AO.DV h0 a e];simp
 ·rw [AO.DH h0 h];simp
theorem AO.MU {L:AO.L} (h:(AO.open d f c ep).1=some L):L.fl=false/\(AO.open d f c ep).2.2.1=0:=by
 rcases h0:Ex.read d f c 0 (Ex.size c) with⟨b,z,j⟩
 by_cases i:z=0
 ·subst i
  rcases a:AO.erase j f c (Fr.scan b ep).2 (b.drop (Fr.scan b ep).2) with⟨l,k⟩
  by_cases e:l=0
  ·subst e
   rcases hs:Dd.sync k with⟨z3,m⟩
   by_cases g:z3=0
   ·subst g;rw [AO.EK h0 a hs] at h ⊢;cases h;exact⟨rfl,rfl⟩
   ·rw [AO.DI h0 a hs g] at h;cases h
  ·rw [AO.DV h0 a e] at h;cases h
 ·rw [AO.DH h0 i] at h;cases h
theorem AO.EU (h:(AO.open d f c ep).2.2.1=0):∃ L,(AO.open d f c ep).1=some L:=by
 rcases h0:Ex.read d f c 0 (Ex.size c) with⟨b,z,j⟩
 by_cases i:z=0
 ·subst i
  rcases g:AO.erase j f c (Fr.scan b ep).2 (b.drop (Fr.scan b ep).2) with⟨l,k⟩
  by_cases a:l=0
  ·subst a
   rcases hs:Dd.sync k with⟨z3,m⟩
   by_cases e:z3=0
   ·subst e;rw [AO.EK h0 g hs];exact⟨_,rfl⟩
   ·rw [AO.DI h0 g hs e] at h;exact absurd h e
  ·rw [AO.DV h0 g a] at h;exact absurd h a
 ·rw [AO.DH h0 i] at h;exact absurd h i
namespace Su
theorem Hu (b:List UInt8) (i n:Nat):field b i n < 256 ^ n:=by
 unfold field
 refine Nat.lt_of_lt_of_le (CV _) (Nat.pow_le_pow_right (by omega) ?_)
 rw [List.length_take];omega
theorem Uc {l:List UInt8} {t:S} (h:dec l=(t,0)):AB t=true/\t.fits:=by
 unfold dec at h
 split at h
 ·cases h
 ·split at h
  ·cases h
  ·split at h
   ·rename_i hv
    cases h
    exact⟨hv.1,Hu l 6 8,Hu l 14 4,Hu l 22 4⟩
   ·cases h
theorem GU {a b:List UInt8} {k:Int} {s:S} (h:choose a b=(k,s,0)):(k=0\/k=1)/\AB s=true/\s.fits:=by
 unfold choose at h
 split at h
 ·cases h
 ·rename_i h0
  split at h
  ·rename_i e
   injection h with hs h;injection h with g _
   refine⟨.inr hs.symm,Uc (l:=b) (Prod.ext g ?_)⟩
   rcases e with e|e
   ·by_cases j:(dec b).2=0
    ·exact j
    ·exact absurd ⟨e,j⟩ h0
   ·exact e.1
  ·rename_i e
   injection h with hs h;injection h with g _
   refine⟨.inl hs.symm,Uc (l:=a) (Prod.ext g ?_)⟩
   by_cases i:(dec a).2=0
   ·exact i
   ·exact absurd (.inl i) e
end Su
namespace AH
structure Ok (n:Nat) (S:St):Prop where
 fit:fit n=true
 max:n<=1000
 lay:S.lay=plan n
 slot:S.slot < 2
 val:Su.AB S.sup=true
 fits:S.sup.fits
 log:CX S.log
 fl:S.fl=false->S.log.fl=false
end AH
end
section
open Dd (Dk)
structure IQ (P:Dk->Prop):Prop where
 rd:∀ d i,P d->P (Dd.read d i).2.2
 wr:∀ d i x,P d->P (Dd.write d i x).2
 sy:∀ d,P d->P (Dd.sync d).2
theorem IQ.ZM (N:Nat):IQ fun d=>d.Ok/\d.st.length=N where
 rd:=fun d i ⟨h,e⟩=>⟨h.read i,by rw [(Dd.BM d i).1];exact e⟩
 wr:=fun d i x ⟨h,e⟩=>⟨h.write i x,by rw [Dd.BI d i x];exact e⟩
 sy:=fun d ⟨h,e⟩=>⟨h.sync,by rw [Dd.CU];exact e⟩
theorem AH.IH {P:Dk->Prop}:∀ (a:List (Dk->Int × Dk)) (d:Dk),(∀ f ∈ a,∀ d,P d->P (f d).2)->P d->P (AH.run a d).2
|[],_,_,h=>h
|f :: a,d,hf,h=>by
  have c:=hf f (List.mem_cons_self ..) d h
  rcases b:f d with⟨z,i⟩
  rw [b] at c
  by_cases e:z=0
  ·subst e
   rw [AH.CM b]
   exact AH.IH a i (fun g j=>hf g (List.mem_cons_of_mem _ j)) c
  ·rw [AH.CL b e];exact c
section
variable {P:Dk->Prop} (K:IQ P)
include K
theorem IQ.erd (first off e:Nat):∀ (m k:Nat) (acc:List UInt8) (d:Dk),P d->P (Ex.rd first off e m k acc d).2.2:=by
 intro m
 induction m with
|zero=>intro k acc d h;exact h
|succ m ih =>
  intro k acc d h
  rcases hr:Dd.read d ((first+Ex.pos off e k / 64:Nat):Int) with⟨b,z,c⟩
  have hs:=K.rd d ((first+Ex.pos off e k / 64:Nat):Int) h
  rw [hr] at hs
  by_cases a:z=0
  ·subst a;rw [Ex.OK hr];exact ih _ _ _ hs
  ·rw [Ex.KH hr a];exact hs
theorem IQ.ewr (first off e:Nat):∀ (m k:Nat) (x:List UInt8) (d:Dk),P d->P (Ex.wr first off e m k x d).2:=by
 intro m
 induction m with
|zero=>intro k x d h;exact h
|succ m ih =>
  intro k x d h
  by_cases hs:Ex.step e (Ex.pos off e k) < 64
  ·rcases hr:Dd.read d ((first+Ex.pos off e k / 64:Nat):Int) with⟨b,z,g⟩
   have f:=K.rd d ((first+Ex.pos off e k / 64:Nat):Int) h
   rw [hr] at f
   by_cases i:z=0
   ·subst i
    rcases c:Dd.write g ((first+Ex.pos off e k / 64:Nat):Int) (b.take (Ex.pos off e k % 64) ++ x.take (Ex.step e (Ex.pos off e k)) ++ b.drop (Ex.pos off e k % 64+Ex.step e (Ex.pos off e k))) with⟨l,j⟩
    have a:=K.wr g ((first+Ex.pos off e k / 64:Nat):Int) (b.take (Ex.pos off e k % 64) ++ x.take (Ex.step e (Ex.pos off e k)) ++ b.drop (Ex.pos off e k % 64+Ex.step e (Ex.pos off e k))) f
    rw [c] at a
    rw [Ex.IM hs hr c]
    split
    ·exact ih _ _ _ a
    ·exact a
   ·rw [Ex.IP hs hr i];exact f
  ·rcases c:Dd.write d ((first+Ex.pos off e k / 64:Nat):Int) (x.take (Ex.step e (Ex.pos off e k))) with⟨l,j⟩
   have a:=K.wr d ((first+Ex.pos off e k / 64:Nat):Int) (x.take (Ex.step e (Ex.pos off e k))) h
   rw [c] at a
   rw [Ex.IL hs c]
   split
   ·exact ih _ _ _ a
   ·exact a
theorem IQ.eread {d:Dk} (h:P d) (f c off len:Int):P (Ex.read d f c off len).2.2:=by
 unfold Ex.read;split
 ·exact K.erd _ _ _ _ _ _ _ h
 ·exact h
theorem IQ.ewrite {d:Dk} (h:P d) (f c off:Int) (x:List UInt8):P (Ex.write d f c off x).2:=by
 unfold Ex.write;split
 ·exact K.ewr _ _ _ _ _ _ _ h
 ·exact h
theorem IQ.prep (l:AH.DK) (i:Nat) (b:List UInt8) {d:Dk} (h:P d):P (AH.run (AH.prep l i b) d).2:=by
 refine AH.IH _ _ (fun f a d h=>?_) h
 simp only [AH.prep,List.mem_cons,List.not_mem_nil,or_false] at a
 rcases a with rfl|rfl|rfl
 ·exact K.ewrite h _ _ _ _
 ·exact K.ewrite h _ _ _ _
 ·exact K.sy d h
theorem IQ.erase {d:Dk} (h:P d) (f c en:Int) (r:List UInt8):P (AO.erase d f c en r).2:=by
 unfold AO.erase;split
 ·exact h
 ·exact K.ewrite h _ _ _ _
theorem IQ.wsync {d:Dk} (h:P d) (L:AO.L):P (AO.sync L d).2.2:=by
 unfold AO.sync;split
 ·exact h
 ·have a:=K.sy d h
  rcases hs:Dd.sync d with⟨z,b⟩
  rw [hs] at a
  simp only
  split <;> exact a
theorem IQ.wappend {d:Dk} (h:P d) (L:AO.L) (p:List UInt8):P (AO.append L d p).2.2:=by
 unfold AO.append
 split
 ·exact h
 ·split
  ·exact h
  ·split
   ·exact h
   ·have a:=K.ewrite h L.f L.c L.en (Fr.enc L.ep L.rc p)
    rcases hs:Ex.write d L.f L.c L.en (Fr.enc L.ep L.rc p) with⟨z,b⟩
    rw [hs] at a
    simp only
    split <;> exact a
theorem IQ.wopen {d:Dk} (h:P d) (f c:Int) (ep:Nat):P (AO.open d f c ep).2.2.2:=by
 rcases hr:Ex.read d f c 0 (Ex.size c) with⟨b,z,n⟩
 have e:=K.eread h f c 0 (Ex.size c)
 rw [hr] at e
 by_cases m:z=0
 ·subst m
  rcases a:AO.erase n f c (Fr.scan b ep).2 (b.drop (Fr.scan b ep).2) with⟨o,l⟩
  have g:=K.erase e f c (Fr.scan b ep).2 (b.drop (Fr.scan b ep).2)
  rw [a] at g
  by_cases j:o=0
  ·subst j
   rcases hs:Dd.sync l with⟨z3,p⟩
   have i:=K.sy l g
   rw [hs] at i
   by_cases k:z3=0
   ·subst k;rw [AO.EK hr a hs];exact i
   ·rw [AO.DI hr a hs k];exact i
  ·rw [AO.DV hr a j];exact g
 ·rw [AO.DH hr m];exact e
namespace AH
theorem PH {d:Dk} (h:P d):P (format d).2:=by
 unfold format
 split
 ·exact h
 ·refine AH.IH _ _ (fun f a d h=>?_) h
  simp only [prep,List.cons_append,List.nil_append,List.mem_cons,List.not_mem_nil,or_false] at a
  rcases a with rfl|rfl|rfl|rfl|rfl|rfl
  ·exact K.ewrite h _ _ _ _
  ·exact K.ewrite h _ _ _ _
  ·exact K.sy d h
  ·exact K.wr d _ _ h
  ·exact K.wr d _ _ h
  ·exact K.sy d h
theorem PG {d:Dk} (h:P d) (S:St) (u:BS):P (append S d u).2.2:=by
 unfold append
 split
 ·exact h
 ·split
  ·exact h
  ·have a:=K.wappend h S.log (AN.enc u)
   rcases f:AO.append S.log d (AN.enc u) with⟨z,b,e⟩
   rw [f] at a
   dsimp only at a ⊢
   split
   ·exact a
   ·split
    ·exact a
    ·have c:=K.wsync a b
     rcases hs:AO.sync b e with⟨j,g,i⟩
     rw [hs] at c
     exact c
theorem NW {d:Dk} (h:P d) (S:St) (c:Int) (L:List AJ):P (compact S d c L).2.2:=by
 unfold compact
 split
 ·exact h
 ·split
  ·exact h
  ·split
   ·exact h
   ·have a:=K.prep S.lay (1 - S.sup.act).toNat (Sp.enc c L) h
    rcases k:run (prep S.lay (1 - S.sup.act).toNat (Sp.enc c L)) d with⟨z,j⟩
    rw [k] at a
    unfold CF
    split
    ·exact a
    ·dsimp only at a ⊢
     have b:=K.wopen a (S.lay.lf (1 - S.sup.act).toNat) S.lay.lc ((S.sup.AA+1) % 4294967296)
     rcases ho:AO.open j (S.lay.lf (1 - S.sup.act).toNat) S.lay.lc ((S.sup.AA+1) % 4294967296) with⟨lo,n,o,e⟩
     rw [ho] at b
     unfold DY
     split
     ·exact b
     ·have g:P (run [fun d=>Dd.write d ((1 - S.slot:Nat):Int) (Su.enc (next S (Sp.enc c L))),Dd.sync] e).2:=by
       refine AH.IH _ _ (fun f i d h=>?_) b
       simp only [List.mem_cons,List.not_mem_nil,or_false] at i
       rcases i with rfl|rfl
       ·exact K.wr d _ _ h
       ·exact K.sy d h
      dsimp only
      rcases l:run [fun d=>Dd.write d ((1 - S.slot:Nat):Int) (Su.enc (next S (Sp.enc c L))),Dd.sync] e with⟨z3,m⟩
      rw [l] at g
      dsimp only
      split <;> exact g
theorem TE {d:Dk} (h:P d):P (EG d).2.2.2:=by
 unfold EG
 split
 ·exact h
 ·have f:=K.rd d 0 h
  rcases hr:Dd.read d 0 with⟨a,z,i⟩
  rw [hr] at f
  unfold QK
  split
  ·exact f
  ·dsimp only at f ⊢
   have c:=K.rd i 1 f
   rcases j:Dd.read i 1 with⟨b,p,l⟩
   rw [j] at c
   unfold QL
   split
   ·exact c
   ·dsimp only at c ⊢
    unfold KC
    split
    ·exact c
    ·split
     ·exact c
     ·have e:=K.eread c ((plan d.st.length).sf (Su.choose a b).2.1.act.toNat) (plan d.st.length).sc 0 (Su.choose a b).2.1.len
      rcases k:Ex.read l ((plan d.st.length).sf (Su.choose a b).2.1.act.toNat) (plan d.st.length).sc 0 (Su.choose a b).2.1.len with⟨x,z3,m⟩
      rw [k] at e
      unfold QM
      split
      ·exact e
      ·split
       ·exact e
       ·dsimp only at e ⊢
        have g:=K.wopen e ((plan d.st.length).lf (Su.choose a b).2.1.act.toNat) (plan d.st.length).lc (Su.choose a b).2.1.AA
        rcases ho:AO.open m ((plan d.st.length).lf (Su.choose a b).2.1.act.toNat) (plan d.st.length).lc (Su.choose a b).2.1.AA with⟨lo,o,z4,n⟩
        rw [ho] at g
        unfold KD
        split
        ·exact g
        ·split <;> exact g
end AH
end
def dz (z:Int):Prop:=z=0\/z=1\/z=2\/z=9\/z=10
theorem Dd.PV (d:Dk) (b:Bool):dz (Dd.begin d b).2.1:=by
 unfold Dd.begin dz
 split
 ·simp
 ·split
  ·split
   ·simp
   ·split <;> simp
  ·simp
theorem Dd.WY (d:Dk) (i:Int):dz (Dd.read d i).2.1:=by
 have h:=Dd.PV d (Dd.fits d i)
 unfold Dd.read
 rcases a:Dd.begin d (Dd.fits d i) with⟨t,e,b⟩
 rw [a] at h
 cases t
 ·dsimp only;split
  ·exact .inl rfl
  ·exact h
 ·exact .inr (.inr (.inr (.inr rfl)))
theorem Dd.JJ (d:Dk) (i:Int) (x:List UInt8):dz (Dd.write d i x).1:=by
 have h:=Dd.PV d (Dd.fits d i && decide (x.length=64))
 unfold Dd.write
 rcases a:Dd.begin d (Dd.fits d i && decide (x.length=64)) with⟨t,e,b⟩
 rw [a] at h
 cases t
 ·dsimp only;split
  ·exact .inl rfl
  ·exact h
 ·exact .inr (.inr (.inr (.inr rfl)))
theorem Ex.ZH (first off e:Nat):∀ (m k:Nat) (x:List UInt8) (d:Dk),dz (Ex.wr first off e m k x d).1:=by
 intro m
 induction m with
|zero=>intro k x d;exact .inl rfl
|succ m ih =>
  intro k x d
  by_cases hs:Ex.step e (Ex.pos off e k) < 64
  ·rcases hr:Dd.read d ((first+Ex.pos off e k / 64:Nat):Int) with⟨b,z,f⟩
   have g:=Dd.WY d ((first+Ex.pos off e k / 64:Nat):Int)
   rw [hr] at g
   by_cases h:z=0
   ·subst h
    rcases c:Dd.write f ((first+Ex.pos off e k / 64:Nat):Int) (b.take (Ex.pos off e k % 64) ++ x.take (Ex.step e (Ex.pos off e k)) ++ b.drop (Ex.pos off e k % 64+Ex.step e (Ex.pos off e k))) with⟨j,i⟩
    have a:=Dd.JJ f ((first+Ex.pos off e k / 64:Nat):Int) (b.take (Ex.pos off e k % 64) ++ x.take (Ex.step e (Ex.pos off e k)) ++ b.drop (Ex.pos off e k % 64+Ex.step e (Ex.pos off e k)))
    rw [c] at a
    rw [Ex.IM hs hr c]
    split
    ·exact ih _ _ _
    ·exact a
   ·rw [Ex.IP hs hr h];exact g
  ·rcases c:Dd.write d ((first+Ex.pos off e k / 64:Nat):Int) (x.take (Ex.step e (Ex.pos off e k))) with⟨j,i⟩
   have a:=Dd.JJ d ((first+Ex.pos off e k / 64:Nat):Int) (x.take (Ex.step e (Ex.pos off e k)))
   rw [c] at a
   rw [Ex.IL hs c]
   split
   ·exact ih _ _ _
   ·exact a
theorem Ex.UN (n:Nat) (f c off len:Int):dz (Ex.check n f c off len):=by
 unfold Ex.check dz
 split
 ·split <;> simp
 ·simp
theorem Ex.JJ (d:Dk) (f c off:Int) (x:List UInt8):dz (Ex.write d f c off x).1:=by
 unfold Ex.write;split
 ·exact Ex.ZH _ _ _ _ _ _ _
 ·exact Ex.UN _ _ _ _ _
namespace AH
theorem KB {n:Nat} {S:St} (h:Ok n S) {c:Int} {L:List AJ} (e:AN.AK c L=true) (a:L.length<=S.lay.cap) (g:S.sup.gen ≠ 18446744073709551615) :
 Su.AB (next S (Sp.enc c L))=true/\(next S (Sp.enc c L)).fits/\(((1 - S.sup.act).toNat:Nat):Int)=1 - S.sup.act/\(1 - S.sup.act).toNat < 2:=by
 obtain⟨a1,a2⟩:=MB h.val
 have i:=(KN h.fit e (by have:=h.lay;rw [this] at a;exact a)).2
 refine⟨?_,⟨?_,Nat.mod_lt _ (by omega),AX.BX _ _⟩,by omega,by omega⟩
 ·have b:(next S (Sp.enc c L)).act=1 - S.sup.act:=rfl
  have d:(next S (Sp.enc c L)).len=((Sp.enc c L).length:Int):=rfl
  have f:(next S (Sp.enc c L)).gen=S.sup.gen+1:=rfl
  unfold Su.AB
  rw [b,d]
  simp
  omega
 ·have:=h.fits.1
  show S.sup.gen+1 < _
  omega
theorem GS {n:Nat} {S:St} (h:Ok n S) (d:Dk) (u:BS) :
 Ok n (append S d u).2.1/\(append S d u).2.1.sup=S.sup/\(S.fl=false->AN.AB u=true->(append S d u).2.1.fl=(append S d u).2.1.log.fl)/\(S.fl=true\/AN.AB u=false->(append S d u).2.1=S):=by
 unfold append
 by_cases l:S.fl=true
 ·rw [if_pos l];exact⟨h,rfl,fun e=>(by rw [l] at e;cases e),fun _=>rfl⟩
 ·rw [if_neg l]
  have A:S.fl=false:=by simpa using l
  by_cases m:AN.AB u=false
  ·rw [if_pos m];exact⟨h,rfl,fun _ e=>(by rw [m] at e;cases e),fun _=>rfl⟩
  ·rw [if_neg m]
   have I:AN.AB u=true:=by simpa using m
   have t:=h.fl A
   have O:=Pt I
   have C:=h.log.append d (AN.enc u)
   have key:∀ z b j,AO.append S.log d (AN.enc u)=(z,b,j)->(z=11->b=S.log)/\(z=0->b.fl=false)/\(z ≠ 0->z ≠ 11->b.fl=true):=by
    intro z b j a
    unfold AO.append at a
    rw [if_neg (by rw [t];decide),if_neg (by omega)] at a
    split at a
    ·injection a with g a;injection a with i _
     exact⟨fun _=>i.symm,fun e=>by omega,fun _ e=>absurd g.symm e⟩
    ·have w:=Ex.JJ d S.log.f S.log.c S.log.en (Fr.enc S.log.ep S.log.rc (AN.enc u))
     rcases hs:Ex.write d S.log.f S.log.c S.log.en (Fr.enc S.log.ep S.log.rc (AN.enc u)) with⟨R,q⟩
     rw [hs] at a w
     dsimp only at a w
     split at a
     ·injection a with g a;injection a with i _
      subst g i
      exact⟨fun e=>(by cases e),fun _=>t,fun e=>absurd rfl e⟩
     ·rename_i hz1
      injection a with g a;injection a with i _
      subst g i
      refine⟨fun e=>?_,fun e=>absurd e hz1,fun _ _=>rfl⟩
      unfold dz at w;omega
   rcases a:AO.append S.log d (AN.enc u) with⟨z,b,j⟩
   obtain⟨J,M,N⟩:=key _ _ _ a
   rw [a] at C
   have s:CX b:=C
   dsimp only
   have x:¬ (S.fl=true\/AN.AB u=false):=by rintro (e|e);exact l e;exact m e
   by_cases o:z=11
   ·rw [if_pos o]
    have:=J o
    subst this
    exact⟨⟨h.fit,h.max,h.lay,h.slot,h.val,h.fits,s,h.fl⟩,rfl,fun _ _=>by show S.fl=S.log.fl;rw [A,t],fun e=>absurd e x⟩
   ·rw [if_neg o]
    by_cases p:z=0
    ·rw [if_neg (by simpa using p)]
     have B:=M p
     have y:=s.sync j
     have G:∀ r k q,AO.sync b j=(r,k,q)->k.fl=decide (r ≠ 0):=by
      intro r k q hs
      unfold AO.sync at hs
      rw [if_neg (by rw [B];decide)] at hs
      rcases hd:Dd.sync j with⟨z3,Q⟩
      rw [hd] at hs
      dsimp only at hs
      split at hs
      ·injection hs with g hs;injection hs with i _
       subst g i;simpa using B
      ·rename_i hz3
       injection hs with g hs;injection hs with i _
       subst g i;simp [hz3]
     rcases hs:AO.sync b j with⟨r,k,q⟩
     have F:=G _ _ _ hs
     rw [hs] at y
     have H:CX k:=y
     dsimp only
     exact⟨⟨h.fit,h.max,h.lay,h.slot,h.val,h.fits,H,fun e=>by rw [F];exact e⟩,rfl,fun _ _=>F.symm,fun e=>absurd e x⟩
    ·rw [if_pos p]
     exact⟨⟨h.fit,h.max,h.lay,h.slot,h.val,h.fits,s,fun e=>by cases e⟩,rfl,fun _ _=>(N p o).symm,fun e=>absurd e x⟩
theorem Ok.failed {n:Nat} {S:St} (h:Ok n S):Ok n { S with fl:=true }:=⟨h.fit,h.max,h.lay,h.slot,h.val,h.fits,h.log,fun e=>by cases e⟩
theorem OZ {n:Nat} {S:St} (h:Ok n S) {d:Dk} (hd:d.Ok) (hn:d.st.length=n) (c:Int) (L:List AJ):Ok n (compact S d c L).2.1:=by
 unfold compact
 split
 ·exact h
 ·rename_i hf
  split
  ·exact h
  ·rename_i hv
   split
   ·exact h
   ·rename_i hg
    have o:AN.AK c L=true:=by
     cases e:AN.AK c L
     ·exact absurd (.inl e) hv
     ·rfl
    have m:L.length<=S.lay.cap:=by
     rcases Nat.lt_or_ge S.lay.cap L.length with e|e
     ·exact absurd (.inr e) hv
     ·exact e
    obtain⟨s,t,A,B⟩:=KB h o m hg
    have b:=(IQ.ZM n).prep S.lay (1 - S.sup.act).toNat (Sp.enc c L) ⟨hd,hn⟩
    rcases r:run (prep S.lay (1 - S.sup.act).toNat (Sp.enc c L)) d with⟨z,a⟩
    rw [r] at b
    unfold CF
    split
    ·exact h.failed
    ·dsimp only at b ⊢
     have k:ib (S.lay.lf (1 - S.sup.act).toNat)/\ib S.lay.lc:=by
      rw [h.lay]
      have u:=DB h.fit
      have x:(1 - S.sup.act).toNat * (plan n).h<=(plan n).h:=by
       have:=Nat.mul_le_mul_right (plan n).h (show (1 - S.sup.act).toNat<=1 by omega);omega
      unfold DK.lf DK.lc ib
      omega
     have i:=fun L (e:(AO.open a (S.lay.lf (1 - S.sup.act).toNat) S.lay.lc ((S.sup.AA+1) % 4294967296)).1=some L)=>CX.opened b.1 (by rw [b.2];exact h.max) k.1 k.2 (Nat.mod_lt _ (by omega)) e
     have g:=fun L (e:(AO.open a (S.lay.lf (1 - S.sup.act).toNat) S.lay.lc ((S.sup.AA+1) % 4294967296)).1=some L)=>(AO.MU e).1
     have j:=fun (e:(AO.open a (S.lay.lf (1 - S.sup.act).toNat) S.lay.lc ((S.sup.AA+1) % 4294967296)).2.2.1=0)=>AO.EU e
     rcases ho:AO.open a (S.lay.lf (1 - S.sup.act).toNat) S.lay.lc ((S.sup.AA+1) % 4294967296) with⟨lo,C,F,p⟩
     rw [ho] at i g j
     unfold DY
     split
     ·exact h.failed
     ·rename_i hz2
      dsimp only at hz2 i g j ⊢
      obtain⟨l,f⟩:=j (by simpa using hz2)
      have g1:=i l f
      have q:=g l f
      subst f
      rcases y:run [fun d=>Dd.write d ((1 - S.slot:Nat):Int) (Su.enc (next S (Sp.enc c L))),Dd.sync] p with⟨z3,w⟩
      dsimp only
      split
      ·exact h.failed
      ·exact⟨h.fit,h.max,h.lay,by show 1 - S.slot < 2;omega,s,t,g1,fun _=>q⟩
theorem NQ (S:St) (d:Dk) (c:Int) (L:List AJ):(compact S d c L).2.2.st.length=d.st.length :=
 NW (P:=fun x=>x.st.length=d.st.length) ⟨fun a i h=>by rw [(Dd.BM a i).1];exact h,fun a i x h=>by rw [Dd.BI a i x];exact h,fun a h=>by rw [Dd.CU];exact h⟩ rfl S c L
theorem OW (S:St) (d:Dk) (u:BS):(append S d u).2.2.st.length=d.st.length :=
 PG (P:=fun x=>x.st.length=d.st.length) ⟨fun a i h=>by rw [(Dd.BM a i).1];exact h,fun a i x h=>by rw [Dd.BI a i x];exact h,fun a h=>by rw [Dd.CU];exact h⟩ rfl S u
theorem PC (d:Dk):(format d).2.st.length=d.st.length :=
 PH (P:=fun x=>x.st.length=d.st.length) ⟨fun a i h=>by rw [(Dd.BM a i).1];exact h,fun a i x h=>by rw [Dd.BI a i x];exact h,fun a h=>by rw [Dd.CU];exact h⟩ rfl
theorem TL (d:Dk):(EG d).2.2.2.st.length=d.st.length :=
 TE (P:=fun x=>x.st.length=d.st.length) ⟨fun a i h=>by rw [(Dd.BM a i).1];exact h,fun a i x h=>by rw [Dd.BI a i x];exact h,fun a h=>by rw [Dd.CU];exact h⟩ rfl
end AH
end
section
open Go.RowKit
variable {h k k0 m n s:Nat}
def layv (k a b c d s t:Int):Value:=.agg #[k,a,s,b,s,c,t,d,t]
def AH.DK.v (l:AH.DK):Value:=layv l.cap (l.sf 0) (l.sf 1) (l.lf 0) (l.lf 1) l.sc l.lc
def JC:Value:=layv 0 0 0 0 0 0 0
def IE (n:Nat):Value:=if AH.fit n then (AH.plan n).v else JC
def ID (n:Nat):Int:=if AH.fit n then 0 else 2
theorem Jm (h:AH.fit n=false):IE n=JC/\ID n=2:=by unfold IE ID;rw [h];exact⟨rfl,rfl⟩
theorem La (a:AH.fit n=true) (b:(n - 2) / 2=h) (hs:h / 2=s) (c:min ((s * 64 - 8) / 262) 1000=k):ID n=0/\IE n=layv k 2 (2+h) (2+s) (2+h+s) s ((h:Int) - s):=by
 have e:AH.plan n=⟨h,s,k⟩:=by unfold AH.plan;rw [b,hs,c]
 have d:s<=h:=by omega
 unfold IE ID
 rw [a,e]
 refine⟨rfl,?_⟩
 unfold AH.DK.v AH.DK.sf AH.DK.lf AH.DK.sc AH.DK.lc
 simp only [if_true]
 congr 1 <;> omega
theorem Gg (c:(m - 2) / 2=h) (hs:h / 2=s) (a:(s * 64 - 8) / 262=k0) (d:min k0 1000=k) (b:1<=m) (e:m<=4096):s<=h/\h<=2047/\k<=1000/\((s:Int) < 1->k < 1)/\s<=4096/\1<=m/\m<=4096:=by omega
theorem Br (a:min k0 1000=k):min (k0:Int) 1000=(k:Int):=by omega
theorem Bt (a:min k0 1000=k):min 1000 (k0:Int)=(k:Int):=by omega
theorem Ix (b:(m - 2) / 2=h) (c:1<=m):((m:Int) - 2).tdiv 2=(h:Int):=by
 by_cases a:m=1
 ·subst a;subst b;rfl
 ·rw [Int.tdiv_eq_ediv_of_nonneg (by omega)];omega
theorem Iy (hs:h / 2=s):(h:Int) / 2=(s:Int):=by omega
theorem Iz (b:(s * 64 - 8) / 262=k0):((s:Int) * 64 - 8).tdiv 262=(k0:Int):=by
 by_cases a:s=0
 ·subst a;subst b;rfl
 ·rw [Int.tdiv_eq_ediv_of_nonneg (by omega)];omega
theorem Em (a:(s * 64 - 8) / 262=k0) (q:¬ (s:Int) < 1):((s:Int) * 64 - 8) / 262=(k0:Int):=by omega
theorem Lb (h:1<=k):¬ (k:Int) < 1:=by omega
theorem Lc (q:5<=h - s):¬ (h:Int) - (s:Int) < 5:=by omega
theorem Ld (h:k < 1):(k:Int) < 1:=by omega
theorem Lf (a:¬ (k:Int) < 1):1<=k:=by omega
theorem Lg (c:¬ (k:Int) < 1) (a:(s * 64 - 8) / 262=k0) (hs:h / 2=s) (b:min k0 1000=k):5<=h - s:=by omega
set_option linter.unusedSimpArgs false in
set_option maxHeartbeats 4000000 in
theorem Zn (β:Bool) (n:Int) (w:World) :
 Calls Tryz.prog (cond β 8 9) #[n] w fun e F=>e=.returned (.tuple #[IE n.toNat,.int .i64 (ID n.toNat)])/\Below w.heap.size w F:=by
 cases β <;> dsimp only [cond]
 all_goals
  by_cases hr:1<=n/\n<=4096
  ·obtain⟨m,rfl⟩:∃ m:Nat,n=(m:Int):=⟨n.toNat,by omega⟩
   have u:(m:Int).toNat=m:=by omega
   rw [u]
   obtain⟨h,f⟩:∃ h,(m - 2) / 2=h:=⟨_,rfl⟩
   obtain⟨s,hs⟩:∃ s,h / 2=s:=⟨_,rfl⟩
   obtain⟨k0,b⟩:∃ k,(s * 64 - 8) / 262=k:=⟨_,rfl⟩
   obtain⟨k,d⟩:∃ k,min k0 1000=k:=⟨_,rfl⟩
   have R:¬ (m:Int) < 1:=by omega
   have T:¬ 4096 < (m:Int):=by omega
   obtain⟨H,I,J,r,K,i,t⟩:=Gg f hs b d (by omega) (by omega)
   have x:=zH (show (s:Int) < 1->k < 1 from r)
   have hfit:AH.fit m=decide (1<=k/\5<=h - s):=by
    unfold AH.fit AH.plan
    rw [f,hs,b,d]
    exact decide_eq_decide.2 ⟨fun q=>⟨q.2.2.1,q.2.2.2⟩,fun q=>⟨i,t,q.1,q.2⟩⟩
   have p:=zH (fun c=>La (n:=m) c f hs (b.symm ▸ d))
   have o:=zH (fun c=>Jm (n:=m) c)
   clear hr u
   have M:((m:Int) - 2).tdiv 2=(h:Int):=Ix f i
   have N:(h:Int) / 2=(s:Int):=Iy hs
   have O:((s:Int) * 64 - 8).tdiv 262=(k0:Int):=Iz b
   have l:=zH (fun q=>Em b q)
   have B:=zH b
   have C:=zH d
   have A:=zH hs
   have P:=Br d
   have Q:=Bt d
   clear f hs b d r i t
   by_cases a:1<=k/\5<=h - s
   ·rw [decide_eq_true a] at hfit
    have g:¬ (k:Int) < 1:=Lb a.1
    have U:¬ (h:Int) - (s:Int) < 5:=Lc a.2
    have j:¬ (s:Int) < 1:=fun z=>g (Ld (x.out z))
    rw [(p.out hfit).1,(p.out hfit).2]
    have y:((s:Int) * 64 - 8) / 262=(k0:Int):=l.out j
    clear a hfit
    go_in
    go_wp2_with fail
    refine wp_loop_rounds 3 ?_
    rw [rounds_succ];go_wp2_with fail
    rw [rounds_succ];go_wp2_with fail
    rw [rounds_succ];go_wp2_with fail
    refine bodyPost_ret (v:=.tuple #[layv k 2 (2+h) (2+s) (2+h+s) s ((h:Int) - s),.int .i64 0]) (by simp [results,Tryz.results8,Tryz.results9,go_sem,layv]) rfl ⟨rfl,?_⟩
    first|exact (Below.refl _ _).alloc (zN _) _|exact ((Below.refl _ _).alloc (zN _) _).alloc (by simp) _
   ·rw [decide_eq_false a] at hfit
    rw [(o.out hfit).1,(o.out hfit).2]
    by_cases g:(k:Int) < 1
    ·clear a hfit
     by_cases j:(s:Int) < 1
     case' neg=>have y:((s:Int) * 64 - 8) / 262=(k0:Int):=l.out j
     all_goals
      go_in
      go_wp2_with fail
      refine bodyPost_ret (v:=.tuple #[JC,.int .i64 2]) (by simp [results,Tryz.results8,Tryz.results9,go_sem,JC,layv]) rfl ⟨rfl,?_⟩
      first|exact (Below.refl _ _).alloc (zN _) _|exact ((Below.refl _ _).alloc (zN _) _).alloc (by simp) _
    ·exact absurd a (fun a=>a ⟨Lf g,Lg g B.out A.out C.out⟩)
  ·have c:AH.fit n.toNat=false:=by
    unfold AH.fit
    rw [decide_eq_false_iff_not]
    omega
   rw [(Jm c).1,(Jm c).2]
   by_cases hn:n < 1
   case' neg=>have G:4096 < n:=by omega
   all_goals
    clear c hr
    go_in
    go_wp2_with fail
    refine bodyPost_ret (v:=.tuple #[JC,.int .i64 2]) (by simp [results,Tryz.results8,Tryz.results9,go_sem,JC,layv]) rfl ⟨rfl,?_⟩
    first|exact (Below.refl _ _).alloc (zN _) _|exact ((Below.refl _ _).alloc (zN _) _).alloc (by simp) _
end
end Go.Proofs.YtmanejniepghlaaGreatDoor
