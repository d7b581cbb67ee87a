import Derived.Test.YtmanejniepghlaaGreatDoorRun1
import Derived.RangeFuncNested
import Derived.RangeFuncBound
import Derived.RangeFuncCalls
import Derived.RangeFuncLeaves
import Derived.RangeFuncBox
import Derived.Test.YtmanejniepghlaaGreatDoorRun0
import Derived.Deep.QuietTactic
import Derived.BigQuiet
import Derived.Deep.DeepMust
import Derived.Lib.BitFns
import Derived.Deep.RegionLaw
import Derived.StillTail
import Derived.OrdersHeld
import Derived.Deep.RegionHeld
namespace Go.Proofs.YtmanejniepghlaaGreatDoor
structure Pin where
 h:List UInt8
 s:Bool
 x:Int
 deriving DecidableEq
namespace Pin
def none:Pin:=⟨[],false,0⟩
def valid (p:Pin):Bool:=Host.name p.h && (decide (0<=p.x) && decide (p.x<=1099511627776))
def enc (p:Pin):List UInt8:=Wire.txt p.h ++ (Wire.enc (if p.s then 1 else 0) ++ Wire.enc p.x.toNat)
def decR (t:List UInt8) (n:Nat) (b:List UInt8):Pin × Nat × Int :=
 if (Wire.dec (b.drop n)).2.2 ≠ 0 then (none,0,(Wire.dec (b.drop n)).2.2) else if 1 < (Wire.dec (b.drop n)).1 then (none,0,6) else
  if (Wire.dec (b.drop (n+(Wire.dec (b.drop n)).2.1))).2.2 ≠ 0 then (none,0,(Wire.dec (b.drop (n+(Wire.dec (b.drop n)).2.1))).2.2) else
   if 1099511627776 < (Wire.dec (b.drop (n+(Wire.dec (b.drop n)).2.1))).1 then (none,0,2) else if Host.name t=false then (none,0,14) else
    (⟨t,decide ((Wire.dec (b.drop n)).1=1),((Wire.dec (b.drop (n+(Wire.dec (b.drop n)).2.1))).1:Int)⟩,n+(Wire.dec (b.drop n)).2.1+(Wire.dec (b.drop (n+(Wire.dec (b.drop n)).2.1))).2.1,0)
def dec (b:List UInt8):Pin × Nat × Int :=
 if (Wire.decT b).2.2 ≠ 0 then (none,0,(Wire.decT b).2.2) else decR (Wire.decT b).1 (Wire.decT b).2.1 b
theorem valid_iff (p:Pin):valid p=true ↔ Host.name p.h=true/\0<=p.x/\p.x<=1099511627776:=by
 unfold valid;simp
theorem name_len {l:List UInt8} (h:Host.name l=true):l.length<=253:=by
 unfold Host.name at h;rw [Bool.and_eq_true] at h;simpa using h.1
theorem enc_len {p:Pin} (h:valid p=true):(enc p).length<=283/\4<=(enc p).length:=by
 obtain⟨h1,h2,h3⟩:=(valid_iff p).1 h
 have h4:=name_len h1
 have a1:=Wire.enc_len (v:=p.h.length) (by omega)
 have a2:=Wire.enc_len (v:=if p.s then 1 else 0) (by split <;> omega)
 have a3:=Wire.enc_len (v:=p.x.toNat) (by omega)
 have a4:1<=p.h.length:=by
  rcases Nat.eq_zero_or_pos p.h.length with e|e
  ·exfalso
   have e0:=List.eq_nil_of_length_eq_zero e
   rw [e0] at h1
   have:Host.name []=false:=by decide +kernel
   rw [this] at h1;cases h1
  ·exact e
 unfold enc Wire.txt
 simp only [List.length_append]
 have a5:(Wire.enc p.h.length).length<=10:=a1.2
 omega
theorem dec_enc {p:Pin} (h:valid p=true) (t:List UInt8):dec (enc p ++ t)=(p,(enc p).length,0):=by
 obtain⟨h1,h2,h3⟩:=(valid_iff p).1 h
 have h4:=name_len h1
 have e1:Wire.decT (enc p ++ t)=(p.h,(Wire.txt p.h).length,0):=by
  unfold enc;rw [List.append_assoc];exact Wire.decT_txt (by omega) _
 have d1:(enc p ++ t).drop (Wire.txt p.h).length=Wire.enc (if p.s then 1 else 0) ++ (Wire.enc p.x.toNat ++ t):=by
  unfold enc;rw [List.append_assoc,List.drop_left,List.append_assoc]
 have e2:Wire.dec (Wire.enc (if p.s then 1 else 0) ++ (Wire.enc p.x.toNat ++ t))=((if p.s then 1 else 0),(Wire.enc (if p.s then 1 else 0)).length,0):=Wire.dec_enc (by split <;> omega) _
 have d2:(enc p ++ t).drop ((Wire.txt p.h).length+(Wire.enc (if p.s then 1 else 0)).length)=Wire.enc p.x.toNat ++ t:=by
  rw [<-List.drop_drop,d1,List.drop_left]
 have e3:Wire.dec (Wire.enc p.x.toNat ++ t)=(p.x.toNat,(Wire.enc p.x.toNat).length,0):=Wire.dec_enc (by omega) _
 unfold dec
 rw [e1]
 simp only [ne_eq,not_true_eq_false,if_false]
 unfold decR
 rw [d1,e2]
 simp only [ne_eq,not_true_eq_false,if_false]
 rw [d2,e3]
 simp only [not_true_eq_false,if_false]
 rw [if_neg (by split <;> omega),if_neg (by omega),if_neg (by simp [h1])]
 refine Prod.ext ?_ (Prod.ext ?_ rfl)
 ·obtain⟨ph,ps,px⟩:=p
  have e4:((px.toNat:Nat):Int)=px:=by simp only at h2;omega
  cases ps <;> simp [e4]
 ·simp only [enc,List.length_append];omega
theorem enc_dec {b:List UInt8} {p:Pin} {n:Nat} (h:dec b=(p,n,0)):valid p=true/\b.take n=enc p/\n<=b.length:=by
 unfold dec at h
 by_cases c1:(Wire.decT b).2.2 ≠ 0
 ·rw [if_pos c1] at h;injection h with _ h;injection h with _ h;exact absurd h c1
 rw [if_neg c1] at h
 obtain⟨t,n1,z1,e1⟩:∃ t n1 z1,Wire.decT b=(t,n1,z1):=⟨_,_,_,rfl⟩
 rw [e1] at h c1
 have c1:z1=0:=by simpa using c1
 subst c1
 obtain⟨f1,f2,f3,f4,f5⟩:=Wire.txt_decT e1
 change decR t n1 b=_ at h
 unfold decR at h
 obtain⟨v2,n2,z2,e2⟩:∃ v2 n2 z2,Wire.dec (b.drop n1)=(v2,n2,z2):=⟨_,_,_,rfl⟩
 rw [e2] at h
 dsimp only at h
 by_cases c2:z2 ≠ 0
 ·rw [if_pos c2] at h;injection h with _ h;injection h with _ h;exact absurd h c2
 rw [if_neg c2] at h
 obtain rfl:z2=0:=by simpa using c2
 obtain⟨g1,g2,g3,g4,g5⟩:=Wire.enc_dec e2
 by_cases c3:1 < v2
 ·rw [if_pos c3] at h;cases h
 rw [if_neg c3] at h
 obtain⟨v3,n3,z3,e3⟩:∃ v3 n3 z3,Wire.dec (b.drop (n1+n2))=(v3,n3,z3):=⟨_,_,_,rfl⟩
 rw [e3] at h
 dsimp only at h
 by_cases c4:z3 ≠ 0
 ·rw [if_pos c4] at h;injection h with _ h;injection h with _ h;exact absurd h c4
 rw [if_neg c4] at h
 obtain rfl:z3=0:=by simpa using c4
 obtain⟨k1,k2,k3,k4,k5⟩:=Wire.enc_dec e3
 by_cases c5:1099511627776 < v3
 ·rw [if_pos c5] at h;cases h
 rw [if_neg c5] at h
 by_cases c6:Host.name t=false
 ·rw [if_pos c6] at h;cases h
 rw [if_neg c6] at h
 injection h with hp h
 injection h with hn _
 subst hp
 subst hn
 have hv2:(if decide (v2=1)=true then 1 else 0)=v2:=by
  rcases Nat.eq_zero_or_pos v2 with e|e
  ·subst e;rfl
  ·obtain rfl:v2=1:=by omega
   rfl
 rw [List.length_drop] at g2 k2
 refine⟨(valid_iff _).2 ⟨by simpa using c6,by simp,by simp only;omega⟩,?_,by omega⟩
 rw [Nat.add_assoc,List.take_add,f1,List.take_add,g1,List.drop_drop,k1]
 unfold enc
 simp only [hv2,Int.toNat_natCast]
end Pin
end Go.Proofs.YtmanejniepghlaaGreatDoor
namespace Go.Proofs.YtmanejniepghlaaGreatDoor.Tab
variable {L:List Pin} {k:Nat} {p:Pin} {h:List UInt8}
def Asc (L:List Pin):Prop:=L.Pairwise fun a b=>Host.cmp a.h b.h < 0
def lo (L:List Pin) (h:List UInt8):Nat:=(L.takeWhile fun p=>decide (Host.cmp p.h h < 0)).length
def hit (L:List Pin) (h:List UInt8):Bool:=match L[lo L h]? with
|some p=>decide (p.h=h)
|none=>false
def put (L:List Pin) (cap:Int) (p:Pin):List Pin × Int :=
 if Pin.valid p=false then (L,1) else if hit L p.h then (L.set (lo L p.h) p,0) else if (L.length:Int)=cap then (L,11) else (L.take (lo L p.h) ++ p :: L.drop (lo L p.h),0)
def remove (L:List Pin) (h:List UInt8):List Pin × Bool:=if hit L h then (L.take (lo L h) ++ L.drop (lo L h+1),true) else (L,false)
def chk (L:List Pin):Nat->Nat->Int
|0,_=>0
|n+1,k=>match L[k]? with
 |none=>0
 |some p=>if Pin.valid p=false then 1 else if 0 < k/\0<=Host.cmp (L.getD (k - 1) Pin.none).h p.h then 8 else chk L n (k+1)
def load (L:List Pin) (cap:Int):Int:=if cap < 1\/1000 < cap then 2 else if cap < L.length then 11 else chk L L.length 0
theorem zi_o (h:Asc L) {i j:Nat} (hij:i < j) {a b:Pin} (ha:L[i]?=some a) (hb:L[j]?=some b):Host.cmp a.h b.h < 0:=by
 obtain⟨h1,rfl⟩:=List.getElem?_eq_some_iff.1 ha
 obtain⟨h2,rfl⟩:=List.getElem?_eq_some_iff.1 hb
 exact List.pairwise_iff_getElem.1 h i j h1 h2 hij
theorem lo_le (L:List Pin) (h:List UInt8):lo L h<=L.length:=(List.takeWhile_sublist _).length_le
theorem zc_b:∀ (L:List Pin) (h:List UInt8) (k:Nat),k < lo L h->∃ p,L[k]?=some p/\Host.cmp p.h h < 0
|[],h,k,hk=>by simp [lo] at hk
|p :: L,h,k,hk=>by
  by_cases hp:Host.cmp p.h h < 0
  ·cases k with
  |zero=>exact⟨p,rfl,hp⟩
  |succ k =>
    have e:lo (p :: L) h=lo L h+1:=by unfold lo;rw [List.takeWhile_cons_of_pos (by simpa using hp)];rfl
    rw [e] at hk
    obtain⟨q,h1,h2⟩:=zc_b L h k (by omega)
    exact⟨q,by simpa using h1,h2⟩
  ·have e:lo (p :: L) h=0:=by unfold lo;rw [List.takeWhile_cons_of_neg (by simpa using hp)];rfl
   omega
theorem zp_c:∀ (L:List Pin) (h:List UInt8) (p:Pin),L[lo L h]?=some p->¬ Host.cmp p.h h < 0
|[],h,p,e=>by simp [lo] at e
|q :: L,h,p,e=>by
  by_cases hp:Host.cmp q.h h < 0
  ·have e2:lo (q :: L) h=lo L h+1:=by unfold lo;rw [List.takeWhile_cons_of_pos (by simpa using hp)];rfl
   rw [e2,List.getElem?_cons_succ] at e
   exact zp_c L h p e
  ·have e2:lo (q :: L) h=0:=by unfold lo;rw [List.takeWhile_cons_of_neg (by simpa using hp)];rfl
   rw [e2] at e
   cases e
   exact hp
theorem lo_iff (hL:Asc L) (h:List UInt8) (hk:L[k]?=some p):Host.cmp p.h h < 0 ↔ k < lo L h:=by
 constructor
 ·intro hc
  rcases Nat.lt_trichotomy k (lo L h) with e|e|e
  ·exact e
  ·subst e;exact absurd hc (zp_c L h p hk)
  ·have hkl:=(List.getElem?_eq_some_iff.1 hk).1
   have hlt:lo L h < L.length:=by omega
   have h1:=zi_o hL e (List.getElem?_eq_getElem hlt) hk
   exact absurd (Host.cmp_lt_trans h1 hc) (zp_c L h _ (List.getElem?_eq_getElem hlt))
 ·intro hc
  obtain⟨q,h1,h2⟩:=zc_b L h k hc
  rw [hk] at h1;cases h1;exact h2
theorem lo_eq (hk:k<=L.length) (h1:∀ i p,i < k->L[i]?=some p->Host.cmp p.h h < 0) (h2:∀ p,L[k]?=some p->¬ Host.cmp p.h h < 0):lo L h=k:=by
 rcases Nat.lt_trichotomy (lo L h) k with e|e|e
 ·have hlt:lo L h < L.length:=by omega
  exact absurd (h1 _ _ e (List.getElem?_eq_getElem hlt)) (zp_c L h _ (List.getElem?_eq_getElem hlt))
 ·exact e
 ·obtain⟨p,h3,h4⟩:=zc_b L h k e
  exact absurd h4 (h2 p h3)
theorem ze_f (_hL:Asc L) (h:List UInt8):hit L h=true ↔ ∃ p,L[lo L h]?=some p/\p.h=h:=by
 unfold hit
 cases e:L[lo L h]? with
|none=>simp
|some p=>simp
theorem place (hL:Asc L) (hk:L[k]?=some p):lo L p.h=k:=by
 refine lo_eq (Nat.le_of_lt (List.getElem?_eq_some_iff.1 hk).1) (fun i q hi hq=>zi_o hL hi hq hk) fun q hq=>?_
 rw [hk] at hq;cases hq
 rw [Host.cmp_self];omega
theorem zs_y (hL:Asc L) (hk:L[k]?=some p):hit L p.h=true:=by
 rw [ze_f hL,place hL hk];exact⟨p,hk,rfl⟩
theorem ze_s (hL:Asc L) (hn:hit L h=false):∀ p ∈ L,p.h ≠ h:=by
 intro p hp e
 obtain⟨k,hk,rfl⟩:=List.mem_iff_getElem.1 hp
 have:=zs_y hL (List.getElem?_eq_getElem hk)
 rw [e,hn] at this;cases this
theorem zq_z (h:Asc L) (k:Nat):Asc (L.take k):=h.sublist (List.take_sublist _ _)
theorem zq_d (h:Asc L) (k:Nat):Asc (L.drop k):=h.sublist (List.drop_sublist _ _)
theorem zg_h (h:Asc L) (k:Nat):Asc (L.take k ++ L.drop (k+1)):=by
 refine h.sublist ?_
 have:L.take k ++ L.drop (k+1)=L.eraseIdx k:=by rw [List.eraseIdx_eq_take_drop_succ]
 rw [this];exact List.eraseIdx_sublist _ _
theorem zr_u (hL:Asc L) {q:Pin} (hk:L[k]?=some q) (hh:q.h=p.h):Asc (L.set k p):=by
 have hkl:=(List.getElem?_eq_some_iff.1 hk).1
 rw [Asc,List.pairwise_iff_getElem]
 intro i j hi hj hij
 rw [List.length_set] at hi hj
 have g:∀ m (hm:m < L.length),(((L.set k p)[m]'(by rw [List.length_set];exact hm)).h)=(L[m]).h:=by
  intro m hm
  rw [List.getElem_set]
  split
  ·rename_i e;subst e
   have:=(List.getElem?_eq_some_iff.1 hk).2
   rw [this,hh]
  ·rfl
 rw [g i hi,g j hj]
 exact List.pairwise_iff_getElem.1 hL i j hi hj hij
theorem zl_u (hL:Asc L) (hn:hit L p.h=false):Asc (L.take (lo L p.h) ++ p :: L.drop (lo L p.h)):=by
 have hlo:=lo_le L p.h
 rw [Asc,List.pairwise_append,List.pairwise_cons]
 have key:∀ x ∈ L.drop (lo L p.h),Host.cmp p.h x.h < 0:=by
  intro x hx
  obtain⟨j,hj,rfl⟩:=List.mem_iff_getElem.1 hx
  rw [List.length_drop] at hj
  have hg:L[lo L p.h+j]?=some ((L.drop (lo L p.h))[j]'(by rw [List.length_drop];exact hj)):=by
   rw [List.getElem_drop,List.getElem?_eq_getElem]
  have h1:¬ Host.cmp ((L.drop (lo L p.h))[j]'(by rw [List.length_drop];exact hj)).h p.h < 0:=by
   rw [lo_iff hL p.h hg];omega
  have h2:=Host.cmp_neg p.h ((L.drop (lo L p.h))[j]'(by rw [List.length_drop];exact hj)).h
  have h3:Host.cmp p.h ((L.drop (lo L p.h))[j]'(by rw [List.length_drop];exact hj)).h ≠ 0:=by
   intro e
   exact ze_s hL hn _ (List.mem_of_getElem? hg) (Host.cmp_eq e).symm
  omega
 refine⟨zq_z hL _,⟨key,zq_d hL _⟩,?_⟩
 intro a ha b hb
 have ha':Host.cmp a.h p.h < 0:=by
  obtain⟨i,hi,rfl⟩:=List.mem_iff_getElem.1 ha
  rw [List.length_take] at hi
  have hg:L[i]?=some ((L.take (lo L p.h))[i]'(by rw [List.length_take];exact hi)):=by
   rw [List.getElem_take,List.getElem?_eq_getElem]
  rw [lo_iff hL p.h hg];omega
 rcases List.mem_cons.1 hb with e|e
 ·rw [e];exact ha'
 ·exact Host.cmp_lt_trans ha' (key b e)
theorem put_asc (hL:Asc L) (cap:Int) (p:Pin):Asc (put L cap p).1:=by
 unfold put
 split
 ·exact hL
 ·split
  ·rename_i h
   obtain⟨q,h1,h2⟩:=(ze_f hL p.h).1 h
   exact zr_u hL h1 h2
  ·split
   ·exact hL
   ·rename_i h _
    exact zl_u hL (by simpa using h)
theorem remove_asc (hL:Asc L) (h:List UInt8):Asc (remove L h).1:=by
 unfold remove
 split
 ·exact zg_h hL _
 ·exact hL
theorem remove_len (L:List Pin) (h:List UInt8):(remove L h).1.length<=L.length:=by
 unfold remove
 split
 ·simp only [List.length_append,List.length_take,List.length_drop];omega
 ·exact zN _
theorem zo_q (L:List Pin):∀ n k,n+k=L.length->(chk L n k=0 ↔ (∀ i p,k<=i->L[i]?=some p->Pin.valid p=true)/\∀ i p q,k<=i+1->L[i]?=some p->L[i+1]?=some q->Host.cmp p.h q.h < 0)
|0,k,hk=>by
  refine⟨fun _=>⟨fun i p hi hp=>?_,fun i p q hi hp hq=>?_⟩,fun _=>rfl⟩
  ·have:=(List.getElem?_eq_some_iff.1 hp).1;omega
  ·have:=(List.getElem?_eq_some_iff.1 hq).1;omega
|n+1,k,hk=>by
  have hkl:k < L.length:=by omega
  have hg:=List.getElem?_eq_getElem hkl
  have ih:=zo_q L n (k+1) (by omega)
  rw [chk,hg]
  dsimp only
  by_cases hv:Pin.valid L[k]=false
  ·rw [if_pos hv]
   refine⟨(fun h=>by cases h),fun h=>?_⟩
   rw [h.1 k _ (zN _) hg] at hv;cases hv
  ·rw [if_neg hv]
   have hv':Pin.valid L[k]=true:=by simpa using hv
   by_cases hc:0 < k/\0<=Host.cmp (L.getD (k - 1) Pin.none).h L[k].h
   ·rw [if_pos hc]
    refine⟨(fun h=>by cases h),fun h=>?_⟩
    have hk1:k - 1 < L.length:=by omega
    have e1:L.getD (k - 1) Pin.none=L[k - 1]:=by rw [List.getD_eq_getElem?_getD,List.getElem?_eq_getElem hk1];rfl
    have:=h.2 (k - 1) _ _ (by omega) (List.getElem?_eq_getElem hk1) (by rw [show k - 1+1=k by omega];exact hg)
    rw [e1] at hc;omega
   ·rw [if_neg hc,ih]
    constructor
    ·rintro⟨h1,h2⟩
     refine⟨fun i p hi hp=>?_,fun i p q hi hp hq=>?_⟩
     ·rcases Nat.eq_or_lt_of_le hi with e|e
      ·subst e;rw [hg] at hp;cases hp;exact hv'
      ·exact h1 i p e hp
     ·rcases Nat.eq_or_lt_of_le hi with e|e
      ·subst e
       rw [hg] at hq;cases hq
       have e1:L.getD i Pin.none=p:=by rw [List.getD_eq_getElem?_getD,hp];rfl
       rw [Nat.add_sub_cancel,e1] at hc
       omega
      ·exact h2 i p q (by omega) hp hq
    ·rintro⟨h1,h2⟩
     exact⟨fun i p hi hp=>h1 i p (by omega) hp,fun i p q hi hp hq=>h2 i p q (by omega) hp hq⟩
theorem zj_q (h:∀ i p q,L[i]?=some p->L[i+1]?=some q->Host.cmp p.h q.h < 0):Asc L:=by
 rw [Asc,List.pairwise_iff_getElem]
 intro i j hi hj hij
 obtain⟨d,rfl⟩:∃ d,j=i+1+d:=⟨j - (i+1),by omega⟩
 clear hij
 induction d with
|zero=>exact h i _ _ (List.getElem?_eq_getElem hi) (List.getElem?_eq_getElem hj)
|succ d ih =>
  have hd:i+1+d < L.length:=by omega
  have h1:=ih hd
  have h2:=h (i+1+d) _ _ (List.getElem?_eq_getElem hd) (List.getElem?_eq_getElem (show i+1+d+1 < L.length by omega))
  exact Host.cmp_lt_trans h1 h2
theorem chk_zero (L:List Pin):chk L L.length 0=0 ↔ (∀ p ∈ L,Pin.valid p=true)/\Asc L:=by
 rw [zo_q L L.length 0 rfl]
 constructor
 ·rintro⟨h1,h2⟩
  refine⟨fun p hp=>?_,zj_q fun i p q hp hq=>h2 i p q (by omega) hp hq⟩
  obtain⟨i,hi,rfl⟩:=List.mem_iff_getElem.1 hp
  exact h1 i _ (by omega) (List.getElem?_eq_getElem hi)
 ·rintro⟨h1,h2⟩
  exact⟨fun i p _ hp=>h1 p (List.mem_of_getElem? hp),fun i p q _ hp hq=>zi_o h2 (by omega) hp hq⟩
end Go.Proofs.YtmanejniepghlaaGreatDoor.Tab
namespace Go.Proofs.YtmanejniepghlaaGreatDoor.Tab
variable {L:List Pin} {h:List UInt8}
def find (L:List Pin) (h:List UInt8):Nat:=(L.takeWhile fun p=>decide (p.h ≠ h)).length
def rremove (L:List Pin) (h:List UInt8):List Pin × Bool:=if find L h < L.length then (L.take (find L h) ++ L.drop (find L h+1),true) else (L,false)
def rput (L:List Pin) (p:Pin) (cap:Int):List Pin × Int :=
 if Pin.valid p=false then (L,1) else if (rremove L p.h).2=false/\cap<=L.length then (L,11) else
  ((rremove L p.h).1.take (lo (rremove L p.h).1 p.h) ++ p :: (rremove L p.h).1.drop (lo (rremove L p.h).1 p.h),0)
theorem zf_o:∀ (L:List Pin) (h:List UInt8) (k:Nat),k < find L h->∃ p,L[k]?=some p/\p.h ≠ h
|[],h,k,hk=>by simp [find] at hk
|p :: L,h,k,hk=>by
  by_cases hp:p.h ≠ h
  ·cases k with
  |zero=>exact⟨p,rfl,hp⟩
  |succ k =>
    have e:find (p :: L) h=find L h+1:=by unfold find;rw [List.takeWhile_cons_of_pos (by simpa using hp)];rfl
    rw [e] at hk
    obtain⟨q,h1,h2⟩:=zf_o L h k (by omega)
    exact⟨q,by simpa using h1,h2⟩
  ·have e:find (p :: L) h=0:=by unfold find;rw [List.takeWhile_cons_of_neg (by simpa using hp)];rfl
   omega
theorem zm_p:∀ (L:List Pin) (h:List UInt8) (p:Pin),L[find L h]?=some p->p.h=h
|[],h,p,e=>by simp [find] at e
|q :: L,h,p,e=>by
  by_cases hp:q.h ≠ h
  ·have e2:find (q :: L) h=find L h+1:=by unfold find;rw [List.takeWhile_cons_of_pos (by simpa using hp)];rfl
   rw [e2,List.getElem?_cons_succ] at e
   exact zm_p L h p e
  ·have e2:find (q :: L) h=0:=by unfold find;rw [List.takeWhile_cons_of_neg (by simpa using hp)];rfl
   rw [e2] at e
   cases e
   simpa using hp
theorem find_eq {k:Nat} (hk:k<=L.length) (h1:∀ i p,i < k->L[i]?=some p->p.h ≠ h) (h2:∀ p,L[k]?=some p->p.h=h):find L h=k:=by
 rcases Nat.lt_trichotomy (find L h) k with e|e|e
 ·have hlt:find L h < L.length:=by omega
  exact absurd (zm_p L h _ (List.getElem?_eq_getElem hlt)) (h1 _ _ e (List.getElem?_eq_getElem hlt))
 ·exact e
 ·obtain⟨p,h3,h4⟩:=zf_o L h k e
  exact absurd (h2 p h3) h4
theorem zq_t (hL:Asc L) (hh:hit L h=true):find L h=lo L h:=by
 obtain⟨p,h1,h2⟩:=(ze_f hL h).1 hh
 refine find_eq (lo_le L h) (fun i q hi hq e=>?_) (fun q hq=>?_)
 ·obtain⟨r,h3,h4⟩:=zc_b L h i hi
  rw [hq] at h3;cases h3
  rw [e,Host.cmp_self] at h4;omega
 ·rw [h1] at hq;cases hq;exact h2
theorem zn_o (hL:Asc L) (hh:hit L h=false):find L h=L.length:=by
 refine find_eq (zN _) (fun i q _ hq=>ze_s hL hh q (List.mem_of_getElem? hq)) (fun q hq=>?_)
 rw [List.getElem?_eq_none (zN _)] at hq;cases hq
theorem lo_lt (hL:Asc L) (hh:hit L h=true):lo L h < L.length:=by
 obtain⟨p,h1,h2⟩:=(ze_f hL h).1 hh
 exact (List.getElem?_eq_some_iff.1 h1).1
theorem rremove_is (hL:Asc L) (h:List UInt8):rremove L h=remove L h:=by
 unfold rremove remove
 cases hh:hit L h with
|true=>rw [zq_t hL hh,if_pos (lo_lt hL hh),if_pos rfl]
|false=>rw [zn_o hL hh,if_neg (by omega),if_neg (by decide)]
theorem lo_removed (hL:Asc L) (hh:hit L h=true):lo (L.take (lo L h) ++ L.drop (lo L h+1)) h=lo L h:=by
 obtain⟨p,h1,h2⟩:=(ze_f hL h).1 hh
 have hlt:=lo_lt hL hh
 refine lo_eq (by rw [List.length_append,List.length_take,List.length_drop];omega) (fun i q hi hq=>?_) (fun q hq=>?_)
 ·rw [List.getElem?_append_left (by rw [List.length_take];omega),List.getElem?_take_of_lt hi] at hq
  obtain⟨r,h3,h4⟩:=zc_b L h i hi
  rw [hq] at h3;cases h3;exact h4
 ·rw [List.getElem?_append_right (by rw [List.length_take];omega),List.length_take,List.getElem?_drop] at hq
  have h3:=zi_o hL (show lo L h < lo L h+1+(lo L h - min (lo L h) L.length) by omega) h1 hq
  have h4:=Host.cmp_neg p.h q.h
  rw [h2] at h3 h4
  omega
theorem remove_mem (hL:Asc L) (h:List UInt8) (q:Pin):q ∈ (remove L h).1 ↔ q ∈ L/\q.h ≠ h:=by
 unfold remove
 cases hh:hit L h with
|false =>
  rw [if_neg (by decide)]
  exact⟨fun hq=>⟨hq,ze_s hL hh q hq⟩,fun hq=>hq.1⟩
|true =>
  rw [if_pos rfl]
  obtain⟨p,h1,h2⟩:=(ze_f hL h).1 hh
  simp only
  constructor
  ·intro hq
   refine⟨?_,fun e=>?_⟩
   ·rcases List.mem_append.1 hq with m|m
    ·exact List.mem_of_mem_take m
    ·exact List.mem_of_mem_drop m
   ·have hqL:q ∈ L:=by
     rcases List.mem_append.1 hq with m|m
     ·exact List.mem_of_mem_take m
     ·exact List.mem_of_mem_drop m
    have hr:=zg_h hL (lo L h)
    obtain⟨i,hi,rfl⟩:=List.mem_iff_getElem.1 hq
    have e3:=place hr (List.getElem?_eq_getElem hi)
    rw [e,lo_removed hL hh] at e3
    have hg:=List.getElem?_eq_getElem hi
    generalize (L.take (lo L h) ++ L.drop (lo L h+1))[i]=x at *
    subst e3
    rw [List.getElem?_append_right (by rw [List.length_take];omega),List.length_take,List.getElem?_drop] at hg
    have h4:=zi_o hL (show lo L h < lo L h+1+(lo L h - min (lo L h) L.length) by omega) h1 hg
    rw [h2,e,Host.cmp_self] at h4
    omega
  ·rintro⟨hq,hne⟩
   obtain⟨i,hi,rfl⟩:=List.mem_iff_getElem.1 hq
   rcases Nat.lt_trichotomy i (lo L h) with e|e|e
   ·exact List.mem_append_left _ (List.mem_iff_getElem.2 ⟨i,by rw [List.length_take];omega,by rw [List.getElem_take]⟩)
   ·subst e
    rw [List.getElem?_eq_getElem hi] at h1;cases h1
    exact absurd h2 hne
   ·refine List.mem_append_right _ (List.mem_iff_getElem.2 ⟨i - (lo L h+1),by rw [List.length_drop];omega,?_⟩)
    rw [List.getElem_drop]
    congr 1;omega
theorem put_mem (hL:Asc L) {cap:Int} {p:Pin} (hv:Pin.valid p=true) (hc:(put L cap p).2=0) (q:Pin):q ∈ (put L cap p).1 ↔ q=p\/(q ∈ L/\q.h ≠ p.h):=by
 unfold put at hc ⊢
 rw [if_neg (by simp [hv])] at hc ⊢
 have hlo:=lo_le L p.h
 cases hh:hit L p.h with
|true =>
  have hlt:=lo_lt hL hh
  have hr:=remove_mem hL p.h q
  unfold remove at hr
  rw [hh,if_pos rfl] at hr
  rw [if_pos rfl]
  simp only at hr ⊢
  rw [List.set_eq_take_append_cons_drop,if_pos hlt,List.mem_append,List.mem_cons]
  rw [List.mem_append] at hr
  rw [<-hr]
  constructor
  ·rintro (m|m|m)
   ·exact .inr (.inl m)
   ·exact .inl m
   ·exact .inr (.inr m)
  ·rintro (m|m|m)
   ·exact .inr (.inl m)
   ·exact .inl m
   ·exact .inr (.inr m)
|false =>
  rw [hh,if_neg (by decide)] at hc
  rw [if_neg (by decide)]
  by_cases hf:(L.length:Int)=cap
  ·rw [if_pos hf] at hc;cases hc
  rw [if_neg hf]
  simp only
  rw [List.mem_append,List.mem_cons]
  have hsp:q ∈ L ↔ q ∈ L.take (lo L p.h)\/q ∈ L.drop (lo L p.h):=by rw [<-List.mem_append,List.take_append_drop]
  have hne:q ∈ L->q.h ≠ p.h:=ze_s hL hh q
  constructor
  ·rintro (m|m|m)
   ·exact .inr ⟨hsp.2 (.inl m),hne (hsp.2 (.inl m))⟩
   ·exact .inl m
   ·exact .inr ⟨hsp.2 (.inr m),hne (hsp.2 (.inr m))⟩
  ·rintro (m|⟨m,-⟩)
   ·exact .inr (.inl m)
   ·rcases hsp.1 m with m|m
    ·exact .inl m
    ·exact .inr (.inr m)
end Go.Proofs.YtmanejniepghlaaGreatDoor.Tab
namespace Go.Proofs.YtmanejniepghlaaGreatDoor
section
variable {L:List Pin}
structure UpdV where
 k:Int
 p:Pin
 deriving DecidableEq
namespace Upt
def none:UpdV:=⟨0,Pin.none⟩
def valid (u:UpdV):Bool:=if u.k=1 then Pin.valid u.p else if u.k=2 then Host.name u.p.h && decide (u.p.s=false/\u.p.x=0) else false
def enc (u:UpdV):List UInt8:=if u.k=2 then 2 :: Wire.txt u.p.h else 1 :: Pin.enc u.p
def dec1 (t:List UInt8):UpdV × Int:=if (Pin.dec t).2.2 ≠ 0 then (none,(Pin.dec t).2.2) else if (Pin.dec t).2.1 < t.length then (none,6) else (⟨1,(Pin.dec t).1⟩,0)
def dec2 (t:List UInt8):UpdV × Int:=if (Wire.decT t).2.2 ≠ 0 then (none,(Wire.decT t).2.2) else if (Wire.decT t).2.1 < t.length then (none,6) else if Host.name (Wire.decT t).1=false then (none,14) else (⟨2,⟨(Wire.decT t).1,false,0⟩⟩,0)
def dec (b:List UInt8):UpdV × Int:=match b with
|[]=>(none,5)
|x :: t=>if x=1 then dec1 t else if x=2 then dec2 t else (none,6)
theorem valid_cases {u:UpdV} (h:valid u=true):(u.k=1/\Pin.valid u.p=true)\/(u.k=2/\Host.name u.p.h=true/\u.p=⟨u.p.h,false,0⟩):=by
 unfold valid at h
 split at h
 ·rename_i h1;exact .inl ⟨h1,h⟩
 ·split at h
  ·rename_i h2
   rw [Bool.and_eq_true,decide_eq_true_eq] at h
   refine .inr ⟨h2,h.1,?_⟩
   obtain⟨-,h3,h4⟩:=h
   cases hp:u.p with
  |mk a b c=>rw [hp] at h3 h4;simp only at h3 h4;rw [h3,h4]
  ·cases h
theorem dec_enc {u:UpdV} (h:valid u=true):dec (enc u)=(u,0):=by
 obtain⟨k,p⟩:=u
 rcases valid_cases h with⟨h1,h2⟩|⟨h1,h2,h3⟩
 ·simp only at h1 h2
  subst h1
  have e:enc ⟨1,p⟩=1 :: Pin.enc p:=by unfold enc;rw [if_neg (by simp)]
  have hd:=Pin.dec_enc h2 []
  rw [List.append_nil] at hd
  rw [e];unfold dec;dsimp only
  rw [if_pos rfl]
  unfold dec1
  rw [hd]
  rw [if_neg (by simp),if_neg (by simp)]
 ·simp only at h1 h2 h3
  subst h1
  have e:enc ⟨2,p⟩=2 :: Wire.txt p.h:=by unfold enc;rw [if_pos rfl]
  have hl:=Pin.name_len h2
  have hd:=Wire.decT_txt (s:=p.h) (by omega) []
  rw [List.append_nil] at hd
  rw [e];unfold dec;dsimp only
  rw [if_neg (by decide),if_pos rfl]
  unfold dec2
  rw [hd]
  rw [if_neg (by simp),if_neg (by simp),if_neg (by rw [h2];decide)]
  rw [<-h3]
theorem enc_dec {b:List UInt8} {u:UpdV} (h:dec b=(u,0)):valid u=true/\enc u=b:=by
 unfold dec at h
 cases b with
|nil=>cases h
|cons x t =>
  dsimp only at h
  split at h
  ·rename_i hx
   unfold dec1 at h
   split at h
   ·rename_i h0;exact absurd (Prod.mk.inj h).2 h0
   ·rename_i h0
    split at h
    ·cases h
    ·rename_i h1
     cases h
     have h0':(Pin.dec t).2.2=0:=by simpa using h0
     obtain⟨e1,e2,e3⟩:=Pin.enc_dec (b:=t) (p:=(Pin.dec t).1) (n:=(Pin.dec t).2.1) (by rw [<-h0'])
     refine⟨by unfold valid;rw [if_pos rfl];exact e1,?_⟩
     unfold enc;rw [if_neg (by simp)]
     rw [hx];dsimp only
     rw [<-e2,List.take_of_length_le (by omega)]
  ·split at h
   ·rename_i hx
    unfold dec2 at h
    split at h
    ·rename_i h0;exact absurd (Prod.mk.inj h).2 h0
    ·rename_i h0
     split at h
     ·cases h
     ·rename_i h1
      split at h
      ·cases h
      ·rename_i h2
       cases h
       have h0':(Wire.decT t).2.2=0:=by simpa using h0
       obtain⟨e2,e3,-⟩:=Wire.txt_decT (b:=t) (s:=(Wire.decT t).1) (n:=(Wire.decT t).2.1) (by rw [<-h0'])
       refine⟨by unfold valid;rw [if_neg (by simp),if_pos rfl];simpa using h2,?_⟩
       unfold enc;rw [if_pos rfl,hx];dsimp only
       rw [<-e2,List.take_of_length_le (by omega)]
   ·cases h
def stValid (c:Int) (L:List Pin):Bool:=decide (0<=c/\c<=1099511627776/\L.length<=1000/\Tab.chk L L.length 0=0)
theorem stValid_iff (c:Int) (L:List Pin):stValid c L=true ↔ 0<=c/\c<=1099511627776/\L.length<=1000/\(∀ p ∈ L,Pin.valid p=true)/\Tab.Asc L:=by
 unfold stValid;rw [decide_eq_true_eq,Tab.chk_zero]
def ins (L:List Pin) (p:Pin):List Pin:=if Tab.hit L p.h then L.set (Tab.lo L p.h) p else L.take (Tab.lo L p.h) ++ p :: L.drop (Tab.lo L p.h)
theorem zi_y {p:Pin} (hv:Pin.valid p=true):Tab.put L (L.length+1) p=(ins L p,0):=by
 unfold Tab.put ins
 rw [if_neg (by simp [hv])]
 split
 ·rfl
 ·rw [if_neg (by omega)]
def upd (L:List Pin) (u:UpdV):List Pin:=if u.k=2 then (Tab.remove L u.p.h).1 else ins L u.p
def apply (c:Int) (L:List Pin) (u:UpdV) (cap:Int):List Pin × Int :=
 if stValid c L=false\/valid u=false then ([],1) else if u.k=2 then (upd L u,0) else if Tab.hit L u.p.h=true then (upd L u,0) else if min cap 1000<=(L.length:Int) then ([],11) else (upd L u,0)
theorem zs_g (hL:Tab.Asc L) {u:UpdV} (hu:valid u=true) (q:Pin):q ∈ upd L u ↔ (u.k=1/\q=u.p)\/(q ∈ L/\q.h ≠ u.p.h):=by
 unfold upd
 rcases valid_cases hu with⟨h1,h2⟩|⟨h1,h2,h3⟩
 ·rw [if_neg (by omega)]
  have:=Tab.put_mem hL (cap:=L.length+1) h2 (by rw [zi_y h2]) q
  rw [zi_y h2] at this
  rw [this]
  constructor
  ·rintro (e|e)
   ·exact .inl ⟨h1,e⟩
   ·exact .inr e
  ·rintro (⟨-,e⟩|e)
   ·exact .inl e
   ·exact .inr e
 ·rw [if_pos h1,Tab.remove_mem hL]
  constructor
  ·exact fun e=>.inr e
  ·rintro (⟨e,-⟩|e)
   ·omega
   ·exact e
theorem zs_t (hL:Tab.Asc L) {u:UpdV} (hu:valid u=true):Tab.Asc (upd L u):=by
 unfold upd
 rcases valid_cases hu with⟨h1,h2⟩|⟨h1,-,-⟩
 ·rw [if_neg (by omega)]
  have:=Tab.put_asc hL (L.length+1) u.p
  rwa [zi_y h2] at this
 ·rw [if_pos h1];exact Tab.remove_asc hL _
theorem zq_n (hL:Tab.Asc L) {u:UpdV} (hu:valid u=true) (hg:∀ p ∈ L,Pin.valid p=true):∀ p ∈ upd L u,Pin.valid p=true:=by
 intro p hp
 rcases (zs_g hL hu p).1 hp with⟨h1,rfl⟩|⟨h,-⟩
 ·rcases valid_cases hu with⟨-,h2⟩|⟨h2,-,-⟩
  ·exact h2
  ·omega
 ·exact hg p h
end Upt
end
section
variable {c:Int} {L:List Pin}
namespace Snap
def enc (c:Int) (L:List Pin):List UInt8:=Wire.enc c.toNat ++ (Wire.enc L.length ++ L.flatMap Pin.enc)
def size (c:Int) (L:List Pin):Nat:=if Upt.stValid c L=true then (enc c L).length else 0
def pins (b:List UInt8):Nat->Nat->List Pin->List Pin × Nat × Int
|0,k,acc=>(acc,k,0)
|n+1,k,acc=>if (Pin.dec (b.drop k)).2.2 ≠ 0 then ([],0,(Pin.dec (b.drop k)).2.2) else pins b n (k+(Pin.dec (b.drop k)).2.1) (acc ++ [(Pin.dec (b.drop k)).1])
def decR (b:List UInt8) (c m k:Nat):(Int × List Pin) × Int :=
 if 1000 < m then ((0,[]),3) else if (pins b m k []).2.2 ≠ 0 then ((0,[]),(pins b m k []).2.2) else if (pins b m k []).2.1 < b.length then ((0,[]),6) else if 1099511627776 < c then ((0,[]),2) else
  if Upt.stValid c (pins b m k []).1=false then ((0,[]),8) else ((c,(pins b m k []).1),0)
def dec (b:List UInt8):(Int × List Pin) × Int :=
 if (Wire.dec b).2.2 ≠ 0 then ((0,[]),(Wire.dec b).2.2) else if (Wire.dec (b.drop (Wire.dec b).2.1)).2.2 ≠ 0 then ((0,[]),(Wire.dec (b.drop (Wire.dec b).2.1)).2.2) else
  decR b (Wire.dec b).1 (Wire.dec (b.drop (Wire.dec b).2.1)).1 ((Wire.dec b).2.1+(Wire.dec (b.drop (Wire.dec b).2.1)).2.1)
theorem zl_i:∀ (L:List Pin) (b:List UInt8) (k:Nat) (acc:List Pin) (t:List UInt8),(∀ p ∈ L,Pin.valid p=true)->b.drop k=L.flatMap Pin.enc ++ t->pins b L.length k acc=(acc ++ L,k+(L.flatMap Pin.enc).length,0)
|[],b,k,acc,t,_,_=>by simp [pins]
|p :: L,b,k,acc,t,hv,hb=>by
  have hd:=Pin.dec_enc (hv p List.mem_cons_self) (L.flatMap Pin.enc ++ t)
  rw [List.flatMap_cons,List.append_assoc] at hb
  rw [<-hb] at hd
  simp only [List.length_cons,pins]
  rw [hd,if_neg (by simp)]
  have hb2:b.drop (k+(Pin.enc p).length)=L.flatMap Pin.enc ++ t:=by
   rw [<-List.drop_drop,hb,List.drop_left]
  rw [zl_i L b _ (acc ++ [p]) t (fun q hq=>hv q (List.mem_cons_of_mem _ hq)) hb2]
  simp only [List.flatMap_cons,List.length_append,List.append_assoc,List.singleton_append,Prod.mk.injEq,and_true,true_and]
  omega
theorem zg_x:∀ (n:Nat) (b:List UInt8) (k:Nat) (acc R:List Pin) (m:Nat),k<=b.length->pins b n k acc=(R,m,0)->∃ L,R=acc ++ L/\L.length=n/\(∀ p ∈ L,Pin.valid p=true)/\m<=b.length/\k<=m/\(b.drop k).take (m - k)=L.flatMap Pin.enc
|0,b,k,acc,R,m,hk,h=>by
  simp only [pins,Prod.mk.injEq,and_true] at h
  obtain⟨rfl,rfl⟩:=h
  exact⟨[],by simp,rfl,by simp,hk,zN _,by simp⟩
|n+1,b,k,acc,R,m,hk,h=>by
  simp only [pins] at h
  split at h
  ·rename_i h0;exact absurd (Prod.mk.inj (Prod.mk.inj h).2).2 h0
  ·rename_i h0
   have h0':(Pin.dec (b.drop k)).2.2=0:=by simpa using h0
   obtain⟨e1,e2,e3⟩:=Pin.enc_dec (b:=b.drop k) (p:=(Pin.dec (b.drop k)).1) (n:=(Pin.dec (b.drop k)).2.1) (by rw [<-h0'])
   rw [List.length_drop] at e3
   obtain⟨L,g1,g2,g3,g4,g5,g6⟩:=zg_x n b _ _ R m (by omega) h
   refine⟨(Pin.dec (b.drop k)).1 :: L,by rw [g1];simp,by simp [g2],fun p hp=>?_,g4,by omega,?_⟩
   ·rcases List.mem_cons.1 hp with rfl|hp
    ·exact e1
    ·exact g3 p hp
   ·rw [List.flatMap_cons,<-e2,<-g6]
    have e4:m - k=(Pin.dec (b.drop k)).2.1+(m - (k+(Pin.dec (b.drop k)).2.1)):=by omega
    rw [e4,List.take_add,List.drop_drop]
theorem dec_enc (h:Upt.stValid c L=true):dec (enc c L)=((c,L),0):=by
 obtain⟨h1,h2,h3,h4,h5⟩:=(Upt.stValid_iff c L).1 h
 have d1:=Wire.dec_enc (v:=c.toNat) (by omega) (Wire.enc L.length ++ L.flatMap Pin.enc)
 have d2:=Wire.dec_enc (v:=L.length) (by omega) (L.flatMap Pin.enc)
 have e1:(enc c L).drop (Wire.enc c.toNat).length=Wire.enc L.length ++ L.flatMap Pin.enc:=by unfold enc;rw [List.drop_left]
 have e2:(enc c L).drop ((Wire.enc c.toNat).length+(Wire.enc L.length).length)=L.flatMap Pin.enc ++ []:=by rw [<-List.drop_drop,e1,List.drop_left,List.append_nil]
 have hp:=zl_i L (enc c L) _ [] [] h4 e2
 have hl:(enc c L).length=(Wire.enc c.toNat).length+(Wire.enc L.length).length+(L.flatMap Pin.enc).length:=by unfold enc;simp only [List.length_append];omega
 unfold dec
 rw [show Wire.dec (enc c L)=(c.toNat,(Wire.enc c.toNat).length,0) from d1]
 dsimp only
 rw [e1,d2,if_neg (by simp),if_neg (by simp)]
 unfold decR
 dsimp only
 rw [hp,if_neg (by omega),if_neg (by simp)]
 dsimp only
 rw [if_neg (by omega),if_neg (by omega),List.nil_append]
 have hc:((c.toNat:Nat):Int)=c:=by omega
 rw [hc,if_neg (by rw [h];decide)]
theorem enc_dec {b:List UInt8} (h:dec b=((c,L),0)):Upt.stValid c L=true/\enc c L=b:=by
 unfold dec at h
 split at h
 ·rename_i h0;exact absurd (Prod.mk.inj h).2 h0
 rename_i h0
 split at h
 ·rename_i h1;exact absurd (Prod.mk.inj h).2 h1
 rename_i h1
 unfold decR at h
 split at h
 ·cases h
 rename_i h2
 split at h
 ·rename_i h3;exact absurd (Prod.mk.inj h).2 h3
 rename_i h3
 split at h
 ·cases h
 rename_i h4
 split at h
 ·cases h
 split at h
 ·cases h
 rename_i h6
 have h0':(Wire.dec b).2.2=0:=by simpa using h0
 have h1':(Wire.dec (b.drop (Wire.dec b).2.1)).2.2=0:=by simpa using h1
 have h3':(pins b (Wire.dec (b.drop (Wire.dec b).2.1)).1 ((Wire.dec b).2.1+(Wire.dec (b.drop (Wire.dec b).2.1)).2.1) []).2.2=0:=by simpa using h3
 obtain⟨a1,a2,a3,a4,a5⟩:=Wire.enc_dec (b:=b) (v:=(Wire.dec b).1) (n:=(Wire.dec b).2.1) (by rw [<-h0'])
 obtain⟨b1,b2,b3,b4,b5⟩:=Wire.enc_dec (b:=b.drop (Wire.dec b).2.1) (v:=(Wire.dec (b.drop (Wire.dec b).2.1)).1) (n:=(Wire.dec (b.drop (Wire.dec b).2.1)).2.1) (by rw [<-h1'])
 rw [List.length_drop] at b2
 generalize Wire.dec b=r1 at *
 obtain⟨v1,n1,z1⟩:=r1
 dsimp only at *
 generalize Wire.dec (b.drop n1)=r2 at *
 obtain⟨v2,n2,z2⟩:=r2
 dsimp only at *
 obtain⟨M,g1,g2,g3,g4,g5,g6⟩:=zg_x v2 b (n1+n2) [] (pins b v2 (n1+n2) []).1 (pins b v2 (n1+n2) []).2.1 (by omega) (by rw [<-h3'])
 rw [List.nil_append] at g1
 generalize pins b v2 (n1+n2) []=r3 at *
 obtain⟨R,m,z3⟩:=r3
 dsimp only at *
 obtain⟨h7,h8⟩:=Prod.mk.inj (Prod.mk.inj h).1
 subst g1
 subst h8
 refine⟨by rw [<-h7];simpa using h6,?_⟩
 unfold enc
 rw [<-h7,Int.toNat_natCast,<-a1,g2,<-b1,<-g6]
 have e1:m=b.length:=by omega
 rw [e1,<-List.drop_drop,List.take_of_length_le (l:=(b.drop n1).drop n2) (by simp only [List.length_drop];omega),List.take_append_drop,List.take_append_drop]
theorem pin_len {p:Pin} (h:Pin.valid p=true):1<=(Pin.enc p).length/\(Pin.enc p).length<=262:=by
 obtain⟨h1,h2,h3⟩:=(Pin.valid_iff p).1 h
 have h4:=Pin.name_len h1
 have l1:=Wire.enc_len_bound 1 p.h.length (by omega)
 have l2:=Wire.enc_len_bound 0 (if p.s then 1 else 0) (by split <;> omega)
 have l3:=Wire.enc_len_bound 5 p.x.toNat (by omega)
 unfold Pin.enc Wire.txt
 simp only [List.length_append]
 omega
theorem zg_v:∀ (L:List Pin),(∀ p ∈ L,Pin.valid p=true)->L.length<=(L.flatMap Pin.enc).length/\(L.flatMap Pin.enc).length<=L.length * 262
|[],_=>by simp
|p :: L,h=>by
  have h1:=pin_len (h p List.mem_cons_self)
  have h2:=zg_v L (fun q hq=>h q (List.mem_cons_of_mem _ hq))
  simp only [List.flatMap_cons,List.length_append,List.length_cons]
  omega
theorem bound (h:Upt.stValid c L=true):(enc c L).length<=8+L.length * 262/\2<=(enc c L).length:=by
 obtain⟨h1,h2,h3,h4,h5⟩:=(Upt.stValid_iff c L).1 h
 have l1:=Wire.enc_len_bound 5 c.toNat (by omega)
 have l2:=Wire.enc_len_bound 1 L.length (by omega)
 have l3:=zg_v L h4
 unfold enc
 simp only [List.length_append]
 omega
end Snap
end
section
variable {L:List Pin} {u:UpdV} {c cap:Int}
theorem Tab.rput_any (hL:Tab.Asc L) (cap:Int) {p:Pin} (hv:Pin.valid p=true) :
 Tab.rput L p cap=if Tab.hit L p.h=true then (Upt.ins L p,0) else if cap<=(L.length:Int) then (L,11) else (Upt.ins L p,0):=by
 unfold Tab.rput Upt.ins
 rw [if_neg (by rw [hv];decide),Tab.rremove_is hL]
 unfold Tab.remove
 cases hh:Tab.hit L p.h with
|true =>
  rw [if_pos rfl,if_neg (by rintro⟨e,-⟩;cases e),if_pos rfl]
  simp only
  rw [Tab.lo_removed hL hh]
  have hlt:=Tab.lo_lt hL hh
  rw [List.take_left' (by rw [List.length_take];omega),List.drop_left' (by rw [List.length_take];omega),List.set_eq_take_append_cons_drop,if_pos hlt]
  try rfl
|false =>
  have e1:(if false=true then (L.take (Tab.lo L p.h) ++ L.drop (Tab.lo L p.h+1),true) else (L,false))=(L,false):=if_neg (by decide)
  rw [e1]
  have e2:∀ A B:List Pin × Int,(if false=true then A else B)=B:=fun A B=>if_neg (by decide)
  rw [e2]
  by_cases hf:cap<=L.length
  ·rw [if_pos ⟨rfl,hf⟩,if_pos hf]
  ·rw [if_neg (fun e=>hf e.2),if_neg hf,if_neg (by decide)]
namespace Upt
theorem apply_bad (h:stValid c L=false\/valid u=false):apply c L u cap=([],1):=by unfold apply;rw [if_pos h]
theorem apply_rem (h1:stValid c L=true) (h2:valid u=true) (hk:u.k=2):apply c L u cap=((Tab.remove L u.p.h).1,0):=by
 unfold apply upd;rw [if_neg (by rw [h1,h2];decide),if_pos hk,if_pos hk]
theorem apply_hit (h1:stValid c L=true) (h2:valid u=true) (hk:u.k=1) (hh:Tab.hit L u.p.h=true):apply c L u cap=(L.set (Tab.lo L u.p.h) u.p,0):=by
 unfold apply upd ins;rw [if_neg (by rw [h1,h2];decide),if_neg (by omega),if_pos hh,if_neg (by omega),if_pos hh]
theorem apply_full (h1:stValid c L=true) (h2:valid u=true) (hk:u.k=1) (hh:Tab.hit L u.p.h=false) (hf:min cap 1000<=(L.length:Int)):apply c L u cap=([],11):=by
 unfold apply;rw [if_neg (by rw [h1,h2];decide),if_neg (by omega),if_neg (by rw [hh];decide),if_pos hf]
theorem apply_ins (h1:stValid c L=true) (h2:valid u=true) (hk:u.k=1) (hh:Tab.hit L u.p.h=false) (hf:¬ min cap 1000<=(L.length:Int)) :
 apply c L u cap=(L.take (Tab.lo L u.p.h) ++ u.p :: L.drop (Tab.lo L u.p.h),0):=by
 unfold apply upd ins;rw [if_neg (by rw [h1,h2];decide),if_neg (by omega),if_neg (by rw [hh];decide),if_neg hf,if_neg (by omega),if_neg (by rw [hh];decide)]
theorem kind_of (h:valid u=true):u.k=1\/u.k=2:=by
 rcases valid_cases h with⟨h1,-⟩|⟨h1,-,-⟩
 ·exact .inl h1
 ·exact .inr h1
theorem host_len (h:valid u=true):u.p.h.length<=253:=by
 rcases valid_cases h with⟨-,h2⟩|⟨-,h2,-⟩
 ·exact Pin.name_len ((Pin.valid_iff _).1 h2).1
 ·exact Pin.name_len h2
theorem hosts_len (h:stValid c L=true):∀ p ∈ L,p.h.length<=253:=fun p hp =>
 Pin.name_len ((Pin.valid_iff _).1 (((stValid_iff c L).1 h).2.2.2.1 p hp)).1
def ack (c z:Int):Int:=if z=0 then c else 0
theorem apply_err (c:Int) (L:List Pin) (u:UpdV) (cap:Int) (h:(apply c L u cap).2 ≠ 0):(apply c L u cap).1=[]:=by
 revert h;unfold apply
 split
 ·exact fun _=>rfl
 ·split
  ·exact fun h=>absurd rfl h
  ·split
   ·exact fun h=>absurd rfl h
   ·split
    ·exact fun _=>rfl
    ·exact fun h=>absurd rfl h
theorem apply_ok (h:(apply c L u cap).2=0):stValid c L=true/\valid u=true/\(apply c L u cap).1=upd L u:=by
 revert h;unfold apply
 split
 ·exact fun h=>absurd h (by decide)
 ·rename_i h0
  have h1:stValid c L=true:=by cases e:stValid c L with|true=>rfl|false=>exact absurd (.inl e) h0
  have h2:valid u=true:=by cases e:valid u with|true=>rfl|false=>exact absurd (.inr e) h0
  split
  ·exact fun _=>⟨h1,h2,rfl⟩
  ·split
   ·exact fun _=>⟨h1,h2,rfl⟩
   ·split
    ·exact fun h=>absurd h (by decide)
    ·exact fun _=>⟨h1,h2,rfl⟩
theorem upd_state (h1:stValid c L=true) (h2:valid u=true) (hl:(upd L u).length<=1000):stValid c (upd L u)=true:=by
 obtain⟨a1,a2,a3,a4,a5⟩:=(stValid_iff c L).1 h1
 exact (stValid_iff c _).2 ⟨a1,a2,hl,zq_n a5 h2 a4,zs_t a5 h2⟩
end Upt
end
section
open Go.RowKit
def SeqIxS (F:Fence) (n:Nat) (P:Program) (g:Nat) (lb:Array Value) (enc:Nat->Array Value) (Kp:World->World->Prop) (N:Nat) (Bs:Nat) (w:World):Prop :=
 ∀ (l:Nat) (J Jx:Nat->World->Prop) (W:World),Below w.heap.size w W->(∀ k W1 v,J k W1->J k (W1.setCell ⟨Bs,0,none⟩ v)) →
  (∀ k W1,J k W1->k < N->YieldAt F (n - 1) P l (enc k) W1 fun e W'=>(e=.returned (.bool true)/\J (k+1) W'/\Kp W1 W')\/(e=.returned (.bool false)/\Jx (k+1) W')) →
  J 0 W->CallsIn F n P g (#[.func (.yield l) #[] #[]] ++ lb) W fun e W'=>(∃ v,e=.returned v)/\(J N W'\/∃ k,k<=N/\Jx k W')
def RoundEndsS (B:Nat) (Kp:World->World->Prop) (I:Nat->World->Prop) (Ix:Code->Nat->World->Prop) (k:Nat) (W:World):Exit->Act->World->Prop
|.normal,_,W'=>KeepsFrom B W W'/\Kp W W'/\I k W'
|.ret,_,W'=>KeepsFrom B W W'/\Ix .ret k W'
|.exit id,_,W'=>KeepsFrom B W W'/\Ix (.exit id) k W'
|_,_,_=>False
def StableS (B:Nat) (I:Nat->World->Prop):Prop:=∀ k W l o o',I k W->B<=l->W.heap[l]?=some o->o.isCells=false->I k (W.putObj l o')
theorem zh_o {F:Fence} {n:Nat} {P:Program} {g:Operand} {ps:Array Tmp} {assign body:Code} {Q:Exit->Act->World->Prop} {a:Act} {w:World}
 (hro:F.round=none) (h1:1<=n) {gf:Nat} {lb:Array Value} (hg:a.eval g=.func (.func gf) #[] lb) (hFg:F.fn gf) (eg:∀ args w,(callFunc gf args).run P w=.ok (.enter gf args) w)
 {enc:Nat->Array Value} {Kp:World->World->Prop} {N:Nat} {w0:World} {Bs:Nat} (hBs:Bs < w.heap.size) (hseq:SeqIxS F (n - 1) P gf lb enc Kp N Bs w0)
 (hKt:∀ {A B C:World},Kp A B->Kp B C->Kp A C) (hKb:∀ (W:World) (l:Nat) (o o':Obj),w.heap.size<=l->W.heap[l]?=some o->o.isCells=false->Kp W (W.putObj l o')) (hb0:Below w0.heap.size w0 w) (hps:∀ k,(enc k).size=ps.size)
 (I:Nat->World->Prop) (Ix:Code->Nat->World->Prop) (hI:StableS w.heap.size I) (hIx:∀ c,StableS w.heap.size (Ix c)) (hIs:∀ k W v,I k W->I k (W.setCell ⟨Bs,0,none⟩ v)) (h0:∀ o o',I 0 ((w.alloc o).alloc o')) (I':Nat->Act->World->Prop) (hI':∀ a1,StableS w.heap.size (fun k W=>I' k a1 W))
 (hassign:∀ (l:Nat) (k:Nat) (W:World),I k W->k < N →
  assign.wpIn (F.inRound l) (n - 1 - 1) P (Exit.then (fun a1 W1=>KeepsFrom w.heap.size W W1/\Kp W W1/\I' k a1 W1) (fun _ _ _=>False)) { tmps:=(ps.zip (enc k)).foldl (fun t (p,v)=>t.setIfInBounds p v) a.tmps,defers:=[] } W)
 (hbody:∀ (l:Nat) (k:Nat) (a1:Act) (W:World),I' k a1 W->k < N->body.wpIn (F.inRound l) (n - 1 - 1) P (RoundEndsS w.heap.size Kp I Ix (k+1) W) a1 W)
 (hdone:∀ (D:Nat) (W:World),w.heap.size<=D->I N W->W.heap[D]?=some (.deferred (some []))->Q .normal { a with defers:={ target:=.collected D,args:=#[] } :: a.defers } W)
 (hstop:∀ (D:Nat) (c:Code) (k:Nat) (W:World),w.heap.size<=D->k<=N->Ix c k W->W.heap[D]?=some (.deferred (some []))->c.wpIn F n P Q { a with defers:={ target:=.collected D,args:=#[] } :: a.defers } W) :
 (Code.rangeFunc g ps assign body).wpIn F n P Q a w:=by
 refine wpIn_rangeFunc (fun fn hfn=>?_)
 rw [hro]
 obtain⟨R,hR⟩:∃ R:LoopState->Option Code->Loop,R=fun st pe=>{ state:=st,pending:=pe,fn,tmps:=a.tmps,params:=ps,assign,body,defers:=w.heap.size }:=⟨_,rfl⟩
 have e0:∀ st pe,(R st pe).state=st/\(R st pe).params=ps/\(R st pe).pending=pe:=by intro st pe;rw [hR];exact⟨rfl,rfl,rfl⟩
 have hW1a:∀ W1,W1=(w.alloc (.deferred (some []))).alloc (.loop (R .ready none))->W1.heap[w.heap.size+1]?=some (.loop (R .ready none))/\W1.heap[w.heap.size]?=some (.deferred (some []))/\Below w0.heap.size w0 W1/\I 0 W1:=by
  rintro W1 rfl
  refine⟨za_b _ _ _ (by simp),(za_c _ _ _ (by simp)).trans (za_b _ _ _ rfl),?_,h0 _ _⟩
  exact (hb0.alloc hb0.size _).alloc (by have:=hb0.size;simp;omega) _
 obtain⟨hl1,hd1,hb1,hi1⟩:=hW1a _ rfl
 refine⟨w.heap.size+1,[{ target:=.collected w.heap.size,args:=#[] }],(w.alloc (.deferred (some []))).alloc (.loop (R .ready none)),{ target:=.fn (.func gf) lb,args:=#[.func (.yield (w.heap.size+1)) #[] #[]] },(w.alloc (.deferred (some []))).alloc (.loop (R .ready none)),gf,
  #[.func (.yield (w.heap.size+1)) #[] #[]] ++ lb,(w.alloc (.deferred (some []))).alloc (.loop (R .ready none)),?_,?_,?_,?_,fun _=>h1,?_⟩
 ·rw [hR];exact run_enterLoop_outer _ _ _ _ _
 ·simp only [resolve,hg];simp [go_sem]
 ·intro f' hf';simp [Target.leads] at hf';subst hf';exact hFg
 ·simp [invoke,go_sem,eg]
 ·refine (hseq (w.heap.size+1)
   (fun k W=>I k W/\W.heap[w.heap.size+1]?=some (.loop (R .ready none))/\W.heap[w.heap.size]?=some (.deferred (some [])))
   (fun k W=>∃ c,Ix c k W/\W.heap[w.heap.size+1]?=some (.loop (R .done (some c)))/\W.heap[w.heap.size]?=some (.deferred (some [])))
   _ hb1 (fun k W v h=>⟨hIs k W v h.1,(heap_setCell_other _ _ _ _ (by simp only;omega)).trans h.2.1,(heap_setCell_other _ _ _ _ (by simp only;omega)).trans h.2.2⟩) ?_ ⟨hi1,hl1,hd1⟩).mono ?_
  ·
   rintro k W ⟨hi,hl,hd⟩ hk
   have hy:=run_yield (P:=P) (args:=enc k) hl (by rw [(e0 _ _).2.1];exact hps k)
   have hyR:(Instr.yield (w.heap.size+1) (enc k)).run P W=.ok (.round (w.heap.size+1) fn ((ps.zip (enc k)).foldl (fun t (p,v)=>t.setIfInBounds p v) a.tmps) assign body) W:=by rw [hR] at hy;exact hy
   refine⟨fn,_,assign,body,hyR,roundIn_of_wpIn hfn (wpIn_mono (hassign _ k W hi hk) ?_)⟩
   rintro e1 a1 W0 hp0
   cases e1 with
  |ret=>exact hp0.elim
  |exit id=>exact hp0.elim
  |goto t=>exact hp0.elim
  |panic ch=>exact hp0.elim
  |outgrown=>exact hp0.elim
  |normal =>
   obtain⟨g1,g2,g3⟩:=(show KeepsFrom w.heap.size W W0/\Kp W W0/\I' k a1 W0 from hp0)
   have hl0:=g1.same _ _ (by omega) hl rfl
   have hd0:=g1.same _ _ (zN _) hd rfl
   refine⟨_,run_beginRound hl0 (e0 _ _).1,?_⟩
   obtain⟨b,hb⟩:∃ b:Loop,b={ R .ready none with state:=.busy }:=⟨_,rfl⟩
   rw [<-hb]
   have hl2:(W0.putObj (w.heap.size+1) (.loop b)).heap[w.heap.size+1]?=some (.loop b):=World.putObj_heap_same (za_a hl0)
   have hd2:(W0.putObj (w.heap.size+1) (.loop b)).heap[w.heap.size]?=some (.deferred (some [])):=(World.putObj_heap_other (by omega)).trans hd0
   have hk2:Kp W (W0.putObj (w.heap.size+1) (.loop b)):=hKt g2 (hKb _ _ _ _ (by omega) hl0 rfl)
   have ends:∀ (j:Option Code) (W3:World),KeepsFrom w.heap.size (W0.putObj (w.heap.size+1) (.loop b)) W3 →
    ∃ W4,W4=W3.putObj (w.heap.size+1) (.loop (R (if j.isNone then .ready else .done) j))/\(Instr.endRound (w.heap.size+1) j).run P W3=.ok (.bool j.isNone) W4/\W3.heap[w.heap.size+1]?=some (.loop b) ∧
     W4.heap[w.heap.size+1]?=some (.loop (R (if j.isNone then .ready else .done) j))/\W4.heap[w.heap.size]?=some (.deferred (some [])):=by
    intro j W3 hk3
    have hl3:=hk3.same _ _ (by omega) hl2 rfl
    refine⟨_,rfl,?_,hl3,World.putObj_heap_same (za_a hl3),(World.putObj_heap_other (by omega)).trans (hk3.same _ _ (zN _) hd2 rfl)⟩
    have:=run_endRound (P:=P) j hl3
    rw [hb,hR] at this;rw [hR];exact this
   refine wpIn_mono (hbody _ k a1 _ (hI' a1 _ _ _ _ _ g3 (by omega) hl0 rfl) hk) ?_
   rintro e a3 W3 hp
   cases e with
  |normal =>
    obtain⟨h3,h4,h5⟩:=hp
    obtain⟨W4,rfl,hr,hl3,hl4,hd4⟩:=ends none W3 h3
    exact⟨_,_,hr,.inl ⟨rfl,⟨hI _ _ _ _ _ h5 (by omega) hl3 rfl,hl4,hd4⟩,hKt (hKt hk2 h4) (hKb _ _ _ _ (by omega) hl3 rfl)⟩⟩
  |ret =>
    obtain⟨h3,h5⟩:=hp
    obtain⟨W4,rfl,hr,hl3,hl4,hd4⟩:=ends (some .ret) W3 h3
    exact⟨_,_,hr,.inr ⟨rfl,.ret,hIx _ _ _ _ _ _ h5 (by omega) hl3 rfl,hl4,hd4⟩⟩
  |exit id =>
    obtain⟨h3,h5⟩:=hp
    obtain⟨W4,rfl,hr,hl3,hl4,hd4⟩:=ends (some (.exit id)) W3 h3
    exact⟨_,_,hr,.inr ⟨rfl,.exit id,hIx _ _ _ _ _ _ h5 (by omega) hl3 rfl,hl4,hd4⟩⟩
  |goto t=>exact hp.elim
  |panic ch=>exact hp.elim
  |outgrown=>exact hp.elim
  ·
   rintro e W2 ⟨⟨v,rfl⟩,(⟨hi,hl,hd⟩|⟨k,hk,c,hi,hl,hd⟩)⟩
   ·have hr:=run_endLoop (P:=P) hl (by rw [(e0 _ _).1];simp)
    rw [(e0 _ _).2.2] at hr
    exact⟨none,_,hr,hdone _ _ (zN _) (hI _ _ _ _ _ hi (by omega) hl rfl) ((World.putObj_heap_other (by omega)).trans hd)⟩
   ·have hr:=run_endLoop (P:=P) hl (by rw [(e0 _ _).1];simp)
    rw [(e0 _ _).2.2] at hr
    exact⟨some c,_,hr,hstop _ c k _ (zN _) hk (hIx _ _ _ _ _ _ hi (by omega) hl rfl) ((World.putObj_heap_other (by omega)).trans hd)⟩
end
section
open Go.RowKit
variable {w w':World} {l:List (List UInt8)} {b base c k n:Nat} {v:Value} {a:Option Addr}
def tv (z:List UInt8):Value:=.string (str z)
def SlT (w:World) (a:Option Addr) (n c:Nat) (l:List (List UInt8)):Prop :=
 l.length=n/\n<=c/\c<=maxLen/\(a=none->l=[]/\c=0) ∧
  ∀ x,a=some x->∀ i (h:i < l.length),x.spot=none/\x.block < w.heap.size/\w.cell? ⟨x.block,x.off+i,none⟩=some (tv l[i])
theorem SlT.len (h:SlT w a n c l):l.length=n:=h.1
theorem SlT.le (h:SlT w a n c l):n<=9223372036854775807:=by
 have:=h.2.1;have:=h.2.2.1;unfold maxLen at *;omega
theorem SlT.nil (w:World):SlT w none 0 0 []:=⟨rfl,zN _,by unfold maxLen;omega,fun _=>⟨rfl,rfl⟩,fun x hx=>by cases hx⟩
theorem SlT.at (h:SlT w a n c l) (hk:k < n) :
 ∃ b o,a=some ⟨b,o,none⟩/\b < w.heap.size/\k < l.length/\w.cell? ⟨b,o+k,none⟩=some (tv (l[k]?.getD [])):=by
 obtain⟨hl,hn,hc,h0,h1⟩:=h
 cases a with
|none=>have:=(h0 rfl).1;subst this;simp at hl;omega
|some x =>
  obtain⟨b,o,sp⟩:=x
  have hk':k < l.length:=by omega
  obtain⟨hs,hb,hi⟩:=h1 _ rfl k hk'
  simp only at hs;subst hs
  refine⟨b,o,rfl,hb,hk',?_⟩
  rw [List.getElem?_eq_getElem hk']
  exact hi
theorem SlT.ext (h:SlT w a n c l) (e:Below w.heap.size w w'):SlT w' a n c l:=by
 obtain⟨hl,hn,hc,h0,h1⟩:=h
 refine⟨hl,hn,hc,h0,fun x hx i hi=>?_⟩
 obtain⟨hs,hb,hi⟩:=h1 x hx i hi
 exact⟨hs,Nat.lt_of_lt_of_le hb e.size,(e.cell (p:=⟨x.block,x.off+i,none⟩) hb).trans hi⟩
theorem SlT.take (h:SlT w a n c l) (hk:k<=n):SlT w a k c (l.take k):=by
 obtain⟨hl,hn,hc,h0,h1⟩:=h
 refine⟨by simp;omega,by omega,hc,fun e=>by simp [h0 e],fun x hx i hi=>?_⟩
 have hi':i < l.length:=by simp at hi;omega
 obtain⟨hs,hb,hcl⟩:=h1 x hx i hi'
 exact⟨hs,hb,by rw [hcl];simp⟩
theorem SlT.drop {o:Nat} (h:SlT w (some ⟨b,o,none⟩) n c l) (hk:k<=n):SlT w (some ⟨b,o+k,none⟩) (n - k) (c - k) (l.drop k):=by
 obtain⟨hl,hn,hc,h0,h1⟩:=h
 refine⟨by simp;omega,by omega,by omega,(fun e=>by cases e),fun x hx i hi=>?_⟩
 cases hx
 have hi':k+i < l.length:=by simp at hi;omega
 obtain⟨hs,hb,hcl⟩:=h1 _ rfl (k+i) hi'
 refine⟨rfl,hb,?_⟩
 simp only [Nat.add_assoc] at hcl ⊢
 rw [hcl];simp
theorem SlT.zero (w:World) (x:Addr) (c:Nat) (hc:c<=maxLen):SlT w (some x) 0 c []:=⟨rfl,Nat.zero_le _,hc,(fun h=>by cases h),fun y _ i hi=>by simp at hi⟩
def OwnT (base:Nat) (w:World) (v:Value) (l:List (List UInt8)):Prop:=w.ownsRow base 9 1 v l.length (l.map tv)
theorem OwnT.sl (h:OwnT base w v l):∃ a c,v=.slice a l.length c/\SlT w a l.length c l:=by
 rcases id h.2 with⟨hv,hn⟩|⟨g,cap,cur,hv,hg,hc,hnc,hcm,hcs,htake⟩
 ·have hl:l=[]:=List.eq_nil_of_length_eq_zero hn
  subst hl
  exact⟨none,0,hv,SlT.nil w⟩
 ·refine⟨some ⟨g,0,none⟩,cap,hv,⟨rfl,hnc,hcm,(fun h=>by cases h),fun x hx i hi=>?_⟩⟩
  cases hx
  refine⟨rfl,(Array.getElem?_eq_some_iff.1 hc).1,?_⟩
  have:=World.ownsRow.cellAt (g:=g) (cap:=cap) (by rw [<-hv];exact h) i (by simpa using hi)
  simp only [Nat.zero_add]
  rw [this];simp [hi]
theorem OwnT.lt (h:OwnT base w v l):∀ k,v.ownBlock=some k->base<=k/\k < w.heap.size:=World.ownsRow.lt h
theorem OwnT.ext (h:OwnT base w v l) (e:Below w.heap.size w w'):OwnT base w' v l:=by
 refine⟨h.1,?_⟩
 rcases h.2 with hn|⟨g,cap,cur,rfl,hb,hgg,rest⟩
 ·exact .inl hn
 ·exact .inr ⟨g,cap,cur,rfl,hb,(e.block g (Array.getElem?_eq_some_iff.1 hgg).1).trans hgg,rest⟩
theorem OwnT.mono {b':Nat} (h:OwnT b w v l) (hb:b'<=b):OwnT b' w v l:=by
 refine⟨h.1,?_⟩
 rcases h.2 with hn|⟨g,cap,cur,rfl,hbg,rest⟩
 ·exact .inl hn
 ·exact .inr ⟨g,cap,cur,rfl,Nat.le_trans hb hbg,rest⟩
theorem OwnT.alloc (h:OwnT base w v l) (o:Obj):OwnT base (w.alloc o) v l:=World.ownsRow.alloc h o
theorem OwnT.nil (base:Nat) (w:World):OwnT base w (.slice none 0 0) []:=World.ownsRow_nil w base _ _
theorem OwnT.empty (w:World) (hb:base<=w.heap.size):OwnT base (w.alloc (.cells #[] 9)) (.slice (some ⟨w.heap.size,0,none⟩) 0 0) [] :=
 World.ownsRow_made w #[] 0 hb (by unfold maxLen;omega) rfl
theorem OwnT.kept {row:Option Nat} (h:OwnT base w v l) (hg:w.grownBy w' row) (hne:∀ k,v.ownBlock=some k->row ≠ some k):OwnT base w' v l :=
 World.ownsRow.kept h hg (by
  cases hv:v.ownBlock with
 |none=>exact .inl rfl
 |some k=>exact .inr (fun e=>hne k hv e.symm))
theorem infoStr:(Tryz.prog.info? 9).map (fun i=>(i.zero,i.size,i.bytes))=some (some (.string ⟨#[]⟩),1,16):=by kernel_rfl
theorem SlT.one (w:World) (z:List UInt8) (t:TypeId):SlT (w.alloc (.cells #[tv z] t)) (some ⟨w.heap.size,0,none⟩) 1 1 [z]:=by
 refine⟨rfl,zN _,by unfold maxLen;omega,(fun h=>by cases h),fun x hx i hi=>?_⟩
 cases hx
 refine⟨rfl,by simp,?_⟩
 obtain rfl:i=0:=by simpa using hi
 rw [World.cell?_alloc_at _ _ _ _ rfl];rfl
theorem SlT.built (w:World) (A:Array Value) (l:List (List UInt8)) (n k:Nat) (t:TypeId) (fr:Nat × Nat) (hA:A=(l.map tv).toArray) (hn:l.length=n) (hm:n<=maxLen) (hk:k=w.heap.size) :
 SlT (w.alloc (.cells A t fr)) (some ⟨k,0,none⟩) n n l:=by
 subst hA;subst hk
 refine⟨hn,zN _,hm,(fun h=>by cases h),fun x hx i hi=>?_⟩
 cases hx
 refine⟨rfl,by simp,?_⟩
 rw [cell_of_row _ _ _ _ _ _ (za_b w _ _ rfl)];simp [hi]
theorem zb_l {ops:Array Oper} {rest:List Oper} {o:Oper} {a:Act} {Q:Exit->Act->World->Prop} (hgd:o.guard=none) (s x:Operand)
 (ho:o.op=.call { callee:=.builtin .append,args:=#[s,x],argTypes:=#[200,200] })
 (base:Nat) (v:Value) (l:List (List UInt8)) (hs:a.eval s=v) (hown:OwnT base w v l) (b:Option Addr) (m c:Nat) (l2:List (List UInt8)) (hx:a.eval x=.slice b m c) (hsl:SlT w b m c l2)
 (hlen:l.length+m<=1000000000000) (hbase:base<=w.heap.size)
 (h:∀ v' w',OwnT base w' v' (l ++ l2)->w.grownBy w' v.ownBlock->wpList Tryz.prog ops Q rest (a.put o.dst v') w'):wpList Tryz.prog ops Q (o :: rest) a w:=by
 obtain⟨i0,hi,hz0,hz1,hz2⟩:=info_parts infoStr
 cases b with
|none =>
  obtain⟨rfl,rfl⟩:=hsl.2.2.2.1 rfl
  obtain rfl:m=0:=hsl.1.symm
  refine wpList_append_own_none hgd s x 200 ho base 9 i0 1 Tryz.underlying200 hi v l.length _ hs hown hx ?_
  exact h v w (by simpa using hown) ⟨rfl,rfl,rfl,zN _,fun _ _ _=>rfl⟩
|some ad =>
  have hl2:=hsl.len
  refine wpList_append_own w hgd s x 200 ho base 9 i0 (.string ⟨#[]⟩) 1 16 Tryz.underlying200 hi hz0 hz1 hz2 rfl (by decide) v l.length _ hs hown ad m c (l2.map tv) hx (by simp [hl2]) ?_ ?_ (by unfold maxLen;omega) (by omega) hbase ?_
  ·intro j u hj
   have hjl:j < l2.length:=by
    have:=(List.getElem?_eq_some_iff.1 hj).1;simpa using this
   obtain⟨hsp,hb,this⟩:=hsl.2.2.2.2 ad rfl j hjl
   have hadd:ad.add j=⟨ad.block,ad.off+j,none⟩:=by
    obtain⟨b,o,sp⟩:=ad;simp only at hsp;subst hsp;unfold Addr.add;split <;> simp_all
   rw [hadd,this];rw [<-hj];simp [hjl]
  ·intro u hu
   obtain⟨b,_,rfl⟩:=List.mem_map.1 hu;rfl
  ·intro v' w' h1 h2 _
   refine h v' w' ?_ h2
   unfold OwnT;rw [List.length_append,List.map_append,hl2];exact h1
end
end Go.Proofs.YtmanejniepghlaaGreatDoor
namespace Go.Proofs.YtmanejniepghlaaGreatDoor.Puny
variable {n p:Int} {basic:Nat}
theorem encPt_lt {s:E} (h:p < n):encPt n basic s p={ s with delta:=s.delta+1 }:=if_pos h
theorem encPt_eq {s:E} (h:¬ p < n) (h2:p=n):encPt n basic s p=⟨s.out ++ numE s.delta s.bias,0,adapt s.delta (s.done+1) (s.done == basic),s.done+1⟩:=by unfold encPt;rw [if_neg h,if_pos h2]
theorem encPt_gt {s:E} (h:¬ p < n) (h2:¬ p=n):encPt n basic s p=s:=by unfold encPt;rw [if_neg h,if_neg h2]
theorem zi_s (m:Int) (basic:Nat) (l:List Int):∀ e:E,(l.foldl (encPt m basic) e).done=e.done+(l.filter fun p=>decide (p=m)).length:=by
 induction l with
|nil=>intro e;rfl
|cons p l ih =>
  intro e
  rw [List.foldl_cons,ih]
  by_cases h:p < m
  ·rw [encPt_lt h,List.filter_cons_of_neg (by simp;omega)]
  ·by_cases h2:p=m
   ·rw [encPt_eq h h2,List.filter_cons_of_pos (by simp [h2]),List.length_cons];simp only;omega
   ·rw [encPt_gt h h2,List.filter_cons_of_neg (by simp [h2])]
theorem zg_i (m:Int) (basic:Nat) (l:List Int):∀ e:E,0<=e.delta->0<=(l.foldl (encPt m basic) e).delta/\(l.foldl (encPt m basic) e).delta<=e.delta+l.length/\(m ∈ l->(l.foldl (encPt m basic) e).delta<=l.length):=by
 induction l with
|nil=>intro e h;exact⟨h,by simp,fun hm=>by cases hm⟩
|cons p l ih =>
  intro e h
  rw [List.foldl_cons]
  by_cases h1:p < m
  ·rw [encPt_lt h1]
   obtain⟨a1,a2,a3⟩:=ih { e with delta:=e.delta+1 } (by simp only;omega)
   simp only at a2
   refine⟨a1,by rw [List.length_cons];omega,fun hm=>?_⟩
   rcases List.mem_cons.1 hm with rfl|hm
   ·omega
   ·have:=a3 hm;rw [List.length_cons];omega
  ·by_cases h2:p=m
   ·rw [encPt_eq h1 h2]
    obtain⟨a1,a2,a3⟩:=ih ⟨e.out ++ numE e.delta e.bias,0,adapt e.delta (e.done+1) (e.done == basic),e.done+1⟩ (Int.le_refl _)
    simp only at a2
    exact⟨a1,by rw [List.length_cons];omega,fun _=>by rw [List.length_cons];omega⟩
   ·rw [encPt_gt h1 h2]
    obtain⟨a1,a2,a3⟩:=ih e h
    refine⟨a1,by rw [List.length_cons];omega,fun hm=>?_⟩
    rcases List.mem_cons.1 hm with e1|hm
    ·exact absurd e1.symm h2
    ·have:=a3 hm;rw [List.length_cons];omega
theorem zo_u (m:Int) (basic:Nat) (l:List Int):∀ e:E,0<=e.delta->e.delta+l.length<=400000000->0<=e.bias->e.bias<=1000 →
 0<=(l.foldl (encPt m basic) e).bias/\(l.foldl (encPt m basic) e).bias<=1000/\(l.foldl (encPt m basic) e).out.length+10 * e.done<=e.out.length+10 * (l.foldl (encPt m basic) e).done:=by
 induction l with
|nil=>intro e h0 h1 h2 h3;exact⟨h2,h3,Nat.le_refl _⟩
|cons p l ih =>
  intro e h0 h1 h2 h3
  rw [List.length_cons] at h1
  rw [List.foldl_cons]
  by_cases g1:p < m
  ·rw [encPt_lt g1]
   exact ih { e with delta:=e.delta+1 } (by simp only;omega) (by simp only;omega) h2 h3
  ·by_cases g2:p=m
   ·rw [encPt_eq g1 g2]
    obtain⟨b0,b1⟩:=adapt_bd e.delta (e.done+1) (e.done == basic) h0 (by omega) (by omega)
    obtain⟨a1,a2,a3⟩:=ih ⟨e.out ++ numE e.delta e.bias,0,adapt e.delta (e.done+1) (e.done == basic),e.done+1⟩ (Int.le_refl _) (by simp only;omega) b0 b1
    simp only [List.length_append] at a3
    have hdl:(numE e.delta e.bias).length<=10:=zf_j 9 (e.delta.toNat+1) e.delta 0 e.bias h0 (Int.lt_of_le_of_lt (show e.delta<=400000000 by omega) (by decide))
    exact⟨a1,a2,by omega⟩
   ·rw [encPt_gt g1 g2]
    exact ih e h0 (by omega) h2 h3
theorem zl_p (n m:Int) (hnm:n<=m) (l:List Int) (h:∀ p ∈ l,n<=p->m<=p):(below (m+1) l).length=(below n l).length+(l.filter fun p=>decide (p=m)).length:=by
 induction l with
|nil=>rfl
|cons p l ih =>
  have hp:=h p (List.mem_cons_self ..)
  have:=ih fun q hq=>h q (List.mem_cons_of_mem _ hq)
  unfold below at this ⊢
  by_cases h1:p < n
  ·rw [List.filter_cons_of_pos (by simp;omega),List.filter_cons_of_pos (by simp;omega),List.filter_cons_of_neg (by simp;omega),List.length_cons,List.length_cons];omega
  ·have h2:=hp (by omega)
   by_cases h3:p=m
   ·rw [List.filter_cons_of_pos (by simp;omega),List.filter_cons_of_neg (by simp;omega),List.filter_cons_of_pos (by simp;omega),List.length_cons,List.length_cons];omega
   ·rw [List.filter_cons_of_neg (by simp;omega),List.filter_cons_of_neg (by simp;omega),List.filter_cons_of_neg (by simp;omega)];exact this
structure HeadOk (ps:List Int) (n:Int) (e:E):Prop where
 done:e.done=(below n ps).length
 n1:128<=n
 n2:n<=1114112
 d0:0<=e.delta
 d1:e.delta<=300
 b0:0<=e.bias
 b1:e.bias<=1000
 o:e.out.length<=300+10 * e.done
def mid0 (n m:Int) (e:E):E:={ e with delta:=e.delta+(m - n) * (e.done+1) }
def midK (ps:List Int) (n m:Int) (basic:Nat) (e:E) (k:Nat):E:=(ps.take k).foldl (encPt m basic) (mid0 n m e)
def next (ps:List Int) (n m:Int) (basic:Nat) (e:E):E:={ midK ps n m basic e ps.length with delta:=(midK ps n m basic e ps.length).delta+1 }
theorem midK_succ (ps:List Int) (n m:Int) (basic:Nat) (e:E) (k:Nat) (hk:k < ps.length):midK ps n m basic e (k+1)=encPt m basic (midK ps n m basic e k) ps[k]:=by
 unfold midK
 rw [List.take_succ_eq_append_getElem hk,List.foldl_append];rfl
theorem encGo_next (ps:List Int) (n:Int) (basic:Nat) (e:E) (f:Nat) (h:e.done < ps.length):encGo ps basic (f+1) n e=encGo ps basic f (least n 1114112 ps+1) (next ps n (least n 1114112 ps) basic e):=by
 rw [encGo,if_pos h]
 unfold next midK
 rw [List.take_length];rfl
theorem encGo_end (ps:List Int) (n:Int) (basic:Nat) (e:E) (f:Nat) (h:¬ e.done < ps.length):encGo ps basic f n e=e.out:=by
 cases f with
|zero=>rfl
|succ f=>rw [encGo,if_neg h]
structure MidOk (e':E):Prop where
 d0:0<=e'.delta
 d1:e'.delta<=400000000
 b0:0<=e'.bias
 b1:e'.bias<=1000
 o:e'.out.length<=300+10 * e'.done
 k:e'.done<=600
theorem headOk_round (ps:List Int) (hps:∀ p ∈ ps,point p=true) (hl:ps.length<=256) (basic:Nat) (n:Int) (e:E) (h:HeadOk ps n e) (hlt:e.done < ps.length) :
 let m:=least n 1114112 ps
 n<=m/\m<=1114111/\0<=(m - n) * (e.done+1)/\(m - n) * (e.done+1)<=300000000/\(∀ k,k<=ps.length->MidOk (midK ps n m basic e k))/\HeadOk ps (m+1) (next ps n m basic e)/\e.done < (next ps n m basic e).done:=by
 intro m
 obtain⟨l1,l2,l3⟩:=zc_k n 1114112 ps (ze_a n ps (by rw [<-h.done];exact hlt)) (fun p hp=>by have:=(point_iff p).1 (hps p hp);omega)
 have hm:=(point_iff m).1 (hps m l1)
 have hn1:=h.n1
 have hp0:0<=(m - n) * ((e.done:Int)+1):=Int.mul_nonneg (by omega) (by omega)
 have hp1:(m - n) * ((e.done:Int)+1)<=1114111 * 257:=Int.mul_le_mul (by omega) (by omega) (by omega) (by omega)
 have hd0:=h.d0
 have hd1:=h.d1
 have hcount:∀ k,((ps.take k).filter fun p=>decide (p=m)).length<=256:=fun k=>Nat.le_trans (List.length_filter_le _ _) (by rw [List.length_take];omega)
 have hmid:∀ k,k<=ps.length->MidOk (midK ps n m basic e k):=by
  intro k hk
  have a:=zg_i m basic (ps.take k) (mid0 n m e) (by unfold mid0;simp only;omega)
  have b:=zo_u m basic (ps.take k) (mid0 n m e) (by unfold mid0;simp only;omega) (by unfold mid0;simp only [List.length_take];omega) (by unfold mid0;exact h.b0) (by unfold mid0;exact h.b1)
  have c:=zi_s m basic (ps.take k) (mid0 n m e)
  have:=hcount k
  have ho:=h.o
  unfold midK
  generalize (ps.take k).foldl (encPt m basic) (mid0 n m e)=e' at *
  unfold mid0 at a b c
  simp only [List.length_take] at a b c
  exact⟨a.1,by omega,b.1,b.2.1,by omega,by omega⟩
 have hlast:=hmid ps.length (Nat.le_refl _)
 have c:=zi_s m basic ps (mid0 n m e)
 have a:=zg_i m basic ps (mid0 n m e) (by unfold mid0;simp only;omega)
 have hb:=zl_p n m l2 ps l3
 have hme:midK ps n m basic e ps.length=ps.foldl (encPt m basic) (mid0 n m e):=by unfold midK;rw [List.take_length]
 have hpos:0 < (ps.filter fun p=>decide (p=m)).length:=List.length_pos_iff.2 (List.ne_nil_of_mem (List.mem_filter.2 ⟨l1,decide_eq_true rfl⟩))
 refine⟨l2,hm.2.1,hp0,by omega,hmid,?_,?_⟩
 ·have hn:=a.2.2 l1
  unfold next
  rw [<-hme] at c hn
  have hm0:(mid0 n m e).done=e.done:=rfl
  have hd:=h.done
  exact⟨by simp only;omega,by omega,by omega,by simp only;have:=hlast.d0;omega,by simp only;omega,hlast.b0,hlast.b1,hlast.o⟩
 ·unfold next
  rw [<-hme] at c
  have hm0:(mid0 n m e).done=e.done:=rfl
  simp only;omega
theorem headOk_start (ps:List Int) (hps:∀ p ∈ ps,point p=true):HeadOk ps 128 ⟨front ps,0,72,(basics ps).length⟩:=by
 have hb:(basics ps).length=(below 128 ps).length:=by rw [<-zc_d ps hps,List.length_map]
 refine⟨hb,by omega,by omega,by simp,by simp,by simp,by simp,?_⟩
 unfold front
 simp only [List.length_append]
 split <;> simp <;> omega
theorem least_snoc (n M:Int) (l:List Int) (p:Int):least n M (l ++ [p])=if n<=p then min (least n M l) p else least n M l:=by
 unfold least
 rw [List.foldl_append];rfl
theorem basics_snoc (l:List Int) (p:Int):basics (l ++ [p])=if p < 128 then basics l ++ [UInt8.ofNat p.toNat] else basics l:=by
 unfold basics
 rw [List.filter_append]
 by_cases h:p < 128
 ·rw [if_pos h,List.filter_cons_of_pos (by simp [h])];simp
 ·rw [if_neg h,List.filter_cons_of_neg (by simp [h])];simp
theorem basics_le (l:List Int):(basics l).length<=l.length:=by unfold basics;rw [List.length_map];exact List.length_filter_le _ _
theorem least_big (ps:List Int) (hps:∀ p ∈ ps,point p=true) (n:Int) (h:(below n ps).length < ps.length):least n 1073741824 ps=least n 1114112 ps :=
 zn_u n _ _ ps (ze_a n ps h) (fun p hp=>by have:=(point_iff p).1 (hps p hp);omega) (fun p hp=>by have:=(point_iff p).1 (hps p hp);omega)
end Go.Proofs.YtmanejniepghlaaGreatDoor.Puny
namespace Go.Proofs.YtmanejniepghlaaGreatDoor
section
namespace Snap
def num (n:Nat):Nat:=max 1 ((Lib.bitLen n+6) / 7)
theorem zl_j {n:Nat} (h0:n ≠ 0) (h:n < 2 ^ 64):1<=Lib.bitLen n:=by rw [Lib.bitLen_half n h0 h];omega
theorem num_is:∀ (k n:Nat),n<=k->n < 2 ^ 64->num n=(Wire.enc n).length
|k,n,hk,h=>by
  by_cases hn:n < 128
  ·rw [Wire.enc_last hn]
   have:=Lib.bitLen_le n 7 (by omega) (by omega)
   unfold num
   simp only [List.length_cons,List.length_nil]
   omega
  ·rw [Wire.enc_step hn]
   have h1:=Lib.bitLen_shift 7 n (by omega) h
   have h2:n / 128 < 2 ^ 64:=by omega
   have h3:=zl_j (n:=n / 128) (by omega) h2
   match k,hk with
  |0,hk=>omega
  |k+1,hk =>
    have h4:=num_is k (n / 128) (by omega) h2
    unfold num at h4 ⊢
    simp only [List.length_cons]
    rw [h1,show (2:Nat) ^ 7=128 from rfl]
    omega
def part (c:Int) (L:List Pin) (k:Nat):Nat:=num c.toNat+num L.length+((L.take k).flatMap Pin.enc).length
theorem zn_n {L:List Pin} {k:Nat} (hk:k < L.length):(L.take (k+1)).flatMap Pin.enc=(L.take k).flatMap Pin.enc ++ Pin.enc L[k]:=by
 rw [List.take_succ_eq_append_getElem hk,List.flatMap_append];simp
end Snap
end
section
open Go.RowKit
variable {listed:Array Bool} {i:Nat}
section
variable {P:Program} {ops:Array Oper} {Q:Exit->Act->World->Prop} {md:Region.Mode} {S:World->Prop} {t:Nat}
def reach2 (md:Region.Mode) (ops:Array Oper) (t i:Nat):Bool:=Region.waitsFor md ops t i || (List.range ops.size).any fun m=>Region.waitsFor md ops t m && Region.waitsFor md ops m i
def ClosedR (md:Region.Mode) (ops:Array Oper) (listed:Array Bool):Prop:=∀ j oj,ops[j]?=some oj->listed.getD j false=true->∀ e ∈ oj.after,Region.binds md e=true->listed.getD e.on false=true
def closedB (md:Region.Mode) (ops:Array Oper) (listed:Array Bool):Bool:=(List.range ops.size).all fun j=>!listed.getD j false || match ops[j]? with|some oj=>oj.after.all (fun e=>!Region.binds md e || listed.getD e.on false)|none=>true
theorem ze_p (h:closedB md ops listed=true):ClosedR md ops listed:=by
 intro j oj hj hl e he hb
 have h1:=List.all_eq_true.1 h j (List.mem_range.2 (Array.getElem?_eq_some_iff.1 hj).1)
 rw [hl,hj] at h1
 simp only [Bool.not_true,Bool.false_or] at h1
 have h2:=Array.all_eq_true_iff_forall_mem.1 h1 e he
 rw [hb] at h2
 simpa using h2
theorem ClosedR.set (h:ClosedR md ops listed) (hi:i ∈ Region.ready md ops listed):ClosedR md ops (listed.setIfInBounds i true):=by
 obtain⟨_,oi,hoi,hall⟩:=mem_ready.1 hi
 intro j oj hj hl e he hb
 by_cases hij:i=j
 ·subst hij
  have:oj=oi:=Option.some.inj (hj.symm.trans hoi)
  subst this
  exact getD_set_true (hall e he hb)
 ·rw [getD_set_ne false hij] at hl
  exact getD_set_true (h j oj hj hl e he hb)
theorem zl_z {j:Nat} (h:ClosedR md ops listed) (ht:reach2 md ops t i=true) (hr:j ∈ Region.ready md ops listed) (hi:listed.getD i true=false):j ≠ t:=by
 rintro rfl
 obtain⟨_,oj,hoj,hall⟩:=mem_ready.1 hr
 have hif:=getD_both hi
 unfold reach2 at ht
 rcases Bool.or_eq_true_iff.1 ht with h1|h1
 ·obtain⟨ot,hot,e,he,hb,hon⟩:=Region.waitsFor_spec h1
  have:oj=ot:=Option.some.inj (hoj.symm.trans hot)
  subst this
  have:=hall e he hb
  rw [hon,hif] at this;cases this
 ·obtain⟨m,_,h2⟩:=List.any_eq_true.1 h1
  obtain⟨h3,h4⟩:=Bool.and_eq_true_iff.1 h2
  obtain⟨ot,hot,e,he,hb,hon⟩:=Region.waitsFor_spec h3
  have:oj=ot:=Option.some.inj (hoj.symm.trans hot)
  subst this
  have h5:=hall e he hb
  rw [hon] at h5
  obtain⟨om,hom,e2,he2,hb2,hon2⟩:=Region.waitsFor_spec h4
  have h6:=h m om hom h5 e2 he2 hb2
  rw [hon2,hif] at h6;cases h6
end
end
section
open Go.RowKit
variable {a:Act} {w:World} {fuel i:Nat} {listed:Array Bool} {oi:Oper} {v:Value}
section
variable {P:Program} {ops:Array Oper} {Q:Exit->Act->World->Prop} {md:Region.Mode} {H S:World->Prop} {D:List Nat}
def wpAnyD (P:Program) (md:Region.Mode) (ops:Array Oper) (Q:Exit->Act->World->Prop) (H S:World->Prop) (D:List Nat):Nat->Array Bool->Act->World->Prop
|0,listed,a,w=>Region.ready md ops listed=[]/\Q .normal a w
|fuel+1,listed,a,w =>
  (Region.ready md ops listed=[]->Q .normal a w) ∧
  ∀ i ∈ Region.ready md ops listed,wpOp P ops Q i (fun a' w'=>H w'/\(S w->i ∉ D->S w')/\wpAnyD P md ops Q H S D fuel (listed.setIfInBounds i true) a' w') a w
theorem zg_f:∀ (fuel:Nat) (listed:Array Bool) (a:Act) (w:World),wpAnyD P md ops Q H S D fuel listed a w->wpAny P md ops Q fuel listed a w
|0,_,_,_,h=>h
|fuel+1,_,_,_,h=>⟨h.1,fun i hi=>wpOp_mono (fun a' w' h'=>zg_f fuel _ a' w' h'.2.2) (h.2 i hi)⟩
theorem ze_o {T:World->Prop} (hi:ops[i]?=some oi) (hsel:∀ (j:Nat) (o:Oper) cs b,ops[j]?=some o->o.op ≠ .select cs b)
 (hQ:∀ c a w,Q (.panic c) (a.put oi.dst v) w->Q (.panic c) a w)
 (hT:∀ (listed:Array Bool) (j:Nat) (w w':World),ClosedR md ops listed->j ∈ Region.ready md ops listed->listed.getD i true=false->T w->H w'->(S w->j ∉ D->S w')->T w') :
 ∀ (fuel:Nat) (listed:Array Bool) (a:Act) (w:World),ClosedR md ops listed →
  (∀ j oj,ops[j]?=some oj->j ≠ i->listed.getD j true=false->(∀ e ∈ oj.after,Region.binds md e=true->e.on ≠ i)->oi.apart ops oj=true) →
  i ∈ Region.ready md ops listed->YieldsIf P ops T oi v a->T w->H w →
  wpAnyD P md ops Q H S D fuel (listed.setIfInBounds i true) (a.put oi.dst v) w->wpAnyD P md ops Q H S D (fuel+1) listed a w:=by
 intro fuel
 induction fuel with
|zero =>
  intro listed a w _ _ hr hy hTw hH X
  refine⟨fun h=>(by rw [h] at hr;cases hr),fun j hj=>?_⟩
  by_cases hji:j=i
  ·subst hji;exact hy.wpOp hi hTw ⟨hH,fun h _=>h,X⟩
  ·have:=ready_mono hj hji
   rw [X.1] at this
   cases this
|succ fuel ih =>
  intro listed a w hcl hfree hr hy hTw hH X
  refine⟨fun h=>(by rw [h] at hr;cases hr),fun j hj=>?_⟩
  by_cases hji:j=i
  ·subst hji;exact hy.wpOp hi hTw ⟨hH,fun h _=>h,X⟩
  ·have h1:=X.2 j (ready_mono hj hji)
   obtain⟨hjun,oj,hoj,hall⟩:=mem_ready.1 hj
   have hnot:∀ e ∈ oj.after,Region.binds md e=true->e.on ≠ i:=fun e he hb heq=>by
    have h1:=hall e he hb
    have h0:=(mem_ready.1 hr).1
    rw [heq] at h1
    rcases Nat.lt_or_ge i listed.size with h'|h'
    ·simp [h'] at h0 h1;rw [h0] at h1;cases h1
    ·simp [Array.getElem?_eq_none h'] at h1
   have hiu:=(mem_ready.1 hr).1
   have h2:=wpOp_putIf hoj (hfree j oj hoj hji hjun hnot) (fun cs b=>hsel i oi cs b hi) (fun cs b=>hsel j oj cs b hoj) hQ hy h1
   have hfree':∀ k ok,ops[k]?=some ok->k ≠ i->(listed.setIfInBounds j true).getD k true=false →
    (∀ e ∈ ok.after,Region.binds md e=true->e.on ≠ i)->oi.apart ops ok=true:=fun k ok hk hki hun hno=>by
    refine hfree k ok hk hki ?_ hno
    by_cases hjk:j=k
    ·subst hjk;exact hjun
    ·rw [getD_set_ne true hjk] at hun;exact hun
   refine wpOp_mono (fun a' w' h3=>⟨h3.2.1,h3.2.2.1,ih (listed.setIfInBounds j true) a' w' (hcl.set hj) hfree' (ready_mono hr (Ne.symm hji)) h3.1 (hT listed j w w' hcl hj hiu hTw h3.2.1 h3.2.2.1) h3.2.1 ?_⟩) h2
   rw [Array.setIfInBounds_comm _ _ hji]
   exact h3.2.2.2
theorem za_m (hi:ops[i]?=some oi)
 (hs:Region.noSelect ops=true) (hf:Region.free md ops listed i=true) (hr:(Region.ready md ops listed).contains i=true) (hc:closedB md ops listed=true)
 (hQ:∀ c a w,Q (.panic c) (a.put oi.dst v) w->Q (.panic c) a w) (hy:YieldsIf P ops H oi v a) (hH:H w)
 (h:wpAnyD P md ops Q H S D fuel (listed.setIfInBounds i true) (a.put oi.dst v) w):wpAnyD P md ops Q H S D (fuel+1) listed a w :=
 ze_o hi (Region.noSelect_spec hs) hQ (T:=H) (fun _ _ _ _ _ _ _ _ h _=>h) fuel listed a w (ze_p hc) (Region.free_spec hi hf) (by simpa using hr) hy hH hH h
theorem zi_g (hi:ops[i]?=some oi)
 (hs:Region.noSelect ops=true) (hf:Region.free md ops listed i=true) (hr:(Region.ready md ops listed).contains i=true) (hD:D.all (fun t=>reach2 md ops t i)=true) (hc:closedB md ops listed=true)
 (hQ:∀ c a w,Q (.panic c) (a.put oi.dst v) w->Q (.panic c) a w) (hy:YieldsIf P ops S oi v a) (hH:H w) (hS:S w)
 (h:wpAnyD P md ops Q H S D fuel (listed.setIfInBounds i true) (a.put oi.dst v) w):wpAnyD P md ops Q H S D (fuel+1) listed a w :=
 ze_o hi (Region.noSelect_spec hs) hQ (T:=S) (fun l j w w' hcl hj hiu hSw _ k=>k hSw fun hjD=>zl_z hcl (List.all_eq_true.1 hD j hjD) hj hiu rfl) fuel listed a w (ze_p hc) (Region.free_spec hi hf) (by simpa using hr) hy hS hH h
theorem ze_b {o:Oper} (hi:ops[i]?=some o) (hr:Region.ready md ops listed=[i]) (hiD:i ∈ D)
 (h:∀ K':Act->World->Prop,Hid (∀ a w,H w->wpAnyD P md ops Q H S D fuel (listed.setIfInBounds i true) a w->K' a w)->if Region.wanted o (yielded ops a.tmps)=true then Oper.wp P o a w K' Q else K' (a.put o.dst undef) w) :
 wpAnyD P md ops Q H S D (fuel+1) listed a w:=by
 refine⟨(fun h0=>by rw [hr] at h0;cases h0),fun j hj=>?_⟩
 rw [hr] at hj
 obtain rfl:j=i:=by simpa using hj
 exact wpOp_step hi (fun K' hK=>h K' (zH (fun a w hH hW=>hK a w ⟨hH,fun _ h=>absurd hiD h,hW⟩)))
theorem zj_y (hr:Region.ready md ops listed=[]) (h:Q .normal a w) :
 ∀ fuel,wpAnyD P md ops Q H S D fuel listed a w
|0=>⟨hr,h⟩
|_+1=>⟨fun _=>h,by rw [hr];simp⟩
theorem zk_e {id:Nat} (hm:P.follows .mixedOrders=true) (D:List Nat) (H S:World->Prop)
 (h:wpAnyD P .any ops Q H S D ops.size (Array.replicate ops.size false) a w.drew):(Code.region id ops true).wp P Q a w :=
 wp_region_any hm (zg_f _ _ _ _ h)
end
end
end Go.Proofs.YtmanejniepghlaaGreatDoor
