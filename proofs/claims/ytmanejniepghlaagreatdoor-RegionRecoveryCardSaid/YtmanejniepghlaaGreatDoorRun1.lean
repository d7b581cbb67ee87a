import Derived.Test.YtmanejniepghlaaGreatDoorRun0
import Derived.Deep.Slices
import Derived.ProofKit
import Derived.OpenShut
import Derived.ShutString
import Derived.ChangeOld
import Derived.RangeFuncNested
import Derived.RangeFuncBound
import Derived.RangeFuncCalls
import Derived.RangeFuncLeaves
import Derived.RangeFuncBox
import Derived.Maps.RangeRun
import Derived.Maps.OwnSet
import Derived.Maps.RangeWalk
import Derived.Shelf.RegionOpen
import Derived.OwnWalkIn
import Derived.Laws.CopyOwn
import Derived.Deep.QuietTactic
import Derived.BigQuiet
import Derived.Deep.DeepMust
import Derived.Deep.RegionLaw
namespace Go.Proofs.YtmanejniepghlaaGreatDoor.Tab
variable {L:List Pin} {k:Nat} {p:Pin} {h:List UInt8}
def Asc (L:List Pin):Prop:=L.Pairwise fun a b=>Host.cmp a.h b.h < 0
def lo (L:List Pin) (h:List UInt8):Nat:=(L.takeWhile fun p=>decide (Host.cmp p.h h < 0)).length
def hit (L:List Pin) (h:List UInt8):Bool:=match L[lo L h]? with
|some p=>decide (p.h=h)
|none=>false
def put (L:List Pin) (cap:Int) (p:Pin):List Pin × Int :=
 if Pin.valid p=false then (L,1) else if hit L p.h then (L.set (lo L p.h) p,0) else if (L.length:Int)=cap then (L,11) else (L.take (lo L p.h) ++ p :: L.drop (lo L p.h),0)
def remove (L:List Pin) (h:List UInt8):List Pin × Bool:=if hit L h then (L.take (lo L h) ++ L.drop (lo L h+1),true) else (L,false)
def chk (L:List Pin):Nat->Nat->Int
|0,_=>0
|n+1,k=>match L[k]? with
 |none=>0
 |some p=>if Pin.valid p=false then 1 else if 0 < k/\0<=Host.cmp (L.getD (k - 1) Pin.none).h p.h then 8 else chk L n (k+1)
def load (L:List Pin) (cap:Int):Int:=if cap < 1\/1000 < cap then 2 else if cap < L.length then 11 else chk L L.length 0
theorem zh_t (h:Asc L) {i j:Nat} (hij:i < j) {a b:Pin} (ha:L[i]?=some a) (hb:L[j]?=some b):Host.cmp a.h b.h < 0:=by
 obtain⟨h1,rfl⟩:=List.getElem?_eq_some_iff.1 ha
 obtain⟨h2,rfl⟩:=List.getElem?_eq_some_iff.1 hb
 exact List.pairwise_iff_getElem.1 h i j h1 h2 hij
theorem lo_le (L:List Pin) (h:List UInt8):lo L h<=L.length:=(List.takeWhile_sublist _).length_le
theorem zc_j:∀ (L:List Pin) (h:List UInt8) (k:Nat),k < lo L h->∃ p,L[k]?=some p/\Host.cmp p.h h < 0
|[],h,k,hk=>by simp [lo] at hk
|p :: L,h,k,hk=>by
  by_cases hp:Host.cmp p.h h < 0
  ·cases k with
  |zero=>exact⟨p,rfl,hp⟩
  |succ k =>
    have e:lo (p :: L) h=lo L h+1:=by unfold lo;rw [List.takeWhile_cons_of_pos (by simpa using hp)];rfl
    rw [e] at hk
    obtain⟨q,h1,h2⟩:=zc_j L h k (by omega)
    exact⟨q,by simpa using h1,h2⟩
  ·have e:lo (p :: L) h=0:=by unfold lo;rw [List.takeWhile_cons_of_neg (by simpa using hp)];rfl
   omega
theorem zq_c:∀ (L:List Pin) (h:List UInt8) (p:Pin),L[lo L h]?=some p->¬ Host.cmp p.h h < 0
|[],h,p,e=>by simp [lo] at e
|q :: L,h,p,e=>by
  by_cases hp:Host.cmp q.h h < 0
  ·have e2:lo (q :: L) h=lo L h+1:=by unfold lo;rw [List.takeWhile_cons_of_pos (by simpa using hp)];rfl
   rw [e2,List.getElem?_cons_succ] at e
   exact zq_c L h p e
  ·have e2:lo (q :: L) h=0:=by unfold lo;rw [List.takeWhile_cons_of_neg (by simpa using hp)];rfl
   rw [e2] at e
   cases e
   exact hp
theorem lo_iff (hL:Asc L) (h:List UInt8) (hk:L[k]?=some p):Host.cmp p.h h < 0 ↔ k < lo L h:=by
 constructor
 ·intro hc
  rcases Nat.lt_trichotomy k (lo L h) with e|e|e
  ·exact e
  ·subst e;exact absurd hc (zq_c L h p hk)
  ·have hkl:=(List.getElem?_eq_some_iff.1 hk).1
   have hlt:lo L h < L.length:=by omega
   have h1:=zh_t hL e (List.getElem?_eq_getElem hlt) hk
   exact absurd (Host.cmp_lt_trans h1 hc) (zq_c L h _ (List.getElem?_eq_getElem hlt))
 ·intro hc
  obtain⟨q,h1,h2⟩:=zc_j L h k hc
  rw [hk] at h1;cases h1;exact h2
theorem lo_eq (hk:k<=L.length) (h1:∀ i p,i < k->L[i]?=some p->Host.cmp p.h h < 0) (h2:∀ p,L[k]?=some p->¬ Host.cmp p.h h < 0):lo L h=k:=by
 rcases Nat.lt_trichotomy (lo L h) k with e|e|e
 ·have hlt:lo L h < L.length:=by omega
  exact absurd (h1 _ _ e (List.getElem?_eq_getElem hlt)) (zq_c L h _ (List.getElem?_eq_getElem hlt))
 ·exact e
 ·obtain⟨p,h3,h4⟩:=zc_j L h k e
  exact absurd h4 (h2 p h3)
theorem zd_x (_hL:Asc L) (h:List UInt8):hit L h=true ↔ ∃ p,L[lo L h]?=some p/\p.h=h:=by
 unfold hit
 cases e:L[lo L h]? with
|none=>simp
|some p=>simp
theorem place (hL:Asc L) (hk:L[k]?=some p):lo L p.h=k:=by
 refine lo_eq (Nat.le_of_lt (List.getElem?_eq_some_iff.1 hk).1) (fun i q hi hq=>zh_t hL hi hq hk) fun q hq=>?_
 rw [hk] at hq;cases hq
 rw [Host.cmp_self];omega
theorem zr_u (hL:Asc L) (hk:L[k]?=some p):hit L p.h=true:=by
 rw [zd_x hL,place hL hk];exact⟨p,hk,rfl⟩
theorem ze_s (hL:Asc L) (hn:hit L h=false):∀ p ∈ L,p.h ≠ h:=by
 intro p hp e
 obtain⟨k,hk,rfl⟩:=List.mem_iff_getElem.1 hp
 have:=zr_u hL (List.getElem?_eq_getElem hk)
 rw [e,hn] at this;cases this
theorem zp_h (h:Asc L) (k:Nat):Asc (L.take k):=h.sublist (List.take_sublist _ _)
theorem zp_g (h:Asc L) (k:Nat):Asc (L.drop k):=h.sublist (List.drop_sublist _ _)
theorem zg_a (h:Asc L) (k:Nat):Asc (L.take k ++ L.drop (k+1)):=by
 refine h.sublist ?_
 have:L.take k ++ L.drop (k+1)=L.eraseIdx k:=by rw [List.eraseIdx_eq_take_drop_succ]
 rw [this];exact List.eraseIdx_sublist _ _
theorem zr_n (hL:Asc L) {q:Pin} (hk:L[k]?=some q) (hh:q.h=p.h):Asc (L.set k p):=by
 have hkl:=(List.getElem?_eq_some_iff.1 hk).1
 rw [Asc,List.pairwise_iff_getElem]
 intro i j hi hj hij
 rw [List.length_set] at hi hj
 have g:∀ m (hm:m < L.length),(((L.set k p)[m]'(by rw [List.length_set];exact hm)).h)=(L[m]).h:=by
  intro m hm
  rw [List.getElem_set]
  split
  ·rename_i e;subst e
   have:=(List.getElem?_eq_some_iff.1 hk).2
   rw [this,hh]
  ·rfl
 rw [g i hi,g j hj]
 exact List.pairwise_iff_getElem.1 hL i j hi hj hij
theorem zl_m (hL:Asc L) (hn:hit L p.h=false):Asc (L.take (lo L p.h) ++ p :: L.drop (lo L p.h)):=by
 have hlo:=lo_le L p.h
 rw [Asc,List.pairwise_append,List.pairwise_cons]
 have key:∀ x ∈ L.drop (lo L p.h),Host.cmp p.h x.h < 0:=by
  intro x hx
  obtain⟨j,hj,rfl⟩:=List.mem_iff_getElem.1 hx
  rw [List.length_drop] at hj
  have hg:L[lo L p.h+j]?=some ((L.drop (lo L p.h))[j]'(by rw [List.length_drop];exact hj)):=by
   rw [List.getElem_drop,List.getElem?_eq_getElem]
  have h1:¬ Host.cmp ((L.drop (lo L p.h))[j]'(by rw [List.length_drop];exact hj)).h p.h < 0:=by
   rw [lo_iff hL p.h hg];omega
  have h2:=Host.cmp_neg p.h ((L.drop (lo L p.h))[j]'(by rw [List.length_drop];exact hj)).h
  have h3:Host.cmp p.h ((L.drop (lo L p.h))[j]'(by rw [List.length_drop];exact hj)).h ≠ 0:=by
   intro e
   exact ze_s hL hn _ (List.mem_of_getElem? hg) (Host.cmp_eq e).symm
  omega
 refine⟨zp_h hL _,⟨key,zp_g hL _⟩,?_⟩
 intro a ha b hb
 have ha':Host.cmp a.h p.h < 0:=by
  obtain⟨i,hi,rfl⟩:=List.mem_iff_getElem.1 ha
  rw [List.length_take] at hi
  have hg:L[i]?=some ((L.take (lo L p.h))[i]'(by rw [List.length_take];exact hi)):=by
   rw [List.getElem_take,List.getElem?_eq_getElem]
  rw [lo_iff hL p.h hg];omega
 rcases List.mem_cons.1 hb with e|e
 ·rw [e];exact ha'
 ·exact Host.cmp_lt_trans ha' (key b e)
theorem put_asc (hL:Asc L) (cap:Int) (p:Pin):Asc (put L cap p).1:=by
 unfold put
 split
 ·exact hL
 ·split
  ·rename_i h
   obtain⟨q,h1,h2⟩:=(zd_x hL p.h).1 h
   exact zr_n hL h1 h2
  ·split
   ·exact hL
   ·rename_i h _
    exact zl_m hL (by simpa using h)
theorem remove_asc (hL:Asc L) (h:List UInt8):Asc (remove L h).1:=by
 unfold remove
 split
 ·exact zg_a hL _
 ·exact hL
theorem remove_len (L:List Pin) (h:List UInt8):(remove L h).1.length<=L.length:=by
 unfold remove
 split
 ·simp only [List.length_append,List.length_take,List.length_drop];omega
 ·exact zN _
theorem zm_r (L:List Pin):∀ n k,n+k=L.length->(chk L n k=0 ↔ (∀ i p,k<=i->L[i]?=some p->Pin.valid p=true)/\∀ i p q,k<=i+1->L[i]?=some p->L[i+1]?=some q->Host.cmp p.h q.h < 0)
|0,k,hk=>by
  refine⟨fun _=>⟨fun i p hi hp=>?_,fun i p q hi hp hq=>?_⟩,fun _=>rfl⟩
  ·have:=(List.getElem?_eq_some_iff.1 hp).1;omega
  ·have:=(List.getElem?_eq_some_iff.1 hq).1;omega
|n+1,k,hk=>by
  have hkl:k < L.length:=by omega
  have hg:=List.getElem?_eq_getElem hkl
  have ih:=zm_r L n (k+1) (by omega)
  rw [chk,hg]
  dsimp only
  by_cases hv:Pin.valid L[k]=false
  ·rw [if_pos hv]
   refine⟨(fun h=>by cases h),fun h=>?_⟩
   rw [h.1 k _ (zN _) hg] at hv;cases hv
  ·rw [if_neg hv]
   have hv':Pin.valid L[k]=true:=by simpa using hv
   by_cases hc:0 < k/\0<=Host.cmp (L.getD (k - 1) Pin.none).h L[k].h
   ·rw [if_pos hc]
    refine⟨(fun h=>by cases h),fun h=>?_⟩
    have hk1:k - 1 < L.length:=by omega
    have e1:L.getD (k - 1) Pin.none=L[k - 1]:=by rw [List.getD_eq_getElem?_getD,List.getElem?_eq_getElem hk1];rfl
    have:=h.2 (k - 1) _ _ (by omega) (List.getElem?_eq_getElem hk1) (by rw [show k - 1+1=k by omega];exact hg)
    rw [e1] at hc;omega
   ·rw [if_neg hc,ih]
    constructor
    ·rintro⟨h1,h2⟩
     refine⟨fun i p hi hp=>?_,fun i p q hi hp hq=>?_⟩
     ·rcases Nat.eq_or_lt_of_le hi with e|e
      ·subst e;rw [hg] at hp;cases hp;exact hv'
      ·exact h1 i p e hp
     ·rcases Nat.eq_or_lt_of_le hi with e|e
      ·subst e
       rw [hg] at hq;cases hq
       have e1:L.getD i Pin.none=p:=by rw [List.getD_eq_getElem?_getD,hp];rfl
       rw [Nat.add_sub_cancel,e1] at hc
       omega
      ·exact h2 i p q (by omega) hp hq
    ·rintro⟨h1,h2⟩
     exact⟨fun i p hi hp=>h1 i p (by omega) hp,fun i p q hi hp hq=>h2 i p q (by omega) hp hq⟩
theorem zj_h (h:∀ i p q,L[i]?=some p->L[i+1]?=some q->Host.cmp p.h q.h < 0):Asc L:=by
 rw [Asc,List.pairwise_iff_getElem]
 intro i j hi hj hij
 obtain⟨d,rfl⟩:∃ d,j=i+1+d:=⟨j - (i+1),by omega⟩
 clear hij
 induction d with
|zero=>exact h i _ _ (List.getElem?_eq_getElem hi) (List.getElem?_eq_getElem hj)
|succ d ih =>
  have hd:i+1+d < L.length:=by omega
  have h1:=ih hd
  have h2:=h (i+1+d) _ _ (List.getElem?_eq_getElem hd) (List.getElem?_eq_getElem (show i+1+d+1 < L.length by omega))
  exact Host.cmp_lt_trans h1 h2
theorem chk_zero (L:List Pin):chk L L.length 0=0 ↔ (∀ p ∈ L,Pin.valid p=true)/\Asc L:=by
 rw [zm_r L L.length 0 rfl]
 constructor
 ·rintro⟨h1,h2⟩
  refine⟨fun p hp=>?_,zj_h fun i p q hp hq=>h2 i p q (by omega) hp hq⟩
  obtain⟨i,hi,rfl⟩:=List.mem_iff_getElem.1 hp
  exact h1 i _ (by omega) (List.getElem?_eq_getElem hi)
 ·rintro⟨h1,h2⟩
  exact⟨fun i p _ hp=>h1 p (List.mem_of_getElem? hp),fun i p q _ hp hq=>zh_t h2 (by omega) hp hq⟩
end Go.Proofs.YtmanejniepghlaaGreatDoor.Tab
namespace Go.Proofs.YtmanejniepghlaaGreatDoor.Tab
variable {L:List Pin} {h:List UInt8}
def find (L:List Pin) (h:List UInt8):Nat:=(L.takeWhile fun p=>decide (p.h ≠ h)).length
def rremove (L:List Pin) (h:List UInt8):List Pin × Bool:=if find L h < L.length then (L.take (find L h) ++ L.drop (find L h+1),true) else (L,false)
def rput (L:List Pin) (p:Pin) (cap:Int):List Pin × Int :=
 if Pin.valid p=false then (L,1) else if (rremove L p.h).2=false/\cap<=L.length then (L,11) else
  ((rremove L p.h).1.take (lo (rremove L p.h).1 p.h) ++ p :: (rremove L p.h).1.drop (lo (rremove L p.h).1 p.h),0)
theorem zf_c:∀ (L:List Pin) (h:List UInt8) (k:Nat),k < find L h->∃ p,L[k]?=some p/\p.h ≠ h
|[],h,k,hk=>by simp [find] at hk
|p :: L,h,k,hk=>by
  by_cases hp:p.h ≠ h
  ·cases k with
  |zero=>exact⟨p,rfl,hp⟩
  |succ k =>
    have e:find (p :: L) h=find L h+1:=by unfold find;rw [List.takeWhile_cons_of_pos (by simpa using hp)];rfl
    rw [e] at hk
    obtain⟨q,h1,h2⟩:=zf_c L h k (by omega)
    exact⟨q,by simpa using h1,h2⟩
  ·have e:find (p :: L) h=0:=by unfold find;rw [List.takeWhile_cons_of_neg (by simpa using hp)];rfl
   omega
theorem zn_b:∀ (L:List Pin) (h:List UInt8) (p:Pin),L[find L h]?=some p->p.h=h
|[],h,p,e=>by simp [find] at e
|q :: L,h,p,e=>by
  by_cases hp:q.h ≠ h
  ·have e2:find (q :: L) h=find L h+1:=by unfold find;rw [List.takeWhile_cons_of_pos (by simpa using hp)];rfl
   rw [e2,List.getElem?_cons_succ] at e
   exact zn_b L h p e
  ·have e2:find (q :: L) h=0:=by unfold find;rw [List.takeWhile_cons_of_neg (by simpa using hp)];rfl
   rw [e2] at e
   cases e
   simpa using hp
theorem find_eq {k:Nat} (hk:k<=L.length) (h1:∀ i p,i < k->L[i]?=some p->p.h ≠ h) (h2:∀ p,L[k]?=some p->p.h=h):find L h=k:=by
 rcases Nat.lt_trichotomy (find L h) k with e|e|e
 ·have hlt:find L h < L.length:=by omega
  exact absurd (zn_b L h _ (List.getElem?_eq_getElem hlt)) (h1 _ _ e (List.getElem?_eq_getElem hlt))
 ·exact e
 ·obtain⟨p,h3,h4⟩:=zf_c L h k e
  exact absurd (h2 p h3) h4
theorem zp_q (hL:Asc L) (hh:hit L h=true):find L h=lo L h:=by
 obtain⟨p,h1,h2⟩:=(zd_x hL h).1 hh
 refine find_eq (lo_le L h) (fun i q hi hq e=>?_) (fun q hq=>?_)
 ·obtain⟨r,h3,h4⟩:=zc_j L h i hi
  rw [hq] at h3;cases h3
  rw [e,Host.cmp_self] at h4;omega
 ·rw [h1] at hq;cases hq;exact h2
theorem zn_c (hL:Asc L) (hh:hit L h=false):find L h=L.length:=by
 refine find_eq (zN _) (fun i q _ hq=>ze_s hL hh q (List.mem_of_getElem? hq)) (fun q hq=>?_)
 rw [List.getElem?_eq_none (zN _)] at hq;cases hq
theorem lo_lt (hL:Asc L) (hh:hit L h=true):lo L h < L.length:=by
 obtain⟨p,h1,h2⟩:=(zd_x hL h).1 hh
 exact (List.getElem?_eq_some_iff.1 h1).1
theorem rremove_is (hL:Asc L) (h:List UInt8):rremove L h=remove L h:=by
 unfold rremove remove
 cases hh:hit L h with
|true=>rw [zp_q hL hh,if_pos (lo_lt hL hh),if_pos rfl]
|false=>rw [zn_c hL hh,if_neg (by omega),if_neg (by decide)]
theorem lo_removed (hL:Asc L) (hh:hit L h=true):lo (L.take (lo L h) ++ L.drop (lo L h+1)) h=lo L h:=by
 obtain⟨p,h1,h2⟩:=(zd_x hL h).1 hh
 have hlt:=lo_lt hL hh
 refine lo_eq (by rw [List.length_append,List.length_take,List.length_drop];omega) (fun i q hi hq=>?_) (fun q hq=>?_)
 ·rw [List.getElem?_append_left (by rw [List.length_take];omega),List.getElem?_take_of_lt hi] at hq
  obtain⟨r,h3,h4⟩:=zc_j L h i hi
  rw [hq] at h3;cases h3;exact h4
 ·rw [List.getElem?_append_right (by rw [List.length_take];omega),List.length_take,List.getElem?_drop] at hq
  have h3:=zh_t hL (show lo L h < lo L h+1+(lo L h - min (lo L h) L.length) by omega) h1 hq
  have h4:=Host.cmp_neg p.h q.h
  rw [h2] at h3 h4
  omega
theorem remove_mem (hL:Asc L) (h:List UInt8) (q:Pin):q ∈ (remove L h).1 ↔ q ∈ L/\q.h ≠ h:=by
 unfold remove
 cases hh:hit L h with
|false =>
  rw [if_neg (by decide)]
  exact⟨fun hq=>⟨hq,ze_s hL hh q hq⟩,fun hq=>hq.1⟩
|true =>
  rw [if_pos rfl]
  obtain⟨p,h1,h2⟩:=(zd_x hL h).1 hh
  simp only
  constructor
  ·intro hq
   refine⟨?_,fun e=>?_⟩
   ·rcases List.mem_append.1 hq with m|m
    ·exact List.mem_of_mem_take m
    ·exact List.mem_of_mem_drop m
   ·have hqL:q ∈ L:=by
     rcases List.mem_append.1 hq with m|m
     ·exact List.mem_of_mem_take m
     ·exact List.mem_of_mem_drop m
    have hr:=zg_a hL (lo L h)
    obtain⟨i,hi,rfl⟩:=List.mem_iff_getElem.1 hq
    have e3:=place hr (List.getElem?_eq_getElem hi)
    rw [e,lo_removed hL hh] at e3
    have hg:=List.getElem?_eq_getElem hi
    generalize (L.take (lo L h) ++ L.drop (lo L h+1))[i]=x at *
    subst e3
    rw [List.getElem?_append_right (by rw [List.length_take];omega),List.length_take,List.getElem?_drop] at hg
    have h4:=zh_t hL (show lo L h < lo L h+1+(lo L h - min (lo L h) L.length) by omega) h1 hg
    rw [h2,e,Host.cmp_self] at h4
    omega
  ·rintro⟨hq,hne⟩
   obtain⟨i,hi,rfl⟩:=List.mem_iff_getElem.1 hq
   rcases Nat.lt_trichotomy i (lo L h) with e|e|e
   ·exact List.mem_append_left _ (List.mem_iff_getElem.2 ⟨i,by rw [List.length_take];omega,by rw [List.getElem_take]⟩)
   ·subst e
    rw [List.getElem?_eq_getElem hi] at h1;cases h1
    exact absurd h2 hne
   ·refine List.mem_append_right _ (List.mem_iff_getElem.2 ⟨i - (lo L h+1),by rw [List.length_drop];omega,?_⟩)
    rw [List.getElem_drop]
    congr 1;omega
theorem put_mem (hL:Asc L) {cap:Int} {p:Pin} (hv:Pin.valid p=true) (hc:(put L cap p).2=0) (q:Pin):q ∈ (put L cap p).1 ↔ q=p\/(q ∈ L/\q.h ≠ p.h):=by
 unfold put at hc ⊢
 rw [if_neg (by simp [hv])] at hc ⊢
 have hlo:=lo_le L p.h
 cases hh:hit L p.h with
|true =>
  have hlt:=lo_lt hL hh
  have hr:=remove_mem hL p.h q
  unfold remove at hr
  rw [hh,if_pos rfl] at hr
  rw [if_pos rfl]
  simp only at hr ⊢
  rw [List.set_eq_take_append_cons_drop,if_pos hlt,List.mem_append,List.mem_cons]
  rw [List.mem_append] at hr
  rw [<-hr]
  constructor
  ·rintro (m|m|m)
   ·exact .inr (.inl m)
   ·exact .inl m
   ·exact .inr (.inr m)
  ·rintro (m|m|m)
   ·exact .inr (.inl m)
   ·exact .inl m
   ·exact .inr (.inr m)
|false =>
  rw [hh,if_neg (by decide)] at hc
  rw [if_neg (by decide)]
  by_cases hf:(L.length:Int)=cap
  ·rw [if_pos hf] at hc;cases hc
  rw [if_neg hf]
  simp only
  rw [List.mem_append,List.mem_cons]
  have hsp:q ∈ L ↔ q ∈ L.take (lo L p.h)\/q ∈ L.drop (lo L p.h):=by rw [<-List.mem_append,List.take_append_drop]
  have hne:q ∈ L->q.h ≠ p.h:=ze_s hL hh q
  constructor
  ·rintro (m|m|m)
   ·exact .inr ⟨hsp.2 (.inl m),hne (hsp.2 (.inl m))⟩
   ·exact .inl m
   ·exact .inr ⟨hsp.2 (.inr m),hne (hsp.2 (.inr m))⟩
  ·rintro (m|⟨m,-⟩)
   ·exact .inr (.inl m)
   ·rcases hsp.1 m with m|m
    ·exact .inl m
    ·exact .inr (.inr m)
end Go.Proofs.YtmanejniepghlaaGreatDoor.Tab
namespace Go.Proofs.YtmanejniepghlaaGreatDoor
section
variable {L:List Pin}
structure UpdV where
 k:Int
 p:Pin
 deriving DecidableEq
namespace Upt
def none:UpdV:=⟨0,Pin.none⟩
def valid (u:UpdV):Bool:=if u.k=1 then Pin.valid u.p else if u.k=2 then Host.name u.p.h && decide (u.p.s=false/\u.p.x=0) else false
def enc (u:UpdV):List UInt8:=if u.k=2 then 2 :: Wire.txt u.p.h else 1 :: Pin.enc u.p
def dec1 (t:List UInt8):UpdV × Int:=if (Pin.dec t).2.2 ≠ 0 then (none,(Pin.dec t).2.2) else if (Pin.dec t).2.1 < t.length then (none,6) else (⟨1,(Pin.dec t).1⟩,0)
def dec2 (t:List UInt8):UpdV × Int:=if (Wire.decT t).2.2 ≠ 0 then (none,(Wire.decT t).2.2) else if (Wire.decT t).2.1 < t.length then (none,6) else if Host.name (Wire.decT t).1=false then (none,14) else (⟨2,⟨(Wire.decT t).1,false,0⟩⟩,0)
def dec (b:List UInt8):UpdV × Int:=match b with
|[]=>(none,5)
|x :: t=>if x=1 then dec1 t else if x=2 then dec2 t else (none,6)
theorem valid_cases {u:UpdV} (h:valid u=true):(u.k=1/\Pin.valid u.p=true)\/(u.k=2/\Host.name u.p.h=true/\u.p=⟨u.p.h,false,0⟩):=by
 unfold valid at h
 split at h
 ·rename_i h1;exact .inl ⟨h1,h⟩
 ·split at h
  ·rename_i h2
   rw [Bool.and_eq_true,decide_eq_true_eq] at h
   refine .inr ⟨h2,h.1,?_⟩
   obtain⟨-,h3,h4⟩:=h
   cases hp:u.p with
  |mk a b c=>rw [hp] at h3 h4;simp only at h3 h4;rw [h3,h4]
  ·cases h
theorem enc_dec {b:List UInt8} {u:UpdV} (h:dec b=(u,0)):valid u=true/\enc u=b:=by
 unfold dec at h
 cases b with
|nil=>cases h
|cons x t =>
  dsimp only at h
  split at h
  ·rename_i hx
   unfold dec1 at h
   split at h
   ·rename_i h0;exact absurd (Prod.mk.inj h).2 h0
   ·rename_i h0
    split at h
    ·cases h
    ·rename_i h1
     cases h
     have h0':(Pin.dec t).2.2=0:=by simpa using h0
     obtain⟨e1,e2,e3⟩:=Pin.enc_dec (b:=t) (p:=(Pin.dec t).1) (n:=(Pin.dec t).2.1) (by rw [<-h0'])
     refine⟨by unfold valid;rw [if_pos rfl];exact e1,?_⟩
     unfold enc;rw [if_neg (by simp)]
     rw [hx];dsimp only
     rw [<-e2,List.take_of_length_le (by omega)]
  ·split at h
   ·rename_i hx
    unfold dec2 at h
    split at h
    ·rename_i h0;exact absurd (Prod.mk.inj h).2 h0
    ·rename_i h0
     split at h
     ·cases h
     ·rename_i h1
      split at h
      ·cases h
      ·rename_i h2
       cases h
       have h0':(Wire.decT t).2.2=0:=by simpa using h0
       obtain⟨e2,e3,-⟩:=Wire.txt_decT (b:=t) (s:=(Wire.decT t).1) (n:=(Wire.decT t).2.1) (by rw [<-h0'])
       refine⟨by unfold valid;rw [if_neg (by simp),if_pos rfl];simpa using h2,?_⟩
       unfold enc;rw [if_pos rfl,hx];dsimp only
       rw [<-e2,List.take_of_length_le (by omega)]
   ·cases h
def stValid (c:Int) (L:List Pin):Bool:=decide (0<=c/\c<=1099511627776/\L.length<=1000/\Tab.chk L L.length 0=0)
theorem stValid_iff (c:Int) (L:List Pin):stValid c L=true ↔ 0<=c/\c<=1099511627776/\L.length<=1000/\(∀ p ∈ L,Pin.valid p=true)/\Tab.Asc L:=by
 unfold stValid;rw [decide_eq_true_eq,Tab.chk_zero]
def ins (L:List Pin) (p:Pin):List Pin:=if Tab.hit L p.h then L.set (Tab.lo L p.h) p else L.take (Tab.lo L p.h) ++ p :: L.drop (Tab.lo L p.h)
theorem zj_o {p:Pin} (hv:Pin.valid p=true):Tab.put L (L.length+1) p=(ins L p,0):=by
 unfold Tab.put ins
 rw [if_neg (by simp [hv])]
 split
 ·rfl
 ·rw [if_neg (by omega)]
def upd (L:List Pin) (u:UpdV):List Pin:=if u.k=2 then (Tab.remove L u.p.h).1 else ins L u.p
def apply (c:Int) (L:List Pin) (u:UpdV) (cap:Int):List Pin × Int :=
 if stValid c L=false\/valid u=false then ([],1) else if u.k=2 then (upd L u,0) else if Tab.hit L u.p.h=true then (upd L u,0) else if min cap 1000<=(L.length:Int) then ([],11) else (upd L u,0)
theorem zt_a (hL:Tab.Asc L) {u:UpdV} (hu:valid u=true) (q:Pin):q ∈ upd L u ↔ (u.k=1/\q=u.p)\/(q ∈ L/\q.h ≠ u.p.h):=by
 unfold upd
 rcases valid_cases hu with⟨h1,h2⟩|⟨h1,h2,h3⟩
 ·rw [if_neg (by omega)]
  have:=Tab.put_mem hL (cap:=L.length+1) h2 (by rw [zj_o h2]) q
  rw [zj_o h2] at this
  rw [this]
  constructor
  ·rintro (e|e)
   ·exact .inl ⟨h1,e⟩
   ·exact .inr e
  ·rintro (⟨-,e⟩|e)
   ·exact .inl e
   ·exact .inr e
 ·rw [if_pos h1,Tab.remove_mem hL]
  constructor
  ·exact fun e=>.inr e
  ·rintro (⟨e,-⟩|e)
   ·omega
   ·exact e
theorem zs_z (hL:Tab.Asc L) {u:UpdV} (hu:valid u=true):Tab.Asc (upd L u):=by
 unfold upd
 rcases valid_cases hu with⟨h1,h2⟩|⟨h1,-,-⟩
 ·rw [if_neg (by omega)]
  have:=Tab.put_asc hL (L.length+1) u.p
  rwa [zj_o h2] at this
 ·rw [if_pos h1];exact Tab.remove_asc hL _
theorem upd_good (hL:Tab.Asc L) {u:UpdV} (hu:valid u=true) (hg:∀ p ∈ L,Pin.valid p=true):∀ p ∈ upd L u,Pin.valid p=true:=by
 intro p hp
 rcases (zt_a hL hu p).1 hp with⟨h1,rfl⟩|⟨h,-⟩
 ·rcases valid_cases hu with⟨-,h2⟩|⟨h2,-,-⟩
  ·exact h2
  ·omega
 ·exact hg p h
end Upt
end
section
open Go.ChangeShapes Go.WideShapes Go.ChangeAt Go.RowKit
variable {e:TypeId} {C base fuel n:Nat} {v:Value} {a:Addr} {cs:List Value} {w:World} {spare:Nat->Bool} {held:Bool}
section
variable {H:Type} {enc:TypeId × Value->H} {P:Program} {w:World} {base:Nat} {spare:Nat->Bool} {held:Bool}
theorem zl_s {fs:Array Field} {x:DataW H × List MemPlace} (he:P.underlying e=some (.struct fs)) (hc:w.cells? base a C=some cs) (h:DataW.trod enc P w base spare held n e cs=some x)
 (j:Nat) (f:Field) (hf:fs[j]?=some f) (o:Nat) (ho:f.offset=o) (hoC:o < C) (hk:P.cellsOf f.type=1):∃ (v:Value) (m:Nat) (y:DataW H × List MemPlace),w.cell? (a.add o)=some v/\DataW.trod enc P w base spare held m f.type [v]=some y:=by
 obtain⟨_,hlen,hat⟩:=World.cells?_some hc
 obtain⟨xs,m,_,_,_,hxl,hg⟩:=DataW.trod_struct he h
 have hj:j < fs.size:=(Array.getElem?_eq_some_iff.1 hf).1
 have h1:=hg j f hf
 rw [ho,hk,List.getElem?_eq_getElem (by omega)] at h1
 have hol:o < cs.length:=by omega
 have h2:(cs.drop o).take 1=[cs[o]]:=by rw [List.drop_eq_getElem_cons hol];rfl
 rw [h2] at h1
 exact⟨cs[o],m,_,by rw [hat o hoC,List.getElem?_eq_getElem hol],h1⟩
theorem zk_v {fs:Array Field} {x:DataW H × List MemPlace} (he:P.underlying e=some (.struct fs)) (hc:w.cells? base a C=some cs) (h:DataW.trod enc P w base spare held n e cs=some x)
 (j:Nat) (f:Field) (hf:fs[j]?=some f) (o:Nat) (ho:f.offset=o) (hoC:o < C) (k:IntKind) (hu:P.underlying f.type=some (.int k)) (hk:P.cellsOf f.type=1):∃ z:Int,w.cell? (a.add o)=some (.int k z)/\(Lit.int k z).wf=true:=by
 obtain⟨v,m,y,hv,ht⟩:=zl_s he hc h j f hf o ho hoC hk
 obtain⟨z,h1,_,h3⟩:=DataW.trod_int hu ht
 exact⟨z,by rw [hv,List.singleton_inj.1 h1],h3⟩
theorem zg_i {t:TypeId} {f0 f1:Field} {x:DataW H × List MemPlace} (ht:P.underlying t=some (.slice e)) (he:P.underlying e=some (.struct #[f0,f1])) (hC:P.cellsOf e=2)
 (u0:P.underlying f0.type=some (.int .i64)) (u1:P.underlying f1.type=some (.int .i64)) (k0:P.cellsOf f0.type=1) (k1:P.cellsOf f1.type=1) (o0:f0.offset=0) (o1:f1.offset=1)
 (h:DataW.trod enc P w base spare held fuel t [v]=some x):∃ a n c l,v=.slice a n c/\SlP w a n c l:=by
 rcases Go.Deep.open_slice ht h with⟨hcs,_⟩|⟨a,len,cap,m,n,D,Pl,hcs,hb,hl,hm,hmm,hx,hi⟩
 ·exact⟨none,0,0,[],List.singleton_inj.1 hcs,SlP.nil w⟩
 ·have hlm:len<=m:=by rw [hmm];split <;> omega
  have hel:∀ i,i < len->∃ p:Int × Int,w.cell? (a.add (i * 2))=some (p.1:Value)/\w.cell? (a.add (i * 2+1))=some (p.2:Value):=by
   intro i hil
   obtain⟨cs',hc,ht'⟩:=hi i (by omega)
   rw [hC] at hc
   obtain⟨z0,c0,_⟩:=zk_v he hc ht' 0 f0 rfl 0 o0 (by omega) .i64 u0 k0
   obtain⟨z1,c1,_⟩:=zk_v he hc ht' 1 f1 rfl 1 o1 (by omega) .i64 u1 k1
   rw [Go.Deep.add_add] at c0 c1
   exact⟨(z0,z1),c0,c1⟩
  obtain⟨p,hp⟩:=Go.Deep.choose_lt (α:=Int × Int) (p:=fun i p=>w.cell? (a.add (i * 2))=some (p.1:Value)/\w.cell? (a.add (i * 2+1))=some (p.2:Value)) hel
  refine⟨some a,len,cap,(List.range len).map p,List.singleton_inj.1 hcs,by simp,hl,hm,(fun h=>by cases h),fun y hy i hil=>?_⟩
  cases hy
  simp at hil
  obtain⟨c0,c1⟩:=hp i hil
  obtain⟨b,o,sp⟩:=a
  have hsp:sp=none:=by
   have h1:=(hp 0 (by omega)).1
   have h2:=World.cell?_spot h1
   simpa [Addr.add] using h2
  subst hsp
  have hadd:∀ j,((b o):Addr).add j=(b (o+j)):=by intro j;unfold Addr.add;split <;> simp_all
  rw [hadd] at c0 c1
  refine⟨rfl,World.block_lt_of_cell? w (b (o+i * 2)) c0,?_,?_⟩
  ·rw [c0];simp
  ·rw [show o+i * 2+1=o+(i * 2+1) by omega,c1];simp
end
theorem zj_q {H:Type} {enc:TypeId × Value->H} {x:DataW H × List MemPlace}
 (h:DataW.trod enc Tryz.prog w base spare held fuel 61 [v]=some x):∃ a n c l,v=.slice a n c/\SlP w a n c l :=
 zg_i Tryz.underlying61 Tryz.underlying123 (by kernel_rfl) Tryz.underlying3 Tryz.underlying3 (by kernel_rfl) (by kernel_rfl) rfl rfl h
theorem zl_z {H:Type} {enc:TypeId × Value->H} {x:DataW H × List MemPlace}
 (h:DataW.trod enc Tryz.prog w base spare held fuel 62 [v]=some x):∃ a n c l,v=.slice a n c/\SlP w a n c l :=
 zg_i Tryz.underlying62 Tryz.underlying116 (by kernel_rfl) Tryz.underlying3 Tryz.underlying3 (by kernel_rfl) (by kernel_rfl) rfl rfl h
end
end Go.Proofs.YtmanejniepghlaaGreatDoor
namespace Go.Proofs.YtmanejniepghlaaGreatDoor.Crc
theorem toNat_ofNat8 {n:Nat} (h:n < 256):(UInt8.ofNat n).toNat=n:=by simp [Nat.mod_eq_of_lt h]
def fix4 (v:Nat):List UInt8:=[UInt8.ofNat (v % 256),UInt8.ofNat (v / 256 % 256),UInt8.ofNat (v / 65536 % 256),UInt8.ofNat (v / 16777216)]
def unfix4 (l:List UInt8):Nat:=(l[0]?.getD 0).toNat+(l[1]?.getD 0).toNat * 256+(l[2]?.getD 0).toNat * 65536+(l[3]?.getD 0).toNat * 16777216
end Go.Proofs.YtmanejniepghlaaGreatDoor.Crc
namespace Go.Proofs.YtmanejniepghlaaGreatDoor.Super
open Crc
def le:Nat->Nat->List UInt8
|0,_=>[]
|n+1,v=>UInt8.ofNat (v % 256) :: le n (v / 256)
def unle:List UInt8->Nat
|[]=>0
|b :: l=>b.toNat+256 * unle l
theorem le_length (n v:Nat):(le n v).length=n:=by
 induction n generalizing v with
|zero=>rfl
|succ n ih=>simp [le,ih]
theorem unle_lt (l:List UInt8):unle l < 256 ^ l.length:=by
 induction l with
|nil=>simp [unle]
|cons b l ih =>
  have:=b.toNat_lt
  rw [unle,List.length_cons,Nat.pow_succ];omega
theorem unle_append (a b:List UInt8):unle (a ++ b)=unle a+256 ^ a.length * unle b:=by
 induction a with
|nil=>simp [unle]
|cons x a ih=>rw [List.cons_append,unle,unle,ih,List.length_cons,Nat.pow_succ,Nat.mul_add,Nat.mul_comm (256 ^ a.length) 256,Nat.mul_assoc,Nat.add_assoc]
theorem zd_z (v:Nat) (hv:v < 4294967296):le 4 v=fix4 v:=by
 simp only [le,fix4]
 rw [show v / 256 / 256=v / 65536 by omega,show v / 65536 / 256=v / 16777216 by omega,show v / 16777216 % 256=v / 16777216 by omega]
theorem zp_z (v:Nat) (hv:v < 18446744073709551616):le 8 v=fix4 (v % 4294967296) ++ fix4 (v / 4294967296):=by
 rw [<-zd_z _ (Nat.mod_lt _ (by decide)),<-zd_z _ (by omega)]
 simp only [le,List.cons_append,List.nil_append]
 congr 1
 ·congr 1;omega
 congr 1
 ·congr 1;omega
 congr 1
 ·congr 1;omega
 congr 1
 ·congr 1;omega
 congr 1
 ·congr 1;omega
 congr 1
 ·congr 1;omega
 congr 1
 ·congr 1;omega
 congr 1
 ·congr 1;omega
theorem unle_four (l:List UInt8) (h:l.length=4):unle l=unfix4 l:=by
 match l,h with
|[a,b,c,d],_=>simp only [unle,unfix4,List.getElem?_cons_zero,List.getElem?_cons_succ,Option.getD_some];omega
def spl (l:List UInt8) (o:Nat) (xs:List UInt8):List UInt8:=l.take o ++ xs ++ l.drop (o+xs.length)
theorem spl_length (l:List UInt8) (o:Nat) (xs:List UInt8) (h:o+xs.length<=l.length):(spl l o xs).length=l.length:=by simp [spl];omega
theorem spl_nil (l:List UInt8) (o:Nat):spl l o []=l:=by simp [spl]
theorem spl_snoc (l:List UInt8) (o:Nat) (xs:List UInt8) (b:UInt8) (h:o+xs.length < l.length):(spl l o xs).set (o+xs.length) b=spl l o (xs ++ [b]):=by
 unfold spl
 have h1:(l.take o ++ xs).length=o+xs.length:=by simp;omega
 rw [List.set_append_right _ _ (by omega),h1,Nat.sub_self,List.drop_eq_getElem_cons h,List.set_cons_zero]
 simp [Nat.add_assoc]
theorem le_succ (k v:Nat):le (k+1) v=le k v ++ [UInt8.ofNat (v / 256 ^ k % 256)]:=by
 induction k generalizing v with
|zero=>simp [le]
|succ k ih =>
  rw [le,ih (v / 256),le,List.cons_append]
  congr 3
  rw [Nat.div_div_eq_div_mul,Nat.pow_succ,Nat.mul_comm 256]
structure S where
 gen:Nat
 act:Int
 epoch:Nat
 len:Int
 sum:Nat
 deriving DecidableEq
def zero:S:=⟨0,0,0,0,0⟩
def S.fits (s:S):Prop:=s.gen < 18446744073709551616/\s.epoch < 4294967296/\s.sum < 4294967296
def valid (s:S):Bool:=(s.act == 0 || s.act == 1) && decide (0<=s.len) && decide (s.len<=262144)
def body (s:S):List UInt8:=[72,83,84,83,1,UInt8.ofNat s.act.toNat] ++ le 8 s.gen ++ le 4 s.epoch ++ le 4 s.len.toNat ++ le 4 s.sum ++ List.replicate 34 0
def enc (s:S):List UInt8:=body s ++ fix4 (update 0 (body s))
def field (b:List UInt8) (i n:Nat):Nat:=unle ((b.drop i).take n)
def fields (b:List UInt8):S:=⟨field b 6 8,((b[5]?.getD 0).toNat:Int),field b 14 4,(field b 18 4:Int),field b 22 4⟩
def dec (b:List UInt8):S × Int :=
 if b.length ≠ 64 then (zero,5)
 else if unfix4 (b.drop 60) ≠ update 0 (b.take 60) then (zero,7)
 else if valid (fields b)=true/\enc (fields b)=b then (fields b,0) else (zero,6)
theorem body_length (s:S):(body s).length=60:=by simp [body,le_length]
theorem enc_length (s:S):(enc s).length=64:=by simp [enc,body_length,fix4]
def choose (a b:List UInt8):Int × S × Int :=
 if (dec a).2 ≠ 0/\(dec b).2 ≠ 0 then (0,zero,13)
 else if (dec a).2 ≠ 0\/((dec b).2=0/\(dec a).1.gen < (dec b).1.gen) then (1,(dec b).1,0)
 else (0,(dec a).1,0)
def lay (gen act epoch len sum:Nat):List UInt8 :=
 spl (spl (spl (spl (((List.take 0 (List.replicate 64 (0:UInt8)) ++ (ByteArray.mk #[72,83,84,83]).data.toList ++ List.drop (0+(ByteArray.mk #[72,83,84,83]).size) (List.replicate 64 0)).set 4 1).set 5 (UInt8.ofNat act)) 6 (le 8 gen)) 14 (le 4 epoch)) 18 (le 4 len)) 22 (le 4 sum)
theorem zr_h (gen act epoch len sum:Nat):lay gen act epoch len sum=body ⟨gen,act,epoch,len,sum⟩ ++ [0,0,0,0]:=rfl
theorem lay_take (gen act epoch len sum:Nat):((lay gen act epoch len sum).drop 0).take 60=body ⟨gen,act,epoch,len,sum⟩:=by
 rw [zr_h,List.drop_zero,<-body_length ⟨gen,act,epoch,len,sum⟩,List.take_left]
theorem lay_enc (gen act epoch len sum:Nat):spl (lay gen act epoch len sum) 60 (le 4 (update 0 (body ⟨gen,act,epoch,len,sum⟩)))=enc ⟨gen,act,epoch,len,sum⟩:=by
 have h:=body_length ⟨gen,act,epoch,len,sum⟩
 rw [zd_z _ (update_lt _ _),spl,zr_h,List.take_append_of_le_length (by omega),List.take_of_length_le (by omega),List.drop_eq_nil_of_le (by simp [h,fix4]),List.append_nil];rfl
theorem valid_cases {s:S} (hv:valid s=true) (hf:s.fits):∃ gen act epoch len sum:Nat,s=⟨gen,act,epoch,len,sum⟩/\gen < 18446744073709551616/\epoch < 4294967296/\sum < 4294967296/\len<=262144/\act < 2:=by
 obtain⟨g,a,e,l,m⟩:=s
 obtain⟨h1,h2,h3⟩:=hf
 simp only [valid,Bool.and_eq_true,Bool.or_eq_true,beq_iff_eq,decide_eq_true_eq] at hv
 obtain⟨⟨ha,hl0⟩,hl1⟩:=hv
 simp only at h1 h2 h3 ha hl0 hl1
 refine⟨g,a.toNat,e,l.toNat,m,?_,h1,h2,h3,by omega,by omega⟩
 congr 1 <;> omega
theorem body_parts (gen act epoch len sum:Nat) (h1:gen < 18446744073709551616) (h2:epoch < 4294967296) (h3:sum < 4294967296) (h4:len < 4294967296) :
 body ⟨gen,act,epoch,len,sum⟩=[72,83,84,83,1,UInt8.ofNat act] ++ fix4 (gen % 4294967296) ++ fix4 (gen / 4294967296) ++ fix4 epoch ++ fix4 len ++ fix4 sum ++ List.replicate 34 0:=by
 unfold body
 rw [zp_z _ h1,zd_z _ h2,zd_z _ h3,Int.toNat_natCast,Int.toNat_natCast,zd_z _ h4]
 simp only [List.append_assoc]
end Go.Proofs.YtmanejniepghlaaGreatDoor.Super
namespace Go.Proofs.YtmanejniepghlaaGreatDoor
section
open Go.RowKit
def SeqIx (F:Fence) (n:Nat) (P:Program) (g:Nat) (lb:Array Value) (enc:Nat->Array Value) (Kp:World->World->Prop) (N:Nat) (w:World):Prop :=
 ∀ (l:Nat) (J Jx:Nat->World->Prop) (W:World),Below w.heap.size w W →
  (∀ k W1,J k W1->k < N->YieldAt F (n - 1) P l (enc k) W1 fun e W'=>(e=.returned (.bool true)/\J (k+1) W'/\Kp W1 W')\/(e=.returned (.bool false)/\Jx (k+1) W')) →
  J 0 W->CallsIn F n P g (#[.func (.yield l) #[] #[]] ++ lb) W fun e W'=>(∃ v,e=.returned v)/\(J N W'\/∃ k,k<=N/\Jx k W')
def RoundEnds (B:Nat) (Kp:World->World->Prop) (I:Nat->World->Prop) (Ix:Code->Nat->World->Prop) (k:Nat) (W:World):Exit->Act->World->Prop
|.normal,_,W'=>KeepsFrom B W W'/\Kp W W'/\I k W'
|.ret,_,W'=>KeepsFrom B W W'/\Ix .ret k W'
|.exit id,_,W'=>KeepsFrom B W W'/\Ix (.exit id) k W'
|_,_,_=>False
def Stable (B:Nat) (I:Nat->World->Prop):Prop:=∀ k W l o o',I k W->B<=l->W.heap[l]?=some o->o.isCells=false->I k (W.putObj l o')
theorem ze_p {F:Fence} {n:Nat} {P:Program} {g:Operand} {ps:Array Tmp} {assign body:Code} {Q:Exit->Act->World->Prop} {a:Act} {w:World}
 (hro:F.round=none) (h1:1<=n) {gf:Nat} {lb:Array Value} (hg:a.eval g=.func (.func gf) #[] lb) (hFg:F.fn gf) (eg:∀ args w,(callFunc gf args).run P w=.ok (.enter gf args) w)
 {enc:Nat->Array Value} {Kp:World->World->Prop} {N:Nat} {w0:World} (hseq:SeqIx F (n - 1) P gf lb enc Kp N w0)
 (hKt:∀ {A B C:World},Kp A B->Kp B C->Kp A C) (hKb:∀ (W:World) (l:Nat) (o o':Obj),w.heap.size<=l->W.heap[l]?=some o->o.isCells=false->Kp W (W.putObj l o')) (hb0:Below w0.heap.size w0 w) (hps:∀ k,(enc k).size=ps.size)
 (I:Nat->World->Prop) (Ix:Code->Nat->World->Prop) (hI:Stable w.heap.size I) (hIx:∀ c,Stable w.heap.size (Ix c)) (h0:∀ o o',I 0 ((w.alloc o).alloc o')) (I':Nat->Act->World->Prop) (hI':∀ a1,Stable w.heap.size (fun k W=>I' k a1 W))
 (hassign:∀ (l:Nat) (k:Nat) (W:World),I k W->k < N →
  assign.wpIn (F.inRound l) (n - 1 - 1) P (Exit.then (fun a1 W1=>KeepsFrom w.heap.size W W1/\Kp W W1/\I' k a1 W1) (fun _ _ _=>False)) { tmps:=(ps.zip (enc k)).foldl (fun t (p,v)=>t.setIfInBounds p v) a.tmps,defers:=[] } W)
 (hbody:∀ (l:Nat) (k:Nat) (a1:Act) (W:World),I' k a1 W->k < N->body.wpIn (F.inRound l) (n - 1 - 1) P (RoundEnds w.heap.size Kp I Ix (k+1) W) a1 W)
 (hdone:∀ (D:Nat) (W:World),w.heap.size<=D->I N W->W.heap[D]?=some (.deferred (some []))->Q .normal { a with defers:={ target:=.collected D,args:=#[] } :: a.defers } W)
 (hstop:∀ (D:Nat) (c:Code) (k:Nat) (W:World),w.heap.size<=D->k<=N->Ix c k W->W.heap[D]?=some (.deferred (some []))->c.wpIn F n P Q { a with defers:={ target:=.collected D,args:=#[] } :: a.defers } W) :
 (Code.rangeFunc g ps assign body).wpIn F n P Q a w:=by
 refine wpIn_rangeFunc (fun fn hfn=>?_)
 rw [hro]
 obtain⟨R,hR⟩:∃ R:LoopState->Option Code->Loop,R=fun st pe=>{ state:=st,pending:=pe,fn,tmps:=a.tmps,params:=ps,assign,body,defers:=w.heap.size }:=⟨_,rfl⟩
 have e0:∀ st pe,(R st pe).state=st/\(R st pe).params=ps/\(R st pe).pending=pe:=by intro st pe;rw [hR];exact⟨rfl,rfl,rfl⟩
 have hW1a:∀ W1,W1=(w.alloc (.deferred (some []))).alloc (.loop (R .ready none))->W1.heap[w.heap.size+1]?=some (.loop (R .ready none))/\W1.heap[w.heap.size]?=some (.deferred (some []))/\Below w0.heap.size w0 W1/\I 0 W1:=by
  rintro W1 rfl
  refine⟨za_b _ _ _ (by simp),(za_c _ _ _ (by simp)).trans (za_b _ _ _ rfl),?_,h0 _ _⟩
  exact (hb0.alloc hb0.size _).alloc (by have:=hb0.size;simp;omega) _
 obtain⟨hl1,hd1,hb1,hi1⟩:=hW1a _ rfl
 refine⟨w.heap.size+1,[{ target:=.collected w.heap.size,args:=#[] }],(w.alloc (.deferred (some []))).alloc (.loop (R .ready none)),{ target:=.fn (.func gf) lb,args:=#[.func (.yield (w.heap.size+1)) #[] #[]] },(w.alloc (.deferred (some []))).alloc (.loop (R .ready none)),gf,
  #[.func (.yield (w.heap.size+1)) #[] #[]] ++ lb,(w.alloc (.deferred (some []))).alloc (.loop (R .ready none)),?_,?_,?_,?_,fun _=>h1,?_⟩
 ·rw [hR];exact run_enterLoop_outer _ _ _ _ _
 ·simp only [resolve,hg];simp [go_sem]
 ·intro f' hf';simp [Target.leads] at hf';subst hf';exact hFg
 ·simp [invoke,go_sem,eg]
 ·refine (hseq (w.heap.size+1)
   (fun k W=>I k W/\W.heap[w.heap.size+1]?=some (.loop (R .ready none))/\W.heap[w.heap.size]?=some (.deferred (some [])))
   (fun k W=>∃ c,Ix c k W/\W.heap[w.heap.size+1]?=some (.loop (R .done (some c)))/\W.heap[w.heap.size]?=some (.deferred (some [])))
   _ hb1 ?_ ⟨hi1,hl1,hd1⟩).mono ?_
  ·
   rintro k W ⟨hi,hl,hd⟩ hk
   have hy:=run_yield (P:=P) (args:=enc k) hl (by rw [(e0 _ _).2.1];exact hps k)
   have hyR:(Instr.yield (w.heap.size+1) (enc k)).run P W=.ok (.round (w.heap.size+1) fn ((ps.zip (enc k)).foldl (fun t (p,v)=>t.setIfInBounds p v) a.tmps) assign body) W:=by rw [hR] at hy;exact hy
   refine⟨fn,_,assign,body,hyR,roundIn_of_wpIn hfn (wpIn_mono (hassign _ k W hi hk) ?_)⟩
   rintro e1 a1 W0 hp0
   cases e1 with
  |ret=>exact hp0.elim
  |exit id=>exact hp0.elim
  |goto t=>exact hp0.elim
  |panic ch=>exact hp0.elim
  |outgrown=>exact hp0.elim
  |normal =>
   obtain⟨g1,g2,g3⟩:=(show KeepsFrom w.heap.size W W0/\Kp W W0/\I' k a1 W0 from hp0)
   have hl0:=g1.same _ _ (by omega) hl rfl
   have hd0:=g1.same _ _ (zN _) hd rfl
   refine⟨_,run_beginRound hl0 (e0 _ _).1,?_⟩
   obtain⟨b,hb⟩:∃ b:Loop,b={ R .ready none with state:=.busy }:=⟨_,rfl⟩
   rw [<-hb]
   have hl2:(W0.putObj (w.heap.size+1) (.loop b)).heap[w.heap.size+1]?=some (.loop b):=World.putObj_heap_same (za_a hl0)
   have hd2:(W0.putObj (w.heap.size+1) (.loop b)).heap[w.heap.size]?=some (.deferred (some [])):=(World.putObj_heap_other (by omega)).trans hd0
   have hk2:Kp W (W0.putObj (w.heap.size+1) (.loop b)):=hKt g2 (hKb _ _ _ _ (by omega) hl0 rfl)
   have ends:∀ (j:Option Code) (W3:World),KeepsFrom w.heap.size (W0.putObj (w.heap.size+1) (.loop b)) W3 →
    ∃ W4,W4=W3.putObj (w.heap.size+1) (.loop (R (if j.isNone then .ready else .done) j))/\(Instr.endRound (w.heap.size+1) j).run P W3=.ok (.bool j.isNone) W4/\W3.heap[w.heap.size+1]?=some (.loop b) ∧
     W4.heap[w.heap.size+1]?=some (.loop (R (if j.isNone then .ready else .done) j))/\W4.heap[w.heap.size]?=some (.deferred (some [])):=by
    intro j W3 hk3
    have hl3:=hk3.same _ _ (by omega) hl2 rfl
    refine⟨_,rfl,?_,hl3,World.putObj_heap_same (za_a hl3),(World.putObj_heap_other (by omega)).trans (hk3.same _ _ (zN _) hd2 rfl)⟩
    have:=run_endRound (P:=P) j hl3
    rw [hb,hR] at this;rw [hR];exact this
   refine wpIn_mono (hbody _ k a1 _ (hI' a1 _ _ _ _ _ g3 (by omega) hl0 rfl) hk) ?_
   rintro e a3 W3 hp
   cases e with
  |normal =>
    obtain⟨h3,h4,h5⟩:=hp
    obtain⟨W4,rfl,hr,hl3,hl4,hd4⟩:=ends none W3 h3
    exact⟨_,_,hr,.inl ⟨rfl,⟨hI _ _ _ _ _ h5 (by omega) hl3 rfl,hl4,hd4⟩,hKt (hKt hk2 h4) (hKb _ _ _ _ (by omega) hl3 rfl)⟩⟩
  |ret =>
    obtain⟨h3,h5⟩:=hp
    obtain⟨W4,rfl,hr,hl3,hl4,hd4⟩:=ends (some .ret) W3 h3
    exact⟨_,_,hr,.inr ⟨rfl,.ret,hIx _ _ _ _ _ _ h5 (by omega) hl3 rfl,hl4,hd4⟩⟩
  |exit id =>
    obtain⟨h3,h5⟩:=hp
    obtain⟨W4,rfl,hr,hl3,hl4,hd4⟩:=ends (some (.exit id)) W3 h3
    exact⟨_,_,hr,.inr ⟨rfl,.exit id,hIx _ _ _ _ _ _ h5 (by omega) hl3 rfl,hl4,hd4⟩⟩
  |goto t=>exact hp.elim
  |panic ch=>exact hp.elim
  |outgrown=>exact hp.elim
  ·
   rintro e W2 ⟨⟨v,rfl⟩,(⟨hi,hl,hd⟩|⟨k,hk,c,hi,hl,hd⟩)⟩
   ·have hr:=run_endLoop (P:=P) hl (by rw [(e0 _ _).1];simp)
    rw [(e0 _ _).2.2] at hr
    exact⟨none,_,hr,hdone _ _ (zN _) (hI _ _ _ _ _ hi (by omega) hl rfl) ((World.putObj_heap_other (by omega)).trans hd)⟩
   ·have hr:=run_endLoop (P:=P) hl (by rw [(e0 _ _).1];simp)
    rw [(e0 _ _).2.2] at hr
    exact⟨some c,_,hr,hstop _ c k _ (zN _) hk (hIx _ _ _ _ _ _ hi (by omega) hl rfl) ((World.putObj_heap_other (by omega)).trans hd)⟩
end
section
namespace Disk
structure Dk where
 st:List (List UInt8)
 ca:List (Option (List UInt8))
 fs:List (Int × Int)
 cnt:Int
 off:Bool
structure Dk.Ok (d:Dk):Prop where
 len:d.ca.length=d.st.length
 pos:1<=d.st.length
 max:d.st.length<=4096
 st64:∀ x ∈ d.st,x.length=64
 ca64:∀ x,some x ∈ d.ca->x.length=64
def new (n:Nat):Dk:=⟨List.replicate n (List.replicate 64 0),List.replicate n none,[],0,false⟩
def chunks (n:Nat) (l:List UInt8):List (List UInt8):=(List.range n).map fun i=>(l.drop (64 * i)).take 64
def load (n:Nat) (l:List UInt8):Dk:=⟨chunks n l,List.replicate n none,[],0,false⟩
def fault (d:Dk):Int:=((d.fs.find? fun f=>f.1 == d.cnt).map (·.2)).getD 0
def tick (d:Dk):Dk:={ d with cnt:=Go.RowKit.wrap64 (d.cnt+1) }
def cut (d:Dk):Dk:={ d with off:=true }
def begin (d:Dk) (fits:Bool):Bool × Int × Dk :=
 if d.off then (false,10,d) else if fits then (if fault d=1 then (false,9,tick d) else if fault d=2 then (true,0,tick d) else (false,0,tick d)) else (false,2,d)
def content (d:Dk) (i:Nat):List UInt8:=((d.ca[i]?.getD none).getD (d.st[i]?.getD []))
def fits (d:Dk) (i:Int):Bool:=decide (0<=i) && decide (i < (d.st.length:Int))
def put (d:Dk) (i:Nat) (x:List UInt8):Dk:={ d with ca:=d.ca.set i (some x) }
def flush (d:Dk):Dk:={ d with st:=(List.range d.st.length).map (content d),ca:=List.replicate d.ca.length none }
def read (d:Dk) (i:Int):List UInt8 × Int × Dk :=
 match begin d (fits d i) with
|(true,_,d')=>([],10,cut d')
|(false,e,d')=>if e=0 then (content d i.toNat,0,d') else ([],e,d')
def write (d:Dk) (i:Int) (x:List UInt8):Int × Dk :=
 match begin d (fits d i && decide (x.length=64)) with
|(true,_,d')=>(10,cut (put d' i.toNat x))
|(false,e,d')=>if e=0 then (0,put d' i.toNat x) else (e,d')
def sync (d:Dk):Int × Dk :=
 match begin d true with
|(true,_,d')=>(10,cut d')
|(false,e,d')=>if e=0 then (0,flush d') else (e,d')
def tear (d:Dk) (k:Int × Int):Dk :=
 if 0<=k.1 then
  match d.ca[k.1.toNat]? with
 |some (some x)=>{ d with st:=d.st.set k.1.toNat (x.take (min (max k.2 0) 64).toNat ++ (d.st[k.1.toNat]?.getD []).drop (min (max k.2 0) 64).toNat) }
 |_=>d
 else d
def restart (d:Dk) (keep:List (Int × Int)):Dk :=
 { keep.foldl tear d with ca:=List.replicate d.ca.length none,fs:=[],cnt:=0,off:=false }
def badf (p:Int × Int):Bool:=(p.2 != 1 && p.2 != 2) || decide (p.1 < 0)
def validFaults (fs:List (Int × Int)):Bool:=decide (fs.length<=64) && !fs.any badf
def arm (d:Dk) (fs:List (Int × Int)):Int × Dk:=if validFaults fs then (0,{ d with fs:=fs,cnt:=0 }) else (1,d)
theorem flat_length (st:List (List UInt8)) (h:∀ x ∈ st,x.length=64):st.flatten.length=64 * st.length:=by
 induction st with
|nil=>rfl
|cons a st ih =>
  have h1:=h a (by simp)
  have h2:=ih (fun x hx=>h x (by simp [hx]))
  simp only [List.flatten_cons,List.length_append,List.length_cons];omega
theorem zc_h (st:List (List UInt8)) (h:∀ x ∈ st,x.length=64) (i:Nat):st.flatten.drop (64 * i)=(st.drop i).flatten:=by
 induction st generalizing i with
|nil=>simp
|cons a st ih =>
  have h1:=h a (by simp)
  cases i with
 |zero=>simp
 |succ i =>
   rw [List.flatten_cons,List.drop_append,List.drop_of_length_le (by omega),h1,show 64 * (i+1) - 64=64 * i by omega,ih (fun x hx=>h x (by simp [hx]))];simp
theorem zd_d (st:List (List UInt8)) (h:∀ x ∈ st,x.length=64) (i:Nat):st.flatten.take (64 * i)=(st.take i).flatten:=by
 induction st generalizing i with
|nil=>simp
|cons a st ih =>
  have h1:=h a (by simp)
  cases i with
 |zero=>simp
 |succ i =>
   rw [List.flatten_cons,List.take_append,List.take_of_length_le (by omega),h1,show 64 * (i+1) - 64=64 * i by omega,ih (fun x hx=>h x (by simp [hx]))];simp
theorem flat_slot (st:List (List UInt8)) (h:∀ x ∈ st,x.length=64) (i:Nat) (hi:i < st.length):(st.flatten.drop (64 * i)).take 64=st[i]?.getD []:=by
 rw [zc_h st h,List.drop_eq_getElem_cons hi,List.flatten_cons,List.take_append,List.take_of_length_le (by have:=h st[i] (List.getElem_mem hi);omega),h st[i] (List.getElem_mem hi)]
 simp [hi]
theorem flat_set (st:List (List UInt8)) (h:∀ x ∈ st,x.length=64) (i:Nat) (hi:i < st.length) (x:List UInt8) (m:Nat) (hx:x.length=m) (hm:m<=64) :
 st.flatten.take (64 * i) ++ x ++ st.flatten.drop (64 * i+m)=(st.set i (x ++ (st[i]?.getD []).drop m)).flatten:=by
 have h1:=h st[i] (List.getElem_mem hi)
 rw [zd_d st h,<-List.drop_drop,zc_h st h,List.set_eq_take_append_cons_drop,if_pos hi,List.flatten_append,List.flatten_cons,List.drop_eq_getElem_cons hi,List.flatten_cons,List.drop_append]
 simp only [List.getElem?_eq_getElem hi,Option.getD_some]
 rw [show m - st[i].length=0 by omega]
 simp
theorem chunks_length (n:Nat) (l:List UInt8):(chunks n l).length=n:=by simp [chunks]
theorem chunks_mem (n:Nat) (l:List UInt8) (h:l.length=64 * n):∀ x ∈ chunks n l,x.length=64:=by
 intro x hx
 obtain⟨i,hi,rfl⟩:=List.mem_map.1 hx
 have:=List.mem_range.1 hi
 rw [List.length_take,List.length_drop];omega
theorem Dk.Ok.tick {d:Dk} (h:d.Ok):(tick d).Ok:=⟨h.len,h.pos,h.max,h.st64,h.ca64⟩
theorem Dk.Ok.cut {d:Dk} (h:d.Ok):(cut d).Ok:=⟨h.len,h.pos,h.max,h.st64,h.ca64⟩
theorem Dk.Ok.put {d:Dk} (h:d.Ok) (i:Nat) (x:List UInt8) (hx:x.length=64):(put d i x).Ok :=
 ⟨by simp [Disk.put,h.len],h.pos,h.max,h.st64,fun y hy=>by
  rcases List.mem_or_eq_of_mem_set hy with h1|h1
  ·exact h.ca64 y h1
  ·cases h1;exact hx⟩
theorem content64 {d:Dk} (h:d.Ok) (i:Nat) (hi:i < d.st.length):(content d i).length=64:=by
 unfold content
 have h1:i < d.ca.length:=by rw [h.len];exact hi
 rw [List.getElem?_eq_getElem h1,List.getElem?_eq_getElem hi]
 simp only [Option.getD_some]
 cases hc:d.ca[i] with
|none=>simpa using h.st64 _ (List.getElem_mem hi)
|some x=>simpa using h.ca64 x (by rw [<-hc];exact List.getElem_mem h1)
theorem Dk.Ok.flush {d:Dk} (h:d.Ok):(flush d).Ok:=by
 refine⟨by simp [Disk.flush,h.len],by simpa [Disk.flush] using h.pos,by simpa [Disk.flush] using h.max,fun x hx=>?_,fun x hx=>?_⟩
 ·simp [Disk.flush] at hx
  obtain⟨i,hi,rfl⟩:=hx
  exact content64 h i hi
 ·simp [Disk.flush] at hx
theorem Dk.Ok.begin {d:Dk} (h:d.Ok) (b:Bool):(begin d b).2.2.Ok:=by
 unfold Disk.begin;repeat' split
 all_goals first|exact h|exact h.tick
theorem begin_st (d:Dk) (b:Bool):(begin d b).2.2.st=d.st/\(begin d b).2.2.ca=d.ca:=by
 unfold Disk.begin;repeat' split
 all_goals exact⟨rfl,rfl⟩
theorem Dk.Ok.read {d:Dk} (h:d.Ok) (i:Int):(read d i).2.2.Ok:=by
 have hb:=h.begin (fits d i)
 unfold Disk.read;split
 ·rename_i e;rw [e] at hb;exact hb.cut
 ·rename_i e;rw [e] at hb;split <;> exact hb
theorem Dk.Ok.write {d:Dk} (h:d.Ok) (i:Int) (x:List UInt8):(write d i x).2.Ok:=by
 have hb:=h.begin (fits d i && decide (x.length=64))
 have hx:∀ e,(Disk.begin d (fits d i && decide (x.length=64))).2.1=e->e=0->x.length=64:=by
  intro e h1 h2
  by_cases hx:x.length=64
  ·exact hx
  ·subst h2
   unfold Disk.begin at h1
   rw [decide_eq_false hx,Bool.and_false] at h1
   by_cases ho:d.off=true
   ·rw [if_pos ho] at h1;cases h1
   ·rw [if_neg ho] at h1;simp at h1
 have h3:∀ r,Disk.begin d (fits d i && decide (x.length=64))=(true,r)->x.length=64:=by
  intro r h1
  by_cases hx:x.length=64
  ·exact hx
  ·unfold Disk.begin at h1
   rw [decide_eq_false hx,Bool.and_false] at h1
   by_cases ho:d.off=true
   ·rw [if_pos ho] at h1;cases h1
   ·rw [if_neg ho] at h1;simp at h1
 unfold Disk.write;split
 ·rename_i e;rw [e] at hb;exact (hb.put _ _ (h3 _ e)).cut
 ·rename_i e;rw [e] at hb hx;split
  ·rename_i e2;exact hb.put _ _ (hx _ rfl e2)
  ·exact hb
theorem Dk.Ok.sync {d:Dk} (h:d.Ok):(sync d).2.Ok:=by
 have hb:=h.begin true
 unfold Disk.sync;split
 ·rename_i e;rw [e] at hb;exact hb.cut
 ·rename_i e;rw [e] at hb;split
  ·exact hb.flush
  ·exact hb
theorem zo_x (d:Dk) (k:Int × Int):(tear d k).ca=d.ca/\(tear d k).st.length=d.st.length:=by
 unfold tear;split
 ·split <;> simp
 ·exact⟨rfl,rfl⟩
theorem Dk.Ok.tear {d:Dk} (h:d.Ok) (k:Int × Int):(tear d k).Ok:=by
 obtain⟨h1,h2⟩:=zo_x d k
 refine⟨by rw [h1,h2];exact h.len,by rw [h2];exact h.pos,by rw [h2];exact h.max,fun x hx=>?_,fun x hx=>h.ca64 x (by rw [h1] at hx;exact hx)⟩
 unfold Disk.tear at hx
 split at hx
 ·split at hx
  ·rename_i y hy
   rcases List.mem_or_eq_of_mem_set hx with h3|h3
   ·exact h.st64 x h3
   ·have hk:k.1.toNat < d.st.length:=by rw [<-h.len];exact (List.getElem?_eq_some_iff.1 hy).1
    have h4:=h.ca64 y (List.mem_of_getElem? hy)
    have h5:=h.st64 _ (List.getElem_mem hk)
    rw [h3,List.getElem?_eq_getElem hk,Option.getD_some,List.length_append,List.length_take,List.length_drop]
    omega
  ·exact h.st64 x hx
 ·exact h.st64 x hx
theorem Dk.Ok.tears {d:Dk} (h:d.Ok) (ks:List (Int × Int)):(ks.foldl Disk.tear d).Ok/\(ks.foldl Disk.tear d).ca=d.ca/\(ks.foldl Disk.tear d).st.length=d.st.length:=by
 induction ks generalizing d with
|nil=>exact⟨h,rfl,rfl⟩
|cons k ks ih =>
  obtain⟨h1,h2,h3⟩:=ih (h.tear k)
  obtain⟨h4,h5⟩:=zo_x d k
  exact⟨h1,h2.trans h4,h3.trans h5⟩
theorem Dk.Ok.restart {d:Dk} (h:d.Ok) (ks:List (Int × Int)):(restart d ks).Ok:=by
 obtain⟨h1,h2,h3⟩:=h.tears ks
 exact⟨by simp [Disk.restart,h3,h.len],by simpa [Disk.restart,h3] using h.pos,by simpa [Disk.restart,h3] using h.max,h1.st64,fun x hx=>by simp [Disk.restart] at hx⟩
theorem new_ok (n:Nat) (h1:1<=n) (h2:n<=4096):(new n).Ok :=
 ⟨by simp [new],by simpa [new] using h1,by simpa [new] using h2,fun x hx=>by simp [new] at hx;simp [hx.2],fun x hx=>by simp [new] at hx⟩
theorem new_flat (n:Nat):(new n).st.flatten=List.replicate (64 * n) 0:=by
 induction n with
|zero=>rfl
|succ n ih =>
  have e:(new (n+1)).st=List.replicate 64 0 :: (new n).st:=rfl
  rw [e,List.flatten_cons,ih,List.replicate_append_replicate];congr 1;omega
end Disk
end
section
namespace Extent
open Disk (Dk)
def pos (off e k:Nat):Nat:=max off (min e (64 * (off / 64+k)))
def cnt (off e:Nat):Nat:=if off < e then (e+63) / 64 - off / 64 else 0
def step (e p:Nat):Nat:=min (64 - p % 64) (e - p)
theorem pos_zero (off e:Nat):pos off e 0=off:=by unfold pos;omega
theorem pos_lt (off e k:Nat) (h:off<=e):pos off e k < e ↔ k < cnt off e:=by unfold pos cnt;split <;> omega
theorem pos_le (off e k:Nat) (h:off<=e):pos off e k<=e:=by unfold pos;omega
theorem pos_ge (off e k:Nat):off<=pos off e k:=by unfold pos;omega
theorem pos_succ (off e k:Nat) (h:k < cnt off e):pos off e (k+1)=pos off e k+step e (pos off e k):=by
 unfold cnt at h;split at h
 ·unfold step pos;omega
 ·omega
theorem pos_cnt (off e:Nat) (h:off<=e):pos off e (cnt off e)=e:=by
 have h1:=pos_lt off e (cnt off e) h
 have h2:=pos_le off e (cnt off e) h
 omega
theorem step_pos {e p:Nat} (h:p < e):1<=step e p/\step e p<=64/\p % 64+step e p<=64/\p+step e p<=e:=by unfold step;omega
def rd (first off e:Nat):Nat->Nat->List UInt8->Dk->List UInt8 × Int × Dk
|0,_,acc,d=>(acc,0,d)
|m+1,k,acc,d =>
  match Disk.read d ((first+pos off e k / 64:Nat):Int) with
 |(b,z,d')=>if z=0 then rd first off e m (k+1) (acc ++ (b.drop (pos off e k % 64)).take (step e (pos off e k))) d' else ([],z,d')
def wr (first off e:Nat):Nat->Nat->List UInt8->Dk->Int × Dk
|0,_,_,d=>(0,d)
|m+1,k,data,d =>
  if step e (pos off e k) < 64 then
   match Disk.read d ((first+pos off e k / 64:Nat):Int) with
  |(b,z,d1) =>
    if z=0 then
     match Disk.write d1 ((first+pos off e k / 64:Nat):Int) (b.take (pos off e k % 64) ++ data.take (step e (pos off e k)) ++ b.drop (pos off e k % 64+step e (pos off e k))) with
    |(z2,d2)=>if z2=0 then wr first off e m (k+1) (data.drop (step e (pos off e k))) d2 else (z2,d2)
    else (z,d1)
  else
   match Disk.write d ((first+pos off e k / 64:Nat):Int) (data.take (step e (pos off e k))) with
  |(z2,d2)=>if z2=0 then wr first off e m (k+1) (data.drop (step e (pos off e k))) d2 else (z2,d2)
def valid (n:Nat) (first count:Int):Bool:=decide (0<=first) && (decide (1<=count) && (decide (count<=(n:Int)) && decide (first<=(n:Int) - count)))
def size (count:Int):Int:=if count < 0\/4096 < count then 0 else count * 64
def check (n:Nat) (first count off len:Int):Int :=
 if valid n first count then (if off < 0\/len < 0\/size count < off\/size count - off < len then 2 else 0) else 1
def read (d:Dk) (first count off len:Int):List UInt8 × Int × Dk :=
 if check d.st.length first count off len=0 then rd first.toNat off.toNat (off+len).toNat (cnt off.toNat (off+len).toNat) 0 [] d else ([],check d.st.length first count off len,d)
def write (d:Dk) (first count off:Int) (data:List UInt8):Int × Dk :=
 if check d.st.length first count off data.length=0 then wr first.toNat off.toNat (off+data.length).toNat (cnt off.toNat (off+data.length).toNat) 0 data d else (check d.st.length first count off data.length,d)
theorem check_ok {n:Nat} {first count off len:Int} (h:check n first count off len=0):0<=first/\1<=count/\count<=n/\first<=n - count/\0<=off/\0<=len/\off+len<=size count:=by
 unfold check at h
 split at h
 ·rename_i hv
  unfold valid at hv
  simp at hv
  split at h
  ·cases h
  ·omega
 ·cases h
end Extent
end
section
open Go.RowKit
open Go.MapKept (Stamped IsKey findNow_spec run_findKey run_checkKey run_keyThatStays stamped_push stamped_modify stamped_empty)
open Go.ChangeMaps (setBlock)
variable {w w':World} {R R':Nat->Prop} {ca:List (Option (List UInt8))} {b clock cnt m r:Nat} {done:Nat->Bool} {ops:Array Oper} {rest:List Oper} {o:Oper} {a:Act} {Q:Exit->Act->World->Prop}
def EntryIs (R:Nat->Prop) (w:World) (ca:List (Option (List UInt8))) (e:MapEntry):Prop :=
 ∃ (i:Nat) (x:List UInt8) (a:Addr) (c:Nat),ca[i]?=some (some x)/\e.key=.int .i64 (i:Int)/\e.val=.slice (some a) x.length c/\SlB w (some a) x.length c x/\R a.block/\x ≠ []
structure EsIs (R:Nat->Prop) (w:World) (ca:List (Option (List UInt8))) (es:Array MapEntry) (clock:Nat):Prop where
 stamped:Stamped es clock
 size:es.size=ca.countP (·.isSome)
 mem:∀ e ∈ es.toList,EntryIs R w ca e
 all:∀ (i:Nat) (x:List UInt8),ca[i]?=some (some x)->∃ e ∈ es.toList,e.key=.int .i64 (i:Int)
def MapIs (R:Nat->Prop) (w:World) (m:Nat) (ca:List (Option (List UInt8))):Prop :=
 ∃ es clock,w.heap[m]?=some (.map es clock)/\EsIs R w ca es clock
theorem EntryIs.stay {e:MapEntry} (h:EntryIs R w ca e) (k:∀ b,R b->b < w.heap.size->w'.heap[b]?=w.heap[b]?) (hz:w.heap.size<=w'.heap.size):EntryIs R w' ca e:=by
 obtain⟨i,x,a,c,h1,h2,h3,h4,h5,h6⟩:=h
 exact⟨i,x,a,c,h1,h2,h3,h4.stay (fun y hy _=>by cases hy;exact k _ h5 (h4.blt h6)) hz,h5,h6⟩
theorem EntryIs.mono {e:MapEntry} (h:EntryIs R w ca e) (k:∀ b,R b->R' b):EntryIs R' w ca e:=by
 obtain⟨i,x,a,c,h1,h2,h3,h4,h5,h6⟩:=h
 exact⟨i,x,a,c,h1,h2,h3,h4,k _ h5,h6⟩
theorem EsIs.stay {es:Array MapEntry} (h:EsIs R w ca es clock) (k:∀ b,R b->b < w.heap.size->w'.heap[b]?=w.heap[b]?) (hz:w.heap.size<=w'.heap.size):EsIs R w' ca es clock :=
 ⟨h.stamped,h.size,fun e he=>(h.mem e he).stay k hz,h.all⟩
theorem MapIs.lt (h:MapIs R w m ca):m < w.heap.size:=by
 obtain⟨es,clock,hb,-⟩:=h;exact za_a hb
theorem MapIs.stay (h:MapIs R w m ca) (k:∀ b,R b->b < w.heap.size->w'.heap[b]?=w.heap[b]?) (hm:w'.heap[m]?=w.heap[m]?) (hz:w.heap.size<=w'.heap.size):MapIs R w' m ca:=by
 obtain⟨es,clock,hb,hE⟩:=h
 exact⟨es,clock,hm.trans hb,hE.stay k hz⟩
theorem MapIs.mono (h:MapIs R w m ca) (k:∀ b,R b->R' b):MapIs R' w m ca:=by
 obtain⟨es,clock,hb,hE⟩:=h
 exact⟨es,clock,hb,hE.stamped,hE.size,fun e he=>(hE.mem e he).mono k,hE.all⟩
theorem zk_w {es:Array MapEntry} (h:EsIs R w ca es clock):∀ x ∈ es.toList,IsKey (.int .i64) x.key:=by
 intro x hx
 obtain⟨i,y,a,c,-,h2,-⟩:=h.mem x hx
 rw [h2];rfl
theorem MapIs.look (h:MapIs R w m ca) (z:Int) :
 (∃ (i:Nat) (x:List UInt8) (a:Addr) (c:Nat),z=i/\ca[i]?=some (some x)/\SlB w (some a) x.length c x/\R a.block/\x ≠ []/\∀ W:World,W.heap=w.heap->(Instr.lookup 85 (.map (some m)) (z:Value) true).run Tryz.prog W=.ok (.tuple #[.slice (some a) x.length c,.bool true]) W) ∨
 ((∀ i:Nat,z=i->ca[i]?.getD none=none)/\∀ W:World,W.heap=w.heap->(Instr.lookup 85 (.map (some m)) (z:Value) true).run Tryz.prog W=.ok (.tuple #[.slice none 0 0,.bool false]) W):=by
 obtain⟨es,clock,hb,hE⟩:=h
 have hk:IsKey (.int .i64) (z:Value):=rfl
 have hu:=Tryz.underlying85
 have hd:=Tryz.underlying3
 have hz:=fun w=>Tryz.zeroValue70 w
 rcases findNow_spec hk es.toList 0 (zk_w hE) with⟨h1,h2⟩|⟨j,e,h1,h2,h3⟩
 ·refine .inr ⟨fun i hi=>?_,?_⟩
  ·subst hi
   cases hc:ca[i]? with
  |none=>rfl
  |some o =>
    cases o with
   |none=>rfl
   |some x =>
     obtain⟨e,he,hek⟩:=hE.all i x hc
     exact absurd hek (h2 e he)
  ·intro W hW
   rw [<-hW] at hb
   simp [Instr.lookup,run_underlying hu,MapKept.run_getObj_map hb,run_checkKey hd hk,run_findKey hd h1,hz,Result.andThen]
 ·obtain⟨i,x,a,c,q1,q2,q3,q4,q5,q6⟩:=hE.mem e (List.mem_of_getElem? h2)
  have hzi:z=i:=by rw [h3] at q2;injection q2
  refine .inl ⟨i,x,a,c,hzi,q1,q4,q5,q6,fun W hW=>?_⟩
  rw [<-hW] at hb
  simp [Instr.lookup,run_underlying hu,MapKept.run_getObj_map hb,run_checkKey hd hk,run_findKey hd h1,Result.andThen,q3]
theorem zb_n {o o':Obj} (h:w.heap[b]?=some o):(setBlock w b o').heap[b]?=some o':=(MapKept.heap_set h).1
theorem za_l (w:World) (o':Obj) {k:Nat} (hk:k ≠ b):(setBlock w b o').heap[k]?=w.heap[k]?:=by
 show (w.heap.setIfInBounds b o')[k]?=_
 simp [Ne.symm hk]
theorem za_s (w:World) (b:Nat) (o':Obj):(setBlock w b o').heap.size=w.heap.size:=by
 show (w.heap.setIfInBounds b o').size=_
 simp
theorem Upd.setBlock {F F':Nat->Prop} {w1:World} (h:Upd F w F' w1) {g:Nat} (hg:F g\/w.heap.size<=g) (o:Obj):Upd F w F' (setBlock w1 g o) where
 os:=h.os
 tape:=h.tape
 output:=h.output
 size:=by rw [za_s];exact h.size
 block k hk hF:=(za_l _ _ (fun e=>by subst e;rcases hg with e1|e1;exact hF e1;omega)).trans (h.block k hk hF)
 new:=h.new
set_option maxRecDepth 100000 in
theorem zn_a {es:Array MapEntry} (h:EsIs R w ca es clock) (i:Nat) (hi:i < ca.length) (x:List UInt8) (a:Addr) (c:Nat)
 (hs:SlB w (some a) x.length c x) (hR:R a.block) (hx:x ≠ []) {m:Nat} (hb:w.heap[m]?=some (.map es clock)) :
 ∃ es' clock',(Instr.mapUpdate 85 (.map (some m)) (i:Value) (.slice (some a) x.length c)).run Tryz.prog w=.ok () (setBlock w m (.map es' clock'))/\EsIs R w (ca.set i (some x)) es' clock':=by
 have hk:IsKey (.int .i64) (i:Value):=rfl
 have hu:=Tryz.underlying85
 have hd:=Tryz.underlying3
 have hold:∀ e,EntryIs R w ca e->e.key ≠ .int .i64 (i:Int)->EntryIs R w (ca.set i (some x)) e:=by
  rintro e ⟨j,y,b,d,q1,q2,q3,q4,q5,q6⟩ hne
  refine⟨j,y,b,d,?_,q2,q3,q4,q5,q6⟩
  rw [List.getElem?_set_ne (fun e=>hne (by rw [q2,e]))];exact q1
 have hnew:∀ born,EntryIs R w (ca.set i (some x)) ⟨.int .i64 (i:Int),.slice (some a) x.length c,born⟩:=fun born =>
  ⟨i,x,a,c,by rw [List.getElem?_set_self hi],rfl,rfl,hs,hR,hx⟩
 have hall:∀ (es':Array MapEntry),(∃ e ∈ es'.toList,e.key=.int .i64 (i:Int))->(∀ e ∈ es.toList,e.key ≠ .int .i64 (i:Int)->e ∈ es'.toList)->∀ (k:Nat) (y:List UInt8),(ca.set i (some x))[k]?=some (some y)->∃ e ∈ es'.toList,e.key=.int .i64 (k:Int):=by
  intro es' h1 h2 k y hy
  by_cases hki:i=k
  ·subst hki;exact h1
  ·rw [List.getElem?_set_ne hki] at hy
   obtain⟨e,he,hek⟩:=h.all k y hy
   exact⟨e,h2 e he (by rw [hek];intro e2;injection e2 with _ e3;omega),hek⟩
 rcases findNow_spec hk es.toList 0 (zk_w h) with⟨h1,h2⟩|⟨j,e,h1,h2,h3⟩
 ·refine⟨es.push ⟨.int .i64 (i:Int),.slice (some a) x.length c,clock⟩,clock+1,?_,stamped_push h.stamped h2,?_,?_,?_⟩
  ·simp [Instr.mapUpdate,run_underlying hu,MapKept.run_getObj_map hb,run_checkKey hd hk,run_findKey hd h1,MapKept.run_setObj_map _ hb,Result.andThen,setBlock]
  ·have hnone:ca[i]=none:=by
    cases hc:ca[i] with
   |none=>rfl
   |some y =>
     obtain⟨e,he,hek⟩:=h.all i y (by rw [List.getElem?_eq_getElem hi,hc])
     exact absurd hek (h2 e he)
   rw [Array.size_push,h.size,List.countP_set hi,hnone];simp
  ·intro e he
   simp only [Array.toList_push,List.mem_append,List.mem_singleton] at he
   rcases he with he|rfl
   ·exact hold e (h.mem e he) (h2 e he)
   ·exact hnew _
  ·refine hall _ ⟨⟨.int .i64 (i:Int),.slice (some a) x.length c,clock⟩,by simp,rfl⟩ (fun e he _=>?_)
   rw [Array.toList_push];exact List.mem_append_left _ he
 ·have hj:es[j]?=some e:=by simpa using h2
  have hjl:j < es.toList.length:=(List.getElem?_eq_some_iff.1 h2).1
  have hkeyf:∀ e',es[j]?=some e'->({ e' with key:=.int .i64 (i:Int),val:=.slice (some a) x.length c }:MapEntry).key=e'.key:=fun e' he'=>by rw [hj] at he';cases he';exact h3.symm
  have hlist:(es.modify j (fun e'=>{ e' with key:=.int .i64 (i:Int),val:=.slice (some a) x.length c })).toList=es.toList.set j { e with key:=.int .i64 (i:Int),val:=.slice (some a) x.length c }:=by rw [Array.toList_modify,ChangeMaps.modify_eq_set _ _ _ _ h2]
  refine⟨es.modify j (fun e'=>{ e' with key:=.int .i64 (i:Int),val:=.slice (some a) x.length c }),clock,?_,stamped_modify h.stamped _ _ (fun _ _=>rfl) (fun e' _ he'=>hkeyf e' he'),?_,?_,?_⟩
  ·simp [Instr.mapUpdate,run_underlying hu,MapKept.run_getObj_map hb,run_checkKey hd hk,run_findKey hd h1,hj,h3,run_keyThatStays hk,MapKept.run_setObj_map _ hb,Result.andThen,setBlock]
  ·obtain⟨k,y,b,d,q1,q2,-⟩:=h.mem e (List.mem_of_getElem? h2)
   have hki:k=i:=by rw [h3] at q2;injection q2 with _ e2;omega
   subst hki
   rw [List.getElem?_eq_getElem hi] at q1
   have q1':=Option.some.inj q1
   have hpos:0 < ca.countP (·.isSome):=List.countP_pos_iff.2 ⟨_,List.getElem_mem hi,by rw [q1'];rfl⟩
   rw [Array.size_modify,h.size,List.countP_set hi,q1'];simp;omega
  ·intro e' he'
   rw [hlist] at he'
   obtain⟨p,hp,ep⟩:=List.getElem_of_mem he'
   rw [List.getElem_set] at ep
   split at ep
   ·subst ep;exact hnew _
   ·rename_i hne
    have hp':p < es.toList.length:=by simpa using hp
    refine hold e' (h.mem e' (ep ▸ List.getElem_mem hp')) ?_
    intro ek
    have h5:=((MapKept.stamped_iff es clock).1 h.stamped).2.2
    have hpe:es.toList[p]=e':=ep
    have hje:es.toList[j]=e:=by rw [List.getElem?_eq_getElem hjl] at h2;exact Option.some.inj h2
    rcases Nat.lt_or_gt_of_ne hne with hlt|hlt
    ·exact List.pairwise_iff_getElem.1 h5 j p hjl hp' hlt (by rw [hpe,hje,ek,h3])
    ·exact List.pairwise_iff_getElem.1 h5 p j hp' hjl hlt (by rw [hpe,hje,ek,h3])
  ·refine hall _ ?_ ?_
   ·exact⟨{ e with key:=.int .i64 (i:Int),val:=.slice (some a) x.length c },by rw [hlist];exact List.mem_iff_getElem.2 ⟨j,by simpa using hjl,by simp⟩,rfl⟩
   ·intro e' he' hne
    rw [hlist]
    obtain⟨p,hp,ep⟩:=List.getElem_of_mem he'
    have hpj:j ≠ p:=by
     rintro rfl
     have hje:es.toList[j]=e:=by rw [List.getElem?_eq_getElem hjl] at h2;exact Option.some.inj h2
     exact hne (by rw [<-ep,hje,h3])
    exact List.mem_iff_getElem.2 ⟨p,by simpa using hp,by rw [List.getElem_set_ne hpj];exact ep⟩
theorem MapIs.update (h:MapIs R w m ca) (i:Nat) (hi:i < ca.length) (x:List UInt8) (a:Addr) (c:Nat) (hs:SlB w (some a) x.length c x) (hR:R a.block) (hx:x ≠ []) (hm:¬ R m) :
 ∃ o,(Instr.mapUpdate 85 (.map (some m)) (i:Value) (.slice (some a) x.length c)).run Tryz.prog w=.ok () (setBlock w m o)/\MapIs R (setBlock w m o) m (ca.set i (some x)):=by
 obtain⟨es,clock,hb,hE⟩:=h
 obtain⟨es',clock',hrun,hE'⟩:=zn_a hE i hi x a c hs hR hx hb
 exact⟨_,hrun,es',clock',zb_n hb,hE'.stay (fun b hb _=>za_l _ _ (fun e=>hm (e ▸ hb))) (by rw [za_s];exact zN _)⟩
theorem MapIs.clear (h:MapIs R w m ca) (ty:TypeId) :
 ∃ o,(Builtin.clear_ #[85] ty #[.map (some m)]).run Tryz.prog w=.ok (.tuple #[]) (setBlock w m o)/\∀ R' n,MapIs R' (setBlock w m o) m (List.replicate n none):=by
 obtain⟨es,clock,hb,hE⟩:=h
 have hu:=Tryz.underlying85
 refine⟨.map #[] clock,?_,fun R' n=>⟨#[],clock,zb_n hb,stamped_empty _,?_,?_,?_⟩⟩
 ·simp [Builtin.clear_,run_underlying hu,MapKept.run_getObj_map hb,MapKept.run_setObj_map _ hb,Result.andThen,setBlock]
 ·simp [List.countP_replicate]
 ·intro e he;simp at he
 ·intro i x hx
  rw [List.getElem?_replicate] at hx;split at hx <;> simp at hx
theorem MapIs.made (R:Nat->Prop) (w:World) (n:Nat):MapIs R (w.alloc (.map #[] 0)) w.heap.size (List.replicate n none) :=
 ⟨#[],0,(MapKept.heap_alloc w _).1,stamped_empty _,by simp [List.countP_replicate],fun e he=>by simp at he,fun i x hx=>by rw [List.getElem?_replicate] at hx;split at hx <;> simp at hx⟩
theorem ze_q (hgd:o.guard=none) (x:Operand)
 (ho:o.op=.call { callee:=.builtin .clear,args:=#[x],argTypes:=#[85] }) {m:Nat} {ca:List (Option (List UInt8))} (hx:a.eval x=.map (some m)) (h:MapIs R w m ca)
 (hK:∀ o',(∀ R' n,MapIs R' (setBlock w m o') m (List.replicate n none))->wpList Tryz.prog ops Q rest (a.put o.dst (.tuple #[])) (setBlock w m o')):wpList Tryz.prog ops Q (o :: rest) a w:=by
 refine wpList_plain hgd fun K hK'=>?_
 obtain⟨o',hrun,hM⟩:=h.clear o.type
 unfold Oper.wp
 simp [execOp,ho,resolve,invoke,builtin,hx,hrun,Result.andThen]
 exact hK' _ _ (hK o' hM)
def MRange (R:Nat->Prop) (w:World) (m r:Nat) (ca:List (Option (List UInt8))) (done:Nat->Bool) (cnt:Nat):Prop :=
 ∃ es clock since seen c0,w.heap[m]?=some (.map es clock)/\EsIs R w ca es clock/\w.heap[r]?=some (.mapIter (some m) since seen c0)/\(∀ x ∈ es.toList,x.born < since)/\(leftOf es seen).size=cnt/\since<=c0/\since<=clock ∧
  ∀ e ∈ es.toList,∀ i:Nat,e.key=.int .i64 (i:Int)->done i=seen.contains e.born
theorem MRange.map (h:MRange R w m r ca done cnt):MapIs R w m ca:=by
 obtain⟨es,clock,_,_,_,hb,hE,_⟩:=h;exact⟨es,clock,hb,hE⟩
theorem MRange.ne (h:MRange R w m r ca done cnt):r ≠ m:=by
 obtain⟨es,clock,since,seen,c0,hb,_,hr,_⟩:=h
 intro e;rw [e,hb] at hr;cases hr
theorem MRange.lt (h:MRange R w m r ca done cnt):r < w.heap.size:=by
 obtain⟨es,clock,since,seen,c0,hb,_,hr,_⟩:=h;exact za_a hr
theorem MRange.stay (h:MRange R w m r ca done cnt) (k:∀ b,R b->b < w.heap.size->w'.heap[b]?=w.heap[b]?) (hm:w'.heap[m]?=w.heap[m]?) (hr:w'.heap[r]?=w.heap[r]?) (hz:w.heap.size<=w'.heap.size):MRange R w' m r ca done cnt:=by
 obtain⟨es,clock,since,seen,c0,hb,hE,h2,rest⟩:=h
 exact⟨es,clock,since,seen,c0,hm.trans hb,hE.stay k hz,hr.trans h2,rest⟩
theorem MRange.left_eq (h:MRange R w m r ca done cnt):w.rangeLeft m r=cnt:=by
 obtain⟨es,clock,since,seen,c0,hb,_,hr,_,hc,_⟩:=h
 simp only [World.rangeLeft,hb,hr]
 exact hc
theorem zd_s (hgd:o.guard=none) (p:Operand)
 (ho:o.op=Op.range 85 p) {m:Nat} {ca:List (Option (List UInt8))} (hp:a.eval p=.map (some m)) (h:MapIs R w m ca) (hR:∀ b,R b->b < w.heap.size)
 (hK:∀ o' cnt,MRange R (w.alloc o') m w.heap.size ca (fun _=>false) cnt->wpList Tryz.prog ops Q rest (a.put o.dst (.pointer w.heap.size)) (w.alloc o')):wpList Tryz.prog ops Q (o :: rest) a w:=by
 have hlt:=h.lt
 obtain⟨es,clock,hb,hE⟩:=h
 have hrun:=run_range_map (P:=Tryz.prog) w _ _ _ m es clock Tryz.underlying85 hb
 have hM:MRange R (w.alloc (.mapIter (some m) clock #[] clock)) m w.heap.size ca (fun _=>false) (leftOf es #[]).size :=
  ⟨es,clock,clock,#[],clock,((MapKept.heap_alloc w _).2 m hlt).trans hb,hE.stay (fun b hb' _=>(MapKept.heap_alloc w _).2 b (hR b hb')) (by simp),(MapKept.heap_alloc w _).1,hE.stamped.1,rfl,zN _,zN _,fun e _ i _=>by simp⟩
 refine wpList_plain hgd fun K hK'=>?_
 unfold Oper.wp
 simp [execOp,ho,hp,hrun,Result.andThen]
 exact hK' _ _ (hK _ _ hM)
theorem ze_i (hgd:o.guard=none) (p:Operand)
 (ho:o.op=Op.next p false) {m r:Nat} {ca:List (Option (List UInt8))} {done:Nat->Bool} {cnt:Nat} (hp:a.eval p=.pointer r) (h:MRange R w m r ca done cnt) (hR:∀ b,R b->b ≠ r)
 (hDone:(∀ (i:Nat) (x:List UInt8),ca[i]?=some (some x)->done i=true)->wpList Tryz.prog ops Q rest (a.put o.dst (.tuple #[.bool false])) w)
 (hMore:∀ (i:Nat) (x:List UInt8) (b:Addr) (c:Nat) (w1:World) (o':Obj) (cnt':Nat),ca[i]?=some (some x)->i < ca.length->done i=false->(w1=w\/w1=w.drew)->SlB (setBlock w1 r o') (some b) x.length c x->R b.block →
  MRange R (setBlock w1 r o') m r ca (fun k=>done k || k == i) cnt'->cnt' < cnt->(Instr.entry (.pointer r)).run Tryz.prog (setBlock w1 r o')=.ok (.tuple #[i,.slice (some b) x.length c]) (setBlock w1 r o') →
  wpList Tryz.prog ops Q rest (a.put o.dst (.tuple #[.bool true,i,.slice (some b) x.length c])) (setBlock w1 r o')):wpList Tryz.prog ops Q (o :: rest) a w:=by
 have hne:=h.ne
 obtain⟨es,clock,since,seen,c0,hb,hE,hr,hold,hcnt,hsc,hsk,hdn⟩:=h
 refine wpList_plain hgd fun K hK'=>?_
 unfold Oper.wp
 have hst:=(MapKept.stamped_iff es clock).1 hE.stamped
 rcases run_next_at (P:=Tryz.prog) w o.type r m since c0 seen es clock hr hb hold hsc with⟨h0,hrun⟩|⟨e,he,w1,hal,hrun⟩
 ·simp [execOp,ho,hp,hrun,Result.andThen]
  refine hK' _ _ (hDone fun i x hx=>?_)
  obtain⟨e,he,hek⟩:=hE.all i x hx
  rw [hdn e he i hek]
  exact all_seen es seen h0 e he
 ·have hem:e ∈ es.toList/\seen.contains e.born=false:=by
   unfold leftOf at he
   simp at he
   exact⟨by simpa using he.1,by simpa using he.2⟩
  obtain⟨i,x,b,c,q1,q2,q3,q4,q5,q6⟩:=hE.mem e hem.1
  have hr1:w1.heap[r]?=some (.mapIter (some m) since seen c0):=by rcases hal with rfl|rfl <;> exact hr
  have hb1:w1.heap[m]?=some (.map es clock):=by rcases hal with rfl|rfl <;> exact hb
  have hz1:w.heap.size<=w1.heap.size:=by rcases hal with rfl|rfl <;> exact zN _
  have hkeep:∀ k,R k->k < w.heap.size->(setBlock w1 r (.mapIter (some m) since (seen.push e.born) clock)).heap[k]?=w.heap[k]?:=fun k hk _=>(za_l _ _ (hR k hk)).trans (by rcases hal with rfl|rfl <;> rfl)
  have hsz:w.heap.size<=(setBlock w1 r (.mapIter (some m) since (seen.push e.born) clock)).heap.size:=by rw [za_s];exact hz1
  have hb2:(setBlock w1 r (.mapIter (some m) since (seen.push e.born) clock)).heap[m]?=some (.map es clock):=(za_l _ _ (Ne.symm hne)).trans hb1
  have hen:=run_entry_at (P:=Tryz.prog) (setBlock w1 r (.mapIter (some m) since (seen.push e.born) clock)) r m since seen es clock e (zb_n hr1) hb2 hem.1 hst.2.1
  rw [q2,q3] at hen hrun
  simp [execOp,ho,hp,hrun,Result.andThen]
  refine hK' _ _ (hMore i x b c w1 _ (leftOf es (seen.push e.born)).size q1 (List.getElem?_eq_some_iff.1 q1).1 ?_ hal (q4.stay (fun y hy _=>by cases hy;exact hkeep _ q5 (q4.blt q6)) hsz) q5 ?_ ?_ hen)
  ·rw [hdn e hem.1 i q2];exact hem.2
  ·refine⟨es,clock,since,seen.push e.born,clock,hb2,hE.stay hkeep hsz,zb_n hr1,hold,rfl,hsk,hsk,fun e' he' k hk=>?_⟩
   show (done k || k == i)=_
   rw [hdn e' he' k hk]
   have:(k == i)=(e'.born == e.born):=by
    by_cases hbe:e'.born=e.born
    ·have:=born_inj hst.2.1 he' hem.1 hbe
     subst this
     rw [q2] at hk;injection hk with _ hk
     simp;omega
    ·have h1:(e'.born == e.born)=false:=by simp [hbe]
     rw [h1]
     apply beq_eq_false_iff_ne.2
     rintro rfl
     exact hbe (congrArg MapEntry.born (entry_eq_of_key hst.2.2 he' hem.1 (by rw [hk,q2])))
   rw [this,contains_push]
  ·rw [<-hcnt];exact left_shrinks es seen e he
end
section
open Go.RowKit
variable {w:World}
theorem zc_a {ops:Array Oper} {rest:List Oper} {o:Oper} {a:Act} {Q:Exit->Act->World->Prop} (hgd:o.guard=none) (d s:Operand)
 (ho:o.op=.call { callee:=.builtin .copy,args:=#[d,s],argTypes:=#[70,70] })
 (g off dLen dCap:Nat) (sp:Option Addr) (sLen sCap:Nat) (l2:List UInt8) (hd:a.eval d=.slice (g off) dLen dCap) (hs:a.eval s=.slice sp sLen sCap)
 (t:TypeId) (l:List UInt8) (hr:RowIs w g t l) (hsl:SlB w sp sLen sCap l2) (hfit:off+min sLen dLen<=l.length)
 (h:∀ w',RowIs w' g t (l.take off ++ l2.take dLen ++ l.drop (off+min sLen dLen))->But g w w'->wpList Tryz.prog ops Q rest (a.put o.dst (goInt (min sLen dLen:Nat))) w'):wpList Tryz.prog ops Q (o :: rest) a w:=by
 have hsz:(Tryz.prog.info? 5).map (·.size)=some 1:=by kernel_rfl
 have hl2:=hsl.len
 by_cases h0:min sLen dLen=0
 ·refine wpList_copy_nothing hgd d s _ _ ho 5 Tryz.underlying70 hsz _ sp dLen dCap sLen sCap hd hs h0 ?_
  rw [h0] at h
  refine h w ?_ (But.refl _ _)
  have:l2.take dLen=[]:=List.eq_nil_of_length_eq_zero (by rw [List.length_take];omega)
  rw [this];simpa using hr
 ·cases sp with
 |none=>have:=(hsl.2.2.2.1 rfl).1;subst this;simp at hl2;omega
 |some ad =>
   have hcl:((l2.take dLen).map bv).length=min sLen dLen:=by rw [List.length_map,List.length_take];omega
   refine wpList_copy_own hgd d s _ _ ho 5 Tryz.underlying70 hsz g off dLen dCap ad sLen sCap hd hs (l.map bv).toArray t hr ((l2.take dLen).map bv) hcl ?_ ?_ ?_ ?_
   ·intro j v hj
    have hj':j < min sLen dLen:=by rw [<-hcl];exact (List.getElem?_eq_some_iff.1 hj).1
    obtain⟨hsp,hb,hc⟩:=hsl.2.2.2.2 ad rfl j (by omega)
    have hadd:ad.add j=(ad.block (ad.off+j)):=by
     obtain⟨b,o,sp⟩:=ad;simp only at hsp;subst hsp;unfold Addr.add;split <;> simp_all
    rw [hadd,hc,<-hj]
    simp [bv,show j < dLen by omega,show j < l2.length by omega]
   ·rw [hcl];simpa using hfit
   ·intro v hv
    obtain⟨b,_,rfl⟩:=List.mem_map.1 hv;rfl
   ·rw [hcl]
    refine h _ ?_ ((But.refl _ _).setRow _)
    unfold RowIs
    rw [setRow_heap w g _ _ t _ hr]
    simp [List.map_take,List.map_drop]
theorem OwnB.isRow {base:Nat} {g n:Nat} {l:List UInt8} (h:OwnB base w (.slice g n n) l):base<=g/\RowIs w g 5 l:=by
 rcases h.2 with⟨hv,_⟩|⟨g',cap,cur,hv,hb,hc,hnc,hcm,hcs,ht⟩
 ·cases hv
 ·injection hv with e1 e2 e3
  cases e1
  subst e2;subst e3
  refine⟨hb,?_⟩
  unfold RowIs
  rw [hc,<-ht,List.take_of_length_le (by simp;omega)]
end
section
open Go.RowKit
variable {i n:Nat} {ops:Array Oper} {l:Array Bool} {dst:Option Nat} {deps:List Nat} {P:Program} {Q:Exit->Act->World->Prop} {a:Act} {w:World}
theorem zf_h {md:Region.Mode} (h:i ∈ Region.ready md ops l):i < ops.size/\l.getD i true=false:=by
 unfold Region.ready at h
 obtain⟨h1,h2⟩:=List.mem_filter.1 h
 simp only [Bool.and_eq_true] at h2
 exact⟨List.mem_range.1 h1,by have:=h2.1;simpa using this⟩
theorem zi_i (h:l.getD i true=false) (hi:i < l.size):0 < l.toList.countP (fun b=>b == false):=by
 refine List.countP_pos_iff.2 ⟨l[i],by simp,?_⟩
 have:l.getD i true=l[i]:=by simp [hi]
 rw [<-this,h];rfl
theorem zn_p (h:l.getD i true=false) (hi:i < l.size):(l.setIfInBounds i true).toList.countP (fun b=>b == false)+1=l.toList.countP (fun b=>b == false):=by
 have h1:=zi_i h hi
 have hli:l.toList[i]'(by simpa using hi)=false:=by
  have:l.getD i true=l[i]:=by simp [hi]
  rw [<-h,this];simp
 rw [Array.toList_setIfInBounds,List.countP_set (by simpa using hi),hli]
 have e:(true == false)=false:=rfl
 simp only [beq_self_eq_true,if_true,e,Bool.false_eq_true,if_false]
 omega
theorem zk_m {F:Fence} (Inv:Array Bool->Act->World->Prop) (hsz:∀ l a W,Inv l a W->l.size=ops.size)
 (hdone:∀ l a W,Inv l a W->Region.ready .any ops l=[]->Q .normal a W)
 (hstep:∀ l a W i,Inv l a W->i ∈ Region.ready .any ops l->∀ K':Act->World->Prop,(∀ a' W',Inv (l.setIfInBounds i true) a' W'->K' a' W')->wpOpIn F n P ops Q i K' a W) :
 ∀ (fuel:Nat) (l:Array Bool) (a:Act) (W:World),Inv l a W->l.toList.countP (fun b=>b == false)<=fuel->wpAnyIn F n P .any ops Q fuel l a W:=by
 intro fuel
 induction fuel with
|zero =>
  intro l a W hi hc
  have hr:Region.ready .any ops l=[]:=by
   cases hrd:Region.ready .any ops l with
  |nil=>rfl
  |cons i r =>
    have hm:i ∈ Region.ready .any ops l:=by rw [hrd];exact List.mem_cons_self
    obtain⟨h1,h2⟩:=zf_h hm
    have:=zi_i h2 (by rw [hsz l a W hi];exact h1)
    omega
  exact⟨hr,hdone l a W hi hr⟩
|succ fuel ih =>
  intro l a W hi hc
  refine⟨fun hr=>hdone l a W hi hr,fun i hm=>?_⟩
  obtain⟨h1,h2⟩:=zf_h hm
  have h3:=zn_p h2 (by rw [hsz l a W hi];exact h1)
  exact hstep l a W i hi hm _ (fun a' W' hi'=>ih _ a' W' hi' (by omega))
theorem zq_h (a:Act) (d:Nat) (v:Value) (k:Nat) (hd:d < a.tmps.size):(a.put (some d) v).tmps.getD k undef=if k=d then v else a.tmps.getD k undef:=by
 show (a.tmps.setIfInBounds d v).getD k undef=_
 by_cases h:k=d
 ·subst h;simp [hd]
 ·simp [Ne.symm h,h]
theorem zq_i (a:Act) (d:Nat) (v:Value):(a.put (some d) v).tmps.size=a.tmps.size:=by
 show (a.tmps.setIfInBounds d v).size=_
 simp
theorem zm_o (l:Array Bool) (i j:Nat) (d:Bool) (hi:i < l.size):(l.setIfInBounds i true).getD j d=if j=i then true else l.getD j d:=by
 by_cases h:j=i
 ·subst h;simp [hi]
 ·simp [Ne.symm h,h]
structure OpIs (ops:Array Oper) (i:Nat) (op:Op) (dst:Option Nat) (deps:List Nat):Prop where
 ex:∃ o,ops[i]?=some o/\o.op=op/\o.guard=none/\o.dst=dst/\o.after.toList.map (fun e=>(e.on,Region.binds .any e))=deps.map (fun j=>(j,true))
theorem OpIs.dep {op:Op} (h:OpIs ops i op dst deps) (hm:i ∈ Region.ready .any ops l) {j:Nat} (hj:j ∈ deps):l.getD j false=true:=by
 obtain⟨o,h1,h2,h3,h4,h5⟩:=h.ex
 unfold Region.ready at hm
 obtain⟨_,hm⟩:=List.mem_filter.1 hm
 simp only [Bool.and_eq_true,h1,Option.map_some,Option.getD_some,Array.all_eq_true_iff_forall_mem] at hm
 have:(j,true) ∈ o.after.toList.map (fun e=>(e.on,Region.binds .any e)):=by rw [h5];exact List.mem_map.2 ⟨j,hj,rfl⟩
 obtain⟨e,he,h6⟩:=List.mem_map.1 this
 have h7:=hm.2 e (by simpa using he)
 injection h6 with h8 h9
 rw [h9,h8] at h7
 simpa using h7
theorem OpIs.listed {op:Op} (h:OpIs ops i op dst deps) (hr:Region.ready .any ops l=[]) (hd:∀ j ∈ deps,l.getD j false=true) (hi:i < ops.size):l.getD i true=true:=by
 obtain⟨o,h1,h2,h3,h4,h5⟩:=h.ex
 cases hl:l.getD i true with
|true=>rfl
|false =>
  exfalso
  have:i ∈ Region.ready .any ops l:=by
   unfold Region.ready
   refine List.mem_filter.2 ⟨List.mem_range.2 hi,?_⟩
   simp only [Bool.and_eq_true,h1,Option.map_some,Option.getD_some,Array.all_eq_true_iff_forall_mem]
   refine⟨by rw [hl];rfl,fun e he=>?_⟩
   have h6:(e.on,Region.binds .any e) ∈ deps.map (fun j=>(j,true)):=by rw [<-h5];exact List.mem_map.2 ⟨e,by simpa using he,rfl⟩
   obtain⟨j,hj,h7⟩:=List.mem_map.1 h6
   injection h7 with h8 h9
   rw [<-h8,hd j hj];simp
  rw [hr] at this;cases this
theorem OpIs.value {F:Fence} {op:Op} (h:OpIs ops i op dst deps) (hd:∀ c,op ≠ .defer c)
 (hab:∀ o:Oper,o.op=op->o.about P w a.eval=none) {v:Value} {w':World} (hr:∀ o:Oper,o.op=op->(execOp a.eval o).run P w=.ok (.value v) w') {K:Act->World->Prop} (hK:K (a.put dst v) w'):wpOpIn F n P ops Q i K a w:=by
 obtain⟨o,h1,h2,h3,h4,h5⟩:=h.ex
 unfold wpOpIn
 rw [h1]
 simp only [Region.wanted,h3,if_true]
 unfold Oper.wpIn
 rw [Oper.semAt_plain F _ _ (by rw [h2];exact hd),hr o h2]
 refine⟨(fun f hf=>by rw [hab o h2] at hf;cases hf),?_⟩
 rw [Oper.uponIn_value,h4];exact hK
theorem OpIs.skip {F:Fence} {op:Op} (h:OpIs ops i op dst deps) (hd:∀ c,op ≠ .defer c)
 (hab:∀ o:Oper,o.op=op->o.about P w a.eval=none) {w':World} (hr:∀ o:Oper,o.op=op->(execOp a.eval o).run P w=.ok .skip w') {K:Act->World->Prop} (hK:K (a.put dst undef) w'):wpOpIn F n P ops Q i K a w:=by
 obtain⟨o,h1,h2,h3,h4,h5⟩:=h.ex
 unfold wpOpIn
 rw [h1]
 simp only [Region.wanted,h3,if_true]
 unfold Oper.wpIn
 rw [Oper.semAt_plain F _ _ (by rw [h2];exact hd),hr o h2]
 refine⟨(fun f hf=>by rw [hab o h2] at hf;cases hf),?_⟩
 rw [Oper.uponIn_skip,h4];exact hK
end
section
open Go.RowKit
variable {w:World} {ops:Array Oper} {rest:List Oper} {o:Oper} {a:Act} {Q:Exit->Act->World->Prop}
theorem zc_f (ty:TypeId) (base:Nat) (v:Value) (l:List UInt8) (hown:OwnB base w v l) (b:Option Addr) (m c:Nat) (l2:List UInt8) (hsl:SlB w b m c l2) (hlen:l.length+m<=140737488355328) (hbase:base<=w.heap.size) :
 ∃ v' w',(Builtin.append_ #[70,70] ty #[v,.slice b m c]).run Tryz.prog w=.ok v' w'/\OwnB base w' v' (l ++ l2)/\w.grownBy w' v.ownBlock:=by
 obtain⟨i0,hi,hz0,hz1,hz2⟩:=info_parts info5
 cases b with
|none =>
  obtain⟨rfl,rfl⟩:=hsl.2.2.2.1 rfl
  obtain rfl:m=0:=hsl.1.symm
  exact⟨v,w,run_append_owned_none (P:=Tryz.prog) (w:=w) base 70 ty 5 i0 1 Tryz.underlying70 hi v l.length _ hown,by simpa using hown,⟨rfl,rfl,rfl,zN _,fun _ _ _=>rfl⟩⟩
|some ad =>
  have hl2:=hsl.len
  obtain⟨v',w',hrun,h1,h2,_⟩:=run_append_own (P:=Tryz.prog) w base 70 ty 5 i0 (.int .u8 0) 1 1 Tryz.underlying70 hi hz0 hz1 hz2 rfl (by decide) v l.length _ hown ad m c (l2.map bv) (by simp [hl2]) (fun j u hj=>by
   have hjl:j < l2.length:=by
    have:=(List.getElem?_eq_some_iff.1 hj).1;simpa using this
   obtain⟨hsp,hb,this⟩:=hsl.2.2.2.2 ad rfl j hjl
   have hadd:ad.add j=(ad.block (ad.off+j)):=by
    obtain⟨b,o,sp⟩:=ad;simp only at hsp;subst hsp;unfold Addr.add;split <;> simp_all
   rw [hadd,this];rw [<-hj];simp [bv,hjl]) (fun u hu=>by obtain⟨b,_,rfl⟩:=List.mem_map.1 hu;rfl) (by unfold maxLen;omega) (by omega) hbase
  refine⟨v',w',hrun,?_,h2⟩
  unfold OwnB;rw [List.length_append,List.map_append,hl2];exact h1
theorem zk_f {α:Type} (L B:List α) (n off m:Nat) (hB:B.length=m) (h:off+m<=n) (hL:n<=L.length):(L.take off ++ B ++ L.drop (off+m)).take n=(L.take n).take off ++ B ++ (L.take n).drop (off+m):=by
 subst hB
 have e1:(L.take n).take off=L.take off:=by rw [List.take_take,Nat.min_eq_left (by omega)]
 have e2:(L.take off ++ B).length=off+B.length:=by rw [List.length_append,List.length_take];omega
 rw [e1,List.take_append,List.take_of_length_le (by omega),e2,List.drop_take]
theorem zh_i (ty:TypeId) {base g n c:Nat} {l:List UInt8} (h:OwnB base w (.slice g n c) l) (off dLen dCap:Nat) (sp:Option Addr) (sLen sCap:Nat) (l2:List UInt8) (hsl:SlB w sp sLen sCap l2) (hle:sLen=dLen) (hfit:off+dLen<=l.length) :
 ∃ w',(Builtin.copy_ #[70,70] ty #[.slice (g off) dLen dCap,.slice sp sLen sCap]).run Tryz.prog w=.ok (goInt dLen) w'/\OwnB base w' (.slice g n c) (l.take off ++ l2 ++ l.drop (off+dLen))/\But g w w':=by
 subst hle
 have hsz:(Tryz.prog.info? 5).map (·.size)=some 1:=by kernel_rfl
 have hl2:=hsl.len
 by_cases h0:sLen=0
 ·have hrun:=run_copy_none (P:=Tryz.prog) w 70 70 ty 5 (g off) sp sLen dCap sLen sCap Tryz.underlying70 hsz (by rw [h0];rfl)
  refine⟨w,by rw [hrun,h0];rfl,?_,But.refl _ _⟩
  have:l2=[]:=List.eq_nil_of_length_eq_zero (by omega)
  rw [this,h0];simpa using h
 ·cases sp with
 |none=>have:=(hsl.2.2.2.1 rfl).1;subst this;simp at hl2;omega
 |some ad =>
   have hn:n=l.length:=by obtain⟨a,c',e,-,-⟩:=h.sl;injection e
   subst hn
   rcases h.2 with⟨hv,_⟩|⟨g',cap,cur,hv,hb,hc,hnc,hcm,hcs,ht⟩
   ·cases hv
   ·injection hv with e1 e2 e3
    cases e1
    subst e3
    have hmin:Nat.min sLen sLen=sLen:=Nat.min_self _
    have hrun:=run_copy_row (P:=Tryz.prog) w 70 70 ty 5 g off sLen dCap ad sLen sCap cur 5 (l2.map bv) Tryz.underlying70 hsz hc (by rw [List.length_map,hl2,hmin]) (fun j v hj=>by
     have hj':j < l2.length:=by have:=(List.getElem?_eq_some_iff.1 hj).1;simpa using this
     obtain⟨hsp,hbl,hcc⟩:=hsl.2.2.2.2 ad rfl j hj'
     have hadd:ad.add j=(ad.block (ad.off+j)):=by
      obtain⟨b,o,sp⟩:=ad;simp only at hsp;subst hsp;unfold Addr.add;split <;> simp_all
     rw [hadd,hcc,<-hj];simp [bv,hj']) (by rw [List.length_map,hl2,hcs];omega) (fun v hv=>by obtain⟨b,_,rfl⟩:=List.mem_map.1 hv;rfl)
    refine⟨_,by rw [hrun,List.length_map,hl2],?_,(But.refl _ _).setRow _⟩
    have hnew:(w.setRow g (cur.toList.take off ++ l2.map bv ++ cur.toList.drop (off+sLen)).toArray).heap[g]?=some (.cells (cur.toList.take off ++ l2.map bv ++ cur.toList.drop (off+sLen)).toArray 5 (0,0)):=setRow_heap w g _ _ _ _ hc
    have hcl:cur.toList.length=c:=by simpa using hcs
    have hll:(l.take off ++ l2 ++ l.drop (off+sLen)).length=l.length:=by simp;omega
    refine⟨by rw [List.length_map];simp,.inr ⟨g,c,_,by rw [hll],hb,hnew,by rw [hll];exact hnc,hcm,?_,?_⟩⟩
    ·simp;omega
    ·rw [hll]
     rw [Nat.mul_one] at ht ⊢
     rw [zk_f cur.toList (l2.map bv) l.length off sLen (by rw [List.length_map,hl2]) hfit (by omega),ht]
     simp only [List.map_append,List.map_take,List.map_drop]
theorem zb_t {F:Fence} {n0:Nat} (hgd:o.guard=none) (d s:Operand)
 (ho:o.op=.call { callee:=.builtin .copy,args:=#[d,s],argTypes:=#[70,70] })
 {base g n c:Nat} {l:List UInt8} (h:OwnB base w (.slice g n c) l) (off dLen dCap:Nat) (sp:Option Addr) (sLen sCap:Nat) (l2:List UInt8) (hd:a.eval d=.slice (g off) dLen dCap) (hs:a.eval s=.slice sp sLen sCap) (hsl:SlB w sp sLen sCap l2) (hle:sLen=dLen) (hfit:off+dLen<=l.length)
 (hK:∀ w',OwnB base w' (.slice g n c) (l.take off ++ l2 ++ l.drop (off+dLen))->But g w w'->wpListIn F n0 Tryz.prog ops Q rest (a.put o.dst (goInt dLen)) w'):wpListIn F n0 Tryz.prog ops Q (o :: rest) a w:=by
 refine wpListIn_plain hgd fun K hK'=>?_
 obtain⟨w',hrun,r1,r2⟩:=zh_i o.type h off dLen dCap sp sLen sCap l2 hsl hle hfit
 unfold Oper.wpIn
 refine⟨?_,?_⟩
 ·simp [Oper.about,ho,resolve,Target.leads,Sem.run_pure]
 ·rw [Oper.semAt_plain F _ _ (by rw [ho];intro c hc';cases hc')]
  simp [execOp,ho,resolve,invoke,builtin,hd,hs,hrun,Result.andThen]
  exact hK' _ _ (hK w' r1 r2)
theorem zh_r (hg:o.guard=none) (l c:Operand) (hop:o.op=Op.makeSlice 70 l c)
 (base:Nat) (n:Nat) (C:Int) (hl:a.eval l=.int .i64 0) (hc:a.eval c=.int .i64 C) (hC:C=(n:Int)) (b2:n<=281474976710656) (b4:base<=w.heap.size)
 (hK:∀ v w',OwnB base w' v []->Below w.heap.size w w'->wpList Tryz.prog ops Q rest (a.put o.dst v) w'):wpList Tryz.prog ops Q (o :: rest) a w:=by
 obtain⟨i0,hi,hz0,hz1,hz2⟩:=info_parts info5
 refine wpList_make_own w hg l c 70 hop base 5 i0 _ 1 Tryz.underlying70 hi hz0 hz1 .i64 .i64 C n hl hc hC (by rw [hz2];omega) (by unfold maxLen;omega) b4 ?_
 intro w' hown hg'
 exact hK _ w' hown ((Below.refl _ _).grown hg' (zN _) (fun k hk=>by cases hk))
end
end Go.Proofs.YtmanejniepghlaaGreatDoor
namespace Go.Proofs.YtmanejniepghlaaGreatDoor.Frame
open Crc Super
def size (n:Int):Int:=if n < 0\/1024 < n then 0 else 14+n
def head (ep sq:Nat) (p:List UInt8):List UInt8:=le 2 p.length ++ le 4 ep ++ le 4 sq ++ p
def enc (ep sq:Nat) (p:List UInt8):List UInt8:=head ep sq p ++ le 4 (update 0 (head ep sq p))
def len2 (b:List UInt8):Nat:=unle (b.take 2)
def dec (b:List UInt8) (ep sq:Nat):List UInt8 × Nat × Int :=
 if b.length < 14 then ([],0,5)
 else if 1024 < len2 b then ([],0,3)
 else if b.length < 14+len2 b then ([],0,5)
 else if unle ((b.drop (10+len2 b)).take 4) ≠ update 0 (b.take (10+len2 b)) then ([],0,7)
 else if unle ((b.drop 2).take 4) ≠ ep\/unle ((b.drop 6).take 4) ≠ sq then ([],0,8)
 else ((b.drop 10).take (len2 b),14+len2 b,0)
theorem len2_lt (b:List UInt8):len2 b < 65536:=by
 have h:=unle_lt (b.take 2)
 have h2:(b.take 2).length<=2:=List.length_take_le _ _
 exact Nat.lt_of_lt_of_le h (Nat.le_trans (Nat.pow_le_pow_right (by decide) h2) (by decide))
theorem head_length (ep sq:Nat) (p:List UInt8):(head ep sq p).length=10+p.length:=by simp [head,le_length];omega
theorem enc_length (ep sq:Nat) (p:List UInt8):(enc ep sq p).length=14+p.length:=by simp [enc,head_length,le_length];omega
theorem dec_ok (b:List UInt8) (ep sq:Nat) (h:(dec b ep sq).2.2=0):(dec b ep sq).2.1=14+(dec b ep sq).1.length/\(dec b ep sq).2.1<=b.length/\(dec b ep sq).1.length<=1024:=by
 unfold dec at h ⊢
 by_cases h1:b.length < 14
 ·rw [if_pos h1] at h;simp at h
 rw [if_neg h1] at h ⊢
 by_cases h2:1024 < len2 b
 ·rw [if_pos h2] at h;simp at h
 rw [if_neg h2] at h ⊢
 by_cases h3:b.length < 14+len2 b
 ·rw [if_pos h3] at h;simp at h
 rw [if_neg h3] at h ⊢
 by_cases h4:unle ((b.drop (10+len2 b)).take 4) ≠ update 0 (b.take (10+len2 b))
 ·rw [if_pos h4] at h;simp at h
 rw [if_neg h4] at h ⊢
 by_cases h5:unle ((b.drop 2).take 4) ≠ ep\/unle ((b.drop 6).take 4) ≠ sq
 ·rw [if_pos h5] at h;simp at h
 rw [if_neg h5]
 simp;omega
def go (b:List UInt8) (ep:Nat):Nat->Nat->List (List UInt8)->Nat->List (List UInt8) × Nat
|0,_,out,e=>(out,e)
|f+1,k,out,e=>if (dec (b.drop e) ep k).2.2=0 then go b ep f (k+1) (out ++ [(dec (b.drop e) ep k).1]) (e+(dec (b.drop e) ep k).2.1) else (out,e)
def scan (b:List UInt8) (ep:Nat):List (List UInt8) × Nat:=go b ep (b.length+1) 0 [] 0
theorem go_ok (b:List UInt8) (ep f k:Nat) (out:List (List UInt8)) (e:Nat) (h:(dec (b.drop e) ep k).2.2=0):go b ep (f+1) k out e=go b ep f (k+1) (out ++ [(dec (b.drop e) ep k).1]) (e+(dec (b.drop e) ep k).2.1):=by rw [go,if_pos h]
theorem go_end (b:List UInt8) (ep f k:Nat) (out:List (List UInt8)) (e:Nat) (h:(dec (b.drop e) ep k).2.2 ≠ 0):go b ep (f+1) k out e=(out,e):=by rw [go,if_neg h]
end Go.Proofs.YtmanejniepghlaaGreatDoor.Frame
namespace Go.Proofs.YtmanejniepghlaaGreatDoor
section
open Go.RowKit
variable {w w':World} {base c k n:Nat} {a:Option Addr} {l ls:List (List UInt8)} {v:Value}
def SlL (w:World) (a:Option Addr) (n c:Nat) (ls:List (List UInt8)):Prop :=
 ls.length=n/\n<=c/\c<=maxLen/\(a=none->ls=[]/\c=0) ∧
  ∀ x,a=some x->∀ i (h:i < ls.length),x.spot=none/\x.block < w.heap.size/\∃ b m d,w.cell? (x.block (x.off+i))=some (.slice b m d)/\SlB w b m d ls[i]
theorem SlL.le (h:SlL w a n c l):n<=9223372036854775807:=by
 have:=h.2.1;have:=h.2.2.1;unfold maxLen at *;omega
theorem SlL.nil (w:World):SlL w none 0 0 []:=⟨rfl,zN _,by unfold maxLen;omega,fun _=>⟨rfl,rfl⟩,fun x hx=>by cases hx⟩
theorem SlL.at (h:SlL w a n c l) (hk:k < n) :
 ∃ b o,a=some ((b:Nat) o)/\b < w.heap.size/\∃ p m d,w.cell? (b (o+k))=some (.slice p m d)/\SlB w p m d (l[k]?.getD []):=by
 obtain⟨hl,hn,hc,h0,h1⟩:=h
 cases a with
|none=>have:=(h0 rfl).1;subst this;simp at hl;omega
|some x =>
  obtain⟨b,o,sp⟩:=x
  have hk':k < l.length:=by omega
  obtain⟨hs,hb,p,m,d,hi,hq⟩:=h1 _ rfl k hk'
  simp only at hs;subst hs
  refine⟨b,o,rfl,hb,p,m,d,hi,?_⟩
  rw [List.getElem?_eq_getElem hk']
  exact hq
theorem info26:(Tryz.prog.info? 70).map (fun i=>(i.zero,i.size,i.bytes))=some (some (.slice none 0 0),1,24):=by kernel_rfl
def OwnL (base:Nat) (w:World) (v:Value) (ls:List (List UInt8)):Prop :=
 ∃ vs:List Value,w.ownsRow base 70 1 v ls.length vs/\∀ i,i < ls.length->∃ u,vs[i]?=some u/\OwnB base w u (ls[i]?.getD [])
theorem OwnL.nil (base:Nat) (w:World):OwnL base w (.slice none 0 0) []:=⟨[],World.ownsRow_nil w base _ _,fun i hi=>by simp at hi⟩
theorem OwnL.lt (h:OwnL base w v ls):∀ k,v.ownBlock=some k->base<=k/\k < w.heap.size:=by
 obtain⟨vs,h1,_⟩:=h;exact World.ownsRow.lt h1
theorem OwnL.ext (h:OwnL base w v ls) (e:Below w.heap.size w w'):OwnL base w' v ls:=by
 obtain⟨vs,h1,h2⟩:=h
 refine⟨vs,⟨h1.1,?_⟩,fun i hi=>?_⟩
 ·rcases h1.2 with hn|⟨g,cap,cur,rfl,hb,hgg,rest⟩
  ·exact .inl hn
  ·exact .inr ⟨g,cap,cur,rfl,hb,(e.block g (Array.getElem?_eq_some_iff.1 hgg).1).trans hgg,rest⟩
 ·obtain⟨u,h3,h4⟩:=h2 i hi
  exact⟨u,h3,h4.ext e⟩
theorem OwnL.sl (h:OwnL base w v ls):∃ a c,v=.slice a ls.length c/\SlL w a ls.length c ls:=by
 obtain⟨vs,h1,h2⟩:=h
 rcases id h1.2 with⟨hv,hn⟩|⟨g,cap,cur,hv,hg,hc,hnc,hcm,hcs,htake⟩
 ·have hl:ls=[]:=List.eq_nil_of_length_eq_zero hn
  subst hl
  exact⟨none,0,hv,SlL.nil w⟩
 ·refine⟨.some g,cap,hv,⟨rfl,hnc,hcm,(fun h=>by cases h),fun x hx i hi=>?_⟩⟩
  cases hx
  refine⟨rfl,(Array.getElem?_eq_some_iff.1 hc).1,?_⟩
  obtain⟨u,h3,h4⟩:=h2 i hi
  obtain⟨p,d,rfl,h5,-⟩:=h4.sl
  have e:ls[i]?.getD []=ls[i]:=by simp [hi]
  rw [e] at h3 h5
  refine⟨p,ls[i].length,d,?_,h5⟩
  ·have hl:vs.length=ls.length:=by rw [h1.1];simp
   have:=World.ownsRow.cellAt (g:=g) (cap:=cap) (by rw [<-hv];exact h1) i (by omega)
   simp only [Nat.zero_add]
   rw [this];simpa using h3
theorem OwnB.grownL {u:Value} {l:List UInt8} {vs:List Value} (h:OwnB base w u l) (hv:w.ownsRow base 70 1 v n vs) (hg:w.grownBy w' v.ownBlock):OwnB base w' u l:=by
 refine⟨h.1,?_⟩
 rcases h.2 with hn|⟨g,cap,cur,rfl,hb,hgg,rest⟩
 ·exact .inl hn
 ·refine .inr ⟨g,cap,cur,rfl,hb,(hg.block g (za_a hgg) ?_).trans hgg,rest⟩
  intro e
  rcases hv.2 with⟨rfl,_⟩|⟨g',cap',cur',rfl,_,hgg',_⟩
  ·cases e
  ·simp [Value.ownBlock] at e
   subst e
   rw [hgg] at hgg'
   cases hgg'
theorem zb_u {ops:Array Oper} {rest:List Oper} {o:Oper} {a:Act} {Q:Exit->Act->World->Prop} (hgd:o.guard=none) (s x:Operand)
 (ho:o.op=.call { callee:=.builtin .append,args:=#[s,x],argTypes:=#[112,112] })
 (base:Nat) (v:Value) (ls:List (List UInt8)) (hs:a.eval s=v) (hown:OwnL base w v ls) (u:Value) (l:List UInt8) (hu:OwnB base w u l)
 (t:TypeId) (W:World) (hW:W=w.alloc (.cells #[u] t)) (k:Nat) (hk:k=w.heap.size) (hx:a.eval x=.slice k 1 1)
 (hlen:ls.length<=1000000000) (hbase:base<=w.heap.size)
 (h:∀ v' w',OwnL base w' v' (ls ++ [l])->Below base w w'->wpList Tryz.prog ops Q rest (a.put o.dst v') w'):wpList Tryz.prog ops Q (o :: rest) a W:=by
 subst hW;subst hk
 obtain⟨i0,hi,hz0,hz1,hz2⟩:=info_parts info26
 obtain⟨vs,h1,h2⟩:=hown
 have hvl:vs.length=ls.length:=by rw [h1.1];simp
 refine wpList_append_own (w.alloc (.cells #[u] t)) hgd s x 112 ho base 70 i0 (.slice none 0 0) 1 24 Tryz.underlying112 hi hz0 hz1 hz2 rfl (by decide) v ls.length vs hs (h1.alloc _) w.heap.size 1 1 [u] hx rfl ?_ ?_ (by unfold maxLen;omega) (by omega) (by simp;omega) ?_
 ·intro j q hj
  obtain⟨rfl,rfl⟩:j=0/\q=u:=by
   cases j with
  |zero=>exact⟨rfl,by simpa using hj.symm⟩
  |succ j=>simp at hj
  have hadd:(w.heap.size:Addr).add 0=w.heap.size:=by unfold Addr.add;split <;> simp_all
  rw [hadd,World.cell?_alloc_at _ _ _ _ rfl];rfl
 ·intro q hq
  simp at hq;subst hq
  obtain⟨p,d,rfl,-⟩:=hu.sl
  rfl
 ·intro v' w' h3 h4 _
  have hal:Below base w (w.alloc (.cells #[u] t)):=(Below.refl _ _).alloc hbase _
  refine h v' w' ⟨vs ++ [u],by simpa using h3,fun i hi=>?_⟩ (hal.grown h4 (by simp;omega) (fun k hk=>((World.ownsRow.lt h1) k hk).1))
  have hkeep:∀ q m,OwnB base w q m->OwnB base w' q m:=fun q m hq=>(hq.alloc (.cells #[u] t)).grownL (h1.alloc (.cells #[u] t)) h4
  by_cases hil:i < ls.length
  ·obtain⟨q,h5,h6⟩:=h2 i hil
   refine⟨q,?_,?_⟩
   ·rw [List.getElem?_append_left (by omega)];exact h5
   ·rw [List.getElem?_append_left hil];exact hkeep _ _ h6
  ·obtain rfl:i=ls.length:=by simp at hi;omega
   refine⟨u,?_,?_⟩
   ·rw [List.getElem?_append_right (by omega),hvl];simp
   ·rw [List.getElem?_append_right (by omega)];simpa using hkeep _ _ hu
theorem zj_i (B:Nat) (w:World) (n:Nat):Below B w (w.drewN n):=(Below.refl B w).trans ⟨rfl,rfl,rfl,zN _,fun _ _=>rfl⟩
end
section
open Go.RowKit
theorem zb_z {w:World} {ops:Array Oper} {o:Oper} {a:Act} {K:Act->World->Prop} {Q:Exit->Act->World->Prop} {E:Prop} (hgd:o.guard=none) (s x:Operand)
 (ho:o.op=.call { callee:=.builtin .append,args:=#[s,x],argTypes:=#[70,70] })
 (base:Nat) (v:Value) (l:List UInt8) (hs:a.eval s=v) (hown:OwnB base w v l) (b:Option Addr) (m c:Nat) (l2:List UInt8) (hx:a.eval x=.slice b m c) (hsl:SlB w b m c l2)
 (hlen:l.length+m<=140737488355328) (hbase:base<=w.heap.size)
 (h:∀ v' w',OwnB base w' v' (l ++ l2)->w.grownBy w' v.ownBlock->K (a.put o.dst v') w') :
 if Region.wanted o (yielded ops a.tmps)=true then Oper.wp Tryz.prog o a w K Q else E:=by
 have hw:Region.wanted o (yielded ops a.tmps)=true:=by simp [Region.wanted,hgd]
 rw [if_pos hw]
 obtain⟨v',w',hrun,h1,h2⟩:=zc_f o.type base v l hown b m c l2 hsl hlen hbase
 unfold Oper.wp
 simp [execOp,ho,resolve,invoke,builtin,hs,hx,hrun,Result.andThen]
 exact h v' w' h1 h2
end
end Go.Proofs.YtmanejniepghlaaGreatDoor
