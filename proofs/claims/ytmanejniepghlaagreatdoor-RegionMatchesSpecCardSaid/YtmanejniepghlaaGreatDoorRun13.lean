import Derived.Test.YtmanejniepghlaaGreatDoorRun6
import Derived.Test.YtmanejniepghlaaGreatDoorRun12
import Derived.Deep.RegionHeld3
set_option maxHeartbeats 4000000
namespace Go.Proofs.YtmanejniepghlaaGreatDoor
open Go.RowKit
set_option maxRecDepth 100000
variable {l:List UInt8}
namespace Ho
theorem XQ (b:UInt8):decide (dg b < 10)=decd b:=by
 unfold dg decd
 by_cases a:48<=b.toNat/\b.toNat<=57
 ·rw [if_pos a];simp [a];omega
 ·rw [if_neg a]
  have:(decide (48<=b.toNat) && decide (b.toNat<=57))=false:=by simp;omega
  rw [this]
  simp only [decide_eq_false_iff_not]
  split
  ·omega
  ·split <;> omega
theorem XR (b:UInt8):decide (dg b < 16)=hexd b:=by
 unfold dg hexd decd
 by_cases a:48<=b.toNat/\b.toNat<=57
 ·rw [if_pos a];simp [a];omega
 ·rw [if_neg a]
  have e:(decide (48<=b.toNat) && decide (b.toNat<=57))=false:=by simp;omega
  rw [e,Bool.false_or]
  by_cases c:97<=b.toNat/\b.toNat<=102
  ·rw [if_pos c];simp [c];omega
  ·rw [if_neg c]
   have f:(decide (97<=b.toNat) && decide (b.toNat<=102))=false:=by simp;omega
   rw [f,Bool.false_or]
   by_cases d:65<=b.toNat/\b.toNat<=70
   ·rw [if_pos d];simp [d];omega
   ·rw [if_neg d]
    have g:(decide (65<=b.toNat) && decide (b.toNat<=70))=false:=by simp;omega
    rw [g];simp
def xx (t:List UInt8):Bool:=decide (2<=t.length) && (decide (t.getD 1 0=120) || decide (t.getD 1 0=88))
theorem Ih {t:List UInt8} (h:xx t=true):t.all decd=false:=by
 unfold xx at h
 rw [Bool.and_eq_true,Bool.or_eq_true,decide_eq_true_eq,decide_eq_true_eq,decide_eq_true_eq] at h
 obtain⟨c,a⟩:=h
 have b:t.getD 1 0=t[1]'(by omega):=by rw [List.getD_eq_getElem?_getD,List.getElem?_eq_getElem (by omega)];rfl
 rw [List.all_eq_false]
 refine⟨t[1]'(by omega),List.getElem_mem _,?_⟩
 rw [<-b]
 rcases a with e|e <;> rw [e] <;> decide
theorem WS (t:List UInt8):num t=if (t.all decd && !t.isEmpty) then true else FS t && xx t:=by
 have g:(fun b=>decide (dg b < 10))=decd:=funext XQ
 have h:(fun b=>decide (dg b < 16))=hexd:=funext XR
 unfold num
 cases c:pre t with
|true =>
  obtain⟨d,k,i⟩:=(IF t).1 c
  have a:xx t=true:=by
   unfold xx
   rw [decide_eq_true d,Bool.true_and,Bool.or_eq_true,decide_eq_true_eq,decide_eq_true_eq];exact i
  rw [if_pos rfl,Ih a,Bool.false_and,if_neg (by decide),a,Bool.and_true]
  unfold FS
  rw [if_neg (by intro e;rw [e] at d;simp at d),if_pos c,h]
|false =>
  rw [if_neg (by decide)]
  cases hd:(t.all decd && !t.isEmpty) with
 |true=>rw [if_pos rfl]
 |false =>
   rw [if_neg (by decide)]
   cases a:xx t with
  |false=>rw [Bool.and_false]
  |true =>
    have j:=Ih a
    rw [Bool.and_true]
    unfold FS
    by_cases h0:t=[]
    ·rw [if_pos h0]
    rw [if_neg h0,c,if_neg (by decide)]
    by_cases f:2<=t.length/\t.getD 0 0=48
    ·exfalso
     unfold xx at a
     rw [Bool.and_eq_true,Bool.or_eq_true,decide_eq_true_eq,decide_eq_true_eq,decide_eq_true_eq] at a
     rw [(IF t).2 ⟨f.1,f.2,a.2⟩] at c;cases c
    ·rw [if_neg f,g,j]
theorem MQ (l:List UInt8):(parts l)[(parts l).length - 1]?.getD []=last l:=by
 unfold last;rw [Ym (List.length_pos_iff.2 (IC l))]
theorem NX (l:List UInt8):(last l).length<=l.length:=by
 have a:=List.length_pos_iff.2 (IC l)
 have h:last l ∈ parts l:=by
  rw [<-MQ,List.getElem?_eq_getElem (by omega)];exact List.getElem_mem _
 exact BW l _ (Bq h)
end Ho
theorem Rl (l:List UInt8) (hl:l.length<=1000000) (w:World) :
 Calls Tryz.prog 166 #[.string (str l)] w fun e w'=>e=.returned (.bool (Ho.numeric l))/\Below w.heap.size w w':=by
 have i:=zH (Ea l hl w)
 have y:=Ho.MQ l
 have zd:=Ho.NX l
 have hp:=List.length_pos_iff.2 (Ho.IC l)
 have F:=zH (show Ho.numeric l=Ho.num (Ho.last l) from rfl)
 have Z:=Ho.LO l
 obtain⟨t,ht⟩:∃ t,Ho.last l=t:=⟨_,rfl⟩
 obtain⟨N,za⟩:∃ N,Ho.parts l=N:=⟨_,rfl⟩
 unfold FX at i
 rw [za] at i hp y Z
 rw [ht] at y zd F
 clear ht za
 have p:=zH (fun W=>Bc t (by omega) W)
 have q:=zH (fun W=>Bd t (by omega) W)
 have K:=zH (Ho.WS t)
 have hsz:=AZ t
 have u:∀ (A:1 < (str t).size),(str t)[1]'A=t.getD 1 0:=fun A=>by rw [FV,List.getD_eq_getElem?_getD,List.getElem?_eq_getElem (by rw [AZ] at A;exact A)];rfl
 obtain⟨n,hn⟩:∃ n,N.length=n:=⟨_,rfl⟩
 rw [hn] at i hp y Z
 obtain⟨sv,zb⟩:∃ sv,str l=sv:=⟨_,rfl⟩
 rw [zb] at i ⊢
 obtain⟨O,I⟩:∃ O,str t=O:=⟨_,rfl⟩
 rw [I] at p q hsz u
 have g:=zH (And.intro y I)
 obtain⟨a,J⟩:∃ x,t.getD 1 0=x:=⟨_,rfl⟩
 rw [J] at u
 have C:((a.toNat:Int) == 120)=decide (a=120):=by
  by_cases e:a=120
  ·subst e;rfl
  ·rw [decide_eq_false e];apply beq_eq_false_iff_ne.2;intro M;exact e (UInt8.toNat_inj.1 (Int.ofNat.inj M))
 have B:((a.toNat:Int) == 88)=decide (a=88):=by
  by_cases e:a=88
  ·subst e;rfl
  ·rw [decide_eq_false e];apply beq_eq_false_iff_ne.2;intro M;exact e (UInt8.toNat_inj.1 (Int.ofNat.inj M))
 have R:Hid (Ho.xx t=(decide (2<=t.length) && (decide (a=120) || decide (a=88)))):=zH (by unfold Ho.xx;rw [J])
 clear hn zb I J y
 have i0:(0:Int)<=(n:Int) - 1:=by omega
 have i1:(n:Int) - 1 < (n:Int):=by omega
 have i2:((n:Int) - 1).toNat=n - 1:=by omega
 obtain⟨zc,X⟩:∃ d,(t.all Ho.decd && !t.isEmpty)=d:=⟨_,rfl⟩
 rw [X] at p K
 clear X
 cases zc with
|true =>
  have h:=zH (show Ho.numeric l=true by rw [F.out,K.out,if_pos rfl])
  clear C B u
  go_in
  go_wp2_with fail
  refine i.out.mono ?_;rintro e P ⟨b,c,rfl,m,f⟩
  obtain⟨_,_,o,G,H,j⟩:=m.at (k:=n - 1) (by omega)
  cases o
  rw [g.out.1,tv,g.out.2,Nat.zero_add] at j
  go_wp2_with (go_at_call 189;go_must (refine (p.out _).mono ?_);rintro e Q ⟨rfl,rfl⟩)
  go_ret
  exact⟨by rw [h.out];rfl,f⟩
|false =>
  have h:=zH (show Ho.numeric l=(Ho.FS t && Ho.xx t) by rw [F.out,K.out,if_neg (by decide)])
  obtain⟨ok,Y⟩:∃ ok,Ho.FS t=ok:=⟨_,rfl⟩
  rw [Y] at q h
  clear Y
  have ze:Hid (∀ W,Calls Tryz.prog 190 #[.string O] W (PT ok W)):=q
  cases ok with
 |false =>
   rw [Bool.false_and] at h
   clear C B u
   go_in
   go_wp2_with fail
   refine i.out.mono ?_;rintro e P ⟨b,c,rfl,m,f⟩
   obtain⟨_,_,o,G,H,j⟩:=m.at (k:=n - 1) (by omega)
   cases o
   rw [g.out.1,tv,g.out.2,Nat.zero_add] at j
   go_wp2_with (first
   |(go_at_call 189;go_must (refine (p.out _).mono ?_);rintro e Q ⟨rfl,rfl⟩)
   |(go_at_call 190;go_must (refine (q.out _).mono ?_);rintro e w3 ⟨⟨z,rfl⟩,s⟩))
   go_ret
   exact⟨by rw [h.out];rfl,f.trans (s.mono f.size)⟩
 |true =>
   rw [Bool.true_and] at h
   by_cases h2:2<=t.length
   ·have j1:(2:Int)<=(t.length:Int):=by omega
    have j2:(1:Int) < (t.length:Int):=by omega
    have r:=zH (show Ho.numeric l=(decide (a=120) || decide (a=88)) by rw [h.out,R.out,decide_eq_true h2,Bool.true_and])
    obtain⟨b1,T⟩:∃ b,decide (a=120)=b:=⟨_,rfl⟩
    obtain⟨b2,U⟩:∃ b,decide (a=88)=b:=⟨_,rfl⟩
    rw [T] at r C
    rw [U] at r B
    clear T U
    cases b1
    all_goals
     go_in
     go_wp2_with fail
     refine i.out.mono ?_;rintro e P ⟨b,c,rfl,m,f⟩
     obtain⟨_,_,o,G,H,j⟩:=m.at (k:=n - 1) (by omega)
     cases o
     rw [g.out.1,tv,g.out.2,Nat.zero_add] at j
     go_wp2_with (first
     |(go_at_call 189;go_must (refine (p.out _).mono ?_);rintro e Q ⟨rfl,rfl⟩)
     |(go_at_call 190;go_must (refine (q.out _).mono ?_);rintro e w3 ⟨⟨z,rfl⟩,s⟩))
     go_ret
     exact⟨by rw [r.out];rfl,f.trans (s.mono f.size)⟩
   ·have j1:¬ (2:Int)<=(t.length:Int):=by omega
    have r:=zH (show Ho.numeric l=false by rw [h.out,R.out,decide_eq_false h2,Bool.false_and])
    clear C B u
    go_in
    go_wp2_with fail
    refine i.out.mono ?_;rintro e P ⟨b,c,rfl,m,f⟩
    obtain⟨_,_,o,G,H,j⟩:=m.at (k:=n - 1) (by omega)
    cases o
    rw [g.out.1,tv,g.out.2,Nat.zero_add] at j
    go_wp2_with (first
    |(go_at_call 189;go_must (refine (p.out _).mono ?_);rintro e Q ⟨rfl,rfl⟩)
    |(go_at_call 190;go_must (refine (q.out _).mono ?_);rintro e w3 ⟨⟨z,rfl⟩,s⟩))
    go_ret
    exact⟨by rw [r.out];rfl,f.trans (s.mono f.size)⟩
namespace Ho
theorem TJ:name []=false:=by decide +kernel
theorem LK (h:253 < l.length):name l=false:=by unfold name;rw [decide_eq_false (by omega)];rfl
theorem OG (h:numeric l=true):name l=false:=by unfold name;rw [h];simp
theorem KA (a:l.length<=253) (b:numeric l=false):name l=(split l).all BL.AB:=by unfold name;rw [decide_eq_true a,b];simp
end Ho
theorem Xc (l:List UInt8) (G:l.length<=1000000) (w:World) :
 Calls Tryz.prog 119 #[.string (str l)] w fun e w'=>e=.returned (.bool (Ho.name l))/\Below w.heap.size w w':=by
 have hsz:=AZ l
 have q:(str l).toList=l:=AQ l
 have b:=zH (Rl l G w)
 have c:=zH (fun W=>Ve l G W)
 have m:=Ho.DD l
 have j:=zH (fun p (hp:p ∈ Ho.split l)=>Ho.BW l p hp)
 obtain⟨sv,R⟩:∃ sv,str l=sv:=⟨_,rfl⟩
 rw [R] at hsz q b c ⊢
 clear R
 by_cases h0:l=[]
 ·have a:=zH (show Ho.name l=false by rw [h0];exact Ho.TJ)
  have e1:sv.toList.isEmpty=true:=by rw [q,h0];rfl
  clear h0 q b c j m hsz
  go_in
  go_wp2_with fail
  go_ret
  exact⟨by rw [a.out];rfl,Below.refl _ _⟩
 have e1:sv.toList.isEmpty=false:=by rw [q];simpa using h0
 clear q h0
 by_cases h1:253 < l.length
 ·have a:=zH (Ho.LK h1)
  have i1:(253:Int) < (l.length:Int):=by omega
  clear b c j m
  go_in
  go_wp2_with fail
  go_ret
  exact⟨by rw [a.out];rfl,Below.refl _ _⟩
 have i1:¬ (253:Int) < (l.length:Int):=by omega
 have y:=zH (fun h=>Ho.OG (l:=l) h)
 have z:=zH (fun h=>Ho.KA (l:=l) (by omega) h)
 obtain⟨H,N⟩:∃ H,Ho.numeric l=H:=⟨_,rfl⟩
 rw [N] at b y z
 clear N
 cases H with
|true =>
  have a:=zH (y.out rfl)
  clear c j m
  go_in
  go_wp2_with fail
  refine b.out.mono ?_;rintro e w1 ⟨rfl,s⟩
  go_wp2_with fail
  go_ret
  exact⟨by rw [a.out];rfl,s⟩
|false =>
  have a:=zH (z.out rfl)
  obtain⟨g,O⟩:∃ g,Ho.split l=g:=⟨_,rfl⟩
  rw [O] at a c j m
  obtain⟨n,hn⟩:∃ n,g.length=n:=⟨_,rfl⟩
  rw [hn] at m
  have F:=zH hn
  clear O hn y z
  have zc:l.length<=1000000:=G
  go_in
  go_wp2_with (first
  |(go_at_call 166;go_must (refine b.out.mono ?_);rintro e w1 ⟨rfl,s⟩)
  |(go_at_call 167;go_must (refine (c.out _).mono ?_);rintro e X ⟨v2,rfl,zb,za⟩;obtain⟨a2,c2,rfl,P⟩:=zb.sl;rw [F.out] at P;rw [F.out]))
  have r:=s.trans (za.mono s.size)
  go_loopw [4] (fun i wr=>∃ k:Nat,k<=n/\i=.int .i64 k/\Hid (∀ x ∈ g.take k,BL.AB x=true)/\Below X.heap.size X wr) (fun i _=>n - (intOf i).toNat)
  case atStart=>exact⟨0,Nat.zero_le _,rfl,zH (by simp),Below.refl _ _⟩
  case round =>
   obtain⟨k,hk,rfl,T,d⟩:=hrel
   have i0:(0:Int)<=(k:Int):=by omega
   by_cases zd:k < n
   ·have i2:(k:Int) < (n:Int):=by omega
    obtain⟨bb,o,rfl,ze,B,J⟩:=(P.ext d).at zd
    rw [List.getElem?_eq_getElem B,Option.getD_some,tv] at J
    have Z:=zH (List.take_succ_eq_append_getElem B)
    have K:=zH (List.getElem_mem B)
    generalize g[k]=p at *
    have t:=zH (fun W=>Ej p W (Nat.le_trans (j.out p K.out) zc))
    obtain⟨U,Q⟩:∃ U,str p=U:=⟨_,rfl⟩
    rw [Q] at t J
    clear Q
    obtain⟨I,C⟩:∃ I,BL.AB p=I:=⟨_,rfl⟩
    rw [C] at t
    have M:=zH C
    clear C
    cases I with
   |true =>
     have Y:=zH (show ∀ x ∈ g.take (k+1),BL.AB x=true by
      rw [Z.out];intro x f
      rcases List.mem_append.1 f with f|f
      ·exact T.out x f
      ·simp at f;subst f;exact M.out)
     go_wp2_with (go_at_call 168;go_must (refine (t.out _).mono ?_);rintro e w3 ⟨rfl,A⟩)
     go_roundw
     case rel=>exact⟨k+1,by omega,by go_num,Y,d.trans (A.mono d.size)⟩
     case measure=>simp [intOf];omega
   |false =>
     have u:=zH (show Ho.name l=false by rw [a.out,List.all_eq_false];exact⟨p,K.out,by rw [M.out];decide⟩)
     go_wp2_with (go_at_call 168;go_must (refine (t.out _).mono ?_);rintro e w3 ⟨rfl,A⟩)
     go_ret
     exact⟨by rw [u.out];rfl,r.trans ((d.trans (A.mono d.size)).mono r.size)⟩
   ·obtain rfl:k=n:=by omega
    have u:=zH (show Ho.name l=true by
     rw [a.out,List.all_eq_true];have:=T.out;rw [List.take_of_length_le (by rw [F.out];exact zN _)] at this;exact this)
    go_wp2_with fail
    go_ret
    exact⟨by rw [u.out];rfl,r.trans (d.mono r.size)⟩
end Go.Proofs.YtmanejniepghlaaGreatDoor
