import Derived.Test.YtmanejniepghlaaGreatDoorRun3
import Derived.Test.YtmanejniepghlaaGreatDoorRun7
import Derived.Test.YtmanejniepghlaaGreatDoorRun11
import Derived.Test.YtmanejniepghlaaGreatDoorRun0
import Derived.OwnWalk
import Derived.IntWalk
import Derived.Deep.DeepMust
set_option maxHeartbeats 8000000
set_option maxRecDepth 100000
namespace Go.Proofs.YtmanejniepghlaaGreatDoor
section
open Go.RowKit
variable {r:List UInt8} {p:List Int}
def WG (p:List Int) (n:Nat) (a:World) (v5 i:Value) (wr:World):Prop:=∃ (k:Nat) (b:Bool),k<=n/\i=.int .i64 k/\v5=.bool b/\Hid (b=(p.take k).all fun x=>decide (x < 128))/\Hid (∀ x ∈ p.take k,¬ (65<=x/\x<=90))/\Below a.heap.size a wr
theorem BL.KG {e:Int} (h:Pu.decode r=.error e):BL.proper r=false:=by unfold BL.proper;rw [h]
theorem BL.LP (h:Pu.decode r=.ok p) (x:Int) (b:x ∈ p) (a:65<=x/\x<=90):BL.proper r=false:=by
 unfold BL.proper;rw [h];unfold BL.JH
 have:(p.all fun x=>!(decide (65<=x) && decide (x<=90)))=false:=by
  rw [List.all_eq_false];exact⟨x,b,by simp [a]⟩
 simp only [this,Bool.false_and]
theorem BL.RN (h:Pu.decode r=.ok p) (hu:∀ x ∈ p,¬ (65<=x/\x<=90)):BL.proper r=(!(p.all fun x=>decide (x < 128)) && decide (Pu.encode p=r)):=by
 unfold BL.proper;rw [h];unfold BL.JH
 have a:(p.all fun x=>!(decide (65<=x) && decide (x<=90)))=true:=by
  rw [List.all_eq_true];intro x c;have:=hu x c;simp;omega
 have b:(p.any fun x=>decide (128<=x))=!(p.all fun x=>decide (x < 128)):=by
  rw [Bool.eq_iff_iff];simp
 simp only [a,b,Bool.true_and]
theorem Pu.PY {a:List Int} (hn:a.length<=256) (h:∀ p ∈ a,Pu.point p=true):Pu.enc a=(Pu.encode a,0):=by
 unfold Pu.enc;rw [if_neg (by omega),if_pos (by rw [List.all_eq_true];exact h)]
theorem Ro (r:List UInt8) (w:World) (hl:r.length<=1000000) :
 Calls Tryz.prog 220 #[.string (str r)] w fun e w'=>e=.returned (.bool (BL.proper r))/\Below w.heap.size w w':=by
 have d:=fun W=>Bv r W hl
 unfold DL Pu.dec at d
 cases hd:Pu.decode r with
|error er =>
  rw [hd] at d
  have zd:=Pu.JW _ _ hd
  have zg:=zH (BL.KG hd)
  have m:=zH d
  obtain⟨sv,f⟩:∃ sv,sv=str r:=⟨_,rfl⟩
  rw [<-f] at m ⊢
  have zk:(er != 0)=true:=by simpa using zd
  clear f hd d zd
  go_in
  go_wp2_with fail
  refine (m.out _).mono ?_;rintro e w1 ⟨v1,rfl,s,t⟩
  simp only at s ⊢
  go_wp2_with fail
  go_ret
  exact⟨by rw [zg.out];rfl,t⟩
|ok p =>
  rw [hd] at d
  obtain⟨G,q2⟩:=Pu.LF _ _ hd
  have z:=fun a n c W h=>Uq true a n c p W h (fun x Z=>by have:=(Pu.BC _).1 (G x Z);omega)
  unfold FL at z
  rw [Pu.PY q2 G] at z
  have m:=zH d;have H:=zH z
  have N:=zH (BL.LP hd)
  have K:=zH (BL.RN hd)
  obtain⟨sv,f⟩:∃ sv,sv=str r:=⟨_,rfl⟩
  rw [<-f] at m ⊢
  have zc:=zH f
  have ze:∀ x ∈ p,0<=x/\x<=1114111:=fun x Z=>by have:=(Pu.BC _).1 (G x Z);omega
  have zf:=zH ze
  clear f hd d z G ze
  go_in
  go_wp2_with fail
  refine (m.out _).mono ?_;rintro e w1 ⟨v1,rfl,s,t⟩
  simp only at s ⊢
  obtain⟨a1,c1,rfl,R⟩:=s.sl
  have zl:=zH R.len
  have zb:=t.size
  clear s
  have zm:((p.length:Nat):Int)<=256:=by omega
  go_wp2_with fail
  go_loopw [5,18] (fun v5 i wr=>WG p p.length w1 v5 i wr) (fun _ i _=>p.length - (intOf i).toNat)
  case atStart=>exact⟨0,true,Nat.zero_le _,rfl,rfl,zH (by simp),zH (by simp),Below.refl _ _⟩
  case round =>
   obtain⟨k,X,hk,rfl,rfl,C,F,j⟩:=hrel
   by_cases zi:k < p.length
   ·obtain⟨g,o,rfl,hg,O,zh⟩:=(R.ext j).at zi
    rw [List.getElem?_eq_getElem O,Option.getD_some] at zh
    have za:=zH (List.getElem_mem O)
    have A:=zH (List.take_succ_eq_append_getElem O)
    have Q:=zf.out _ za.out
    have b0:(0:Int)<=(k:Int):=by omega
    have b1:(k:Int) < (p.length:Int):=by omega
    generalize p[k]=x at *
    have zn:=Q.1
    have zo:=Q.2
    clear Q
    by_cases h1:65<=x
    ·by_cases h2:x<=90
     ·have HF:=zH (N.out x za.out ⟨h1,h2⟩)
      clear N K
      go_wp2_with fail
      go_ret
      exact⟨by rw [HF.out];rfl,t.trans (j.mono zb)⟩
     ·have M:=zH (show ∀ y ∈ p.take (k+1),¬ (65<=y/\y<=90) by
       rw [A.out];intro y b
       rcases List.mem_append.1 b with b|b
       ·exact F.out y b
       ·simp at b;subst b;omega)
      by_cases Y:x < 128
      all_goals
       cases X
       all_goals
        go_wp2_with fail
        go_roundw
        case rel=>exact⟨k+1,_,by omega,by go_num,rfl,zH (by rw [A.out,List.all_append,<-C.out];simp [Y]),M,j⟩
        case measure=>simp [intOf];omega
    ·have M:=zH (show ∀ y ∈ p.take (k+1),¬ (65<=y/\y<=90) by
      rw [A.out];intro y b
      rcases List.mem_append.1 b with b|b
      ·exact F.out y b
      ·simp at b;subst b;omega)
     have Y:x < 128:=by omega
     cases X
     all_goals
      go_wp2_with fail
      go_roundw
      case rel=>exact⟨k+1,_,by omega,by go_num,rfl,zH (by rw [A.out,List.all_append,<-C.out];simp [Y]),M,j⟩
      case measure=>simp [intOf];omega
   ·obtain rfl:k=p.length:=by omega
    rw [List.take_of_length_le (zN _)] at C F
    have P:=K.out F.out
    rw [<-C.out] at P
    have I:=zH P
    clear P K N
    have T:=R.ext j
    have B:=t.trans (j.mono zb)
    have J:=B.size
    cases X with
   |true =>
     go_wp2_with fail
     refine (H.out _ _ _ _ T).mono ?_;rintro e w2 ⟨rfl,u⟩
     have q:=B.trans (u.mono J)
     simp only
     go_wp2_with fail
     go_ret
     exact⟨by rw [I.out];rfl,q⟩
   |false =>
     by_cases l:Pu.encode p=r
     ·have hq:((str (Pu.encode p)).toList == sv.toList)=true:=by rw [l,zc.out];simp
      go_wp2_with fail
      refine (H.out _ _ _ _ T).mono ?_;rintro e w2 ⟨rfl,u⟩
      have q:=B.trans (u.mono J)
      have U:=zH l
      simp only
      generalize str (Pu.encode p)=zj at *
      clear l
      go_wp2_with fail
      go_ret
      exact⟨by rw [I.out,decide_eq_true U.out];rfl,q⟩
     ·have hq:((str (Pu.encode p)).toList == sv.toList)=false:=by rw [zc.out];simpa using l
      go_wp2_with fail
      refine (H.out _ _ _ _ T).mono ?_;rintro e w2 ⟨rfl,u⟩
      have q:=B.trans (u.mono J)
      have U:=zH l
      simp only
      generalize str (Pu.encode p)=zj at *
      clear l
      go_wp2_with fail
      go_ret
      exact⟨by rw [I.out,decide_eq_false U.out];rfl,q⟩
end
section
open Go.RowKit
variable {l:List UInt8}
theorem BL.KR (h:63 < l.length):BL.AB l=false:=by
 unfold BL.AB BL.frame;simp;intro _ a;omega
theorem BL.IZ (a:0 < l.length) (h:l[0]=45):BL.AB l=false:=by
 have:l.head?=some 45:=by rw [List.head?_eq_getElem?,List.getElem?_eq_getElem a,h]
 unfold BL.AB BL.frame;simp [this]
theorem BL.KQ (a:l.length - 1 < l.length) (h:l[l.length - 1]=45):BL.AB l=false:=by
 have:l.getLast?=some 45:=by rw [List.getLast?_eq_getElem?,List.getElem?_eq_getElem a,h]
 unfold BL.AB BL.frame;simp [this]
theorem BL.LX {b:UInt8} (a:b ∈ l) (h:BL.canon b=false):BL.AB l=false:=by
 have:l.all BL.canon=false:=by rw [List.all_eq_false];exact⟨b,a,by simp [h]⟩
 unfold BL.AB BL.frame;simp [this]
theorem BL.OR (a:0 < l.length) (c:l.length<=63) (k:l.length - 1 < l.length) (h0:l[0] ≠ 45) (i:l[l.length - 1] ≠ 45) (j:∀ b ∈ l,BL.canon b=true) :
 BL.AB l=(!(BL.pre.isPrefixOf l) || BL.proper (l.drop 4)):=by
 have d:l.head? ≠ some 45:=by rw [List.head?_eq_getElem?,List.getElem?_eq_getElem a];simpa using h0
 have f:l.getLast? ≠ some 45:=by rw [List.getLast?_eq_getElem?,List.getElem?_eq_getElem k];simpa using i
 have g:l.all BL.canon=true:=by rw [List.all_eq_true];exact j
 have h:l ≠ []:=by intro e;subst e;simp at a
 have:BL.frame l=true:=by unfold BL.frame;simp [d,f,g,h,c]
 unfold BL.AB;rw [this,Bool.true_and]
theorem Hs (b:UInt8) (k:Nat) (a:k < 256) (h:¬ b=UInt8.ofNat k):¬ (b.toNat:Int)=(k:Int):=by
 intro e;apply h;apply UInt8.toNat_inj.1;rw [UInt8.toNat_ofNat'];omega
theorem It (l:List UInt8) (w:World) :
 Calls Tryz.prog 219 #[.string (str l),.string ⟨#[120,110,45,45]⟩] w fun e a=>e=.returned (.tuple #[.string (str (if BL.pre.isPrefixOf l then l.drop 4 else l)),.bool (BL.pre.isPrefixOf l)])/\a=w:=by
 refine (Ob (str l) ⟨#[120,110,45,45]⟩ w).mono ?_
 rintro e a ⟨rfl,rfl⟩
 exact⟨rfl,rfl⟩
theorem Bi (l:List UInt8) (w:World) (hl:l.length<=1000000) :
 Calls Tryz.prog 194 #[.string (str l)] w fun e w'=>e=.returned (.bool (BL.AB l))/\Below w.heap.size w w':=by
 have hsz:=CT l
 have Q:∀ k (h:k < l.length) M,(str l)[k]'M=l[k]:=fun k h M=>Kc _ _ _
 obtain⟨sv,y⟩:∃ sv,sv=str l:=⟨_,rfl⟩
 have P:∀ i (h:i < l.length) (M:i < sv.size),sv[i]=l[i]:=by subst y;exact Q
 rw [<-y] at hsz ⊢
 have d:=zH P
 have R:=zH y
 clear Q P y
 by_cases X:l.length=0
 ·have a:=zH (show BL.AB l=false by rw [List.eq_nil_of_length_eq_zero X];rfl)
  rw [X] at hsz
  clear d
  have O:(sv.size:Int) < 1:=by rw [hsz];decide
  clear hsz
  go_in
  go_wp2_with fail
  go_ret
  exact⟨by rw [a.out];rfl,Below.refl _ _⟩
 have zj:¬ (l.length:Int) < 1:=by omega
 by_cases ze:63 < l.length
 ·have a:=zH (BL.KR ze)
  have O:(63:Int) < (l.length:Int):=by omega
  clear d
  go_in
  go_wp2_with fail
  go_ret
  exact⟨by rw [a.out];rfl,Below.refl _ _⟩
 have zk:¬ (63:Int) < (l.length:Int):=by omega
 have G:0 < l.length:=by omega
 have zi:(0:Int) < (l.length:Int):=by omega
 have N:l.length - 1 < l.length:=by omega
 have U:=d.out 0 G
 have C:=d.out (l.length - 1) N
 have s:=zH (BL.IZ G)
 have t:=zH (BL.KQ N)
 have u:=zH (BL.OR G (by omega) N)
 have B:=zH (fun b hb h=>BL.LX (l:=l) (b:=b) hb h)
 generalize l[0]=n at *
 generalize l[l.length - 1]=o at *
 by_cases g:n=45
 ·have a:=zH (s.out g)
  have O:((n.toNat:Int) == 45)=true:=by rw [g];rfl
  have zf:(n.toNat:Int)=45:=by rw [g];rfl
  clear g u s t C
  go_in
  go_wp2_with fail
  go_ret
  exact⟨by rw [a.out];rfl,Below.refl _ _⟩
 have zg:¬ (n.toNat:Int)=45:=Hs n 45 (by omega) g
 have zl:((n.toNat:Int) == 45)=false:=by simpa using zg
 have i0:(0:Int)<=(l.length:Int) - 1:=by omega
 have i1:(l.length:Int) - 1 < (l.length:Int):=by omega
 have i2:((l.length:Int) - 1).toNat=l.length - 1:=by omega
 by_cases j:o=45
 ·have a:=zH (t.out j)
  have O:((o.toNat:Int) == 45)=true:=by rw [j];rfl
  have zf:(o.toNat:Int)=45:=by rw [j];rfl
  clear j u s t
  go_in
  go_wp2_with fail
  go_ret
  exact⟨by rw [a.out];rfl,Below.refl _ _⟩
 have zh:¬ (o.toNat:Int)=45:=Hs o 45 (by omega) j
 have zm:((o.toNat:Int) == 45)=false:=by simpa using zh
 have T:=zH (fun hc=>u.out g j hc)
 clear s t u
 go_in
 go_wp2_with fail
 go_loop [30] (fun i=>∃ k:Nat,k<=l.length/\i=.int .i64 k/\Hid (∀ b ∈ l.take k,BL.canon b=true)) (fun i=>l.length - (intOf i).toNat)
 case atStart=>exact⟨0,Nat.zero_le _,rfl,zH (by simp)⟩
 case round =>
  obtain⟨k,hk,rfl,H⟩:=hrel
  by_cases F:k < l.length
  ·have b0:(0:Int)<=(k:Int):=by omega
   have b1:(k:Int) < (l.length:Int):=by omega
   have za:=zH (List.getElem_mem F)
   have zc:=zH (List.take_succ_eq_append_getElem F)
   have hg:=d.out k F
   clear U C
   generalize l[k]=b at *
   have z:=zH (fun h=>B.out b za.out h)
   have q:=zH (fun (h:BL.canon b=true)=>(show ∀ x ∈ l.take (k+1),BL.canon x=true by
    rw [zc.out];intro x m
    rcases List.mem_append.1 m with m|m
    ·exact H.out x m
    ·simp at m;subst m;exact h))
   clear T B
   by_cases c1:97<=b.toNat
   ·have d1:(97:Int)<=(b.toNat:Int):=by omega
    by_cases c2:b.toNat<=122
    ·have d2:(b.toNat:Int)<=122:=by omega
     have c:=zH (q.out (by simp [BL.canon,c1,c2]))
     go_wp2_with fail
     go_round
     case rel=>exact⟨k+1,by omega,by go_num,c⟩
     case measure=>simp [intOf];omega
    ·have d2:¬ (b.toNat:Int)<=122:=by omega
     have Y:(48:Int)<=(b.toNat:Int):=by omega
     have Z:¬ (b.toNat:Int)<=57:=by omega
     have J:((b.toNat:Int) != 45)=true:=by simp;omega
     have K:((b.toNat:Int) != 95)=true:=by simp;omega
     have a:=zH (z.out (by simp [BL.canon];omega))
     go_wp2_with fail
     go_ret
     exact⟨by rw [a.out];rfl,Below.refl _ _⟩
   ·have d1:¬ (97:Int)<=(b.toNat:Int):=by omega
    by_cases c3:48<=b.toNat
    ·have Y:(48:Int)<=(b.toNat:Int):=by omega
     by_cases c4:b.toNat<=57
     ·have Z:(b.toNat:Int)<=57:=by omega
      have c:=zH (q.out (by simp [BL.canon,c3,c4]))
      go_wp2_with fail
      go_round
      case rel=>exact⟨k+1,by omega,by go_num,c⟩
      case measure=>simp [intOf];omega
     ·have Z:¬ (b.toNat:Int)<=57:=by omega
      have J:((b.toNat:Int) != 45)=true:=by simp;omega
      by_cases p:b.toNat=95
      ·have K:((b.toNat:Int) != 95)=false:=by simp;omega
       have c:=zH (q.out (by simp [BL.canon,p]))
       clear p
       go_wp2_with fail
       go_round
       case rel=>exact⟨k+1,by omega,by go_num,c⟩
       case measure=>simp [intOf];omega
      ·have K:((b.toNat:Int) != 95)=true:=by simp;omega
       have a:=zH (z.out (by simp [BL.canon];omega))
       go_wp2_with fail
       go_ret
       exact⟨by rw [a.out];rfl,Below.refl _ _⟩
    ·have Y:¬ (48:Int)<=(b.toNat:Int):=by omega
     have K:((b.toNat:Int) != 95)=true:=by simp;omega
     by_cases p:b.toNat=45
     ·have J:((b.toNat:Int) != 45)=false:=by simp;omega
      have c:=zH (q.out (by simp [BL.canon,p]))
      clear p
      go_wp2_with fail
      go_round
      case rel=>exact⟨k+1,by omega,by go_num,c⟩
      case measure=>simp [intOf];omega
     ·have J:((b.toNat:Int) != 45)=true:=by simp;omega
      have a:=zH (z.out (by simp [BL.canon];omega))
      go_wp2_with fail
      go_ret
      exact⟨by rw [a.out];rfl,Below.refl _ _⟩
  ·obtain rfl:k=l.length:=by omega
   rw [List.take_of_length_le (zN _)] at H
   have f:=T.out H.out
   have hcut:=fun W=>It l W
   rw [<-R.out] at hcut
   have zb:=zH (fun W=>Ro (l.drop 4) W (by simp;omega))
   clear U C d B R
   cases r:BL.pre.isPrefixOf l with
  |false =>
    rw [r] at hcut f
    have A:=zH hcut;have I:=zH f
    clear hcut f r
    go_wp2_with fail
    refine (A.out _).mono ?_;rintro e w1 ⟨rfl,rfl⟩
    go_wp2_with fail
    go_ret
    exact⟨by rw [I.out];rfl,Below.refl _ _⟩
  |true =>
    rw [r] at hcut f
    simp only [if_true] at hcut
    have A:=zH hcut;have I:=zH f
    clear hcut f r
    go_wp2_with fail
    refine (A.out _).mono ?_;rintro e w1 ⟨rfl,rfl⟩
    go_wp2_with fail
    refine (zb.out _).mono ?_;rintro e w2 ⟨rfl,zd⟩
    go_wp2_with fail
    go_ret
    exact⟨by rw [I.out];rfl,zd⟩
end
section
open Go.RowKit
def UJ (p:List Int) (n:Nat) (a:World) (v5 i:Value) (wr:World):Prop:=∃ (k:Nat) (b:Bool),k<=n/\i=.int .i64 k/\v5=.bool b/\Hid (b=(p.take k).any fun x=>decide (128<=x))/\Hid (∀ x ∈ p.take k,¬ (65<=x/\x<=90))/\Below a.heap.size a wr
theorem BL.PL {r:List UInt8} {p:List Int} (h:Pu.decode r=.ok p) (hu:∀ x ∈ p,¬ (65<=x/\x<=90)):BL.proper r=(decide (Pu.encode p=r) && (p.any fun x=>decide (128<=x))):=by
 unfold BL.proper;rw [h];unfold BL.JH
 have a:(p.all fun x=>!(decide (65<=x) && decide (x<=90)))=true:=by
  rw [List.all_eq_true];intro x b;have:=hu x b;simp;omega
 simp only [a,Bool.true_and,Bool.and_comm]
theorem Bn (r:List UInt8) (w:World) (hl:r.length<=1000000) :
 Calls Tryz.prog 191 #[.string (str r)] w fun e w'=>e=.returned (.bool (BL.proper r))/\Below w.heap.size w w':=by
 have d:=fun W=>Ca r W hl
 unfold DL Pu.dec at d
 cases hd:Pu.decode r with
|error er =>
  rw [hd] at d
  have zb:=Pu.JW _ _ hd
  have zg:=zH (BL.KG hd)
  have q:=zH d
  generalize str r=sv at *
  have zk:(er != 0)=true:=by simpa using zb
  clear hd d zb
  go_in
  go_wp2_with fail
  refine (q.out _).mono ?_;rintro e w1 ⟨v1,rfl,l,m⟩
  simp only at l ⊢
  go_wp2_with fail
  go_ret
  exact⟨by rw [zg.out];rfl,m⟩
|ok p =>
  rw [hd] at d
  obtain⟨B,q2⟩:=Pu.LF _ _ hd
  have s:=fun a n c W h=>Uq false a n c p W h (fun x R=>by have:=(Pu.BC _).1 (B x R);omega)
  unfold FL at s
  rw [Pu.PY q2 B] at s
  have q:=zH d;have T:=zH s
  have G:=zH (BL.LP hd)
  have C:=zH (BL.PL hd)
  obtain⟨sv,O⟩:∃ sv,sv=str r:=⟨_,rfl⟩
  rw [<-O] at q ⊢
  have za:=zH O
  have zc:∀ x ∈ p,0<=x/\x<=1114111:=fun x R=>by have:=(Pu.BC _).1 (B x R);omega
  have zf:=zH zc
  clear O hd d s B zc
  go_in
  go_wp2_with fail
  refine (q.out _).mono ?_;rintro e w1 ⟨v1,rfl,l,m⟩
  simp only at l ⊢
  obtain⟨a1,c1,rfl,zd⟩:=l.sl
  have Y:=m.size
  clear l
  have zl:((p.length:Nat):Int)<=256:=by omega
  go_wp2_with fail
  go_loopw [5,6] (fun v5 i wr=>UJ p p.length w1 v5 i wr) (fun _ i _=>p.length - (intOf i).toNat)
  case atStart=>exact⟨0,false,Nat.zero_le _,rfl,rfl,zH (by simp),zH (by simp),Below.refl _ _⟩
  case round =>
   obtain⟨k,Q,hk,rfl,rfl,u,z,f⟩:=hrel
   by_cases zi:k < p.length
   ·obtain⟨g,o,rfl,hg,K,zh⟩:=(zd.ext f).at zi
    rw [List.getElem?_eq_getElem K,Option.getD_some] at zh
    have U:=zH (List.getElem_mem K)
    have t:=zH (List.take_succ_eq_append_getElem K)
    have N:=zf.out _ U.out
    have b0:(0:Int)<=(k:Int):=by omega
    have b1:(k:Int) < (p.length:Int):=by omega
    generalize p[k]=x at *
    have zm:=N.1
    have zn:=N.2
    clear N
    by_cases h1:65<=x
    ·by_cases h2:x<=90
     ·have HF:=zH (G.out x U.out ⟨h1,h2⟩)
      have A:¬ 128<=x:=by omega
      clear G C
      cases Q
      all_goals
       go_wp2_with fail
       go_ret
       exact⟨by rw [HF.out];rfl,m.trans (f.mono Y)⟩
     ·have F:=zH (show ∀ y ∈ p.take (k+1),¬ (65<=y/\y<=90) by
       rw [t.out];intro y b
       rcases List.mem_append.1 b with b|b
       ·exact z.out y b
       ·simp at b;subst b;omega)
      by_cases A:128<=x
      all_goals
       cases Q
       all_goals
        go_wp2_with fail
        go_roundw
        case rel=>exact⟨k+1,_,by omega,by go_num,rfl,zH (by rw [t.out,List.any_append,<-u.out];simp [A]),F,f⟩
        case measure=>simp [intOf];omega
    ·have F:=zH (show ∀ y ∈ p.take (k+1),¬ (65<=y/\y<=90) by
      rw [t.out];intro y b
      rcases List.mem_append.1 b with b|b
      ·exact z.out y b
      ·simp at b;subst b;omega)
     have A:¬ 128<=x:=by omega
     cases Q
     all_goals
      go_wp2_with fail
      go_roundw
      case rel=>exact⟨k+1,_,by omega,by go_num,rfl,zH (by rw [t.out,List.any_append,<-u.out];simp [A]),F,f⟩
      case measure=>simp [intOf];omega
   ·obtain rfl:k=p.length:=by omega
    rw [List.take_of_length_le (zN _)] at u z
    have M:=C.out z.out
    rw [<-u.out] at M
    have X:=zH M
    clear M C G
    have ze:=zd.ext f
    have H:=m.trans (f.mono Y)
    have Z:=H.size
    by_cases j:Pu.encode p=r
    ·have hq:((str (Pu.encode p)).toList == sv.toList)=true:=by rw [j,za.out];simp
     have P:=zH j
     clear j
     go_wp2_with fail
     refine (T.out _ _ _ _ ze).mono ?_;rintro e w2 ⟨rfl,J⟩
     have I:=H.trans (J.mono Z)
     simp only
     generalize str (Pu.encode p)=zj at *
     go_wp2_with fail
     go_ret
     exact⟨by rw [X.out,decide_eq_true P.out];rfl,I⟩
    ·have hq:((str (Pu.encode p)).toList == sv.toList)=false:=by rw [za.out];simpa using j
     have P:=zH j
     clear j
     go_wp2_with fail
     refine (T.out _ _ _ _ ze).mono ?_;rintro e w2 ⟨rfl,J⟩
     have I:=H.trans (J.mono Z)
     simp only
     generalize str (Pu.encode p)=zj at *
     go_wp2_with fail
     go_ret
     exact⟨by rw [X.out,decide_eq_false P.out];rfl,I⟩
theorem Ej (l:List UInt8) (w:World) (hl:l.length<=1000000) :
 Calls Tryz.prog 168 #[.string (str l)] w fun e w'=>e=.returned (.bool (BL.AB l))/\Below w.heap.size w w':=by
 have hsz:=CT l
 have za:∀ k (h:k < l.length) T,(str l)[k]'T=l[k]:=fun k h T=>Kc _ _ _
 have O:=AQ l
 obtain⟨sv,A⟩:∃ sv,sv=str l:=⟨_,rfl⟩
 have Z:∀ i (h:i < l.length) (T:i < sv.size),sv[i]=l[i]:=by subst A;exact za
 rw [<-A] at hsz O ⊢
 have g:=zH Z
 have zb:=zH A
 have zc:=zH O
 clear za Z A O
 by_cases J:l.length=0
 ·have K:=List.eq_nil_of_length_eq_zero J
  have a:=zH (show BL.AB l=false by rw [K];rfl)
  have X:sv.toList.isEmpty=true:=by rw [zc.out,K];rfl
  clear K J g
  go_in
  go_wp2_with fail
  go_ret
  exact⟨by rw [a.out];rfl,Below.refl _ _⟩
 have zs:sv.toList.isEmpty=false:=by rw [zc.out];cases l <;> first | rfl | simp at J
 by_cases zk:63 < l.length
 ·have a:=zH (BL.KR zk)
  have X:(63:Int) < (l.length:Int):=by omega
  clear g
  go_in
  go_wp2_with fail
  go_ret
  exact⟨by rw [a.out];rfl,Below.refl _ _⟩
 have zt:¬ (63:Int) < (l.length:Int):=by omega
 have N:0 < l.length:=by omega
 have zp:(0:Int) < (l.length:Int):=by omega
 have U:l.length - 1 < l.length:=by omega
 have ze:=g.out 0 N
 have I:=g.out (l.length - 1) U
 have u:=zH (BL.IZ N)
 have y:=zH (BL.KQ U)
 have z:=zH (BL.OR N (by omega) U)
 have H:=zH (fun b hb h=>BL.LX (l:=l) (b:=b) hb h)
 generalize l[0]=o at *
 generalize l[l.length - 1]=p at *
 by_cases j:o=45
 ·have a:=zH (u.out j)
  have X:((o.toNat:Int) == 45)=true:=by rw [j];rfl
  have zm:(o.toNat:Int)=45:=by rw [j];rfl
  clear j z u y I
  go_in
  go_wp2_with fail
  go_ret
  exact⟨by rw [a.out];rfl,Below.refl _ _⟩
 have zn:¬ (o.toNat:Int)=45:=Hs o 45 (by omega) j
 have zu:((o.toNat:Int) == 45)=false:=by simpa using zn
 have i0:(0:Int)<=(l.length:Int) - 1:=by omega
 have i1:(l.length:Int) - 1 < (l.length:Int):=by omega
 have i2:((l.length:Int) - 1).toNat=l.length - 1:=by omega
 by_cases m:p=45
 ·have a:=zH (y.out m)
  have X:((p.toNat:Int) == 45)=true:=by rw [m];rfl
  have zm:(p.toNat:Int)=45:=by rw [m];rfl
  clear m z u y
  go_in
  go_wp2_with fail
  go_ret
  exact⟨by rw [a.out];rfl,Below.refl _ _⟩
 have zo:¬ (p.toNat:Int)=45:=Hs p 45 (by omega) m
 have zv:((p.toNat:Int) == 45)=false:=by simpa using zo
 have zd:=zH (fun hc=>z.out j m hc)
 clear u y z
 go_in
 go_wp2_with fail
 go_loop [3] (fun i=>∃ k:Nat,k<=l.length/\i=.int .i64 k/\Hid (∀ b ∈ l.take k,BL.canon b=true)) (fun i=>l.length - (intOf i).toNat)
 case atStart=>exact⟨0,Nat.zero_le _,rfl,zH (by simp)⟩
 case round =>
  obtain⟨k,hk,rfl,P⟩:=hrel
  by_cases M:k < l.length
  ·have b0:(0:Int)<=(k:Int):=by omega
   have b1:(k:Int) < (l.length:Int):=by omega
   have zf:=zH (List.getElem_mem M)
   have zh:=zH (List.take_succ_eq_append_getElem M)
   have hg:=g.out k M
   clear ze I
   generalize l[k]=b at *
   have F:=zH (fun h=>H.out b zf.out h)
   have t:=zH (fun (h:BL.canon b=true)=>(show ∀ x ∈ l.take (k+1),BL.canon x=true by
    rw [zh.out];intro x n
    rcases List.mem_append.1 n with n|n
    ·exact P.out x n
    ·simp at n;subst n;exact h))
   clear zd H
   by_cases c1:97<=b.toNat
   ·have d1:(97:Int)<=(b.toNat:Int):=by omega
    by_cases c2:b.toNat<=122
    ·have d2:(b.toNat:Int)<=122:=by omega
     have f:=zH (t.out (by simp [BL.canon,c1,c2]))
     go_wp2_with fail
     go_round
     case rel=>exact⟨k+1,by omega,by go_num,f⟩
     case measure=>simp [intOf];omega
    ·have d2:¬ (b.toNat:Int)<=122:=by omega
     have d3:(48:Int)<=(b.toNat:Int):=by omega
     have d4:¬ (b.toNat:Int)<=57:=by omega
     have Q:((b.toNat:Int) == 45)=false:=by simp;omega
     have R:((b.toNat:Int) == 95)=false:=by simp;omega
     have a:=zH (F.out (by simp [BL.canon];omega))
     go_wp2_with fail
     go_ret
     exact⟨by rw [a.out];rfl,Below.refl _ _⟩
   ·have d1:¬ (97:Int)<=(b.toNat:Int):=by omega
    by_cases c3:48<=b.toNat
    ·have d3:(48:Int)<=(b.toNat:Int):=by omega
     by_cases c4:b.toNat<=57
     ·have d4:(b.toNat:Int)<=57:=by omega
      have f:=zH (t.out (by simp [BL.canon,c3,c4]))
      go_wp2_with fail
      go_round
      case rel=>exact⟨k+1,by omega,by go_num,f⟩
      case measure=>simp [intOf];omega
     ·have d4:¬ (b.toNat:Int)<=57:=by omega
      have Q:((b.toNat:Int) == 45)=false:=by simp;omega
      by_cases r:b.toNat=95
      ·have R:((b.toNat:Int) == 95)=true:=by simp;omega
       have f:=zH (t.out (by simp [BL.canon,r]))
       clear r
       go_wp2_with fail
       go_round
       case rel=>exact⟨k+1,by omega,by go_num,f⟩
       case measure=>simp [intOf];omega
      ·have R:((b.toNat:Int) == 95)=false:=by simp;omega
       have a:=zH (F.out (by simp [BL.canon];omega))
       go_wp2_with fail
       go_ret
       exact⟨by rw [a.out];rfl,Below.refl _ _⟩
    ·have d3:¬ (48:Int)<=(b.toNat:Int):=by omega
     have R:((b.toNat:Int) == 95)=false:=by simp;omega
     by_cases r:b.toNat=45
     ·have Q:((b.toNat:Int) == 45)=true:=by simp;omega
      have f:=zH (t.out (by simp [BL.canon,r]))
      clear r
      go_wp2_with fail
      go_round
      case rel=>exact⟨k+1,by omega,by go_num,f⟩
      case measure=>simp [intOf];omega
     ·have Q:((b.toNat:Int) == 45)=false:=by simp;omega
      have a:=zH (F.out (by simp [BL.canon];omega))
      go_wp2_with fail
      go_ret
      exact⟨by rw [a.out];rfl,Below.refl _ _⟩
  ·obtain rfl:k=l.length:=by omega
   rw [List.take_of_length_le (zN _)] at P
   have d:=zd.out P.out
   have c:=BL.OJ l
   have G:=zH (fun W=>Bn (l.drop 4) W (by simp;omega))
   clear ze I g H
   by_cases h4:l.length < 4
   ·have zi:(l.length:Int) < 4:=by omega
    rw [c,decide_eq_false (by omega)] at d
    have q:=zH d
    clear d c
    go_wp2_with fail
    go_ret
    exact⟨by rw [q.out];rfl,Below.refl _ _⟩
   have zi:¬ (l.length:Int) < 4:=by omega
   rw [decide_eq_true (by omega),Bool.true_and] at c
   obtain⟨s,zq,C⟩:∃ s:ByteArray,sv.extract 0 4=s/\(s.toList == [120,110,45,45])=(l.take 4 == BL.pre):=by
    refine⟨str (l.take 4),?_,by rw [AQ];rfl⟩
    rw [zb.out,Lib.extract_eq];rfl
   obtain⟨Y,zr,zg⟩:∃ Y:ByteArray,sv.extract 4 l.length=Y/\Hid (Y=str (l.drop 4)):=by
    refine⟨_,rfl,zH ?_⟩
    rw [zb.out,Lib.extract_eq,show (str l).data.toList=l from rfl,List.take_of_length_le (by simp)];rfl
   rw [<-zg.out] at G
   have e4:(4:Int)<=(l.length:Int):=by omega
   cases B:(l.take 4 == BL.pre) with
  |false =>
    rw [B] at C c
    rw [c] at d
    have zl:(s.toList != [120,110,45,45])=true:=by rw [bne,C];rfl
    have q:=zH d
    clear d c B G
    go_wp2_with fail
    go_ret
    exact⟨by rw [q.out];rfl,Below.refl _ _⟩
  |true =>
    rw [B] at C c
    rw [c] at d
    have zl:(s.toList != [120,110,45,45])=false:=by rw [bne,C];rfl
    have q:=zH d
    clear d c B
    go_wp2_with fail
    refine (G.out _).mono ?_;rintro e w2 ⟨rfl,zj⟩
    go_wp2_with fail
    go_ret
    exact⟨by rw [q.out];rfl,zj⟩
end
end Go.Proofs.YtmanejniepghlaaGreatDoor
