import Derived.Test.YtmanejniepghlaaGreatDoorRun0
import Derived.Below
import Derived.Deep.QuietTactic
import Derived.BigQuiet
import Derived.Deep.DeepMust
set_option maxHeartbeats 2000000
namespace Go.Proofs.YtmanejniepghlaaGreatDoor
section
open Go.RowKit
theorem Wa (β:Bool) (n:Int) (w:World) (_h1:-9223372036854775808<=n) (_h2:n<=9223372036854775807):Calls Tryz.prog (cond β 248 231) #[n] w fun e a=>e=.returned (.bool (Pu.point n))/\w=a:=by
 cases β <;> dsimp only [cond]
 all_goals
  by_cases h0:n < 0
  case' neg=>
   by_cases b:1114111 < n
   ·rw [show Pu.point n=false by rw [<-Bool.not_eq_true,Pu.BC];omega]
    go_in
    go_wp2
    go_ret
    exact⟨rfl,rfl⟩
   by_cases c:n < 55296
   ·rw [show Pu.point n=true by rw [Pu.BC];omega]
    go_in
    go_wp2
    go_ret
    exact⟨rfl,rfl⟩
   by_cases d:57343 < n
   ·rw [show Pu.point n=true by rw [Pu.BC];omega]
    go_in
    go_wp2
    go_ret
    exact⟨rfl,rfl⟩
  all_goals
   rw [show Pu.point n=false by rw [<-Bool.not_eq_true,Pu.BC];omega]
   go_in
   go_wp2
   go_ret
   exact⟨rfl,rfl⟩
theorem Vg (β:Bool) (d:Int) (w:World) (h0:0<=d) (c:d < 36):Calls Tryz.prog (cond β 260 232) #[d] w fun e b=>e=.returned (bv (Pu.digit d))/\w=b:=by
 cases β <;> dsimp only [cond]
 all_goals
  unfold bv Pu.digit
  by_cases h:d < 26
  case' _=>
   rw [if_pos h]
   have a:((UInt8.ofNat (97+d).toNat).toNat:Int)=97+d:=by
    have:(UInt8.ofNat (97+d).toNat).toNat=(97+d).toNat:=by simp;omega
    rw [this];omega
  rotate_left
  case' _=>
   rw [if_neg h]
   have a:((UInt8.ofNat (48+d - 26).toNat).toNat:Int)=48+d - 26:=by
    have:(UInt8.ofNat (48+d - 26).toNat).toNat=(48+d - 26).toNat:=by simp;omega
    rw [this];omega
  all_goals
   rw [a]
   clear a
   go_in
   go_wp2
   go_ret
   exact⟨rfl,rfl⟩
theorem Np (β:Bool) (b:UInt8) (w:World):Calls Tryz.prog (cond β 265 228) #[.int .u8 (b.toNat:Int)] w fun e j=>e=.returned (.int .i64 (Pu.value b))/\w=j:=by
 cases β <;> dsimp only [cond]
 all_goals
  have k:=b.toNat_lt
  unfold Pu.value
  generalize b.toNat=x at *
  by_cases d:97<=x/\x<=122
  ·rw [if_pos d]
   obtain⟨g1,i⟩:=d
   go_in
   go_wp2
   go_ret
   exact⟨rfl,rfl⟩
  rw [if_neg d]
  by_cases c:65<=x/\x<=90
  ·rw [if_pos c]
   obtain⟨g1,i⟩:=c
   go_in
   go_wp2
   go_ret
   exact⟨rfl,rfl⟩
  rw [if_neg c]
  by_cases a:48<=x/\x<=57
  ·rw [if_pos a]
   obtain⟨g1,i⟩:=a
   go_in
   go_wp2
   go_ret
   exact⟨rfl,rfl⟩
  rw [if_neg a]
  have f:x < 97\/122 < x:=by omega
  have g:x < 65\/90 < x:=by omega
  have h:x < 48\/57 < x:=by omega
  clear d c a
  rcases f with f|f <;> rcases g with g|g <;> rcases h with h|h
  all_goals first|omega|skip
  all_goals
   go_in
   go_wp2
   go_ret
   exact⟨rfl,rfl⟩
theorem Vf (β:Bool) (delta count:Int) (first:Bool) (w:World) (q:0<=delta) (B:delta<=2199023255552) (p:1<=count) (A:count<=100000) :
 Calls Tryz.prog (cond β 250 230) #[delta,count,.bool first] w fun e y=>e=.returned (.int .i64 (Pu.adapt delta count first))/\w=y:=by
 cases β <;> dsimp only [cond]
 all_goals
  obtain⟨u,J⟩:=Pu.JP delta count first q p
  unfold Pu.adapt
  obtain⟨R,c⟩:∃ R,R=Pu.EC ((Pu.DG delta count first).toNat+1) (Pu.DG delta count first) 0:=⟨_,rfl⟩
  have n:Pu.DG delta count first=(if first then delta / 700 else delta / 2)+(if first then delta / 700 else delta / 2) / count:=rfl
  rw [<-c]
  generalize Pu.DG delta count first=S at *
  have r:=zH c;have m:=zH n
  clear c n
  have h:∀ x:Int,0<=x->0<=x / count/\x / count<=x:=fun x o=>⟨Int.ediv_nonneg o (by omega),Int.ediv_le_self _ o⟩
  cases first
  case' _=>
   have i:=zH (show delta / 2+delta / 2 / count=S by rw [m.out];rfl)
   obtain⟨s,t⟩:=h (delta / 2) (by omega)
  rotate_left
  case' _=>
   have i:=zH (show delta / 700+delta / 700 / count=S by rw [m.out];rfl)
   obtain⟨s,t⟩:=h (delta / 700) (by omega)
  all_goals
   clear h
   go_in
   go_wp2
   rw [i.out]
   go_loop [0,7] (fun d k=>∃ (D K:Int) (f:Nat),d=.int .i64 D/\k=.int .i64 K/\0<=D/\0<=K/\K+D<=5000000000000/\D < f/\Hid (Pu.EC f D K=R)) (fun d _=>(intOf d).toNat)
   case atStart=>exact⟨S,0,S.toNat+1,rfl,rfl,u,Int.le_refl _,by omega,by omega,zH r.out.symm⟩
   case round =>
    obtain⟨D,K,f,rfl,rfl,C,F,z,G,l⟩:=hrel
    obtain⟨f,rfl⟩:∃ g,f=g+1:=⟨f - 1,by omega⟩
    by_cases j:455 < D
    ·have a:=l.out
     rw [Pu.EC,if_pos j] at a
     have b:=zH a
     clear a
     go_wp2
     go_round
     case rel=>exact⟨D / 35,K+36,f,rfl,rfl,by omega,by omega,by omega,by omega,b⟩
     case measure=>simp [intOf];omega
    ·have a:=l.out
     rw [Pu.EC,if_neg j] at a
     have H:0<=36 * D / (D+38):=Int.ediv_nonneg (by omega) (by omega)
     have I:36 * D / (D+38)<=36 * D:=Int.ediv_le_self _ (by omega)
     have b:=zH a
     clear a
     go_wp2
     rw [b.out]
     go_ret
     exact⟨rfl,rfl⟩
end
section
open Go.RowKit
variable {w w' w1 w2:World} {F F' F2 G:Nat->Prop} {B c g n:Nat} {a:Option Addr} {l:List (Int × Int)} {x:Addr}
structure AD (F:Nat->Prop) (w:World) (F':Nat->Prop) (w':World):Prop where
 os:w'.os=w.os
 tape:w'.tape=w.tape
 output:w'.output=w.output
 size:w.heap.size<=w'.heap.size
 block:∀ k,k < w.heap.size->¬ F k->w'.heap[k]?=w.heap[k]?
 new:∀ k,F' k->F k\/w.heap.size<=k
theorem AD.refl (F:Nat->Prop) (w:World):AD F w F w:=⟨rfl,rfl,rfl,zN _,fun _ _ _=>rfl,fun _ h=>.inl h⟩
theorem AD.trans {b:Nat->Prop} (h:AD F w b w1) (k:AD b w1 F2 w2):AD F w F2 w2 where
 os:=k.os.trans h.os
 tape:=k.tape.trans h.tape
 output:=k.output.trans h.output
 size:=Nat.le_trans h.size k.size
 block i hi hF:=(k.block i (Nat.lt_of_lt_of_le hi h.size) (fun e=>by rcases h.new i e with d|d;exact hF d;omega)).trans (h.block i hi hF)
 new i hi:=by
  rcases k.new i hi with e|e
  ·exact h.new i e
  ·exact .inr (Nat.le_trans h.size e)
theorem AD.AL (h:Below w.heap.size w w'):AD F w F w':=⟨h.os,h.tape,h.output,h.size,fun k b _=>h.block k b,fun _ h=>.inl h⟩
theorem AD.ext (h:AD F w F' w1) (k:Below w1.heap.size w1 w2):AD F w F' w2:=h.trans (AD.AL k)
theorem AD.drew (h:AD F w F' w1):AD F w F' w1.drew:=⟨h.os,h.tape,h.output,h.size,h.block,h.new⟩
theorem AD.drewN (h:AD F w F' w1) (n:Nat):AD F w F' (w1.drewN n):=⟨h.os,h.tape,h.output,h.size,h.block,h.new⟩
theorem AD.alloc (h:AD F w F' w1) (o:Obj):AD F w F' (w1.alloc o):=h.ext ((Below.refl _ _).alloc (zN _) o)
theorem AD.setCell (h:AD F w F' w1) (d:F g\/w.heap.size<=g) (o:Nat) (v:Value):AD F w F' (w1.setCell (g o) v) where
 os:=h.os
 tape:=h.tape
 output:=h.output
 size:=by simpa using h.size
 block k hk hF:=(heap_setCell_other _ _ _ _ (fun e=>by subst e;rcases d with b|b;exact hF b;omega)).trans (h.block k hk hF)
 new:=h.new
theorem AD.but (h:AD F w F' w1) (d:F g\/w.heap.size<=g) (k:BQ g w1 w2):AD F w F' w2 where
 os:=k.os.trans h.os
 tape:=k.tape.trans h.tape
 output:=k.output.trans h.output
 size:=Nat.le_trans h.size k.size
 block i hi hF:=(k.block i (Nat.lt_of_lt_of_le hi h.size) (fun e=>by subst e;rcases d with b|b;exact hF b;omega)).trans (h.block i hi hF)
 new:=h.new
theorem AD.grown {row:Option Nat} (h:AD F w F' w1) (d:∀ g,row=some g->F g\/w.heap.size<=g) (k:w1.grownBy w2 row):AD F w F' w2 where
 os:=k.os.trans h.os
 tape:=k.tape.trans h.tape
 output:=k.output.trans h.output
 size:=Nat.le_trans h.size k.size
 block i hi hF:=(k.block i (Nat.lt_of_lt_of_le hi h.size) (fun e=>by rcases d i e.symm with b|b;exact hF b;omega)).trans (h.block i hi hF)
 new:=h.new
theorem AD.grow (h:AD F w F' w1) (b:∀ k,F2 k->F k\/w.heap.size<=k):AD F w F2 w1:=⟨h.os,h.tape,h.output,h.size,h.block,b⟩
theorem AD.below {b:World} (h:AD F w F' w') (d:Below B b w) (hF:∀ k,F k->B<=k) (f:B<=w.heap.size):Below B b w' :=
 d.trans ⟨h.os,h.tape,h.output,h.size,fun k i=>h.block k (by omega) (fun e=>by have:=hF k e;omega)⟩
theorem AD.lo (h:AD F w F' w') (hF:∀ k,F k->B<=k) (d:B<=w.heap.size):∀ k,F' k->B<=k:=fun k b=>by
 rcases h.new k b with e|e
 ·exact hF k e
 ·omega
theorem AD.apart (h:AD F w F' w') (hF:∀ k,F k->¬ G k) (d:∀ k,G k->k < w.heap.size):∀ k,F' k->¬ G k:=fun k f b=>by
 rcases h.new k f with e|e
 ·exact hF k e b
 ·have:=d k b;omega
theorem AD.stays (h:AD F w F' w') (hF:∀ k,F k->¬ G k) (d:∀ k,G k->k < w.heap.size):∀ k,G k->w'.heap[k]?=w.heap[k]?:=fun k b=>h.block k (d k b) (fun e=>hF k e b)
theorem AM.AI {l:List UInt8} (h:AM w a n c l) (e:∀ x,a=some x->l ≠ []->w'.heap[x.block]?=w.heap[x.block]?) (p:w.heap.size<=w'.heap.size):AM w' a n c l:=by
 obtain⟨o,hn,m,h0,j⟩:=h
 refine⟨o,hn,m,h0,fun x d i b=>?_⟩
 obtain⟨hs,k,f⟩:=j x d i b
 exact⟨hs,Nat.lt_of_lt_of_le k p,(World.cell?_of_block (a:=(x.block (x.off+i))) (e x d (by rintro rfl;simp at b))).trans f⟩
theorem AM.upd {l:List UInt8} (h:AM w a n c l) (k:AD F w F' w') (hF:∀ x,a=some x->l ≠ []->¬ F x.block):AM w' a n c l :=
 h.AI (fun x d b=>k.block _ ((h.2.2.2.2 x d 0 (List.length_pos_iff.2 b)).2.1) (hF x d b)) k.size
theorem AM.blt {l:List UInt8} (h:AM w (some x) n c l) (b:l ≠ []):x.block < w.heap.size:=(h.2.2.2.2 x rfl 0 (List.length_pos_iff.2 b)).2.1
theorem AC.upd {base:Nat} {v:Value} {l:List UInt8} (h:AC base w v l) (k:AD F w F' w') (hF:∀ g,v.ownBlock=some g->¬ F g):AC base w' v l:=by
 refine⟨h.1,?_⟩
 rcases h.2 with hn|⟨g,cap,d,rfl,e,b,rest⟩
 ·exact .inl hn
 ·exact .inr ⟨g,cap,d,rfl,e,(k.block g (Array.getElem?_eq_some_iff.1 b).1 (hF g rfl)).trans b,rest⟩
def CZ (w:World) (a:Option Addr) (n c:Nat) (l:List (Int × Int)):Prop :=
 l.length=n/\n<=c/\c<=maxLen/\(a=none->l=[]/\c=0) ∧
  ∀ x,a=some x->∀ i (h:i < l.length),x.spot=none/\x.block < w.heap.size/\w.cell? (x.block (x.off+i * 2))=some (.int .i64 l[i].1)/\w.cell? (x.block (x.off+i * 2+1))=some (.int .i64 l[i].2)
theorem CZ.len (h:CZ w a n c l):l.length=n:=h.1
theorem CZ.le (h:CZ w a n c l):n<=9223372036854775807:=by
 have:=h.2.1;have:=h.2.2.1;unfold maxLen at *;omega
theorem CZ.nil (w:World):CZ w none 0 0 []:=⟨rfl,zN _,by unfold maxLen;omega,fun _=>⟨rfl,rfl⟩,fun x b=>by cases b⟩
theorem CZ.at (h:CZ w a n c l) {k:Nat} (p:k < n) :
 ∃ b o,a=some ((b:Nat) o)/\b < w.heap.size/\w.cell? (b (o+k * 2))=some (.int .i64 (l[k]?.getD (0,0)).1)/\w.cell? (b (o+k * 2+1))=some (.int .i64 (l[k]?.getD (0,0)).2):=by
 obtain⟨j,hn,m,h0,e⟩:=h
 cases a with
|none=>have:=(h0 rfl).1;subst this;simp at j;omega
|some x =>
  obtain⟨b,o,q⟩:=x
  have d:k < l.length:=by omega
  obtain⟨hs,f,i⟩:=e _ rfl k d
  simp only at hs;subst hs
  refine⟨b,o,rfl,f,?_⟩
  rw [List.getElem?_eq_getElem d]
  exact i
theorem CZ.AI (h:CZ w a n c l) (e:∀ x,a=some x->l ≠ []->w'.heap[x.block]?=w.heap[x.block]?) (r:w.heap.size<=w'.heap.size):CZ w' a n c l:=by
 obtain⟨q,hn,p,h0,m⟩:=h
 refine⟨q,hn,p,h0,fun x f i d=>?_⟩
 obtain⟨hs,o,j,k⟩:=m x f i d
 have b:=e x f (by rintro rfl;simp at d)
 exact⟨hs,Nat.lt_of_lt_of_le o r,(World.cell?_of_block (a:=(x.block (x.off+i * 2))) b).trans j,(World.cell?_of_block (a:=(x.block (x.off+i * 2+1))) b).trans k⟩
theorem CZ.ext (h:CZ w a n c l) (e:Below w.heap.size w w'):CZ w' a n c l :=
 h.AI (fun x d b=>e.block _ ((h.2.2.2.2 x d 0 (List.length_pos_iff.2 b)).2.1)) e.size
theorem CZ.upd (h:CZ w a n c l) (k:AD F w F' w') (hF:∀ x,a=some x->l ≠ []->¬ F x.block):CZ w' a n c l :=
 h.AI (fun x d b=>k.block _ ((h.2.2.2.2 x d 0 (List.length_pos_iff.2 b)).2.1) (hF x d b)) k.size
theorem CZ.blt (h:CZ w (some x) n c l) (b:l ≠ []):x.block < w.heap.size:=(h.2.2.2.2 x rfl 0 (List.length_pos_iff.2 b)).2.1
end
end Go.Proofs.YtmanejniepghlaaGreatDoor
namespace Go.Proofs.YtmanejniepghlaaGreatDoor.AX
variable {c:Nat}
def step (c:Nat):Nat:=if c % 2=0 then c / 2 else (c / 2) ^^^ 3988292384
def steps:Nat->Nat->Nat
|0,c=>c
|n+1,c=>steps n (step c)
def byte (c:Nat) (b:UInt8):Nat:=steps 8 (c ^^^ b.toNat)
def update (s:Nat) (l:List UInt8):Nat:=4294967295 - l.foldl byte (4294967295 - s)
theorem NA {a b:Nat} (d:a < 4294967296) (e:b < 4294967296):a ^^^ b < 4294967296:=Nat.xor_lt_two_pow (n:=32) d e
theorem Lz (h:c < 4294967296):step c < 4294967296:=by
 unfold step;split
 ·omega
 ·exact NA (by omega) (by decide)
theorem KP (n:Nat) (h:c < 4294967296):steps n c < 4294967296:=by
 induction n generalizing c with
|zero=>exact h
|succ n ih=>exact ih (Lz h)
theorem OP (n c:Nat):steps (n+1) c=step (steps n c):=by
 induction n generalizing c with
|zero=>rfl
|succ n ih=>exact ih (step c)
theorem Il (h:c < 4294967296) (b:UInt8):byte c b < 4294967296 :=
 KP 8 (NA h (by have:=b.toNat_lt;omega))
theorem JG (l:List UInt8) (h:c < 4294967296):l.foldl byte c < 4294967296:=by
 induction l generalizing c with
|nil=>exact h
|cons b l ih=>exact ih (Il h b)
theorem BX (s:Nat) (l:List UInt8):update s l < 4294967296:=by unfold update;omega
end Go.Proofs.YtmanejniepghlaaGreatDoor.AX
namespace Go.Proofs.YtmanejniepghlaaGreatDoor.AX
theorem BJ {n:Nat} (h:n < 256):(UInt8.ofNat n).toNat=n:=by simp [Nat.mod_eq_of_lt h]
def CC (v:Nat):List UInt8:=[UInt8.ofNat (v % 256),UInt8.ofNat (v / 256 % 256),UInt8.ofNat (v / 65536 % 256),UInt8.ofNat (v / 16777216)]
def BP (l:List UInt8):Nat:=(l[0]?.getD 0).toNat+(l[1]?.getD 0).toNat * 256+(l[2]?.getD 0).toNat * 65536+(l[3]?.getD 0).toNat * 16777216
end Go.Proofs.YtmanejniepghlaaGreatDoor.AX
namespace Go.Proofs.YtmanejniepghlaaGreatDoor.Su
open AX
def le:Nat->Nat->List UInt8
|0,_=>[]
|n+1,v=>UInt8.ofNat (v % 256) :: le n (v / 256)
def unle:List UInt8->Nat
|[]=>0
|b :: l=>b.toNat+256 * unle l
theorem AU (n v:Nat):(le n v).length=n:=by
 induction n generalizing v with
|zero=>rfl
|succ n ih=>simp [le,ih]
theorem CV (l:List UInt8):unle l < 256 ^ l.length:=by
 induction l with
|nil=>simp [unle]
|cons b l ih =>
  have:=b.toNat_lt
  rw [unle,List.length_cons,Nat.pow_succ];omega
theorem IX (a b:List UInt8):unle (a ++ b)=unle a+256 ^ a.length * unle b:=by
 induction a with
|nil=>simp [unle]
|cons x a ih=>rw [List.cons_append,unle,unle,ih,List.length_cons,Nat.pow_succ,Nat.mul_add,Nat.mul_comm (256 ^ a.length) 256,Nat.mul_assoc,Nat.add_assoc]
theorem DU (v:Nat) (a:v < 4294967296):le 4 v=CC v:=by
 simp only [le,CC]
 rw [show v / 256 / 256=v / 65536 by omega,show v / 65536 / 256=v / 16777216 by omega,show v / 16777216 % 256=v / 16777216 by omega]
theorem Ef (v:Nat) (a:v < 18446744073709551616):le 8 v=CC (v % 4294967296) ++ CC (v / 4294967296):=by
 rw [<-DU _ (Nat.mod_lt _ (by decide)),<-DU _ (by omega)]
 simp only [le,List.cons_append,List.nil_append]
 congr 1
 ·congr 1;omega
 congr 1
 ·congr 1;omega
 congr 1
 ·congr 1;omega
 congr 1
 ·congr 1;omega
 congr 1
 ·congr 1;omega
 congr 1
 ·congr 1;omega
 congr 1
 ·congr 1;omega
 congr 1
 ·congr 1;omega
theorem EZ (l:List UInt8) (h:l.length=4):unle l=BP l:=by
 match l,h with
|[a,b,c,d],_=>simp only [unle,BP,List.getElem?_cons_zero,List.getElem?_cons_succ,Option.getD_some];omega
def spl (l:List UInt8) (o:Nat) (a:List UInt8):List UInt8:=l.take o ++ a ++ l.drop (o+a.length)
theorem EA (l:List UInt8) (o:Nat) (a:List UInt8) (h:o+a.length<=l.length):(spl l o a).length=l.length:=by simp [spl];omega
theorem VH (l:List UInt8) (o:Nat):spl l o []=l:=by simp [spl]
theorem TY (l:List UInt8) (o:Nat) (a:List UInt8) (b:UInt8) (h:o+a.length < l.length):(spl l o a).set (o+a.length) b=spl l o (a ++ [b]):=by
 unfold spl
 have c:(l.take o ++ a).length=o+a.length:=by simp;omega
 rw [List.set_append_right _ _ (by omega),c,Nat.sub_self,List.drop_eq_getElem_cons h,List.set_cons_zero]
 simp [Nat.add_assoc]
theorem le_succ (k v:Nat):le (k+1) v=le k v ++ [UInt8.ofNat (v / 256 ^ k % 256)]:=by
 induction k generalizing v with
|zero=>simp [le]
|succ k ih =>
  rw [le,ih (v / 256),le,List.cons_append]
  congr 3
  rw [Nat.div_div_eq_div_mul,Nat.pow_succ,Nat.mul_comm 256]
structure S where
 gen:Nat
 act:Int
 AA:Nat
 len:Int
 sum:Nat
 deriving DecidableEq
def zero:S:=⟨0,0,0,0,0⟩
def S.fits (s:S):Prop:=s.gen < 18446744073709551616/\s.AA < 4294967296/\s.sum < 4294967296
def AB (s:S):Bool:=(s.act == 0 || s.act == 1) && decide (0<=s.len) && decide (s.len<=262144)
def body (s:S):List UInt8:=[72,83,84,83,1,UInt8.ofNat s.act.toNat] ++ le 8 s.gen ++ le 4 s.AA ++ le 4 s.len.toNat ++ le 4 s.sum ++ List.replicate 34 0
def enc (s:S):List UInt8:=body s ++ CC (update 0 (body s))
def field (b:List UInt8) (i n:Nat):Nat:=unle ((b.drop i).take n)
def fields (b:List UInt8):S:=⟨field b 6 8,((b[5]?.getD 0).toNat:Int),field b 14 4,(field b 18 4:Int),field b 22 4⟩
def dec (b:List UInt8):S × Int :=
 if b.length ≠ 64 then (zero,5)
 else if BP (b.drop 60) ≠ update 0 (b.take 60) then (zero,7)
 else if AB (fields b)=true/\enc (fields b)=b then (fields b,0) else (zero,6)
theorem EE (s:S):(body s).length=60:=by simp [body,AU]
theorem CK (s:S):(enc s).length=64:=by simp [enc,EE,CC]
def choose (a b:List UInt8):Int × S × Int :=
 if (dec a).2 ≠ 0/\(dec b).2 ≠ 0 then (0,zero,13)
 else if (dec a).2 ≠ 0\/((dec b).2=0/\(dec a).1.gen < (dec b).1.gen) then (1,(dec b).1,0)
 else (0,(dec a).1,0)
def lay (gen act AA len sum:Nat):List UInt8 :=
 spl (spl (spl (spl (((List.take 0 (List.replicate 64 (0:UInt8)) ++ (ByteArray.mk #[72,83,84,83]).data.toList ++ List.drop (0+(ByteArray.mk #[72,83,84,83]).size) (List.replicate 64 0)).set 4 1).set 5 (UInt8.ofNat act)) 6 (le 8 gen)) 14 (le 4 AA)) 18 (le 4 len)) 22 (le 4 sum)
theorem Ia (gen act AA len sum:Nat):lay gen act AA len sum=body ⟨gen,act,AA,len,sum⟩ ++ [0,0,0,0]:=rfl
theorem TF (gen act AA len sum:Nat):((lay gen act AA len sum).drop 0).take 60=body ⟨gen,act,AA,len,sum⟩:=by
 rw [Ia,List.drop_zero,<-EE ⟨gen,act,AA,len,sum⟩,List.take_left]
theorem UT (gen act AA len sum:Nat):spl (lay gen act AA len sum) 60 (le 4 (update 0 (body ⟨gen,act,AA,len,sum⟩)))=enc ⟨gen,act,AA,len,sum⟩:=by
 have h:=EE ⟨gen,act,AA,len,sum⟩
 rw [DU _ (BX _ _),spl,Ia,List.take_append_of_le_length (by omega),List.take_of_length_le (by omega),List.drop_eq_nil_of_le (by simp [h,CC]),List.append_nil];rfl
theorem AW {s:S} (f:AB s=true) (k:s.fits):∃ gen act AA len sum:Nat,s=⟨gen,act,AA,len,sum⟩/\gen < 18446744073709551616/\AA < 4294967296/\sum < 4294967296/\len<=262144/\act < 2:=by
 obtain⟨g,a,e,l,m⟩:=s
 obtain⟨b,c,d⟩:=k
 simp only [AB,Bool.and_eq_true,Bool.or_eq_true,beq_iff_eq,decide_eq_true_eq] at f
 obtain⟨⟨j,h⟩,i⟩:=f
 simp only at b c d j h i
 refine⟨g,a.toNat,e,l.toNat,m,?_,b,c,d,by omega,by omega⟩
 congr 1 <;> omega
theorem OX (gen act AA len sum:Nat) (a:gen < 18446744073709551616) (b:AA < 4294967296) (c:sum < 4294967296) (d:len < 4294967296) :
 body ⟨gen,act,AA,len,sum⟩=[72,83,84,83,1,UInt8.ofNat act] ++ CC (gen % 4294967296) ++ CC (gen / 4294967296) ++ CC AA ++ CC len ++ CC sum ++ List.replicate 34 0:=by
 unfold body
 rw [Ef _ a,DU _ b,DU _ c,Int.toNat_natCast,Int.toNat_natCast,DU _ d]
 simp only [List.append_assoc]
end Go.Proofs.YtmanejniepghlaaGreatDoor.Su
namespace Go.Proofs.YtmanejniepghlaaGreatDoor
section
namespace Dd
structure Dk where
 st:List (List UInt8)
 ca:List (Option (List UInt8))
 fs:List (Int × Int)
 cnt:Int
 off:Bool
structure Dk.Ok (d:Dk):Prop where
 len:d.ca.length=d.st.length
 pos:1<=d.st.length
 max:d.st.length<=4096
 st64:∀ x ∈ d.st,x.length=64
 ca64:∀ x,some x ∈ d.ca->x.length=64
def new (n:Nat):Dk:=⟨List.replicate n (List.replicate 64 0),List.replicate n none,[],0,false⟩
def BB (n:Nat) (l:List UInt8):List (List UInt8):=(List.range n).map fun i=>(l.drop (64 * i)).take 64
def load (n:Nat) (l:List UInt8):Dk:=⟨BB n l,List.replicate n none,[],0,false⟩
def fault (d:Dk):Int:=((d.fs.find? fun f=>f.1 == d.cnt).map (·.2)).getD 0
def tick (d:Dk):Dk:={ d with cnt:=Go.RowKit.wrap64 (d.cnt+1) }
def cut (d:Dk):Dk:={ d with off:=true }
def begin (d:Dk) (fits:Bool):Bool × Int × Dk :=
 if d.off then (false,10,d) else if fits then (if fault d=1 then (false,9,tick d) else if fault d=2 then (true,0,tick d) else (false,0,tick d)) else (false,2,d)
def content (d:Dk) (i:Nat):List UInt8:=((d.ca[i]?.getD none).getD (d.st[i]?.getD []))
def fits (d:Dk) (i:Int):Bool:=decide (0<=i) && decide (i < (d.st.length:Int))
def put (d:Dk) (i:Nat) (x:List UInt8):Dk:={ d with ca:=d.ca.set i (some x) }
def flush (d:Dk):Dk:={ d with st:=(List.range d.st.length).map (content d),ca:=List.replicate d.ca.length none }
def read (d:Dk) (i:Int):List UInt8 × Int × Dk :=
 match begin d (fits d i) with
|(true,_,d')=>([],10,cut d')
|(false,e,d')=>if e=0 then (content d i.toNat,0,d') else ([],e,d')
def write (d:Dk) (i:Int) (x:List UInt8):Int × Dk :=
 match begin d (fits d i && decide (x.length=64)) with
|(true,_,d')=>(10,cut (put d' i.toNat x))
|(false,e,d')=>if e=0 then (0,put d' i.toNat x) else (e,d')
def sync (d:Dk):Int × Dk :=
 match begin d true with
|(true,_,d')=>(10,cut d')
|(false,e,d')=>if e=0 then (0,flush d') else (e,d')
def tear (d:Dk) (k:Int × Int):Dk :=
 if 0<=k.1 then
  match d.ca[k.1.toNat]? with
 |some (some x)=>{ d with st:=d.st.set k.1.toNat (x.take (min (max k.2 0) 64).toNat ++ (d.st[k.1.toNat]?.getD []).drop (min (max k.2 0) 64).toNat) }
 |_=>d
 else d
def restart (d:Dk) (keep:List (Int × Int)):Dk :=
 { keep.foldl tear d with ca:=List.replicate d.ca.length none,fs:=[],cnt:=0,off:=false }
def badf (p:Int × Int):Bool:=(p.2 != 1 && p.2 != 2) || decide (p.1 < 0)
def CA (fs:List (Int × Int)):Bool:=decide (fs.length<=64) && !fs.any badf
def arm (d:Dk) (fs:List (Int × Int)):Int × Dk:=if CA fs then (0,{ d with fs:=fs,cnt:=0 }) else (1,d)
def dirty (d:Dk):List Int:=((List.range d.ca.length).filter fun (i:Nat)=>(d.ca[i]?.getD none).isSome).map fun (i:Nat)=>(i:Int)
theorem CO (st:List (List UInt8)) (h:∀ x ∈ st,x.length=64):st.flatten.length=64 * st.length:=by
 induction st with
|nil=>rfl
|cons a st ih =>
  have c:=h a (by simp)
  have d:=ih (fun x b=>h x (by simp [b]))
  simp only [List.flatten_cons,List.length_append,List.length_cons];omega
theorem Xs (st:List (List UInt8)) (h:∀ x ∈ st,x.length=64) (i:Nat):st.flatten.drop (64 * i)=(st.drop i).flatten:=by
 induction st generalizing i with
|nil=>simp
|cons a st ih =>
  have b:=h a (by simp)
  cases i with
 |zero=>simp
 |succ i =>
   rw [List.flatten_cons,List.drop_append,List.drop_of_length_le (by omega),b,show 64 * (i+1) - 64=64 * i by omega,ih (fun x c=>h x (by simp [c]))];simp
theorem Ys (st:List (List UInt8)) (h:∀ x ∈ st,x.length=64) (i:Nat):st.flatten.take (64 * i)=(st.take i).flatten:=by
 induction st generalizing i with
|nil=>simp
|cons a st ih =>
  have b:=h a (by simp)
  cases i with
 |zero=>simp
 |succ i =>
   rw [List.flatten_cons,List.take_append,List.take_of_length_le (by omega),b,show 64 * (i+1) - 64=64 * i by omega,ih (fun x c=>h x (by simp [c]))];simp
theorem RF (st:List (List UInt8)) (h:∀ x ∈ st,x.length=64) (i:Nat) (a:i < st.length):(st.flatten.drop (64 * i)).take 64=st[i]?.getD []:=by
 rw [Xs st h,List.drop_eq_getElem_cons a,List.flatten_cons,List.take_append,List.take_of_length_le (by have:=h st[i] (List.getElem_mem a);omega),h st[i] (List.getElem_mem a)]
 simp [a]
theorem NU (st:List (List UInt8)) (h:∀ x ∈ st,x.length=64) (i:Nat) (a:i < st.length) (x:List UInt8) (m:Nat) (d:x.length=m) (c:m<=64) :
 st.flatten.take (64 * i) ++ x ++ st.flatten.drop (64 * i+m)=(st.set i (x ++ (st[i]?.getD []).drop m)).flatten:=by
 have b:=h st[i] (List.getElem_mem a)
 rw [Ys st h,<-List.drop_drop,Xs st h,List.set_eq_take_append_cons_drop,if_pos a,List.flatten_append,List.flatten_cons,List.drop_eq_getElem_cons a,List.flatten_cons,List.drop_append]
 simp only [List.getElem?_eq_getElem a,Option.getD_some]
 rw [show m - st[i].length=0 by omega]
 simp
theorem NM (n:Nat) (l:List UInt8) (h:l.length=64 * n):(BB n l).flatten=l:=by
 induction n generalizing l with
|zero=>simp [BB];exact List.eq_nil_of_length_eq_zero (by omega)
|succ n ih =>
  have:=ih (l.drop 64) (by simp;omega)
  unfold BB at this ⊢
  rw [List.range_succ_eq_map]
  simp only [List.map_cons,List.map_map,List.flatten_cons]
  have e:((fun i=>(l.drop (64 * i)).take 64) ∘ Nat.succ)=fun i=>((l.drop 64).drop (64 * i)).take 64:=by
   funext i;simp only [Function.comp,List.drop_drop];congr 2;omega
  rw [e,this];simp
theorem EJ (n:Nat) (l:List UInt8):(BB n l).length=n:=by simp [BB]
theorem JS (n:Nat) (l:List UInt8) (h:l.length=64 * n):∀ x ∈ BB n l,x.length=64:=by
 intro x b
 obtain⟨i,a,rfl⟩:=List.mem_map.1 b
 have:=List.mem_range.1 a
 rw [List.length_take,List.length_drop];omega
theorem Dk.Ok.tick {d:Dk} (h:d.Ok):(tick d).Ok:=⟨h.len,h.pos,h.max,h.st64,h.ca64⟩
theorem Dk.Ok.cut {d:Dk} (h:d.Ok):(cut d).Ok:=⟨h.len,h.pos,h.max,h.st64,h.ca64⟩
theorem Dk.Ok.put {d:Dk} (h:d.Ok) (i:Nat) (x:List UInt8) (b:x.length=64):(put d i x).Ok :=
 ⟨by simp [Dd.put,h.len],h.pos,h.max,h.st64,fun y c=>by
  rcases List.mem_or_eq_of_mem_set c with a|a
  ·exact h.ca64 y a
  ·cases a;exact b⟩
theorem GB {d:Dk} (h:d.Ok) (i:Nat) (a:i < d.st.length):(content d i).length=64:=by
 unfold content
 have b:i < d.ca.length:=by rw [h.len];exact a
 rw [List.getElem?_eq_getElem b,List.getElem?_eq_getElem a]
 simp only [Option.getD_some]
 cases c:d.ca[i] with
|none=>simpa using h.st64 _ (List.getElem_mem a)
|some x=>simpa using h.ca64 x (by rw [<-c];exact List.getElem_mem b)
theorem Dk.Ok.flush {d:Dk} (h:d.Ok):(flush d).Ok:=by
 refine⟨by simp [Dd.flush,h.len],by simpa [Dd.flush] using h.pos,by simpa [Dd.flush] using h.max,fun x a=>?_,fun x a=>?_⟩
 ·simp [Dd.flush] at a
  obtain⟨i,b,rfl⟩:=a
  exact GB h i b
 ·simp [Dd.flush] at a
theorem Dk.Ok.begin {d:Dk} (h:d.Ok) (b:Bool):(begin d b).2.2.Ok:=by
 unfold Dd.begin;repeat' split
 all_goals first|exact h|exact h.tick
theorem NL (d:Dk) (b:Bool):(begin d b).2.2.st=d.st/\(begin d b).2.2.ca=d.ca:=by
 unfold Dd.begin;repeat' split
 all_goals exact⟨rfl,rfl⟩
theorem Dk.Ok.read {d:Dk} (h:d.Ok) (i:Int):(read d i).2.2.Ok:=by
 have a:=h.begin (fits d i)
 unfold Dd.read;split
 ·rename_i e;rw [e] at a;exact a.cut
 ·rename_i e;rw [e] at a;split <;> exact a
theorem Dk.Ok.write {d:Dk} (h:d.Ok) (i:Int) (x:List UInt8):(write d i x).2.Ok:=by
 have c:=h.begin (fits d i && decide (x.length=64))
 have b:∀ e,(Dd.begin d (fits d i && decide (x.length=64))).2.1=e->e=0->x.length=64:=by
  intro e a f
  by_cases b:x.length=64
  ·exact b
  ·subst f
   unfold Dd.begin at a
   rw [decide_eq_false b,Bool.and_false] at a
   by_cases ho:d.off=true
   ·rw [if_pos ho] at a;cases a
   ·rw [if_neg ho] at a;simp at a
 have g:∀ r,Dd.begin d (fits d i && decide (x.length=64))=(true,r)->x.length=64:=by
  intro r a
  by_cases b:x.length=64
  ·exact b
  ·unfold Dd.begin at a
   rw [decide_eq_false b,Bool.and_false] at a
   by_cases ho:d.off=true
   ·rw [if_pos ho] at a;cases a
   ·rw [if_neg ho] at a;simp at a
 unfold Dd.write;split
 ·rename_i e;rw [e] at c;exact (c.put _ _ (g _ e)).cut
 ·rename_i e;rw [e] at c b;split
  ·rename_i e2;exact c.put _ _ (b _ rfl e2)
  ·exact c
theorem Dk.Ok.sync {d:Dk} (h:d.Ok):(sync d).2.Ok:=by
 have a:=h.begin true
 unfold Dd.sync;split
 ·rename_i e;rw [e] at a;exact a.cut
 ·rename_i e;rw [e] at a;split
  ·exact a.flush
  ·exact a
theorem Da (d:Dk) (k:Int × Int):(tear d k).ca=d.ca/\(tear d k).st.length=d.st.length:=by
 unfold tear;split
 ·split <;> simp
 ·exact⟨rfl,rfl⟩
theorem Dk.Ok.tear {d:Dk} (h:d.Ok) (k:Int × Int):(tear d k).Ok:=by
 obtain⟨e,b⟩:=Da d k
 refine⟨by rw [e,b];exact h.len,by rw [b];exact h.pos,by rw [b];exact h.max,fun x a=>?_,fun x a=>h.ca64 x (by rw [e] at a;exact a)⟩
 unfold Dd.tear at a
 split at a
 ·split at a
  ·rename_i y hy
   rcases List.mem_or_eq_of_mem_set a with c|c
   ·exact h.st64 x c
   ·have f:k.1.toNat < d.st.length:=by rw [<-h.len];exact (List.getElem?_eq_some_iff.1 hy).1
    have g:=h.ca64 y (List.mem_of_getElem? hy)
    have i:=h.st64 _ (List.getElem_mem f)
    rw [c,List.getElem?_eq_getElem f,Option.getD_some,List.length_append,List.length_take,List.length_drop]
    omega
  ·exact h.st64 x a
 ·exact h.st64 x a
theorem Dk.Ok.tears {d:Dk} (h:d.Ok) (a:List (Int × Int)):(a.foldl Dd.tear d).Ok/\(a.foldl Dd.tear d).ca=d.ca/\(a.foldl Dd.tear d).st.length=d.st.length:=by
 induction a generalizing d with
|nil=>exact⟨h,rfl,rfl⟩
|cons k a ih =>
  obtain⟨b,c,e⟩:=ih (h.tear k)
  obtain⟨f,g⟩:=Da d k
  exact⟨b,c.trans f,e.trans g⟩
theorem WR (n:Nat) (b:1<=n) (c:n<=4096):(new n).Ok :=
 ⟨by simp [new],by simpa [new] using b,by simpa [new] using c,fun x a=>by simp [new] at a;simp [a.2],fun x a=>by simp [new] at a⟩
theorem TK (n:Nat):(new n).st.flatten=List.replicate (64 * n) 0:=by
 induction n with
|zero=>rfl
|succ n ih =>
  have e:(new (n+1)).st=List.replicate 64 0 :: (new n).st:=rfl
  rw [e,List.flatten_cons,ih,List.replicate_append_replicate];congr 1;omega
end Dd
end
section
namespace Ex
open Dd (Dk)
def pos (off e k:Nat):Nat:=max off (min e (64 * (off / 64+k)))
def cnt (off e:Nat):Nat:=if off < e then (e+63) / 64 - off / 64 else 0
def step (e p:Nat):Nat:=min (64 - p % 64) (e - p)
theorem DZ (off e:Nat):pos off e 0=off:=by unfold pos;omega
theorem GN (off e k:Nat) (h:off<=e):pos off e k < e ↔ k < cnt off e:=by unfold pos cnt;split <;> omega
theorem TN (off e k:Nat) (h:off<=e):pos off e k<=e:=by unfold pos;omega
theorem WW (off e k:Nat):off<=pos off e k:=by unfold pos;omega
theorem FT (off e k:Nat) (h:k < cnt off e):pos off e (k+1)=pos off e k+step e (pos off e k):=by
 unfold cnt at h;split at h
 ·unfold step pos;omega
 ·omega
theorem MV (off e:Nat) (h:off<=e):pos off e (cnt off e)=e:=by
 have a:=GN off e (cnt off e) h
 have b:=TN off e (cnt off e) h
 omega
theorem EY {e p:Nat} (h:p < e):1<=step e p/\step e p<=64/\p % 64+step e p<=64/\p+step e p<=e:=by unfold step;omega
def rd (first off e:Nat):Nat->Nat->List UInt8->Dk->List UInt8 × Int × Dk
|0,_,acc,d=>(acc,0,d)
|m+1,k,acc,d =>
  match Dd.read d ((first+pos off e k / 64:Nat):Int) with
 |(b,z,d')=>if z=0 then rd first off e m (k+1) (acc ++ (b.drop (pos off e k % 64)).take (step e (pos off e k))) d' else ([],z,d')
def wr (first off e:Nat):Nat->Nat->List UInt8->Dk->Int × Dk
|0,_,_,d=>(0,d)
|m+1,k,data,d =>
  if step e (pos off e k) < 64 then
   match Dd.read d ((first+pos off e k / 64:Nat):Int) with
  |(b,z,d1) =>
    if z=0 then
     match Dd.write d1 ((first+pos off e k / 64:Nat):Int) (b.take (pos off e k % 64) ++ data.take (step e (pos off e k)) ++ b.drop (pos off e k % 64+step e (pos off e k))) with
    |(z2,d2)=>if z2=0 then wr first off e m (k+1) (data.drop (step e (pos off e k))) d2 else (z2,d2)
    else (z,d1)
  else
   match Dd.write d ((first+pos off e k / 64:Nat):Int) (data.take (step e (pos off e k))) with
  |(z2,d2)=>if z2=0 then wr first off e m (k+1) (data.drop (step e (pos off e k))) d2 else (z2,d2)
def AB (n:Nat) (first count:Int):Bool:=decide (0<=first) && (decide (1<=count) && (decide (count<=(n:Int)) && decide (first<=(n:Int) - count)))
def size (count:Int):Int:=if count < 0\/4096 < count then 0 else count * 64
def check (n:Nat) (first count off len:Int):Int :=
 if AB n first count then (if off < 0\/len < 0\/size count < off\/size count - off < len then 2 else 0) else 1
def read (d:Dk) (first count off len:Int):List UInt8 × Int × Dk :=
 if check d.st.length first count off len=0 then rd first.toNat off.toNat (off+len).toNat (cnt off.toNat (off+len).toNat) 0 [] d else ([],check d.st.length first count off len,d)
def write (d:Dk) (first count off:Int) (data:List UInt8):Int × Dk :=
 if check d.st.length first count off data.length=0 then wr first.toNat off.toNat (off+data.length).toNat (cnt off.toNat (off+data.length).toNat) 0 data d else (check d.st.length first count off data.length,d)
theorem EQ {n:Nat} {first count off len:Int} (h:check n first count off len=0):0<=first/\1<=count/\count<=n/\first<=n - count/\0<=off/\0<=len/\off+len<=size count:=by
 unfold check at h
 split at h
 ·rename_i hv
  unfold AB at hv
  simp at hv
  split at h
  ·cases h
  ·omega
 ·cases h
end Ex
end
section
open Go.RowKit
variable {w:World}
theorem Qz {q:Array Oper} {rest:List Oper} {o:Oper} {a:Act} {Q:Exit->Act->World->Prop} (hgd:o.guard=none) (d s:Operand)
 (ho:o.op=.call { callee:=.builtin .copy,args:=#[d,s],argTypes:=#[70,70] })
 (g off dLen dCap:Nat) (f:Option Addr) (c i:Nat) (l2:List UInt8) (hd:a.eval d=.slice (g off) dLen dCap) (hs:a.eval s=.slice f c i)
 (t:TypeId) (l:List UInt8) (hr:RowIs w g t l) (m:AM w f c i l2) (hfit:off+min c dLen<=l.length)
 (h:∀ n,RowIs n g t (l.take off ++ l2.take dLen ++ l.drop (off+min c dLen))->BQ g w n->wpList Tryz.prog q Q rest (a.put o.dst (goInt (min c dLen:Nat))) n):wpList Tryz.prog q Q (o :: rest) a w:=by
 have hsz:(Tryz.prog.info? 5).map (·.size)=some 1:=by kernel_rfl
 have x:=m.len
 by_cases h0:min c dLen=0
 ·refine wpList_copy_nothing hgd d s _ _ ho 5 Tryz.underlying70 hsz _ f dLen dCap c i hd hs h0 ?_
  rw [h0] at h
  refine h w ?_ (BQ.refl _ _)
  have:l2.take dLen=[]:=List.eq_nil_of_length_eq_zero (by rw [List.length_take];omega)
  rw [this];simpa using hr
 ·cases f with
 |none=>have:=(m.2.2.2.1 rfl).1;subst this;simp at x;omega
 |some e =>
   have k:((l2.take dLen).map bv).length=min c dLen:=by rw [List.length_map,List.length_take];omega
   refine wpList_copy_own hgd d s _ _ ho 5 Tryz.underlying70 hsz g off dLen dCap e c i hd hs (l.map bv).toArray t hr ((l2.take dLen).map bv) k ?_ ?_ ?_ ?_
   ·intro j v r
    have A:j < min c dLen:=by rw [<-k];exact (List.getElem?_eq_some_iff.1 r).1
    obtain⟨p,B,y⟩:=m.2.2.2.2 e rfl j (by omega)
    have u:e.add j=(e.block (e.off+j)):=by
     obtain⟨b,o,f⟩:=e;simp only at p;subst p;unfold Addr.add;split <;> simp_all
    rw [u,y,<-r]
    simp [bv,show j < dLen by omega,show j < l2.length by omega]
   ·rw [k];simpa using hfit
   ·intro v z
    obtain⟨b,_,rfl⟩:=List.mem_map.1 z;rfl
   ·rw [k]
    refine h _ ?_ ((BQ.refl _ _).setRow _)
    unfold RowIs
    rw [setRow_heap w g _ _ t _ hr]
    simp [List.map_take,List.map_drop]
theorem AC.TC {base:Nat} {g n:Nat} {l:List UInt8} (h:AC base w (.slice g n n) l):base<=g/\RowIs w g 5 l:=by
 rcases h.2 with⟨a,_⟩|⟨p,cap,j,a,e,f,o,k,m,i⟩
 ·cases a
 ·injection a with b c d
  cases b
  subst c;subst d
  refine⟨e,?_⟩
  unfold RowIs
  rw [f,<-i,List.take_of_length_le (by simp;omega)]
end
end Go.Proofs.YtmanejniepghlaaGreatDoor
namespace Go.Proofs.YtmanejniepghlaaGreatDoor.Fr
open AX Su
def size (n:Int):Int:=if n < 0\/1024 < n then 0 else 14+n
def head (ep a:Nat) (p:List UInt8):List UInt8:=le 2 p.length ++ le 4 ep ++ le 4 a ++ p
def enc (ep a:Nat) (p:List UInt8):List UInt8:=head ep a p ++ le 4 (update 0 (head ep a p))
def BD (b:List UInt8):Nat:=unle (b.take 2)
def dec (b:List UInt8) (ep a:Nat):List UInt8 × Nat × Int :=
 if b.length < 14 then ([],0,5)
 else if 1024 < BD b then ([],0,3)
 else if b.length < 14+BD b then ([],0,5)
 else if unle ((b.drop (10+BD b)).take 4) ≠ update 0 (b.take (10+BD b)) then ([],0,7)
 else if unle ((b.drop 2).take 4) ≠ ep\/unle ((b.drop 6).take 4) ≠ a then ([],0,8)
 else ((b.drop 10).take (BD b),14+BD b,0)
theorem QF (b:List UInt8):BD b < 65536:=by
 have h:=CV (b.take 2)
 have a:(b.take 2).length<=2:=List.length_take_le _ _
 exact Nat.lt_of_lt_of_le h (Nat.le_trans (Nat.pow_le_pow_right (by decide) a) (by decide))
theorem FP (ep a:Nat) (p:List UInt8):(head ep a p).length=10+p.length:=by simp [head,AU];omega
theorem CK (ep a:Nat) (p:List UInt8):(enc ep a p).length=14+p.length:=by simp [enc,FP,AU];omega
theorem MI (b:List UInt8) (ep a:Nat) (h:(dec b ep a).2.2=0):(dec b ep a).2.1=14+(dec b ep a).1.length/\(dec b ep a).2.1<=b.length/\(dec b ep a).1.length<=1024:=by
 unfold dec at h ⊢
 by_cases c:b.length < 14
 ·rw [if_pos c] at h;simp at h
 rw [if_neg c] at h ⊢
 by_cases d:1024 < BD b
 ·rw [if_pos d] at h;simp at h
 rw [if_neg d] at h ⊢
 by_cases e:b.length < 14+BD b
 ·rw [if_pos e] at h;simp at h
 rw [if_neg e] at h ⊢
 by_cases f:unle ((b.drop (10+BD b)).take 4) ≠ update 0 (b.take (10+BD b))
 ·rw [if_pos f] at h;simp at h
 rw [if_neg f] at h ⊢
 by_cases g:unle ((b.drop 2).take 4) ≠ ep\/unle ((b.drop 6).take 4) ≠ a
 ·rw [if_pos g] at h;simp at h
 rw [if_neg g]
 simp;omega
def go (b:List UInt8) (ep:Nat):Nat->Nat->List (List UInt8)->Nat->List (List UInt8) × Nat
|0,_,out,e=>(out,e)
|f+1,k,out,e=>if (dec (b.drop e) ep k).2.2=0 then go b ep f (k+1) (out ++ [(dec (b.drop e) ep k).1]) (e+(dec (b.drop e) ep k).2.1) else (out,e)
def scan (b:List UInt8) (ep:Nat):List (List UInt8) × Nat:=go b ep (b.length+1) 0 [] 0
theorem QB (b:List UInt8) (ep f k:Nat) (out:List (List UInt8)) (e:Nat) (h:(dec (b.drop e) ep k).2.2=0):go b ep (f+1) k out e=go b ep f (k+1) (out ++ [(dec (b.drop e) ep k).1]) (e+(dec (b.drop e) ep k).2.1):=by rw [go,if_pos h]
theorem ML (b:List UInt8) (ep f k:Nat) (out:List (List UInt8)) (e:Nat) (h:(dec (b.drop e) ep k).2.2 ≠ 0):go b ep (f+1) k out e=(out,e):=by rw [go,if_neg h]
end Go.Proofs.YtmanejniepghlaaGreatDoor.Fr
namespace Go.Proofs.YtmanejniepghlaaGreatDoor
section
open Go.RowKit
variable {w w':World} {base c k n:Nat} {a:Option Addr} {l ls:List (List UInt8)} {v:Value}
def VR (w:World) (a:Option Addr) (n c:Nat) (ls:List (List UInt8)):Prop :=
 ls.length=n/\n<=c/\c<=maxLen/\(a=none->ls=[]/\c=0) ∧
  ∀ x,a=some x->∀ i (h:i < ls.length),x.spot=none/\x.block < w.heap.size/\∃ b m d,w.cell? (x.block (x.off+i))=some (.slice b m d)/\AM w b m d ls[i]
theorem VR.le (h:VR w a n c l):n<=9223372036854775807:=by
 have:=h.2.1;have:=h.2.2.1;unfold maxLen at *;omega
theorem VR.nil (w:World):VR w none 0 0 []:=⟨rfl,zN _,by unfold maxLen;omega,fun _=>⟨rfl,rfl⟩,fun x b=>by cases b⟩
theorem VR.at (h:VR w a n c l) (s:k < n) :
 ∃ b o,a=some ((b:Nat) o)/\b < w.heap.size/\∃ p m d,w.cell? (b (o+k))=some (.slice p m d)/\AM w p m d (l[k]?.getD []):=by
 obtain⟨j,hn,r,h0,f⟩:=h
 cases a with
|none=>have:=(h0 rfl).1;subst this;simp at j;omega
|some x =>
  obtain⟨b,o,t⟩:=x
  have e:k < l.length:=by omega
  obtain⟨hs,g,p,m,d,i,q⟩:=f _ rfl k e
  simp only at hs;subst hs
  refine⟨b,o,rfl,g,p,m,d,i,?_⟩
  rw [List.getElem?_eq_getElem e]
  exact q
theorem PE:(Tryz.prog.info? 70).map (fun i=>(i.zero,i.size,i.bytes))=some (some (.slice none 0 0),1,24):=by kernel_rfl
def BR (base:Nat) (w:World) (v:Value) (ls:List (List UInt8)):Prop :=
 ∃ b:List Value,w.ownsRow base 70 1 v ls.length b/\∀ i,i < ls.length->∃ u,b[i]?=some u/\AC base w u (ls[i]?.getD [])
theorem BR.nil (base:Nat) (w:World):BR base w (.slice none 0 0) []:=⟨[],World.ownsRow_nil w base _ _,fun i b=>by simp at b⟩
theorem BR.lt (h:BR base w v ls):∀ k,v.ownBlock=some k->base<=k/\k < w.heap.size:=by
 obtain⟨d,b,_⟩:=h;exact World.ownsRow.lt b
theorem BR.ext (h:BR base w v ls) (e:Below w.heap.size w w'):BR base w' v ls:=by
 obtain⟨r,d,j⟩:=h
 refine⟨r,⟨d.1,?_⟩,fun i q=>?_⟩
 ·rcases d.2 with hn|⟨g,cap,f,rfl,p,b,rest⟩
  ·exact .inl hn
  ·exact .inr ⟨g,cap,f,rfl,p,(e.block g (Array.getElem?_eq_some_iff.1 b).1).trans b,rest⟩
 ·obtain⟨u,m,o⟩:=j i q
  exact⟨u,m,o.ext e⟩
theorem BR.sl (h:BR base w v ls):∃ a c,v=.slice a ls.length c/\VR w a ls.length c ls:=by
 obtain⟨B,f,t⟩:=h
 rcases id f.2 with⟨b,hn⟩|⟨g,cap,F,b,H,z,s,r,G,C⟩
 ·have q:ls=[]:=List.eq_nil_of_length_eq_zero hn
  subst q
  exact⟨none,0,b,VR.nil w⟩
 ·refine⟨.some g,cap,b,⟨rfl,s,r,(fun h=>by cases h),fun x A i o=>?_⟩⟩
  cases A
  refine⟨rfl,(Array.getElem?_eq_some_iff.1 z).1,?_⟩
  obtain⟨u,j,y⟩:=t i o
  obtain⟨p,d,rfl,m,-⟩:=y.sl
  have e:ls[i]?.getD []=ls[i]:=by simp [o]
  rw [e] at j m
  refine⟨p,ls[i].length,d,?_,m⟩
  ·have q:B.length=ls.length:=by rw [f.1];simp
   have:=World.ownsRow.cellAt (g:=g) (cap:=cap) (by rw [<-b];exact f) i (by omega)
   simp only [Nat.zero_add]
   rw [this];simpa using j
theorem AC.TA {u:Value} {l:List UInt8} {o:List Value} (h:AC base w u l) (m:w.ownsRow base 70 1 v n o) (j:w.grownBy w' v.ownBlock):AC base w' u l:=by
 refine⟨h.1,?_⟩
 rcases h.2 with hn|⟨g,cap,f,rfl,i,b,rest⟩
 ·exact .inl hn
 ·refine .inr ⟨g,cap,f,rfl,i,(j.block g (Qa b) ?_).trans b,rest⟩
  intro e
  rcases m.2 with⟨rfl,_⟩|⟨r,p,q,rfl,_,d,_⟩
  ·cases e
  ·simp [Value.ownBlock] at e
   subst e
   rw [b] at d
   cases d
theorem Xg {B:Array Oper} {rest:List Oper} {o:Oper} {a:Act} {Q:Exit->Act->World->Prop} (hgd:o.guard=none) (s x:Operand)
 (ho:o.op=.call { callee:=.builtin .append,args:=#[s,x],argTypes:=#[112,112] })
 (base:Nat) (v:Value) (ls:List (List UInt8)) (hs:a.eval s=v) (I:BR base w v ls) (u:Value) (l:List UInt8) (hu:AC base w u l)
 (t:TypeId) (W:World) (X:W=w.alloc (.cells #[u] t)) (k:Nat) (r:k=w.heap.size) (Y:a.eval x=.slice k 1 1)
 (za:ls.length<=1000000000) (G:base<=w.heap.size)
 (h:∀ f w',BR base w' f (ls ++ [l])->Below base w w'->wpList Tryz.prog B Q rest (a.put o.dst f) w'):wpList Tryz.prog B Q (o :: rest) a W:=by
 subst X;subst r
 obtain⟨Z,g,M,N,O⟩:=info_parts PE
 obtain⟨y,b,P⟩:=I
 have K:y.length=ls.length:=by rw [b.1];simp
 refine wpList_append_own (w.alloc (.cells #[u] t)) hgd s x 112 ho base 70 Z (.slice none 0 0) 1 24 Tryz.underlying112 g M N O rfl (by decide) v ls.length y hs (b.alloc _) w.heap.size 1 1 [u] Y rfl ?_ ?_ (by unfold maxLen;omega) (by omega) (by simp;omega) ?_
 ·intro j q F
  obtain⟨rfl,rfl⟩:j=0/\q=u:=by
   cases j with
  |zero=>exact⟨rfl,by simpa using F.symm⟩
  |succ j=>simp at F
  have H:(w.heap.size:Addr).add 0=w.heap.size:=by unfold Addr.add;split <;> simp_all
  rw [H,World.cell?_alloc_at _ _ _ _ rfl];rfl
 ·intro q e
  simp at e;subst e
  obtain⟨p,d,rfl,-⟩:=hu.sl
  rfl
 ·intro f w' R C _
  have J:Below base w (w.alloc (.cells #[u] t)):=(Below.refl _ _).alloc G _
  refine h f w' ⟨y ++ [u],by simpa using R,fun i g=>?_⟩ (J.grown C (by simp;omega) (fun k r=>((World.ownsRow.lt b) k r).1))
  have z:∀ q m,AC base w q m->AC base w' q m:=fun q m e=>(e.alloc (.cells #[u] t)).TA (b.alloc (.cells #[u] t)) C
  by_cases A:i < ls.length
  ·obtain⟨q,T,U⟩:=P i A
   refine⟨q,?_,?_⟩
   ·rw [List.getElem?_append_left (by omega)];exact T
   ·rw [List.getElem?_append_left A];exact z _ _ U
  ·obtain rfl:i=ls.length:=by simp at g;omega
   refine⟨u,?_,?_⟩
   ·rw [List.getElem?_append_right (by omega),K];simp
   ·rw [List.getElem?_append_right (by omega)];simpa using z _ _ hu
theorem Ou (B:Nat) (w:World) (n:Nat):Below B w (w.drewN n):=(Below.refl B w).trans ⟨rfl,rfl,rfl,zN _,fun _ _=>rfl⟩
end
section
open Go.RowKit
theorem Wq (l k:List Int) (i:Nat) (b:i < l.length) (c:i < k.length) (h:l.take i=k.take i):(l.take (i+1)=k.take (i+1)) ↔ l[i]=k[i]:=by
 rw [List.take_succ_eq_append_getElem b,List.take_succ_eq_append_getElem c,h]
 exact⟨fun a=>by simpa using List.append_cancel_left a,fun a=>by rw [a]⟩
set_option maxRecDepth 100000 in
theorem Bg (a b:Option Addr) (n m c d:Nat) (j f:List Int) (w:World) (h:DX w a n c j) (x:DX w b m d f) :
 Calls Tryz.prog 40 #[.slice a n c,.slice b m d] w fun e Q=>e=.returned (.bool (j == f))/\Below w.heap.size w Q:=by
 have U:=h.le
 have R:=x.le
 have y:=h.len
 have u:=x.len
 by_cases A:n=m
 ·subst A
  obtain⟨r,hr⟩:∃ r,r=(j == f):=⟨_,rfl⟩
  rw [<-hr]
  have C:=zH hr;have M:=zH y;have H:=zH u
  clear hr y u
  go_in
  go_wp2
  go_loopw [5] (fun i wr=>∃ k:Nat,k<=n/\i=.int .i64 k/\Hid (j.take k=f.take k)/\Below w.heap.size w wr) (fun i _=>n - (intOf i).toNat)
  case atStart=>exact⟨0,Nat.zero_le _,rfl,zH rfl,Below.refl _ _⟩
  case round =>
   obtain⟨k,hk,rfl,F,l⟩:=hrel
   by_cases z:k < n
   ·obtain⟨g,o,rfl,hg,t,I⟩:=(h.ext l).at z
    obtain⟨Z,o',rfl,T,s,G⟩:=(x.ext l).at z
    have X:(0:Int)<=(k:Int):=by omega
    have Y:(k:Int) < (n:Int):=by omega
    have B:=zH (Wq j f k t s F.out)
    rw [List.getElem?_eq_getElem t,Option.getD_some] at I
    rw [List.getElem?_eq_getElem s,Option.getD_some] at G
    generalize j[k]=p at *
    generalize f[k]=q at *
    clear t s
    by_cases hu:p=q
    ·have O:(p == q)=true:=by simp [hu]
     have P:(p != q)=false:=by simp [hu]
     have N:=zH hu
     clear hu
     go_wp2
     go_quiet (fail)
     go_wp2
     go_roundw
     case rel=>exact⟨k+1,by omega,by go_num,zH (B.out.2 N.out),l.trans (Qh _ _ _)⟩
     case measure=>simp [intOf];omega
    ·have O:(p == q)=false:=by simp [hu]
     have P:(p != q)=true:=by simp [hu]
     have J:r=false:=by
      rw [C.out];apply beq_eq_false_iff_ne.2;intro e;exact hu (B.out.1 (by rw [e]))
     subst J
     clear hu
     go_wp2
     go_quiet (fail)
     go_wp2
     go_ret
     exact⟨rfl,l.trans (Qh _ _ _)⟩
   ·obtain rfl:k=n:=by omega
    have K:r=true:=by
     rw [C.out];apply beq_iff_eq.2
     have:=F.out
     rwa [List.take_of_length_le (by rw [M.out];omega),List.take_of_length_le (by rw [H.out];omega)] at this
    subst K
    go_wp2
    go_ret
    exact⟨rfl,l⟩
 ·have hr:(j == f)=false:=by
   apply beq_eq_false_iff_ne.2;rintro rfl;omega
  have ht:((n:Int) == m)=false:=by simp;omega
  have W:((n:Int) != m)=true:=by simp;omega
  rw [hr]
  clear y u hr A
  go_in
  go_wp2
  go_ret
  exact⟨rfl,Below.refl _ _⟩
end
end Go.Proofs.YtmanejniepghlaaGreatDoor
