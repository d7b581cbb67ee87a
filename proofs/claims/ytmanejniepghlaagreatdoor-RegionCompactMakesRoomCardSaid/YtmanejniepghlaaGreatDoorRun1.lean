import Derived.Test.YtmanejniepghlaaGreatDoorRows
import Derived.Test.YtmanejniepghlaaGreatDoorRun0
import Derived.WalkKit
import Derived.Deep.QuietTactic
import Derived.BigQuiet
import Derived.Deep.DeepMust
import Derived.Lib.MapLaws
import Derived.Lib.ValidLaws
import Derived.Lib.RuneCount
import Derived.Lib.RuneBytes
namespace Go.Proofs.YtmanejniepghlaaGreatDoor.Puny
def point (n:Int):Bool:=decide (0<=n) && decide (n<=1114111) && (decide (n < 55296) || decide (57343 < n))
theorem point_iff (n:Int):point n=true ↔ 0<=n/\n<=1114111/\(n < 55296\/57343 < n):=by simp [point,and_assoc]
def thr (k:Nat) (bias:Int):Int:=min (max (36 * ((k:Int)+1) - bias) 1) 26
theorem thr_bd (k:Nat) (bias:Int):1<=thr k bias/\thr k bias<=26:=by unfold thr;omega
def adGo:Nat->Int->Int->Int
|0,_,k=>k
|f+1,d,k=>if 455 < d then adGo f (d / 35) (k+36) else k+36 * d / (d+38)
def adStart (delta:Int) (count:Int) (first:Bool):Int:=(if first then delta / 700 else delta / 2)+(if first then delta / 700 else delta / 2) / count
def adapt (delta:Int) (count:Int) (first:Bool):Int:=adGo ((adStart delta count first).toNat+1) (adStart delta count first) 0
theorem zk_c (f:Nat):∀ d k:Int,0<=d->0<=k->k<=adGo f d k/\(d < 35 ^ f->adGo f d k<=k+36 * f+36):=by
 induction f with
|zero=>intro d k hd hk;simp [adGo];omega
|succ f ih =>
  intro d k hd hk
  rw [adGo]
  by_cases h:455 < d
  ·rw [if_pos h]
   obtain⟨h1,h2⟩:=ih (d / 35) (k+36) (by omega) (by omega)
   refine⟨by omega,fun hh=>?_⟩
   have h3:d / 35 < 35 ^ f:=by
    have:d < 35 ^ f * 35:=by rw [<-Int.pow_succ];exact hh
    omega
   have:=h2 h3
   rw [Int.natCast_add];omega
  ·rw [if_neg h]
   have h0:0<=36 * d / (d+38):=Int.ediv_nonneg (by omega) (by omega)
   have h1:36 * d / (d+38) < 36:=Int.ediv_lt_of_lt_mul (by omega) (by omega)
   exact⟨by omega,fun _=>by rw [Int.natCast_add];omega⟩
theorem adStart_bd (delta count:Int) (first:Bool) (h:0<=delta) (hc:1<=count):0<=adStart delta count first/\adStart delta count first<=2 * delta:=by
 have hq:∀ x:Int,0<=x->0<=x / count/\x / count<=x:=fun x hx=>⟨Int.ediv_nonneg hx (by omega),Int.ediv_le_self _ hx⟩
 unfold adStart
 cases first
 ·have h1:=hq (delta / 2) (by omega)
  simp only [Bool.false_eq_true,if_false]
  generalize (delta / 2) / count=y at *
  omega
 ·have h1:=hq (delta / 700) (by omega)
  simp only [if_true]
  generalize (delta / 700) / count=y at *
  omega
theorem zo_r (f:Nat):∀ (g:Nat) (d k:Int),0<=d->d < f->d < g->adGo f d k=adGo g d k:=by
 induction f with
|zero=>intro g d k h0 h1;omega
|succ f ih =>
  intro g d k h0 h1 h2
  obtain⟨g,rfl⟩:∃ g',g=g'+1:=⟨g - 1,by omega⟩
  rw [adGo,adGo]
  by_cases h:455 < d
  ·rw [if_pos h,if_pos h];exact ih g _ _ (by omega) (by omega) (by omega)
  ·rw [if_neg h,if_neg h]
theorem adapt_bd (delta count:Int) (first:Bool) (h:0<=delta) (h2:delta<=2199023255552) (hc:1<=count):0<=adapt delta count first/\adapt delta count first<=1000:=by
 obtain⟨s0,s1⟩:=adStart_bd delta count first h hc
 unfold adapt
 generalize adStart delta count first=s at *
 refine⟨(zk_c _ s 0 s0 (by omega)).1,?_⟩
 by_cases hs:s < 10
 ·rw [zo_r _ 10 s 0 s0 (by omega) (by omega)]
  have:=(zk_c 10 s 0 s0 (by omega)).2 (Int.lt_of_lt_of_le (show s < 4398046511105 by omega) (by decide))
  omega
 ·have h10:adGo (s.toNat+1) s 0=adGo 10 s 0:=by
   have key:∀ (f g:Nat) (d k:Int),0<=d->d < f->d < 35 ^ g->(455:Int) < 35 ^ g->adGo f d k=adGo (g+1) d k:=by
    intro f
    induction f with
   |zero=>intro g d k h0 h1;omega
   |succ f ih =>
     intro g d k h0 h1 h2 h3
     rw [adGo,adGo]
     by_cases h:455 < d
     ·rw [if_pos h,if_pos h]
      cases g with
     |zero=>simp at h3
     |succ g =>
       have h4:d / 35 < 35 ^ g:=by
        have:d < 35 ^ g * 35:=by rw [<-Int.pow_succ];exact h2
        omega
       by_cases h5:(455:Int) < 35 ^ g
       ·exact ih g _ _ (by omega) (by omega) h4 h5
       ·have h6:¬ 455 < d / 35:=by omega
        obtain⟨f,rfl⟩:∃ f',f=f'+1:=⟨f - 1,by omega⟩
        rw [adGo,adGo,if_neg h6,if_neg h6]
     ·rw [if_neg h,if_neg h]
   exact key _ 9 s 0 s0 (by omega) (Int.lt_of_le_of_lt (show s<=4398046511104 by omega) (by decide)) (by decide)
  rw [h10]
  have:=(zk_c 10 s 0 s0 (by omega)).2 (Int.lt_of_lt_of_le (show s < 4398046511105 by omega) (by decide))
  omega
def digit (d:Int):UInt8:=UInt8.ofNat (if d < 26 then 97+d else 48+d - 26).toNat
def value (b:UInt8):Int :=
 if 97<=b.toNat/\b.toNat<=122 then (b.toNat:Int) - 97 else if 65<=b.toNat/\b.toNat<=90 then (b.toNat:Int) - 65 else if 48<=b.toNat/\b.toNat<=57 then (b.toNat:Int) - 48+26 else -1
theorem zp_k (b:UInt8):-1<=value b/\value b < 36:=by
 unfold value;repeat' split
 all_goals omega
theorem zf_e (d:Int) (h0:0<=d) (h1:d < 36):value (digit d)=d:=by
 unfold digit value
 by_cases h:d < 26
 ·rw [if_pos h]
  have:(UInt8.ofNat (97+d).toNat).toNat=(97+d).toNat:=by simp;omega
  rw [this,if_pos (by omega)];omega
 ·rw [if_neg h]
  have:(UInt8.ofNat (48+d - 26).toNat).toNat=(48+d - 26).toNat:=by simp;omega
  rw [this,if_neg (by omega),if_neg (by omega),if_pos (by omega)];omega
def digs:Nat->Int->Nat->Int->List UInt8
|0,_,_,_=>[]
|f+1,q,k,bias=>if q < thr k bias then [digit q] else digit (thr k bias+(q - thr k bias) % (36 - thr k bias)) :: digs f ((q - thr k bias) / (36 - thr k bias)) (k+1) bias
def numE (q bias:Int):List UInt8:=digs (q.toNat+1) q 0 bias
theorem next_lt (q t:Int) (h1:1<=t) (h2:t<=26) (h:t<=q):0<=(q - t) / (36 - t)/\(q - t) / (36 - t) < q/\10 * ((q - t) / (36 - t))<=q:=by
 have h0:0<=(q - t) / (36 - t):=Int.ediv_nonneg (by omega) (by omega)
 have h3:(36 - t) * ((q - t) / (36 - t))<=q - t:=Int.mul_ediv_self_le (by omega)
 have h4:10 * ((q - t) / (36 - t))<=(36 - t) * ((q - t) / (36 - t)):=Int.mul_le_mul_of_nonneg_right (by omega) h0
 omega
theorem zf_j (m:Nat):∀ (f:Nat) (q:Int) (k:Nat) (bias:Int),0<=q->q < 10 ^ m->(digs f q k bias).length<=m+1:=by
 induction m with
|zero =>
  intro f q k bias h0 h1
  have:q=0:=by simp at h1;omega
  subst this
  have:=thr_bd k bias
  cases f with
 |zero=>simp [digs]
 |succ f=>rw [digs,if_pos (by omega)];simp
|succ m ih =>
  intro f q k bias h0 h1
  cases f with
 |zero=>simp [digs]
 |succ f =>
   rw [digs]
   have ht:=thr_bd k bias
   by_cases h:q < thr k bias
   ·rw [if_pos h];simp
   ·rw [if_neg h]
    obtain⟨n0,n1,n2⟩:=next_lt q _ ht.1 ht.2 (by omega)
    have:=ih f ((q - thr k bias) / (36 - thr k bias)) (k+1) bias n0 (by rw [Int.pow_succ] at h1;omega)
    simp;omega
structure E where
 out:List UInt8
 delta:Int
 bias:Int
 done:Nat
def encPt (n:Int) (basic:Nat) (s:E) (p:Int):E :=
 if p < n then { s with delta:=s.delta+1 }
 else if p=n then ⟨s.out ++ numE s.delta s.bias,0,adapt s.delta (s.done+1) (s.done == basic),s.done+1⟩
 else s
def least (n:Int) (m:Int) (ps:List Int):Int:=ps.foldl (fun m p=>if n<=p then min m p else m) m
def encGo (ps:List Int) (basic:Nat):Nat->Int->E->List UInt8
|0,_,s=>s.out
|f+1,n,s =>
  if s.done < ps.length then
   let m:=least n 1114112 ps
   let s':=ps.foldl (encPt m basic) { s with delta:=s.delta+(m - n) * (s.done+1) }
   encGo ps basic f (m+1) { s' with delta:=s'.delta+1 }
  else s.out
def basics (ps:List Int):List UInt8:=(ps.filter fun p=>decide (p < 128)).map fun p=>UInt8.ofNat p.toNat
def front (ps:List Int):List UInt8:=basics ps ++ (if basics ps=[] then [] else [45])
def encode (ps:List Int):List UInt8:=encGo ps (basics ps).length (ps.length+1) 128 ⟨front ps,0,72,(basics ps).length⟩
def enc (ps:List Int):List UInt8 × Int :=
 if 256 < ps.length then ([],3) else if ps.all point then (encode ps,0) else ([],2)
def decNum:List UInt8->Int->Int->Nat->Int->Except Int (List UInt8 × Int)
|[],_,_,_,_=>.error 4
|b :: l,i,w,k,bias =>
  if value b < 0 then .error 4
  else if 1099511627776 < i+value b * w then .error 19
  else if value b < thr k bias then .ok (l,i+value b * w)
  else if 1099511627776 < w * (36 - thr k bias) then .error 19
  else decNum l (i+value b * w) (w * (36 - thr k bias)) (k+1) bias
structure D where
 pts:List Int
 n:Int
 i:Int
 bias:Int
 first:Bool
def ins (l:List Int) (i:Nat) (n:Int):List Int:=l.take i ++ n :: l.drop i
def decStep (l:List UInt8) (s:D):Except Int (List UInt8 × D) :=
 match decNum l s.i 1 0 s.bias with
|.error e=>.error e
|.ok (r,j) =>
  let c:Int:=s.pts.length+1
  let n:=s.n+j / c
  if point n=false then .error 2
  else if 256 < c then .error 3
  else .ok (r,⟨ins s.pts (j % c).toNat n,n,j % c+1,adapt (j - s.i) c s.first,false⟩)
def decGo:Nat->List UInt8->D->Except Int (List Int)
|0,_,s=>.ok s.pts
|f+1,l,s =>
  if l=[] then .ok s.pts else
  match decStep l s with
 |.error e=>.error e
 |.ok (r,s')=>decGo f r s'
def cut (l:List UInt8):Nat:=l.length - 1 - (l.reverse.takeWhile (· != 45)).length
def decode (l:List UInt8):Except Int (List Int) :=
 if 1024 < l.length then .error 3
 else if (l.all fun b=>decide (b.toNat < 128))=false then .error 4
 else if 256 < cut l then .error 3
 else decGo (l.length+1) (if cut l=0 then l else l.drop (cut l+1)) ⟨(l.take (cut l)).map fun b=>(b.toNat:Int),128,0,72,true⟩
def dec (l:List UInt8):List Int × Int:=match decode l with
|.error e=>([],e)
|.ok p=>(p,0)
end Go.Proofs.YtmanejniepghlaaGreatDoor.Puny
namespace Go.Proofs.YtmanejniepghlaaGreatDoor
open Go.RowKit
variable {l:Array Bool} {j:Nat} {a:Act} {W:World}
theorem bitF (h:l.getD j false=true):l.getD j true=true:=by
 have hj:j < l.size:=by
  rcases Nat.lt_or_ge j l.size with h1|h1
  ·exact h1
  ·rw [Array.getD_eq_getD_getElem?,Array.getElem?_eq_none h1] at h;cases h
 rw [Array.getD_eq_getD_getElem?,Array.getElem?_eq_getElem hj] at h ⊢
 simpa using h
theorem bitT (h:l.getD j true=true) (hj:j < l.size):l.getD j false=true:=by
 rw [Array.getD_eq_getD_getElem?,Array.getElem?_eq_getElem hj] at h ⊢
 simpa using h
structure RegInv (X pb:Nat) (vo:Value) (bb q u cc:Nat) (W0:World) (Fact:Value->World->Prop) (Fin:World->Prop) (l:Array Bool) (a:Act) (W:World):Prop where
 lsz:l.size=9
 asz:a.tmps.size=49
 s11:a.tmps.getD 11 undef=.pointer (some ⟨X,0,none⟩)
 s12:a.tmps.getD 12 undef=.pointer (some ⟨pb,0,none⟩)
 s13:a.tmps.getD 13 undef=.slice (some ⟨bb,0,none⟩) 64 cc
 i0:l.getD 0 true=true->a.tmps.getD 40 undef=vo
 i1:l.getD 1 true=true->a.tmps.getD 41 undef=.slice (some ⟨bb,0,none⟩) 64 cc
 i2:l.getD 2 true=true->a.tmps.getD 42 undef=.pointer (some ⟨pb,1,none⟩)
 i3:l.getD 3 true=true->a.tmps.getD 43 undef=.int .i64 (q:Int)
 i4:l.getD 4 true=true->a.tmps.getD 44 undef=.pointer (some ⟨pb,2,none⟩)
 i5:l.getD 5 true=true->a.tmps.getD 45 undef=.int .i64 (u:Int)
 i6:l.getD 6 true=true->a.tmps.getD 46 undef=.slice (some ⟨bb,q,none⟩) (u - q) (cc - q)
 o6:l.getD 6 true=true->l.getD 3 true=true/\l.getD 5 true=true
 o7:l.getD 7 true=true->l.getD 0 true=true/\l.getD 6 true=true
 o8:l.getD 8 true=true->l.getD 7 true=true
 w0:l.getD 7 true=false->W=W0
 w7:l.getD 7 true=true->l.getD 8 true=false->Fact (a.tmps.getD 47 undef) W
 w8:l.getD 8 true=true->Fin W
theorem RegInv.step {X pb:Nat} {vo:Value} {bb q u cc:Nat} {W0:World} {Fact:Value->World->Prop} {Fin:World->Prop} (h:RegInv X pb vo bb q u cc W0 Fact Fin l a W) (i d:Nat) (v:Value) (W':World)
 (hi:i < 9) (hd:d=i+40) (hl:l.getD i true=false)
 (g0:i=0->v=vo) (g1:i=1->v=.slice (some ⟨bb,0,none⟩) 64 cc) (g2:i=2->v=.pointer (some ⟨pb,1,none⟩)) (g3:i=3->v=.int .i64 (q:Int)) (g4:i=4->v=.pointer (some ⟨pb,2,none⟩)) (g5:i=5->v=.int .i64 (u:Int)) (g6:i=6->v=.slice (some ⟨bb,q,none⟩) (u - q) (cc - q))
 (p6:i=6->l.getD 3 true=true/\l.getD 5 true=true) (p7:i=7->l.getD 0 true=true/\l.getD 6 true=true) (h8:i ≠ 8) (hW:i ≠ 7->W'=W) (h7:i=7->Fact v W'):RegInv X pb vo bb q u cc W0 Fact Fin (l.setIfInBounds i true) (a.put (some d) v) W':=by
 have hia:i < l.size:=by rw [h.lsz];exact hi
 have hda:d < a.tmps.size:=by rw [h.asz];omega
 have A:∀ k,(a.put (some d) v).tmps.getD k undef=if k=d then v else a.tmps.getD k undef:=fun k=>zq_a a d v k hda
 have B:∀ k,(l.setIfInBounds i true).getD k true=if k=i then true else l.getD k true:=fun k=>zm_y l i k true hia
 have S:∀ (j:Nat) (x:Value),(i=j->v=x)->(l.getD j true=true->a.tmps.getD (j+40) undef=x)->(l.setIfInBounds i true).getD j true=true->(a.put (some d) v).tmps.getD (j+40) undef=x:=by
  intro j x e1 e2 e3
  rw [A];rw [B] at e3
  by_cases hj:j=i
  ·rw [if_pos (by omega)];exact e1 hj.symm
  ·rw [if_neg hj] at e3;rw [if_neg (by omega)];exact e2 e3
 refine⟨by simpa using h.lsz,by rw [zq_e];exact h.asz,by rw [A,if_neg (by omega)];exact h.s11,by rw [A,if_neg (by omega)];exact h.s12,by rw [A,if_neg (by omega)];exact h.s13,
  S 0 _ g0 h.i0,S 1 _ g1 h.i1,S 2 _ g2 h.i2,S 3 _ g3 h.i3,S 4 _ g4 h.i4,S 5 _ g5 h.i5,S 6 _ g6 h.i6,?_,?_,?_,?_,?_,?_⟩
 ·intro e;rw [B] at e ⊢;rw [B]
  by_cases h6:6=i
  ·obtain⟨e1,e2⟩:=p6 h6.symm;rw [e1,e2];simp
  ·rw [if_neg h6] at e;obtain⟨e1,e2⟩:=h.o6 e;rw [e1,e2];simp
 ·intro e;rw [B] at e ⊢;rw [B]
  by_cases h7:7=i
  ·obtain⟨e1,e2⟩:=p7 h7.symm;rw [e1,e2];simp
  ·rw [if_neg h7] at e;obtain⟨e1,e2⟩:=h.o7 e;rw [e1,e2];simp
 ·intro e;rw [B,if_neg (fun e=>h8 e.symm)] at e;rw [B,h.o8 e];simp
 ·intro e;rw [B] at e
  by_cases h7':7=i
  ·rw [if_pos h7'] at e;cases e
  ·rw [if_neg h7'] at e;rw [hW (fun e=>h7' e.symm)];exact h.w0 e
 ·intro e e8;rw [B] at e e8;rw [A]
  rw [if_neg (fun e=>h8 e.symm)] at e8
  by_cases h7':7=i
  ·rw [if_pos (by omega)];exact h7 h7'.symm
  ·rw [if_neg h7'] at e;rw [if_neg (by omega),hW (fun e=>h7' e.symm)];exact h.w7 e e8
 ·intro e;rw [B,if_neg (fun e=>h8 e.symm)] at e
  by_cases h7':i=7
  ·
   exfalso
   have:=h.o8 e;rw [<-h7',hl] at this;cases this
  ·rw [hW h7'];exact h.w8 e
set_option maxRecDepth 100000 in
theorem zn_q {F:Fence} {n:Nat} {ops:Array Oper} {Q:Exit->Act->World->Prop} (hsz:ops.size=9)
 (e0:OpIs ops 0 (.load 70 (.tmp 11)) (some 40) []) (e1:OpIs ops 1 (.move (.tmp 13)) (some 41) []) (e2:OpIs ops 2 (.fieldAddr 194 (.tmp 12) 1) (some 42) []) (e3:OpIs ops 3 (.load 3 (.tmp 42)) (some 43) [2])
 (e4:OpIs ops 4 (.fieldAddr 194 (.tmp 12) 2) (some 44) []) (e5:OpIs ops 5 (.load 3 (.tmp 44)) (some 45) [4]) (e6:OpIs ops 6 (.slice 70 (.tmp 41) (some (.tmp 43)) (some (.tmp 45)) none) (some 46) [1,3,5])
 (e7:OpIs ops 7 (.call { callee:=.builtin .append,args:=#[.tmp 40,.tmp 46],argTypes:=#[70,70] }) (some 47) [0,6]) (e8:OpIs ops 8 (.store 70 (.tmp 11) (.tmp 47)) none [7,7,0,1,2,3,4,5,6,7])
 {X pb bb q u cc base:Nat} {vo:Value} {acc l2:List UInt8} (ha:a.tmps.size=49) (h11:a.tmps.getD 11 undef=.pointer (some ⟨X,0,none⟩)) (h12:a.tmps.getD 12 undef=.pointer (some ⟨pb,0,none⟩)) (h13:a.tmps.getD 13 undef=.slice (some ⟨bb,0,none⟩) 64 cc)
 (hX:Boxed W X 70 vo) (hp1:W.cell? ⟨pb,1,none⟩=some (.int .i64 (q:Int))) (hp2:W.cell? ⟨pb,2,none⟩=some (.int .i64 (u:Int))) (hq:q<=u) (hu:u<=64) (hc:64<=cc) (hq6:q < 64) (hO:OwnB base W vo acc) (hb:base<=W.heap.size) (hXb:∀ k,vo.ownBlock=some k->k ≠ X)
 (hS:SlB W (some ⟨bb,q,none⟩) (u - q) (cc - q) l2) (hlen:acc.length+(u - q)<=140737488355328)
 (hQ:∀ a' v' W',OwnB base W' v' (acc ++ l2)->W.grownBy W' vo.ownBlock->Q .normal a' (W'.setCell ⟨X,0,none⟩ v')) :
 wpAnyIn F n Tryz.prog .any ops Q ops.size (Array.replicate ops.size false) a W:=by
 obtain⟨Inv,hInv⟩:∃ Inv,Inv=RegInv X pb vo bb q u cc W (fun v W1=>OwnB base W1 v (acc ++ l2)/\W.grownBy W1 vo.ownBlock) (fun W2=>∃ v1 W1,OwnB base W1 v1 (acc ++ l2)/\W.grownBy W1 vo.ownBlock/\W2=W1.setCell ⟨X,0,none⟩ v1):=⟨_,rfl⟩
 refine zj_d Inv (fun l a W h=>by rw [hInv] at h;rw [h.lsz,hsz]) ?_ ?_ _ _ _ _ ?_ ?_
 ·
  rintro l a1 W1 h hr
  rw [hInv] at h
  have f0:=e0.listed hr (by simp) (by omega)
  have T:∀ {j:Nat},l.getD j true=true->j < 9->l.getD j false=true:=fun h1 h2=>bitT h1 (by rw [h.lsz];exact h2)
  have f1:=e1.listed hr (by simp) (by omega)
  have f2:=e2.listed hr (by simp) (by omega)
  have f4:=e4.listed hr (by simp) (by omega)
  have f3:=e3.listed hr (by intro j hj;simp only [List.mem_cons,List.not_mem_nil,or_false] at hj;rw [hj];exact T f2 (by omega)) (by omega)
  have f5:=e5.listed hr (by intro j hj;simp only [List.mem_cons,List.not_mem_nil,or_false] at hj;rw [hj];exact T f4 (by omega)) (by omega)
  have f6:=e6.listed hr (by intro j hj;simp only [List.mem_cons,List.not_mem_nil,or_false] at hj;rcases hj with rfl|rfl|rfl <;> first|exact T f1 (by omega)|exact T f3 (by omega)|exact T f5 (by omega)) (by omega)
  have f7:=e7.listed hr (by intro j hj;simp only [List.mem_cons,List.not_mem_nil,or_false] at hj;rcases hj with rfl|rfl <;> first|exact T f0 (by omega)|exact T f6 (by omega)) (by omega)
  have f8:=e8.listed hr (by intro j hj;simp only [List.mem_cons,List.not_mem_nil,or_false] at hj;rcases hj with rfl|rfl|rfl|rfl|rfl|rfl|rfl|rfl|rfl|rfl <;> first|exact T f0 (by omega)|exact T f1 (by omega)|exact T f2 (by omega)|exact T f3 (by omega)|exact T f4 (by omega)|exact T f5 (by omega)|exact T f6 (by omega)|exact T f7 (by omega)) (by omega)
  obtain⟨v1,W2,q1,q2,rfl⟩:=h.w8 f8
  exact hQ _ _ _ q1 q2
 ·
  intro l a1 W1 i h hm K' hK
  rw [hInv] at h hK
  obtain⟨hi,hl⟩:=zf_r hm
  rw [hsz] at hi
  have n7:i ≠ 8->l.getD 8 true=true->l.getD 7 true=true:=fun _=>h.o8
  have x11:a1.tmps[11]?.getD undef=.pointer (some ⟨X,0,none⟩):=by have:=h.s11;rwa [Array.getD_eq_getD_getElem?] at this
  have x12:a1.tmps[12]?.getD undef=.pointer (some ⟨pb,0,none⟩):=by have:=h.s12;rwa [Array.getD_eq_getD_getElem?] at this
  have x13:a1.tmps[13]?.getD undef=.slice (some ⟨bb,0,none⟩) 64 cc:=by have:=h.s13;rwa [Array.getD_eq_getD_getElem?] at this
  match i,hi with
 |0,_ =>
   have hW:W1=W:=h.w0 (by cases h7:l.getD 7 true with|false=>rfl|true=>have:=(h.o7 h7).1;rw [hl] at this;cases this)
   subst hW
   have hcell:=hX.cell
   refine e0.value (by simp) (fun o ho=>by simp [Oper.about,ho]) (v:=vo) (w':=W1) (fun o ho=>?_) (hK _ _ (h.step 0 40 vo W1 (by omega) rfl hl (fun _=>rfl) (by simp) (by simp) (by simp) (by simp) (by simp) (by simp) (by simp) (by simp) (by simp) (fun _=>rfl) (by simp)))
   simp [execOp,ho,x11,go_sem,hcell]
 |1,_ =>
   refine e1.value (by simp) (fun o ho=>by simp [Oper.about,ho]) (v:=.slice (some ⟨bb,0,none⟩) 64 cc) (w':=W1) (fun o ho=>?_) (hK _ _ (h.step 1 41 _ W1 (by omega) rfl hl (by simp) (fun _=>rfl) (by simp) (by simp) (by simp) (by simp) (by simp) (by simp) (by simp) (by simp) (fun _=>rfl) (by simp)))
   simp [execOp,ho,x13,go_sem]
 |2,_ =>
   refine e2.value (by simp) (fun o ho=>by simp [Oper.about,ho]) (v:=.pointer (some ⟨pb,1,none⟩)) (w':=W1) (fun o ho=>?_) (hK _ _ (h.step 2 42 _ W1 (by omega) rfl hl (by simp) (by simp) (fun _=>rfl) (by simp) (by simp) (by simp) (by simp) (by simp) (by simp) (by simp) (fun _=>rfl) (by simp)))
   simp [execOp,ho,x12,go_sem]
 |4,_ =>
   refine e4.value (by simp) (fun o ho=>by simp [Oper.about,ho]) (v:=.pointer (some ⟨pb,2,none⟩)) (w':=W1) (fun o ho=>?_) (hK _ _ (h.step 4 44 _ W1 (by omega) rfl hl (by simp) (by simp) (by simp) (by simp) (fun _=>rfl) (by simp) (by simp) (by simp) (by simp) (by simp) (fun _=>rfl) (by simp)))
   simp [execOp,ho,x12,go_sem]
 |3,_ =>
   have d2:=e3.dep hm (j:=2) (by simp)
   have hs:a1.tmps[42]?.getD undef=.pointer (some ⟨pb,1,none⟩):=by have:=h.i2 (bitF d2);rwa [Array.getD_eq_getD_getElem?] at this
   have hW:W1=W:=h.w0 (by cases h7:l.getD 7 true with|false=>rfl|true=>have:=(h.o6 (h.o7 h7).2).1;rw [hl] at this;cases this)
   subst hW
   refine e3.value (by simp) (fun o ho=>by simp [Oper.about,ho]) (v:=.int .i64 (q:Int)) (w':=W1) (fun o ho=>?_) (hK _ _ (h.step 3 43 _ W1 (by omega) rfl hl (by simp) (by simp) (by simp) (fun _=>rfl) (by simp) (by simp) (by simp) (by simp) (by simp) (by simp) (fun _=>rfl) (by simp)))
   simp [execOp,ho,hs,go_sem,hp1]
 |5,_ =>
   have d4:=e5.dep hm (j:=4) (by simp)
   have hs:a1.tmps[44]?.getD undef=.pointer (some ⟨pb,2,none⟩):=by have:=h.i4 (bitF d4);rwa [Array.getD_eq_getD_getElem?] at this
   have hW:W1=W:=h.w0 (by cases h7:l.getD 7 true with|false=>rfl|true=>have:=(h.o6 (h.o7 h7).2).2;rw [hl] at this;cases this)
   subst hW
   refine e5.value (by simp) (fun o ho=>by simp [Oper.about,ho]) (v:=.int .i64 (u:Int)) (w':=W1) (fun o ho=>?_) (hK _ _ (h.step 5 45 _ W1 (by omega) rfl hl (by simp) (by simp) (by simp) (by simp) (by simp) (fun _=>rfl) (by simp) (by simp) (by simp) (by simp) (fun _=>rfl) (by simp)))
   simp [execOp,ho,hs,go_sem,hp2]
 |6,_ =>
   have d1:=e6.dep hm (j:=1) (by simp)
   have d3:=e6.dep hm (j:=3) (by simp)
   have d5:=e6.dep hm (j:=5) (by simp)
   have s1:a1.tmps[41]?.getD undef=.slice (some ⟨bb,0,none⟩) 64 cc:=by have:=h.i1 (bitF d1);rwa [Array.getD_eq_getD_getElem?] at this
   have s3:a1.tmps[43]?.getD undef=.int .i64 (q:Int):=by have:=h.i3 (bitF d3);rwa [Array.getD_eq_getD_getElem?] at this
   have s5:a1.tmps[45]?.getD undef=.int .i64 (u:Int):=by have:=h.i5 (bitF d5);rwa [Array.getD_eq_getD_getElem?] at this
   have c1:¬ cc=q:=by omega
   have c2:u<=cc:=by omega
   refine e6.value (by simp) (fun o ho=>by simp [Oper.about,ho]) (v:=.slice (some ⟨bb,q,none⟩) (u - q) (cc - q)) (w':=W1) (fun o ho=>?_) (hK _ _ (h.step 6 46 _ W1 (by omega) rfl hl (by simp) (by simp) (by simp) (by simp) (by simp) (by simp) (fun _=>rfl) (fun _=>⟨bitF d3,bitF d5⟩) (by simp) (by simp) (fun _=>rfl) (by simp)))
   simp [execOp,ho,s1,s3,s5,go_sem,c1,c2,hq]
 |7,_ =>
   have d0:=e7.dep hm (j:=0) (by simp)
   have d6:=e7.dep hm (j:=6) (by simp)
   have hW:W1=W:=h.w0 hl
   subst hW
   obtain⟨o,ho1,ho2,ho3,ho4,ho5⟩:=id e7.ex
   obtain⟨v',w',hrun,hv,hg⟩:=ze_q o.type base vo acc hO (some ⟨bb,q,none⟩) (u - q) (cc - q) l2 hS hlen hb
   unfold wpOpIn
   rw [ho1]
   simp only [Region.wanted,ho3,if_true]
   unfold Oper.wpIn
   rw [Oper.semAt_plain F _ _ (by rw [ho2];intro c hc';cases hc')]
   refine⟨by simp [Oper.about,ho2,resolve,Target.leads,Sem.run_pure],?_⟩
   have:(execOp a1.eval o).run Tryz.prog W1=.ok (.value v') w':=by
    have s0':a1.eval (.tmp 40)=vo:=h.i0 (bitF d0)
    have s6':a1.eval (.tmp 46)=.slice (some ⟨bb,q,none⟩) (u - q) (cc - q):=h.i6 (bitF d6)
    simp [execOp,ho2,resolve,invoke,builtin,s0',s6',hrun,Result.andThen]
   rw [this,Oper.uponIn_value,ho4]
   exact hK _ _ (h.step 7 47 v' w' (by omega) rfl hl (by simp) (by simp) (by simp) (by simp) (by simp) (by simp) (by simp) (by simp) (fun _=>⟨bitF d0,bitF d6⟩) (by simp) (by simp) (fun _=>⟨hv,hg⟩))
 |8,_ =>
   have d7:=e8.dep hm (j:=7) (by simp)
   obtain⟨hv,hg⟩:=h.w7 (bitF d7) hl
   obtain⟨v',hv'⟩:∃ v',v'=a1.tmps.getD 47 undef:=⟨_,rfl⟩
   rw [<-hv'] at hv
   have s7:a1.tmps[47]?.getD undef=v':=by have:=hv'.symm;rwa [Array.getD_eq_getD_getElem?] at this
   have hfr:W1.frozen? ⟨X,0,none⟩=false:=by
    exact (hX.kept hg (fun e=>hXb X e.symm rfl)).frozen
   refine e8.skip (by simp) (fun o ho=>by simp [Oper.about,ho]) (w':=W1.setCell ⟨X,0,none⟩ v') (fun o ho=>?_) (hK _ _ ?_)
   ·obtain⟨av,cv,hvv,-,-⟩:=hv.sl
    have hcl:=(hX.kept hg (fun e=>hXb X e.symm rfl)).cell
    simp [execOp,ho,x11,s7,hvv,go_sem,hfr,hcl]
   ·have B:∀ k,(l.setIfInBounds 8 true).getD k true=if k=8 then true else l.getD k true:=fun k=>zm_y l 8 k true (by rw [h.lsz];omega)
    refine⟨by simpa using h.lsz,h.asz,h.s11,h.s12,h.s13,?_,?_,?_,?_,?_,?_,?_,?_,?_,?_,?_,?_,?_⟩
    ·intro e;rw [B] at e;exact h.i0 e
    ·intro e;rw [B] at e;exact h.i1 e
    ·intro e;rw [B] at e;exact h.i2 e
    ·intro e;rw [B] at e;exact h.i3 e
    ·intro e;rw [B] at e;exact h.i4 e
    ·intro e;rw [B] at e;exact h.i5 e
    ·intro e;rw [B] at e;exact h.i6 e
    ·intro e;rw [B] at e;simp only [B];exact h.o6 e
    ·intro e;rw [B] at e;simp only [B];exact h.o7 e
    ·intro e;rw [B];exact bitF d7
    ·intro e;rw [B] at e;have:=bitF d7;rw [if_neg (by decide),this] at e;cases e
    ·intro _ e;rw [B] at e;cases e
    ·intro _;exact⟨v',W1,hv,hg,rfl⟩
 ·rw [hInv,hsz]
  have:∀ j,j < 9->(Array.replicate 9 false).getD j true=false:=by decide
  refine⟨rfl,ha,h11,h12,h13,?_,?_,?_,?_,?_,?_,?_,?_,?_,?_,fun _=>rfl,?_,?_⟩ <;> (intro e;first|(rw [this _ (by decide)] at e;cases e))
 ·rw [hsz];decide
end Go.Proofs.YtmanejniepghlaaGreatDoor
namespace Go.Proofs.YtmanejniepghlaaGreatDoor.Frame
open Crc Super
def size (n:Int):Int:=if n < 0\/1024 < n then 0 else 14+n
def head (ep sq:Nat) (p:List UInt8):List UInt8:=le 2 p.length ++ le 4 ep ++ le 4 sq ++ p
def enc (ep sq:Nat) (p:List UInt8):List UInt8:=head ep sq p ++ le 4 (update 0 (head ep sq p))
def len2 (b:List UInt8):Nat:=unle (b.take 2)
def dec (b:List UInt8) (ep sq:Nat):List UInt8 × Nat × Int :=
 if b.length < 14 then ([],0,5)
 else if 1024 < len2 b then ([],0,3)
 else if b.length < 14+len2 b then ([],0,5)
 else if unle ((b.drop (10+len2 b)).take 4) ≠ update 0 (b.take (10+len2 b)) then ([],0,7)
 else if unle ((b.drop 2).take 4) ≠ ep\/unle ((b.drop 6).take 4) ≠ sq then ([],0,8)
 else ((b.drop 10).take (len2 b),14+len2 b,0)
theorem len2_lt (b:List UInt8):len2 b < 65536:=by
 have h:=unle_lt (b.take 2)
 have h2:(b.take 2).length<=2:=List.length_take_le _ _
 exact Nat.lt_of_lt_of_le h (Nat.le_trans (Nat.pow_le_pow_right (by decide) h2) (by decide))
theorem head_length (ep sq:Nat) (p:List UInt8):(head ep sq p).length=10+p.length:=by simp [head,le_length];omega
theorem enc_length (ep sq:Nat) (p:List UInt8):(enc ep sq p).length=14+p.length:=by simp [enc,head_length,le_length];omega
theorem zd_g (ep sq:Nat) (p r:List UInt8):enc ep sq p ++ r=le 2 p.length ++ (le 4 ep ++ (le 4 sq ++ (p ++ (le 4 (update 0 (head ep sq p)) ++ r)))):=by simp [enc,head]
theorem drop_app {a b:List UInt8} (n:Nat) (h:a.length<=n):(a ++ b).drop n=b.drop (n - a.length):=by
 rw [List.drop_append,List.drop_eq_nil_of_le h,List.nil_append]
theorem zr_b (ep sq:Nat) (p r:List UInt8) (hp:p.length<=1024):len2 (enc ep sq p ++ r)=p.length:=by
 unfold len2
 rw [zd_g,List.take_append_of_le_length (by rw [le_length];omega),List.take_of_length_le (by rw [le_length];omega),zc_i,Nat.mod_eq_of_lt (by omega)]
theorem f2 (ep sq:Nat) (p r:List UInt8) (h:ep < 4294967296):unle (((enc ep sq p ++ r).drop 2).take 4)=ep:=by
 rw [zd_g,drop_app 2 (by rw [le_length];omega),le_length,Nat.sub_self,List.drop_zero,List.take_append_of_le_length (by rw [le_length];omega),List.take_of_length_le (by rw [le_length];omega),zc_i,Nat.mod_eq_of_lt (by omega)]
theorem f6 (ep sq:Nat) (p r:List UInt8) (h:sq < 4294967296):unle (((enc ep sq p ++ r).drop 6).take 4)=sq:=by
 rw [zd_g,drop_app 6 (by rw [le_length];omega),le_length,drop_app _ (by rw [le_length];omega),le_length,List.drop_zero,List.take_append_of_le_length (by rw [le_length];omega),List.take_of_length_le (by rw [le_length];omega),zc_i,Nat.mod_eq_of_lt (by omega)]
theorem f10 (ep sq:Nat) (p r:List UInt8):((enc ep sq p ++ r).drop 10).take p.length=p:=by
 rw [zd_g,drop_app 10 (by rw [le_length];omega),le_length,drop_app _ (by rw [le_length];omega),le_length,drop_app _ (by rw [le_length];omega),le_length,List.drop_zero,List.take_left]
theorem fsum (ep sq:Nat) (p r:List UInt8):unle (((enc ep sq p ++ r).drop (10+p.length)).take 4)=update 0 (head ep sq p):=by
 have h:=head_length ep sq p
 rw [enc,List.append_assoc,<-h,List.drop_left,List.take_append_of_le_length (by rw [le_length];omega),List.take_of_length_le (by rw [le_length];omega),zc_i,Nat.mod_eq_of_lt (update_lt _ _)]
theorem fhead (ep sq:Nat) (p r:List UInt8):(enc ep sq p ++ r).take (10+p.length)=head ep sq p:=by
 have h:=head_length ep sq p
 rw [enc,List.append_assoc,<-h,List.take_left]
theorem dec_enc (ep sq:Nat) (p r:List UInt8) (hp:p.length<=1024) (he:ep < 4294967296) (hs:sq < 4294967296):dec (enc ep sq p ++ r) ep sq=(p,14+p.length,0):=by
 have hl:=enc_length ep sq p
 unfold dec
 rw [if_neg (by simp;omega),zr_b _ _ _ _ hp,if_neg (by omega),if_neg (by simp;omega),fsum,fhead,if_neg (by simp),f2 _ _ _ _ he,f6 _ _ _ _ hs,if_neg (by simp),f10]
theorem dec_ok (b:List UInt8) (ep sq:Nat) (h:(dec b ep sq).2.2=0):(dec b ep sq).2.1=14+(dec b ep sq).1.length/\(dec b ep sq).2.1<=b.length/\(dec b ep sq).1.length<=1024:=by
 unfold dec at h ⊢
 by_cases h1:b.length < 14
 ·rw [if_pos h1] at h;simp at h
 rw [if_neg h1] at h ⊢
 by_cases h2:1024 < len2 b
 ·rw [if_pos h2] at h;simp at h
 rw [if_neg h2] at h ⊢
 by_cases h3:b.length < 14+len2 b
 ·rw [if_pos h3] at h;simp at h
 rw [if_neg h3] at h ⊢
 by_cases h4:unle ((b.drop (10+len2 b)).take 4) ≠ update 0 (b.take (10+len2 b))
 ·rw [if_pos h4] at h;simp at h
 rw [if_neg h4] at h ⊢
 by_cases h5:unle ((b.drop 2).take 4) ≠ ep\/unle ((b.drop 6).take 4) ≠ sq
 ·rw [if_pos h5] at h;simp at h
 rw [if_neg h5]
 simp;omega
def go (b:List UInt8) (ep:Nat):Nat->Nat->List (List UInt8)->Nat->List (List UInt8) × Nat
|0,_,out,e=>(out,e)
|f+1,k,out,e=>if (dec (b.drop e) ep k).2.2=0 then go b ep f (k+1) (out ++ [(dec (b.drop e) ep k).1]) (e+(dec (b.drop e) ep k).2.1) else (out,e)
def scan (b:List UInt8) (ep:Nat):List (List UInt8) × Nat:=go b ep (b.length+1) 0 [] 0
theorem go_ok (b:List UInt8) (ep f k:Nat) (out:List (List UInt8)) (e:Nat) (h:(dec (b.drop e) ep k).2.2=0):go b ep (f+1) k out e=go b ep f (k+1) (out ++ [(dec (b.drop e) ep k).1]) (e+(dec (b.drop e) ep k).2.1):=by rw [go,if_pos h]
theorem go_end (b:List UInt8) (ep f k:Nat) (out:List (List UInt8)) (e:Nat) (h:(dec (b.drop e) ep k).2.2 ≠ 0):go b ep (f+1) k out e=(out,e):=by rw [go,if_neg h]
def cat (ep:Nat):Nat->List (List UInt8)->List UInt8
|_,[]=>[]
|k,p :: ps=>enc ep k p ++ cat ep (k+1) ps
theorem cat_snoc (ep:Nat) (ps:List (List UInt8)) (p:List UInt8):∀ k,cat ep k (ps ++ [p])=cat ep k ps ++ enc ep (k+ps.length) p:=by
 induction ps with
|nil=>intro k;simp [cat]
|cons q ps ih=>intro k;rw [List.cons_append,cat,cat,ih,List.append_assoc,List.length_cons,show k+1+ps.length=k+(ps.length+1) by omega]
end Go.Proofs.YtmanejniepghlaaGreatDoor.Frame
namespace Go.Proofs.YtmanejniepghlaaGreatDoor
open Go.RowKit
variable {w w':World} {base c k n:Nat} {a:Option Addr} {l ls:List (List UInt8)} {v:Value}
def SlL (w:World) (a:Option Addr) (n c:Nat) (ls:List (List UInt8)):Prop :=
 ls.length=n/\n<=c/\c<=maxLen/\(a=none->ls=[]/\c=0) ∧
  ∀ x,a=some x->∀ i (h:i < ls.length),x.spot=none/\x.block < w.heap.size/\∃ b m d,w.cell? ⟨x.block,x.off+i,none⟩=some (.slice b m d)/\SlB w b m d ls[i]
theorem SlL.len (h:SlL w a n c l):l.length=n:=h.1
theorem SlL.le (h:SlL w a n c l):n<=9223372036854775807:=by
 have:=h.2.1;have:=h.2.2.1;unfold maxLen at *;omega
theorem SlL.nil (w:World):SlL w none 0 0 []:=⟨rfl,zN _,by unfold maxLen;omega,fun _=>⟨rfl,rfl⟩,fun x hx=>by cases hx⟩
theorem SlL.at (h:SlL w a n c l) (hk:k < n) :
 ∃ b o,a=some ⟨b,o,none⟩/\b < w.heap.size/\∃ p m d,w.cell? ⟨b,o+k,none⟩=some (.slice p m d)/\SlB w p m d (l[k]?.getD []):=by
 obtain⟨hl,hn,hc,h0,h1⟩:=h
 cases a with
|none=>have:=(h0 rfl).1;subst this;simp at hl;omega
|some x =>
  obtain⟨b,o,sp⟩:=x
  have hk':k < l.length:=by omega
  obtain⟨hs,hb,p,m,d,hi,hq⟩:=h1 _ rfl k hk'
  simp only at hs;subst hs
  refine⟨b,o,rfl,hb,p,m,d,hi,?_⟩
  rw [List.getElem?_eq_getElem hk']
  exact hq
theorem SlL.ext (h:SlL w a n c l) (e:Below w.heap.size w w'):SlL w' a n c l:=by
 obtain⟨hl,hn,hc,h0,h1⟩:=h
 refine⟨hl,hn,hc,h0,fun x hx i hi=>?_⟩
 obtain⟨hs,hb,p,m,d,hi,hq⟩:=h1 x hx i hi
 exact⟨hs,Nat.lt_of_lt_of_le hb e.size,p,m,d,(e.cell (p:=⟨x.block,x.off+i,none⟩) hb).trans hi,hq.ext e⟩
theorem SlL.take (h:SlL w a n c l) (hk:k<=n):SlL w a k c (l.take k):=by
 obtain⟨hl,hn,hc,h0,h1⟩:=h
 refine⟨by simp;omega,by omega,hc,fun e=>by simp [h0 e],fun x hx i hi=>?_⟩
 have hi':i < l.length:=by simp at hi;omega
 obtain⟨hs,hb,p,m,d,hcl,hq⟩:=h1 x hx i hi'
 exact⟨hs,hb,p,m,d,hcl,by simpa using hq⟩
theorem info26:(Tryz.prog.info? 70).map (fun i=>(i.zero,i.size,i.bytes))=some (some (.slice none 0 0),1,24):=by kernel_rfl
def OwnL (base:Nat) (w:World) (v:Value) (ls:List (List UInt8)):Prop :=
 ∃ vs:List Value,w.ownsRow base 70 1 v ls.length vs/\∀ i,i < ls.length->∃ u,vs[i]?=some u/\OwnB base w u (ls[i]?.getD [])
theorem OwnL.nil (base:Nat) (w:World):OwnL base w (.slice none 0 0) []:=⟨[],World.ownsRow_nil w base _ _,fun i hi=>by simp at hi⟩
theorem OwnL.lt (h:OwnL base w v ls):∀ k,v.ownBlock=some k->base<=k/\k < w.heap.size:=by
 obtain⟨vs,h1,_⟩:=h;exact World.ownsRow.lt h1
theorem OwnL.ext (h:OwnL base w v ls) (e:Below w.heap.size w w'):OwnL base w' v ls:=by
 obtain⟨vs,h1,h2⟩:=h
 refine⟨vs,⟨h1.1,?_⟩,fun i hi=>?_⟩
 ·rcases h1.2 with hn|⟨g,cap,cur,rfl,hb,hgg,rest⟩
  ·exact .inl hn
  ·exact .inr ⟨g,cap,cur,rfl,hb,(e.block g (Array.getElem?_eq_some_iff.1 hgg).1).trans hgg,rest⟩
 ·obtain⟨u,h3,h4⟩:=h2 i hi
  exact⟨u,h3,h4.ext e⟩
theorem OwnL.sl (h:OwnL base w v ls):∃ a c,v=.slice a ls.length c/\SlL w a ls.length c ls:=by
 obtain⟨vs,h1,h2⟩:=h
 rcases id h1.2 with⟨hv,hn⟩|⟨g,cap,cur,hv,hg,hc,hnc,hcm,hcs,htake⟩
 ·have hl:ls=[]:=List.eq_nil_of_length_eq_zero hn
  subst hl
  exact⟨none,0,hv,SlL.nil w⟩
 ·refine⟨some ⟨g,0,none⟩,cap,hv,⟨rfl,hnc,hcm,(fun h=>by cases h),fun x hx i hi=>?_⟩⟩
  cases hx
  refine⟨rfl,(Array.getElem?_eq_some_iff.1 hc).1,?_⟩
  obtain⟨u,h3,h4⟩:=h2 i hi
  obtain⟨p,d,rfl,h5,-⟩:=h4.sl
  have e:ls[i]?.getD []=ls[i]:=by simp [hi]
  rw [e] at h3 h5
  refine⟨p,ls[i].length,d,?_,h5⟩
  ·have hl:vs.length=ls.length:=by rw [h1.1];simp
   have:=World.ownsRow.cellAt (g:=g) (cap:=cap) (by rw [<-hv];exact h1) i (by omega)
   simp only [Nat.zero_add]
   rw [this];simpa using h3
theorem OwnB.grownL {u:Value} {l:List UInt8} {vs:List Value} (h:OwnB base w u l) (hv:w.ownsRow base 70 1 v n vs) (hg:w.grownBy w' v.ownBlock):OwnB base w' u l:=by
 refine⟨h.1,?_⟩
 rcases h.2 with hn|⟨g,cap,cur,rfl,hb,hgg,rest⟩
 ·exact .inl hn
 ·refine .inr ⟨g,cap,cur,rfl,hb,(hg.block g (za_a hgg) ?_).trans hgg,rest⟩
  intro e
  rcases hv.2 with⟨rfl,_⟩|⟨g',cap',cur',rfl,_,hgg',_⟩
  ·cases e
  ·simp [Value.ownBlock] at e
   subst e
   rw [hgg] at hgg'
   cases hgg'
theorem zd_e {ops:Array Oper} {rest:List Oper} {o:Oper} {a:Act} {Q:Exit->Act->World->Prop} (hgd:o.guard=none) (s x:Operand)
 (ho:o.op=.call { callee:=.builtin .append,args:=#[s,x],argTypes:=#[112,112] })
 (base:Nat) (v:Value) (ls:List (List UInt8)) (hs:a.eval s=v) (hown:OwnL base w v ls) (u:Value) (l:List UInt8) (hu:OwnB base w u l)
 (t:TypeId) (W:World) (hW:W=w.alloc (.cells #[u] t)) (k:Nat) (hk:k=w.heap.size) (hx:a.eval x=.slice (some ⟨k,0,none⟩) 1 1)
 (hlen:ls.length<=1000000000) (hbase:base<=w.heap.size)
 (h:∀ v' w',OwnL base w' v' (ls ++ [l])->Below base w w'->wpList Tryz.prog ops Q rest (a.put o.dst v') w'):wpList Tryz.prog ops Q (o :: rest) a W:=by
 subst hW;subst hk
 obtain⟨i0,hi,hz0,hz1,hz2⟩:=info_parts info26
 obtain⟨vs,h1,h2⟩:=hown
 have hvl:vs.length=ls.length:=by rw [h1.1];simp
 refine wpList_append_own (w.alloc (.cells #[u] t)) hgd s x 112 ho base 70 i0 (.slice none 0 0) 1 24 Tryz.underlying112 hi hz0 hz1 hz2 rfl (by decide) v ls.length vs hs (h1.alloc _) ⟨w.heap.size,0,none⟩ 1 1 [u] hx rfl ?_ ?_ (by unfold maxLen;omega) (by omega) (by simp;omega) ?_
 ·intro j q hj
  obtain⟨rfl,rfl⟩:j=0/\q=u:=by
   cases j with
  |zero=>exact⟨rfl,by simpa using hj.symm⟩
  |succ j=>simp at hj
  have hadd:(⟨w.heap.size,0,none⟩:Addr).add 0=⟨w.heap.size,0,none⟩:=by unfold Addr.add;split <;> simp_all
  rw [hadd,World.cell?_alloc_at _ _ _ _ rfl];rfl
 ·intro q hq
  simp at hq;subst hq
  obtain⟨p,d,rfl,-⟩:=hu.sl
  rfl
 ·intro v' w' h3 h4 _
  have hal:Below base w (w.alloc (.cells #[u] t)):=(Below.refl _ _).alloc hbase _
  refine h v' w' ⟨vs ++ [u],by simpa using h3,fun i hi=>?_⟩ (hal.grown h4 (by simp;omega) (fun k hk=>((World.ownsRow.lt h1) k hk).1))
  have hkeep:∀ q m,OwnB base w q m->OwnB base w' q m:=fun q m hq=>(hq.alloc (.cells #[u] t)).grownL (h1.alloc (.cells #[u] t)) h4
  by_cases hil:i < ls.length
  ·obtain⟨q,h5,h6⟩:=h2 i hil
   refine⟨q,?_,?_⟩
   ·rw [List.getElem?_append_left (by omega)];exact h5
   ·rw [List.getElem?_append_left hil];exact hkeep _ _ h6
  ·obtain rfl:i=ls.length:=by simp at hi;omega
   refine⟨u,?_,?_⟩
   ·rw [List.getElem?_append_right (by omega),hvl];simp
   ·rw [List.getElem?_append_right (by omega)];simpa using hkeep _ _ hu
end Go.Proofs.YtmanejniepghlaaGreatDoor
namespace Go.Proofs.YtmanejniepghlaaGreatDoor.Puny
variable {t:List UInt8}
theorem zj_w (f:Nat):∀ (q i w:Int) (k:Nat) (bias:Int) (rest:List UInt8),0<=q->q < f->0<=i->1<=w->35 * (i+q * w)<=1099511627776 →
 decNum (digs f q k bias ++ rest) i w k bias=.ok (rest,i+q * w):=by
 induction f with
|zero=>intro q i w k bias rest h0 h1;omega
|succ f ih =>
  intro q i w k bias rest h0 h1 hi hw hT
  have ht:=thr_bd k bias
  rw [digs]
  by_cases h:q < thr k bias
  ·rw [if_pos h,List.singleton_append,decNum,zf_e q h0 (by omega),if_neg (by omega),if_neg (by omega),if_pos h]
  ·rw [if_neg h,List.cons_append,decNum]
   generalize hTT:thr k bias=t at *
   have hd0:0<=(q - t) % (36 - t):=Int.emod_nonneg _ (by omega)
   have hd1:(q - t) % (36 - t) < 36 - t:=Int.emod_lt_of_pos _ (by omega)
   have hqe:(36 - t) * ((q - t) / (36 - t))+(q - t) % (36 - t)=q - t:=Int.mul_ediv_add_emod _ _
   have hn:=next_lt q t ht.1 ht.2 (by omega)
   generalize (q - t) % (36 - t)=r at *
   generalize (q - t) / (36 - t)=q' at *
   have hwq:1 * w<=q * w:=Int.mul_le_mul_of_nonneg_right (by omega) (by omega)
   have hdw:(t+r) * w<=q * w:=Int.mul_le_mul_of_nonneg_right (by
    have:0<=(36 - t) * q':=Int.mul_nonneg (by omega) hn.1
    omega) (by omega)
   have hdw0:0<=(t+r) * w:=Int.mul_nonneg (by omega) (by omega)
   have hwt:w * (36 - t)<=w * 35:=Int.mul_le_mul_of_nonneg_left (by omega) (by omega)
   have hwt1:1<=w * (36 - t):=by
    have:w * 1<=w * (36 - t):=Int.mul_le_mul_of_nonneg_left (by omega) (by omega)
    omega
   have hsum:(t+r) * w+q' * (w * (36 - t))=q * w:=by
    have h2:q' * (w * (36 - t))=((36 - t) * q') * w:=by rw [Int.mul_comm w,<-Int.mul_assoc,Int.mul_comm q']
    rw [h2,<-Int.add_mul];congr 1;omega
   rw [zf_e _ (by omega) (by omega),if_neg (by omega),if_neg (by omega),if_neg (by omega),if_neg (by omega)]
   rw [ih q' (i+(t+r) * w) (w * (36 - t)) (k+1) bias rest hn.1 (by omega) (by omega) hwt1 (by omega)]
   congr 2;omega
def low (b:UInt8):UInt8:=digit (value b)
theorem zl_s (l:List UInt8):∀ (i w:Int) (k:Nat) (bias:Int) (r:List UInt8) (j:Int),0<=i->1<=w->decNum l i w k bias=.ok (r,j) →
 ∃ ds q,l=ds ++ r/\ds ≠ []/\0<=q/\j=i+q * w/\j<=1099511627776/\∀ f:Nat,q < f->digs f q k bias=ds.map low:=by
 induction l with
|nil=>intro i w k bias r j hi hw h;rw [decNum] at h;cases h
|cons b l ih =>
  intro i w k bias r j hi hw h
  have ht:=thr_bd k bias
  have hv:=zp_k b
  rw [decNum] at h
  split at h
  ·cases h
  split at h
  ·cases h
  split at h
  ·rename_i h1 h2 h3
   injection h with h;injection h with e1 e2
   subst e1;subst e2
   refine⟨[b],value b,rfl,by simp,by omega,rfl,by omega,fun f hf=>?_⟩
   obtain⟨f,rfl⟩:∃ g,f=g+1:=⟨f - 1,by omega⟩
   rw [digs,if_pos h3];rfl
  split at h
  ·cases h
  rename_i h1 h2 h3 h4
  generalize hTT:thr k bias=t at *
  have hwt1:1<=w * (36 - t):=by
   have:w * 1<=w * (36 - t):=Int.mul_le_mul_of_nonneg_left (by omega) (by omega)
   omega
  have hv0:0<=value b * w:=Int.mul_nonneg (by omega) (by omega)
  obtain⟨ds,q',e1,-,hq',e2,e3,hdg⟩:=ih (i+value b * w) (w * (36 - t)) (k+1) bias r j (by omega) hwt1 h
  have h10:10 * q'<=(36 - t) * q':=Int.mul_le_mul_of_nonneg_right (by omega) hq'
  refine⟨b :: ds,value b+(36 - t) * q',by rw [e1];rfl,by simp,by omega,?_,e3,fun f hf=>?_⟩
  ·rw [e2,Int.add_mul,Int.mul_comm w (36 - t),<-Int.mul_assoc,Int.mul_comm q' (36 - t)];omega
  ·obtain⟨f,rfl⟩:∃ g,f=g+1:=⟨f - 1,by omega⟩
   have e4:value b+(36 - t) * q' - t=(value b - t)+(36 - t) * q':=by omega
   have e5:(value b+(36 - t) * q' - t) % (36 - t)=value b - t:=by
    rw [e4,Int.add_mul_emod_self_left];exact Int.emod_eq_of_lt (by omega) (by omega)
   have e6:(value b+(36 - t) * q' - t) / (36 - t)=q':=by
    rw [e4,Int.add_mul_ediv_left _ _ (by omega),Int.ediv_eq_zero_of_lt (by omega) (by omega)];omega
   rw [digs,hTT,if_neg (by omega),e5,e6,hdg f (by omega),List.map_cons]
   congr 2;omega
theorem zq_u (q i:Int) (bias:Int) (rest:List UInt8) (hq:0<=q) (hi:0<=i) (hT:35 * (i+q)<=1099511627776):decNum (numE q bias ++ rest) i 1 0 bias=.ok (rest,i+q):=by
 have:=zj_w (q.toNat+1) q i 1 0 bias rest hq (by omega) hi (by omega) (by omega)
 rw [Int.mul_one] at this;exact this
theorem zs_u (q bias:Int):numE q bias ≠ []:=by
 unfold numE;rw [digs];split <;> simp
def dig (b:UInt8):Bool:=(decide (97<=b.toNat) && decide (b.toNat<=122)) || (decide (48<=b.toNat) && decide (b.toNat<=57))
theorem zi_m (d:Int) (h0:0<=d) (h1:d < 36):dig (digit d)=true:=by
 unfold dig digit
 by_cases h:d < 26
 ·rw [if_pos h]
  have:(UInt8.ofNat (97+d).toNat).toNat=(97+d).toNat:=by simp;omega
  rw [this];simp;omega
 ·rw [if_neg h]
  have:(UInt8.ofNat (48+d - 26).toNat).toNat=(48+d - 26).toNat:=by simp;omega
  rw [this];simp;omega
theorem zp_l (f:Nat):∀ (q:Int) (k:Nat) (bias:Int),0<=q->∀ b ∈ digs f q k bias,dig b=true:=by
 induction f with
|zero=>intro q k bias h b hb;cases hb
|succ f ih =>
  intro q k bias h b hb
  have ht:=thr_bd k bias
  rw [digs] at hb
  split at hb
  ·simp at hb;subst hb;exact zi_m _ h (by omega)
  ·have hd0:0<=(q - thr k bias) % (36 - thr k bias):=Int.emod_nonneg _ (by omega)
   have hd1:(q - thr k bias) % (36 - thr k bias) < 36 - thr k bias:=Int.emod_lt_of_pos _ (by omega)
   rcases List.mem_cons.1 hb with rfl|hb
   ·exact zi_m _ (by omega) (by omega)
   ·exact ih _ _ _ (next_lt q _ ht.1 ht.2 (by omega)).1 b hb
def Out (fr:List UInt8) (basic:Nat) (e:E) (t:List UInt8):Prop:=e.out=fr ++ t/\(∀ b ∈ t,dig b=true)/\t.length+10 * basic<=10 * e.done
theorem ins_length (l:List Int) (i:Nat) (n:Int) (h:i<=l.length):(ins l i n).length=l.length+1:=by simp [ins];omega
theorem zj_b (s:D) (d:Int) (rest:List UInt8) (hd:0<=d) (hi:0<=s.i) (hT:35 * (s.i+d)<=1099511627776) (hp:point (s.n+(s.i+d) / (s.pts.length+1))=true) (hl:s.pts.length < 256) :
 decStep (numE d s.bias ++ rest) s=.ok (rest,⟨ins s.pts ((s.i+d) % (s.pts.length+1)).toNat (s.n+(s.i+d) / (s.pts.length+1)),s.n+(s.i+d) / (s.pts.length+1),(s.i+d) % (s.pts.length+1)+1,adapt d (s.pts.length+1) s.first,false⟩):=by
 unfold decStep
 rw [zq_u d s.i s.bias rest hd hi hT]
 simp only [hp]
 rw [if_neg (by simp),if_neg (by omega),show s.i+d - s.i=d by omega]
def Reads (s:D) (t:List UInt8) (s':D):Prop:=∃ k,k<=t.length/\∀ f rest,decGo (f+k) (t ++ rest) s=decGo f rest s'
theorem Reads.refl (s:D):Reads s [] s:=⟨0,Nat.le_refl _,fun _ _=>rfl⟩
theorem Reads.step {s s' s'':D} {u:List UInt8} (h:Reads s t s') (hu:u ≠ []) (hs:∀ rest,decStep (u ++ rest) s'=.ok (rest,s'')):Reads s (t ++ u) s'':=by
 obtain⟨k,hk,h⟩:=h
 have hul:0 < u.length:=List.length_pos_iff.2 hu
 refine⟨k+1,by rw [List.length_append];omega,fun f rest=>?_⟩
 rw [show f+(k+1)=(f+1)+k by omega,List.append_assoc,h,decGo,if_neg (by simp [hu]),hs]
theorem Reads.done {s s':D} (h:Reads s t s') (f:Nat) (hf:t.length<=f):decGo f t s=.ok s'.pts:=by
 obtain⟨k,hk,h⟩:=h
 have:=h (f - k) []
 rw [List.append_nil,show f - k+k=f by omega] at this
 rw [this]
 cases f - k <;> simp [decGo]
theorem zp_v (n:Int) (ps:List Int):∀ m,least n m ps<=m:=by
 induction ps with
|nil=>intro m;exact Int.le_refl _
|cons p ps ih =>
  intro m
  have:=ih (if n<=p then min m p else m)
  rw [least,List.foldl_cons]
  refine Int.le_trans this ?_
  split <;> omega
theorem zo_n (n:Int) (ps:List Int):∀ m,∀ p ∈ ps,n<=p->least n m ps<=p:=by
 induction ps with
|nil=>intro m p hp;cases hp
|cons q ps ih =>
  intro m p hp hn
  rw [least,List.foldl_cons]
  rcases List.mem_cons.1 hp with rfl|hp
  ·refine Int.le_trans (zp_v n ps _) ?_
   rw [if_pos hn];omega
  ·exact ih _ p hp hn
theorem zn_y (n:Int) (ps:List Int):∀ m,least n m ps=m\/(least n m ps ∈ ps/\n<=least n m ps):=by
 induction ps with
|nil=>intro m;exact .inl rfl
|cons q ps ih =>
  intro m
  have e:least n m (q :: ps)=least n (if n<=q then min m q else m) ps:=rfl
  rw [e]
  rcases ih (if n<=q then min m q else m) with h|⟨h1,h2⟩
  ·by_cases hq:n<=q
   ·rw [if_pos hq] at h ⊢
    rcases Int.le_total q m with hm|hm
    ·rw [h,Int.min_eq_right hm];exact .inr ⟨List.mem_cons_self ..,hq⟩
    ·rw [h,Int.min_eq_left hm];exact .inl rfl
   ·rw [if_neg hq] at h ⊢;exact .inl h
  ·exact .inr ⟨List.mem_cons_of_mem _ h1,h2⟩
theorem zc_k (n M:Int) (ps:List Int) (hex:∃ p ∈ ps,n<=p) (hM:∀ p ∈ ps,p < M):least n M ps ∈ ps/\n<=least n M ps/\∀ p ∈ ps,n<=p->least n M ps<=p:=by
 obtain⟨p,hp,hn⟩:=hex
 have h1:=zo_n n ps M
 rcases zn_y n ps M with h|⟨h2,h3⟩
 ·have:=h1 p hp hn;have:=hM p hp;omega
 ·exact⟨h2,h3,h1⟩
theorem zn_u (n M M':Int) (ps:List Int) (hex:∃ p ∈ ps,n<=p) (hM:∀ p ∈ ps,p < M) (hM':∀ p ∈ ps,p < M'):least n M ps=least n M' ps:=by
 obtain⟨a1,a2,a3⟩:=zc_k n M ps hex hM
 obtain⟨b1,b2,b3⟩:=zc_k n M' ps hex hM'
 have:=a3 _ b1 b2
 have:=b3 _ a1 a2
 omega
def below (n:Int) (ps:List Int):List Int:=ps.filter fun p=>decide (p < n)
theorem zg_s (n:Int) (ps:List Int):(below n ps).length<=ps.length:=List.length_filter_le _ _
theorem zo_k (n:Int) (ps:List Int) (h:¬ (below n ps).length < ps.length):below n ps=ps/\∀ p ∈ ps,p < n:=by
 have hl:(below n ps).length=ps.length:=by have:=zg_s n ps;omega
 have:∀ p ∈ ps,decide (p < n)=true:=(List.length_filter_eq_length_iff).1 hl
 exact⟨List.filter_eq_self.2 this,fun p hp=>of_decide_eq_true (this p hp)⟩
theorem ze_a (n:Int) (ps:List Int) (h:(below n ps).length < ps.length):∃ p ∈ ps,n<=p:=by
 refine Classical.byContradiction fun hne=>?_
 have:(below n ps).length=ps.length:=(List.length_filter_eq_length_iff).2 fun p hp=>decide_eq_true (by
  rcases Int.lt_or_le p n with h1|h1
  ·exact h1
  ·exact absurd ⟨p,hp,h1⟩ hne)
 omega
structure Mid (n:Int) (pre post:List Int) (basic:Nat) (e:E) (s:D):Prop where
 pts:s.pts=(pre.filter fun p=>decide (p<=n)) ++ below n post
 done:e.done=s.pts.length
 bias:e.bias=s.bias
 first:s.first=(e.done == basic)
 basic:basic<=e.done
 delta:e.delta=(n - s.n) * (s.pts.length+1)+(pre.filter fun p=>decide (p<=n)).length - s.i
 nonneg:0<=e.delta
 i0:0<=s.i
 n1:128<=s.n
 n2:s.n<=n
theorem zp_q (n:Int) (hn:point n=true) (pre post:List Int) (p:Int) (basic:Nat) (e:E) (s s0:D) (fr t:List UInt8) (hlen:(pre ++ p :: post).length<=256) (h:Mid n pre (p :: post) basic e s) (hr:Reads s0 t s) (ho:Out fr basic e t) :
 ∃ t' s',Mid n (pre ++ [p]) post basic (encPt n basic e p) s'/\Reads s0 t' s'/\Out fr basic (encPt n basic e p) t':=by
 obtain⟨h1,h2,h3,h4,h5,h6,h7,h8,h9,h10⟩:=h
 have hn':=(point_iff n).1 hn
 unfold encPt
 by_cases hlt:p < n
 ·rw [if_pos hlt]
  have e1:((pre ++ [p]).filter fun p=>decide (p<=n))=(pre.filter fun p=>decide (p<=n)) ++ [p]:=by simp;omega
  have e2:below n (p :: post)=p :: below n post:=by simp [below,hlt]
  refine⟨t,s,⟨?_,h2,h3,h4,h5,?_,by simp only;omega,h8,h9,h10⟩,hr,ho⟩
  ·rw [h1,e1,e2];simp
  ·simp only [h6,e1,List.length_append,List.length_singleton,Int.natCast_add];omega
 rw [if_neg hlt]
 have e2:below n (p :: post)=below n post:=by simp [below,hlt]
 rw [e2] at h1
 by_cases heq:p=n
 ·rw [if_pos heq]
  have e1:((pre ++ [p]).filter fun p=>decide (p<=n))=(pre.filter fun p=>decide (p<=n)) ++ [n]:=by subst heq;simp
  have hpl:(pre.filter fun p=>decide (p<=n)).length<=pre.length:=List.length_filter_le _ _
  have hbl:=zg_s n post
  have hsl:s.pts.length < 256:=by
   rw [h1,List.length_append];simp at hlen;omega
  have hpos:((pre.filter fun p=>decide (p<=n)).length:Int) < s.pts.length+1:=by rw [h1,List.length_append];omega
  generalize hP:(pre.filter fun p=>decide (p<=n)).length=pos at *
  have hmul:(n - s.n) * ((s.pts.length:Int)+1)<=1114111 * 257:=Int.mul_le_mul (by omega) (by omega) (by omega) (by omega)
  have hj:s.i+e.delta=(pos:Int)+(s.pts.length+1) * (n - s.n):=by rw [h6,Int.mul_comm];omega
  have hdiv:(s.i+e.delta) / (s.pts.length+1)=n - s.n:=by
   rw [hj,Int.add_mul_ediv_left _ _ (by omega),Int.ediv_eq_zero_of_lt (by omega) hpos];omega
  have hmod:(s.i+e.delta) % (s.pts.length+1)=pos:=by
   rw [hj,Int.add_mul_emod_self_left];exact Int.emod_eq_of_lt (by omega) hpos
  have hstep:=fun rest=>zj_b s e.delta rest h7 h8 (by rw [Int.mul_comm] at hmul;omega) (by rw [hdiv,show s.n+(n - s.n)=n by omega];exact hn) hsl
  rw [hdiv,hmod,show s.n+(n - s.n)=n by omega,Int.toNat_natCast] at hstep
  have hins:ins s.pts pos n=((pre.filter fun p=>decide (p<=n)) ++ [n]) ++ below n post:=by
   unfold ins
   rw [h1,<-hP,List.take_left,List.drop_left];simp
  have hlp:(ins s.pts pos n).length=s.pts.length+1:=ins_length _ _ _ (by omega)
  refine⟨t ++ numE e.delta s.bias,_,?_,hr.step (zs_u _ _) hstep,?_⟩
  rotate_left
  ·obtain⟨o1,o2,o3⟩:=ho
   refine⟨by simp only [o1,h3,List.append_assoc],fun b hb=>?_,?_⟩
   ·rcases List.mem_append.1 hb with hb|hb
    ·exact o2 b hb
    ·exact zp_l _ _ _ _ h7 b hb
   ·have:=zf_j 9 (e.delta.toNat+1) e.delta 0 s.bias h7 (by
     rw [Int.mul_comm] at hmul
     have:(10:Int) ^ 9=1000000000:=by decide
     omega)
    rw [List.length_append]
    unfold numE
    simp only;omega
  refine⟨by rw [e1];exact hins,by simp only [hlp,h2],by simp only [h2,h4],?_,by simp only;omega,?_,by simp,by simp only;omega,by simp only;omega,Int.le_refl _⟩
  ·simp only
   rw [beq_eq_false_iff_ne.2 (by omega)]
  ·simp only [e1,List.length_append,List.length_singleton,hP,Int.natCast_add];omega
 ·rw [if_neg heq]
  have e1:((pre ++ [p]).filter fun p=>decide (p<=n))=(pre.filter fun p=>decide (p<=n)):=by simp;omega
  exact⟨t,s,⟨by rw [h1,e1],h2,h3,h4,h5,by rw [h6,e1],h7,h8,h9,h10⟩,hr,ho⟩
theorem zp_m (n:Int) (hn:point n=true) (basic:Nat) (s0:D) (fr:List UInt8):∀ (post pre:List Int) (e:E) (s:D) (t:List UInt8),(pre ++ post).length<=256->Mid n pre post basic e s->Reads s0 t s->Out fr basic e t →
 ∃ t' s',Mid n (pre ++ post) [] basic (post.foldl (encPt n basic) e) s'/\Reads s0 t' s'/\Out fr basic (post.foldl (encPt n basic) e) t':=by
 intro post
 induction post with
|nil=>intro pre e s t hl h hr ho;exact⟨t,s,by simpa using h,hr,ho⟩
|cons p post ih =>
  intro pre e s t hl h hr ho
  obtain⟨t1,s1,m1,r1,o1⟩:=zp_q n hn pre post p basic e s s0 fr t hl h hr ho
  obtain⟨t2,s2,m2,r2,o2⟩:=ih (pre ++ [p]) _ s1 t1 (by simpa using hl) m1 r1 o1
  exact⟨t2,s2,by simpa using m2,r2,o2⟩
structure Head (ps:List Int) (n:Int) (basic:Nat) (e:E) (s:D):Prop where
 pts:s.pts=below n ps
 done:e.done=s.pts.length
 bias:e.bias=s.bias
 first:s.first=(e.done == basic)
 basic:basic<=e.done
 delta:e.delta=(n - s.n) * (s.pts.length+1) - s.i
 nonneg:0<=e.delta
 i0:0<=s.i
 n1:128<=s.n
 n2:s.n<=n
theorem zq_b (ps:List Int) (hps:∀ p ∈ ps,point p=true) (n:Int) (basic:Nat) (e:E) (s:D) (h:Head ps n basic e s) (hlt:e.done < ps.length) :
 let m:=least n 1114112 ps
 point m=true/\n<=m/\m ∈ ps/\Mid m [] ps basic { e with delta:=e.delta+(m - n) * (e.done+1) } s:=by
 intro m
 obtain⟨h1,h2,h3,h4,h5,h6,h7,h8,h9,h10⟩:=h
 obtain⟨l1,l2,l3⟩:=zc_k n 1114112 ps (ze_a n ps (by rw [<-h1,<-h2];exact hlt)) (fun p hp=>by have:=(point_iff p).1 (hps p hp);omega)
 have hb:below m ps=below n ps:=by
  apply List.filter_congr
  intro p hp
  rw [Bool.eq_iff_iff,decide_eq_true_iff,decide_eq_true_iff]
  constructor
  ·intro hm
   rcases Int.lt_or_le p n with h|h
   ·exact h
   ·have:=l3 p hp h;omega
  ·intro hn;omega
 have hmn:0<=(m - n) * ((e.done:Int)+1):=Int.mul_nonneg (by omega) (by omega)
 refine⟨hps _ l1,l2,l1,⟨by rw [h1,hb];rfl,h2,h3,h4,h5,?_,by simp only;omega,h8,h9,by omega⟩⟩
 simp only [h6,h2,List.filter_nil,List.length_nil,Int.natCast_zero,Int.add_zero]
 rw [show m - s.n=(n - s.n)+(m - n) by omega,Int.add_mul];omega
theorem zp_r (ps:List Int) (m:Int) (basic:Nat) (e:E) (s:D) (h:Mid m ps [] basic e s):Head ps (m+1) basic { e with delta:=e.delta+1 } s:=by
 obtain⟨h1,h2,h3,h4,h5,h6,h7,h8,h9,h10⟩:=h
 have hb:(ps.filter fun p=>decide (p<=m))=below (m+1) ps:=by
  apply List.filter_congr
  intro p _
  rw [Bool.eq_iff_iff,decide_eq_true_iff,decide_eq_true_iff];omega
 have hp:s.pts=below (m+1) ps:=by rw [h1,hb];simp [below]
 refine⟨hp,h2,h3,h4,h5,?_,by simp only;omega,h8,h9,by omega⟩
 simp only [h6]
 rw [hb,<-hp,show m+1 - s.n=(m - s.n)+1 by omega,Int.add_mul];omega
theorem zk_b (ps:List Int) (hps:∀ p ∈ ps,point p=true) (hl:ps.length<=256) (basic:Nat) (s0:D) (fr:List UInt8):∀ (f:Nat) (n:Int) (e:E) (s:D) (t:List UInt8),ps.length < f+e.done->Head ps n basic e s->Reads s0 t s->Out fr basic e t →
 ∃ t' s',encGo ps basic f n e=fr ++ t'/\Reads s0 t' s'/\s'.pts=ps/\(∀ b ∈ t',dig b=true)/\t'.length+10 * basic<=10 * ps.length:=by
 intro f
 induction f with
|zero =>
  intro n e s t hf h hr ho
  have:=h.done
  rw [h.pts] at this
  have:=zg_s n ps
  omega
|succ f ih =>
  intro n e s t hf h hr ho
  rw [encGo]
  by_cases hlt:e.done < ps.length
  ·rw [if_pos hlt]
   obtain⟨p1,p2,p3,p4⟩:=zq_b ps hps n basic e s h hlt
   obtain⟨t2,s2,m2,r2,o2⟩:=zp_m _ p1 basic s0 fr ps [] _ s t (by simpa using hl) p4 hr ho
   have h2:=zp_r ps _ basic _ s2 (by simpa using m2)
   have hgrow:e.done < s2.pts.length:=by
    rw [h2.pts,h.done,h.pts]
    refine Nat.lt_of_le_of_ne (List.Sublist.length_le (?_:List.Sublist _ _)) fun hel=>?_
    ·have:below n ps=(below (least n 1114112 ps+1) ps).filter fun p=>decide (p < n):=by
      unfold below
      rw [List.filter_filter]
      apply List.filter_congr
      intro p _
      rw [Bool.eq_iff_iff,Bool.and_eq_true,decide_eq_true_iff,decide_eq_true_iff];omega
     rw [this];exact List.filter_sublist
    ·have hsub:List.Sublist (below n ps) (below (least n 1114112 ps+1) ps):=by
      have:below n ps=(below (least n 1114112 ps+1) ps).filter fun p=>decide (p < n):=by
       unfold below
       rw [List.filter_filter]
       apply List.filter_congr
       intro p _
       rw [Bool.eq_iff_iff,Bool.and_eq_true,decide_eq_true_iff,decide_eq_true_iff];omega
      rw [this];exact List.filter_sublist
     have he:=hsub.eq_of_length hel
     have hm:least n 1114112 ps ∈ below n ps:=by rw [he];exact List.mem_filter.2 ⟨p3,decide_eq_true (by omega)⟩
     have:=of_decide_eq_true (List.mem_filter.1 hm).2
     omega
   exact ih _ _ s2 t2 (by have:=h2.done;simp only at this ⊢;omega) h2 r2 o2
  ·rw [if_neg hlt]
   have hall:=(zo_k n ps (by rw [<-h.pts,<-h.done];exact hlt)).1
   have hd:=h.done
   rw [h.pts,hall] at hd
   exact⟨t,s,ho.1,hr,by rw [h.pts];exact hall,ho.2.1,by rw [<-hd];exact ho.2.2⟩
theorem zc_d (ps:List Int) (hps:∀ p ∈ ps,point p=true):(basics ps).map (fun b=>(b.toNat:Int))=below 128 ps:=by
 unfold basics below
 rw [List.map_map]
 have:∀ p ∈ ps.filter fun p=>decide (p < 128),((fun b:UInt8=>(b.toNat:Int)) ∘ fun p:Int=>UInt8.ofNat p.toNat) p=p:=by
  intro p hp
  obtain⟨h1,h2⟩:=List.mem_filter.1 hp
  have h3:=of_decide_eq_true h2
  have h4:=(point_iff p).1 (hps p h1)
  have:(UInt8.ofNat p.toNat).toNat=p.toNat:=by simp;omega
  simp only [Function.comp,this];omega
 rw [List.map_congr_left this];simp
def start (base:List Int):D:=⟨base,128,0,72,true⟩
theorem zi_a (ps:List Int) (hps:∀ p ∈ ps,point p=true) (hl:ps.length<=256):∃ t s',encode ps=front ps ++ t/\Reads (start (below 128 ps)) t s'/\s'.pts=ps/\(∀ b ∈ t,dig b=true)/\t.length+10 * (basics ps).length<=10 * ps.length:=by
 have hb:(basics ps).length=(below 128 ps).length:=by rw [<-zc_d ps hps,List.length_map]
 unfold encode
 refine zk_b ps hps hl (basics ps).length (start (below 128 ps)) (front ps) (ps.length+1) 128 _ (start (below 128 ps)) [] (by simp only;omega) ?_ (Reads.refl _) ⟨by simp,by simp,by simp⟩
 refine⟨rfl,hb,rfl,by simp [start],Nat.le_refl _,?_,Int.le_refl _,Int.le_refl _,Int.le_refl _,Int.le_refl _⟩
 simp [start]
def run (l:List Int) (h:List (Int × Nat)):List Int:=h.foldl (fun l x=>ins l x.2 x.1) l
def Good:Int->Int->List Int->List (Int × Nat)->Prop
|_,_,_,[]=>True
|n0,i0,l,x :: h=>x.2<=l.length/\point x.1=true/\(n0 < x.1\/(n0=x.1/\i0<=x.2))/\l.length < 256/\Good x.1 (x.2+1) (ins l x.2 x.1) h
def encH:Int->Int->Int->Bool->Nat->List (Int × Nat)->List UInt8
|_,_,_,_,_,[]=>[]
|n0,i0,bias,first,len,x :: h=>numE ((x.1 - n0) * (len+1)+x.2 - i0) bias ++ encH x.1 (x.2+1) (adapt ((x.1 - n0) * (len+1)+x.2 - i0) (len+1) first) false (len+1) h
theorem zd_j (f:Nat):∀ (l:List UInt8) (s:D) (p:List Int),l.length < f->0<=s.i->decGo f l s=.ok p →
 ∃ h,Good s.n s.i s.pts h/\run s.pts h=p/\l.map low=encH s.n s.i s.bias s.first s.pts.length h:=by
 induction f with
|zero=>intro l s p hl;omega
|succ f ih =>
  intro l s p hl hi h
  rw [decGo] at h
  by_cases hl0:l=[]
  ·rw [if_pos hl0] at h
   injection h with h
   exact⟨[],trivial,h,by rw [hl0];rfl⟩
  ·rw [if_neg hl0] at h
   unfold decStep at h
   cases hd:decNum l s.i 1 0 s.bias with
  |error e=>rw [hd] at h;cases h
  |ok rj =>
    obtain⟨r,j⟩:=rj
    rw [hd] at h
    obtain⟨ds,q,e1,hne,hq,e2,-,hdg⟩:=zl_s l s.i 1 0 s.bias r j hi (by omega) hd
    rw [Int.mul_one] at e2
    simp only at h
    have hc0:(0:Int) < (s.pts.length:Int)+1:=by omega
    have hm0:=Int.emod_nonneg j (show ((s.pts.length:Int)+1) ≠ 0 by omega)
    have hm1:=Int.emod_lt_of_pos j hc0
    have hdm:=Int.mul_ediv_add_emod j ((s.pts.length:Int)+1)
    have hdiv0:0<=j / ((s.pts.length:Int)+1):=Int.ediv_nonneg (by omega) (by omega)
    generalize hQ:j / ((s.pts.length:Int)+1)=Q at *
    generalize hM:j % ((s.pts.length:Int)+1)=M at *
    by_cases hp:point (s.n+Q)=false
    ·rw [if_pos hp] at h;cases h
    rw [if_neg hp] at h
    by_cases h256:(256:Int) < (s.pts.length:Int)+1
    ·rw [if_pos h256] at h;cases h
    rw [if_neg h256] at h
    simp only at h
    have hlr:r.length < f:=by
     have:0 < ds.length:=List.length_pos_iff.2 hne
     rw [e1,List.length_append] at hl;omega
    obtain⟨hh,g1,g2,g3⟩:=ih r _ p hlr (by simp only;omega) h
    simp only at g1 g2 g3
    have hdel:(s.n+Q - s.n) * ((s.pts.length:Int)+1)+(M.toNat:Int) - s.i=j - s.i:=by
     rw [show s.n+Q - s.n=Q by omega,Int.mul_comm];omega
    have hins:=ins_length s.pts M.toNat (s.n+Q) (by omega)
    have hMc:((M.toNat:Nat):Int)=M:=by omega
    refine⟨(s.n+Q,M.toNat) :: hh,⟨by simp only;omega,by simpa using hp,?_,by omega,by simp only;rw [hMc];exact g1⟩,g2,?_⟩
    ·by_cases hQ0:Q=0
     ·right;refine⟨by simp only;omega,?_⟩
      rw [hQ0,Int.mul_zero] at hdm;simp only;omega
     ·left;simp only;omega
    ·rw [encH]
     simp only
     rw [hdel,e1,List.map_append,g3,hins,hMc]
     congr 1
     unfold numE
     rw [show j - s.i=q by omega,<-hdg (q.toNat+1) (by omega)]
def Top (l:List Int) (n0 i0:Int):Prop:=∀ (j:Nat) (x:Int),l[j]?=some x->x<=n0/\(i0<=j->x < n0)
theorem zj_h (l:List Int) (i:Nat) (n:Int) (hi:i<=l.length) (j:Nat):(ins l i n)[j]?=if j < i then l[j]? else if j=i then some n else l[j - 1]?:=by
 unfold ins
 rw [List.getElem?_append]
 have hl:(l.take i).length=i:=by simp;omega
 rw [hl]
 by_cases h:j < i
 ·rw [if_pos h,if_pos h,List.getElem?_take_of_lt h]
 ·rw [if_neg h,if_neg h]
  by_cases h2:j=i
  ·subst h2;simp
  ·rw [if_neg h2]
   obtain⟨k,rfl⟩:∃ k,j=i+(k+1):=⟨j - i - 1,by omega⟩
   rw [show i+(k+1) - i=k+1 by omega,List.getElem?_cons_succ,List.getElem?_drop]
   congr 1
theorem zj_o (l:List Int) (n0 i0:Int) (h:Top l n0 i0) (i:Nat) (n:Int) (hi:i<=l.length) (hlt:n0 < n\/(n0=n/\i0<=i)):Top (ins l i n) n (i+1):=by
 intro j x hx
 rw [zj_h l i n hi] at hx
 by_cases h1:j < i
 ·rw [if_pos h1] at hx
  have:=(h j x hx).1
  exact⟨by omega,fun hh=>by omega⟩
 ·rw [if_neg h1] at hx
  by_cases h2:j=i
  ·rw [if_pos h2] at hx;cases hx
   exact⟨Int.le_refl _,fun hh=>by omega⟩
  ·rw [if_neg h2] at hx
   have h3:=h (j - 1) x hx
   refine⟨by omega,fun _=>?_⟩
   rcases hlt with hlt|⟨e,hle⟩
   ·omega
   ·have:=h3.2 (by omega);omega
theorem zh_v (h:List (Int × Nat)) (x:Int × Nat):∀ (n0 i0:Int) (l:List Int),Top l n0 i0->Good n0 i0 l (h ++ [x])->Good n0 i0 l h/\x.2<=(run l h).length/\∃ n i,Top (run l h) n i/\(n < x.1\/(n=x.1/\i<=x.2)):=by
 induction h with
|nil=>intro n0 i0 l ht hg;exact⟨trivial,hg.1,n0,i0,ht,hg.2.2.1⟩
|cons y h ih =>
  intro n0 i0 l ht hg
  obtain⟨g1,g2,g3,g4,g5⟩:=hg
  obtain⟨r1,r2,r3⟩:=ih y.1 (y.2+1) (ins l y.2 y.1) (zj_o l n0 i0 ht y.2 y.1 g1 g3) g5
  exact⟨⟨g1,g2,g3,g4,r1⟩,r2,r3⟩
theorem zl_a (l:List Int) (h:List (Int × Nat)) (x:Int × Nat):run l (h ++ [x])=ins (run l h) x.2 x.1:=by simp [run]
theorem zc_l (h:List (Int × Nat)):∀ (n0 i0:Int) (l:List Int),Good n0 i0 l h->(run l h).length=l.length+h.length:=by
 induction h with
|nil=>intro n0 i0 l _;rfl
|cons y h ih =>
  intro n0 i0 l hg
  obtain⟨g1,g2,g3,g4,g5⟩:=hg
  have:=ih _ _ _ g5
  have e:run l (y :: h)=run (ins l y.2 y.1) h:=rfl
  rw [e,this,ins_length _ _ _ g1,List.length_cons];omega
theorem zr_v (l l':List Int) (i:Nat) (n:Int) (hi:i<=l.length) (hi':i<=l'.length) (h:ins l i n=ins l' i n):l=l':=by
 unfold ins at h
 have h1:=List.append_inj h (by simp;omega)
 have h2:=(List.cons.inj h1.2).2
 rw [<-List.take_append_drop i l,<-List.take_append_drop i l',h1.1,h2]
theorem zj_t (m:Nat):∀ (h h':List (Int × Nat)) (n0 i0:Int) (l:List Int),h.length=m->Top l n0 i0->Good n0 i0 l h->Good n0 i0 l h'->run l h=run l h'->h=h':=by
 induction m with
|zero =>
  intro h h' n0 i0 l hm ht g g' hr
  have e:=zc_l h n0 i0 l g
  have e':=zc_l h' n0 i0 l g'
  rw [hr] at e
  have:h'.length=0:=by omega
  rw [List.eq_nil_of_length_eq_zero hm,List.eq_nil_of_length_eq_zero this]
|succ m ih =>
  intro h h' n0 i0 l hm ht g g' hr
  have e:=zc_l h n0 i0 l g
  have e':=zc_l h' n0 i0 l g'
  rw [hr] at e
  rcases List.eq_nil_or_concat h with rfl|⟨k,x,rfl⟩
  ·simp at hm
  rcases List.eq_nil_or_concat h' with rfl|⟨k',x',rfl⟩
  ·simp at e e' hm;omega
  rw [List.concat_eq_append] at *
  rw [List.concat_eq_append] at *
  obtain⟨a1,a2,n,i,a3,a4⟩:=zh_v k x n0 i0 l ht g
  obtain⟨b1,b2,n',i',b3,b4⟩:=zh_v k' x' n0 i0 l ht g'
  rw [zl_a,zl_a] at hr
  have t1:=zj_o _ n i a3 x.2 x.1 a2 a4
  have t2:=zj_o _ n' i' b3 x'.2 x'.1 b2 b4
  have c1:(ins (run l k) x.2 x.1)[x.2]?=some x.1:=by rw [zj_h _ _ _ a2];simp
  have c2:(ins (run l k') x'.2 x'.1)[x'.2]?=some x'.1:=by rw [zj_h _ _ _ b2];simp
  rw [hr] at c1 t1
  have d1:=(t2 x.2 x.1 c1)
  have d2:=(t1 x'.2 x'.1 c2)
  have e1:x.1=x'.1:=by omega
  have e2:x.2=x'.2:=by omega
  have ex:x=x':=Prod.ext e1 e2
  subst ex
  have hk:=zr_v _ _ _ _ a2 b2 hr
  rw [ih k k' n0 i0 l (by simp at hm;exact hm) ht a1 b1 hk]
theorem zm_i (h:List (Int × Nat)):∀ (n0 i0:Int) (l:List Int),128<=n0->Good n0 i0 l h->below 128 (run l h)=below 128 l:=by
 induction h with
|nil=>intros;rfl
|cons x h ih =>
  intro n0 i0 l hn hg
  obtain⟨g1,g2,g3,g4,g5⟩:=hg
  have e:run l (x :: h)=run (ins l x.2 x.1) h:=rfl
  rw [e,ih _ _ _ (by omega) g5]
  unfold ins below
  rw [List.filter_append,List.filter_cons_of_neg (by simp;omega),<-List.filter_append,List.take_append_drop]
theorem zj_f (h:List (Int × Nat)):∀ (n0 i0:Int) (l:List Int),(∀ p ∈ l,point p=true)->l.length<=256->Good n0 i0 l h->(∀ p ∈ run l h,point p=true)/\(run l h).length<=256:=by
 induction h with
|nil=>intro n0 i0 l hl h2 _;exact⟨hl,h2⟩
|cons x h ih =>
  intro n0 i0 l hl h2 hg
  obtain⟨g1,g2,g3,g4,g5⟩:=hg
  refine ih _ _ _ ?_ (by rw [ins_length _ _ _ g1];omega) g5
  intro p hp
  unfold ins at hp
  rcases List.mem_append.1 hp with hp|hp
  ·exact hl p (List.mem_of_mem_take hp)
  ·rcases List.mem_cons.1 hp with rfl|hp
   ·exact g2
   ·exact hl p (List.mem_of_mem_drop hp)
theorem cut_front (b t:List UInt8) (ht:∀ x ∈ t,x ≠ 45):cut (b ++ 45 :: t)=b.length:=by
 unfold cut
 have:(b ++ 45 :: t).reverse.takeWhile (· != 45)=t.reverse:=by
  rw [List.reverse_append,List.reverse_cons,List.append_assoc]
  rw [List.takeWhile_append_of_pos (by intro x hx;have:=ht x (List.mem_reverse.1 hx);simpa using this)]
  simp
 rw [this];simp
theorem cut_none (t:List UInt8) (ht:∀ x ∈ t,x ≠ 45):cut t=0:=by
 unfold cut
 have:t.reverse.takeWhile (· != 45)=t.reverse:=by
  have:=List.takeWhile_append_of_pos (p:=(· != (45:UInt8))) (l₁:=t.reverse) (l₂:=[]) (by intro x hx;have:=ht x (List.mem_reverse.1 hx);simpa using this)
  simpa using this
 rw [this];simp
theorem cut_lt (l:List UInt8) (h:cut l ≠ 0):cut l < l.length/\l=l.take (cut l) ++ 45 :: l.drop (cut l+1):=by
 unfold cut at h ⊢
 have hs:=List.takeWhile_append_dropWhile (p:=(· != (45:UInt8))) (l:=l.reverse)
 generalize ht:l.reverse.takeWhile (· != 45)=t at *
 generalize hd:l.reverse.dropWhile (· != 45)=d at *
 have hlen:=congrArg List.length hs
 simp at hlen
 cases d with
|nil=>simp at hlen;omega
|cons x d =>
  have hx:x=45:=by
   have:=List.head?_dropWhile_not (p:=(· != (45:UInt8))) (l:=l.reverse)
   rw [hd] at this
   simpa using this
  subst hx
  have hl:l=d.reverse ++ 45 :: t.reverse:=by
   have:=congrArg List.reverse hs
   rw [List.reverse_reverse] at this
   rw [<-this];simp
  simp at hlen
  have hc:l.length - 1 - t.length=d.reverse.length:=by simp;omega
  rw [hc]
  refine⟨by simp;omega,?_⟩
  conv=>lhs;rw [hl]
  congr 1
  ·rw [hl,List.take_left]
  ·rw [hl]
   rw [show d.reverse.length+1=(d.reverse ++ [45]).length by simp,show d.reverse ++ 45 :: t.reverse=(d.reverse ++ [45]) ++ t.reverse by simp,List.drop_left]
theorem zm_h (l:List UInt8) (h:(l.all fun b=>decide (b.toNat < 128))=true) (k:Nat):∀ p ∈ (l.take k).map (fun b=>(b.toNat:Int)),point p=true/\p < 128:=by
 intro p hp
 obtain⟨b,hb,rfl⟩:=List.mem_map.1 hp
 have:=of_decide_eq_true (List.all_eq_true.1 h b (List.mem_of_mem_take hb))
 exact⟨(point_iff _).2 (by omega),by omega⟩
theorem decode_ok (l:List UInt8) (p:List Int) (h:decode l=.ok p):(∀ x ∈ p,point x=true)/\p.length<=256/\(encode p).length=l.length/\l.length<=1024:=by
 unfold decode at h
 by_cases h1:1024 < l.length
 ·rw [if_pos h1] at h;cases h
 rw [if_neg h1] at h
 by_cases h2:(l.all fun b=>decide (b.toNat < 128))=false
 ·rw [if_pos h2] at h;cases h
 rw [if_neg h2] at h
 by_cases h3:256 < cut l
 ·rw [if_pos h3] at h;cases h
 rw [if_neg h3] at h
 have hall:(l.all fun b=>decide (b.toNat < 128))=true:=by simpa using h2
 have hbase:=zm_h l hall (cut l)
 have hbl:((l.take (cut l)).map fun b=>(b.toNat:Int)).length<=256:=by simp;omega
 generalize hR:(if cut l=0 then l else l.drop (cut l+1))=r at *
 have hrl:r.length<=l.length:=by rw [<-hR];split <;> simp
 obtain⟨hh,g1,g2,g3⟩:=zd_j (l.length+1) r _ p (by omega) (Int.le_refl _) h
 simp only at g1 g2 g3
 obtain⟨q1,q2⟩:=zj_f hh _ _ _ (fun x hx=>(hbase x hx).1) hbl g1
 rw [g2] at q1 q2
 have hbel:below 128 p=(l.take (cut l)).map fun b=>(b.toNat:Int):=by
  rw [<-g2,zm_i hh _ _ _ (Int.le_refl _) g1]
  exact List.filter_eq_self.2 fun x hx=>decide_eq_true (hbase x hx).2
 obtain⟨t,s',e1,rd,e2,hd,-⟩:=zi_a p q1 q2
 have hr:=rd.done (t.length+1) (by omega)
 rw [e2,hbel] at hr
 obtain⟨hh',k1,k2,k3⟩:=zd_j (t.length+1) t _ p (by omega) (Int.le_refl _) hr
 simp only [start] at k1 k2 k3
 have htop:Top ((l.take (cut l)).map fun b=>(b.toNat:Int)) 128 0:=by
  intro j x hx
  have:=(hbase x (List.mem_of_getElem? hx)).2
  exact⟨by omega,fun _=>this⟩
 have huniq:=zj_t _ hh hh' _ _ _ rfl htop g1 k1 (by rw [g2,k2])
 rw [<-huniq] at k3
 have hlen:t.length=r.length:=by
  have:=congrArg List.length (k3.trans g3.symm)
  simpa using this
 refine⟨q1,q2,?_,by omega⟩
 have hbn:(basics p).length=cut l:=by
  have:(basics p).length=(below 128 p).length:=by rw [<-zc_d p q1,List.length_map]
  rw [this,hbel,List.length_map,List.length_take]
  by_cases hc:cut l=0
  ·omega
  ·have:=(cut_lt l hc).1;omega
 rw [e1,List.length_append,hlen,<-hR,front]
 by_cases hc:cut l=0
 ·rw [if_pos hc]
  have:basics p=[]:=List.eq_nil_of_length_eq_zero (by omega)
  rw [this];simp
 ·have h5:=(cut_lt l hc).1
  have:basics p ≠ []:=fun e=>by rw [e] at hbn;simp at hbn;omega
  rw [if_neg hc,if_neg this];simp;omega
end Go.Proofs.YtmanejniepghlaaGreatDoor.Puny
namespace Go.Proofs.YtmanejniepghlaaGreatDoor.Lab
open Go.Lib
theorem zr_d (x:Int):encodeRune x ≠ []:=by
 intro h;have:=(encodeRuneZ_length x).1;have h2:=congrArg List.length h;unfold encodeRune at h2;simp at h2;simp [h2] at this
def pre:List UInt8:=[120,110,45,45]
def canon (b:UInt8):Bool:=(decide (97<=b.toNat) && decide (b.toNat<=122)) || (decide (48<=b.toNat) && decide (b.toNat<=57)) || decide (b.toNat=45) || decide (b.toNat=95)
def properP (r:List UInt8) (p:List Int):Bool:=p.all (fun x=>!(decide (65<=x) && decide (x<=90))) && p.any (fun x=>decide (128<=x)) && decide (Puny.encode p=r)
def proper (r:List UInt8):Bool:=match Puny.decode r with
|.error _=>false
|.ok p=>properP r p
def frame (l:List UInt8):Bool:=decide (l ≠ []) && decide (l.length<=63) && decide (l.head? ≠ some 45) && decide (l.getLast? ≠ some 45) && l.all canon
def valid (l:List UInt8):Bool:=frame l && (!(pre.isPrefixOf l) || proper (l.drop 4))
end Go.Proofs.YtmanejniepghlaaGreatDoor.Lab
namespace Go.Proofs.YtmanejniepghlaaGreatDoor.Wire
variable {b s:List UInt8} {k n v:Nat} {x:UInt8}
def enc (v:Nat):List UInt8:=if v < 128 then [UInt8.ofNat v] else UInt8.ofNat (v % 128+128) :: enc (v / 128)
termination_by v
decreasing_by omega
theorem enc_last (h:v < 128):enc v=[UInt8.ofNat v]:=by rw [enc,if_pos h]
theorem enc_step (h:¬ v < 128):enc v=UInt8.ofNat (v % 128+128) :: enc (v / 128):=by rw [enc,if_neg h]
theorem enc_len_bound:∀ (k v:Nat),v < 128 ^ (k+1)->1<=(enc v).length/\(enc v).length<=k+1
|0,v,h=>by rw [enc_last (by omega)];simp
|k+1,v,h=>by
  by_cases hv:v < 128
  ·rw [enc_last hv];simp
  ·rw [enc_step hv]
   have h2:v / 128 < 128 ^ (k+1):=by
    rw [Nat.div_lt_iff_lt_mul (by omega)];rw [Nat.pow_succ] at h;exact h
   have:=enc_len_bound k (v / 128) h2
   simp only [List.length_cons];omega
theorem enc_len (h:v < 18446744073709551616):1<=(enc v).length/\(enc v).length<=10:=enc_len_bound 9 v (by omega)
theorem zr_d (v:Nat):enc v ≠ []:=by
 by_cases hv:v < 128
 ·rw [enc_last hv];simp
 ·rw [enc_step hv];simp
def big (x:UInt8):Bool:=decide (128<=x.toNat)
def val:List UInt8->Nat
|[]=>0
|x :: l=>x.toNat % 128+128 * val l
def run (b:List UInt8):Nat:=(b.takeWhile big).length
def dec (b:List UInt8):Nat × Nat × Int :=
 if 10<=run b then (0,0,19) else if run b=b.length then (0,0,5) else if run b=9/\1 < (b.getD 9 0).toNat then (0,0,19) else
  if 0 < run b/\b.getD (run b) 0=0 then (0,0,6) else (val (b.take (run b+1)),run b+1,0)
theorem zt_b (b:List UInt8):run b<=b.length:=(List.takeWhile_sublist big).length_le
theorem zc_f (h:128<=x.toNat):run (x :: b)=run b+1:=by
 unfold run;rw [List.takeWhile_cons_of_pos (by simpa [big] using h)];rfl
theorem zb_i (h:x.toNat < 128):run (x :: b)=0:=by
 unfold run;rw [List.takeWhile_cons_of_neg (by simp [big];omega)];rfl
theorem zn_i:∀ (b:List UInt8) (k:Nat),k < run b->∃ h:k < b.length,128<=(b[k]).toNat
|[],k,hk=>by simp [run] at hk
|x :: b,k,hk=>by
  by_cases h:128<=x.toNat
  ·rw [zc_f h] at hk
   cases k with
  |zero=>exact⟨by simp,h⟩
  |succ k =>
    obtain⟨h1,h2⟩:=zn_i b k (by omega)
    exact⟨by simp;omega,h2⟩
  ·rw [zb_i (by omega)] at hk;omega
theorem ze_v:∀ (b:List UInt8) (h:run b < b.length),(b[run b]).toNat < 128
|[],h=>by simp at h
|x :: b,h=>by
  by_cases hx:128<=x.toNat
  ·have e:=zc_f (b:=b) hx
   have h':run b < b.length:=by rw [e] at h;simpa using h
   have:=ze_v b h'
   simp only [e,List.getElem_cons_succ];exact this
  ·have e:=zb_i (b:=b) (show x.toNat < 128 by omega)
   simp only [e,List.getElem_cons_zero];omega
theorem zr_j (h:∀ i (hi:i < b.length),i < k->128<=(b[i]).toNat) (hk:k<=b.length) (hs:∀ h:k < b.length,(b[k]).toNat < 128):run b=k:=by
 rcases Nat.lt_trichotomy (run b) k with h1|h1|h1
 ·have hl:run b < b.length:=by omega
  have:=ze_v b hl
  have:=h _ hl h1
  omega
 ·exact h1
 ·obtain⟨hl,h2⟩:=zn_i b k h1
  have:=hs hl
  omega
theorem zt_j (h:∀ i (hi:i < b.length),i < k->128<=(b[i]).toNat) (hk:k<=b.length):k<=run b:=by
 rcases Nat.lt_or_ge (run b) k with h1|h1
 ·have hl:run b < b.length:=by omega
  have:=ze_v b hl
  have:=h _ hl h1
  omega
 ·exact h1
theorem ze_w:∀ (l:List UInt8) (x:UInt8),val (l ++ [x])=val l+128 ^ l.length * (x.toNat % 128)
|[],x=>by simp [val]
|y :: l,x=>by
  have:=ze_w l x
  simp only [List.cons_append,val,this,List.length_cons,Nat.pow_succ]
  rw [Nat.mul_add,Nat.mul_comm (128 ^ l.length) 128,Nat.mul_assoc,Nat.add_assoc]
theorem zo_l:∀ (l:List UInt8),val l < 128 ^ l.length
|[]=>by simp [val]
|y :: l=>by
  have:=zo_l l
  simp only [val,List.length_cons,Nat.pow_succ]
  have h2:y.toNat % 128 < 128:=Nat.mod_lt _ (by omega)
  omega
theorem ofNat_toNat (h:n < 256):(UInt8.ofNat n).toNat=n:=by simp;omega
theorem zo_b:∀ (n v:Nat) (t:List UInt8),v<=n->run (enc v ++ t)+1=(enc v).length
|0,v,t,h=>by
  rw [enc_last (by omega)]
  simp only [List.cons_append,List.nil_append]
  rw [zb_i (by rw [ofNat_toNat (by omega)];omega)];rfl
|n+1,v,t,h=>by
  by_cases hv:v < 128
  ·rw [enc_last hv]
   simp only [List.cons_append,List.nil_append]
   rw [zb_i (by rw [ofNat_toNat (by omega)];omega)];rfl
  ·rw [enc_step hv]
   simp only [List.cons_append]
   rw [zc_f (by rw [ofNat_toNat (by omega)];omega),zo_b n (v / 128) t (by omega)];rfl
theorem zm_r:∀ (n v:Nat),v<=n->val (enc v)=v
|0,v,h=>by
  rw [enc_last (by omega)]
  simp only [val,ofNat_toNat (show v < 256 by omega)];omega
|n+1,v,h=>by
  by_cases hv:v < 128
  ·rw [enc_last hv]
   simp only [val,ofNat_toNat (show v < 256 by omega)];omega
  ·rw [enc_step hv]
   simp only [val,ofNat_toNat (show v % 128+128 < 256 by omega),zm_r n (v / 128) (by omega)];omega
theorem zl_g:∀ (n v:Nat),v<=n->128<=v->∀ h:(enc v).length - 1 < (enc v).length,((enc v)[(enc v).length - 1]).toNat ≠ 0
|0,v,h,h1=>by omega
|n+1,v,h,h1=>by
  intro hl
  have e:=enc_step (show ¬ v < 128 by omega)
  have hne:=List.length_pos_iff.2 (zr_d (v / 128))
  have e2:(enc v)[(enc v).length - 1]=(enc (v / 128))[(enc (v / 128)).length - 1]'(by omega):=by
   simp only [e,List.length_cons]
   rw [List.getElem_cons]
   rw [dif_neg (by omega)]
   congr 1
  rw [e2]
  by_cases h2:128<=v / 128
  ·exact zl_g n (v / 128) (by omega) h2 _
  ·have e3:=enc_last (show v / 128 < 128 by omega)
   simp only [e3,List.length_singleton,Nat.sub_self,List.getElem_cons_zero]
   rw [ofNat_toNat (by omega)];omega
theorem zo_t:∀ (k v:Nat),v < 2 * 128 ^ k->∀ h:k < (enc v).length,((enc v)[k]).toNat<=1
|0,v,hv,h=>by
  have e:=enc_last (show v < 128 by omega)
  simp only [e,List.getElem_cons_zero]
  rw [ofNat_toNat (by omega)];omega
|k+1,v,hv,h=>by
  by_cases hs:v < 128
  ·rw [enc_last hs] at h;simp at h
  ·have e:=enc_step hs
   have hl:k < (enc (v / 128)).length:=by rw [e] at h;simpa using h
   have:=zo_t k (v / 128) (by rw [Nat.div_lt_iff_lt_mul (by omega)];rw [Nat.pow_succ] at hv;omega) hl
   simp only [e,List.getElem_cons_succ];exact this
theorem dec_enc (hv:v < 18446744073709551616) (t:List UInt8):dec (enc v ++ t)=(v,(enc v).length,0):=by
 have hr:=zo_b v v t (zN _)
 have hl:=enc_len hv
 unfold dec
 rw [if_neg (by omega),if_neg (by rw [List.length_append];omega)]
 have hpos:=hl.1
 rw [if_neg,if_neg]
 ·rw [hr,List.take_left,zm_r v v (zN _)]
 ·rintro⟨h1,h2⟩
  have hk:(enc v).length - 1 < (enc v).length:=by omega
  have h128:128<=v:=by
   rcases Nat.lt_or_ge v 128 with h|h
   ·have e:=congrArg List.length (enc_last h);rw [List.length_singleton] at e;omega
   ·exact h
  have:=zl_g v v (zN _) h128 hk
  rw [show run (enc v ++ t)=(enc v).length - 1 by omega,List.getD_eq_getElem?_getD,List.getElem?_append_left hk,List.getElem?_eq_getElem hk,Option.getD_some] at h2
  rw [h2] at this;exact this rfl
 ·rintro⟨h1,h2⟩
  have hk:9 < (enc v).length:=by omega
  have:=zo_t 9 v (by omega) hk
  rw [List.getD_eq_getElem?_getD,List.getElem?_append_left hk,List.getElem?_eq_getElem hk,Option.getD_some] at h2
  omega
theorem zo_f:∀ (l:List UInt8) (x:UInt8),(∀ y ∈ l,128<=y.toNat)->x.toNat < 128->(l=[]\/x ≠ 0)->enc (val (l ++ [x]))=l ++ [x]/\(x ≠ 0->0 < val (l ++ [x]))
|[],x,_,hx,_=>by
  have e:val ([] ++ [x])=x.toNat:=by simp [val];omega
  rw [e,enc_last hx]
  refine⟨by simp,fun h=>?_⟩
  rcases Nat.eq_zero_or_pos x.toNat with h0|h0
  ·exact absurd (UInt8.toNat_inj.1 (by rw [h0];rfl)) h
  ·exact h0
|y :: l,x,hl,hx,h0=>by
  have hx0:x ≠ 0:=by
   rcases h0 with h|h
   ·cases h
   ·exact h
  obtain⟨h1,h2⟩:=zo_f l x (fun z hz=>hl z (List.mem_cons_of_mem _ hz)) hx (.inr hx0)
  have hp:=h2 hx0
  have hy:=hl y List.mem_cons_self
  have hy2:=y.toNat_lt
  have e:val (y :: l ++ [x])=y.toNat % 128+128 * val (l ++ [x]):=rfl
  have hge:¬ val (y :: l ++ [x]) < 128:=by rw [e];omega
  refine⟨?_,fun _=>by omega⟩
  rw [enc_step hge,e]
  rw [show (y.toNat % 128+128 * val (l ++ [x])) / 128=val (l ++ [x]) by omega,h1]
  rw [show (y.toNat % 128+128 * val (l ++ [x])) % 128+128=y.toNat by omega]
  simp
theorem zq_o (b:List UInt8):b.take (run b)=b.takeWhile big:=by
 unfold run
 conv=>lhs;rw [<-List.takeWhile_append_dropWhile (p:=big) (l:=b)]
 rw [List.take_left']
 rw [List.takeWhile_append_dropWhile]
theorem zd_f:∀ (b:List UInt8) (y:UInt8),y ∈ b.takeWhile big->big y=true
|[],y,h=>by simp at h
|x :: b,y,h=>by
  by_cases hx:big x=true
  ·rw [List.takeWhile_cons_of_pos hx] at h
   rcases List.mem_cons.1 h with e|e
   ·rw [e];exact hx
   ·exact zd_f b y e
  ·rw [List.takeWhile_cons_of_neg hx] at h;cases h
theorem enc_dec (h:dec b=(v,n,0)):b.take n=enc v/\n<=b.length/\1<=n/\n<=10/\v < 18446744073709551616:=by
 unfold dec at h
 by_cases c1:10<=run b
 ·rw [if_pos c1] at h;cases h
 rw [if_neg c1] at h
 by_cases c2:run b=b.length
 ·rw [if_pos c2] at h;cases h
 rw [if_neg c2] at h
 by_cases c3:run b=9/\1 < (b.getD 9 0).toNat
 ·rw [if_pos c3] at h;cases h
 rw [if_neg c3] at h
 by_cases c4:0 < run b/\b.getD (run b) 0=0
 ·rw [if_pos c4] at h;cases h
 rw [if_neg c4] at h
 injection h with e1 e2
 injection e2 with e2 _
 subst e1;subst e2
 have hle:=zt_b b
 have hlt:run b < b.length:=by omega
 have hst:=ze_v b hlt
 have hget:b.getD (run b) 0=b[run b]:=by rw [List.getD_eq_getElem?_getD,List.getElem?_eq_getElem hlt,Option.getD_some]
 have hsn:b.take (run b+1)=b.take (run b) ++ [b[run b]]:=(List.take_append_getElem hlt).symm
 have hall:∀ y ∈ b.take (run b),128<=y.toNat:=by
  intro y hy
  rw [zq_o] at hy
  have:=zd_f b y hy
  simpa [big] using this
 refine⟨?_,by omega,by omega,by omega,?_⟩
 ·rw [hsn]
  refine (zo_f _ _ hall hst ?_).1.symm
  by_cases h0:run b=0
  ·left;rw [h0];rfl
  ·right;intro hx;exact c4 ⟨by omega,by rw [hget];exact hx⟩
 ·rw [hsn,ze_w]
  have h1:=zo_l (b.take (run b))
  have hlen:(b.take (run b)).length=run b:=by rw [List.length_take];omega
  rw [hlen] at h1 ⊢
  by_cases h9:run b=9
  ·have hb9:(b[run b]).toNat<=1:=by
    have:b.getD 9 0=b[run b]:=by rw [<-h9];exact hget
    rcases Nat.lt_or_ge 1 (b.getD 9 0).toNat with h|h
    ·exact absurd ⟨h9,h⟩ c3
    ·rw [this] at h;exact h
   have hz:(b[run b]).toNat % 128<=1:=by omega
   generalize (b[run b]).toNat % 128=z at *
   have h5:128 ^ run b=9223372036854775808:=by rw [h9]
   rw [h5] at h1 ⊢
   omega
  ·have h3:128 ^ (run b+1)<=128 ^ 9:=Nat.pow_le_pow_right (by omega) (by omega)
   have hz:(b[run b]).toNat % 128<=127:=by omega
   have h4:128 ^ run b * ((b[run b]).toNat % 128)<=128 ^ run b * 127:=Nat.mul_le_mul_left _ hz
   rw [Nat.pow_succ] at h3
   omega
def txt (s:List UInt8):List UInt8:=enc s.length ++ s
def decT (b:List UInt8):List UInt8 × Nat × Int :=
 if (dec b).2.2 ≠ 0 then ([],0,(dec b).2.2) else if 4096 < (dec b).1 then ([],0,3) else if b.length - (dec b).2.1 < (dec b).1 then ([],0,5) else
  ((b.drop (dec b).2.1).take (dec b).1,(dec b).2.1+(dec b).1,0)
theorem decT_txt (h:s.length<=4096) (t:List UInt8):decT (txt s ++ t)=(s,(txt s).length,0):=by
 have hd:dec (txt s ++ t)=(s.length,(enc s.length).length,0):=by
  unfold txt;rw [List.append_assoc];exact dec_enc (by omega) _
 unfold decT
 rw [hd]
 rw [if_neg (by simp),if_neg (by simp only;omega),if_neg (by simp only [txt,List.length_append];omega)]
 simp only [txt,List.append_assoc,List.drop_left,List.take_left,List.length_append]
theorem txt_decT (h:decT b=(s,n,0)):b.take n=txt s/\n<=b.length/\s.length<=4096/\1<=n/\n<=s.length+10:=by
 unfold decT at h
 by_cases c1:(dec b).2.2 ≠ 0
 ·rw [if_pos c1] at h
  injection h with _ h;injection h with _ h
  exact absurd h c1
 rw [if_neg c1] at h
 by_cases c2:4096 < (dec b).1
 ·rw [if_pos c2] at h;cases h
 rw [if_neg c2] at h
 by_cases c3:b.length - (dec b).2.1 < (dec b).1
 ·rw [if_pos c3] at h;cases h
 rw [if_neg c3] at h
 injection h with e1 h;injection h with e2 _
 have hd:dec b=((dec b).1,(dec b).2.1,0):=by
  have:(dec b).2.2=0:=by simpa using c1
  rw [<-this]
 obtain⟨h1,h2,h3,h4,h5⟩:=enc_dec hd
 have hl:s.length=(dec b).1:=by rw [<-e1,List.length_take,List.length_drop];omega
 refine⟨?_,by omega,by omega,by omega,by omega⟩
 unfold txt
 rw [hl,<-h1,<-e1,<-e2,List.take_add]
end Go.Proofs.YtmanejniepghlaaGreatDoor.Wire
namespace Go.Proofs.YtmanejniepghlaaGreatDoor.Host
variable {a b c x y:List UInt8}
def split:List UInt8->List (List UInt8)
|[]=>[[]]
|x :: l=>if x=46 then [] :: split l else (x :: (split l).headD []) :: (split l).tail
theorem zf_f:split []=[[]]:=rfl
theorem zb_g (l:List UInt8):split (46 :: l)=[] :: split l:=by rw [split,if_pos rfl]
theorem zb_a {x:UInt8} (h:x ≠ 46) (l:List UInt8):split (x :: l)=(x :: (split l).headD []) :: (split l).tail:=by rw [split,if_neg h]
theorem split_ne (l:List UInt8):split l ≠ []:=by
 cases l with
|nil=>simp [split]
|cons x l=>unfold split;split <;> simp
theorem za_w:∀ p:List UInt8,(∀ x ∈ p,x ≠ 46)->split p=[p]
|[],_=>rfl
|x :: p,h=>by
  rw [zb_a (h x List.mem_cons_self),za_w p (fun y hy=>h y (List.mem_cons_of_mem _ hy))];rfl
theorem zc_j:∀ a b:List UInt8,split (a ++ 46 :: b)=split a ++ split b
|[],b=>by rw [List.nil_append,zb_g,zf_f];rfl
|x :: a,b=>by
  have ih:=zc_j a b
  rw [List.cons_append]
  by_cases hx:x=46
  ·subst hx;rw [zb_g,zb_g,ih];rfl
  ·rw [zb_a hx,zb_a hx,ih]
   cases hs:split a with
  |nil=>exact absurd hs (split_ne a)
  |cons p ps=>rfl
theorem zf_p (p t:List UInt8) (h:∀ x ∈ p,x ≠ 46):split (p ++ 46 :: t)=p :: split t:=by rw [zc_j,za_w p h];rfl
theorem zc_p (p t:List UInt8) (h:∀ x ∈ t,x ≠ 46):split (p ++ 46 :: t)=split p ++ [t]:=by rw [zc_j,za_w t h]
theorem zb_m:∀ (l p:List UInt8),p ∈ split l->∀ x ∈ p,x ≠ 46
|[],p,hp,x,hx=>by
  rw [zf_f,List.mem_singleton] at hp;subst hp;cases hx
|y :: l,p,hp,x,hx=>by
  by_cases hy:y=46
  ·subst hy
   rw [zb_g] at hp
   rcases List.mem_cons.1 hp with e|e
   ·subst e;cases hx
   ·exact zb_m l p e x hx
  ·rw [zb_a hy] at hp
   cases hs:split l with
  |nil=>exact absurd hs (split_ne l)
  |cons q qs =>
    rw [hs] at hp
    rcases List.mem_cons.1 hp with e|e
    ·subst e
     rcases List.mem_cons.1 hx with e|e
     ·subst e;exact hy
     ·exact zb_m l q (by rw [hs];exact List.mem_cons_self) x e
    ·exact zb_m l p (by rw [hs];exact List.mem_cons_of_mem _ e) x hx
theorem split_len:∀ l:List UInt8,(split l).length<=l.length+1
|[]=>by simp [split]
|x :: l=>by
  have ih:=split_len l
  have hp:=List.length_pos_iff.2 (split_ne l)
  by_cases hx:x=46
  ·subst hx;rw [zb_g];simp only [List.length_cons];omega
  ·rw [zb_a hx];simp only [List.length_cons,List.length_tail];omega
theorem split_part_len:∀ (l p:List UInt8),p ∈ split l->p.length<=l.length
|[],p,hp=>by rw [zf_f,List.mem_singleton] at hp;subst hp;simp
|x :: l,p,hp=>by
  by_cases hx:x=46
  ·subst hx
   rw [zb_g] at hp
   rcases List.mem_cons.1 hp with e|e
   ·subst e;simp
   ·have:=split_part_len l p e;simp only [List.length_cons];omega
  ·rw [zb_a hx] at hp
   cases hs:split l with
  |nil=>exact absurd hs (split_ne l)
  |cons q qs =>
    rw [hs] at hp
    rcases List.mem_cons.1 hp with e|e
    ·have:=split_part_len l q (by rw [hs];exact List.mem_cons_self)
     subst e;simp only [List.headD_cons,List.length_cons];omega
    ·have:=split_part_len l p (by rw [hs];exact List.mem_cons_of_mem _ e);simp only [List.length_cons];omega
def join:List (List UInt8)->List UInt8
|[]=>[]
|[p]=>p
|p :: q :: r=>p ++ 46 :: join (q :: r)
theorem zf_q (p:List UInt8) {r:List (List UInt8)} (h:r ≠ []):join (p :: r)=p ++ 46 :: join r:=by
 cases r with
|nil=>exact absurd rfl h
|cons q r=>rfl
theorem zb_e:∀ l:List UInt8,join (split l)=l
|[]=>rfl
|x :: l=>by
  have ih:=zb_e l
  by_cases hx:x=46
  ·subst hx;rw [zb_g,zf_q _ (split_ne l),ih];rfl
  ·rw [zb_a hx]
   cases hs:split l with
  |nil=>exact absurd hs (split_ne l)
  |cons q qs =>
    rw [hs] at ih
    cases qs with
   |nil=>rw [<-ih];rfl
   |cons r rs=>rw [<-ih];rfl
theorem zn_e (h:split a=split b):a=b:=by rw [<-zb_e a,h,zb_e]
abbrev lb:=Op.bytesLess
theorem lb_irrefl:∀ x:List UInt8,lb x x=false
|[]=>rfl
|a :: x=>by
  have:=lb_irrefl x
  unfold lb at *
  unfold Op.bytesLess
  simp [this]
theorem zf_z (a:UInt8) (x:List UInt8) (b:UInt8) (y:List UInt8):lb (a :: x) (b :: y)=true ↔ a.toNat < b.toNat\/(a=b/\lb x y=true):=by
 unfold lb
 rw [Op.bytesLess]
 simp [UInt8.lt_iff_toNat_lt]
theorem zk_k:∀ x y:List UInt8,lb x y=true->lb y x=false
|_,[],h=>by simp [lb,Op.bytesLess] at h
|[],b :: y,_=>rfl
|a :: x,b :: y,h=>by
  rw [<-Bool.not_eq_true]
  intro h2
  rcases (zf_z a x b y).1 h with h1|⟨e,h1⟩
  ·rcases (zf_z b y a x).1 h2 with h3|⟨e,h3⟩
   ·omega
   ·subst e;omega
  ·subst e
   rcases (zf_z a y a x).1 h2 with h3|⟨_,h3⟩
   ·omega
   ·rw [zk_k x y h1] at h3;cases h3
theorem lb_total:∀ x y:List UInt8,lb x y=false->lb y x=false->x=y
|[],[],_,_=>rfl
|[],b :: y,h,_=>by cases h
|a :: x,[],_,h=>by cases h
|a :: x,b :: y,h,k=>by
  have h':=mt (zf_z a x b y).2 (by simp [h])
  have k':=mt (zf_z b y a x).2 (by simp [k])
  have e:a=b:=by
   apply UInt8.toNat_inj.1
   have:¬ a.toNat < b.toNat:=fun e=>h' (.inl e)
   have:¬ b.toNat < a.toNat:=fun e=>k' (.inl e)
   omega
  subst e
  rw [lb_total x y (by rw [<-Bool.not_eq_true];exact fun e=>h' (.inr ⟨rfl,e⟩)) (by rw [<-Bool.not_eq_true];exact fun e=>k' (.inr ⟨rfl,e⟩))]
theorem zk_n:∀ x y z:List UInt8,lb x y=true->lb y z=true->lb x z=true
|_,[],_,h,_=>by simp [lb,Op.bytesLess] at h
|_,_ :: _,[],_,h=>by simp [lb,Op.bytesLess] at h
|[],b :: y,c :: z,_,_=>rfl
|a :: x,b :: y,c :: z,h,k=>by
  rw [zf_z] at h k ⊢
  rcases h with h|⟨rfl,h⟩
  ·rcases k with k|⟨rfl,k⟩
   ·exact .inl (by omega)
   ·exact .inl h
  ·rcases k with k|⟨rfl,k⟩
   ·exact .inl k
   ·exact .inr ⟨rfl,zk_n x y z h k⟩
def cmpL:List (List UInt8)->List (List UInt8)->Int
|[],[]=>0
|[],_ :: _=>-1
|_ :: _,[]=>1
|x :: xs,y :: ys=>if lb x y then -1 else if lb y x then 1 else cmpL xs ys
def cmp (a b:List UInt8):Int:=cmpL (split a).reverse (split b).reverse
theorem zk_q:∀ xs ys,cmpL xs ys=-1\/cmpL xs ys=0\/cmpL xs ys=1
|[],[]=>.inr (.inl rfl)
|[],_ :: _=>.inl rfl
|_ :: _,[]=>.inr (.inr rfl)
|x :: xs,y :: ys=>by
  unfold cmpL
  split
  ·exact .inl rfl
  ·split
   ·exact .inr (.inr rfl)
   ·exact zk_q xs ys
theorem zi_r:∀ xs,cmpL xs xs=0
|[]=>rfl
|x :: xs=>by rw [cmpL,if_neg (by simp [lb_irrefl]),if_neg (by simp [lb_irrefl]),zi_r xs]
theorem zn_z:∀ xs ys,cmpL xs ys=0->xs=ys
|[],[],_=>rfl
|[],_ :: _,h=>by cases h
|_ :: _,[],h=>by cases h
|x :: xs,y :: ys,h=>by
  rw [cmpL] at h
  by_cases h1:lb x y=true
  ·rw [if_pos h1] at h;cases h
  ·rw [if_neg h1] at h
   by_cases h2:lb y x=true
   ·rw [if_pos h2] at h;cases h
   ·rw [if_neg h2] at h
    rw [lb_total x y (by simpa using h1) (by simpa using h2),zn_z xs ys h]
theorem zk_u:∀ xs ys,cmpL ys xs=- cmpL xs ys
|[],[]=>rfl
|[],_ :: _=>rfl
|_ :: _,[]=>rfl
|x :: xs,y :: ys=>by
  rw [cmpL,cmpL]
  by_cases h1:lb x y=true
  ·rw [if_pos h1,if_neg (by simp [zk_k x y h1]),if_pos h1];rfl
  ·by_cases h2:lb y x=true
   ·rw [if_pos h2,if_neg h1,if_pos h2]
   ·rw [if_neg h2,if_neg h1,if_neg h1,if_neg h2,zk_u xs ys]
theorem zg_e:∀ xs ys zs,cmpL xs ys<=0->cmpL ys zs<=0->cmpL xs zs<=0
|[],_,[],_,_=>by decide
|[],_,_ :: _,_,_=>by simp [cmpL]
|_ :: _,[],_,h,_=>by simp [cmpL] at h
|_ :: _,_ :: _,[],_,h=>by simp [cmpL] at h
|x :: xs,y :: ys,z :: zs,h,k=>by
  rw [cmpL] at h k ⊢
  by_cases h1:lb x y=true
  ·by_cases k1:lb y z=true
   ·rw [if_pos (zk_n x y z h1 k1)];decide
   ·rw [if_neg k1] at k
    by_cases k2:lb z y=true
    ·rw [if_pos k2] at k;exact absurd k (by decide)
    ·obtain rfl:=lb_total y z (by simpa using k1) (by simpa using k2)
     rw [if_pos h1];decide
  ·rw [if_neg h1] at h
   by_cases h2:lb y x=true
   ·rw [if_pos h2] at h;exact absurd h (by decide)
   ·rw [if_neg h2] at h
    obtain rfl:=lb_total x y (by simpa using h1) (by simpa using h2)
    by_cases k1:lb x z=true
    ·rw [if_pos k1];decide
    ·rw [if_neg k1] at k ⊢
     by_cases k2:lb z x=true
     ·rw [if_pos k2] at k;exact absurd k (by decide)
     ·rw [if_neg k2] at k ⊢
      exact zg_e xs ys zs h k
theorem zs_d (a b:List UInt8):cmp a b=-1\/cmp a b=0\/cmp a b=1:=zk_q _ _
theorem cmp_self (a:List UInt8):cmp a a=0:=zi_r _
theorem cmp_eq (h:cmp a b=0):a=b:=zn_e (List.reverse_inj.1 (zn_z _ _ h))
theorem cmp_neg (a b:List UInt8):cmp b a=- cmp a b:=zk_u _ _
theorem zm_n (h:cmp a b<=0) (k:cmp b c<=0):cmp a c<=0:=zg_e _ _ _ h k
theorem cmp_lt_trans (h:cmp a b < 0) (k:cmp b c < 0):cmp a c < 0:=by
 have h1:=zm_n (a:=a) (b:=b) (c:=c) (by omega) (by omega)
 rcases zs_d a c with e|e|e
 ·omega
 ·exfalso
  have:=cmp_eq e;subst this
  have:=cmp_neg a b;omega
 ·omega
theorem zk_j (hx:∀ c ∈ x,c ≠ 46) (hy:∀ c ∈ y,c ≠ 46):cmp (a ++ 46 :: x) (b ++ 46 :: y)=if lb x y then -1 else if lb y x then 1 else cmp a b:=by
 unfold cmp
 rw [zc_p a x hx,zc_p b y hy,List.reverse_append,List.reverse_append];rfl
theorem zk_h (hx:∀ c ∈ x,c ≠ 46) (hy:∀ c ∈ y,c ≠ 46):cmp x (b ++ 46 :: y)=if lb x y then -1 else if lb y x then 1 else -1:=by
 unfold cmp
 rw [za_w x hx,zc_p b y hy,List.reverse_append]
 cases h:(split b).reverse with
|nil=>exact absurd (List.reverse_eq_nil_iff.1 h) (split_ne b)
|cons _ _=>rfl
theorem zh_r (hx:∀ c ∈ x,c ≠ 46) (hy:∀ c ∈ y,c ≠ 46):cmp (a ++ 46 :: x) y=if lb x y then -1 else if lb y x then 1 else 1:=by
 unfold cmp
 rw [za_w y hy,zc_p a x hx,List.reverse_append]
 cases h:(split a).reverse with
|nil=>exact absurd (List.reverse_eq_nil_iff.1 h) (split_ne a)
|cons _ _=>rfl
theorem zk_s (hx:∀ c ∈ x,c ≠ 46) (hy:∀ c ∈ y,c ≠ 46):cmp x y=if lb x y then -1 else if lb y x then 1 else 0:=by
 unfold cmp
 rw [za_w x hx,za_w y hy];rfl
def decd (x:UInt8):Bool:=decide (48<=x.toNat) && decide (x.toNat<=57)
def hexd (x:UInt8):Bool:=decd x || (decide (97<=x.toNat) && decide (x.toNat<=102)) || (decide (65<=x.toNat) && decide (x.toNat<=70))
def pre (l:List UInt8):Bool:=decide (l.take 2=[48,120]) || decide (l.take 2=[48,88])
def parts (l:List UInt8):List (List UInt8):=if 1 < (split l).length/\(split l).getLastD []=[] then (split l).dropLast else split l
def last (l:List UInt8):List UInt8:=(parts l).getLastD []
def num (t:List UInt8):Bool:=if pre t then (t.drop 2).all hexd else t.all decd && !t.isEmpty
def numeric (l:List UInt8):Bool:=num (last l)
def name (l:List UInt8):Bool:=decide (l.length<=253) && (!numeric l && (split l).all Lab.valid)
theorem parts_ne (l:List UInt8):parts l ≠ []:=by
 unfold parts
 split
 ·rename_i h;intro e
  have:=congrArg List.length e
  rw [List.length_dropLast] at this;simp only [List.length_nil] at this;omega
 ·exact split_ne l
theorem parts_len (l:List UInt8):(parts l).length<=l.length+1:=by
 have:=split_len l
 unfold parts
 split
 ·rw [List.length_dropLast];omega
 ·exact this
theorem zn_p {l p:List UInt8} (h:p ∈ parts l):p ∈ split l:=by
 unfold parts at h
 split at h
 ·exact (List.dropLast_sublist _).subset h
 ·exact h
end Go.Proofs.YtmanejniepghlaaGreatDoor.Host
namespace Go.Proofs.YtmanejniepghlaaGreatDoor.Puny
theorem zm_k (l:List UInt8):∀ (i w:Int) (k:Nat) (bias:Int) (e:Int),decNum l i w k bias=.error e->e ≠ 0:=by
 induction l with
|nil=>intro i w k bias e h;simp [decNum] at h;omega
|cons b l ih =>
  intro i w k bias e h
  rw [decNum] at h
  split at h
  ·cases h;decide
  split at h
  ·cases h;decide
  split at h
  ·cases h
  split at h
  ·cases h;decide
  exact ih _ _ _ _ _ h
theorem zj_g (l:List UInt8) (s:D) (e:Int) (h:decStep l s=.error e):e ≠ 0:=by
 unfold decStep at h
 cases hd:decNum l s.i 1 0 s.bias with
|error e'=>rw [hd] at h;cases h;exact zm_k _ _ _ _ _ _ hd
|ok x =>
  rw [hd] at h
  simp only at h
  split at h
  ·cases h;decide
  split at h
  ·cases h;decide
  cases h
theorem zm_s (f:Nat):∀ (l:List UInt8) (s:D) (e:Int),decGo f l s=.error e->e ≠ 0:=by
 induction f with
|zero=>intro l s e h;cases h
|succ f ih =>
  intro l s e h
  rw [decGo] at h
  split at h
  ·cases h
  cases hd:decStep l s with
 |error e'=>rw [hd] at h;cases h;exact zj_g _ _ _ hd
 |ok x=>rw [hd] at h;exact ih _ _ _ h
theorem decode_err (l:List UInt8) (e:Int) (h:decode l=.error e):e ≠ 0:=by
 unfold decode at h
 split at h
 ·cases h;decide
 split at h
 ·cases h;decide
 split at h
 ·cases h;decide
 exact zm_s _ _ _ _ h
end Go.Proofs.YtmanejniepghlaaGreatDoor.Puny
namespace Go.Proofs.YtmanejniepghlaaGreatDoor.Lab
open Go.Lib
def part (t:List UInt8) (v0:Int):Nat->Int
|0=>v0
|k+1=>part t v0 k * 64+((t.getD (k+1) 0).toNat:Int) - 128
def cont (t:List UInt8) (j:Nat):Prop:=128<=(t.getD j 0).toNat/\(t.getD j 0).toNat<=191
def Good (t:List UInt8) (n:Nat) (v0 least:Int):Prop:=n<=t.length/\(∀ j,1<=j->j < n->cont t j)/\least<=part t v0 (n - 1)/\Puny.point (part t v0 (n - 1))=true
theorem prefix_take (l:List UInt8):pre.isPrefixOf l=(decide (4<=l.length) && (l.take 4 == pre)):=by
 rw [Bool.eq_iff_iff,List.isPrefixOf_iff_prefix,List.prefix_iff_eq_take]
 simp only [Bool.and_eq_true,decide_eq_true_eq,beq_iff_eq,show pre.length=4 from rfl]
 constructor
 ·intro h
  have:=congrArg List.length h
  rw [List.length_take] at this
  simp [pre] at this
  exact⟨by omega,h.symm⟩
 ·rintro⟨-,h⟩;exact h.symm
end Go.Proofs.YtmanejniepghlaaGreatDoor.Lab
