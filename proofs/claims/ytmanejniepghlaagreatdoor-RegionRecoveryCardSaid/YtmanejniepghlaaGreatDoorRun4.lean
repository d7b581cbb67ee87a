import Derived.Test.YtmanejniepghlaaGreatDoorRun1
import Derived.WalkKit
import Derived.Lib.BitFns
import Derived.StillTail
import Derived.OrdersHeld
import Derived.Deep.RegionHeld
namespace Go.Proofs.YtmanejniepghlaaGreatDoor
section
variable {c:Int} {L:List Pin}
namespace Snap
def enc (c:Int) (L:List Pin):List UInt8:=Wire.enc c.toNat ++ (Wire.enc L.length ++ L.flatMap Pin.enc)
def pins (b:List UInt8):Nat->Nat->List Pin->List Pin × Nat × Int
|0,k,acc=>(acc,k,0)
|n+1,k,acc=>if (Pin.dec (b.drop k)).2.2 ≠ 0 then ([],0,(Pin.dec (b.drop k)).2.2) else pins b n (k+(Pin.dec (b.drop k)).2.1) (acc ++ [(Pin.dec (b.drop k)).1])
def decR (b:List UInt8) (c m k:Nat):(Int × List Pin) × Int :=
 if 1000 < m then ((0,[]),3) else if (pins b m k []).2.2 ≠ 0 then ((0,[]),(pins b m k []).2.2) else if (pins b m k []).2.1 < b.length then ((0,[]),6) else if 1099511627776 < c then ((0,[]),2) else
  if Upt.stValid c (pins b m k []).1=false then ((0,[]),8) else ((c,(pins b m k []).1),0)
def dec (b:List UInt8):(Int × List Pin) × Int :=
 if (Wire.dec b).2.2 ≠ 0 then ((0,[]),(Wire.dec b).2.2) else if (Wire.dec (b.drop (Wire.dec b).2.1)).2.2 ≠ 0 then ((0,[]),(Wire.dec (b.drop (Wire.dec b).2.1)).2.2) else
  decR b (Wire.dec b).1 (Wire.dec (b.drop (Wire.dec b).2.1)).1 ((Wire.dec b).2.1+(Wire.dec (b.drop (Wire.dec b).2.1)).2.1)
theorem zh_b:∀ (n:Nat) (b:List UInt8) (k:Nat) (acc R:List Pin) (m:Nat),k<=b.length->pins b n k acc=(R,m,0)->∃ L,R=acc ++ L/\L.length=n/\(∀ p ∈ L,Pin.valid p=true)/\m<=b.length/\k<=m/\(b.drop k).take (m - k)=L.flatMap Pin.enc
|0,b,k,acc,R,m,hk,h=>by
  simp only [pins,Prod.mk.injEq,and_true] at h
  obtain⟨rfl,rfl⟩:=h
  exact⟨[],by simp,rfl,by simp,hk,zN _,by simp⟩
|n+1,b,k,acc,R,m,hk,h=>by
  simp only [pins] at h
  split at h
  ·rename_i h0;exact absurd (Prod.mk.inj (Prod.mk.inj h).2).2 h0
  ·rename_i h0
   have h0':(Pin.dec (b.drop k)).2.2=0:=by simpa using h0
   obtain⟨e1,e2,e3⟩:=Pin.enc_dec (b:=b.drop k) (p:=(Pin.dec (b.drop k)).1) (n:=(Pin.dec (b.drop k)).2.1) (by rw [<-h0'])
   rw [List.length_drop] at e3
   obtain⟨L,g1,g2,g3,g4,g5,g6⟩:=zh_b n b _ _ R m (by omega) h
   refine⟨(Pin.dec (b.drop k)).1 :: L,by rw [g1];simp,by simp [g2],fun p hp=>?_,g4,by omega,?_⟩
   ·rcases List.mem_cons.1 hp with rfl|hp
    ·exact e1
    ·exact g3 p hp
   ·rw [List.flatMap_cons,<-e2,<-g6]
    have e4:m - k=(Pin.dec (b.drop k)).2.1+(m - (k+(Pin.dec (b.drop k)).2.1)):=by omega
    rw [e4,List.take_add,List.drop_drop]
theorem enc_dec {b:List UInt8} (h:dec b=((c,L),0)):Upt.stValid c L=true/\enc c L=b:=by
 unfold dec at h
 split at h
 ·rename_i h0;exact absurd (Prod.mk.inj h).2 h0
 rename_i h0
 split at h
 ·rename_i h1;exact absurd (Prod.mk.inj h).2 h1
 rename_i h1
 unfold decR at h
 split at h
 ·cases h
 rename_i h2
 split at h
 ·rename_i h3;exact absurd (Prod.mk.inj h).2 h3
 rename_i h3
 split at h
 ·cases h
 rename_i h4
 split at h
 ·cases h
 split at h
 ·cases h
 rename_i h6
 have h0':(Wire.dec b).2.2=0:=by simpa using h0
 have h1':(Wire.dec (b.drop (Wire.dec b).2.1)).2.2=0:=by simpa using h1
 have h3':(pins b (Wire.dec (b.drop (Wire.dec b).2.1)).1 ((Wire.dec b).2.1+(Wire.dec (b.drop (Wire.dec b).2.1)).2.1) []).2.2=0:=by simpa using h3
 obtain⟨a1,a2,a3,a4,a5⟩:=Wire.enc_dec (b:=b) (v:=(Wire.dec b).1) (n:=(Wire.dec b).2.1) (by rw [<-h0'])
 obtain⟨b1,b2,b3,b4,b5⟩:=Wire.enc_dec (b:=b.drop (Wire.dec b).2.1) (v:=(Wire.dec (b.drop (Wire.dec b).2.1)).1) (n:=(Wire.dec (b.drop (Wire.dec b).2.1)).2.1) (by rw [<-h1'])
 rw [List.length_drop] at b2
 generalize Wire.dec b=r1 at *
 obtain⟨v1,n1,z1⟩:=r1
 dsimp only at *
 generalize Wire.dec (b.drop n1)=r2 at *
 obtain⟨v2,n2,z2⟩:=r2
 dsimp only at *
 obtain⟨M,g1,g2,g3,g4,g5,g6⟩:=zh_b v2 b (n1+n2) [] (pins b v2 (n1+n2) []).1 (pins b v2 (n1+n2) []).2.1 (by omega) (by rw [<-h3'])
 rw [List.nil_append] at g1
 generalize pins b v2 (n1+n2) []=r3 at *
 obtain⟨R,m,z3⟩:=r3
 dsimp only at *
 obtain⟨h7,h8⟩:=Prod.mk.inj (Prod.mk.inj h).1
 subst g1
 subst h8
 refine⟨by rw [<-h7];simpa using h6,?_⟩
 unfold enc
 rw [<-h7,Int.toNat_natCast,<-a1,g2,<-b1,<-g6]
 have e1:m=b.length:=by omega
 rw [e1,<-List.drop_drop,List.take_of_length_le (l:=(b.drop n1).drop n2) (by simp only [List.length_drop];omega),List.take_append_drop,List.take_append_drop]
theorem pin_len {p:Pin} (h:Pin.valid p=true):1<=(Pin.enc p).length/\(Pin.enc p).length<=262:=by
 obtain⟨h1,h2,h3⟩:=(Pin.valid_iff p).1 h
 have h4:=Pin.name_len h1
 have l1:=Wire.enc_len_bound 1 p.h.length (by omega)
 have l2:=Wire.enc_len_bound 0 (if p.s then 1 else 0) (by split <;> omega)
 have l3:=Wire.enc_len_bound 5 p.x.toNat (by omega)
 unfold Pin.enc Wire.txt
 simp only [List.length_append]
 omega
theorem zg_x:∀ (L:List Pin),(∀ p ∈ L,Pin.valid p=true)->L.length<=(L.flatMap Pin.enc).length/\(L.flatMap Pin.enc).length<=L.length * 262
|[],_=>by simp
|p :: L,h=>by
  have h1:=pin_len (h p List.mem_cons_self)
  have h2:=zg_x L (fun q hq=>h q (List.mem_cons_of_mem _ hq))
  simp only [List.flatMap_cons,List.length_append,List.length_cons]
  omega
theorem bound (h:Upt.stValid c L=true):(enc c L).length<=8+L.length * 262/\2<=(enc c L).length:=by
 obtain⟨h1,h2,h3,h4,h5⟩:=(Upt.stValid_iff c L).1 h
 have l1:=Wire.enc_len_bound 5 c.toNat (by omega)
 have l2:=Wire.enc_len_bound 1 L.length (by omega)
 have l3:=zg_x L h4
 unfold enc
 simp only [List.length_append]
 omega
end Snap
end
section
open Go.RowKit
variable {l:Array Bool} {j:Nat} {a:Act} {W:World}
theorem bitF (h:l.getD j false=true):l.getD j true=true:=by
 have hj:j < l.size:=by
  rcases Nat.lt_or_ge j l.size with h1|h1
  ·exact h1
  ·rw [Array.getD_eq_getD_getElem?,Array.getElem?_eq_none h1] at h;cases h
 rw [Array.getD_eq_getD_getElem?,Array.getElem?_eq_getElem hj] at h ⊢
 simpa using h
theorem bitT (h:l.getD j true=true) (hj:j < l.size):l.getD j false=true:=by
 rw [Array.getD_eq_getD_getElem?,Array.getElem?_eq_getElem hj] at h ⊢
 simpa using h
structure RegInv (X pb:Nat) (vo:Value) (bb q u cc:Nat) (W0:World) (Fact:Value->World->Prop) (Fin:World->Prop) (l:Array Bool) (a:Act) (W:World):Prop where
 lsz:l.size=9
 asz:a.tmps.size=49
 s11:a.tmps.getD 11 undef=.pointer X
 s12:a.tmps.getD 12 undef=.pointer pb
 s13:a.tmps.getD 13 undef=.slice bb 64 cc
 i0:l.getD 0 true=true->a.tmps.getD 40 undef=vo
 i1:l.getD 1 true=true->a.tmps.getD 41 undef=.slice bb 64 cc
 i2:l.getD 2 true=true->a.tmps.getD 42 undef=.pointer (pb 1)
 i3:l.getD 3 true=true->a.tmps.getD 43 undef=.int .i64 (q:Int)
 i4:l.getD 4 true=true->a.tmps.getD 44 undef=.pointer (pb 2)
 i5:l.getD 5 true=true->a.tmps.getD 45 undef=.int .i64 (u:Int)
 i6:l.getD 6 true=true->a.tmps.getD 46 undef=.slice (bb q) (u - q) (cc - q)
 o6:l.getD 6 true=true->l.getD 3 true=true/\l.getD 5 true=true
 o7:l.getD 7 true=true->l.getD 0 true=true/\l.getD 6 true=true
 o8:l.getD 8 true=true->l.getD 7 true=true
 w0:l.getD 7 true=false->W=W0
 w7:l.getD 7 true=true->l.getD 8 true=false->Fact (a.tmps.getD 47 undef) W
 w8:l.getD 8 true=true->Fin W
theorem RegInv.step {X pb:Nat} {vo:Value} {bb q u cc:Nat} {W0:World} {Fact:Value->World->Prop} {Fin:World->Prop} (h:RegInv X pb vo bb q u cc W0 Fact Fin l a W) (i d:Nat) (v:Value) (W':World)
 (hi:i < 9) (hd:d=i+40) (hl:l.getD i true=false)
 (g0:i=0->v=vo) (g1:i=1->v=.slice bb 64 cc) (g2:i=2->v=.pointer (pb 1)) (g3:i=3->v=.int .i64 (q:Int)) (g4:i=4->v=.pointer (pb 2)) (g5:i=5->v=.int .i64 (u:Int)) (g6:i=6->v=.slice (bb q) (u - q) (cc - q))
 (p6:i=6->l.getD 3 true=true/\l.getD 5 true=true) (p7:i=7->l.getD 0 true=true/\l.getD 6 true=true) (h8:i ≠ 8) (hW:i ≠ 7->W'=W) (h7:i=7->Fact v W'):RegInv X pb vo bb q u cc W0 Fact Fin (l.setIfInBounds i true) (a.put (some d) v) W':=by
 have hia:i < l.size:=by rw [h.lsz];exact hi
 have hda:d < a.tmps.size:=by rw [h.asz];omega
 have A:∀ k,(a.put (some d) v).tmps.getD k undef=if k=d then v else a.tmps.getD k undef:=fun k=>zq_h a d v k hda
 have B:∀ k,(l.setIfInBounds i true).getD k true=if k=i then true else l.getD k true:=fun k=>zm_o l i k true hia
 have S:∀ (j:Nat) (x:Value),(i=j->v=x)->(l.getD j true=true->a.tmps.getD (j+40) undef=x)->(l.setIfInBounds i true).getD j true=true->(a.put (some d) v).tmps.getD (j+40) undef=x:=by
  intro j x e1 e2 e3
  rw [A];rw [B] at e3
  by_cases hj:j=i
  ·rw [if_pos (by omega)];exact e1 hj.symm
  ·rw [if_neg hj] at e3;rw [if_neg (by omega)];exact e2 e3
 refine⟨by simpa using h.lsz,by rw [zq_i];exact h.asz,by rw [A,if_neg (by omega)];exact h.s11,by rw [A,if_neg (by omega)];exact h.s12,by rw [A,if_neg (by omega)];exact h.s13,
  S 0 _ g0 h.i0,S 1 _ g1 h.i1,S 2 _ g2 h.i2,S 3 _ g3 h.i3,S 4 _ g4 h.i4,S 5 _ g5 h.i5,S 6 _ g6 h.i6,?_,?_,?_,?_,?_,?_⟩
 ·intro e;rw [B] at e ⊢;rw [B]
  by_cases h6:6=i
  ·obtain⟨e1,e2⟩:=p6 h6.symm;rw [e1,e2];simp
  ·rw [if_neg h6] at e;obtain⟨e1,e2⟩:=h.o6 e;rw [e1,e2];simp
 ·intro e;rw [B] at e ⊢;rw [B]
  by_cases h7:7=i
  ·obtain⟨e1,e2⟩:=p7 h7.symm;rw [e1,e2];simp
  ·rw [if_neg h7] at e;obtain⟨e1,e2⟩:=h.o7 e;rw [e1,e2];simp
 ·intro e;rw [B,if_neg (fun e=>h8 e.symm)] at e;rw [B,h.o8 e];simp
 ·intro e;rw [B] at e
  by_cases h7':7=i
  ·rw [if_pos h7'] at e;cases e
  ·rw [if_neg h7'] at e;rw [hW (fun e=>h7' e.symm)];exact h.w0 e
 ·intro e e8;rw [B] at e e8;rw [A]
  rw [if_neg (fun e=>h8 e.symm)] at e8
  by_cases h7':7=i
  ·rw [if_pos (by omega)];exact h7 h7'.symm
  ·rw [if_neg h7'] at e;rw [if_neg (by omega),hW (fun e=>h7' e.symm)];exact h.w7 e e8
 ·intro e;rw [B,if_neg (fun e=>h8 e.symm)] at e
  by_cases h7':i=7
  ·
   exfalso
   have:=h.o8 e;rw [<-h7',hl] at this;cases this
  ·rw [hW h7'];exact h.w8 e
set_option maxRecDepth 100000 in
theorem zo_d {F:Fence} {n:Nat} {ops:Array Oper} {Q:Exit->Act->World->Prop} (hsz:ops.size=9)
 (e0:OpIs ops 0 (.load 70 (.tmp 11)) (some 40) []) (e1:OpIs ops 1 (.move (.tmp 13)) (some 41) []) (e2:OpIs ops 2 (.fieldAddr 194 (.tmp 12) 1) (some 42) []) (e3:OpIs ops 3 (.load 3 (.tmp 42)) (some 43) [2])
 (e4:OpIs ops 4 (.fieldAddr 194 (.tmp 12) 2) (some 44) []) (e5:OpIs ops 5 (.load 3 (.tmp 44)) (some 45) [4]) (e6:OpIs ops 6 (.slice 70 (.tmp 41) (some (.tmp 43)) (some (.tmp 45)) none) (some 46) [1,3,5])
 (e7:OpIs ops 7 (.call { callee:=.builtin .append,args:=#[.tmp 40,.tmp 46],argTypes:=#[70,70] }) (some 47) [0,6]) (e8:OpIs ops 8 (.store 70 (.tmp 11) (.tmp 47)) none [7,7,0,1,2,3,4,5,6,7])
 {X pb bb q u cc base:Nat} {vo:Value} {acc l2:List UInt8} (ha:a.tmps.size=49) (h11:a.tmps.getD 11 undef=.pointer X) (h12:a.tmps.getD 12 undef=.pointer pb) (h13:a.tmps.getD 13 undef=.slice bb 64 cc)
 (hX:Boxed W X 70 vo) (hp1:W.cell? (pb 1)=some (q:Value)) (hp2:W.cell? (pb 2)=some (u:Value)) (hq:q<=u) (hu:u<=64) (hc:64<=cc) (hq6:q < 64) (hO:OwnB base W vo acc) (hb:base<=W.heap.size) (hXb:∀ k,vo.ownBlock=some k->k ≠ X)
 (hS:SlB W (bb q) (u - q) (cc - q) l2) (hlen:acc.length+(u - q)<=140737488355328)
 (hQ:∀ a' v' W',OwnB base W' v' (acc ++ l2)->W.grownBy W' vo.ownBlock->Q .normal a' (W'.setCell X v')) :
 wpAnyIn F n Tryz.prog .any ops Q ops.size (Array.replicate ops.size false) a W:=by
 obtain⟨Inv,hInv⟩:∃ Inv,Inv=RegInv X pb vo bb q u cc W (fun v W1=>OwnB base W1 v (acc ++ l2)/\W.grownBy W1 vo.ownBlock) (fun W2=>∃ v1 W1,OwnB base W1 v1 (acc ++ l2)/\W.grownBy W1 vo.ownBlock/\W2=W1.setCell X v1):=⟨_,rfl⟩
 refine zk_m Inv (fun l a W h=>by rw [hInv] at h;rw [h.lsz,hsz]) ?_ ?_ _ _ _ _ ?_ ?_
 ·
  rintro l a1 W1 h hr
  rw [hInv] at h
  have f0:=e0.listed hr (by simp) (by omega)
  have T:∀ {j:Nat},l.getD j true=true->j < 9->l.getD j false=true:=fun h1 h2=>bitT h1 (by rw [h.lsz];exact h2)
  have f1:=e1.listed hr (by simp) (by omega)
  have f2:=e2.listed hr (by simp) (by omega)
  have f4:=e4.listed hr (by simp) (by omega)
  have f3:=e3.listed hr (by intro j hj;simp only [List.mem_cons,List.not_mem_nil,or_false] at hj;rw [hj];exact T f2 (by omega)) (by omega)
  have f5:=e5.listed hr (by intro j hj;simp only [List.mem_cons,List.not_mem_nil,or_false] at hj;rw [hj];exact T f4 (by omega)) (by omega)
  have f6:=e6.listed hr (by intro j hj;simp only [List.mem_cons,List.not_mem_nil,or_false] at hj;rcases hj with rfl|rfl|rfl <;> first|exact T f1 (by omega)|exact T f3 (by omega)|exact T f5 (by omega)) (by omega)
  have f7:=e7.listed hr (by intro j hj;simp only [List.mem_cons,List.not_mem_nil,or_false] at hj;rcases hj with rfl|rfl <;> first|exact T f0 (by omega)|exact T f6 (by omega)) (by omega)
  have f8:=e8.listed hr (by intro j hj;simp only [List.mem_cons,List.not_mem_nil,or_false] at hj;rcases hj with rfl|rfl|rfl|rfl|rfl|rfl|rfl|rfl|rfl|rfl <;> first|exact T f0 (by omega)|exact T f1 (by omega)|exact T f2 (by omega)|exact T f3 (by omega)|exact T f4 (by omega)|exact T f5 (by omega)|exact T f6 (by omega)|exact T f7 (by omega)) (by omega)
  obtain⟨v1,W2,q1,q2,rfl⟩:=h.w8 f8
  exact hQ _ _ _ q1 q2
 ·
  intro l a1 W1 i h hm K' hK
  rw [hInv] at h hK
  obtain⟨hi,hl⟩:=zf_h hm
  rw [hsz] at hi
  have n7:i ≠ 8->l.getD 8 true=true->l.getD 7 true=true:=fun _=>h.o8
  have x11:a1.tmps[11]?.getD undef=.pointer X:=by have:=h.s11;rwa [Array.getD_eq_getD_getElem?] at this
  have x12:a1.tmps[12]?.getD undef=.pointer pb:=by have:=h.s12;rwa [Array.getD_eq_getD_getElem?] at this
  have x13:a1.tmps[13]?.getD undef=.slice bb 64 cc:=by have:=h.s13;rwa [Array.getD_eq_getD_getElem?] at this
  match i,hi with
 |0,_ =>
   have hW:W1=W:=h.w0 (by cases h7:l.getD 7 true with|false=>rfl|true=>have:=(h.o7 h7).1;rw [hl] at this;cases this)
   subst hW
   have hcell:=hX.cell
   refine e0.value (by simp) (fun o ho=>by simp [Oper.about,ho]) (v:=vo) (w':=W1) (fun o ho=>?_) (hK _ _ (h.step 0 40 vo W1 (by omega) rfl hl (fun _=>rfl) (by simp) (by simp) (by simp) (by simp) (by simp) (by simp) (by simp) (by simp) (by simp) (fun _=>rfl) (by simp)))
   simp [execOp,ho,x11,go_sem,hcell]
 |1,_ =>
   refine e1.value (by simp) (fun o ho=>by simp [Oper.about,ho]) (v:=.slice bb 64 cc) (w':=W1) (fun o ho=>?_) (hK _ _ (h.step 1 41 _ W1 (by omega) rfl hl (by simp) (fun _=>rfl) (by simp) (by simp) (by simp) (by simp) (by simp) (by simp) (by simp) (by simp) (fun _=>rfl) (by simp)))
   simp [execOp,ho,x13,go_sem]
 |2,_ =>
   refine e2.value (by simp) (fun o ho=>by simp [Oper.about,ho]) (v:=.pointer (pb 1)) (w':=W1) (fun o ho=>?_) (hK _ _ (h.step 2 42 _ W1 (by omega) rfl hl (by simp) (by simp) (fun _=>rfl) (by simp) (by simp) (by simp) (by simp) (by simp) (by simp) (by simp) (fun _=>rfl) (by simp)))
   simp [execOp,ho,x12,go_sem]
 |4,_ =>
   refine e4.value (by simp) (fun o ho=>by simp [Oper.about,ho]) (v:=.pointer (pb 2)) (w':=W1) (fun o ho=>?_) (hK _ _ (h.step 4 44 _ W1 (by omega) rfl hl (by simp) (by simp) (by simp) (by simp) (fun _=>rfl) (by simp) (by simp) (by simp) (by simp) (by simp) (fun _=>rfl) (by simp)))
   simp [execOp,ho,x12,go_sem]
 |3,_ =>
   have d2:=e3.dep hm (j:=2) (by simp)
   have hs:a1.tmps[42]?.getD undef=.pointer (pb 1):=by have:=h.i2 (bitF d2);rwa [Array.getD_eq_getD_getElem?] at this
   have hW:W1=W:=h.w0 (by cases h7:l.getD 7 true with|false=>rfl|true=>have:=(h.o6 (h.o7 h7).2).1;rw [hl] at this;cases this)
   subst hW
   refine e3.value (by simp) (fun o ho=>by simp [Oper.about,ho]) (v:=.int .i64 (q:Int)) (w':=W1) (fun o ho=>?_) (hK _ _ (h.step 3 43 _ W1 (by omega) rfl hl (by simp) (by simp) (by simp) (fun _=>rfl) (by simp) (by simp) (by simp) (by simp) (by simp) (by simp) (fun _=>rfl) (by simp)))
   simp [execOp,ho,hs,go_sem,hp1]
 |5,_ =>
   have d4:=e5.dep hm (j:=4) (by simp)
   have hs:a1.tmps[44]?.getD undef=.pointer (pb 2):=by have:=h.i4 (bitF d4);rwa [Array.getD_eq_getD_getElem?] at this
   have hW:W1=W:=h.w0 (by cases h7:l.getD 7 true with|false=>rfl|true=>have:=(h.o6 (h.o7 h7).2).2;rw [hl] at this;cases this)
   subst hW
   refine e5.value (by simp) (fun o ho=>by simp [Oper.about,ho]) (v:=.int .i64 (u:Int)) (w':=W1) (fun o ho=>?_) (hK _ _ (h.step 5 45 _ W1 (by omega) rfl hl (by simp) (by simp) (by simp) (by simp) (by simp) (fun _=>rfl) (by simp) (by simp) (by simp) (by simp) (fun _=>rfl) (by simp)))
   simp [execOp,ho,hs,go_sem,hp2]
 |6,_ =>
   have d1:=e6.dep hm (j:=1) (by simp)
   have d3:=e6.dep hm (j:=3) (by simp)
   have d5:=e6.dep hm (j:=5) (by simp)
   have s1:a1.tmps[41]?.getD undef=.slice bb 64 cc:=by have:=h.i1 (bitF d1);rwa [Array.getD_eq_getD_getElem?] at this
   have s3:a1.tmps[43]?.getD undef=.int .i64 (q:Int):=by have:=h.i3 (bitF d3);rwa [Array.getD_eq_getD_getElem?] at this
   have s5:a1.tmps[45]?.getD undef=.int .i64 (u:Int):=by have:=h.i5 (bitF d5);rwa [Array.getD_eq_getD_getElem?] at this
   have c1:¬ cc=q:=by omega
   have c2:u<=cc:=by omega
   refine e6.value (by simp) (fun o ho=>by simp [Oper.about,ho]) (v:=.slice (bb q) (u - q) (cc - q)) (w':=W1) (fun o ho=>?_) (hK _ _ (h.step 6 46 _ W1 (by omega) rfl hl (by simp) (by simp) (by simp) (by simp) (by simp) (by simp) (fun _=>rfl) (fun _=>⟨bitF d3,bitF d5⟩) (by simp) (by simp) (fun _=>rfl) (by simp)))
   simp [execOp,ho,s1,s3,s5,go_sem,c1,c2,hq]
 |7,_ =>
   have d0:=e7.dep hm (j:=0) (by simp)
   have d6:=e7.dep hm (j:=6) (by simp)
   have hW:W1=W:=h.w0 hl
   subst hW
   obtain⟨o,ho1,ho2,ho3,ho4,ho5⟩:=id e7.ex
   obtain⟨v',w',hrun,hv,hg⟩:=zc_f o.type base vo acc hO (bb q) (u - q) (cc - q) l2 hS hlen hb
   unfold wpOpIn
   rw [ho1]
   simp only [Region.wanted,ho3,if_true]
   unfold Oper.wpIn
   rw [Oper.semAt_plain F _ _ (by rw [ho2];intro c hc';cases hc')]
   refine⟨by simp [Oper.about,ho2,resolve,Target.leads,Sem.run_pure],?_⟩
   have:(execOp a1.eval o).run Tryz.prog W1=.ok (.value v') w':=by
    have s0':a1.eval (.tmp 40)=vo:=h.i0 (bitF d0)
    have s6':a1.eval (.tmp 46)=.slice (bb q) (u - q) (cc - q):=h.i6 (bitF d6)
    simp [execOp,ho2,resolve,invoke,builtin,s0',s6',hrun,Result.andThen]
   rw [this,Oper.uponIn_value,ho4]
   exact hK _ _ (h.step 7 47 v' w' (by omega) rfl hl (by simp) (by simp) (by simp) (by simp) (by simp) (by simp) (by simp) (by simp) (fun _=>⟨bitF d0,bitF d6⟩) (by simp) (by simp) (fun _=>⟨hv,hg⟩))
 |8,_ =>
   have d7:=e8.dep hm (j:=7) (by simp)
   obtain⟨hv,hg⟩:=h.w7 (bitF d7) hl
   obtain⟨v',hv'⟩:∃ v',v'=a1.tmps.getD 47 undef:=⟨_,rfl⟩
   rw [<-hv'] at hv
   have s7:a1.tmps[47]?.getD undef=v':=by have:=hv'.symm;rwa [Array.getD_eq_getD_getElem?] at this
   have hfr:W1.frozen? X=false:=by
    exact (hX.kept hg (fun e=>hXb X e.symm rfl)).frozen
   refine e8.skip (by simp) (fun o ho=>by simp [Oper.about,ho]) (w':=W1.setCell X v') (fun o ho=>?_) (hK _ _ ?_)
   ·obtain⟨av,cv,hvv,-,-⟩:=hv.sl
    have hcl:=(hX.kept hg (fun e=>hXb X e.symm rfl)).cell
    simp [execOp,ho,x11,s7,hvv,go_sem,hfr,hcl]
   ·have B:∀ k,(l.setIfInBounds 8 true).getD k true=if k=8 then true else l.getD k true:=fun k=>zm_o l 8 k true (by rw [h.lsz];omega)
    refine⟨by simpa using h.lsz,h.asz,h.s11,h.s12,h.s13,?_,?_,?_,?_,?_,?_,?_,?_,?_,?_,?_,?_,?_⟩
    ·intro e;rw [B] at e;exact h.i0 e
    ·intro e;rw [B] at e;exact h.i1 e
    ·intro e;rw [B] at e;exact h.i2 e
    ·intro e;rw [B] at e;exact h.i3 e
    ·intro e;rw [B] at e;exact h.i4 e
    ·intro e;rw [B] at e;exact h.i5 e
    ·intro e;rw [B] at e;exact h.i6 e
    ·intro e;rw [B] at e;simp only [B];exact h.o6 e
    ·intro e;rw [B] at e;simp only [B];exact h.o7 e
    ·intro e;rw [B];exact bitF d7
    ·intro e;rw [B] at e;have:=bitF d7;rw [if_neg (by decide),this] at e;cases e
    ·intro _ e;rw [B] at e;cases e
    ·intro _;exact⟨v',W1,hv,hg,rfl⟩
 ·rw [hInv,hsz]
  have:∀ j,j < 9->(Array.replicate 9 false).getD j true=false:=by decide
  refine⟨rfl,ha,h11,h12,h13,?_,?_,?_,?_,?_,?_,?_,?_,?_,?_,fun _=>rfl,?_,?_⟩ <;> (intro e;first|(rw [this _ (by decide)] at e;cases e))
 ·rw [hsz];decide
end
section
variable {L:List Pin} {u:UpdV} {c cap:Int}
theorem Tab.rput_any (hL:Tab.Asc L) (cap:Int) {p:Pin} (hv:Pin.valid p=true) :
 Tab.rput L p cap=if Tab.hit L p.h=true then (Upt.ins L p,0) else if cap<=(L.length:Int) then (L,11) else (Upt.ins L p,0):=by
 unfold Tab.rput Upt.ins
 rw [if_neg (by rw [hv];decide),Tab.rremove_is hL]
 unfold Tab.remove
 cases hh:Tab.hit L p.h with
|true =>
  rw [if_pos rfl,if_neg (by rintro⟨e,-⟩;cases e),if_pos rfl]
  simp only
  rw [Tab.lo_removed hL hh]
  have hlt:=Tab.lo_lt hL hh
  rw [List.take_left' (by rw [List.length_take];omega),List.drop_left' (by rw [List.length_take];omega),List.set_eq_take_append_cons_drop,if_pos hlt]
  try rfl
|false =>
  have e1:(if false=true then (L.take (Tab.lo L p.h) ++ L.drop (Tab.lo L p.h+1),true) else (L,false))=(L,false):=if_neg (by decide)
  rw [e1]
  have e2:∀ A B:List Pin × Int,(if false=true then A else B)=B:=fun A B=>if_neg (by decide)
  rw [e2]
  by_cases hf:cap<=L.length
  ·rw [if_pos ⟨rfl,hf⟩,if_pos hf]
  ·rw [if_neg (fun e=>hf e.2),if_neg hf,if_neg (by decide)]
namespace Upt
theorem apply_bad (h:stValid c L=false\/valid u=false):apply c L u cap=([],1):=by unfold apply;rw [if_pos h]
theorem apply_rem (h1:stValid c L=true) (h2:valid u=true) (hk:u.k=2):apply c L u cap=((Tab.remove L u.p.h).1,0):=by
 unfold apply upd;rw [if_neg (by rw [h1,h2];decide),if_pos hk,if_pos hk]
theorem apply_hit (h1:stValid c L=true) (h2:valid u=true) (hk:u.k=1) (hh:Tab.hit L u.p.h=true):apply c L u cap=(L.set (Tab.lo L u.p.h) u.p,0):=by
 unfold apply upd ins;rw [if_neg (by rw [h1,h2];decide),if_neg (by omega),if_pos hh,if_neg (by omega),if_pos hh]
theorem apply_full (h1:stValid c L=true) (h2:valid u=true) (hk:u.k=1) (hh:Tab.hit L u.p.h=false) (hf:min cap 1000<=(L.length:Int)):apply c L u cap=([],11):=by
 unfold apply;rw [if_neg (by rw [h1,h2];decide),if_neg (by omega),if_neg (by rw [hh];decide),if_pos hf]
theorem apply_ins (h1:stValid c L=true) (h2:valid u=true) (hk:u.k=1) (hh:Tab.hit L u.p.h=false) (hf:¬ min cap 1000<=(L.length:Int)) :
 apply c L u cap=(L.take (Tab.lo L u.p.h) ++ u.p :: L.drop (Tab.lo L u.p.h),0):=by
 unfold apply upd ins;rw [if_neg (by rw [h1,h2];decide),if_neg (by omega),if_neg (by rw [hh];decide),if_neg hf,if_neg (by omega),if_neg (by rw [hh];decide)]
theorem kind_of (h:valid u=true):u.k=1\/u.k=2:=by
 rcases valid_cases h with⟨h1,-⟩|⟨h1,-,-⟩
 ·exact .inl h1
 ·exact .inr h1
theorem host_len (h:valid u=true):u.p.h.length<=253:=by
 rcases valid_cases h with⟨-,h2⟩|⟨-,h2,-⟩
 ·exact Pin.name_len ((Pin.valid_iff _).1 h2).1
 ·exact Pin.name_len h2
theorem hosts_len (h:stValid c L=true):∀ p ∈ L,p.h.length<=253:=fun p hp =>
 Pin.name_len ((Pin.valid_iff _).1 (((stValid_iff c L).1 h).2.2.2.1 p hp)).1
def ack (c z:Int):Int:=if z=0 then c else 0
theorem apply_err (c:Int) (L:List Pin) (u:UpdV) (cap:Int) (h:(apply c L u cap).2 ≠ 0):(apply c L u cap).1=[]:=by
 revert h;unfold apply
 split
 ·exact fun _=>rfl
 ·split
  ·exact fun h=>absurd rfl h
  ·split
   ·exact fun h=>absurd rfl h
   ·split
    ·exact fun _=>rfl
    ·exact fun h=>absurd rfl h
theorem apply_ok (h:(apply c L u cap).2=0):stValid c L=true/\valid u=true/\(apply c L u cap).1=upd L u:=by
 revert h;unfold apply
 split
 ·exact fun h=>absurd h (by decide)
 ·rename_i h0
  have h1:stValid c L=true:=by cases e:stValid c L with|true=>rfl|false=>exact absurd (.inl e) h0
  have h2:valid u=true:=by cases e:valid u with|true=>rfl|false=>exact absurd (.inr e) h0
  split
  ·exact fun _=>⟨h1,h2,rfl⟩
  ·split
   ·exact fun _=>⟨h1,h2,rfl⟩
   ·split
    ·exact fun h=>absurd h (by decide)
    ·exact fun _=>⟨h1,h2,rfl⟩
theorem upd_state (h1:stValid c L=true) (h2:valid u=true) (hl:(upd L u).length<=1000):stValid c (upd L u)=true:=by
 obtain⟨a1,a2,a3,a4,a5⟩:=(stValid_iff c L).1 h1
 exact (stValid_iff c _).2 ⟨a1,a2,hl,upd_good a5 h2 a4,zs_z a5 h2⟩
end Upt
end
section
namespace Snap
theorem zo_w {L:List Pin} {k:Nat} (hk:k < L.length):(L.take (k+1)).flatMap Pin.enc=(L.take k).flatMap Pin.enc ++ Pin.enc L[k]:=by
 rw [List.take_succ_eq_append_getElem hk,List.flatMap_append];simp
end Snap
end
section
open Go.RowKit
variable {listed:Array Bool} {fuel i:Nat} {a:Act} {w:World} {oi:Oper} {v:Value}
section
variable {P:Program} {ops:Array Oper} {Q:Exit->Act->World->Prop} {md:Region.Mode} {S:World->Prop} {t:Nat}
def reach2 (md:Region.Mode) (ops:Array Oper) (t i:Nat):Bool:=Region.waitsFor md ops t i || (List.range ops.size).any fun m=>Region.waitsFor md ops t m && Region.waitsFor md ops m i
def ClosedR (md:Region.Mode) (ops:Array Oper) (listed:Array Bool):Prop:=∀ j oj,ops[j]?=some oj->listed.getD j false=true->∀ e ∈ oj.after,Region.binds md e=true->listed.getD e.on false=true
def closedB (md:Region.Mode) (ops:Array Oper) (listed:Array Bool):Bool:=(List.range ops.size).all fun j=>!listed.getD j false || match ops[j]? with|some oj=>oj.after.all (fun e=>!Region.binds md e || listed.getD e.on false)|none=>true
theorem ze_j (h:closedB md ops listed=true):ClosedR md ops listed:=by
 intro j oj hj hl e he hb
 have h1:=List.all_eq_true.1 h j (List.mem_range.2 (Array.getElem?_eq_some_iff.1 hj).1)
 rw [hl,hj] at h1
 simp only [Bool.not_true,Bool.false_or] at h1
 have h2:=Array.all_eq_true_iff_forall_mem.1 h1 e he
 rw [hb] at h2
 simpa using h2
theorem ClosedR.set (h:ClosedR md ops listed) (hi:i ∈ Region.ready md ops listed):ClosedR md ops (listed.setIfInBounds i true):=by
 obtain⟨_,oi,hoi,hall⟩:=mem_ready.1 hi
 intro j oj hj hl e he hb
 by_cases hij:i=j
 ·subst hij
  have:oj=oi:=Option.some.inj (hj.symm.trans hoi)
  subst this
  exact getD_set_true (hall e he hb)
 ·rw [getD_set_ne false hij] at hl
  exact getD_set_true (h j oj hj hl e he hb)
theorem zm_c {j:Nat} (h:ClosedR md ops listed) (ht:reach2 md ops t i=true) (hr:j ∈ Region.ready md ops listed) (hi:listed.getD i true=false):j ≠ t:=by
 rintro rfl
 obtain⟨_,oj,hoj,hall⟩:=mem_ready.1 hr
 have hif:=getD_both hi
 unfold reach2 at ht
 rcases Bool.or_eq_true_iff.1 ht with h1|h1
 ·obtain⟨ot,hot,e,he,hb,hon⟩:=Region.waitsFor_spec h1
  have:oj=ot:=Option.some.inj (hoj.symm.trans hot)
  subst this
  have:=hall e he hb
  rw [hon,hif] at this;cases this
 ·obtain⟨m,_,h2⟩:=List.any_eq_true.1 h1
  obtain⟨h3,h4⟩:=Bool.and_eq_true_iff.1 h2
  obtain⟨ot,hot,e,he,hb,hon⟩:=Region.waitsFor_spec h3
  have:oj=ot:=Option.some.inj (hoj.symm.trans hot)
  subst this
  have h5:=hall e he hb
  rw [hon] at h5
  obtain⟨om,hom,e2,he2,hb2,hon2⟩:=Region.waitsFor_spec h4
  have h6:=h m om hom h5 e2 he2 hb2
  rw [hon2,hif] at h6;cases h6
end
theorem SlB.void (w:World) (b o:Nat):SlB w (b o) 0 0 []:=⟨rfl,zN _,by unfold maxLen;omega,fun _=>⟨rfl,rfl⟩,fun x hx i hi=>by simp at hi⟩
end
section
open Go.RowKit
variable {a:Act} {w:World} {fuel i:Nat} {listed:Array Bool} {oi:Oper} {v:Value}
section
variable {P:Program} {ops:Array Oper} {Q:Exit->Act->World->Prop} {md:Region.Mode} {H S:World->Prop} {D:List Nat}
def wpAnyD (P:Program) (md:Region.Mode) (ops:Array Oper) (Q:Exit->Act->World->Prop) (H S:World->Prop) (D:List Nat):Nat->Array Bool->Act->World->Prop
|0,listed,a,w=>Region.ready md ops listed=[]/\Q .normal a w
|fuel+1,listed,a,w =>
  (Region.ready md ops listed=[]->Q .normal a w) ∧
  ∀ i ∈ Region.ready md ops listed,wpOp P ops Q i (fun a' w'=>H w'/\(S w->i ∉ D->S w')/\wpAnyD P md ops Q H S D fuel (listed.setIfInBounds i true) a' w') a w
theorem zg_s:∀ (fuel:Nat) (listed:Array Bool) (a:Act) (w:World),wpAnyD P md ops Q H S D fuel listed a w->wpAny P md ops Q fuel listed a w
|0,_,_,_,h=>h
|fuel+1,_,_,_,h=>⟨h.1,fun i hi=>wpOp_mono (fun a' w' h'=>zg_s fuel _ a' w' h'.2.2) (h.2 i hi)⟩
theorem ze_o {T:World->Prop} (hi:ops[i]?=some oi) (hsel:∀ (j:Nat) (o:Oper) cs b,ops[j]?=some o->o.op ≠ .select cs b)
 (hQ:∀ c a w,Q (.panic c) (a.put oi.dst v) w->Q (.panic c) a w)
 (hT:∀ (listed:Array Bool) (j:Nat) (w w':World),ClosedR md ops listed->j ∈ Region.ready md ops listed->listed.getD i true=false->T w->H w'->(S w->j ∉ D->S w')->T w') :
 ∀ (fuel:Nat) (listed:Array Bool) (a:Act) (w:World),ClosedR md ops listed →
  (∀ j oj,ops[j]?=some oj->j ≠ i->listed.getD j true=false->(∀ e ∈ oj.after,Region.binds md e=true->e.on ≠ i)->oi.apart ops oj=true) →
  i ∈ Region.ready md ops listed->YieldsIf P ops T oi v a->T w->H w →
  wpAnyD P md ops Q H S D fuel (listed.setIfInBounds i true) (a.put oi.dst v) w->wpAnyD P md ops Q H S D (fuel+1) listed a w:=by
 intro fuel
 induction fuel with
|zero =>
  intro listed a w _ _ hr hy hTw hH X
  refine⟨fun h=>(by rw [h] at hr;cases hr),fun j hj=>?_⟩
  by_cases hji:j=i
  ·subst hji;exact hy.wpOp hi hTw ⟨hH,fun h _=>h,X⟩
  ·have:=ready_mono hj hji
   rw [X.1] at this
   cases this
|succ fuel ih =>
  intro listed a w hcl hfree hr hy hTw hH X
  refine⟨fun h=>(by rw [h] at hr;cases hr),fun j hj=>?_⟩
  by_cases hji:j=i
  ·subst hji;exact hy.wpOp hi hTw ⟨hH,fun h _=>h,X⟩
  ·have h1:=X.2 j (ready_mono hj hji)
   obtain⟨hjun,oj,hoj,hall⟩:=mem_ready.1 hj
   have hnot:∀ e ∈ oj.after,Region.binds md e=true->e.on ≠ i:=fun e he hb heq=>by
    have h1:=hall e he hb
    have h0:=(mem_ready.1 hr).1
    rw [heq] at h1
    rcases Nat.lt_or_ge i listed.size with h'|h'
    ·simp [h'] at h0 h1;rw [h0] at h1;cases h1
    ·simp [Array.getElem?_eq_none h'] at h1
   have hiu:=(mem_ready.1 hr).1
   have h2:=wpOp_putIf hoj (hfree j oj hoj hji hjun hnot) (fun cs b=>hsel i oi cs b hi) (fun cs b=>hsel j oj cs b hoj) hQ hy h1
   have hfree':∀ k ok,ops[k]?=some ok->k ≠ i->(listed.setIfInBounds j true).getD k true=false →
    (∀ e ∈ ok.after,Region.binds md e=true->e.on ≠ i)->oi.apart ops ok=true:=fun k ok hk hki hun hno=>by
    refine hfree k ok hk hki ?_ hno
    by_cases hjk:j=k
    ·subst hjk;exact hjun
    ·rw [getD_set_ne true hjk] at hun;exact hun
   refine wpOp_mono (fun a' w' h3=>⟨h3.2.1,h3.2.2.1,ih (listed.setIfInBounds j true) a' w' (hcl.set hj) hfree' (ready_mono hr (Ne.symm hji)) h3.1 (hT listed j w w' hcl hj hiu hTw h3.2.1 h3.2.2.1) h3.2.1 ?_⟩) h2
   rw [Array.setIfInBounds_comm _ _ hji]
   exact h3.2.2.2
theorem zc_m {L:List Nat} (hi:ops[i]?=some oi)
 (hs:Region.noSelect ops=true) (hf:Region.free md ops listed i=true) (hr:(Region.ready md ops listed).contains i=true) (hc:closedB md ops listed=true)
 (hQ:∀ c a w,Q (.panic c) (a.put oi.dst v) w->Q (.panic c) a w) (hy:YieldsIf P ops H oi v a) (hH:H w)
 (h:Tk L (wpAnyD P md ops Q H S D fuel (listed.setIfInBounds i true) (a.put oi.dst v) w)):Tk (i::L) (wpAnyD P md ops Q H S D (fuel+1) listed a w) :=
 ⟨ze_o hi (Region.noSelect_spec hs) hQ (T:=H) (fun _ _ _ _ _ _ _ _ h _=>h) fuel listed a w (ze_j hc) (Region.free_spec hi hf) (by simpa using hr) hy hH hH h.1⟩
theorem zj_d {L:List Nat} (hi:ops[i]?=some oi)
 (hs:Region.noSelect ops=true) (hf:Region.free md ops listed i=true) (hr:(Region.ready md ops listed).contains i=true) (hD:D.all (fun t=>reach2 md ops t i)=true) (hc:closedB md ops listed=true)
 (hQ:∀ c a w,Q (.panic c) (a.put oi.dst v) w->Q (.panic c) a w) (hy:YieldsIf P ops S oi v a) (hH:H w) (hS:S w)
 (h:Tk L (wpAnyD P md ops Q H S D fuel (listed.setIfInBounds i true) (a.put oi.dst v) w)):Tk (i::L) (wpAnyD P md ops Q H S D (fuel+1) listed a w) :=
 ⟨ze_o hi (Region.noSelect_spec hs) hQ (T:=S) (fun l j w w' hcl hj hiu hSw _ k=>k hSw fun hjD=>zm_c hcl (List.all_eq_true.1 hD j hjD) hj hiu rfl) fuel listed a w (ze_j hc) (Region.free_spec hi hf) (by simpa using hr) hy hS hH h.1⟩
theorem ze_f {o:Oper} (hi:ops[i]?=some o) (hr:Region.ready md ops listed=[i]) (hiD:i ∈ D)
 (h:∀ K':Act->World->Prop,Hid (∀ a w,H w->wpAnyD P md ops Q H S D fuel (listed.setIfInBounds i true) a w->K' a w)->if Region.wanted o (yielded ops a.tmps)=true then Oper.wp P o a w K' Q else K' (a.put o.dst undef) w) :
 wpAnyD P md ops Q H S D (fuel+1) listed a w:=by
 refine⟨(fun h0=>by rw [hr] at h0;cases h0),fun j hj=>?_⟩
 rw [hr] at hj
 obtain rfl:j=i:=by simpa using hj
 exact wpOp_step hi (fun K' hK=>h K' (zH (fun a w hH hW=>hK a w ⟨hH,fun _ h=>absurd hiD h,hW⟩)))
theorem zk_l (hr:Region.ready md ops listed=[]) (h:Q .normal a w) :
 ∀ fuel,wpAnyD P md ops Q H S D fuel listed a w
|0=>⟨hr,h⟩
|_+1=>⟨fun _=>h,by rw [hr];simp⟩
theorem zk_n {id:Nat} (hm:P.follows .mixedOrders=true) (D:List Nat) (H S:World->Prop)
 (h:wpAnyD P .any ops Q H S D ops.size (Array.replicate ops.size false) a w.drew):(Code.region id ops true).wp P Q a w :=
 wp_region_any hm (zg_s _ _ _ _ h)
end
end
section
open Go.RowKit
variable {w:World}
theorem zf_i (ty:TypeId) (base:Nat) (v:Value) (ls:List (List UInt8)) (hown:OwnL base w v ls) (u:Value) (l:List UInt8) (hu:OwnB base w u l) (k:Nat) (hk:w.cell? k=some u) (hlen:ls.length<=1000000000) (hbase:base<=w.heap.size) :
 ∃ v' w',(Builtin.append_ #[112,112] ty #[v,.slice k 1 1]).run Tryz.prog w=.ok v' w'/\OwnL base w' v' (ls ++ [l])/\w.grownBy w' v.ownBlock:=by
 obtain⟨i0,hi,hz0,hz1,hz2⟩:=info_parts info26
 obtain⟨vs,h1,h2⟩:=hown
 have hvl:vs.length=ls.length:=by rw [h1.1];simp
 obtain⟨v',w',hrun,h3,h4,_⟩:=run_append_own (P:=Tryz.prog) w base 112 ty 70 i0 (.slice none 0 0) 1 24 Tryz.underlying112 hi hz0 hz1 hz2 rfl (by decide) v ls.length vs h1 k 1 1 [u] rfl (fun j q hj=>by
  obtain⟨rfl,rfl⟩:j=0/\q=u:=by
   cases j with
  |zero=>exact⟨rfl,by simpa using hj.symm⟩
  |succ j=>simp at hj
  have hadd:(k:Addr).add 0=k:=by unfold Addr.add;split <;> simp_all
  rw [hadd];exact hk) (fun q hq=>by
  simp at hq;subst hq
  obtain⟨p,d,rfl,-⟩:=hu.sl
  rfl) (by unfold maxLen;omega) (by omega) hbase
 refine⟨v',w',hrun,⟨vs ++ [u],by simpa using h3,fun i hi=>?_⟩,h4⟩
 have hkeep:∀ q m,OwnB base w q m->OwnB base w' q m:=fun q m hq=>hq.grownL h1 h4
 by_cases hil:i < ls.length
 ·obtain⟨q,h5,h6⟩:=h2 i hil
  refine⟨q,?_,?_⟩
  ·rw [List.getElem?_append_left (by omega)];exact h5
  ·rw [List.getElem?_append_left hil];exact hkeep _ _ h6
 ·obtain rfl:i=ls.length:=by simp at hi;omega
  refine⟨u,?_,?_⟩
  ·rw [List.getElem?_append_right (by omega),hvl];simp
  ·rw [List.getElem?_append_right (by omega)];simpa using hkeep _ _ hu
theorem zm_h {ops:Array Oper} {o:Oper} {a:Act} {K:Act->World->Prop} {Q:Exit->Act->World->Prop} {E:Prop} (hgd:o.guard=none) (s x:Operand)
 (ho:o.op=.call { callee:=.builtin .append,args:=#[s,x],argTypes:=#[112,112] })
 (base:Nat) (v:Value) (ls:List (List UInt8)) (hs:a.eval s=v) (hown:OwnL base w v ls) (u:Value) (l:List UInt8) (hu:OwnB base w u l) (k:Nat) (hx:a.eval x=.slice k 1 1) (hk:w.cell? k=some u)
 (hlen:ls.length<=1000000000) (hbase:base<=w.heap.size)
 (h:∀ v' w',OwnL base w' v' (ls ++ [l])->w.grownBy w' v.ownBlock->K (a.put o.dst v') w') :
 if Region.wanted o (yielded ops a.tmps)=true then Oper.wp Tryz.prog o a w K Q else E:=by
 have hw:Region.wanted o (yielded ops a.tmps)=true:=by simp [Region.wanted,hgd]
 rw [if_pos hw]
 obtain⟨v',w',hrun,h1,h2⟩:=zf_i o.type base v ls hown u l hu k hk hlen hbase
 unfold Oper.wp
 simp [execOp,ho,resolve,invoke,builtin,hs,hx,hrun,Result.andThen]
 exact h v' w' h1 h2
end
end Go.Proofs.YtmanejniepghlaaGreatDoor
