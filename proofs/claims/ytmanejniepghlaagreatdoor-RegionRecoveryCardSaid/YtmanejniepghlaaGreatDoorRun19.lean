import Derived.Test.YtmanejniepghlaaGreatDoorRun14
import Derived.Test.YtmanejniepghlaaGreatDoorRun18
import Derived.Test.YtmanejniepghlaaGreatDoorRun2
import Derived.Deep.RegionHeld3
import Derived.Laws.AppendOwnNone
import Derived.OwnWalk
import Derived.Lib.SlBytesConst
import Derived.Test.YtmanejniepghlaaGreatDoorRun0
import Derived.Test.YtmanejniepghlaaGreatDoorRun1
import Derived.Deep.DeepMust
namespace Go.Proofs.YtmanejniepghlaaGreatDoor
section
open Go.RowKit
set_option maxRecDepth 100000
variable {b t:List UInt8} {n n1 n2 n3 v2 v3:Nat} {w:World}
def pv (p:Pin):Value:=.agg #[.string (str p.h),.bool p.s,p.x]
def pc (p:Pin):Array Value:=#[.string (str p.h),.bool p.s,p.x]
theorem SlB.from {a:Option Addr} {c:Nat} {l:List UInt8} (h:SlB w a n c l) {k:Nat} (hk:k<=n):SlB w (if c=k then a else a.map (·.add k)) (n - k) (c - k) (l.drop k):=by
 obtain⟨hl,hn,hc,h0,h1⟩:=h
 refine⟨by simp;omega,by omega,by omega,fun e=>?_,fun x hx i hi=>?_⟩
 ·have:a=none:=by
   split at e
   ·exact e
   ·cases a with
   |none=>rfl
   |some y=>cases e
  obtain⟨e1,e2⟩:=h0 this
  simp [e1,e2]
 ·have hi':k+i < l.length:=by simp at hi;omega
  cases a with
 |none=>split at hx <;> cases hx
 |some y =>
   obtain⟨hs,hb,hcl⟩:=h1 y rfl (k+i) hi'
   have:x=(y.block (y.off+k)):=by
    split at hx
    ·exfalso;omega
    ·obtain⟨yb,yo,ys⟩:=y
     simp only at hs;subst hs
     cases hx;unfold Addr.add;split <;> simp_all
   subst this
   refine⟨rfl,hb,?_⟩
   simp only [Nat.add_assoc]
   rw [hcl];simp
theorem za_g {ops:Array Oper} {rest:List Oper} {o:Oper} {ac:Act} {Q:Exit->Act->World->Prop} (hg:o.guard=none) (x y:Operand) (hop:o.op=Op.slice 70 x (some y) none none)
 {a:Option Addr} {n c:Nat} {l:List UInt8} (hx:ac.eval x=.slice a n c) (m:Nat) (M:Int) (hM:M=(m:Int)) (hy:ac.eval y=.int .i64 M) (h:SlB w a n c l) (hm:m<=n)
 (hK:∀ a2,SlB w a2 (n - m) (c - m) (l.drop m)->wpList Tryz.prog ops Q rest (ac.put o.dst (.slice a2 (n - m) (c - m))) w):wpList Tryz.prog ops Q (o :: rest) ac w:=by
 subst hM
 have hrun:(Instr.sliceAt 70 (.slice a n c) (some (m:Value)) none none).run Tryz.prog w=.ok (.slice (if c=m then a else a.map (·.add m)) (n - m) (c - m)) w:=by
  have e1:=run_sliceAt_slice (P:=Tryz.prog) (w:=w) 70 (.slice a n c) (some (m:Value)) none none Tryz.underlying70
  have e2:=run_slice_l (P:=Tryz.prog) (w:=w) 70 a n c Tryz.underlying70 .i64 (m:Int) (by omega) (by omega)
  rw [e1,e2]
  simp [go_sem,sliced]
 refine wpList_plain hg fun K hK'=>?_
 unfold Oper.wp
 simp [execOp,hop,hx,hy,hrun,Result.andThen]
 exact hK' _ _ (hK _ (h.from hm))
namespace Pin
theorem valid_of {p:Pin} {b:Bool} (h:Host.name p.h=b):valid p=(b && (decide (0<=p.x) && decide (p.x<=1099511627776))):=by unfold valid;rw [h]
end Pin
set_option maxHeartbeats 2000000 in
theorem zd_i (β:Bool) (p:Pin) (hp:p.h.length<=1000000) (w:World) :
 Calls Tryz.prog (cond β 151 118) #[pv p] w fun e w'=>e=.returned (.bool (Pin.valid p))/\Below w.heap.size w w':=by
 have HQ:=Mk.mk β
 cases β <;> dsimp only [cond]
 all_goals
  first|(replace HQ:Mk true:=HQ;have HV:=zH (fun W=>zc_i p.h hp W))|have HV:=zH (fun W=>zb_s p.h hp W)
  have hb0:=(Below.refl w.heap.size w).alloc (zN _) (.cells (pc p) 34)
  have hrow:(w.alloc (.cells (pc p) 34)).heap[w.heap.size]?=some (.cells (pc p) 34 (0,0)):=za_b _ _ _ rfl
  have hz0:(w.alloc (.cells (pc p) 34)).heap.size=w.heap.size+1:=by simp
  have HPV:=zH (fun b (h:Host.name p.h=b)=>Pin.valid_of h)
  obtain⟨ph,ps,px⟩:=p
  unfold pv
  unfold pc at hb0 hrow hz0
  simp only at HV hb0 hrow hz0 HPV ⊢
  obtain⟨nb,hnb⟩:∃ b,Host.name ph=b:=⟨_,rfl⟩
  rw [hnb] at HV
  have HPV2:=zH (HPV.out _ hnb)
  clear HPV hnb
  obtain⟨sh,hsh⟩:∃ s,str ph=s:=⟨_,rfl⟩
  rw [hsh] at HV hb0 hrow hz0 ⊢
  have HB0:=zH (And.intro hb0 (And.intro hrow hz0))
  clear hsh hb0 hrow hz0
  cases nb with
 |false =>
   first|(go_at_call 151;go_enter Tryz.func151,Tryz.ntmps151)|go_enter Tryz.func118,Tryz.ntmps118
   go_wp2_with fail
   refine (HV.out _).mono ?_;rintro e w1 ⟨rfl,hB1⟩
   rw [HB0.out.2.2] at hB1
   go_wp2_with fail
   go_ret
   exact⟨by rw [HPV2.out];rfl,HB0.out.1.trans (hB1.mono (Nat.le_succ _))⟩
 |true =>
   by_cases h0:px < 0
   case' pos=>
    have HF:=zH (show Pin.valid ⟨ph,ps,px⟩=false by rw [HPV2.out,decide_eq_false (show ¬ 0<=px by omega)];rfl)
    have t1:¬ 0<=px:=by omega
   case' neg=>
    have t1:0<=px:=by omega
    have HF:=zH (show Pin.valid ⟨ph,ps,px⟩=decide (px<=1099511627776) by rw [HPV2.out,decide_eq_true t1];rfl)
   all_goals
    first|(go_at_call 151;go_enter Tryz.func151,Tryz.ntmps151)|go_enter Tryz.func118,Tryz.ntmps118
    go_wp2_with fail
    refine (HV.out _).mono ?_;rintro e w1 ⟨rfl,hB1⟩
    rw [HB0.out.2.2] at hB1
    have c2:w1.cell? (w.heap.size 2)=some (px:Value):=(hB1.cell (p:=(w.heap.size 2)) (Nat.lt_succ_self _)).trans ((cell_of_row _ _ _ _ _ _ HB0.out.2.1).trans rfl)
    go_wp2_with fail
    go_ret
    exact⟨by rw [HF.out];rfl,HB0.out.1.trans (hB1.mono (Nat.le_succ _))⟩
theorem zb_h (a:Option Addr) (n c:Nat) (l:List UInt8) (x:Nat) (z:Int) (hz:z=(x:Int)) (hx:x < 18446744073709551616) (w:World) (h:SlB w a n c l) (hn:n<=1000000) :
 Calls Tryz.prog 102 #[.slice a n c,.int .u64 z] w fun e w'=>∃ v,e=.returned v/\OwnB w.heap.size w' v (l ++ Wire.enc x)/\Below w.heap.size w w':=by
 subst hz;exact zd_p a n c l x hx w h (by omega)
def PEncP (p:Pin) (w:World) (e:Ending) (w':World):Prop:=∃ v,e=.returned (.tuple #[v,.int .i64 (if Pin.valid p then 0 else 1)])/\OwnB w.heap.size w' v (if Pin.valid p then Pin.enc p else [])/\Below w.heap.size w w'
set_option maxHeartbeats 4000000 in
theorem zi_m (p:Pin) (hp:p.h.length<=900) (w:World) :
 Calls Tryz.prog 103 #[pv p] w (PEncP p w):=by
 have HV:=zH (fun W=>zd_i true p (by omega) W)
 have hb0:=(Below.refl w.heap.size w).alloc (zN _) (.cells (pc p) 34)
 have hrow:(w.alloc (.cells (pc p) 34)).heap[w.heap.size]?=some (.cells (pc p) 34 (0,0)):=za_b _ _ _ rfl
 have hz0:(w.alloc (.cells (pc p) 34)).heap.size=w.heap.size+1:=by simp
 have HVI:=zH ((Pin.valid_iff p).1)
 have HTX:=zH (fun W=>zd_o none 0 0 [] p.h (by omega) W (by exact⟨rfl,zN _,by unfold maxLen;omega,fun _=>⟨rfl,rfl⟩,fun x hx=>by cases hx⟩) (by omega))
 have HEN:=zH (show Pin.enc p=Wire.txt p.h ++ (Wire.enc (if p.s then 1 else 0) ++ Wire.enc p.x.toNat) from rfl)
 have HTL:=zH (show (Wire.txt p.h).length<=1000 by
  have:=Wire.enc_len (v:=p.h.length) (by omega);unfold Wire.txt;rw [List.length_append];omega)
 unfold PEncP
 obtain⟨ok,hok⟩:∃ b,Pin.valid p=b:=⟨_,rfl⟩
 rw [hok] at HV HVI ⊢
 clear hok
 obtain⟨ph,ps,px⟩:=p
 unfold pv at HV ⊢
 unfold pc at hb0 hrow hz0
 simp only at HV hb0 hrow hz0 HVI HTX HEN HTL ⊢
 obtain⟨sh,hsh⟩:∃ s,str ph=s:=⟨_,rfl⟩
 rw [hsh] at HV hb0 hrow hz0 HTX ⊢
 have HB0:=zH (And.intro hb0 (And.intro hrow hz0))
 clear hsh hb0 hrow hz0
 cases ok with
|false =>
  go_enter Tryz.func103,Tryz.ntmps103
  go_wp2_with fail
  refine (HV.out _).mono ?_;rintro e w1 ⟨rfl,hB1⟩
  rw [HB0.out.2.2] at hB1
  go_wp2_with fail
  go_ret2
  exact⟨_,rfl,OwnB.nil _ _,HB0.out.1.trans (hB1.mono (Nat.le_succ _))⟩
|true =>
  obtain⟨-,x0,x1⟩:=HVI.out rfl
  have wx:IntKind.u64.wrap px=((px.toNat:Nat):Int):=by unfold IntKind.wrap;simp only [IntKind.bits,IntKind.signed];simp;omega
  go_enter Tryz.func103,Tryz.ntmps103
  go_wp2_with fail
  refine (HV.out _).mono ?_;rintro e w1 ⟨rfl,hB1⟩
  rw [HB0.out.2.2] at hB1
  have hB01:=HB0.out.1.trans (hB1.mono (Nat.le_succ _))
  have hlt1:w.heap.size < w1.heap.size:=by have:=hB1.size;rw [HB0.out.2.2] at this;omega
  have hcs:∀ w',Below w1.heap.size w1 w'->w'.cell? w.heap.size=some (.string sh)/\w'.cell? (w.heap.size 1)=some (.bool ps)/\w'.cell? (w.heap.size 2)=some (px:Value):=by
   intro w' hb
   have hbk:w'.heap[w.heap.size]?=some (.cells #[.string sh,.bool ps,px] 34 (0,0)):=(hb.block _ hlt1).trans ((hB1.block _ (Nat.lt_succ_self _)).trans HB0.out.2.1)
   exact⟨(cell_of_row _ _ _ _ _ _ hbk).trans rfl,(cell_of_row _ _ _ _ _ _ hbk).trans rfl,(cell_of_row _ _ _ _ _ _ hbk).trans rfl⟩
  obtain⟨c0,c1,c2⟩:=hcs w1 (Below.refl _ _)
  have HCS:=zH (fun w' hb=>(hcs w' hb).1)
  have HCS2:=zH (fun w' hb=>(hcs w' hb).2.2)
  clear hcs
  have HSU:=zH (show (Wire.enc (if ps then 1 else 0)).length<=10 from (Wire.enc_len (v:=if ps then 1 else 0) (by split <;> omega)).2)
  obtain⟨sub,hsub⟩:∃ sub:Nat,(if ps then 1 else 0)=sub:=⟨_,rfl⟩
  rw [hsub] at HEN HSU
  have hsb:sub < 18446744073709551616:=by rw [<-hsub];split <;> decide
  have HSB:=zH (And.intro hsub hsb)
  clear hsub hsb
  cases ps
  all_goals
   go_wp2_with fail
   go_region_held3 (fun w'=>w'.cell? w.heap.size=some (.string sh)/\w'.cell? (w.heap.size 2)=some (px:Value)) (first|exact⟨c0,c2⟩|exact⟨HCS.out _ hD3,HCS2.out _ hD3⟩|exact⟨HCS.out _ hD2,HCS2.out _ hD2⟩|exact⟨HCS.out _ hD1,HCS2.out _ hD1⟩) (first
   |(go_at_call 123;go_must (refine (HTX.out _).mono ?_);rintro e y1 ⟨v1,rfl,hO1,hb1⟩;have hD1:Below w1.heap.size w1 y1:=(Below.drew (Below.refl _ _)).trans hb1;rw [List.nil_append] at hO1;obtain⟨a1,k1,rfl,hs1,-⟩:=hO1.sl)
   |(go_at_call_of 102 (Value.slice a1 (Wire.txt ph).length k1);go_must (refine (zb_h _ _ _ _ sub _ (by rw [<-HSB.out.1];rfl) HSB.out.2 _ hs1 (by have:=HTL.out;omega)).mono ?_);rintro e y2 ⟨v2,rfl,hO2,hb2⟩;have hD2:Below w1.heap.size w1 y2:=hD1.trans (hb2.mono hD1.size);obtain⟨a2,k2,rfl,hs2,-⟩:=hO2.sl;obtain⟨L2,hL2⟩:∃ n,(Wire.txt ph ++ Wire.enc sub).length=n:=⟨_,rfl⟩;rw [hL2] at hs2 ⊢;have hL2b:L2<=1000000:=(by have:=HTL.out;have:=HSU.out;rw [List.length_append] at hL2;omega);clear hL2)
   |(go_at_call_of 102 (Value.slice a2 L2 k2);go_must (refine (zb_h _ _ _ _ px.toNat _ (by first|exact wx|rfl|omega) (by omega) _ hs2 hL2b).mono ?_);rintro e y3 ⟨v3,rfl,hO3,hb3⟩;have hD3:Below w1.heap.size w1 y3:=hD2.trans (hb3.mono hD2.size)))
   go_wp2_with fail
   go_ret2
   have h9:=hO3.mono (Nat.le_trans hB01.size hD2.size)
   rw [List.append_assoc,<-HEN.out] at h9
   exact⟨_,rfl,h9,hB01.trans (hD3.mono hB01.size)⟩
def PDecP (b:List UInt8) (w:World) (e:Ending) (w':World):Prop:=e=.returned (.tuple #[pv (Pin.dec b).1,.int .i64 ((Pin.dec b).2.1:Nat),.int .i64 (Pin.dec b).2.2])/\Below w.heap.size w w'
theorem PDecP.of {q:Pin} {z:Int} (h:Pin.dec b=(q,n,z)) {e:Ending} {w':World} (he:e=.returned (.tuple #[.agg (pc q),n,z])) (hb:Below w.heap.size w w'):PDecP b w e w':=by
 unfold PDecP;rw [h];exact⟨he,hb⟩
namespace Pin
theorem dec_a {z1:Int} (h1:Wire.decT b=(t,n1,z1)) (hz:z1 ≠ 0):dec b=(none,0,z1):=by unfold dec;rw [h1];rw [if_pos hz]
theorem dec_b {z2:Int} (h1:Wire.decT b=(t,n1,0)) (h2:Wire.dec (b.drop n1)=(v2,n2,z2)) (hz:z2 ≠ 0):dec b=(none,0,z2):=by
 unfold dec;rw [h1];rw [if_neg (by simp)];unfold decR;rw [h2];rw [if_pos hz]
theorem dec_c (h1:Wire.decT b=(t,n1,0)) (h2:Wire.dec (b.drop n1)=(v2,n2,0)) (hz:1 < v2):dec b=(none,0,6):=by
 unfold dec;rw [h1];rw [if_neg (by simp)];unfold decR;rw [h2];rw [if_neg (by simp),if_pos hz]
theorem dec_d {z3:Int} (h1:Wire.decT b=(t,n1,0)) (h2:Wire.dec (b.drop n1)=(v2,n2,0)) (hv:¬ 1 < v2) (h3:Wire.dec (b.drop (n1+n2))=(v3,n3,z3)) (hz:z3 ≠ 0):dec b=(none,0,z3):=by
 unfold dec;rw [h1];rw [if_neg (by simp)];unfold decR;rw [h2];rw [if_neg (by simp),if_neg hv];dsimp only;rw [h3];rw [if_pos hz]
theorem dec_e (h1:Wire.decT b=(t,n1,0)) (h2:Wire.dec (b.drop n1)=(v2,n2,0)) (hv:¬ 1 < v2) (h3:Wire.dec (b.drop (n1+n2))=(v3,n3,0)) (hz:1099511627776 < v3):dec b=(none,0,2):=by
 unfold dec;rw [h1];rw [if_neg (by simp)];unfold decR;rw [h2];rw [if_neg (by simp),if_neg hv];dsimp only;rw [h3];rw [if_neg (by simp),if_pos hz]
theorem dec_f (h1:Wire.decT b=(t,n1,0)) (h2:Wire.dec (b.drop n1)=(v2,n2,0)) (hv:¬ 1 < v2) (h3:Wire.dec (b.drop (n1+n2))=(v3,n3,0)) (hz:¬ 1099511627776 < v3) (hn:Host.name t=false):dec b=(none,0,14):=by
 unfold dec;rw [h1];rw [if_neg (by simp)];unfold decR;rw [h2];rw [if_neg (by simp),if_neg hv];dsimp only;rw [h3];rw [if_neg (by simp),if_neg hz,if_pos hn]
theorem dec_g (h1:Wire.decT b=(t,n1,0)) (h2:Wire.dec (b.drop n1)=(v2,n2,0)) (hv:¬ 1 < v2) (h3:Wire.dec (b.drop (n1+n2))=(v3,n3,0)) (hz:¬ 1099511627776 < v3) (hn:Host.name t=true):dec b=(⟨t,decide (v2=1),(v3:Int)⟩,n1+n2+n3,0):=by
 unfold dec;rw [h1];rw [if_neg (by simp)];unfold decR;rw [h2];rw [if_neg (by simp),if_neg hv];dsimp only;rw [h3];rw [if_neg (by simp),if_neg hz,if_neg (by simp [hn])]
end Pin
end
section
open Go.RowKit
theorem set3 {w:World} {B:Nat} {x y z:Value} {t:TypeId} (hb:w.heap[B]?=some (.cells #[x,y,z] t (0,0))) (a b c:Value) :
 (((w.setCell B a).setCell (B 1) b).setCell (B 2) c).heap[B]?=some (.cells #[a,b,c] t (0,0)) :=
 heap_setCell_same _ B 2 _ t c (heap_setCell_same _ B 1 _ t b (heap_setCell_same w B 0 _ t a hb))
end
section
open Go.RowKit
variable {w w':World} {l:List Pin} {b base c k n:Nat} {v:Value} {a:Option Addr}
def pl (p:Pin):List Value:=[.string (str p.h),.bool p.s,p.x]
def PinAt (w:World) (b o:Nat) (p:Pin):Prop:=w.cell? (b o)=some (.string (str p.h))/\w.cell? (b (o+1))=some (.bool p.s)/\w.cell? (b (o+2))=some (p.x:Value)
def SlN (w:World) (a:Option Addr) (n c:Nat) (l:List Pin):Prop :=
 l.length=n/\n<=c/\c<=maxLen/\(a=none->l=[]/\c=0) ∧
  ∀ x,a=some x->∀ i (h:i < l.length),x.spot=none/\x.block < w.heap.size/\PinAt w x.block (x.off+i * 3) l[i]
theorem SlN.len (h:SlN w a n c l):l.length=n:=h.1
theorem SlN.le (h:SlN w a n c l):n<=9223372036854775807:=by
 have:=h.2.1;have:=h.2.2.1;unfold maxLen at *;omega
theorem SlN.nil (w:World):SlN w none 0 0 []:=⟨rfl,zN _,by unfold maxLen;omega,fun _=>⟨rfl,rfl⟩,fun x hx=>by cases hx⟩
theorem SlN.at (h:SlN w a n c l) (hk:k < n) :
 ∃ b o,a=some ((b:Nat) o)/\b < w.heap.size/\k < l.length/\PinAt w b (o+k * 3) (l[k]?.getD Pin.none):=by
 obtain⟨hl,hn,hc,h0,h1⟩:=h
 cases a with
|none=>have:=(h0 rfl).1;subst this;simp at hl;omega
|some x =>
  obtain⟨b,o,sp⟩:=x
  have hk':k < l.length:=by omega
  obtain⟨hs,hb,hi⟩:=h1 _ rfl k hk'
  simp only at hs;subst hs
  refine⟨b,o,rfl,hb,hk',?_⟩
  rw [List.getElem?_eq_getElem hk']
  exact hi
theorem PinAt.stay {o:Nat} {p:Pin} (h:PinAt w b o p) (e:w'.heap[b]?=w.heap[b]?):PinAt w' b o p :=
 ⟨(World.cell?_of_block (a:=(b o)) e).trans h.1,(World.cell?_of_block (a:=(b (o+1))) e).trans h.2.1,(World.cell?_of_block (a:=(b (o+2))) e).trans h.2.2⟩
theorem SlN.stay (h:SlN w a n c l) (e:∀ x,a=some x->l ≠ []->w'.heap[x.block]?=w.heap[x.block]?) (hz:w.heap.size<=w'.heap.size):SlN w' a n c l:=by
 obtain⟨hl,hn,hc,h0,h1⟩:=h
 refine⟨hl,hn,hc,h0,fun x hx i hi=>?_⟩
 obtain⟨hs,hb,hi1⟩:=h1 x hx i hi
 exact⟨hs,Nat.lt_of_lt_of_le hb hz,hi1.stay (e x hx (by rintro rfl;simp at hi))⟩
theorem SlN.ext (h:SlN w a n c l) (e:Below w.heap.size w w'):SlN w' a n c l :=
 h.stay (fun x hx hl=>e.block _ ((h.2.2.2.2 x hx 0 (List.length_pos_iff.2 hl)).2.1)) e.size
theorem SlN.take (h:SlN w a n c l) (hk:k<=n):SlN w a k c (l.take k):=by
 obtain⟨hl,hn,hc,h0,h1⟩:=h
 refine⟨by simp;omega,by omega,hc,fun e=>by simp [h0 e],fun x hx i hi=>?_⟩
 have hi':i < l.length:=by simp at hi;omega
 obtain⟨hs,hb,hcl⟩:=h1 x hx i hi'
 exact⟨hs,hb,by rw [List.getElem_take];exact hcl⟩
theorem za_f (l:List Pin):(l.flatMap pl).length=l.length * 3:=by
 induction l with
|nil=>rfl
|cons a l ih=>simp [pl,ih];omega
theorem zc_y (l:List Pin) (i:Nat) (hi:i < l.length):(l.flatMap pl)[i * 3]?=some (.string (str l[i].h))/\(l.flatMap pl)[i * 3+1]?=some (.bool l[i].s)/\(l.flatMap pl)[i * 3+2]?=some (.int .i64 l[i].x):=by
 induction l generalizing i with
|nil=>simp at hi
|cons a l ih =>
  cases i with
 |zero=>exact⟨rfl,rfl,rfl⟩
 |succ i =>
   have:=ih i (by simpa using hi)
   rw [List.flatMap_cons,show (i+1) * 3=(i * 3)+3 by omega]
   simpa [pl] using this
def OwnN (base:Nat) (w:World) (v:Value) (l:List Pin):Prop:=w.ownsRow base 34 3 v l.length (l.flatMap pl)
theorem OwnN.sl (h:OwnN base w v l):∃ a c,v=.slice a l.length c/\SlN w a l.length c l/\∀ x,a=some x->base<=x.block/\x.block < w.heap.size:=by
 rcases id h.2 with⟨hv,hn⟩|⟨g,cap,cur,hv,hg,hc,hnc,hcm,hcs,htake⟩
 ·have hl:l=[]:=List.eq_nil_of_length_eq_zero hn
  subst hl
  exact⟨none,0,hv,SlN.nil w,fun x hx=>by cases hx⟩
 ·refine⟨.some g,cap,hv,⟨rfl,hnc,hcm,(fun h=>by cases h),fun x hx i hi=>?_⟩,fun x hx=>by cases hx;exact⟨hg,za_a hc⟩⟩
  cases hx
  have hcell:∀ j,j < l.length * 3->w.cell? (g j)=(l.flatMap pl)[j]?:=by
   intro j hj
   rw [cell_of_row _ _ _ _ _ _ hc,<-htake,List.getElem?_take_of_lt hj];simp
  obtain⟨h1,h2,h3⟩:=zc_y l i hi
  refine⟨rfl,za_a hc,?_,?_,?_⟩
  ·simp only [Nat.zero_add];rw [hcell _ (by omega),h1]
  ·simp only [Nat.zero_add];rw [hcell _ (by omega),h2]
  ·simp only [Nat.zero_add];rw [hcell _ (by omega),h3]
theorem OwnN.lt (h:OwnN base w v l):∀ k,v.ownBlock=some k->base<=k/\k < w.heap.size:=World.ownsRow.lt h
theorem OwnN.ext (h:OwnN base w v l) (e:Below w.heap.size w w'):OwnN base w' v l:=by
 refine⟨h.1,?_⟩
 rcases h.2 with hn|⟨g,cap,cur,rfl,hb,hgg,rest⟩
 ·exact .inl hn
 ·exact .inr ⟨g,cap,cur,rfl,hb,(e.block g (Array.getElem?_eq_some_iff.1 hgg).1).trans hgg,rest⟩
theorem OwnN.stay (h:OwnN base w v l) (e:∀ k,v.ownBlock=some k->w'.heap[k]?=w.heap[k]?):OwnN base w' v l:=by
 refine⟨h.1,?_⟩
 rcases h.2 with hn|⟨g,cap,cur,rfl,hb,hgg,rest⟩
 ·exact .inl hn
 ·exact .inr ⟨g,cap,cur,rfl,hb,(e g rfl).trans hgg,rest⟩
theorem OwnN.mono {b':Nat} (h:OwnN b w v l) (hb:b'<=b):OwnN b' w v l:=by
 refine⟨h.1,?_⟩
 rcases h.2 with hn|⟨g,cap,cur,rfl,hbg,rest⟩
 ·exact .inl hn
 ·exact .inr ⟨g,cap,cur,rfl,Nat.le_trans hb hbg,rest⟩
theorem OwnN.alloc (h:OwnN base w v l) (o:Obj):OwnN base (w.alloc o) v l:=World.ownsRow.alloc h o
theorem OwnN.nil (base:Nat) (w:World):OwnN base w (.slice none 0 0) []:=⟨rfl,.inl ⟨rfl,rfl⟩⟩
theorem OwnN.empty (w:World) (hb:base<=w.heap.size):OwnN base (w.alloc (.cells #[] 34)) (.slice w.heap.size 0 0) [] :=
 ⟨rfl,.inr ⟨w.heap.size,0,#[],rfl,hb,za_b _ _ _ rfl,zN _,by unfold maxLen;omega,rfl,rfl⟩⟩
theorem SlN.one (w:World) (p:Pin) (t:TypeId):SlN (w.alloc (.cells #[.string (str p.h),.bool p.s,p.x] t)) w.heap.size 1 1 [p]:=by
 refine⟨rfl,zN _,by unfold maxLen;omega,(fun h=>by cases h),fun x hx i hi=>?_⟩
 cases hx
 obtain rfl:i=0:=by simpa using hi
 refine⟨rfl,by simp,?_,?_,?_⟩ <;> (rw [World.cell?_alloc_at _ _ _ _ rfl];rfl)
theorem infoPin:(Tryz.prog.info? 34).map (fun i=>(i.zero,i.size,i.bytes))=some (some (.agg #[.string ⟨#[]⟩,.bool false,.int .i64 0]),3,32):=by kernel_rfl
theorem zb_d {ops:Array Oper} {rest:List Oper} {o:Oper} {a:Act} {Q:Exit->Act->World->Prop} (hgd:o.guard=none) (s x:Operand)
 (ho:o.op=.call { callee:=.builtin .append,args:=#[s,x],argTypes:=#[42,42] })
 (base:Nat) (v:Value) (l:List Pin) (hs:a.eval s=v) (hown:OwnN base w v l) (b:Option Addr) (m c:Nat) (l2:List Pin) (hx:a.eval x=.slice b m c) (hsl:SlN w b m c l2)
 (hlen:l.length+m<=1000000000) (hbase:base<=w.heap.size)
 (h:∀ v' w',OwnN base w' v' (l ++ l2)->w.grownBy w' v.ownBlock->wpList Tryz.prog ops Q rest (a.put o.dst v') w'):wpList Tryz.prog ops Q (o :: rest) a w:=by
 obtain⟨i0,hi,hz0,hz1,hz2⟩:=info_parts infoPin
 cases b with
|none =>
  obtain⟨rfl,rfl⟩:=hsl.2.2.2.1 rfl
  obtain rfl:m=0:=hsl.1.symm
  refine wpList_append_own_none hgd s x 42 ho base 34 i0 3 Tryz.underlying42 hi v l.length _ hs hown hx ?_
  exact h v w (by simpa using hown) ⟨rfl,rfl,rfl,zN _,fun _ _ _=>rfl⟩
|some ad =>
  have hl2:=hsl.len
  refine wpList_append_own w hgd s x 42 ho base 34 i0 _ 3 32 Tryz.underlying42 hi hz0 hz1 hz2 rfl (by decide) v l.length _ hs hown ad m c (l2.flatMap pl) hx (by rw [za_f,hl2]) ?_ ?_ (by unfold maxLen;omega) (by omega) hbase ?_
  ·intro j u hj
   have hjl:j < l2.length * 3:=by
    have:=(List.getElem?_eq_some_iff.1 hj).1;rwa [za_f] at this
   have hi2:j / 3 < l2.length:=by omega
   obtain⟨hsp,hb,c1,c2,c3⟩:=hsl.2.2.2.2 ad rfl (j / 3) hi2
   obtain⟨g1,g2,g3⟩:=zc_y l2 (j / 3) hi2
   have hadd:ad.add j=(ad.block (ad.off+j)):=by
    obtain⟨b,o,sp⟩:=ad;simp only at hsp;subst hsp;unfold Addr.add;split <;> simp_all
   rw [hadd]
   have h3:j % 3=0\/j % 3=1\/j % 3=2:=by omega
   rcases h3 with h0|h0|h0
   ·have e:j / 3 * 3=j:=by omega
    rw [e] at c1 g1
    rw [c1,<-hj,g1]
   ·have e:j / 3 * 3+1=j:=by omega
    rw [Nat.add_assoc,e] at c2
    rw [e] at g2
    rw [c2,<-hj,g2]
   ·have e:j / 3 * 3+2=j:=by omega
    rw [Nat.add_assoc,e] at c3
    rw [e] at g3
    rw [c3,<-hj,g3]
  ·intro u hu
   obtain⟨p,_,hp⟩:=List.mem_flatMap.1 hu
   simp [pl] at hp
   rcases hp with rfl|rfl|rfl <;> rfl
  ·intro v' w' h1 h2 _
   refine h v' w' ?_ h2
   unfold OwnN;rw [List.length_append,List.flatMap_append,hl2];exact h1
theorem zh_m (a:Option Addr) (n c:Nat) (l:List Pin) (w:World) (h:SlN w a n c l) (hn:n<=1000000) :
 Calls Tryz.prog 161 #[.slice a n c] w fun e w'=>∃ v,e=.returned v/\OwnN w.heap.size w' v l/\Below w.heap.size w w':=by
 cases a with
|none =>
  obtain⟨rfl,rfl⟩:=h.2.2.2.1 rfl
  obtain rfl:n=0:=h.1.symm
  have hnil:=fun (w:World)=>Lib.run_eql_slice_nil (P:=Tryz.prog) w 42 34 none 0 0 0 0 Tryz.underlying42
  go_enter Tryz.func161,Tryz.ntmps161
  go_wp2
  go_ret
  exact⟨_,rfl,OwnN.nil _ _,Below.refl _ _⟩
|some ad =>
  have h2:SlN (w.alloc (.cells #[] 34)) (some ad) n c l:=h.ext ((Below.refl _ _).alloc (zN _) _)
  have hnil:=fun (w:World)=>Lib.run_eql_slice_nil (P:=Tryz.prog) w 42 34 (some ad) n c 0 0 Tryz.underlying42
  go_enter Tryz.func161,Tryz.ntmps161
  go_wp2_with (at_builtin;refine zb_d rfl _ _ rfl w.heap.size _ [] rfl (OwnN.empty w (zN _)) (some ad) n c l rfl h2 (by simp;omega) (by simp) ?_;intro v w1 hown hg)
  go_ret
  exact⟨v,rfl,hown,((Below.refl _ _).alloc (zN _) _).grown hg (by simp) (fun k hk=>by cases hk;exact zN _)⟩
end
section
open Go.RowKit
variable {a:Option Addr} {k n:Nat}
structure Fp (A:(Nat->Prop)->World->Prop):Prop where
 stay:∀ {F:Nat->Prop} {w w':World},A F w->(∀ b,F b->w'.heap[b]?=w.heap[b]?)->w.heap.size<=w'.heap.size->A F w'
 lt:∀ {F:Nat->Prop} {w:World},A F w->∀ k,F k->k < w.heap.size
theorem Fp.ext {A:(Nat->Prop)->World->Prop} (h:Fp A) {F:Nat->Prop} {w w':World} (a:A F w) (e:Below w.heap.size w w'):A F w':=h.stay a (fun b hb=>e.block b (h.lt a b hb)) e.size
section
variable {W:World} {A B A' B':(Nat->Prop)->World->Prop} {F G F' G':Nat->Prop} {w w':World}
end
section
variable {F F':Nat->Prop} {w w':World} {v:Value} {c:Int} {L:List Pin}
theorem SlN.blt' (h:SlN w a n k L) {x:Addr} (hx:a=some x) (hl:L ≠ []):x.block < w.heap.size:=(h.2.2.2.2 x hx 0 (List.length_pos_iff.2 hl)).2.1
theorem SlN.upd (h:SlN w a n k L) (u:Upd F w F' w') (hF:∀ x,a=some x->L ≠ []->¬ F x.block):SlN w' a n k L :=
 h.stay (fun x hx hl=>u.block x.block (h.blt' hx hl) (hF x hx hl)) u.size
end
end
section
open Go.RowKit
set_option linter.unusedSimpArgs false in
set_option maxRecDepth 100000 in
set_option maxHeartbeats 8000000 in
theorem zd_h (β:Bool) (a:Option Addr) (n c:Nat) (b:List UInt8) (w:World) (h:SlB w a n c b) (hn:n<=1000000) :
 Calls Tryz.prog (cond β 159 136) #[.slice a n c] w (PDecP b w):=by
 have P0:=zH (@zk_o β)
 have HQ:=Mk.mk β
 cases β <;> dsimp only [cond]
 all_goals
  have hb0:=(Below.refl w.heap.size w).alloc (zN _) (.cells #[.string ⟨#[]⟩,.bool false,.int .i64 0] 34)
  have hz0:(w.alloc (.cells #[.string ⟨#[]⟩,.bool false,.int .i64 0] 34)).heap.size=w.heap.size+1:=by simp
  have HROW:=zH (show (w.alloc (.cells #[.string ⟨#[]⟩,.bool false,.int .i64 0] 34)).heap[w.heap.size]?=some (.cells #[.string ⟨#[]⟩,.bool false,.int .i64 0] 34 (0,0)) from za_b _ _ _ rfl)
  have hsb:=h.ext ((Below.refl w.heap.size w).alloc (zN _) (.cells #[.string ⟨#[]⟩,.bool false,.int .i64 0] 34))
  have HB0:=zH hb0
  have HZ0:=zH hz0
  have hT:=P0.out a n c b _ hsb hn
  have hln:=h.len
  obtain⟨t,n1,z1,h1⟩:∃ t n1 z1,Wire.decT b=(t,n1,z1):=⟨_,_,_,rfl⟩
  rw [h1] at hT
  dsimp only at hT
  have HTX:=zH (show ∃ s,str t=s from ⟨_,rfl⟩)
  obtain⟨st,hst⟩:=HTX.out
  have HSX:=zH hst
  rw [hst] at hT
  have HT:=zH hT
  clear hT hb0 hz0 h
  by_cases e1:z1 ≠ 0
  ·have HR:=zH (Pin.dec_a h1 e1)
   have t1:(z1 != 0)=true:=by simpa using e1
   clear h1 e1 hln hst hsb
   first|(go_at_call 159;go_enter Tryz.func159,Tryz.ntmps159)|go_enter Tryz.func136,Tryz.ntmps136
   go_wp2_with fail
   refine HT.out.mono ?_;rintro e w1 ⟨rfl,rfl⟩
   go_wp2_with fail
   refine bodyPost_ret (v:=.tuple #[.agg #[.string ⟨#[]⟩,.bool false,.int .i64 0],.int .i64 (0:Nat),z1]) (by simp [results,Tryz.results159,Tryz.results136,go_sem]) rfl (PDecP.of HR.out rfl ?_)
   exact HB0.out
  obtain rfl:z1=0:=by simpa using e1
  obtain⟨-,q1,q2,q3,q4⟩:=Wire.txt_decT h1
  rw [hln] at q1
  have hn1:n1<=n:=q1
  have hl1:(b.drop n1).length=n - n1:=by rw [List.length_drop,hln]
  obtain⟨v2,n2,z2,h2⟩:∃ v2 n2 z2,Wire.dec (b.drop n1)=(v2,n2,z2):=⟨_,_,_,rfl⟩
  first
  |(replace HQ:Mk true:=HQ
    have hU1:∀ a2 c2 W,SlB W a2 (n - n1) c2 (b.drop n1)->Calls Tryz.prog 185 #[.slice a2 (n - n1) c2] W fun e w'=>e=.returned (.tuple #[.int .u64 (v2:Nat),n2,z2])/\W=w':=by
     intro a2 c2 W hs
     have:=zf_s a2 (n - n1) c2 (b.drop n1) W hs (by omega)
     rw [h2] at this;exact this)
  |have hU1:∀ a2 c2 W,SlB W a2 (n - n1) c2 (b.drop n1)->Calls Tryz.prog 135 #[.slice a2 (n - n1) c2] W fun e w'=>e=.returned (.tuple #[.int .u64 (v2:Nat),n2,z2])/\W=w':=by
    intro a2 c2 W hs
    have:=zb_y a2 (n - n1) c2 (b.drop n1) W hs (by omega)
    rw [h2] at this;exact this
  have HU1:=zH hU1
  have m1:(0:Int)<=(n1:Int):=by omega
  have m2:(n1:Int)<=(n:Int):=by omega
  clear hU1
  by_cases e2:z2 ≠ 0
  ·have HR:=zH (Pin.dec_b h1 h2 e2)
   have t2:(z2 != 0)=true:=by simpa using e2
   have k0:(n2:Int)<=1000000:=by
    have:=h2
    unfold Wire.dec at this
    split at this
    ·cases this;decide
    ·split at this
     ·cases this;decide
     ·split at this
      ·cases this;decide
      ·split at this
       ·cases this;decide
       ·cases this;exact absurd rfl e2
   have k1:(0:Int)<=(n2:Int):=by omega
   clear h1 h2 e1 e2 hln hst hl1
   first|(go_at_call 159;go_enter Tryz.func159,Tryz.ntmps159)|go_enter Tryz.func136,Tryz.ntmps136
   go_wp2_with fail
   refine HT.out.mono ?_;rintro e w1 ⟨rfl,rfl⟩
   go_wp2_with (refine za_g rfl _ _ rfl rfl n1 _ rfl rfl hsb hn1 ?_;intro a2 hsa2)
   refine (HU1.out _ _ _ hsa2).mono ?_;rintro e w2 ⟨rfl,rfl⟩
   go_wp2_with fail
   refine bodyPost_ret (v:=.tuple #[.agg #[.string ⟨#[]⟩,.bool false,.int .i64 0],.int .i64 (0:Nat),z2]) (by simp [results,Tryz.results159,Tryz.results136,go_sem]) rfl (PDecP.of HR.out rfl ?_)
   exact HB0.out
  obtain rfl:z2=0:=by simpa using e2
  obtain⟨-,r1,r2,r3,r4⟩:=Wire.enc_dec h2
  rw [hl1] at r1
  have hn12:n1+n2<=n:=by omega
  have m3:(0:Int)<=(n2:Int):=by omega
  have m4:(n1:Int)+(n2:Int)<=(n:Int):=by omega
  by_cases e3:1 < v2
  ·have HR:=zH (Pin.dec_c h1 h2 e3)
   have t3:(1:Int) < (v2:Int):=by omega
   clear h1 h2 e1 e2 hln hst hl1
   first|(go_at_call 159;go_enter Tryz.func159,Tryz.ntmps159)|go_enter Tryz.func136,Tryz.ntmps136
   go_wp2_with fail
   refine HT.out.mono ?_;rintro e w1 ⟨rfl,rfl⟩
   go_wp2_with (refine za_g rfl _ _ rfl rfl n1 _ rfl rfl hsb hn1 ?_;intro a2 hsa2)
   refine (HU1.out _ _ _ hsa2).mono ?_;rintro e w2 ⟨rfl,rfl⟩
   go_wp2_with fail
   refine bodyPost_ret (v:=.tuple #[.agg #[.string ⟨#[]⟩,.bool false,.int .i64 0],.int .i64 (0:Nat),.int .i64 6]) (by simp [results,Tryz.results159,Tryz.results136,go_sem]) rfl (PDecP.of HR.out rfl ?_)
   exact HB0.out
  have t3:¬ (1:Int) < (v2:Int):=by omega
  have hl2:(b.drop (n1+n2)).length=n - (n1+n2):=by rw [List.length_drop,hln]
  obtain⟨v3,n3,z3,h3⟩:∃ v3 n3 z3,Wire.dec (b.drop (n1+n2))=(v3,n3,z3):=⟨_,_,_,rfl⟩
  first
  |(replace HQ:Mk true:=HQ
    have hU2:∀ a2 c2 W,SlB W a2 (n - (n1+n2)) c2 (b.drop (n1+n2))->Calls Tryz.prog 185 #[.slice a2 (n - (n1+n2)) c2] W fun e w'=>e=.returned (.tuple #[.int .u64 (v3:Nat),n3,z3])/\W=w':=by
     intro a2 c2 W hs
     have:=zf_s a2 (n - (n1+n2)) c2 (b.drop (n1+n2)) W hs (by omega)
     rw [h3] at this;exact this)
  |have hU2:∀ a2 c2 W,SlB W a2 (n - (n1+n2)) c2 (b.drop (n1+n2))->Calls Tryz.prog 135 #[.slice a2 (n - (n1+n2)) c2] W fun e w'=>e=.returned (.tuple #[.int .u64 (v3:Nat),n3,z3])/\W=w':=by
    intro a2 c2 W hs
    have:=zb_y a2 (n - (n1+n2)) c2 (b.drop (n1+n2)) W hs (by omega)
    rw [h3] at this;exact this
  have HU2:=zH hU2
  clear hU2
  by_cases e4:z3 ≠ 0
  ·have HR:=zH (Pin.dec_d h1 h2 e3 h3 e4)
   have t4:(z3 != 0)=true:=by simpa using e4
   clear h1 h2 h3 e1 e2 e4 hln hst hl1 hl2
   first|(go_at_call 159;go_enter Tryz.func159,Tryz.ntmps159)|go_enter Tryz.func136,Tryz.ntmps136
   go_wp2_with fail
   refine HT.out.mono ?_;rintro e w1 ⟨rfl,rfl⟩
   go_wp2_with (refine za_g rfl _ _ rfl rfl n1 _ rfl rfl hsb hn1 ?_;intro a2 hsa2)
   refine (HU1.out _ _ _ hsa2).mono ?_;rintro e w2 ⟨rfl,rfl⟩
   go_wp2_with (refine za_g rfl _ _ rfl rfl (n1+n2) _ (by omega) rfl hsb hn12 ?_;intro a3 hsa3)
   refine (HU2.out _ _ _ hsa3).mono ?_;rintro e w3 ⟨rfl,rfl⟩
   go_wp2_with fail
   refine bodyPost_ret (v:=.tuple #[.agg #[.string ⟨#[]⟩,.bool false,.int .i64 0],.int .i64 (0:Nat),z3]) (by simp [results,Tryz.results159,Tryz.results136,go_sem]) rfl (PDecP.of HR.out rfl ?_)
   exact HB0.out
  obtain rfl:z3=0:=by simpa using e4
  obtain⟨-,s1,s2,s3,s4⟩:=Wire.enc_dec h3
  rw [hl2] at s1
  have m5:(0:Int)<=(n3:Int):=by omega
  have m6:(n1:Int)+(n2:Int)+(n3:Int)<=(n:Int):=by omega
  by_cases e5:1099511627776 < v3
  ·have HR:=zH (Pin.dec_e h1 h2 e3 h3 e5)
   have t5:(1099511627776:Int) < (v3:Int):=by omega
   clear h1 h2 h3 e1 e2 e4 hln hst hl1 hl2
   first|(go_at_call 159;go_enter Tryz.func159,Tryz.ntmps159)|go_enter Tryz.func136,Tryz.ntmps136
   go_wp2_with fail
   refine HT.out.mono ?_;rintro e w1 ⟨rfl,rfl⟩
   go_wp2_with (refine za_g rfl _ _ rfl rfl n1 _ rfl rfl hsb hn1 ?_;intro a2 hsa2)
   refine (HU1.out _ _ _ hsa2).mono ?_;rintro e w2 ⟨rfl,rfl⟩
   go_wp2_with (refine za_g rfl _ _ rfl rfl (n1+n2) _ (by omega) rfl hsb hn12 ?_;intro a3 hsa3)
   refine (HU2.out _ _ _ hsa3).mono ?_;rintro e w3 ⟨rfl,rfl⟩
   go_wp2_with fail
   refine bodyPost_ret (v:=.tuple #[.agg #[.string ⟨#[]⟩,.bool false,.int .i64 0],.int .i64 (0:Nat),.int .i64 2]) (by simp [results,Tryz.results159,Tryz.results136,go_sem]) rfl (PDecP.of HR.out rfl ?_)
   exact HB0.out
  have t5:¬ (1099511627776:Int) < (v3:Int):=by omega
  first|(replace HQ:Mk true:=HQ;have hV:=fun W=>zc_i t (by omega) W)|have hV:=fun W=>zb_s t (by omega) W
  rw [hst] at hV
  obtain⟨nb,hnb⟩:∃ b,Host.name t=b:=⟨_,rfl⟩
  rw [hnb] at hV
  have HV:=zH hV
  clear hV
  cases nb with
 |false =>
   have HR:=zH (Pin.dec_f h1 h2 e3 h3 e5 hnb)
   clear h1 h2 h3 e1 e2 e4 hln hst hl1 hl2 hnb
   first|(go_at_call 159;go_enter Tryz.func159,Tryz.ntmps159)|go_enter Tryz.func136,Tryz.ntmps136
   go_wp2_with fail
   refine HT.out.mono ?_;rintro e w1 ⟨rfl,rfl⟩
   go_wp2_with (refine za_g rfl _ _ rfl rfl n1 _ rfl rfl hsb hn1 ?_;intro a2 hsa2)
   refine (HU1.out _ _ _ hsa2).mono ?_;rintro e w2 ⟨rfl,rfl⟩
   go_wp2_with (refine za_g rfl _ _ rfl rfl (n1+n2) _ (by omega) rfl hsb hn12 ?_;intro a3 hsa3)
   refine (HU2.out _ _ _ hsa3).mono ?_;rintro e w3 ⟨rfl,rfl⟩
   go_wp2_with fail
   refine (HV.out _).mono ?_;rintro e w4 ⟨rfl,hB4⟩
   rw [HZ0.out] at hB4
   have hbk:w4.heap[w.heap.size]?=some (.cells #[.string ⟨#[]⟩,.bool false,.int .i64 0] 34 (0,0)):=(hB4.block _ (Nat.lt_succ_self _)).trans HROW.out
   have c0:w4.cell? w.heap.size=some (.string ⟨#[]⟩):=(cell_of_row _ _ _ _ _ _ hbk).trans rfl
   have c1:w4.cell? (w.heap.size 1)=some (.bool false):=(cell_of_row _ _ _ _ _ _ hbk).trans rfl
   have c2:w4.cell? (w.heap.size 2)=some (.int .i64 0):=(cell_of_row _ _ _ _ _ _ hbk).trans rfl
   have f0:∀ k,w4.frozen? (w.heap.size k)=false:=fun k=>frozen_of_row _ _ _ _ _ hbk
   have hlt4:w.heap.size < w4.heap.size:=za_a hbk
   go_wp2_with fail
   have hfin:=set3 hbk (.string ⟨#[]⟩) (.bool false) (.int .i64 0)
   have d0:=(cell_of_row _ _ 0 _ _ _ hfin).trans rfl
   have d1:=(cell_of_row _ _ 1 _ _ _ hfin).trans rfl
   have d2:=(cell_of_row _ _ 2 _ _ _ hfin).trans rfl
   have hbel:=(((HB0.out.trans (hB4.mono (Nat.le_succ _))).setCell (p:=w.heap.size) (zN _) (.string ⟨#[]⟩)).setCell (p:=(w.heap.size 1)) (zN _) (.bool false)).setCell (p:=(w.heap.size 2)) (zN _) (.int .i64 0)
   refine bodyPost_ret (v:=.tuple #[.agg #[.string ⟨#[]⟩,.bool false,.int .i64 0],.int .i64 (0:Nat),.int .i64 14]) (by simp [results,Tryz.results159,Tryz.results136,go_sem,d0,d1,d2]) rfl (PDecP.of HR.out rfl ?_)
   exact hbel
 |true =>
   have HR:=zH (Pin.dec_g h1 h2 e3 h3 e5 hnb)
   have wv:IntKind.i64.wrap (v3:Int)=(v3:Int):=by rw [IntKind.wrap_i64];omega
   clear h1 h2 h3 e1 e2 e4 hln hl1 hl2 hnb hst
   first|(go_at_call 159;go_enter Tryz.func159,Tryz.ntmps159)|go_enter Tryz.func136,Tryz.ntmps136
   go_wp2_with fail
   refine HT.out.mono ?_;rintro e w1 ⟨rfl,rfl⟩
   go_wp2_with (refine za_g rfl _ _ rfl rfl n1 _ rfl rfl hsb hn1 ?_;intro a2 hsa2)
   refine (HU1.out _ _ _ hsa2).mono ?_;rintro e w2 ⟨rfl,rfl⟩
   go_wp2_with (refine za_g rfl _ _ rfl rfl (n1+n2) _ (by omega) rfl hsb hn12 ?_;intro a3 hsa3)
   refine (HU2.out _ _ _ hsa3).mono ?_;rintro e w3 ⟨rfl,rfl⟩
   go_wp2_with fail
   refine (HV.out _).mono ?_;rintro e w4 ⟨rfl,hB4⟩
   rw [HZ0.out] at hB4
   have hbk:w4.heap[w.heap.size]?=some (.cells #[.string ⟨#[]⟩,.bool false,.int .i64 0] 34 (0,0)):=(hB4.block _ (Nat.lt_succ_self _)).trans HROW.out
   have c0:w4.cell? w.heap.size=some (.string ⟨#[]⟩):=(cell_of_row _ _ _ _ _ _ hbk).trans rfl
   have c1:w4.cell? (w.heap.size 1)=some (.bool false):=(cell_of_row _ _ _ _ _ _ hbk).trans rfl
   have c2:w4.cell? (w.heap.size 2)=some (.int .i64 0):=(cell_of_row _ _ _ _ _ _ hbk).trans rfl
   have f0:∀ k,w4.frozen? (w.heap.size k)=false:=fun k=>frozen_of_row _ _ _ _ _ hbk
   have hlt4:w.heap.size < w4.heap.size:=za_a hbk
   go_wp2_with fail
   have hfin:=set3 hbk (.string st) (.bool ((v2:Int) == 1)) (v3:Value)
   have d0:=(cell_of_row _ _ 0 _ _ _ hfin).trans rfl
   have d1:=(cell_of_row _ _ 1 _ _ _ hfin).trans rfl
   have d2:=(cell_of_row _ _ 2 _ _ _ hfin).trans rfl
   have hbel:=(((HB0.out.trans (hB4.mono (Nat.le_succ _))).setCell (p:=w.heap.size) (zN _) (.string st)).setCell (p:=(w.heap.size 1)) (zN _) (.bool ((v2:Int) == 1))).setCell (p:=(w.heap.size 2)) (zN _) (v3:Value)
   have eb:decide (v2=1)=((v2:Int) == 1):=by rw [show ((v2:Int) == 1)=decide ((v2:Int)=1) from rfl];apply decide_eq_decide.2;omega
   refine bodyPost_ret (v:=.tuple #[.agg (pc ⟨t,decide (v2=1),(v3:Int)⟩),.int .i64 ((n1+n2+n3):Nat),.int .i64 0]) (by unfold pc;simp [results,Tryz.results159,Tryz.results136,go_sem,d0,d1,d2,HSX.out,eb]) rfl (PDecP.of HR.out rfl ?_)
   exact hbel
end
section
open Go.RowKit
variable {w:World} {B:Nat} {h:ByteArray} {s:Bool} {x:Int}
def PBox (w:World) (B:Nat) (h:ByteArray) (s:Bool) (x:Int):Prop:=w.heap[B]?=some (.cells #[.string h,.bool s,x] 34 (0,0))
theorem PBox.cells (hb:PBox w B h s x):w.cell? B=some (.string h)/\w.cell? (B 1)=some (.bool s)/\w.cell? (B 2)=some (x:Value) :=
 ⟨(cell_of_row _ _ _ _ _ _ hb).trans rfl,(cell_of_row _ _ _ _ _ _ hb).trans rfl,(cell_of_row _ _ _ _ _ _ hb).trans rfl⟩
theorem PBox.ext {w':World} (hb:PBox w B h s x) (e:Ext w w'):PBox w' B h s x:=(Below.block e _ (za_a hb)).trans hb
theorem PBox.new (w:World) (h:ByteArray) (s:Bool) (x:Int):PBox (w.alloc (.cells #[.string h,.bool s,x] 34)) w.heap.size h s x:=za_b _ _ _ rfl
end
section
open Go.RowKit
variable {w:World} {B:Nat} {k x:Int} {h:ByteArray} {s:Bool}
def uc (u:UpdV):Array Value:=#[u.k,.string (str u.p.h),.bool u.p.s,u.p.x]
def uv (u:UpdV):Value:=.agg (uc u)
def UBox (w:World) (B:Nat) (k:Int) (h:ByteArray) (s:Bool) (x:Int):Prop:=w.heap[B]?=some (.cells #[k,.string h,.bool s,x] 36 (0,0))
theorem UBox.cells (hb:UBox w B k h s x):w.cell? B=some (k:Value)/\w.cell? (B 1)=some (.string h)/\w.cell? (B 2)=some (.bool s)/\w.cell? (B 3)=some (x:Value) :=
 ⟨(cell_of_row _ _ _ _ _ _ hb).trans rfl,(cell_of_row _ _ _ _ _ _ hb).trans rfl,(cell_of_row _ _ _ _ _ _ hb).trans rfl,(cell_of_row _ _ _ _ _ _ hb).trans rfl⟩
theorem UBox.frz (hb:UBox w B k h s x):∀ j,w.frozen? (B j)=false:=fun _=>frozen_of_row _ _ _ _ _ hb
theorem UBox.al (hb:UBox w B k h s x):(w.cell? B=some (k:Value)/\w.cell? (B 1)=some (.string h)/\w.cell? (B 2)=some (.bool s)/\w.cell? (B 3)=some (x:Value))/\(∀ j,w.frozen? (B j)=false)/\B < w.heap.size:=⟨hb.cells,hb.frz,za_a hb⟩
theorem UBox.ext {w':World} (hb:UBox w B k h s x) (e:Ext w w'):UBox w' B k h s x:=(Below.block e _ (za_a hb)).trans hb
theorem UBox.new (w:World) (k:Int) (h:ByteArray) (s:Bool) (x:Int):UBox (w.alloc (.cells #[k,.string h,.bool s,x] 36)) w.heap.size k h s x:=za_b _ _ _ rfl
end
section
open Go.RowKit
set_option maxRecDepth 100000
theorem zi_g (a:Option Addr) (n c:Nat) (l:List Pin) (w:World) (h:SlN w a n c l) (hn:n<=1000000) :
 Calls Tryz.prog 71 #[.slice a n c] w fun e w'=>∃ v,e=.returned v/\OwnN w.heap.size w' v l/\Below w.heap.size w w':=by
 have h2:SlN (w.alloc (.cells #[] 34)) a n c l:=h.ext ((Below.refl _ _).alloc (zN _) _)
 go_enter Tryz.func71,Tryz.ntmps71
 go_wp2_with (at_builtin;refine zb_d rfl _ _ rfl w.heap.size _ [] rfl (OwnN.empty w (zN _)) a n c l rfl h2 (by simp;omega) (by simp) ?_;intro v w1 hown hg)
 go_ret
 exact⟨v,rfl,hown,((Below.refl _ _).alloc (zN _) _).grown hg (by simp) (fun k hk=>by cases hk;exact zN _)⟩
set_option maxHeartbeats 2000000 in
theorem zf_w (m:Nat) (a:Option Addr) (n c:Nat) (l:List Pin) (w:World) (h:SlN w a n c l) :
 Calls Tryz.prog 23 #[.slice a n c,m] w fun e w'=>e=.returned (.bool (decide (n<=m) && l.all fun x=>decide (x.h.length<=300)))/\Below w.heap.size w w':=by
 have hle:=h.le
 have HL:=zH h.len
 obtain⟨r,hr⟩:∃ r,r=(decide (n<=m) && l.all fun x=>decide (x.h.length<=300)):=⟨_,rfl⟩
 rw [<-hr]
 have HR:=zH hr
 clear hr
 by_cases hnm:m < n
 ·have i3:(m:Int) < (n:Int):=by omega
  have hrf:r=false:=by rw [HR.out,decide_eq_false (by omega)];rfl
  subst hrf
  go_enter Tryz.func23,Tryz.ntmps23
  go_wp2_with fail
  go_ret
  exact⟨rfl,Below.refl _ _⟩
 have i4:¬ (m:Int) < (n:Int):=by omega
 have HR2:=zH (show r=l.all fun x=>decide (x.h.length<=300) by rw [HR.out,decide_eq_true (by omega)];rfl)
 go_enter Tryz.func23,Tryz.ntmps23
 go_wp2_with fail
 go_loopw [5] (fun i wr=>∃ k:Nat,k<=n/\i=.int .i64 k/\Hid (∀ x ∈ l.take k,x.h.length<=300)/\Below w.heap.size w wr) (fun i _=>n - (intOf i).toNat)
 case atStart=>exact⟨0,Nat.zero_le _,rfl,zH (by simp),Below.refl _ _⟩
 case round =>
  obtain⟨k,hk,rfl,HC,hB⟩:=hrel
  have i0:(0:Int)<=(k:Int):=by omega
  by_cases hlt:k < n
  ·have i2:(k:Int) < (n:Int):=by omega
   obtain⟨bb,o,rfl,hbb,hkl,hcell,-,-⟩:=(h.ext hB).at hlt
   rw [List.getElem?_eq_getElem hkl,Option.getD_some] at hcell
   have HTK:=zH (List.take_succ_eq_append_getElem hkl)
   have HMEM:=zH (List.getElem_mem hkl)
   generalize l[k]=p at *
   have hps:=strSize p.h
   obtain⟨sp,hsp⟩:∃ sp,str p.h=sp:=⟨_,rfl⟩
   rw [hsp] at hcell hps
   clear hsp hkl
   by_cases hpm:p.h.length<=300
   ·have i3:¬ (300:Int) < (p.h.length:Int):=by omega
    have HNX:=zH (show ∀ x ∈ l.take (k+1),x.h.length<=300 by
     rw [HTK.out];intro x hx
     rcases List.mem_append.1 hx with hx|hx
     ·exact HC.out x hx
     ·simp at hx;subst hx;exact hpm)
    go_wp2_with fail
    go_roundw
    case rel=>exact⟨k+1,by omega,by go_num,HNX,hB⟩
    case measure=>simp [intOf];omega
   ·have i3:(300:Int) < (p.h.length:Int):=by omega
    have hrf:r=false:=by
     rw [HR2.out,List.all_eq_false];exact⟨p,HMEM.out,by simpa using hpm⟩
    subst hrf
    go_wp2_with fail
    go_ret
    exact⟨rfl,hB⟩
  ·obtain rfl:k=n:=by omega
   have hrt:r=true:=by
    rw [HR2.out,List.all_eq_true];have:=HC.out;rw [List.take_of_length_le (by rw [HL.out];exact zN _)] at this;exact fun x hx=>by simpa using this x hx
   subst hrt
   go_wp2_with fail
   go_ret
   exact⟨rfl,hB⟩
theorem zh_o (l k:List Pin) (i:Nat) (h1:i < l.length) (h2:i < k.length) (h:l.take i=k.take i):(l.take (i+1)=k.take (i+1)) ↔ l[i]=k[i]:=by
 rw [List.take_succ_eq_append_getElem h1,List.take_succ_eq_append_getElem h2,h]
 exact⟨fun hh=>by simpa using List.append_cancel_left hh,fun hh=>by rw [hh]⟩
set_option maxHeartbeats 2000000 in
theorem zn_k (a b:Option Addr) (n m c d:Nat) (ls ks:List Pin) (w:World) (h:SlN w a n c ls) (h':SlN w b m d ks) :
 Calls Tryz.prog 69 #[.slice a n c,.slice b m d] w fun e w'=>e=.returned (.bool (decide (ls=ks)))/\Below w.heap.size w w':=by
 have hle:=h.le
 have hle':=h'.le
 have hl:=h.len
 have hl':=h'.len
 by_cases hnm:n=m
 ·subst hnm
  obtain⟨r,hr⟩:∃ r,r=decide (ls=ks):=⟨_,rfl⟩
  rw [<-hr]
  have HR:=zH hr;have HL:=zH hl;have HL':=zH hl'
  clear hr hl hl'
  go_enter Tryz.func69,Tryz.ntmps69
  go_wp2
  go_loopw [5] (fun i wr=>∃ k:Nat,k<=n/\i=.int .i64 k/\Hid (ls.take k=ks.take k)/\Below w.heap.size w wr) (fun i _=>n - (intOf i).toNat)
  case atStart=>exact⟨0,Nat.zero_le _,rfl,zH rfl,Below.refl _ _⟩
  case round =>
   obtain⟨k,hk,rfl,HT,hB⟩:=hrel
   by_cases hlt:k < n
   ·obtain⟨g,o,rfl,hg,hkl,hc1,hc2,hc3⟩:=(h.ext hB).at hlt
    obtain⟨g',o',rfl,hg',hkl',hd1,hd2,hd3⟩:=(h'.ext hB).at hlt
    have b0:(0:Int)<=(k:Int):=by omega
    have b1:(k:Int) < (n:Int):=by omega
    have HN:=zH (zh_o ls ks k hkl hkl' HT.out)
    rw [List.getElem?_eq_getElem hkl,Option.getD_some] at hc1 hc2 hc3
    rw [List.getElem?_eq_getElem hkl',Option.getD_some] at hd1 hd2 hd3
    generalize ls[k]=u1 at *
    generalize ks[k]=u2 at *
    clear hkl hkl'
    by_cases hu:u1=u2
    ·subst hu
     generalize str u1.h=s1 at *
     generalize u1.s=p1 at *
     generalize u1.x=x1 at *
     go_wp2
     go_quiet (fail)
     go_wp2
     go_roundw
     case rel=>exact⟨k+1,by omega,by go_num,zH (HN.out.2 trivial),hB.trans (za_i _ _ _)⟩
     case measure=>simp [intOf];omega
    ·have HU:=zH hu
     have hrf:r=false:=by
      rw [HR.out];apply decide_eq_false;intro e;exact hu (HN.out.1 (by rw [e]))
     subst hrf
     by_cases q1:u1.h=u2.h
     ·rw [q1] at hc1
      generalize str u2.h=s1 at *
      by_cases q2:u1.s=u2.s
      ·rw [q2] at hc2
       have q3:(u1.x == u2.x)=false:=by
        apply beq_eq_false_iff_ne.2;intro e;apply hu;obtain⟨a1,a2,a3⟩:=u1;obtain⟨b1,b2,b3⟩:=u2;simp_all
       generalize u2.s=p1 at *
       generalize u1.x=x1 at *
       generalize u2.x=x2 at *
       clear q1 q2 hu
       go_wp2
       go_quiet (fail)
       go_wp2
       go_ret
       exact⟨rfl,hB.trans (za_i _ _ _)⟩
      ·have q3:(u1.s == u2.s)=false:=beq_eq_false_iff_ne.2 q2
       generalize u1.s=p1 at *
       generalize u2.s=p2 at *
       generalize u1.x=x1 at *
       generalize u2.x=x2 at *
       clear q1 q2 hu
       go_wp2
       go_quiet (fail)
       go_wp2
       go_ret
       exact⟨rfl,hB.trans (za_i _ _ _)⟩
     ·have q3:((str u1.h).toList == (str u2.h).toList)=false:=by
       rw [str_toList,str_toList];exact beq_eq_false_iff_ne.2 q1
      generalize str u1.h=s1 at *
      generalize str u2.h=s2 at *
      generalize u1.s=p1 at *
      generalize u2.s=p2 at *
      generalize u1.x=x1 at *
      generalize u2.x=x2 at *
      clear q1 hu
      go_wp2
      go_quiet (fail)
      go_wp2
      go_ret
      exact⟨rfl,hB.trans (za_i _ _ _)⟩
   ·obtain rfl:k=n:=by omega
    have hrt:r=true:=by
     rw [HR.out];apply decide_eq_true;have:=HT.out
     rwa [List.take_of_length_le (by rw [HL.out];exact zN _),List.take_of_length_le (by rw [HL'.out];exact zN _)] at this
    subst hrt
    go_wp2
    go_ret
    exact⟨rfl,hB⟩
 ·have hrf:decide (ls=ks)=false:=by apply decide_eq_false;intro e;apply hnm;rw [<-hl,<-hl',e]
  rw [hrf]
  have t1:((n:Int) != (m:Int))=true:=bne_iff_ne.2 (by omega)
  clear hnm hrf hl hl'
  go_enter Tryz.func69,Tryz.ntmps69
  go_wp2
  go_ret
  exact⟨rfl,Below.refl _ _⟩
end
section
open Go.RowKit
theorem zk_p (L:List Pin) (m k:Nat) {p:Pin} (h:L[k]?=some p):Tab.chk L (m+1) k=if Pin.valid p=false then 1 else if 0 < k/\0<=Host.cmp (L.getD (k - 1) Pin.none).h p.h then 8 else Tab.chk L m (k+1):=by
 rw [Tab.chk,h]
set_option maxHeartbeats 8000000 in
set_option maxRecDepth 100000 in
theorem zs_r (cap:Int) (a:Option Addr) (n c:Nat) (L:List Pin) (w:World) (h:SlN w a n c L) (hn:n<=1000000) (hL:∀ p ∈ L,p.h.length<=1000000) :
 Calls Tryz.prog 117 #[.slice a n c,cap] w fun e w'=>e=.returned (.int .i64 (Tab.load L cap))/\Below w.heap.size w w':=by
 have HLN:=zH h.len
 have HL:=zH hL
 obtain⟨r,hr⟩:∃ r,Tab.load L cap=r:=⟨_,rfl⟩
 rw [hr]
 unfold Tab.load at hr
 rw [h.len] at hr
 clear hL
 by_cases h1:cap < 1\/1000 < cap
 ·rw [if_pos h1] at hr
  subst hr
  by_cases h2:cap < 1
  case' neg=>have h3:1000 < cap:=by omega
  all_goals
   clear h1
   go_enter Tryz.func117,Tryz.ntmps117
   go_wp2_with fail
   go_ret
   exact⟨rfl,Below.refl _ _⟩
 rw [if_neg h1] at hr
 have g1:¬ cap < 1:=by omega
 have g2:¬ 1000 < cap:=by omega
 clear h1
 by_cases h2:cap < (n:Int)
 ·rw [if_pos h2] at hr
  subst hr
  go_enter Tryz.func117,Tryz.ntmps117
  go_wp2_with fail
  go_ret
  exact⟨rfl,Below.refl _ _⟩
 rw [if_neg h2] at hr
 have HR:=zH hr
 clear hr
 go_enter Tryz.func117,Tryz.ntmps117
 go_wp2_with fail
 go_loopw [5] (fun i wr=>∃ k:Nat,k<=n/\i=.int .i64 (k:Nat)/\Hid (Tab.chk L (n - k) k=r)/\Below w.heap.size w wr) (fun i _=>n - (intOf i).toNat)
 case atStart=>exact⟨0,Nat.zero_le _,rfl,HR,Below.refl _ _⟩
 case round =>
  obtain⟨k,hk,rfl,HC,hB⟩:=hrel
  have i0:(0:Int)<=(k:Int):=by omega
  by_cases hlt:k < n
  ·have i2:(k:Int) < (n:Int):=by omega
   have hs:=h.ext hB
   obtain⟨bb,o,rfl,hbb,hkl,c1,c2,c3⟩:=hs.at hlt
   have hgt:=List.getElem?_eq_getElem hkl
   rw [hgt,Option.getD_some] at c1 c2 c3
   have HMEM:=zH (List.getElem_mem hkl)
   have hst:=zk_p L (n - (k+1)) k hgt
   rw [show n - (k+1)+1=n - k by omega,HC.out] at hst
   have hprev:∀ k',k=k'+1->∃ q,L.getD (k - 1) Pin.none=q/\q ∈ L/\PinAt wr bb (o+k' * 3) q:=by
    intro k' hk'
    obtain⟨b2,o2,hbo,-,hkl2,hp2⟩:=hs.at (show k' < n by omega)
    cases hbo
    refine⟨_,rfl,?_,?_⟩
    ·rw [show k - 1=k' by omega,List.getD_eq_getElem?_getD,List.getElem?_eq_getElem hkl2];exact List.getElem_mem hkl2
    ·rw [show k - 1=k' by omega,List.getD_eq_getElem?_getD];exact hp2
   generalize L[k]=p at *
   have HV:=zH (fun W=>zd_i false p (HL.out p HMEM.out) W)
   unfold pv at HV
   cases hv:Pin.valid p with
  |false =>
    rw [hv] at HV hst
    rw [if_pos rfl] at hst
    subst hst
    have HV:=zH HV.out
    obtain⟨sh,hsh⟩:∃ s,str p.h=s:=⟨_,rfl⟩
    rw [hsh] at c1 HV
    clear hprev hgt hkl hv hsh hs
    go_wp2_with fail
    refine (HV.out _).mono ?_;rintro e w2 ⟨rfl,hb2⟩
    go_wp2_with fail
    go_ret
    exact⟨rfl,hB.trans (hb2.mono hB.size)⟩
  |true =>
    rw [hv] at HV hst
    rw [if_neg (by decide)] at hst
    have HV:=zH HV.out
    by_cases hk0:k=0
    ·rw [if_neg (by omega)] at hst
     have HST:=zH hst
     have t0:decide (0 < k)=false:=by apply decide_eq_false;omega
     obtain⟨sh,hsh⟩:∃ s,str p.h=s:=⟨_,rfl⟩
     rw [hsh] at c1 HV
     clear hprev hgt hkl hv hsh hs hst hk0
     go_wp2_with fail
     refine (HV.out _).mono ?_;rintro e w2 ⟨rfl,hb2⟩
     go_wp2_with fail
     go_quiet (fail)
     go_wp2_with fail
     go_roundw
     case rel=>exact⟨k+1,by omega,by go_num,zH HST.out.symm,(hB.trans (hb2.mono hB.size)).trans (za_i _ _ _)⟩
     case measure=>simp [intOf];omega
    ·obtain⟨k',hk'⟩:∃ k',k=k'+1:=⟨k - 1,by omega⟩
     obtain⟨q,hq,hqm,hqa⟩:=hprev k' hk'
     subst hk'
     rw [hq] at hst
     have HCMP:=zH (fun W=>zg_n q.h p.h (HL.out q hqm) (HL.out p HMEM.out) W)
     obtain⟨z,hz⟩:∃ z,Host.cmp q.h p.h=z:=⟨_,rfl⟩
     rw [hz] at HCMP hst
     have wk:IntKind.i64.wrap (k':Int)=(k':Int):=by rw [IntKind.wrap_i64];omega
     have k0:(0:Int)<=(k':Int):=by omega
     have k1:(k':Int) < (n:Int):=by omega
     have i3:(0:Int)<=(k':Int)+1:=by omega
     have i4:(k':Int)+1 < (n:Int):=by omega
     have t0:decide (0 < k'+1)=true:=by apply decide_eq_true;omega
     obtain⟨d1,-,-⟩:=hqa
     obtain⟨sh,hsh⟩:∃ s,str p.h=s:=⟨_,rfl⟩
     obtain⟨sq,hsq⟩:∃ s,str q.h=s:=⟨_,rfl⟩
     rw [hsh] at c1 HV HCMP
     rw [hsq] at d1 HCMP
     have HCL:=zH (show ∀ w',Below wr.heap.size wr w'->w'.cell? (bb (o+(k'+1) * 3))=some (.string sh)/\w'.cell? (bb (o+k' * 3))=some (.string sq) from fun w' hb=>⟨(hb.cell (p:=(bb (o+(k'+1) * 3))) hbb).trans c1,(hb.cell (p:=(bb (o+k' * 3))) hbb).trans d1⟩)
     have HST:=zH hst
     clear hprev hgt hkl hv hsh hsq hs hst hz hq hqm hk0
     go_wp2_with fail
     refine (HV.out _).mono ?_;rintro e w2 ⟨rfl,hb2⟩
     obtain⟨e1,f1⟩:=HCL.out _ hb2
     have hbb2:bb < w2.heap.size:=Nat.lt_of_lt_of_le hbb hb2.size
     have HCL2:=zH (show ∀ w',Ext w2 w'->Ext w2 w'/\w'.cell? (bb (o+(k'+1) * 3))=some (.string sh)/\w'.cell? (bb (o+k' * 3))=some (.string sq) from fun w' he=>⟨he,HCL.out _ (hb2.trans (Below.mono he hb2.size))⟩)
     go_wp2_with fail
     go_region_held3 (fun w'=>Ext w2 w'/\w'.cell? (bb (o+(k'+1) * 3))=some (.string sh)/\w'.cell? (bb (o+k' * 3))=some (.string sq)) (first|assumption|exact HCL2.out _ (Ext.drew (Ext.refl _))|exact HCL2.out _ (Ext.step (by assumption) (And.left (by assumption)))) (first|(go_at_call 121;go_must (refine (HCMP.out _).mono ?_);rintro e w9 ⟨rfl,hb9⟩))
     all_goals
      have hfin:Ext w2 _:=And.left (by assumption)
      have hBf:=(hB.trans (hb2.mono hB.size)).trans (Below.mono hfin (hB.trans (hb2.mono hB.size)).size)
      by_cases hz0:0<=z
      ·have hr8:r=8:=by rw [HST.out,if_pos ⟨by omega,hz0⟩]
       subst hr8
       go_wp2_with fail
       go_ret
       exact⟨rfl,hBf⟩
      ·have HRS:=zH (show Tab.chk L (n - (k'+1+1)) (k'+1+1)=r by rw [HST.out,if_neg (fun e=>hz0 e.2)])
       go_wp2_with fail
       go_roundw
       case rel=>exact⟨k'+1+1,by omega,by go_num,HRS,hBf⟩
       case measure=>simp [intOf];omega
  ·obtain rfl:k=n:=by omega
   have hr0:r=0:=by rw [<-HC.out,Nat.sub_self];rfl
   subst hr0
   go_wp2_with fail
   go_ret
   exact⟨rfl,hB⟩
end
section
open Go.RowKit
variable {w:World} {B:Nat} {c:Int} {v:Value}
def SBox (w:World) (B:Nat) (c:Int) (v:Value):Prop:=w.heap[B]?=some (.cells #[c,v] 44 (0,0))
theorem SBox.cells (hb:SBox w B c v):w.cell? B=some (c:Value)/\w.cell? (B 1)=some v :=
 ⟨(cell_of_row _ _ _ _ _ _ hb).trans rfl,(cell_of_row _ _ _ _ _ _ hb).trans rfl⟩
theorem SBox.frz (hb:SBox w B c v):∀ j,w.frozen? (B j)=false:=fun _=>frozen_of_row _ _ _ _ _ hb
theorem SBox.al (hb:SBox w B c v):(w.cell? B=some (c:Value)/\w.cell? (B 1)=some v)/\(∀ j,w.frozen? (B j)=false)/\B < w.heap.size:=⟨hb.cells,hb.frz,za_a hb⟩
theorem SBox.ext {w':World} (hb:SBox w B c v) (e:Ext w w'):SBox w' B c v:=(Below.block e _ (za_a hb)).trans hb
theorem SBox.new (w:World) (c:Int) (v:Value):SBox (w.alloc (.cells #[c,v] 44)) w.heap.size c v:=za_b _ _ _ rfl
set_option maxHeartbeats 8000000 in
set_option maxRecDepth 100000 in
theorem zc_e (ck:Int) (a:Option Addr) (n c:Nat) (L:List Pin) (w:World) (h:SlN w a n c L) (hL:∀ p ∈ L,p.h.length<=1000000) :
 Calls Tryz.prog 101 #[.agg #[ck,.slice a n c]] w fun e w'=>e=.returned (.bool (Upt.stValid ck L))/\Ext w w':=by
 have hle:=h.le
 have HLN:=zH h.len
 have HL:=zH hL
 have hr:Upt.stValid ck L=decide (0<=ck/\ck<=1099511627776/\n<=1000/\Tab.chk L (n - 0) 0=0):=by unfold Upt.stValid;rw [h.len,Nat.sub_zero]
 obtain⟨r,hrr⟩:∃ r,Upt.stValid ck L=r:=⟨_,rfl⟩
 rw [hrr] at hr ⊢
 have hb0:=(Below.refl w.heap.size w).alloc (zN _) (.cells #[ck,.slice a n c] 44)
 have hs0:=SBox.new w ck (.slice a n c)
 have hsl0:=h.ext hb0
 obtain⟨W0,hW0⟩:∃ W0,w.alloc (.cells #[ck,.slice a n c] 44)=W0:=⟨_,rfl⟩
 have hz0:W0.heap.size=w.heap.size+1:=by rw [<-hW0];simp
 rw [hW0] at hb0 hs0 hsl0
 have HW0:=zH hW0
 have HB0:=zH hb0
 have HS0:=zH hs0
 have HSL:=zH hsl0
 clear hrr hW0 hsl0 h hL hs0
 by_cases h1:ck < 0
 ·have hrf:r=false:=by rw [hr];exact decide_eq_false (fun e=>by omega)
  subst hrf
  clear hr hb0 hz0
  go_enter Tryz.func101,Tryz.ntmps101
  go_wp2_with fail
  go_ret
  exact⟨rfl,by rw [HW0.out];exact HB0.out⟩
 have t1:decide (ck < 0)=false:=decide_eq_false h1
 by_cases h2:1099511627776 < ck
 ·have hrf:r=false:=by rw [hr];exact decide_eq_false (fun e=>by omega)
  subst hrf
  clear hr hb0 hz0
  go_enter Tryz.func101,Tryz.ntmps101
  go_wp2_with fail
  go_ret
  exact⟨rfl,by rw [HW0.out];exact HB0.out⟩
 have t2:decide (1099511627776 < ck)=false:=decide_eq_false h2
 by_cases h3:1000 < n
 ·have h3':(1000:Int) < (n:Int):=by omega
  have hrf:r=false:=by rw [hr];exact decide_eq_false (fun e=>by omega)
  subst hrf
  clear hr hb0 hz0
  go_enter Tryz.func101,Tryz.ntmps101
  go_wp2_with fail
  go_ret
  exact⟨rfl,by rw [HW0.out];exact HB0.out⟩
 have h3':¬ (1000:Int) < (n:Int):=by omega
 have hr2:r=decide (Tab.chk L (n - 0) 0=0):=by
  rw [hr];apply decide_eq_decide.2
  exact⟨fun e=>e.2.2.2,fun e=>⟨by omega,by omega,by omega,e⟩⟩
 obtain⟨z0,hz⟩:∃ z,Tab.chk L (n - 0) 0=z:=⟨_,rfl⟩
 rw [hz] at hr2
 have HR:=zH hr2
 have HC0:=zH hz
 have HZ0:=zH hz0
 clear hr hr2 hz hb0 hz0
 go_enter Tryz.func101,Tryz.ntmps101
 go_wp2_with fail
 rw [HW0.out]
 go_loopw [22] (fun i wr=>∃ k:Nat,k<=n/\i=.int .i64 (k:Nat)/\Hid (Tab.chk L (n - k) k=z0)/\Ext W0 wr) (fun i _=>n - (intOf i).toNat)
 case atStart=>exact⟨0,Nat.zero_le _,rfl,HC0,Ext.refl _⟩
 case round =>
  obtain⟨k,hk,rfl,HC,hB⟩:=hrel
  have i0:(0:Int)<=(k:Int):=by omega
  by_cases hlt:k < n
  ·have i2:(k:Int) < (n:Int):=by omega
   have hs:=HSL.out.ext hB
   have hS:=HS0.out.ext hB
   obtain⟨bb,o,rfl,hbb,hkl,c1,c2,c3⟩:=hs.at hlt
   have hgt:=List.getElem?_eq_getElem hkl
   rw [hgt,Option.getD_some] at c1 c2 c3
   have HMEM:=zH (List.getElem_mem hkl)
   have hst:=zk_p L (n - (k+1)) k hgt
   rw [show n - (k+1)+1=n - k by omega,HC.out] at hst
   have hprev:∀ k',k=k'+1->∃ q,L.getD (k - 1) Pin.none=q/\q ∈ L/\PinAt wr bb (o+k' * 3) q:=by
    intro k' hk'
    obtain⟨b2,o2,hbo,-,hkl2,hp2⟩:=hs.at (show k' < n by omega)
    cases hbo
    refine⟨_,rfl,?_,?_⟩
    ·rw [show k - 1=k' by omega,List.getD_eq_getElem?_getD,List.getElem?_eq_getElem hkl2];exact List.getElem_mem hkl2
    ·rw [show k - 1=k' by omega,List.getD_eq_getElem?_getD];exact hp2
   generalize L[k]=p at *
   have HV:=zH (fun W=>zd_i true p (HL.out p HMEM.out) W)
   unfold pv at HV
   have hbp:=(Below.refl wr.heap.size wr).alloc (zN _) (.cells #[.string (str p.h),.bool p.s,p.x] 34)
   have hbx:=PBox.new wr (str p.h) p.s p.x
   obtain⟨sh,hsh⟩:∃ s,str p.h=s:=⟨_,rfl⟩
   rw [hsh] at c1 HV hbp hbx
   obtain⟨Wp,hWp⟩:∃ Wp,wr.alloc (.cells #[.string sh,.bool p.s,p.x] 34)=Wp:=⟨_,rfl⟩
   rw [hWp] at hbp hbx
   have HWP:=zH hWp
   have hBp:Ext W0 Wp:=hB.trans (hbp.mono hB.size)
   have hSp:=HS0.out.ext hBp
   have hwW:w.heap.size < W0.heap.size:=by have:=HZ0.out;omega
   have hbbp:bb < Wp.heap.size:=Nat.lt_of_lt_of_le hbb hbp.size
   have hcl:∀ w',Ext Wp w'->Ext Wp w'/\w'.cell? wr.heap.size=some (.string sh)/\w'.cell? (wr.heap.size 1)=some (.bool p.s)/\w'.cell? (wr.heap.size 2)=some (p.x:Value)/\wr.heap.size < w'.heap.size/\w'.cell? (w.heap.size 1)=some (.slice (bb o) n c)/\w.heap.size < w'.heap.size/\bb < w'.heap.size:=fun w' he =>
    ⟨he,(hbx.ext he).cells.1,(hbx.ext he).cells.2.1,(hbx.ext he).cells.2.2,za_a (hbx.ext he),(hSp.ext he).cells.2,za_a (hSp.ext he),Nat.lt_of_lt_of_le hbbp (Below.size he)⟩
   have HBP:=zH hBp
   obtain⟨-,p0,p1,p2,lp,s1,ls,-⟩:=hcl _ (Ext.refl _)
   clear hWp hS
   cases hv:Pin.valid p with
  |false =>
    rw [hv] at HV hst
    rw [if_pos rfl] at hst
    have hrf:r=false:=by rw [HR.out,hst];rfl
    subst hrf
    have HV:=zH HV.out
    have HCL:=zH hcl
    clear hprev hgt hkl hv hsh hs hbp hbx hSp hBp hst hcl hB
    go_wp2_with fail
    rw [HWP.out]
    go_wp2_with fail
    refine wp_region_held_drew (S:=(fun w'=>Ext Wp w'/\w'.cell? wr.heap.size=some (.string sh)/\w'.cell? (wr.heap.size 1)=some (.bool p.s)/\w'.cell? (wr.heap.size 2)=some (p.x:Value)/\wr.heap.size < w'.heap.size/\w'.cell? (w.heap.size 1)=some (.slice (bb o) n c)/\w.heap.size < w'.heap.size/\bb < w'.heap.size)) (by kernel_rfl) ?_ (fun hHeld=>?_)
    ·exact HCL.out _ (Ext.drew (Ext.refl _))
    refine tkB [(0,27)] ?_
    repeat ((first|(refine tkY (v:=?_) rfl (by kernel_rfl) (fun _ _ _ h=>h) (by rfl) ?_ (by assumption) ?_;rotate_left;·intro w hSw;(try dsimp only at hSw);go_simp;try with_reducible rfl)|refine tkN rfl (by kernel_rfl) (fun _ _ _ h=>h) (by rfl) (by assumption) ?_);try simp only [Act.put,List.setIfInBounds_toArray,List.set])
    refine tkE ?_
    refine wpAnyH_ready (rs:=[1]) (by kernel_rfl) (by simp) ?_
    refine AllReadyH.cons (o:=Oper.mk (some 28) _ _ _ _ _) rfl (fun K hK=>?_) AllReadyH.nil
    go_simp
    go_at_call 151;refine (HV.out _).mono ?_;rintro e u1 ⟨rfl,hb1⟩
    go_wp2_with fail
    refine hK.out _ _ ?_ (fun hHeld=>?_)
    ·exact HCL.out _ (Ext.step (by assumption) (And.left (by assumption)))
    clear hK K
    try simp only [Act.put,List.setIfInBounds_toArray,List.set]
    refine tkB [(2,29),(3,30),(4,31),(5,32),(6,33),(7,34),(8,35),(9,36),(10,37),(11,38),(12,39),(13,40),(14,41),(15,42),(16,43),(17,44),(18,45),(19,46)] ?_
    repeat ((first|(refine tkY (v:=?_) rfl (by kernel_rfl) (fun _ _ _ h=>h) (by rfl) ?_ (by assumption) ?_;rotate_left;·intro w hSw;(try dsimp only at hSw);go_simp;try with_reducible rfl)|refine tkN rfl (by kernel_rfl) (fun _ _ _ h=>h) (by rfl) (by assumption) ?_);try simp only [Act.put,List.setIfInBounds_toArray,List.set])
    refine tkE ?_
    refine wpAnyH_done (by kernel_rfl) ?_ _
    all_goals
     have hfin:Ext Wp _:=And.left hHeld
     have hBf:Ext w _:=HB0.out.trans (Below.mono (Below.trans HBP.out (hfin.mono HBP.out.size)) HB0.out.size)
     go_wp2_with fail
     go_ret
     exact⟨rfl,hBf⟩
  |true =>
    rw [hv] at HV hst
    rw [if_neg (by decide)] at hst
    have HV:=zH HV.out
    by_cases hk0:k=0
    ·rw [if_neg (by omega)] at hst
     have HST:=zH hst
     have t0:decide (0 < k)=false:=by apply decide_eq_false;omega
     have HCL:=zH hcl
     clear hprev hgt hkl hv hsh hs hst hk0 hbp hbx hSp hBp hcl hB
     go_wp2_with fail
     rw [HWP.out]
     go_wp2_with fail
     refine wp_region_held_drew (S:=(fun w'=>Ext Wp w'/\w'.cell? wr.heap.size=some (.string sh)/\w'.cell? (wr.heap.size 1)=some (.bool p.s)/\w'.cell? (wr.heap.size 2)=some (p.x:Value)/\wr.heap.size < w'.heap.size/\w'.cell? (w.heap.size 1)=some (.slice (bb o) n c)/\w.heap.size < w'.heap.size/\bb < w'.heap.size)) (by kernel_rfl) ?_ (fun hHeld=>?_)
     ·exact HCL.out _ (Ext.drew (Ext.refl _))
     refine tkB [(0,27)] ?_
     repeat ((first|(refine tkY (v:=?_) rfl (by kernel_rfl) (fun _ _ _ h=>h) (by rfl) ?_ (by assumption) ?_;rotate_left;·intro w hSw;(try dsimp only at hSw);go_simp;try with_reducible rfl)|refine tkN rfl (by kernel_rfl) (fun _ _ _ h=>h) (by rfl) (by assumption) ?_);try simp only [Act.put,List.setIfInBounds_toArray,List.set])
     refine tkE ?_
     refine wpAnyH_ready (rs:=[1]) (by kernel_rfl) (by simp) ?_
     refine AllReadyH.cons (o:=Oper.mk (some 28) _ _ _ _ _) rfl (fun K hK=>?_) AllReadyH.nil
     go_simp
     go_at_call 151;refine (HV.out _).mono ?_;rintro e u1 ⟨rfl,hb1⟩
     go_wp2_with fail
     refine hK.out _ _ ?_ (fun hHeld=>?_)
     ·exact HCL.out _ (Ext.step (by assumption) (And.left (by assumption)))
     clear hK K
     try simp only [Act.put,List.setIfInBounds_toArray,List.set]
     refine tkB [(2,29),(3,30),(4,31),(5,32),(6,33),(7,34),(8,35),(9,36),(10,37),(11,38),(12,39),(13,40),(14,41),(15,42),(16,43),(17,44),(18,45),(19,46)] ?_
     repeat ((first|(refine tkY (v:=?_) rfl (by kernel_rfl) (fun _ _ _ h=>h) (by rfl) ?_ (by assumption) ?_;rotate_left;·intro w hSw;(try dsimp only at hSw);go_simp;try with_reducible rfl)|refine tkN rfl (by kernel_rfl) (fun _ _ _ h=>h) (by rfl) (by assumption) ?_);try simp only [Act.put,List.setIfInBounds_toArray,List.set])
     refine tkE ?_
     refine wpAnyH_done (by kernel_rfl) ?_ _
     all_goals
      have hfin:Ext Wp _:=And.left (by assumption)
      have hBf:Ext W0 _:=Below.trans HBP.out (hfin.mono HBP.out.size)
      go_wp2_with fail
      go_roundw
      case rel=>exact⟨k+1,by omega,by go_num,zH HST.out.symm,hBf⟩
      case measure=>simp [intOf];omega
    ·obtain⟨k',hk'⟩:∃ k',k=k'+1:=⟨k - 1,by omega⟩
     obtain⟨q,hq,hqm,hqa⟩:=hprev k' hk'
     subst hk'
     rw [hq] at hst
     have HCMP:=zH (fun W=>zg_j q.h p.h (HL.out q hqm) (HL.out p HMEM.out) W)
     obtain⟨z,hz⟩:∃ z,Host.cmp q.h p.h=z:=⟨_,rfl⟩
     rw [hz] at HCMP hst
     have wk:IntKind.i64.wrap (k':Int)=(k':Int):=by rw [IntKind.wrap_i64];omega
     have k0:(0:Int)<=(k':Int):=by omega
     have k1:(k':Int) < (n:Int):=by omega
     have i3:(0:Int)<=(k':Int)+1:=by omega
     have i4:(k':Int)+1 < (n:Int):=by omega
     have t0:decide (0 < k'+1)=true:=by apply decide_eq_true;omega
     obtain⟨d1,-,-⟩:=hqa
     obtain⟨sq,hsq⟩:∃ s,str q.h=s:=⟨_,rfl⟩
     rw [hsh] at HCMP
     rw [hsq] at d1 HCMP
     have HCL:=zH (show ∀ w',Ext Wp w'->Ext Wp w'/\w'.cell? wr.heap.size=some (.string sh)/\w'.cell? (wr.heap.size 1)=some (.bool p.s)/\w'.cell? (wr.heap.size 2)=some (p.x:Value)/\wr.heap.size < w'.heap.size/\w'.cell? (w.heap.size 1)=some (.slice (bb o) n c)/\w.heap.size < w'.heap.size/\bb < w'.heap.size/\w'.cell? (bb (o+k' * 3))=some (.string sq) from fun w' he=>by
      obtain⟨a1,a2,a3,a4,a5,a6,a7,a8⟩:=hcl w' he
      exact⟨a1,a2,a3,a4,a5,a6,a7,a8,(Below.cell (hbp.trans (Below.mono he hbp.size)) (p:=(bb (o+k' * 3))) hbb).trans d1⟩)
     have HST:=zH hst
     clear hprev hgt hkl hv hsh hsq hs hst hz hq hqm hk0 hbp hbx hSp hBp hcl hB d1
     go_wp2_with fail
     rw [HWP.out]
     go_wp2_with fail
     go_region_held3 (fun w'=>Ext Wp w'/\w'.cell? wr.heap.size=some (.string sh)/\w'.cell? (wr.heap.size 1)=some (.bool p.s)/\w'.cell? (wr.heap.size 2)=some (p.x:Value)/\wr.heap.size < w'.heap.size/\w'.cell? (w.heap.size 1)=some (.slice (bb o) n c)/\w.heap.size < w'.heap.size/\bb < w'.heap.size/\w'.cell? (bb (o+k' * 3))=some (.string sq)) (first|assumption|exact HCL.out _ (Ext.drew (Ext.refl _))|exact HCL.out _ (Ext.step (by assumption) (And.left (by assumption)))) (first|(go_at_call 151;go_must (refine (HV.out _).mono ?_);rintro e u1 ⟨rfl,hb1⟩)|(go_at_call 152;go_must (refine (HCMP.out _).mono ?_);rintro e u2 ⟨rfl,hb2⟩))
     all_goals
      have hfin:Ext Wp _:=And.left (by assumption)
      have hBf:Ext W0 _:=Below.trans HBP.out (hfin.mono HBP.out.size)
      by_cases hz0:0<=z
      ·have hrf:r=false:=by rw [HR.out,HST.out,if_pos ⟨by omega,hz0⟩];rfl
       subst hrf
       go_wp2_with fail
       go_ret
       exact⟨rfl,HB0.out.trans (Below.mono hBf HB0.out.size)⟩
      ·have HRS:=zH (show Tab.chk L (n - (k'+1+1)) (k'+1+1)=z0 by rw [HST.out,if_neg (fun e=>hz0 e.2)])
       go_wp2_with fail
       go_roundw
       case rel=>exact⟨k'+1+1,by omega,by go_num,HRS,hBf⟩
       case measure=>simp [intOf];omega
  ·obtain rfl:k=n:=by omega
   have hr0:r=true:=by rw [HR.out,<-HC.out,Nat.sub_self];rfl
   subst hr0
   go_wp2_with fail
   go_ret
   exact⟨rfl,HB0.out.trans (hB.mono HB0.out.size)⟩
end
section
open Go.RowKit
variable {fn:Func} {R:Ending->World->Prop} {a:Act} {W:World} {A k j b:Nat} {x y z u e q:Value}
theorem ret4 (hf:fn.results=#[.cell A 36,.tmp k]) (hA:a.tmps[A]?.getD undef=.pointer b) (hc:W.heap[b]?=some (.cells #[x,y,z,u] 36 (0,0))) (hk:a.tmps[k]?.getD undef=e) (hd:a.defers=[])
 (h:R (.returned (.tuple #[.agg #[x,y,z,u],e])) W):bodyPost Tryz.prog fn R .ret a W:=by
 obtain⟨d0,d1,d2,d3⟩:=cel4 hc
 refine bodyPost_ret ?_ hd h
 unfold results
 rw [hf]
 simp [go_sem,hA,hk,d0,d1,d2,d3]
theorem ret2 (hf:fn.results=#[.cell A 44,.tmp k]) (hA:a.tmps[A]?.getD undef=.pointer b) {c:Int} (hc:SBox W b c y) (hk:a.tmps[k]?.getD undef=e) (hd:a.defers=[])
 (h:R (.returned (.tuple #[.agg #[c,y],e])) W):bodyPost Tryz.prog fn R .ret a W:=by
 obtain⟨d0,d1⟩:=hc.cells
 refine bodyPost_ret ?_ hd h
 unfold results
 rw [hf]
 simp [go_sem,hA,hk,d0,d1]
theorem ret3 (hf:fn.results=#[.tmp j,.cell A 44,.tmp k]) (hj:a.tmps[j]?.getD undef=q) (hA:a.tmps[A]?.getD undef=.pointer b) {c:Int} (hc:SBox W b c y) (hk:a.tmps[k]?.getD undef=e) (hd:a.defers=[])
 (h:R (.returned (.tuple #[q,.agg #[c,y],e])) W):bodyPost Tryz.prog fn R .ret a W:=by
 obtain⟨d0,d1⟩:=hc.cells
 refine bodyPost_ret ?_ hd h
 unfold results
 rw [hf]
 simp [go_sem,hA,hk,hj,d0,d1]
end
section
open Go.RowKit
def sv (x:Int) (v:Value):Value:=.agg #[x,v]
set_option maxRecDepth 100000 in
theorem zb_g (x y:Int) (a b:Option Addr) (n m c d:Nat) (ls ks:List Pin) (w:World) (h:SlN w a n c ls) (h':SlN w b m d ks) :
 Calls Tryz.prog 22 #[sv x (.slice a n c),sv y (.slice b m d)] w fun e w'=>e=.returned (.bool (decide (x=y/\ls=ks)))/\Ext w w':=by
 have hb0:=(Below.refl w.heap.size w).alloc (zN _) (.cells #[x,.slice a n c] 44)
 have hs0:=SBox.new w x (.slice a n c)
 unfold sv
 obtain⟨W0,hW0⟩:∃ W0,w.alloc (.cells #[x,.slice a n c] 44)=W0:=⟨_,rfl⟩
 have hz0:W0.heap.size=w.heap.size+1:=by rw [<-hW0];simp
 rw [hW0] at hb0 hs0
 have hb1:=(Below.refl W0.heap.size W0).alloc (zN _) (.cells #[y,.slice b m d] 44)
 have hs1:=SBox.new W0 y (.slice b m d)
 have hs0':=hs0.ext hb1
 have hB:Ext w (W0.alloc (.cells #[y,.slice b m d] 44)):=hb0.trans (hb1.mono hb0.size)
 have HK:=zH (zn_k a b n m c d ls ks _ (h.ext hB) (h'.ext hB))
 obtain⟨q0,q1⟩:=hs0'.cells
 obtain⟨q2,q3⟩:=hs1.cells
 have l0:=za_a hs0'
 have l1:=za_a hs1
 obtain⟨W1,hW1⟩:∃ W1,W0.alloc (.cells #[y,.slice b m d] 44)=W1:=⟨_,rfl⟩
 rw [hW1] at q0 q1 q2 q3 l0 l1 hB HK
 have HW0:=zH hW0
 have HW1:=zH hW1
 have HB:=zH hB
 clear hs0 hs1 hs0' hb0 hb1 hW0 hW1 hB h h'
 by_cases hxy:x=y
 ·subst hxy
  have HE:=zH (show decide (x=x/\ls=ks)=decide (ls=ks) by apply decide_eq_decide.2;simp)
  rw [HE.out]
  generalize decide (ls=ks)=r at *
  go_enter Tryz.func22,Tryz.ntmps22
  go_wp2_with fail
  rw [HW0.out,HW1.out]
  go_wp2_with fail
  refine HK.out.mono ?_;rintro e w1 ⟨rfl,hB1⟩
  go_wp2_with fail
  go_ret
  exact⟨rfl,HB.out.trans (hB1.mono HB.out.size)⟩
 ·have HE:=zH (show decide (x=y/\ls=ks)=false from decide_eq_false (fun e=>hxy e.1))
  rw [HE.out]
  have t1:(x == y)=false:=beq_eq_false_iff_ne.2 hxy
  go_enter Tryz.func22,Tryz.ntmps22
  go_wp2_with fail
  rw [HW0.out,HW1.out]
  go_wp2_with fail
  go_ret
  exact⟨rfl,HB.out⟩
end
section
open Go.RowKit
set_option maxRecDepth 100000 in
set_option maxHeartbeats 4000000 in
theorem acc33 (c c1 c2 z:Int) (a a1 a2:Option Addr) (n n1 n2 k k1 k2:Nat) (L L1 L2:List Pin) (pe:Bool) (w:World) (h:SlN w a n k L) (h1:SlN w a1 n1 k1 L1) (h2:SlN w a2 n2 k2 L2) :
 Calls Tryz.prog 30 #[.agg #[c,.slice a n k],z,.agg #[c1,.slice a1 n1 k1],.agg #[c2,.slice a2 n2 k2],.bool pe] w
  fun e w'=>e=.returned (.bool (decide (z ≠ 0) || (!decide (c=c1/\L=L1) && !(pe && decide (c=c2/\L=L2)))))/\Below w.heap.size w w':=by
 have hb0:=((((Below.refl w.heap.size w).alloc (zN _) (.cells #[c,.slice a n k] 44)).alloc (by simp) (.cells #[c1,.slice a1 n1 k1] 44)).alloc (by simp;omega) (.cells #[c2,.slice a2 n2 k2] 44))
 obtain⟨W0,hW0⟩:∃ W0,((w.alloc (.cells #[c,.slice a n k] 44)).alloc (.cells #[c1,.slice a1 n1 k1] 44)).alloc (.cells #[c2,.slice a2 n2 k2] 44)=W0:=⟨_,rfl⟩
 have x0:SBox W0 w.heap.size c (.slice a n k):=by
  rw [<-hW0];exact SBox.ext (SBox.ext (SBox.new w c _) ((Ext.refl _).alloc _)) ((Ext.refl _).alloc _)
 have x1:SBox W0 (w.heap.size+1) c1 (.slice a1 n1 k1):=by
  have:=SBox.new (w.alloc (.cells #[c,.slice a n k] 44)) c1 (.slice a1 n1 k1)
  rw [show (w.alloc (.cells #[c,.slice a n k] 44)).heap.size=w.heap.size+1 by simp] at this
  rw [<-hW0];exact SBox.ext this ((Ext.refl _).alloc _)
 have x2:SBox W0 (w.heap.size+2) c2 (.slice a2 n2 k2):=by
  have:=SBox.new ((w.alloc (.cells #[c,.slice a n k] 44)).alloc (.cells #[c1,.slice a1 n1 k1] 44)) c2 (.slice a2 n2 k2)
  rw [show ((w.alloc (.cells #[c,.slice a n k] 44)).alloc (.cells #[c1,.slice a1 n1 k1] 44)).heap.size=w.heap.size+2 by simp] at this
  rw [<-hW0];exact this
 rw [hW0] at hb0
 have HC:=zH (fun W (e:Below W0.heap.size W0 W)=>And.intro (SBox.ext x0 e).al (And.intro (SBox.ext x1 e).al (SBox.ext x2 e).al))
 have HS1:=zH (fun W (e:Below W0.heap.size W0 W)=>zb_g c c1 a a1 n n1 k k1 L L1 W ((h.ext hb0).ext e) ((h1.ext hb0).ext e))
 have HS2:=zH (fun W (e:Below W0.heap.size W0 W)=>zb_g c c2 a a2 n n2 k k2 L L2 W ((h.ext hb0).ext e) ((h2.ext hb0).ext e))
 unfold sv at HS1 HS2
 obtain⟨r1,hr1⟩:∃ r,decide (c=c1/\L=L1)=r:=⟨_,rfl⟩
 obtain⟨r2,hr2⟩:∃ r,decide (c=c2/\L=L2)=r:=⟨_,rfl⟩
 rw [hr1] at HS1
 rw [hr2] at HS2
 rw [hr1,hr2]
 have HW0:=zH hW0
 have HB0:=zH hb0
 have HR:=zH (Below.refl W0.heap.size W0)
 obtain⟨⟨⟨y0,y1⟩,-,l0⟩,⟨⟨y2,y3⟩,-,l1⟩,⟨y4,y5⟩,-,l2⟩:=HC.out _ HR.out
 clear hr1 hr2 h h1 h2 x0 x1 x2 hW0 hb0
 by_cases hz:z=0
 case' neg=>
  have t0:(z != 0)=true:=by simpa using hz
  rw [decide_eq_true (show z ≠ 0 from hz)]
 case' pos=>
  subst hz
  cases r1 <;> cases pe <;> try cases r2
 all_goals
  go_enter Tryz.func30,Tryz.ntmps30
  go_wp2_with fail
  rw [HW0.out]
  go_wp2_with (first
  |(go_at_call_of 22 (Value.agg #[c1,.slice a1 n1 k1]);go_must (refine (HS1.out _ HR.out).mono ?_);rintro e w1 ⟨rfl,hb1⟩;obtain⟨⟨⟨q0,q1⟩,-,m0⟩,-,⟨q4,q5⟩,-,m2⟩:=HC.out _ hb1)
  |(go_at_call_of 22 (Value.agg #[c2,.slice a2 n2 k2]);go_must (refine (HS2.out _ hb1).mono ?_);rintro e w2 ⟨rfl,hb2⟩))
  go_ret
  first
  |exact⟨rfl,HB0.out⟩
  |exact⟨rfl,HB0.out.trans (Below.mono hb1 HB0.out.size)⟩
  |exact⟨rfl,HB0.out.trans (Below.mono ((Below.trans hb1 (Below.mono hb2 (Below.size hb1)))) HB0.out.size)⟩
end
section
open Go.RowKit
variable {w:World} {v:Value} {B g:Nat} {c:Int}
theorem SBox.set2' (hb:SBox w B c v) (c':Int) (v':Value):SBox ((w.setCell B (c':Value)).setCell (B 1) v') B c' v' :=
 heap_setCell_same _ B 1 _ _ _ (heap_setCell_same _ B 0 _ _ _ hb)
theorem SBox.other' (hb:SBox w B c v) (hne:g ≠ B) (i:Nat) (u:Value):SBox (w.setCell (g i) u) B c v :=
 (heap_setCell_other _ _ _ _ (fun e=>hne e.symm)).trans hb
theorem OwnN.set' {base:Nat} {l:List Pin} (h:OwnN base w v l) (hne:v.ownBlock ≠ some g) (i:Nat) (u:Value):OwnN base (w.setCell (g i) u) v l :=
 h.stay fun k hk=>heap_setCell_other _ _ _ _ (fun e=>hne (by rw [hk,e]))
theorem zg_z (a:Option Addr) (n c:Nat) (l:List Pin) (w:World) (h:SlN w a n c l) (hn:n<=1000000) :
 Calls Tryz.prog 71 #[.slice a n c] w fun e w'=>∃ a9 c9,e=.returned (.slice a9 n c9)/\OwnN w.heap.size w' (.slice a9 n c9) l/\Below w.heap.size w w' :=
 (zi_g a n c l w h hn).mono fun e w' ⟨v,he,ho,hb⟩=>by
  obtain⟨a9,c9,hv,-,-⟩:=ho.sl
  rw [h.len] at hv
  subst hv
  exact⟨a9,c9,he,ho,hb⟩
set_option maxRecDepth 100000 in
set_option maxHeartbeats 2000000 in
theorem zh_a (x:Int) (a:Option Addr) (n c:Nat) (ls:List Pin) (w:World) (h:SlN w a n c ls) (hn:n<=1000000) :
 Calls Tryz.prog 25 #[sv x (.slice a n c)] w fun e w'=>∃ a9 c9,e=.returned (sv x (.slice a9 n c9))/\OwnN w.heap.size w' (.slice a9 n c9) ls/\Ext w w':=by
 have hb0:=(Below.refl w.heap.size w).alloc (zN _) (.cells #[x,.slice a n c] 44)
 have hs0:=SBox.new w x (.slice a n c)
 unfold sv
 obtain⟨W0,hW0⟩:∃ W0,w.alloc (.cells #[x,.slice a n c] 44)=W0:=⟨_,rfl⟩
 have hz0:W0.heap.size=w.heap.size+1:=by rw [<-hW0];simp
 rw [hW0] at hb0 hs0
 have hb1:=(Below.refl W0.heap.size W0).alloc (zN _) (.cells #[.int .i64 0,.slice none 0 0] 44)
 have hs1:=SBox.new W0 0 (.slice none 0 0)
 rw [hz0] at hs1
 have hs0':=hs0.ext hb1
 have hB:Ext w (W0.alloc (.cells #[.int .i64 0,.slice none 0 0] 44)):=hb0.trans (hb1.mono hb0.size)
 obtain⟨W1,hW1⟩:∃ W1,W0.alloc (.cells #[.int .i64 0,.slice none 0 0] 44)=W1:=⟨_,rfl⟩
 rw [hW1] at hs1 hs0' hB
 have HK:=zH (zg_z a n c ls W1.drew (h.ext hB.drew) hn)
 obtain⟨q0,q1⟩:=hs0'.cells
 have l0:=za_a hs0'
 have HKS:=zH (show ∀ W,SBox W w.heap.size x (.slice a n c)->SBox W w.heap.size x (.slice a n c)/\W.cell? w.heap.size=some (x:Value)/\W.cell? (w.heap.size 1)=some (.slice a n c)/\w.heap.size < W.heap.size from fun W h=>⟨h,h.cells.1,h.cells.2,za_a h⟩)
 have HW0:=zH hW0
 have HW1:=zH hW1
 have HB:=zH hB
 have HS0:=zH hs0'
 have HS1:=zH hs1
 clear hs0 hs0' hs1 hb0 hb1 hW0 hW1 hB h hz0
 go_enter Tryz.func25,Tryz.ntmps25
 go_wp2_with fail
 rw [HW0.out,HW1.out]
 go_region_held3 (fun w'=>SBox w' w.heap.size x (.slice a n c)/\w'.cell? w.heap.size=some (x:Value)/\w'.cell? (w.heap.size 1)=some (.slice a n c)/\w.heap.size < w'.heap.size) (first|assumption|exact HKS.out _ HS0.out|exact HKS.out _ hS1|exact HKS.out _ ((hS1.other' (by omega) _ _).other' (by omega) _ _)) (first|(go_at_call 71;go_must (refine HK.out.mono ?_);rintro e w1 ⟨a1,c1,rfl,ho,hb1⟩;have hS1:SBox w1 w.heap.size x (.slice a n c):=SBox.ext (w:=W1.drew) HS0.out hb1;have HR1:=zH (SBox.ext (w:=W1.drew) HS1.out hb1);obtain⟨⟨r0,r1⟩,fr,lr⟩:=HR1.out.al))
 have hfin:=(HR1.out).set2' x (.slice a1 n c1)
 have d0:=hfin.cells.1
 have d1:=hfin.cells.2
 clear r0 r1 fr lr hS1 q0 q1 l0
 go_wp2_with fail
 have hbb:=HB.out.drew.trans (hb1.mono HB.out.size)
 have hz1:w.heap.size+1 < W1.heap.size:=za_a HS1.out
 refine bodyPost_ret (v:=.agg #[x,.slice a1 n c1]) (by simp [results,Tryz.results25,go_sem,d0,d1]) rfl ⟨a1,c1,rfl,?_,?_⟩
 ·have hne:(Value.slice a1 n c1).ownBlock ≠ some (w.heap.size+1):=fun e=>by
   have:=(ho.lt _ e).1
   simp at this;omega
  exact ((ho.set' hne 0 _).set' hne 1 _).mono HB.out.size
 ·exact below2 hbb (Nat.le_succ _)
end
section
open Go.RowKit
theorem Upt.stValid_load (ck:Int) (L:List Pin):Upt.stValid ck L=decide (0<=ck/\ck<=1099511627776/\Tab.load L 1000=0):=by
 unfold Upt.stValid Tab.load
 apply decide_eq_decide.2
 rw [if_neg (by omega)]
 by_cases h2:(1000:Int) < L.length
 ·rw [if_pos h2]
  exact⟨fun e=>by omega,fun e=>by omega⟩
 ·rw [if_neg h2]
  exact⟨fun e=>⟨e.1,e.2.1,e.2.2.2⟩,fun e=>⟨e.1,e.2.1,by omega,e.2.2⟩⟩
set_option maxHeartbeats 4000000 in
set_option maxRecDepth 100000 in
theorem zd_j (ck:Int) (a:Option Addr) (n c:Nat) (L:List Pin) (w:World) (h:SlN w a n c L) (hn:n<=1000000) (hL:∀ p ∈ L,p.h.length<=1000000) :
 Calls Tryz.prog 56 #[.agg #[ck,.slice a n c]] w fun e w'=>e=.returned (.bool (Upt.stValid ck L))/\Ext w w':=by
 have hr:=Upt.stValid_load ck L
 obtain⟨r,hrr⟩:∃ r,Upt.stValid ck L=r:=⟨_,rfl⟩
 rw [hrr] at hr ⊢
 have hb0:=(Below.refl w.heap.size w).alloc (zN _) (.cells #[ck,.slice a n c] 44)
 have HB0:=zH hb0
 have HLD:=zH (zs_r 1000 a n c L _ (h.ext hb0) hn hL)
 have hln:=h.len
 have h0:n=0->Tab.load L 1000=0:=fun e=>by
  have:L=[]:=List.eq_nil_of_length_eq_zero (by omega)
  subst this;rfl
 obtain⟨z,hz⟩:∃ z,Tab.load L 1000=z:=⟨_,rfl⟩
 rw [hz] at hr h0 HLD
 clear hz hrr hb0 h hL
 by_cases h1:ck < 0
 ·have hrf:r=false:=by rw [hr];exact decide_eq_false (fun e=>by omega)
  subst hrf
  clear hr hln h0
  go_enter Tryz.func56,Tryz.ntmps56
  go_wp2_with fail
  go_ret
  exact⟨rfl,HB0.out⟩
 have t1:decide (0<=ck)=true:=decide_eq_true (by omega)
 by_cases h2:1099511627776 < ck
 ·have hrf:r=false:=by rw [hr];exact decide_eq_false (fun e=>by omega)
  subst hrf
  clear hr hln h0
  go_enter Tryz.func56,Tryz.ntmps56
  go_wp2_with fail
  go_ret
  exact⟨rfl,HB0.out⟩
 have t2:decide (ck<=1099511627776)=true:=decide_eq_true (by omega)
 have hr2:r=decide (z=0):=by rw [hr];apply decide_eq_decide.2;exact⟨fun e=>e.2.2,fun e=>⟨by omega,by omega,e⟩⟩
 clear hr
 by_cases hn0:n=0
 ·have hrt:r=true:=by rw [hr2];exact decide_eq_true (h0 hn0)
  subst hrt;subst hn0
  clear hr2 h0 hln
  go_enter Tryz.func56,Tryz.ntmps56
  go_wp2_with fail
  go_ret
  exact⟨rfl,HB0.out⟩
 ·have t3:((n:Int) == 0)=false:=beq_eq_false_iff_ne.2 (by omega)
  have HR:=zH hr2
  have HZ:=zH (show (w.alloc (.cells #[ck,.slice a n c] 44)).heap.size=w.heap.size+1 by simp)
  clear hr2 h0 hln hn0
  go_enter Tryz.func56,Tryz.ntmps56
  go_wp2_with fail
  refine HLD.out.mono ?_;rintro e w1 ⟨rfl,hb1⟩
  go_wp2_with fail
  go_ret
  exact⟨by rw [HR.out];rfl,HB0.out.trans (hb1.mono HB0.out.size)⟩
end
section
open Go.RowKit
set_option maxRecDepth 100000 in
set_option maxHeartbeats 2000000 in
theorem zd_n (β:Bool) (u:UpdV) (hu:u.p.h.length<=1000000) (w:World) :
 Calls Tryz.prog (cond β 122 57) #[uv u] w fun e w'=>e=.returned (.bool (Upt.valid u))/\Ext w w':=by
 have P0:=zH (@zd_i β)
 have HQ:=Mk.mk β
 cases β <;> dsimp only [cond]
 all_goals
  have HV:=zH (fun W=>P0.out u.p hu W)
  first|(replace HQ:Mk true:=HQ;have HN:=zH (fun W=>zc_i u.p.h hu W))|have HN:=zH (fun W=>zb_s u.p.h hu W)
  have hb0:=(Below.refl w.heap.size w).alloc (zN _) (.cells (uc u) 36)
  have hbx:=UBox.new w u.k (str u.p.h) u.p.s u.p.x
  have hr:Upt.valid u=if u.k=1 then Pin.valid u.p else if u.k=2 then Host.name u.p.h && decide (u.p.s=false/\u.p.x=0) else false:=rfl
  obtain⟨r,hrr⟩:∃ r,Upt.valid u=r:=⟨_,rfl⟩
  rw [hrr] at hr ⊢
  unfold uv
  unfold uc at hb0 ⊢
  unfold pv at HV
  obtain⟨vb,hvb⟩:∃ b,Pin.valid u.p=b:=⟨_,rfl⟩
  obtain⟨nb,hnb⟩:∃ b,Host.name u.p.h=b:=⟨_,rfl⟩
  rw [hvb] at HV hr
  rw [hnb] at HN hr
  obtain⟨sh,hsh⟩:∃ s,str u.p.h=s:=⟨_,rfl⟩
  rw [hsh] at HV HN hb0 hbx ⊢
  obtain⟨ps,hps⟩:∃ s,u.p.s=s:=⟨_,rfl⟩
  obtain⟨px,hpx⟩:∃ s,u.p.x=s:=⟨_,rfl⟩
  obtain⟨k,hk⟩:∃ k,u.k=k:=⟨_,rfl⟩
  rw [hps] at HV hr hb0 hbx ⊢
  rw [hpx] at HV hr hb0 hbx ⊢
  rw [hk] at hr hb0 hbx ⊢
  have hz:(w.alloc (.cells #[k,.string sh,.bool ps,px] 36)).heap.size=w.heap.size+1:=by simp
  have HB0:=zH hb0
  have HBX:=zH hbx
  have HZ:=zH hz
  clear hrr hvb hnb hsh hps hpx hk hb0 hbx hz hu
  by_cases k1:k=1
  ·rw [if_pos k1] at hr
   subst k1
   subst hr
   first|(go_at_call 122;go_enter Tryz.func122,Tryz.ntmps122)|go_enter Tryz.func57,Tryz.ntmps57
   go_wp2_with fail
   refine (HV.out _).mono ?_;rintro e w1 ⟨rfl,hb1⟩
   rw [HZ.out] at hb1
   go_wp2_with fail
   go_ret
   exact⟨rfl,HB0.out.trans (hb1.mono (Nat.le_succ _))⟩
  ·rw [if_neg k1] at hr
   have t1:(k == 1)=false:=beq_eq_false_iff_ne.2 k1
   by_cases k2:k=2
   ·rw [if_pos k2] at hr
    subst k2
    have HR:=zH hr
    clear hr k1 t1
    cases nb with
   |false =>
     have hrf:r=false:=by rw [HR.out];rfl
     subst hrf
     first|(go_at_call 122;go_enter Tryz.func122,Tryz.ntmps122)|go_enter Tryz.func57,Tryz.ntmps57
     go_wp2_with fail
     refine (HN.out _).mono ?_;rintro e w1 ⟨rfl,hb1⟩
     rw [HZ.out] at hb1
     have hP1:UBox w1 w.heap.size 2 sh ps px:=(hb1.block _ (Nat.lt_succ_self _)).trans HBX.out
     obtain⟨q0,q1,q2,q3⟩:=hP1.cells
     have hlt:=za_a hP1
     clear hP1
     go_wp2_with fail
     go_ret
     exact⟨rfl,HB0.out.trans (hb1.mono (Nat.le_succ _))⟩
   |true =>
     have hrt:r=(!ps && px == 0):=by
      rw [HR.out,Bool.true_and]
      cases ps <;> by_cases h0:px=0 <;> simp [h0]
     have HRT:=zH hrt
     clear hrt HR
     cases ps
     all_goals
      by_cases h0:px=0
      all_goals
       first
       |(have hrr:r=true:=by rw [HRT.out,h0];rfl)
       |(have hrr:r=false:=by rw [HRT.out];simp [h0])
       subst hrr
       first|subst h0|skip
       first|(go_at_call 122;go_enter Tryz.func122,Tryz.ntmps122)|go_enter Tryz.func57,Tryz.ntmps57
       go_wp2_with fail
       refine (HN.out _).mono ?_;rintro e w1 ⟨rfl,hb1⟩
       rw [HZ.out] at hb1
       have hP1:UBox w1 w.heap.size 2 sh _ _:=(hb1.block _ (Nat.lt_succ_self _)).trans HBX.out
       obtain⟨q0,q1,q2,q3⟩:=hP1.cells
       have hlt:=za_a hP1
       clear hP1
       go_wp2_with fail
       go_ret
       exact⟨rfl,HB0.out.trans (hb1.mono (Nat.le_succ _))⟩
   ·rw [if_neg k2] at hr
    have t2:(k == 2)=false:=beq_eq_false_iff_ne.2 k2
    subst hr
    first|(go_at_call 122;go_enter Tryz.func122,Tryz.ntmps122)|go_enter Tryz.func57,Tryz.ntmps57
    go_wp2_with fail
    go_ret
    exact⟨rfl,HB0.out⟩
end
section
open Go.RowKit
set_option maxRecDepth 100000
theorem zq_z (p:Pin) (t:List UInt8) (hp:p.h.length<=1000000) (ht:t.length<=1000000) (w:World) :
 Calls Tryz.prog 163 #[pv p,.string (str t)] w fun e w'=>e=.returned (.int .i64 (Host.cmp p.h t))/\Below w.heap.size w w':=by
 have HC:=zH (fun W=>zg_j p.h t hp ht W)
 have hb0:=(Below.refl w.heap.size w).alloc (zN _) (.cells (pc p) 34)
 obtain⟨ph,ps,px⟩:=p
 unfold pv
 unfold pc at hb0
 simp only at hb0 HC ⊢
 generalize str ph=sh at *
 generalize str t=st at *
 have HB0:=zH hb0
 clear hb0
 go_enter Tryz.func163,Tryz.ntmps163
 go_wp2_with fail
 refine (HC.out _).mono ?_;rintro e w1 ⟨rfl,hb1⟩
 go_wp2_with fail
 go_ret
 exact⟨rfl,HB0.out.trans (hb1.mono HB0.out.size)⟩
set_option maxHeartbeats 4000000 in
theorem zm_j (a:Option Addr) (n c:Nat) (L:List Pin) (t:List UInt8) (w:World) (h:SlN w a n c L) (hn:n<=1000000) (hA:Tab.Asc L) (hL:∀ p ∈ L,p.h.length<=1000000) (ht:t.length<=1000000) :
 Calls Tryz.prog 162 #[.slice a n c,.string (str t),.func (.func 163) #[] #[]] w
  fun e w'=>e=.returned (.tuple #[.int .i64 (Tab.lo L t:Nat),.bool (Tab.hit L t)])/\Below w.heap.size w w':=by
 have HL:=zH hL
 have HLN:=zH h.len
 have HF:=zH (fun p hp W=>zq_z p t hp ht W)
 have HLO:=zH (fun (k:Nat) (p:Pin) (hk:L[k]?=some p)=>Tab.lo_iff hA t hk)
 have HLE:=zH (Tab.lo_le L t)
 obtain⟨lo,hlo⟩:∃ lo,Tab.lo L t=lo:=⟨_,rfl⟩
 have HHI:=zH (show Tab.hit L t=match L[lo]? with|some p=>decide (p.h=t)|none=>false by rw [<-hlo];rfl)
 rw [hlo] at HLO HLE ⊢
 generalize Tab.hit L t=hit at *
 obtain⟨st,hst⟩:∃ st,str t=st:=⟨_,rfl⟩
 rw [hst] at HF ⊢
 clear hlo hst hA hL
 go_enter Tryz.func162,Tryz.ntmps162
 go_wp2_with fail
 go_loopw [9,10] (fun i j wr=>∃ (i' j':Nat),i=.int .i64 (i':Nat)/\j=.int .i64 (j':Nat)/\i'<=lo/\lo<=j'/\j'<=n/\Below w.heap.size w wr) (fun i j _=>(intOf j).toNat - (intOf i).toNat)
 case atStart=>exact⟨0,n,rfl,rfl,Nat.zero_le _,by have:=HLE.out;rw [HLN.out] at this;exact this,zN _,Below.refl _ _⟩
 case round =>
  obtain⟨i,j,rfl,rfl,h1,h2,h3,hB⟩:=hrel
  have i0:(0:Int)<=(i:Int):=by omega
  by_cases hij:i < j
  ·have i1:(i:Int) < (j:Int):=by omega
   obtain⟨m,hm⟩:∃ m:Nat,(i+j) / 2=m:=⟨_,rfl⟩
   have m1:i<=m:=by omega
   have m2:m < j:=by omega
   have m3:m < n:=by omega
   have m4:(m:Int) < (n:Int):=by omega
   have m5:(0:Int)<=(m:Int):=by omega
   have e1:((i:Int)+(j:Int)) / 2=(m:Int):=by omega
   have e2:IntKind.u64.wrap ((i:Int)+(j:Int))=(i:Int)+(j:Int):=by unfold IntKind.wrap;simp only [IntKind.bits,IntKind.signed];simp;omega
   obtain⟨bb,o,rfl,hbb,hkl,c1,c2,c3⟩:=(h.ext hB).at m3
   rw [List.getElem?_eq_getElem hkl,Option.getD_some] at c1 c2 c3
   have HMEM:=zH (List.getElem_mem hkl)
   have HIF:=zH (HLO.out m _ (List.getElem?_eq_getElem hkl))
   generalize L[m]=p at *
   have HFP:=zH (fun W=>HF.out p (HL.out p HMEM.out) W)
   obtain⟨ph,ps,px⟩:=p
   unfold pv at HFP
   simp only at c1 c2 c3 HFP HIF
   generalize str ph=sh at *
   generalize Host.cmp ph t=cc at *
   clear hkl hm
   by_cases hcc:cc < 0
   ·have hlm:=HIF.out.1 hcc
    go_wp2_with fail
    refine (HFP.out _).mono ?_;rintro e w1 ⟨rfl,hb1⟩
    go_wp2_with fail
    go_roundw
    case rel=>exact⟨m+1,j,by go_num,rfl,by omega,h2,h3,hB.trans (hb1.mono hB.size)⟩
    case measure=>simp [intOf];omega
   ·have hlm:¬ m < lo:=fun e=>hcc (HIF.out.2 e)
    go_wp2_with fail
    refine (HFP.out _).mono ?_;rintro e w1 ⟨rfl,hb1⟩
    go_wp2_with fail
    go_roundw
    case rel=>exact⟨i,m,rfl,rfl,h1,by omega,by omega,hB.trans (hb1.mono hB.size)⟩
    case measure=>simp [intOf];omega
  ·obtain rfl:i=lo:=by omega
   obtain rfl:j=i:=by omega
   by_cases hjn:j < n
   ·have m4:(j:Int) < (n:Int):=by omega
    obtain⟨bb,o,rfl,hbb,hkl,c1,c2,c3⟩:=(h.ext hB).at hjn
    rw [List.getElem?_eq_getElem hkl] at HHI
    rw [List.getElem?_eq_getElem hkl,Option.getD_some] at c1 c2 c3
    have HMEM:=zH (List.getElem_mem hkl)
    generalize L[j]=p at *
    have HFP:=zH (fun W=>HF.out p (HL.out p HMEM.out) W)
    have hh2:hit=(Host.cmp p.h t == 0):=by
     rw [HHI.out,Bool.eq_iff_iff];simp only [decide_eq_true_eq,beq_iff_eq]
     exact⟨fun e=>by rw [e];exact Host.cmp_self _,fun e=>Host.cmp_eq e⟩
    obtain⟨ph,ps,px⟩:=p
    unfold pv at HFP
    simp only at c1 c2 c3 HFP ⊢
    simp only at hh2
    generalize str ph=sh at *
    generalize Host.cmp ph t=cc at *
    have HH2:=zH hh2
    clear hkl hh2
    go_wp2_with fail
    refine (HFP.out _).mono ?_;rintro e w1 ⟨rfl,hb1⟩
    go_wp2_with fail
    go_ret2
    exact⟨by rw [HH2.out];rfl,hB.trans (hb1.mono hB.size)⟩
   ·obtain rfl:j=n:=by omega
    have hf:hit=false:=by rw [HHI.out,List.getElem?_eq_none (by rw [HLN.out];exact zN _)]
    subst hf
    go_wp2_with fail
    go_ret2
    exact⟨rfl,hB⟩
end
end Go.Proofs.YtmanejniepghlaaGreatDoor
