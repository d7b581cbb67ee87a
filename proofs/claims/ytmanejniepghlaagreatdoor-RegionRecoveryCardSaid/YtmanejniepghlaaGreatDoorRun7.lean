import Derived.Test.YtmanejniepghlaaGreatDoorRun6
import Derived.Lib.MinMax
import Derived.Test.YtmanejniepghlaaGreatDoorRun0
namespace Go.Proofs.YtmanejniepghlaaGreatDoor
section
open Go.RowKit
variable {w w':World} {base g:Nat} {z:Int} {v:Value} {l:List UInt8}
theorem ze_l (k:Nat) (bias:Int) (w:World) (hk:k<=3000000000000) (h0:0<=bias) (h1:bias<=1000):Calls Tryz.prog 229 #[k,bias] w fun e w'=>e=.returned (.int .i64 (Puny.thr k bias))/\w=w':=by
 have HT:=zH (show max 1 (min 26 (36 * ((k:Int)+1) - bias))=Puny.thr k bias by unfold Puny.thr;omega)
 go_enter Tryz.func229,Tryz.ntmps229
 go_wp2
 rw [HT.out]
 go_ret
 exact⟨rfl,rfl⟩
def IBox (w:World) (g:Nat) (z:Int):Prop:=w.heap[g]?=some (.cells #[z] 3 (0,0))
theorem IBox.cell (h:IBox w g z):w.cell? g=some (z:Value):=by rw [cell_of_row _ _ _ _ _ _ h];rfl
theorem IBox.free (h:IBox w g z):w.frozen? g=false:=frozen_of_row _ _ _ _ _ h
theorem IBox.set (h:IBox w g z) (y:Int):IBox (w.setCell g (y:Value)) g y:=by
 unfold IBox
 rw [heap_setCell_same _ _ _ _ _ _ h];rfl
theorem IBox.other {g':Nat} (h:IBox w g z) (hg:g ≠ g') (v:Value):IBox (w.setCell g' v) g z:=(heap_setCell_other _ _ _ _ hg).trans h
theorem IBox.grownB (h:IBox w g z) (hv:OwnB base w v l) (hg:w.grownBy w' v.ownBlock):IBox w' g z:=by
 refine (hg.block g (za_a h) ?_).trans h
 intro e
 rcases hv.2 with⟨rfl,_⟩|⟨g',cap',cur',rfl,_,hgg',_⟩
 ·cases e
 ·simp [Value.ownBlock] at e
  subst e
  unfold IBox at h
  rw [hgg'] at h
  cases h
theorem OwnB.boxSet (hv:OwnB base w v l) (h:IBox w g z) (y:Value):OwnB base (w.setCell g y) v l:=by
 refine⟨hv.1,?_⟩
 rcases hv.2 with hn|⟨g',cap',cur',rfl,hb,hgg',rest⟩
 ·exact .inl hn
 ·refine .inr ⟨g',cap',cur',rfl,hb,?_,rest⟩
  have hne:g' ≠ g:=by
   rintro rfl
   unfold IBox at h
   rw [hgg'] at h
   cases h
  exact (heap_setCell_other _ _ _ _ hne).trans hgg'
theorem zd_g (bias:Int) (w:World):Calls Tryz.prog 259 #[bias] w fun e w' =>
 e=.returned (.func (.func 268) #[] #[.pointer (w.heap.size+1:Nat),.pointer w.heap.size])/\IBox w' w.heap.size bias/\IBox w' (w.heap.size+1) 0/\Below w.heap.size w w':=by
 have hmf:∀ (fn:Fn) (first cap:Array Value) (w:World),(Instr.makeFunc fn first cap).run Tryz.prog w=.ok (.func fn first cap) w:=fun _ _ _ _=>rfl
 go_enter Tryz.func259,Tryz.ntmps259
 go_wp2
 go_ret
 refine⟨rfl,?_,?_,((Below.refl _ _).alloc (zN _) _).alloc (by simp) _⟩
 ·exact (za_c _ _ _ (by simp)).trans (za_b _ _ _ rfl)
 ·exact za_b _ _ _ (by simp)
theorem zo_b (B0 B1:Nat) (k:Nat) (bias:Int) (w:World) (hb:IBox w B0 bias) (hk:IBox w B1 (36 * (k:Int))) (hne:B0 ≠ B1) (hk2:k<=3000000000000) (h0:0<=bias) (h1:bias<=1000) :
 Calls Tryz.prog 268 #[.pointer B1,.pointer B0] w fun e w' =>
  e=.returned (.int .i64 (Puny.thr k bias))/\IBox w' B0 bias/\IBox w' B1 (36 * ((k+1:Nat):Int))/\w'=w.setCell B1 (.int .i64 (36 * ((k:Int)+1))):=by
 have c0:=hb.cell
 have c1:=hk.cell
 have f1:=hk.free
 have e1:36 * (k:Int)+36=36 * ((k:Int)+1):=by omega
 have HT:=zH (show min (max (36 * (k:Int)+36 - bias) 1) 26=Puny.thr k bias by unfold Puny.thr;omega)
 have HE:=zH e1
 clear e1
 have hlt:=za_a hk
 go_enter Tryz.func268,Tryz.ntmps268
 go_wp2
 rw [HT.out]
 go_ret
 refine⟨rfl,hb.other hne _,?_,by rw [HE.out]⟩
 have:=hk.set (36 * ((k+1:Nat):Int))
 rw [HE.out]
 simpa using this
theorem SlB.oneBv (w:World) (b:UInt8) (t:TypeId):SlB (w.alloc (.cells #[.int .u8 (b.toNat:Int)] t)) w.heap.size 1 1 [b]:=SlB.one w b t
set_option maxHeartbeats 2000000 in
set_option maxRecDepth 100000 in
theorem zn_x (base:Nat) (v:Value) (l:List UInt8) (q bias:Int) (w:World) (h:OwnB base w v l) (hb:base<=w.heap.size) (hl:l.length<=1000000) (h0:0<=q) (h1:q<=1000000000000) (b0:0<=bias) (b1:bias<=1000) :
 Calls Tryz.prog 249 #[v,q,bias] w fun e w'=>∃ v',e=.returned v'/\OwnB base w' v' (l ++ Puny.numE q bias)/\Below base w w':=by
 obtain⟨R,hR⟩:∃ R,R=Puny.numE q bias:=⟨_,rfl⟩
 have hst:[] ++ Puny.digs (q.toNat+1) q 0 bias=R:=by rw [hR];rfl
 rw [<-hR]
 have HST:=zH hst
 clear hst hR
 go_enter Tryz.func249,Tryz.ntmps249
 go_wp2_with fail
 refine (zd_g bias _).mono ?_;rintro e w1 ⟨rfl,hB0,hB1,hb1⟩
 have hO1:=h.ext hb1
 have hw1:=hb1.mono hb
 have hz:w.heap.size ≠ w.heap.size+1:=by omega
 have hsz:=hb1.size
 have hB1':IBox w1 (w.heap.size+1) (36 * ((0:Nat):Int)):=by simpa using hB1
 clear hB1 hb1
 go_wp2
 go_loopw [0,1] (fun u y wr=>∃ (k:Nat) (x:Int) (f:Nat) (o:List UInt8),y=.int .i64 x/\0<=x/\(k:Int)+x<=q/\x < f/\OwnB base wr u (l ++ o)/\o.length<=k/\(k:Int)<=q/\Hid (o ++ Puny.digs f x k bias=R)/\IBox wr w.heap.size bias/\IBox wr (w.heap.size+1) (36 * (k:Int))/\Below base w wr) (fun _ y _=>(intOf y).toNat)
 case atStart=>exact⟨0,q,q.toNat+1,[],rfl,h0,by omega,by omega,by simpa using hO1,by simp,by omega,HST,hB0,hB1',hw1⟩
 case round =>
  obtain⟨k,x,f,o,rfl,hx,hkx,hf,hO,ho,hkq,HG,hK0,hK1,hB⟩:=hrel
  obtain⟨f,rfl⟩:∃ g,f=g+1:=⟨f - 1,by omega⟩
  have hsz2:=hB.size
  obtain⟨t1,t2⟩:=Puny.thr_bd k bias
  have hg:=HG.out
  rw [Puny.digs] at hg
  have hthr:=fun (W:World) a b=>zo_b w.heap.size (w.heap.size+1) k bias W a b hz (by omega) b0 b1
  have HTH:=zH hthr
  generalize Puny.thr k bias=t at *
  clear hthr
  by_cases hlt:x < t
  ·rw [if_pos hlt] at hg
   have HG2:=zH hg
   clear hg
   go_wp2_with fail
   refine (HTH.out _ hK0 hK1).mono ?_;rintro e w2 ⟨rfl,hK0',hK1',rfl⟩
   have hO2:=hO.boxSet hK1 (.int .i64 (36 * ((k:Int)+1)))
   have hB2:Below base w (wr.setCell (w.heap.size+1:Nat) (.int .i64 (36 * ((k:Int)+1)))):=hB.setCell (by simp;omega) _
   have hsz3:=hB2.size
   generalize wr.setCell (w.heap.size+1:Nat) (.int .i64 (36 * ((k:Int)+1)))=w2 at *
   go_wp2_with fail
   refine (ze_v true x _ hx (by omega)).mono ?_;rintro e w3 ⟨rfl,rfl⟩
   unfold bv
   go_wp2_with (at_builtin;go_must (refine za_d rfl _ _ rfl base _ (l ++ o) rfl (hO2.alloc _) w2.heap.size 1 1 [Puny.digit x] rfl (SlB.oneBv _ _ _) (by rw [List.length_append];omega) (by simp;omega) ?_);intro v' w4 hown hg4 _)
   have hB4:=(hB2.alloc (by omega) (.cells #[.int .u8 ((Puny.digit x).toNat:Int)] 5)).grown hg4 (by simp;omega) (fun k hk=>(hO2.lt k hk).1)
   go_ret
   exact⟨_,rfl,by rw [<-HG2.out,<-List.append_assoc];exact hown,hB4⟩
  ·rw [if_neg hlt] at hg
   have hn:=Puny.next_lt x t t1 t2 (by omega)
   have hd0:0<=(x - t) % (36 - t):=Int.emod_nonneg _ (by omega)
   have hd1:(x - t) % (36 - t) < 36 - t:=Int.emod_lt_of_pos _ (by omega)
   have HG2:=zH hg
   obtain⟨hn0,hn1,hn2⟩:=hn
   clear hg
   go_wp2_with fail
   refine (HTH.out _ hK0 hK1).mono ?_;rintro e w2 ⟨rfl,hK0',hK1',rfl⟩
   have hO2:=hO.boxSet hK1 (.int .i64 (36 * ((k:Int)+1)))
   have hB2:Below base w (wr.setCell (w.heap.size+1:Nat) (.int .i64 (36 * ((k:Int)+1)))):=hB.setCell (by simp;omega) _
   have hsz3:=hB2.size
   generalize wr.setCell (w.heap.size+1:Nat) (.int .i64 (36 * ((k:Int)+1)))=w2 at *
   go_wp2_with fail
   refine (ze_v true (t+(x - t) % (36 - t)) _ (by omega) (by omega)).mono ?_;rintro e w3 ⟨rfl,rfl⟩
   unfold bv
   have hl0:=za_a hK0'
   have hl1:=za_a hK1'
   go_wp2_with (at_builtin;go_must (refine za_d rfl _ _ rfl base _ (l ++ o) rfl (hO2.alloc _) w2.heap.size 1 1 [Puny.digit (t+(x - t) % (36 - t))] rfl (SlB.oneBv _ _ _) (by rw [List.length_append];omega) (by simp;omega) ?_);intro v' w4 hown hg4 _)
   have hB4:=(hB2.alloc (by omega) (.cells #[.int .u8 ((Puny.digit (t+(x - t) % (36 - t))).toNat:Int)] 5)).grown hg4 (by simp;omega) (fun k hk=>(hO2.lt k hk).1)
   have hK04:=(show IBox (w2.alloc (.cells #[.int .u8 ((Puny.digit (t+(x - t) % (36 - t))).toNat:Int)] 5)) w.heap.size bias from (za_c _ _ _ hl0).trans hK0').grownB (hO2.alloc _) hg4
   have hK14:=(show IBox (w2.alloc (.cells #[.int .u8 ((Puny.digit (t+(x - t) % (36 - t))).toNat:Int)] 5)) (w.heap.size+1) _ from (za_c _ _ _ hl1).trans hK1').grownB (hO2.alloc _) hg4
   clear hg4 hO2 hK0' hK1' hB2
   go_wp2
   go_roundw
   case rel =>
    refine⟨k+1,(x - t) / (36 - t),f,o ++ [Puny.digit (t+(x - t) % (36 - t))],rfl,hn0,by omega,by omega,by rw [<-List.append_assoc];exact hown,by simp;omega,by omega,zH ?_,hK04,hK14,hB4⟩
    rw [<-HG2.out];simp
   case measure=>simp [intOf];omega
end
section
open Go.RowKit
def PEncPost (ps:List Int) (w:World) (e:Ending) (w':World):Prop :=
 e=.returned (.tuple #[.string (str (Puny.enc ps).1),.int .i64 (Puny.enc ps).2])/\Below w.heap.size w w'
theorem zj_s {ps:List Int} {t:List UInt8} {er:Int} (hd:Puny.enc ps=(t,er)) {w:World} {e:Ending} {w':World} (he:e=.returned (.tuple #[.string (str t),er])) (hb:Below w.heap.size w w'):PEncPost ps w e w':=by
 unfold PEncPost;rw [hd];exact⟨he,hb⟩
theorem zr_q (p:Int) (h0:0<=p) (h1:p < 128):((UInt8.ofNat p.toNat).toNat:Int)=p:=by
 have:(UInt8.ofNat p.toNat).toNat=p.toNat:=by simp;omega
 rw [this];omega
end
section
open Go.RowKit
set_option maxHeartbeats 8000000 in
set_option maxRecDepth 100000 in
theorem zi_o (β:Bool) (a:Option Addr) (n c:Nat) (ps:List Int) (w:World) (h:SlI w a n c ps) (hi:∀ p ∈ ps,-9223372036854775808<=p/\p<=9223372036854775807) :
 Calls Tryz.prog (cond β 240 213) #[.slice a n c] w (PEncPost ps w):=by
 have P0:=zH (@zh_c β)
 have HQ:=Mk.mk β
 cases β <;> dsimp only [cond]
 all_goals
  have hle:=h.le
  have HLN:=zH h.len
  by_cases hn:256 < n
  ·have hd:Puny.enc ps=([],3):=by unfold Puny.enc;rw [if_pos (by rw [HLN.out];exact hn)]
   have HD:=zH hd
   have ht:(256:Int) < n:=by omega
   clear hd
   first|(go_at_call 240;go_enter Tryz.func240,Tryz.ntmps240)|go_enter Tryz.func213,Tryz.ntmps213
   go_wp2_with fail
   go_ret2
   exact zj_s HD.out rfl (Below.refl _ _)
  have ht:¬ (256:Int) < n:=by omega
  have hd2:¬ (∀ p ∈ ps,Puny.point p=true)->Puny.enc ps=([],2):=by
   intro hne
   unfold Puny.enc
   rw [if_neg (by rw [HLN.out];exact hn),if_neg (by rw [List.all_eq_true];exact hne)]
  have hd0:(∀ p ∈ ps,Puny.point p=true)->Puny.enc ps=(Puny.encode ps,0):=by
   intro hne
   unfold Puny.enc
   rw [if_neg (by rw [HLN.out];exact hn),if_pos (by rw [List.all_eq_true];exact hne)]
  have HD2:=zH hd2;have HD0:=zH hd0;have HI:=zH hi
  clear hd2 hd0 hi
  first|(go_at_call 240;go_enter Tryz.func240,Tryz.ntmps240)|go_enter Tryz.func213,Tryz.ntmps213
  go_wp2_with fail
  first|(replace HQ:Mk true:=HQ;go_loopw [4,22] (fun v i wr=>∃ k:Nat,k<=n/\i=.int .i64 k/\OwnB w.heap.size wr v (Puny.basics (ps.take k))/\Hid (∀ p ∈ ps.take k,Puny.point p=true)/\Below w.heap.size w wr) (fun _ i _=>n - (intOf i).toNat))|go_loopw [4,5] (fun v i wr=>∃ k:Nat,k<=n/\i=.int .i64 k/\OwnB w.heap.size wr v (Puny.basics (ps.take k))/\Hid (∀ p ∈ ps.take k,Puny.point p=true)/\Below w.heap.size w wr) (fun _ i _=>n - (intOf i).toNat)
  case atStart=>exact⟨0,Nat.zero_le _,rfl,OwnB.nil _ _,zH (by simp),Below.refl _ _⟩
  case round =>
   obtain⟨k,hk,rfl,hO,HP,hB⟩:=hrel
   have hsz:=hB.size
   by_cases hlt:k < n
   ·obtain⟨g,o,rfl,hg,hkl,hc1⟩:=(h.ext hB).at hlt
    rw [List.getElem?_eq_getElem hkl,Option.getD_some] at hc1
    have htk:ps.take (k+1)=ps.take k ++ [ps[k]]:=List.take_succ_eq_append_getElem hkl
    have hmem:ps[k] ∈ ps:=List.getElem_mem hkl
    have HTK:=zH htk;have HMEM:=zH hmem;have HPI:=zH (HI.out _ hmem)
    clear htk hmem
    generalize hpp:ps[k]=p at *
    clear hpp
    have b0:(0:Int)<=(k:Int):=by omega
    have b1:(k:Int) < (n:Int):=by omega
    have hbl:=Puny.basics_le (ps.take k)
    rw [List.length_take] at hbl
    have hbl2:(Puny.basics (ps.take k)).length<=256:=by omega
    have HBL:=zH hbl2
    clear hbl hbl2
    go_wp2_with fail
    refine (P0.out p _ HPI.out.1 HPI.out.2).mono ?_;rintro e w1 ⟨rfl,rfl⟩
    cases hp:Puny.point p with
   |false =>
     have hd:=HD2.out (fun hall=>by have:=hall p HMEM.out;rw [hp] at this;cases this)
     have HD:=zH hd
     clear hd hp
     go_wp2_with fail
     go_ret2
     exact zj_s HD.out rfl hB
   |true =>
     have hp2:=(Puny.point_iff p).1 hp
     have HNP:=zH (show ∀ q ∈ ps.take (k+1),Puny.point q=true by
      rw [HTK.out];intro q hq
      rcases List.mem_append.1 hq with hq|hq
      ·exact HP.out q hq
      ·simp at hq;rw [hq];exact hp)
     have hp0:0<=p:=hp2.1
     have hp1:p<=1114111:=hp2.2.1
     have hbs:=Puny.basics_snoc (ps.take k) p
     rw [<-HTK.out] at hbs
     clear hp hp2
     by_cases h128:p < 128
     ·rw [if_pos h128] at hbs
      have hbp:=zr_q p hp0 h128
      have HBS:=zH hbs
      have hone:=fun t=>SlB.oneBv wr (UInt8.ofNat p.toNat) t
      rw [hbp] at hone
      have HONE:=zH hone
      clear hbs hbp hone
      go_wp2_with (at_builtin;go_must (refine za_d rfl _ _ rfl w.heap.size _ _ rfl (hO.alloc _) wr.heap.size 1 1 [UInt8.ofNat p.toNat] rfl (HONE.out _) (by have:=HBL.out;omega) (by simp;omega) ?_);intro v' w4 hown hg4 _)
      have hB4:=(hB.alloc (by omega) (.cells #[.int .u8 p] 5)).grown hg4 (by simp;omega) (fun k hk=>(hO.lt k hk).1)
      clear hg4
      go_wp2
      go_roundw
      case rel=>exact⟨k+1,by omega,by go_num,by rw [HBS.out];exact hown,HNP,hB4⟩
      case measure=>simp [intOf];omega
     ·rw [if_neg h128] at hbs
      have HBS:=zH hbs
      clear hbs
      go_wp2
      go_roundw
      case rel=>exact⟨k+1,by omega,by go_num,by rw [HBS.out];exact hO,HNP,hB⟩
      case measure=>simp [intOf];omega
   ·obtain rfl:k=n:=by omega
    rw [List.take_of_length_le (by rw [HLN.out];omega)] at hO HP
    obtain⟨a1,c1,rfl,-,-⟩:=id hO.sl
    have HD:=zH (HD0.out HP.out)
    have HS:=zH (Puny.headOk_start ps HP.out)
    obtain⟨R,hR⟩:∃ R,R=Puny.encode ps:=⟨_,rfl⟩
    have hgo:Puny.encGo ps (Puny.basics ps).length (ps.length+1) 128 ⟨Puny.front ps,0,72,(Puny.basics ps).length⟩=R:=by rw [hR];rfl
    have HR:=zH hR;have HGO:=zH hgo
    have hbl:=Puny.basics_le ps
    rw [HLN.out] at hbl
    clear hR hgo HD0 HD2
    by_cases hb:Puny.basics ps=[]
    case' pos=>
     have hf:Puny.front ps=Puny.basics ps:=by unfold Puny.front;rw [if_pos hb];simp
     have hF:OwnB w.heap.size wr (.slice a1 (Puny.basics ps).length c1) (Puny.front ps):=by rw [hf];exact hO
     have hb0:(Puny.basics ps).length=0:=by rw [hb];rfl
     have ht0:¬ (0:Int) < ((Puny.basics ps).length:Int):=by omega
     have hB5:=hB
     clear hf hb hO hB hb0
     generalize (Puny.basics ps).length=basic at *
     go_wp2_with fail
     obtain⟨v5,hv5⟩:∃ v,v=Value.slice a1 basic c1:=⟨_,rfl⟩
     rw [<-hv5] at hF ⊢
     clear hv5
     obtain⟨w5,rfl⟩:∃ x,x=wr:=⟨_,rfl⟩
    case' neg=>
     have hf:Puny.front ps=Puny.basics ps ++ [45]:=by unfold Puny.front;rw [if_neg hb]
     have h1:0 < (Puny.basics ps).length:=List.length_pos_iff.2 hb
     have ht0:(0:Int) < ((Puny.basics ps).length:Int):=by omega
     have hone:=fun t=>SlB.oneBv wr 45 t
     rw [show (((45:UInt8).toNat:Nat):Int)=45 from rfl] at hone
     have HONE:=zH hone
     have HF:=zH hf
     clear hf hb hone h1
     go_wp2_with (at_builtin;go_must (refine za_d rfl _ _ rfl w.heap.size _ _ rfl (hO.alloc _) wr.heap.size 1 1 [45] rfl (HONE.out _) (by omega) (by simp;omega) ?_);intro v5 w5 hF hg5 _)
     have hB5:=(hB.alloc (by omega) (.cells #[.int .u8 45] 5)).grown hg5 (by simp;omega) (fun k hk=>(hO.lt k hk).1)
     rw [<-HF.out] at hF
     clear hg5 hO hB HF HONE
     generalize (Puny.basics ps).length=basic at *
     go_wp2_with fail
    all_goals
     have hs:=HS.out
     first|(replace HQ:Mk true:=HQ;go_loopw [4,8,9,10,11] (fun v nn dd bb dn wr=>∃ (N:Int) (out:List UInt8) (delta bias:Int) (done f:Nat),nn=.int .i64 N/\dd=.int .i64 delta/\bb=.int .i64 bias/\dn=.int .i64 done/\OwnB w.heap.size wr v out/\Hid (Puny.HeadOk ps N ⟨out,delta,bias,done⟩)/\Hid (Puny.encGo ps basic f N ⟨out,delta,bias,done⟩=R)/\k < f+done/\Below w.heap.size w wr) (fun _ _ _ _ dn _=>k - (intOf dn).toNat))|go_loopw [4,6,8,9,10] (fun v dn nn dd bb wr=>∃ (N:Int) (out:List UInt8) (delta bias:Int) (done f:Nat),nn=.int .i64 N/\dd=.int .i64 delta/\bb=.int .i64 bias/\dn=.int .i64 done/\OwnB w.heap.size wr v out/\Hid (Puny.HeadOk ps N ⟨out,delta,bias,done⟩)/\Hid (Puny.encGo ps basic f N ⟨out,delta,bias,done⟩=R)/\k < f+done/\Below w.heap.size w wr) (fun _ dn _ _ _ _=>k - (intOf dn).toNat)
     case atStart=>exact⟨128,Puny.front ps,0,72,basic,ps.length+1,rfl,rfl,rfl,rfl,hF,HS,HGO,by rw [HLN.out];omega,hB5⟩
     case round =>
      obtain⟨N,out,delta,bias,done,f,rfl,rfl,rfl,rfl,hO,HH,HG,hf,hBr⟩:=hrel
      have hszr:=hBr.size
      by_cases hdn:done < k
      ·obtain⟨f,rfl⟩:∃ g,f=g+1:=⟨f - 1,by omega⟩
       have hr:=Puny.headOk_round ps HP.out (by rw [HLN.out];omega) basic N ⟨out,delta,bias,done⟩ HH.out (by rw [HLN.out];exact hdn)
       have hnx:=Puny.encGo_next ps N basic ⟨out,delta,bias,done⟩ f (by rw [HLN.out];exact hdn)
       rw [HG.out] at hnx
       obtain⟨M,hM⟩:∃ M,M=Puny.least N 1114112 ps:=⟨_,rfl⟩
       rw [<-hM] at hr hnx
       obtain⟨r1,r2,r3,r4,r5,r6,r7⟩:=hr
       simp only at r3 r4 r7
       have n1:=HH.out.n1
       have n2:=HH.out.n2
       have d0:=HH.out.d0
       have d1:=HH.out.d1
       simp only at d0 d1
       first|(replace HQ:Mk true:=HQ;have HM:=zH hM;have HNX:=zH hnx;have H5:=zH r5;have H6:=zH r6;have H7:=zH r7)|have HBIG:=zH (Puny.least_big ps HP.out N (by have:=HH.out.done;simp only at this;rw [<-this,HLN.out];exact hdn));have HM:=zH hM;have HNX:=zH hnx;have H5:=zH r5;have H6:=zH r6;have H7:=zH r7
       clear hM hnx r5 r6 r7 hs
       obtain⟨wo,rfl⟩:∃ wo,wo=wr:=⟨_,rfl⟩
       have hwo:=h.ext hBr
       go_wp2_with fail
       first|(replace HQ:Mk true:=HQ;go_loop [12,53] (fun mm i=>∃ j:Nat,j<=k/\i=.int .i64 j/\mm=.int .i64 (Puny.least N 1114112 (ps.take j))) (fun _ i=>k - (intOf i).toNat))|go_loop [11,12] (fun mm i=>∃ j:Nat,j<=k/\i=.int .i64 j/\mm=.int .i64 (Puny.least N 1073741824 (ps.take j))) (fun _ i=>k - (intOf i).toNat)
       case atStart=>exact⟨0,Nat.zero_le _,rfl,rfl⟩
       case round =>
        obtain⟨j,hj,rfl,rfl⟩:=hrel
        by_cases hjk:j < k
        ·obtain⟨g,o,rfl,hg,hkl,hc1⟩:=hwo.at hjk
         rw [List.getElem?_eq_getElem hkl,Option.getD_some] at hc1
         have htk:ps.take (j+1)=ps.take j ++ [ps[j]]:=List.take_succ_eq_append_getElem hkl
         first|(replace HQ:Mk true:=HQ;have hls:=Puny.least_snoc N 1114112 (ps.take j) ps[j])|have hls:=Puny.least_snoc N 1073741824 (ps.take j) ps[j]
         rw [<-htk] at hls
         have HLS:=zH hls
         generalize ps[j]=p at *
         first|(replace HQ:Mk true:=HQ;generalize Puny.least N 1114112 (ps.take j)=cur at *)|generalize Puny.least N 1073741824 (ps.take j)=cur at *
         clear htk hls
         by_cases hge:N<=p
         ·go_wp2_with fail
          go_round
          case rel=>exact⟨j+1,by omega,by go_num,by rw [HLS.out,if_pos hge]⟩
          case measure=>simp [intOf];omega
         ·go_wp2_with fail
          go_round
          case rel=>exact⟨j+1,by omega,by go_num,by rw [HLS.out,if_neg hge]⟩
          case measure=>simp [intOf];omega
        ·obtain rfl:j=k:=by omega
         first|(replace HQ:Mk true:=HQ;rw [List.take_of_length_le (by rw [HLN.out];omega),<-HM.out])|rw [List.take_of_length_le (by rw [HLN.out];omega),HBIG.out,<-HM.out]
         have hm0:Puny.midK ps N M basic ⟨out,delta,bias,done⟩ 0=⟨out,delta+(M - N) * ((done:Int)+1),bias,done⟩:=rfl
         have HM0:=zH hm0
         clear hm0
         go_wp2_with fail
         have hall:=H5.out
         first|(replace HQ:Mk true:=HQ;go_loopw [4,9,10,11,75] (fun v dd bb dn i wr=>∃ (i':Nat) (e':Puny.E),i'<=j/\i=.int .i64 i'/\dd=.int .i64 e'.delta/\bb=.int .i64 e'.bias/\dn=.int .i64 e'.done/\OwnB w.heap.size wr v e'.out/\Hid (Puny.midK ps N M basic ⟨out,delta,bias,done⟩ i'=e')/\Below w.heap.size w wr) (fun _ _ _ _ i _=>j - (intOf i).toNat))|go_loopw [4,6,9,10,13] (fun v dn dd bb i wr=>∃ (i':Nat) (e':Puny.E),i'<=j/\i=.int .i64 i'/\dd=.int .i64 e'.delta/\bb=.int .i64 e'.bias/\dn=.int .i64 e'.done/\OwnB w.heap.size wr v e'.out/\Hid (Puny.midK ps N M basic ⟨out,delta,bias,done⟩ i'=e')/\Below w.heap.size w wr) (fun _ _ _ _ i _=>j - (intOf i).toNat)
         case atStart=>exact⟨0,_,Nat.zero_le _,rfl,rfl,rfl,rfl,hO,HM0,hBr⟩
         case round =>
          obtain⟨i',e',hi',rfl,rfl,rfl,rfl,hO',HE,hB'⟩:=hrel
          have hok:=hall i' (by rw [HLN.out];exact hi')
          rw [HE.out] at hok
          obtain⟨m0,m1,m2,m3,m4,m5⟩:=hok
          have hsz':=hB'.size
          by_cases hij:i' < j
          ·have hsucc:=Puny.midK_succ ps N M basic ⟨out,delta,bias,done⟩ i' (by rw [HLN.out];exact hij)
           rw [HE.out] at hsucc
           obtain⟨g,o,rfl,hg,hkl,hc1⟩:=(h.ext hB').at hij
           rw [List.getElem?_eq_getElem hkl,Option.getD_some] at hc1
           generalize ps[i']=p at *
           have HSU:=zH hsucc
           clear hsucc hall
           by_cases hp1:p < M
           ·have HSV:=zH (HSU.out.trans (Puny.encPt_lt hp1))
            obtain⟨out',delta',bias',done'⟩:=e'
            simp only at m0 m1 m2 m3 m4 m5 hO'
            go_wp2_with fail
            go_roundw
            case rel=>exact⟨i'+1,_,by omega,by go_num,rfl,rfl,rfl,hO',HSV,hB'⟩
            case measure=>simp [intOf];omega
           ·by_cases hp2:p=M
            ·have hv:=HSU.out.trans (Puny.encPt_eq hp1 hp2)
             have HSV:=zH hv
             have t1:(p == M)=true:=by simp [hp2]
             have HP2:=zH hp2
             clear hp2 hv HSU
             obtain⟨out',delta',bias',done'⟩:=e'
             simp only at m0 m1 m2 m3 m4 m5 hO'
             have hfb:((done':Int) == (basic:Int))=(done' == basic):=by
              rw [Bool.eq_iff_iff,beq_iff_eq,beq_iff_eq];omega
             have HFB:=zH hfb
             clear hfb
             go_wp2_with fail
             first
             |replace HQ:Mk true:=HQ
              refine (zn_x w.heap.size _ _ delta' bias' _ hO' hsz' (by omega) m0 (by omega) m2 m3).mono ?_;rintro e w6 ⟨v6,rfl,hO6,hb6⟩
              have hB6:=hB'.trans hb6
              clear hb6 hO'
              go_wp2_with fail
              refine (ze_u true delta' (done'+1) _ _ m0 (by omega) (by omega) (by omega)).mono ?_;rintro e w7 ⟨rfl,rfl⟩
              rw [HFB.out]
              go_wp2_with fail
              go_roundw
              case rel=>exact⟨i'+1,_,by omega,by go_num,rfl,rfl,by go_num,hO6,HSV,hB6⟩
              case measure=>simp [intOf];omega
             |obtain⟨R',hR'⟩:∃ R',R'=Puny.numE delta' bias':=⟨_,rfl⟩
              have hst:[] ++ Puny.digs (delta'.toNat+1) delta' 0 bias'=R':=by rw [hR'];rfl
              have HR':=zH hR';have HST:=zH hst
              clear hR' hst
              obtain⟨wq,rfl⟩:∃ wq,wq=wr:=⟨_,rfl⟩
              go_loopw [4,14,15] (fun v qq kk wr=>∃ (κ:Nat) (x:Int) (f':Nat) (o:List UInt8),qq=.int .i64 x/\kk=.int .i64 κ/\0<=x/\(κ:Int)+x<=delta'/\x < f'/\OwnB w.heap.size wr v (out' ++ o)/\o.length<=κ/\Hid (o ++ Puny.digs f' x κ bias'=R')/\Below w.heap.size w wr) (fun _ qq _ _=>(intOf qq).toNat)
              case atStart=>exact⟨0,delta',delta'.toNat+1,[],rfl,rfl,m0,by omega,by omega,by simpa using hO',by simp,HST,hB'⟩
              case round =>
               obtain⟨κ,x,f',o,rfl,rfl,hx,hκx,hf',hO6,ho,HG6,hB6⟩:=hrel
               obtain⟨f',rfl⟩:∃ g,f'=g+1:=⟨f' - 1,by omega⟩
               have hsz6:=hB6.size
               obtain⟨t1',t2'⟩:=Puny.thr_bd κ bias'
               have hg:=HG6.out
               rw [Puny.digs] at hg
               have hthr:=fun (W:World)=>ze_l κ bias' W (by omega) m2 m3
               have HTH:=zH hthr
               generalize Puny.thr κ bias'=t at *
               clear hthr
               go_wp2_with fail
               refine (HTH.out _).mono ?_;rintro e w7 ⟨rfl,rfl⟩
               by_cases hlt:x < t
               ·rw [if_pos hlt] at hg
                have HG7:=zH hg
                clear hg
                go_wp2_with fail
                refine (ze_v false x _ hx (by omega)).mono ?_;rintro e w8 ⟨rfl,rfl⟩
                unfold bv
                go_wp2_with (at_builtin;go_must (refine za_d rfl _ _ rfl w.heap.size _ (out' ++ o) rfl (hO6.alloc _) wr.heap.size 1 1 [Puny.digit x] rfl (SlB.oneBv _ _ _) (by rw [List.length_append];omega) (by simp;omega) ?_);intro v9 w9 hO9 hg9 _)
                have hB9:=(hB6.alloc (by omega) (.cells #[.int .u8 ((Puny.digit x).toNat:Int)] 5)).grown hg9 (by simp;omega) (fun k hk=>(hO6.lt k hk).1)
                have hO9':OwnB w.heap.size w9 v9 (out' ++ Puny.numE delta' bias'):=by rw [<-HR'.out,<-HG7.out,<-List.append_assoc];exact hO9
                clear hg9 hO6 hB6 hO9
                go_wp2_with fail
                refine (ze_u false delta' (done'+1) _ _ m0 (by omega) (by omega) (by omega)).mono ?_;rintro e w10 ⟨rfl,rfl⟩
                rw [HFB.out]
                go_wp2_with fail
                go_roundw
                case rel=>exact⟨i'+1,_,by omega,by go_num,rfl,rfl,by go_num,hO9',HSV,hB9⟩
                case measure=>simp [intOf];omega
               ·rw [if_neg hlt] at hg
                have hn:=Puny.next_lt x t t1' t2' (by omega)
                have hd0:0<=(x - t) % (36 - t):=Int.emod_nonneg _ (by omega)
                have hd1:(x - t) % (36 - t) < 36 - t:=Int.emod_lt_of_pos _ (by omega)
                have HG7:=zH hg
                obtain⟨hn0,hn1,hn2⟩:=hn
                clear hg
                go_wp2_with fail
                refine (HTH.out _).mono ?_;rintro e w7 ⟨rfl,rfl⟩
                go_wp2_with fail
                refine (ze_v false (t+(x - t) % (36 - t)) _ (by omega) (by omega)).mono ?_;rintro e w8 ⟨rfl,rfl⟩
                unfold bv
                go_wp2_with (at_builtin;go_must (refine za_d rfl _ _ rfl w.heap.size _ (out' ++ o) rfl (hO6.alloc _) wr.heap.size 1 1 [Puny.digit (t+(x - t) % (36 - t))] rfl (SlB.oneBv _ _ _) (by rw [List.length_append];omega) (by simp;omega) ?_);intro v9 w9 hO9 hg9 _)
                have hB9:=(hB6.alloc (by omega) (.cells #[.int .u8 ((Puny.digit (t+(x - t) % (36 - t))).toNat:Int)] 5)).grown hg9 (by simp;omega) (fun k hk=>(hO6.lt k hk).1)
                clear hg9 hO6 hB6
                go_wp2
                go_roundw
                case rel =>
                 refine⟨κ+1,(x - t) / (36 - t),f',o ++ [Puny.digit (t+(x - t) % (36 - t))],rfl,by go_num,hn0,by omega,by omega,by rw [<-List.append_assoc];exact hO9,by simp;omega,zH ?_,hB9⟩
                 rw [<-HG7.out];simp
                case measure=>simp [intOf];omega
            ·have HSV:=zH (HSU.out.trans (Puny.encPt_gt hp1 hp2))
             have t1:(p == M)=false:=by simp [hp2]
             clear hp2
             go_wp2_with fail
             go_roundw
             case rel=>exact⟨i'+1,_,by omega,by go_num,rfl,rfl,rfl,hO',HSV,hB'⟩
             case measure=>simp [intOf];omega
          ·obtain rfl:i'=j:=by omega
           have hne:Puny.next ps N M basic ⟨out,delta,bias,done⟩={ e' with delta:=e'.delta+1 }:=by
            unfold Puny.next
            rw [HLN.out,HE.out]
           have h6:=H6.out
           have h7:=H7.out
           have hnx:=HNX.out
           rw [hne] at h6 h7 hnx
           have H6':=zH h6;have HNX':=zH hnx.symm
           simp only at h7
           clear hne h6 hnx hall
           obtain⟨out',delta',bias',done'⟩:=e'
           simp only at m0 m1 m2 m3 m4 m5 hO' h7
           go_wp2_with fail
           go_roundw
           case rel=>exact⟨M+1,_,_,_,_,f,rfl,rfl,rfl,rfl,hO',H6',HNX',by omega,hB'⟩
           case measure=>simp [intOf];omega
      ·have hend:=Puny.encGo_end ps N basic ⟨out,delta,bias,done⟩ f (by rw [HLN.out];exact hdn)
       have hout:out=R:=by rw [<-HG.out,hend]
       have HOUT:=zH hout
       obtain⟨a6,c6,rfl,hs6,-⟩:=id hO.sl
       have hcv:=za_t hs6
       clear hend hout hs
       go_wp2_with fail
       go_ret2
       rw [HOUT.out,HR.out]
       exact zj_s HD.out rfl hBr
end
end Go.Proofs.YtmanejniepghlaaGreatDoor
