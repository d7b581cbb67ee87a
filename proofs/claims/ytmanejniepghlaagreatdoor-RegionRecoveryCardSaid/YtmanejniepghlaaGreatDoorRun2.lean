import Derived.Test.YtmanejniepghlaaGreatDoorRun0
import Derived.OwnWalk
import Derived.IntWalk
import Derived.Deep.DeepMust
import Derived.Deep.QuietTactic
import Derived.BigQuiet
import Derived.Lib.AppendStr
namespace Go.Proofs.YtmanejniepghlaaGreatDoor
section
open Go.RowKit
set_option maxRecDepth 100000
variable {b:List UInt8} {k:Nat}
theorem zp_l (a:Option Addr) (n c:Nat) (l:List UInt8) (w:World) (h:SlB w a n c l) (hn:n<=140737488355328) :
 Calls Tryz.prog 75 #[.slice a n c] w fun e w'=>∃ v,e=.returned v/\OwnB w.heap.size w' v l/\Below w.heap.size w w':=by
 cases a with
|none =>
  obtain⟨rfl,rfl⟩:=h.2.2.2.1 rfl
  obtain rfl:n=0:=h.1.symm
  have hnil:=fun (w:World)=>Lib.run_eql_slice_nil (P:=Tryz.prog) w 70 5 none 0 0 0 0 Tryz.underlying70
  go_enter Tryz.func75,Tryz.ntmps75
  go_wp2
  go_ret
  exact⟨_,rfl,OwnB.nil _ _,Below.refl _ _⟩
|some ad =>
  have h2:SlB (w.alloc (.cells #[] 5)) (some ad) n c l:=h.ext ((Below.refl _ _).alloc (zN _) _)
  have hnil:=fun (w:World)=>Lib.run_eql_slice_nil (P:=Tryz.prog) w 70 5 (some ad) n c 0 0 Tryz.underlying70
  go_enter Tryz.func75,Tryz.ntmps75
  go_wp2_with (at_builtin;refine za_d rfl _ _ rfl w.heap.size _ [] rfl (OwnB.empty w (zN _)) (some ad) n c l rfl h2 (by simpa using hn) (by simp) ?_;intro v w1 hown hg _)
  go_ret
  exact⟨v,rfl,hown,((Below.refl _ _).alloc (zN _) _).grown hg (by simp) (fun k hk=>by cases hk;exact zN _)⟩
theorem SlB.oneZ (w:World) (z:Int) (b:UInt8) (h:z=(b.toNat:Int)) (t:TypeId):SlB (w.alloc (.cells #[.int .u8 z] t)) w.heap.size 1 1 [b]:=by subst h;exact SlB.one w b t
set_option maxHeartbeats 2000000 in
theorem zd_p (a:Option Addr) (n c:Nat) (l:List UInt8) (x:Nat) (hx:x < 18446744073709551616) (w:World) (h:SlB w a n c l) (hn:n<=1000000) :
 Calls Tryz.prog 102 #[.slice a n c,.int .u64 (x:Nat)] w fun e w'=>∃ v,e=.returned v/\OwnB w.heap.size w' v (l ++ Wire.enc x)/\Below w.heap.size w w':=by
 have hnl:=h.len
 have HC:=zH (zp_l a n c l w h (by omega))
 have HN:=zH (show l.length<=1000000 by omega)
 have HX:=zH (Wire.enc_len hx)
 clear hnl h
 go_enter Tryz.func102,Tryz.ntmps102
 go_wp2_with fail
 refine HC.out.mono ?_;rintro e w1 ⟨v1,rfl,hO1,hB1⟩
 go_wp2_with fail
 go_loopw [1,5] (fun y u wr=>∃ (z:Nat) (p:List UInt8),z < 18446744073709551616/\y=.int .u64 (z:Nat)/\OwnB w.heap.size wr u (l ++ p)/\Hid (p ++ Wire.enc z=Wire.enc x)/\Below w.heap.size w wr) (fun y _ _=>(intOf y).toNat)
 case atStart=>exact⟨x,[],by omega,rfl,by simpa using hO1,zH rfl,hB1⟩
 case round =>
  obtain⟨z,p,hz,rfl,hO,HP,hB⟩:=hrel
  have i0:(0:Int)<=(z:Int):=Int.natCast_nonneg _
  have i1:(z:Int)<=18446744073709551615:=by omega
  have hsz:=hB.size
  have hlen:(l ++ p).length<=1000010:=by
   have h1:=HN.out;have h2:=HX.out;have h3:=congrArg List.length HP.out
   rw [List.length_append] at h3 ⊢;omega
  by_cases hlt:z < 128
  ·have HE:=zH (show p ++ [UInt8.ofNat z]=Wire.enc x by rw [<-HP.out,Wire.enc_last hlt])
   have HO1:=zH (fun W t=>SlB.oneZ W (z:Int) (UInt8.ofNat z) (by rw [Wire.ofNat_toNat (by omega)]) t)
   go_wp2_with (at_builtin;refine za_d rfl _ _ rfl w.heap.size _ (l ++ p) rfl (hO.alloc _) wr.heap.size 1 1 [UInt8.ofNat z] rfl (HO1.out _ _) (by omega) (by simp;omega) ?_;intro v' w2 hown hg _)
   have hgr:Below w.heap.size w w2:=(hB.alloc (by omega) _).grown hg (by simp;omega) (fun g hg=>(hO.lt g hg).1)
   clear hg
   go_wp2_with fail
   go_ret
   exact⟨_,rfl,by rw [<-HE.out,<-List.append_assoc];exact hown,hgr⟩
  ·have HE:=zH (show (p ++ [UInt8.ofNat (z % 128+128)]) ++ Wire.enc (z / 128)=Wire.enc x by rw [<-HP.out,Wire.enc_step hlt,List.append_assoc];rfl)
   have hor:bits BinOp.or IntKind.u8 ((z:Int) % 256) 128=((z % 128+128:Nat):Int):=by
    have h1:=u8_or_nat (z % 256) 128 (Nat.mod_lt _ (by decide)) (by decide)
    have h2:∀ y:Fin 256,(y.val ||| 128)=y.val % 128+128:=by decide
    have h3:=h2 ⟨z % 256,Nat.mod_lt _ (by decide)⟩
    simp only at h3
    rw [h3,Nat.mod_mod_of_dvd _ (by decide)] at h1
    simpa using h1
   have HO1:=zH (fun W t=>SlB.oneZ W (bits BinOp.or IntKind.u8 ((z:Int) % 256) 128) (UInt8.ofNat (z % 128+128)) (by rw [hor,Wire.ofNat_toNat (by omega)]) t)
   clear hor
   go_wp2_with (at_builtin;refine za_d rfl _ _ rfl w.heap.size _ (l ++ p) rfl (hO.alloc _) wr.heap.size 1 1 [UInt8.ofNat (z % 128+128)] rfl (HO1.out _ _) (by omega) (by simp;omega) ?_;intro v' w2 hown hg _)
   have hgr:Below w.heap.size w w2:=(hB.alloc (by omega) _).grown hg (by simp;omega) (fun g hg=>(hO.lt g hg).1)
   clear hg
   go_wp2_with fail
   go_roundw
   case rel=>exact⟨z / 128,p ++ [UInt8.ofNat (z % 128+128)],by omega,by go_num,by rw [<-List.append_assoc];exact hown,HE,hgr⟩
   case measure=>simp [intOf];omega
theorem zd_r {w:World} {ops:Array Oper} {rest:List Oper} {o:Oper} {a:Act} {Q:Exit->Act->World->Prop} (hgd:o.guard=none) (s x:Operand)
 (ho:o.op=.call { callee:=.builtin .append,args:=#[s,x],argTypes:=#[70,9] })
 (base:Nat) (v:Value) (l:List UInt8) (hs:a.eval s=v) (hown:OwnB base w v l) (t:List UInt8) (hx:a.eval x=.string (str t))
 (hlen:l.length+t.length<=140737488355328) (hbase:base<=w.heap.size)
 (h:∀ v' w',OwnB base w' v' (l ++ t)->w.grownBy w' v.ownBlock->wpList Tryz.prog ops Q rest (a.put o.dst v') w'):wpList Tryz.prog ops Q (o :: rest) a w:=by
 obtain⟨i0,hi,hz0,hz1,hz2⟩:=info_parts info5
 have hsz:(str t).size=t.length:=by simp [str,ByteArray.size]
 refine Lib.wpList_append_own_string w hgd s x 70 9 ho base 5 i0 Tryz.underlying70 Tryz.underlying9 hi hz0 hz1 hz2 v l.length (l.map bv) hs hown (str t) hx (by rw [hsz];unfold maxLen;omega) (by rw [hsz];omega) hbase ?_
 intro v' w' h1 h2 _
 refine h v' w' ?_ h2
 unfold OwnB
 rw [List.length_append,List.map_append]
 rw [hsz] at h1
 exact h1
set_option maxHeartbeats 2000000 in
theorem zd_o (a:Option Addr) (n c:Nat) (l:List UInt8) (t:List UInt8) (ht:t.length<=1000000) (w:World) (h:SlB w a n c l) (hn:n<=1000000) :
 Calls Tryz.prog 123 #[.slice a n c,.string (str t)] w fun e w'=>∃ v,e=.returned v/\OwnB w.heap.size w' v (l ++ Wire.txt t)/\Below w.heap.size w w':=by
 have hsz:(str t).size=t.length:=by simp [str,ByteArray.size]
 have HC:=zH (zd_p a n c l t.length (by omega) w h hn)
 have HL:=zH (show (l ++ Wire.enc t.length).length<=1000010 by
  have:=h.len;have:=Wire.enc_len (v:=t.length) (by omega);rw [List.length_append];omega)
 have HS:=zH hsz
 have i0:(str t).size<=1000000:=by omega
 have HT:=zH ht
 clear hsz h ht
 obtain⟨st,hst⟩:∃ st,str t=st:=⟨_,rfl⟩
 rw [hst] at i0 HS ⊢
 have HST:=zH hst
 clear hst
 go_enter Tryz.func123,Tryz.ntmps123
 go_wp2_with fail
 rw [HS.out]
 refine HC.out.mono ?_;rintro e w1 ⟨v1,rfl,hO1,hB1⟩
 go_wp2_with (at_builtin;refine zd_r rfl _ _ rfl w.heap.size _ _ rfl hO1 t (by rw [HST.out];rfl) (by have:=HL.out;have:=HT.out;omega) hB1.size ?_;intro v2 w2 hown hg)
 go_ret
 exact⟨v2,rfl,by rw [Wire.txt,<-List.append_assoc];exact hown,hB1.grown hg hB1.size (fun g hg=>(hO1.lt g hg).1)⟩
namespace Wire
theorem zo_l (hB:∀ j (hj:j < b.length),j < k->128<=(b[j]).toNat) (hk:k < b.length) (hx:(b[k]?.getD 0).toNat < 128):run b=k :=
 zr_j hB (Nat.le_of_lt hk) (fun h=>by rw [List.getElem?_eq_getElem h] at hx;exact hx)
theorem dec_trunc (hB:∀ j (hj:j < b.length),j < k->128<=(b[j]).toNat) (hk:k=b.length) (h10:k < 10):dec b=(0,0,5):=by
 have hr:run b=k:=zr_j hB (by omega) (fun h=>by omega)
 unfold dec;rw [hr,if_neg (by omega),if_pos hk]
theorem dec_over (hB:∀ j (hj:j < b.length),j < 10->128<=(b[j]).toNat) (hk:10<=b.length):dec b=(0,0,19):=by
 have hr:10<=run b:=zt_i hB hk
 unfold dec;rw [if_pos hr]
theorem big_snoc (hB:∀ j (hj:j < b.length),j < k->128<=(b[j]).toNat) (hx:128<=(b[k]?.getD 0).toNat):∀ j (hj:j < b.length),j < k+1->128<=(b[j]).toNat:=by
 intro j hj hk
 rcases Nat.lt_or_ge j k with h|h
 ·exact hB j hj h
 ·obtain rfl:j=k:=by omega
  rw [List.getElem?_eq_getElem hj] at hx;exact hx
theorem dec_top (hB:∀ j (hj:j < b.length),j < 9->128<=(b[j]).toNat) (hk:9 < b.length) (hx:(b[9]?.getD 0).toNat < 128) (h1:1 < (b[9]?.getD 0).toNat):dec b=(0,0,19):=by
 have hr:=zo_l hB hk hx
 unfold dec;rw [hr,if_neg (by omega),if_neg (by omega),if_pos ⟨rfl,by rw [List.getD_eq_getElem?_getD];exact h1⟩]
theorem dec_form (hB:∀ j (hj:j < b.length),j < k->128<=(b[j]).toNat) (hk:k < b.length) (h10:k < 10) (hx:(b[k]?.getD 0).toNat=0) (h0:0 < k):dec b=(0,0,6):=by
 have hr:=zo_l hB hk (by omega)
 have hz:b.getD k 0=0:=UInt8.toNat_inj.1 (by rw [List.getD_eq_getElem?_getD];exact hx)
 unfold dec
 rw [hr,if_neg (by omega),if_neg (by omega),if_neg (by rintro⟨rfl,h⟩;rw [hz] at h;exact absurd h (by decide)),if_pos ⟨h0,hz⟩]
theorem dec_done (hB:∀ j (hj:j < b.length),j < k->128<=(b[j]).toNat) (hk:k < b.length) (h10:k < 10) (hx:(b[k]?.getD 0).toNat < 128) (h0:0 < k->(b[k]?.getD 0).toNat ≠ 0) (h9:k=9->(b[k]?.getD 0).toNat<=1) :
 dec b=(val (b.take k)+128 ^ k * ((b[k]?.getD 0).toNat % 128),k+1,0):=by
 have hr:=zo_l hB hk hx
 have hd:b.getD k 0=b[k]?.getD 0:=List.getD_eq_getElem?_getD
 unfold dec
 rw [hr,if_neg (by omega),if_neg (by omega),if_neg (by rintro⟨rfl,h⟩;rw [hd] at h;have:=h9 rfl;omega),if_neg (by rintro⟨h,e⟩;rw [hd] at e;exact h0 h (by rw [e];rfl))]
 have hsn:b.take (k+1)=b.take k ++ [b[k]]:=(List.take_append_getElem hk).symm
 rw [hsn,ze_y,List.length_take,Nat.min_eq_left (Nat.le_of_lt hk),List.getElem?_eq_getElem hk];rfl
theorem val_take_lt (hk:k<=b.length):val (b.take k) < 128 ^ k:=by
 have:=zp_a (b.take k);rwa [List.length_take,Nat.min_eq_left hk] at this
theorem val_take_succ (hk:k < b.length):val (b.take (k+1))=val (b.take k)+128 ^ k * ((b[k]?.getD 0).toNat % 128):=by
 have hsn:b.take (k+1)=b.take k ++ [b[k]]:=(List.take_append_getElem hk).symm
 rw [hsn,ze_y,List.length_take,Nat.min_eq_left (Nat.le_of_lt hk),List.getElem?_eq_getElem hk];rfl
end Wire
theorem zq_e (V m Y:Nat) (h:bits BinOp.or IntKind.u64 (V:Int) (IntKind.u64.wrap ((m:Int) * 2 ^ (7 * 9)))=(Y:Int)) (hm:m<=1):bits BinOp.or IntKind.u64 (V:Int) ((m:Int) * 9223372036854775808)=(Y:Int):=by
 have e:IntKind.u64.wrap ((m:Int) * 2 ^ (7 * 9))=(m:Int) * 9223372036854775808:=by
  unfold IntKind.wrap;simp only [IntKind.bits,IntKind.signed];simp;omega
 rwa [e] at h
theorem zn_t (V m k:Nat) (hk:k < 10) (hV:V < 128 ^ k) (hm:m < 128) (h9:k=9->m<=1):bits BinOp.or IntKind.u64 (V:Int) (IntKind.u64.wrap ((m:Int) * 2 ^ (7 * k)))=((V+128 ^ k * m:Nat):Int):=by
 have e7:(2:Nat) ^ (7 * k)=128 ^ k:=by rw [Nat.pow_mul]
 have hp:128 ^ k * m < 18446744073709551616:=by
  rcases Nat.lt_or_ge k 9 with h|h
  ·have h1:128 ^ k<=128 ^ 8:=Nat.pow_le_pow_right (by decide) (by omega)
   have h2:128 ^ k * m<=128 ^ 8 * 127:=Nat.mul_le_mul h1 (by omega)
   omega
  ·obtain rfl:k=9:=by omega
   have:=h9 rfl;omega
 have hv2:V < 18446744073709551616:=by
  have h1:128 ^ k<=128 ^ 9:=Nat.pow_le_pow_right (by decide) (by omega)
  omega
 have hw:IntKind.u64.wrap ((m:Int) * 2 ^ (7 * k))=((128 ^ k * m:Nat):Int):=by
  have e8:((m:Int) * 2 ^ (7 * k))=((128 ^ k * m:Nat):Int):=by
   rw [<-e7];push_cast;exact Int.mul_comm _ _
  rw [e8];generalize 128 ^ k * m=q at *
  unfold IntKind.wrap;simp only [IntKind.bits,IntKind.signed];simp;omega
 rw [hw,u64_or_nat _ _ hv2 hp,Nat.add_comm,<-e7,Nat.two_pow_add_eq_or_of_lt (by rw [e7];exact hV),Nat.or_comm]
set_option maxHeartbeats 4000000 in
theorem zf_s (a:Option Addr) (n c:Nat) (b:List UInt8) (w:World) (h:SlB w a n c b) (hn:n<=1000000) :
 Calls Tryz.prog 185 #[.slice a n c] w fun e w'=>e=.returned (.tuple #[.int .u64 ((Wire.dec b).1:Nat),.int .i64 ((Wire.dec b).2.1:Nat),.int .i64 (Wire.dec b).2.2])/\w=w':=by
 have HLN:=zH h.len
 obtain⟨vd,kd,ed,hd⟩:∃ vd kd ed,Wire.dec b=(vd,kd,ed):=⟨_,_,_,rfl⟩
 rw [hd]
 dsimp only
 have HD:=zH hd
 clear hd
 have HF:Hid (∀ v k e,Wire.dec b=(v,k,e)->vd=v/\kd=k/\ed=e):=zH (fun v k e hh=>by rw [HD.out] at hh;cases hh;exact⟨rfl,rfl,rfl⟩)
 go_enter Tryz.func185,Tryz.ntmps185
 go_wp2_with fail
 go_loop [5,8] (fun v i=>∃ k:Nat,k<=10/\k<=n/\i=.int .i64 k/\v=.int .u64 (Wire.val (b.take k):Nat)/\Hid (∀ j (hj:j < b.length),j < k->128<=(b[j]).toNat)) (fun _ i=>10 - (intOf i).toNat)
 case atStart=>exact⟨0,by omega,by omega,rfl,by simp [Wire.val],zH (fun j _ hj=>by omega)⟩
 case round =>
  obtain⟨k,hk,hkn,rfl,rfl,HB⟩:=hrel
  obtain⟨V,hV⟩:∃ V,Wire.val (b.take k)=V:=⟨_,rfl⟩
  have HVL:=zH (show V < 128 ^ k by rw [<-hV];exact Wire.val_take_lt (by rw [HLN.out];exact hkn))
  rw [hV]
  have HV:=zH hV
  clear hV
  by_cases h10:k < 10
  ·have i2:(k:Int) < 10:=by omega
   have i0:(0:Int)<=(k:Int):=by omega
   by_cases hlt:k < n
   ·obtain⟨bb,o,rfl,hbb,hkl,hc⟩:=h.at hlt
    obtain⟨x,hx⟩:∃ x,b[k]?.getD 0=x:=⟨_,rfl⟩
    rw [hx] at hc
    have HX:=zH hx
    have HVS:=zH (Wire.val_take_succ hkl)
    rw [hx,HV.out] at HVS
    have HDN:=zH (Wire.dec_done HB.out hkl h10)
    rw [hx,HV.out] at HDN
    clear hx
    have hand:bits BinOp.and IntKind.u8 (x.toNat:Int) 127=((x.toNat % 128:Nat):Int):=by
     have h1:=u8_and_nat x.toNat 127 x.toNat_lt (by decide)
     have h2:∀ y:Fin 256,(y.val &&& 127)=y.val % 128:=by decide
     have h3:=h2 ⟨x.toNat,x.toNat_lt⟩
     simp only at h3
     rw [h3] at h1
     simpa using h1
    obtain⟨m,hm⟩:∃ m,x.toNat % 128=m:=⟨_,rfl⟩
    rw [hm] at hand HVS HDN
    have hm128:m < 128:=by omega
    have HM:=zH hm
    clear hm
    have i1:(k:Int) < (n:Int):=by omega
    have i3:((k:Int) == (n:Int))=false:=by simp;omega
    have m0:(0:Int)<=(m:Int):=by omega
    have m1:(m:Int) < 128:=by omega
    by_cases h9:k=9
    ·subst h9
     by_cases hx1:128<=x.toNat
     ·have t1:(128:Int)<=(x.toNat:Int):=by omega
      have HR:=zH (HF.out _ _ _ (Wire.dec_over (Wire.big_snoc HB.out (by rw [HX.out];exact hx1)) (by omega)))
      go_wp2_with fail
      go_ret3
      obtain⟨rfl,rfl,rfl⟩:=HR.out
      exact⟨rfl,rfl⟩
     ·have t1:¬ (128:Int)<=(x.toNat:Int):=by omega
      have hxm:x.toNat=m:=by have:=HM.out;omega
      by_cases hm2:1 < m
      ·have t2:(1:Int) < (m:Int):=by omega
       have HR:=zH (HF.out _ _ _ (Wire.dec_top HB.out hkl (by rw [HX.out];omega) (by rw [HX.out];omega)))
       clear hxm
       go_wp2_with fail
       go_ret3
       obtain⟨rfl,rfl,rfl⟩:=HR.out
       exact⟨rfl,rfl⟩
      ·have t2:¬ (1:Int) < (m:Int):=by omega
       have t3:(x.toNat:Int) < 128:=by omega
       have hor:=zn_t V m 9 (by decide) HVL.out hm128 (fun _=>by omega)
       obtain⟨Y,hY⟩:∃ Y,V+128 ^ 9 * m=Y:=⟨_,rfl⟩
       rw [hY] at hor HDN
       have HOR:=zH (zq_e V m Y hor (by omega))
       clear hor
       by_cases hx0:x.toNat=0
       ·have t4:((x.toNat:Int) == 0)=true:=by simp;omega
        have HR:=zH (HF.out _ _ _ (Wire.dec_form HB.out hkl (by decide) (by rw [HX.out];exact hx0) (by decide)))
        clear hxm hx0 hY
        go_wp2_with fail
        go_ret3
        obtain⟨rfl,rfl,rfl⟩:=HR.out
        exact⟨rfl,rfl⟩
       ·have t4:((x.toNat:Int) == 0)=false:=by simp;omega
        have HR:=zH (HF.out _ _ _ (HDN.out (by omega) (fun _=>hx0) (fun _=>by omega)))
        clear hxm hx0 hY
        go_wp2_with fail
        go_ret3
        obtain⟨rfl,rfl,rfl⟩:=HR.out
        exact⟨congrArg (fun z=>Ending.returned (.tuple #[.int .u64 z,.int .i64 10,.int .i64 0])) HOR.out,rfl⟩
    have t9:((k:Int) == 9)=false:=by simp;omega
    have hor:=zn_t V m k h10 HVL.out hm128 (fun e=>absurd e h9)
    obtain⟨Y,hY⟩:∃ Y,V+128 ^ k * m=Y:=⟨_,rfl⟩
    rw [hY] at hor HDN HVS
    clear hY
    by_cases hx1:x.toNat < 128
    ·have t1:(x.toNat:Int) < 128:=by omega
     by_cases hk0:0 < k
     ·have t2:(0:Int) < (k:Int):=by omega
      by_cases hx0:x.toNat=0
      ·have t3:((x.toNat:Int) == 0)=true:=by simp;omega
       have HR:=zH (HF.out _ _ _ (Wire.dec_form HB.out hkl h10 (by rw [HX.out];exact hx0) hk0))
       clear hx0
       go_wp2_with fail
       go_ret3
       obtain⟨rfl,rfl,rfl⟩:=HR.out
       exact⟨rfl,rfl⟩
      ·have t3:((x.toNat:Int) == 0)=false:=by simp;omega
       have HR:=zH (HF.out _ _ _ (HDN.out hx1 (fun _=>hx0) (fun e=>absurd e h9)))
       clear hx0
       go_wp2_with fail
       go_ret3
       obtain⟨rfl,rfl,rfl⟩:=HR.out
       exact⟨rfl,rfl⟩
     ·obtain rfl:k=0:=by omega
      have HR:=zH (HF.out _ _ _ (HDN.out hx1 (fun e=>by omega) (fun e=>absurd e h9)))
      have hw0:IntKind.u64.wrap ((m:Int) * 2 ^ (7 * 0))=(m:Int):=by unfold IntKind.wrap;simp only [IntKind.bits,IntKind.signed];simp;omega
      rw [hw0] at hor
      clear hw0
      rw [Nat.add_zero] at hc
      have t3:((0:Int) == (n:Int))=false:=by simp;omega
      have t4:(0:Int) < (n:Int):=by omega
      go_wp2_with fail
      go_ret3
      obtain⟨rfl,rfl,rfl⟩:=HR.out
      exact⟨rfl,rfl⟩
    ·have t1:¬ (x.toNat:Int) < 128:=by omega
     have HN:=zH (Wire.big_snoc HB.out (k:=k) (by rw [HX.out];omega))
     go_wp2_with fail
     go_round
     case rel=>exact⟨k+1,by omega,by omega,by go_num,by rw [HVS.out],HN⟩
     case measure=>simp [intOf];omega
   ·obtain rfl:k=n:=by omega
    have HR:=zH (HF.out _ _ _ (Wire.dec_trunc HB.out HLN.out.symm h10))
    go_wp2_with fail
    go_ret3
    obtain⟨rfl,rfl,rfl⟩:=HR.out
    exact⟨rfl,rfl⟩
  ·obtain rfl:k=10:=by omega
   have HR:=zH (HF.out _ _ _ (Wire.dec_over HB.out (by rw [HLN.out];exact hkn)))
   go_wp2_with fail
   go_ret3
   obtain⟨rfl,rfl,rfl⟩:=HR.out
   exact⟨rfl,rfl⟩
theorem Wire.dec_le {v n:Nat} (h:Wire.dec b=(v,n,0)):n<=b.length/\n<=10:=by
 obtain⟨_,h1,_,h2,_⟩:=Wire.enc_dec h;exact⟨h1,h2⟩
end
section
open Go.RowKit
set_option maxRecDepth 100000
namespace Wire
theorem val_drop_le:∀ (l:List UInt8) (j:Nat),val (l.drop j)<=val l
|[],j=>by simp
|x :: l,0=>zN _
|x :: l,j+1=>by
  have:=val_drop_le l j
  simp only [List.drop_succ_cons,val];omega
theorem val_drop_step {l:List UInt8} {j:Nat} (h:j < l.length):val (l.drop j)=(l[j]).toNat % 128+128 * val (l.drop (j+1)):=by
 rw [List.drop_eq_getElem_cons h];rfl
end Wire
set_option maxHeartbeats 4000000 in
theorem zb_y (a:Option Addr) (n c:Nat) (b:List UInt8) (w:World) (h:SlB w a n c b) (hn:n<=1000000) :
 Calls Tryz.prog 135 #[.slice a n c] w fun e w'=>e=.returned (.tuple #[.int .u64 ((Wire.dec b).1:Nat),.int .i64 ((Wire.dec b).2.1:Nat),.int .i64 (Wire.dec b).2.2])/\w=w':=by
 have HLN:=zH h.len
 obtain⟨vd,kd,ed,hd⟩:∃ vd kd ed,Wire.dec b=(vd,kd,ed):=⟨_,_,_,rfl⟩
 rw [hd]
 dsimp only
 have HD:=zH hd
 clear hd
 have HF:Hid (∀ v k e,Wire.dec b=(v,k,e)->vd=v/\kd=k/\ed=e):=zH (fun v k e hh=>by rw [HD.out] at hh;cases hh;exact⟨rfl,rfl,rfl⟩)
 go_enter Tryz.func135,Tryz.ntmps135
 go_wp2_with fail
 go_loop [6] (fun i=>∃ k:Nat,k<=10/\k<=n/\i=.int .i64 k/\Hid (∀ j (hj:j < b.length),j < k->128<=(b[j]).toNat)) (fun i=>10 - (intOf i).toNat)
 case atStart=>exact⟨0,by omega,by omega,rfl,zH (fun j _ hj=>by omega)⟩
 case round =>
  obtain⟨k,hk,hkn,rfl,HB⟩:=hrel
  have i0:(0:Int)<=(k:Int):=by omega
  by_cases h10:k < 10
  ·have i2:(k:Int) < 10:=by omega
   have i4:((k:Int) == 10)=false:=by simp;omega
   by_cases hlt:k < n
   ·obtain⟨bb,o,rfl,hbb,hkl,hc⟩:=h.at hlt
    obtain⟨x,hx⟩:∃ x,b[k]?.getD 0=x:=⟨_,rfl⟩
    rw [hx] at hc
    have HX:=zH hx
    have HDN:=zH (Wire.dec_done HB.out hkl h10)
    rw [hx] at HDN
    have HVT:=zH (Wire.val_take_succ hkl)
    rw [hx] at HVT
    clear hx
    have i1:(k:Int) < (n:Int):=by omega
    have i3:((k:Int) == (n:Int))=false:=by simp;omega
    by_cases hx1:128<=x.toNat
    ·have t1:(128:Int)<=(x.toNat:Int):=by omega
     have HN:=zH (Wire.big_snoc HB.out (k:=k) (by rw [HX.out];omega))
     go_wp2_with fail
     go_round
     case rel=>exact⟨k+1,by omega,by omega,by go_num,HN⟩
     case measure=>simp [intOf];omega
    ·have t1:¬ (128:Int)<=(x.toNat:Int):=by omega
     by_cases h9:k=9/\1 < x.toNat
     ·obtain⟨rfl,h1⟩:=h9
      have t2:(1:Int) < (x.toNat:Int):=by omega
      have HR:=zH (HF.out _ _ _ (Wire.dec_top HB.out hkl (by rw [HX.out];omega) (by rw [HX.out];exact h1)))
      go_wp2_with fail
      go_ret3
      obtain⟨rfl,rfl,rfl⟩:=HR.out
      exact⟨rfl,rfl⟩
     by_cases hx0:0 < k/\x.toNat=0
     ·have HR:=zH (HF.out _ _ _ (Wire.dec_form HB.out hkl h10 (by rw [HX.out];exact hx0.2) hx0.1))
      obtain⟨hk0,hx0⟩:=hx0
      have t3:((x.toNat:Int) == 0)=true:=by simp;omega
      have t2:(0:Int) < (k:Int):=by omega
      by_cases e9:k=9
      ·subst e9
       have t4:¬ (1:Int) < (x.toNat:Int):=by omega
       clear hx0 h9
       go_wp2_with fail
       go_ret3
       obtain⟨rfl,rfl,rfl⟩:=HR.out
       exact⟨rfl,rfl⟩
      ·have t4:((k:Int) == 9)=false:=by simp;omega
       clear hx0 h9
       go_wp2_with fail
       go_ret3
       obtain⟨rfl,rfl,rfl⟩:=HR.out
       exact⟨rfl,rfl⟩
     have HR:=zH (HF.out _ _ _ (HDN.out (by omega) (fun h1 h2=>hx0 ⟨h1,h2⟩) (fun h1=>by omega)))
     obtain⟨L,hL⟩:∃ L,b.take (k+1)=L:=⟨_,rfl⟩
     have hLl:L.length=k+1:=by rw [<-hL,List.length_take];omega
     have hLg:∀ j (hj:j < k+1),L[j]?=b[j]?:=by intro j hj;rw [<-hL,List.getElem?_take_of_lt hj]
     have HTOT:=zH (show Wire.val L < 18446744073709551616 by
      rw [<-hL,Wire.val_take_succ hkl,HX.out]
      have h1:=HDN.out (by omega) (fun h1 h2=>hx0 ⟨h1,h2⟩) (fun h1=>by omega)
      exact (Wire.enc_dec h1).2.2.2.2)
     have HR2:=zH (show vd=Wire.val L/\kd=k+1/\ed=0 by
      rw [<-hL,Wire.val_take_succ hkl,HX.out];exact HR.out)
     have HLL:=zH (And.intro hLl hLg)
     clear hL hLl hLg HDN HVT HR
     have hnx:n<=1000000:=hn
     have hsl:=h
     have hcase:(k=0)\/(k=9/\¬ x.toNat=0)\/(0 < k/\¬ k=9/\¬ x.toNat=0):=by omega
     have g0:k=0->¬ (0:Int) < (k:Int)/\((k:Int) == 9)=false:=fun e=>⟨by omega,by simp;omega⟩
     have g9:k=9->((k:Int) == 9)=true/\w.cell? (bb (o+9))=some (.int .u8 (x.toNat:Int))/\(9:Int) < (n:Int)/\¬ (1:Int) < (x.toNat:Int)/\(0:Int) < (k:Int):=fun e=>⟨by simp;omega,by rw [<-e];exact hc,by omega,by omega,by omega⟩
     have g1:0 < k->(0:Int) < (k:Int):=fun e=>by omega
     have g2:¬ k=9->((k:Int) == 9)=false:=fun e=>by simp;omega
     have g3:¬ x.toNat=0->((x.toNat:Int) == 0)=false:=fun e=>by simp;omega
     clear hx0 h9
     rcases hcase with e|⟨e,e2⟩|⟨e,e2,e3⟩
     case' _=>
      obtain⟨f1,f2⟩:=g0 e
      clear e g0 g9 g1 g2 g3
     rotate_left
     case' _=>
      obtain⟨f1,f2,f3,f4,f5⟩:=g9 e
      have f6:=g3 e2
      clear e e2 g0 g9 g1 g2 g3
     rotate_left
     case' _=>
      have f1:=g1 e
      have f2:=g2 e2
      have f3:=g3 e3
      clear e e2 e3 g0 g9 g1 g2 g3
     all_goals
      go_wp2_with fail
      go_loop [5,7] (fun v i=>∃ j:Nat,j<=k+1/\i=.int .i64 ((j:Int) - 1)/\v=.int .u64 (Wire.val (L.drop j):Nat)) (fun _ i=>(intOf i+1).toNat)
      case atStart=>exact⟨k+1,by omega,by go_num,by rw [List.drop_of_length_le (by rw [HLL.out.1];exact zN _)];rfl⟩
      case round =>
       obtain⟨j,hj,rfl,rfl⟩:=hrel
       by_cases hj0:1<=j
       ·obtain⟨j,rfl⟩:∃ i,j=i+1:=⟨j - 1,by omega⟩
        have hjn:j < n:=by omega
        obtain⟨bb2,o2,e5,hbb2,hkl2,hc2⟩:=h.at hjn
        cases e5
        obtain⟨y,hy⟩:∃ y,b[j]?.getD 0=y:=⟨_,rfl⟩
        rw [hy] at hc2
        have hst:=Wire.val_drop_step (l:=L) (j:=j) (by rw [HLL.out.1];omega)
        have hLj:L[j]'(by rw [HLL.out.1];omega)=y:=by
         have h1:=HLL.out.2 j (by omega)
         rw [List.getElem?_eq_getElem (by rw [HLL.out.1];omega)] at h1
         rw [<-hy,<-h1];rfl
        rw [hLj] at hst
        have hbd:=Wire.val_drop_le L j
        have htt:=HTOT.out
        obtain⟨V,hV⟩:∃ V,Wire.val (L.drop (j+1))=V:=⟨_,rfl⟩
        rw [hV] at hst ⊢
        have HST:=zH hst
        have b1:128 * V < 18446744073709551616:=by omega
        have b2:(0:Int)<=(V:Int):=by omega
        have b3:(V:Int) * 128<=18446744073709551488:=by omega
        have b4:0<=(y.toNat:Int):=by omega
        have b5:(y.toNat:Int) < 256:=by have:=y.toNat_lt;omega
        have b6:V * 128+y.toNat % 128 < 18446744073709551616:=by omega
        have b7:(V:Int) * 128+(y.toNat:Int) % 128<=18446744073709551615:=by omega
        have b8:((((j+1:Nat):Int)) - 1)=(j:Int):=by omega
        rw [b8]
        have j0:(0:Int)<=(j:Int):=by omega
        have j1:(j:Int) < (n:Int):=by omega
        clear hst hbd htt hV hLj hy b8 hj0
        go_wp2_with fail
        go_round
        case rel=>exact⟨j,by omega,by go_num,by rw [HST.out];go_num⟩
        case measure=>simp [intOf]
       ·obtain rfl:j=0:=by omega
        rw [List.drop_zero]
        obtain⟨r1,r2,r3⟩:=HR2.out
        rw [<-r1]
        have RK:=zH (And.intro r2 r3)
        clear r1 r2 r3 hj0
        go_wp2_with fail
        go_ret3
        obtain⟨rfl,rfl⟩:=RK.out
        exact⟨rfl,rfl⟩
   ·obtain rfl:k=n:=by omega
    have HR:=zH (HF.out _ _ _ (Wire.dec_trunc HB.out HLN.out.symm h10))
    go_wp2_with fail
    go_ret3
    obtain⟨rfl,rfl,rfl⟩:=HR.out
    exact⟨rfl,rfl⟩
  ·obtain rfl:k=10:=by omega
   have HR:=zH (HF.out _ _ _ (Wire.dec_over HB.out (by rw [HLN.out];exact hkn)))
   go_wp2_with fail
   go_ret3
   obtain⟨rfl,rfl,rfl⟩:=HR.out
   exact⟨rfl,rfl⟩
set_option maxHeartbeats 4000000 in
theorem zk_o (β:Bool) (a:Option Addr) (n c:Nat) (b:List UInt8) (w:World) (h:SlB w a n c b) (hn:n<=1000000) :
 Calls Tryz.prog (cond β 160 140) #[.slice a n c] w fun e w'=>e=.returned (.tuple #[.string (str (Wire.decT b).1),.int .i64 ((Wire.decT b).2.1:Nat),.int .i64 (Wire.decT b).2.2])/\w=w':=by
 have HQ:=Mk.mk β
 cases β <;> dsimp only [cond]
 all_goals
  first|(replace HQ:Mk true:=HQ;have hU:=zf_s a n c b w h hn)|have hU:=zb_y a n c b w h hn
  obtain⟨v,k,z,hd⟩:∃ v k z,Wire.dec b=(v,k,z):=⟨_,_,_,rfl⟩
  rw [hd] at hU
  dsimp only at hU
  have HU:=zH hU
  have HT:Hid (Wire.decT b=if z ≠ 0 then ([],0,z) else if 4096 < v then ([],0,3) else if b.length - k < v then ([],0,5) else ((b.drop k).take v,k+v,0)):=zH (by unfold Wire.decT;rw [hd])
  have hln:=h.len
  clear hU
  by_cases hz:z=0
  ·subst hz
   obtain⟨k1,k2⟩:=Wire.dec_le hd
   rw [hln] at k1
   have HD:=zH hd
   clear hd
   have k3:(0:Int)<=(k:Int):=by omega
   have k4:(0:Int)<=(v:Int):=by omega
   by_cases hv:4096 < v
   ·have HR:=zH (show Wire.decT b=([],0,3) by rw [HT.out,if_neg (by simp),if_pos hv])
    have hv':(4096:Int) < (v:Int):=by omega
    clear hln
    first|(go_at_call 160;go_enter Tryz.func160,Tryz.ntmps160)|go_enter Tryz.func140,Tryz.ntmps140
    go_wp2_with fail
    refine HU.out.mono ?_;rintro e w1 ⟨rfl,rfl⟩
    go_wp2_with fail
    go_ret3
    rw [HR.out]
    exact⟨rfl,rfl⟩
   have hv':¬ (4096:Int) < (v:Int):=by omega
   have hw:IntKind.i64.wrap (v:Int)=(v:Int):=by rw [IntKind.wrap_i64];omega
   by_cases hs:n - k < v
   ·have HR:=zH (show Wire.decT b=([],0,5) by rw [HT.out,if_neg (by simp),if_neg hv,if_pos (by rw [hln];exact hs)])
    have hs':(n:Int) - (k:Int) < (v:Int):=by omega
    clear hln
    first|(go_at_call 160;go_enter Tryz.func160,Tryz.ntmps160)|go_enter Tryz.func140,Tryz.ntmps140
    go_wp2_with fail
    refine HU.out.mono ?_;rintro e w1 ⟨rfl,rfl⟩
    go_wp2_with fail
    go_ret3
    rw [HR.out]
    exact⟨rfl,rfl⟩
   have HR:=zH (show Wire.decT b=((b.drop k).take v,k+v,0) by rw [HT.out,if_neg (by simp),if_neg hv,if_neg (by rw [hln];exact hs)])
   have hs':¬ (n:Int) - (k:Int) < (v:Int):=by omega
   have hkv:k+v<=n:=by omega
   have hs2:(k:Int)+(v:Int)<=(n:Int):=by omega
   have hle:=h.le
   have hnc:n<=c:=h.2.1
   have hcm:=h.2.2.1
   unfold maxLen at hcm
   have hk1:=(Wire.enc_dec HD.out).2.2.1
   obtain⟨bb,o,rfl,hbb,-,-⟩:=h.at (show 0 < n by omega)
   have HTT:=zH (show ∃ tt,(b.drop k).take v=tt from ⟨_,rfl⟩)
   obtain⟨tt,htt⟩:=HTT.out
   rw [htt] at HR
   have hww:IntKind.i64.wrap ((k:Int)+(v:Int))=(k:Int)+(v:Int):=by rw [IntKind.wrap_i64];omega
   by_cases hck:c=k
   case' pos=>
    have hv0:v=0:=by omega
    subst hv0
    have htn:tt=[]:=by rw [<-htt];simp
    have hcv:=za_t (w:=w) (a:=some (bb o)) (n:=0) (c:=0) (l:=tt) ⟨by rw [htn];rfl,Nat.zero_le _,by unfold maxLen;omega,(fun e=>by cases e),fun x _ i hi=>by rw [htn] at hi;simp at hi⟩
    clear htn htt hln
    obtain rfl:n=k:=by omega
    obtain rfl:n=c:=by omega
   case' neg=>
    have hd2:=(h.drop (k:=k) (by omega)).take (k:=v) (by omega)
    rw [htt] at hd2
    have hcv:=za_t hd2
    have h3:¬ (c:Int)=(k:Int):=by omega
    have h4:(k:Int)+(v:Int)<=(c:Int):=by omega
    have h5:((k:Int)+(v:Int)).toNat=k+v:=by omega
    clear hd2 htt hln
   all_goals
    first|(go_at_call 160;go_enter Tryz.func160,Tryz.ntmps160)|go_enter Tryz.func140,Tryz.ntmps140
    go_wp2_with fail
    refine HU.out.mono ?_;rintro e w1 ⟨rfl,rfl⟩
    go_wp2_with fail
    go_ret3
    rw [HR.out]
    exact⟨rfl,rfl⟩
  ·have HR:=zH (show Wire.decT b=([],0,z) by rw [HT.out,if_pos hz])
   have t1:(z != 0)=true:=by simpa using hz
   clear hz hln hd
   first|(go_at_call 160;go_enter Tryz.func160,Tryz.ntmps160)|go_enter Tryz.func140,Tryz.ntmps140
   go_wp2_with fail
   refine HU.out.mono ?_;rintro e w1 ⟨rfl,rfl⟩
   go_wp2_with fail
   go_ret3
   rw [HR.out]
   exact⟨rfl,rfl⟩
end
end Go.Proofs.YtmanejniepghlaaGreatDoor
