import Derived.Test.YtmanejniepghlaaGreatDoorRun34
import Derived.IntWalk
import Derived.Laws.ResultCell
import Derived.RegionTactic
namespace Go.Proofs.YtmanejniepghlaaGreatDoor
section
open Go.RowKit
set_option maxRecDepth 100000
variable {w:World} {H:Nat} {s:Super.S}
theorem zh_j (s:Super.S) (hv:Super.valid s=false) (w:World) :
 Calls Tryz.prog 47 #[supv s] w fun e w'=>e=.returned (.tuple #[.slice none 0 0,.int .i64 1])/\Below w.heap.size w w':=by
 have hV:=ze_x true s
 rw [hv] at hV
 have HV:=zH hV;clear hV hv
 go_enter Tryz.func47,Tryz.ntmps47
 unfold supv at *
 go_wp2_with (go_at_call 104;refine (HV.out _).mono ?_;rintro e w1 ⟨rfl,hb1⟩)
 go_ret2
 exact⟨rfl,((Below.refl _ _).alloc (zN _) _).trans (hb1.mono (by simp))⟩
theorem zf_p (s:Super.S) (hv:Super.valid s=false) (w:World) :
 Calls Tryz.prog 93 #[supv s] w fun e w'=>e=.returned (.tuple #[.slice none 0 0,.int .i64 1])/\Below w.heap.size w w':=by
 have hV:=ze_x false s
 rw [hv] at hV
 have HV:=zH hV;clear hV hv
 go_enter Tryz.func93,Tryz.ntmps93
 unfold supv at *
 go_wp2_with (go_at_call 145;refine (HV.out _).mono ?_;rintro e w1 ⟨rfl,hb1⟩)
 go_ret2
 exact⟨rfl,((Below.refl _ _).alloc (zN _) _).trans (hb1.mono (by simp))⟩
def EncPost (s:Super.S) (w:World) (e:Ending) (w':World):Prop :=
 ∃ a n c,e=.returned (.tuple #[.slice a n c,.int .i64 (if Super.valid s then 0 else 1)])/\SlB w' a n c (if Super.valid s then Super.enc s else [])/\Below w.heap.size w w'/\(Super.valid s=true->∃ K,a=.some (K:Nat))
theorem zo_p (s:Super.S) (hf:s.fits) (w:World):Calls Tryz.prog 47 #[supv s] w (EncPost s w):=by
 by_cases hv:Super.valid s=true
 ·obtain⟨gen,act,epoch,len,sum,rfl,h1,h2,h3,h4,h5⟩:=Super.valid_cases hv hf
  refine (zg_o gen act epoch len sum h1 h2 h3 h4 h5 hv w).mono ?_
  rintro e w' ⟨K,rfl,hr,hK,hb⟩
  refine⟨.some K,64,64,by rw [if_pos hv],?_,hb,fun _=>⟨K,rfl⟩⟩
  rw [if_pos hv]
  have hl:=Super.enc_length ⟨gen,act,epoch,len,sum⟩
  have:=hr.slb 0 64 64 (by omega) (zN _) (by decide)
  rw [List.drop_zero,List.take_of_length_le (by omega)] at this
  exact this
 ·have hv':Super.valid s=false:=by simpa using hv
  refine (zh_j s hv' w).mono ?_
  rintro e w' ⟨rfl,hb⟩
  refine⟨none,0,0,by rw [if_neg hv],?_,hb,fun h=>absurd h hv⟩
  rw [if_neg hv]
  exact⟨rfl,zN _,by unfold maxLen;omega,fun _=>⟨rfl,rfl⟩,fun x hx=>by cases hx⟩
theorem zk_g (s:Super.S) (hf:s.fits) (w:World):Calls Tryz.prog 93 #[supv s] w (fun e w'=>∃ a n c,e=.returned (.tuple #[.slice a n c,.int .i64 (if Super.valid s then 0 else 1)])/\SlB w' a n c (if Super.valid s then Super.enc s else [])/\Below w.heap.size w w'):=by
 by_cases hv:Super.valid s=true
 ·obtain⟨gen,act,epoch,len,sum,rfl,h1,h2,h3,h4,h5⟩:=Super.valid_cases hv hf
  refine (zi_y gen act epoch len sum h1 h2 h3 h4 h5 hv w).mono ?_
  rintro e w' ⟨v,rfl,hr,hb⟩
  obtain⟨a,c,rfl,hsl,-⟩:=hr.sl
  exact⟨a,_,c,by rw [if_pos hv],by rw [if_pos hv];exact hsl,hb⟩
 ·have hv':Super.valid s=false:=by simpa using hv
  refine (zf_p s hv' w).mono ?_
  rintro e w' ⟨rfl,hb⟩
  refine⟨none,0,0,by rw [if_neg hv],?_,hb⟩
  rw [if_neg hv]
  exact⟨rfl,zN _,by unfold maxLen;omega,fun _=>⟨rfl,rfl⟩,fun x hx=>by cases hx⟩
def scells (s:Super.S):Array Value:=#[.int .u64 s.gen,s.act,.int .u32 s.epoch,s.len,.int .u32 s.sum]
theorem za_u (s:Super.S):(Tryz.prog.info? 94).map (·.size)=some (scells s).size:=by kernel_rfl
theorem za_y (s:Super.S):(scells s).all (·.oneCell')=true:=by
 rw [Array.all_eq_true_iff_forall_mem]
 intro x hx
 simp only [scells,List.mem_toArray,List.mem_cons,List.not_mem_nil,or_false] at hx
 rcases hx with rfl|rfl|rfl|rfl|rfl <;> rfl
theorem SupBox.setRow (h:SupBox w H s) (s':Super.S):SupBox (w.setRow H (scells s')) H s':=setRow_heap w H _ _ _ _ h
theorem zb_j {fn:Func} {p u:Tmp} (h:fn.results=#[.cell p 94,.tmp u]) (tmps:Array Value) (hb:SupBox w H s) (hp:tmps.getD p undef=.pointer H) :
 (results fn tmps).run Tryz.prog w=.ok (.tuple #[supv s,tmps.getD u undef]) w:=by
 have hl:=run_loadVar_row (P:=Tryz.prog) w H _ 94 (scells s) _ _ hb Tryz.underlying94 rfl (za_u s)
 rw [results_cell_tmp h,hp]
 simp [asAddr,Result.andThen,hl]
 rfl
def DecPost (l:List UInt8) (w:World) (e:Ending) (w':World):Prop :=
 e=.returned (.tuple #[supv (Super.dec l).1,.int .i64 (Super.dec l).2])/\Below w.heap.size w w'
set_option maxHeartbeats 2000000 in
theorem zi_s (a:Option Addr) (n c:Nat) (l:List UInt8) (w:World) (h:SlB w a n c l):Calls Tryz.prog 157 #[.slice a n c] w (DecPost l w):=by
 obtain rfl:=h.len
 by_cases h64:l.length=64
 ·have t0:((l.length:Int) != 64)=false:=by rw [h64];rfl
  obtain⟨g,o,rfl,hg,_,_⟩:=h.at (show 0 < l.length by omega)
  have hc1:=h.2.1
  have hc2:c<=9223372036854775807:=by have:=h.2.2.1;unfold maxLen at this;omega
  rw [h64] at hc1
  have i1:(60:Int)<=(l.length:Int):=by omega
  have i2:(l.length:Int)<=(c:Int):=by omega
  have i3:(60:Int)<=(c:Int):=by omega
  have i4:l.length<=64:=by omega
  have n60:¬ c=60:=by omega
  have n6:¬ c=6:=by omega
  have n14:¬ c=14:=by omega
  have n18:¬ c=18:=by omega
  have n22:¬ c=22:=by omega
  have i5:64<=l.length:=by omega
  have H64:=zH h64;clear h64
  go_enter Tryz.func157,Tryz.ntmps157
  go_wp2
  obtain⟨W1,hW1⟩:∃ W1,W1=w.alloc (.cells #[.int .u64 0,.int .i64 0,.int .u32 0,.int .i64 0,.int .u32 0] 94):=⟨_,rfl⟩
  have hbW:Below w.heap.size w W1:=by rw [hW1];exact (Below.refl _ _).alloc (zN _) _
  have hZ:SupBox W1 w.heap.size Super.zero:=by rw [hW1];exact za_b _ _ _ rfl
  rw [<-hW1]
  have hs1:=h.ext hbW
  clear hW1 h hg
  have hs60:=hs1.drop (show 60<=l.length by omega)
  have hst:=hs1.take (show 60<=l.length by omega)
  obtain⟨x,hx⟩:∃ x,x=Super.unle ((l.drop 60).take 4):=⟨_,rfl⟩
  have hx2:x=Crc.unfix4 (l.drop 60):=by
   rw [hx,List.take_of_length_le (by simp;omega),Super.unle_four _ (by simp;omega)]
  have hxl:x < 4294967296:=by
   have:=Super.unle_lt ((l.drop 60).take 4)
   rw [<-hx] at this
   exact Nat.lt_of_lt_of_le this (Nat.le_trans (Nat.pow_le_pow_right (n:=256) (by decide) (List.length_take_le _ _)) (by decide))
  have wx:IntKind.u32.wrap (x:Int)=(x:Int):=by simp [IntKind.wrap,IntKind.bits,IntKind.signed];omega
  have hget:=zi_t (g (o+60)) (l.length - 60) (c - 60) 4 (l.drop 60)
  rw [<-hx] at hget
  have HGET:=zH hget
  clear hget
  have HX:=zH hx
  clear hx
  by_cases hcrc:Crc.unfix4 (l.drop 60)=Crc.update 0 (l.take 60)
  ·have t1:((x:Int) != ((Crc.update 0 (l.take 60):Nat):Int))=false:=by rw [hx2,hcrc];simp
   have HCRC:=zH hcrc;have HX2:=zH hx2
   clear hcrc hx2
   go_region_held3 (fun w'=>Ext W1 w') (first|assumption|exact Ext.drew (Ext.refl _)|exact Ext.step (by assumption) (by assumption)) (first|(go_at_call 184;go_must (refine (HGET.out _ (hs60.ext' (by assumption)) (by omega) (by omega) _ rfl).mono ?_);rintro e w9 ⟨rfl,rfl⟩)|(go_at_call 48;go_must (refine (zc_g _ _ _ _ _ (hst.ext' (by assumption))).mono ?_);rintro e w9 ⟨rfl,rfl⟩))
   go_wp2
   have hbW2:=hbW.drew
   have hZ2:=hZ.drew
   have hs2:=hs1.ext' (Ext.drew (Ext.refl W1))
   clear HGET HX wx hs60 hst hs1 hZ hbW t0 t1
   generalize W1.drew=W2 at *
   have hs_g6:=hs2.drop (show 6<=l.length by omega)
   have hget_g6:=zi_t (g (o+6)) (l.length - 6) (c - 6) 8 (l.drop 6)
   obtain⟨g6,hg6⟩:∃ x,x=Super.field l 6 8:=⟨_,rfl⟩
   have hlg6:g6 < 256 ^ 8:=by
    rw [hg6];exact Nat.lt_of_lt_of_le (Super.unle_lt _) (Nat.pow_le_pow_right (n:=256) (by decide) (List.length_take_le _ _))
   rw [show Super.unle ((l.drop 6).take 8)=g6 from hg6.symm] at hget_g6
   have HG_g6:=zH hget_g6;have Hg6:=zH hg6
   clear hget_g6 hg6
   have hs_g14:=hs2.drop (show 14<=l.length by omega)
   have hget_g14:=zi_t (g (o+14)) (l.length - 14) (c - 14) 4 (l.drop 14)
   obtain⟨g14,hg14⟩:∃ x,x=Super.field l 14 4:=⟨_,rfl⟩
   have hlg14:g14 < 256 ^ 4:=by
    rw [hg14];exact Nat.lt_of_lt_of_le (Super.unle_lt _) (Nat.pow_le_pow_right (n:=256) (by decide) (List.length_take_le _ _))
   rw [show Super.unle ((l.drop 14).take 4)=g14 from hg14.symm] at hget_g14
   have HG_g14:=zH hget_g14;have Hg14:=zH hg14
   clear hget_g14 hg14
   have hs_g18:=hs2.drop (show 18<=l.length by omega)
   have hget_g18:=zi_t (g (o+18)) (l.length - 18) (c - 18) 4 (l.drop 18)
   obtain⟨g18,hg18⟩:∃ x,x=Super.field l 18 4:=⟨_,rfl⟩
   have hlg18:g18 < 256 ^ 4:=by
    rw [hg18];exact Nat.lt_of_lt_of_le (Super.unle_lt _) (Nat.pow_le_pow_right (n:=256) (by decide) (List.length_take_le _ _))
   rw [show Super.unle ((l.drop 18).take 4)=g18 from hg18.symm] at hget_g18
   have HG_g18:=zH hget_g18;have Hg18:=zH hg18
   clear hget_g18 hg18
   have hs_g22:=hs2.drop (show 22<=l.length by omega)
   have hget_g22:=zi_t (g (o+22)) (l.length - 22) (c - 22) 4 (l.drop 22)
   obtain⟨g22,hg22⟩:∃ x,x=Super.field l 22 4:=⟨_,rfl⟩
   have hlg22:g22 < 256 ^ 4:=by
    rw [hg22];exact Nat.lt_of_lt_of_le (Super.unle_lt _) (Nat.pow_le_pow_right (n:=256) (by decide) (List.length_take_le _ _))
   rw [show Super.unle ((l.drop 22).take 4)=g22 from hg22.symm] at hget_g22
   have HG_g22:=zH hget_g22;have Hg22:=zH hg22
   clear hget_g22 hg22
   have w14:IntKind.u32.wrap (g14:Int)=(g14:Int):=by simp [IntKind.wrap,IntKind.bits,IntKind.signed];omega
   have w18:IntKind.i64.wrap (g18:Int)=(g18:Int):=IntWalk.i64_in _ (by omega)
   have w22:IntKind.u32.wrap (g22:Int)=(g22:Int):=by simp [IntKind.wrap,IntKind.bits,IntKind.signed];omega
   obtain⟨_,_,e5,hg5,k5,hc5⟩:=hs2.at (show 5 < l.length by omega)
   injection e5 with e5;injection e5 with e5 e6;subst e5;subst e6
   obtain⟨q,hq⟩:∃ q,q=l[5]?.getD 0:=⟨_,rfl⟩
   rw [<-hq] at hc5
   have HQ:=zH hq
   have hq8:q.toNat < 256:=q.toNat_lt
   have wq:IntKind.i64.wrap (q.toNat:Int)=(q.toNat:Int):=IntWalk.i64_in _ (by omega)
   clear hq k5
   have j6:(6:Int)<=(l.length:Int):=by omega
   have j14:(14:Int)<=(l.length:Int):=by omega
   have j18:(18:Int)<=(l.length:Int):=by omega
   have j22:(22:Int)<=(l.length:Int):=by omega
   have j5:(5:Int) < (l.length:Int):=by omega
   have KS:∀ w',Ext W2 w'->Ext W2 w'/\w'.cell? (g (o+5))=some (.int .u8 (q.toNat:Int)):=fun w' he=>⟨he,(Below.cell he (p:=(g (o+5))) hg5).trans hc5⟩
   have HKS:=zH KS
   clear KS
   go_region_held3 (fun w'=>Ext W2 w'/\w'.cell? (g (o+5))=some (.int .u8 (q.toNat:Int))) (first|assumption|exact HKS.out _ (Ext.drew (Ext.refl _))|exact HKS.out _ (And.left (by assumption))|exact HKS.out _ (Ext.drew (Ext.alloc (Ext.refl _) _))) (first|(go_at_call 184;((with_reducible refine (HG_g6.out _ (hs_g6.ext' (And.left (by assumption))) (by omega) (by omega) 8 rfl).mono ?_));rintro e w9 ⟨rfl,rfl⟩)|(go_at_call 184;((with_reducible refine (HG_g14.out _ (hs_g14.ext' (And.left (by assumption))) (by omega) (by omega) 4 rfl).mono ?_));rintro e w9 ⟨rfl,rfl⟩)|(go_at_call 184;((with_reducible refine (HG_g18.out _ (hs_g18.ext' (And.left (by assumption))) (by omega) (by omega) 4 rfl).mono ?_));rintro e w9 ⟨rfl,rfl⟩)|(go_at_call 184;((with_reducible refine (HG_g22.out _ (hs_g22.ext' (And.left (by assumption))) (by omega) (by omega) 4 rfl).mono ?_));rintro e w9 ⟨rfl,rfl⟩))
   all_goals
    go_wp2_with fail
    refine (zo_p ⟨g6,q.toNat,g14,g18,g22⟩ ⟨hlg6,hlg14,hlg22⟩ _).mono ?_;rintro e w5 ⟨a5,n5,c5,rfl,hsl5,hb5,-⟩
    have hZ5:SupBox w5 w.heap.size Super.zero:=(hb5.block _ (by have:=za_a hZ2;simp;omega)).trans ((za_c _ _ _ (za_a hZ2)).trans hZ2)
    have hF5:SupBox w5 W2.heap.size ⟨g6,q.toNat,g14,g18,g22⟩:=(hb5.block _ (by simp)).trans (za_b _ _ _ rfl)
    have hb25:Below W2.heap.size W2 w5:=((Below.refl _ _).alloc (zN _) _).drew.trans (hb5.mono (by simp))
    have hbw5:Below w.heap.size w w5:=hbW2.trans (hb25.mono hbW2.size)
    have hs5:=hs2.ext hb25
    have hfl:Super.fields l=⟨g6,q.toNat,g14,g18,g22⟩:=by unfold Super.fields;rw [<-Hg6.out,<-Hg14.out,<-Hg18.out,<-Hg22.out,<-HQ.out]
    have hdd:Super.dec l=if Super.valid (Super.fields l)=true/\Super.enc (Super.fields l)=l then (Super.fields l,0) else (Super.zero,6):=by
     unfold Super.dec;rw [if_neg (by rw [H64.out];simp),if_neg (by rw [HCRC.out];simp)]
    rw [hfl] at hdd
    obtain⟨sf,hsf⟩:∃ sf:Super.S,sf=⟨g6,q.toNat,g14,g18,g22⟩:=⟨_,rfl⟩
    rw [<-hsf] at hdd hsl5 hF5 ⊢
    clear hsf hfl
    have k1:=za_t hsl5
    have k2:=za_t hs5
    by_cases hv:Super.valid sf=true
    ·rw [if_pos hv] at k1 hsl5 ⊢
     by_cases he:Super.enc sf=l
     ·rw [if_pos ⟨hv,he⟩] at hdd
      have t2:(!(Super.enc sf == l))=false:=by simp [he]
      have HD:=zH hdd
      have hlf:=za_u sf
      clear he hdd hsl5 hs5 hv
      go_wp2_with (first|(refine wpList_load_row rfl 94 _ rfl W2.heap.size rfl 94 (scells sf) (0,0) _ hF5 Tryz.underlying94 rfl hlf ?_)|(refine za_p rfl 94 _ _ rfl w.heap.size rfl 94 (scells Super.zero) (scells sf) rfl hZ5 hlf rfl (za_y _) ?_))
      refine bodyPost_ret (v:=.tuple #[supv sf,.int .i64 0]) (zb_j (p:=2) (u:=3) rfl _ (hZ5.setRow sf) rfl) rfl ⟨by rw [HD.out],?_⟩
      exact zb_i hbw5 (zN _) _
     ·rw [if_neg (fun h=>he h.2)] at hdd
      have t2:(!(Super.enc sf == l))=true:=by simp [he]
      have HD:=zH hdd
      clear he hdd hsl5 hs5 hv
      go_wp2_with (refine za_p rfl 94 _ _ rfl w.heap.size rfl 94 (scells Super.zero) (scells Super.zero) rfl hZ5 (za_u _) rfl (za_y _) ?_)
      refine bodyPost_ret (v:=.tuple #[supv Super.zero,.int .i64 6]) (zb_j (p:=2) (u:=3) rfl _ (hZ5.setRow Super.zero) rfl) rfl ⟨by rw [HD.out],?_⟩
      exact zb_i hbw5 (zN _) _
    ·rw [if_neg (fun h=>hv h.1)] at hdd
     rw [if_neg hv] at k1 hsl5 ⊢
     have HD:=zH hdd
     clear hdd hsl5 hs5 hv
     go_wp2_with (refine za_p rfl 94 _ _ rfl w.heap.size rfl 94 (scells Super.zero) (scells Super.zero) rfl hZ5 (za_u _) rfl (za_y _) ?_)
     refine bodyPost_ret (v:=.tuple #[supv Super.zero,.int .i64 6]) (zb_j (p:=2) (u:=3) rfl _ (hZ5.setRow Super.zero) rfl) rfl ⟨by rw [HD.out],?_⟩
     exact zb_i hbw5 (zN _) _
  ·have t1:((x:Int) != ((Crc.update 0 (l.take 60):Nat):Int))=true:=by rw [bne_iff_ne,hx2];omega
   have hd:Super.dec l=(Super.zero,7):=by unfold Super.dec;rw [if_neg (by rw [H64.out];simp),if_pos hcrc]
   have HD:=zH hd
   clear hcrc hx2 hd
   go_region_held3 (fun w'=>Ext W1 w') (first|assumption|exact Ext.drew (Ext.refl _)|exact Ext.step (by assumption) (by assumption)) (first|(go_at_call 184;go_must (refine (HGET.out _ (hs60.ext' (by assumption)) (by omega) (by omega) _ rfl).mono ?_);rintro e w9 ⟨rfl,rfl⟩)|(go_at_call 48;go_must (refine (zc_g _ _ _ _ _ (hst.ext' (by assumption))).mono ?_);rintro e w9 ⟨rfl,rfl⟩))
   have hZ2:=hZ.drew
   have hbW2:=hbW.drew
   generalize W1.drew=W2 at *
   go_wp2_with (refine za_p rfl 94 _ _ rfl w.heap.size rfl 94 (scells Super.zero) (scells Super.zero) rfl hZ2 (za_u _) rfl (za_y _) ?_)
   refine bodyPost_ret (v:=.tuple #[supv Super.zero,.int .i64 7]) (zb_j (p:=2) (u:=3) rfl _ (hZ2.setRow Super.zero) rfl) rfl ⟨by rw [HD.out],?_⟩
   exact zb_i hbW2 (zN _) _
 ·have t0:((l.length:Int) != 64)=true:=by rw [bne_iff_ne];omega
  have hd:Super.dec l=(Super.zero,5):=by unfold Super.dec;rw [if_pos h64]
  have HD:=zH hd;clear hd h64
  go_enter Tryz.func157,Tryz.ntmps157
  go_wp2
  refine bodyPost_ret (v:=.tuple #[supv Super.zero,.int .i64 5]) ?_ rfl ⟨by rw [HD.out],?_⟩
  ·simp [results,Tryz.results157,go_sem,supv,Super.zero]
  ·exact (Below.refl _ _).alloc (zN _) _
end
section
open Go.RowKit
theorem SlB.sub {w:World} {b o n c:Nat} {l:List UInt8} (h:SlB w (b o) n c l) {k m:Nat} (hk:k<=m) (hm:m<=n):SlB w (b (o+k)) (m - k) (c - k) ((l.take m).drop k):=(h.take hm).drop hk
theorem zg_d (a:Option Addr) (n c:Nat) (l:List UInt8) (w:World) (h:SlB w a n c l) (hn:4<=n):Calls Tryz.prog 173 #[.slice a n c] w fun e w' =>
 e=.returned (.tuple #[.int .u32 (Crc.unfix4 l:Nat),.int .i64 0])/\Below w.heap.size w w' :=
 (za_o a n c l w h hn).mono fun e w' ⟨h1,k,h2⟩=>⟨h1,by rw [h2];exact below_drewN (Below.refl _ _) _⟩
def a4 (l:List UInt8) (k:Nat):Nat:=Crc.unfix4 ((l.take (k+4)).drop k)
theorem zc_n (l:List UInt8) (k:Nat) (h:k+4<=l.length):Super.field l k 4=a4 l k:=by
 unfold Super.field a4
 rw [List.drop_take,show k+4 - k=4 by omega,Super.unle_four _ (by simp;omega)]
theorem zm_l (l:List UInt8) (k:Nat) (h:k+4<=l.length):a4 l k < 4294967296:=by
 rw [<-zc_n l k h]
 exact Nat.lt_of_lt_of_le (Super.unle_lt _) (Nat.le_trans (Nat.pow_le_pow_right (n:=256) (by decide) (List.length_take_le _ _)) (by decide))
theorem zp_c (l:List UInt8) (h:14<=l.length):Super.field l 6 8=a4 l 6+a4 l 10 * 4294967296:=by
 rw [<-zc_n l 6 (by omega),<-zc_n l 10 (by omega)]
 unfold Super.field
 have e:(l.drop 6).take 8=(l.drop 6).take 4 ++ (l.drop 10).take 4:=by
  rw [show (8:Nat)=4+4 from rfl,List.take_add,List.drop_drop]
 rw [e,Super.unle_append,List.length_take,List.length_drop,Nat.min_eq_left (by omega),Nat.mul_comm]
set_option maxHeartbeats 2000000 in
set_option maxRecDepth 100000 in
theorem zf_o (a:Option Addr) (n c:Nat) (l:List UInt8) (w:World) (h:SlB w a n c l):Calls Tryz.prog 133 #[.slice a n c] w (DecPost l w):=by
 obtain rfl:=h.len
 by_cases h64:l.length=64
 ·have t0:((l.length:Int) != 64)=false:=by rw [h64];rfl
  obtain⟨g,o,rfl,hg,_,_⟩:=h.at (show 0 < l.length by omega)
  have hc1:=h.2.1
  have hc2:c<=9223372036854775807:=by have:=h.2.2.1;unfold maxLen at this;omega
  rw [h64] at hc1
  have i1:(60:Int)<=(l.length:Int):=by omega
  have i2:(l.length:Int)<=(c:Int):=by omega
  have i3:(60:Int)<=(c:Int):=by omega
  have i4:l.length<=64:=by omega
  have n60:¬ c=60:=by omega
  have n6:¬ c=6:=by omega
  have n10:¬ c=10:=by omega
  have n14:¬ c=14:=by omega
  have n18:¬ c=18:=by omega
  have n22:¬ c=22:=by omega
  have i5:64<=l.length:=by omega
  have H64:=zH h64;clear h64
  go_enter Tryz.func133,Tryz.ntmps133
  go_wp2_with fail
  obtain⟨W1,hW1⟩:∃ W1,W1=w.alloc (.cells #[.int .u64 0,.int .i64 0,.int .u32 0,.int .i64 0,.int .u32 0] 94):=⟨_,rfl⟩
  have hbW:Below w.heap.size w W1:=by rw [hW1];exact (Below.refl _ _).alloc (zN _) _
  have hZ:SupBox W1 w.heap.size Super.zero:=by rw [hW1];exact za_b _ _ _ rfl
  rw [<-hW1]
  have hs1:=h.ext hbW
  clear hW1 h hg
  refine (zg_d _ _ _ _ _ (hs1.drop (show 60<=l.length by omega)) (by omega)).mono ?_;rintro e W2 ⟨rfl,hy2⟩
  have hs2:=hs1.ext hy2
  have hZ2:SupBox W2 w.heap.size Super.zero:=(hy2.block _ (za_a hZ)).trans hZ
  have hb2:=hbW.trans (hy2.mono hbW.size)
  clear hs1 hZ hbW
  go_wp2_with fail
  refine (zh_f _ _ _ _ _ (hs2.take (show 60<=l.length by omega))).mono ?_;rintro e w9 ⟨rfl,rfl⟩
  by_cases hcrc:Crc.unfix4 (l.drop 60)=Crc.update 0 (l.take 60)
  ·have t1:(((Crc.unfix4 (l.drop 60):Nat):Int) != ((Crc.update 0 (l.take 60):Nat):Int))=false:=by rw [hcrc];simp
   have HCRC:=zH hcrc
   clear hcrc
   go_wp2_with fail
   refine (zg_d _ _ _ _ _ (show SlB W2 _ 4 _ _ from hs2.sub (show 6<=10 by omega) (show 10<=l.length by omega)) (by omega)).mono ?_;rintro e W3 ⟨rfl,hy3⟩
   have hs3:=hs2.ext hy3
   have hZ3:SupBox W3 w.heap.size Super.zero:=(hy3.block _ (za_a hZ2)).trans hZ2
   have hb3:=hb2.trans (hy3.mono hb2.size)
   rw [show Crc.unfix4 ((l.take 10).drop 6)=a4 l 6 from rfl]
   have hl6:=zm_l l 6 (by omega)
   clear hs2 hZ2 hb2
   go_wp2_with fail
   refine (zg_d _ _ _ _ _ (show SlB W3 _ 4 _ _ from hs3.sub (show 10<=14 by omega) (show 14<=l.length by omega)) (by omega)).mono ?_;rintro e W4 ⟨rfl,hy4⟩
   have hs4:=hs3.ext hy4
   have hZ4:SupBox W4 w.heap.size Super.zero:=(hy4.block _ (za_a hZ3)).trans hZ3
   have hb4:=hb3.trans (hy4.mono hb3.size)
   rw [show Crc.unfix4 ((l.take 14).drop 10)=a4 l 10 from rfl]
   have hl10:=zm_l l 10 (by omega)
   clear hs3 hZ3 hb3
   go_wp2_with fail
   refine (zg_d _ _ _ _ _ (show SlB W4 _ 4 _ _ from hs4.sub (show 14<=18 by omega) (show 18<=l.length by omega)) (by omega)).mono ?_;rintro e W5 ⟨rfl,hy5⟩
   have hs5:=hs4.ext hy5
   have hZ5:SupBox W5 w.heap.size Super.zero:=(hy5.block _ (za_a hZ4)).trans hZ4
   have hb5:=hb4.trans (hy5.mono hb4.size)
   rw [show Crc.unfix4 ((l.take 18).drop 14)=a4 l 14 from rfl]
   have hl14:=zm_l l 14 (by omega)
   clear hs4 hZ4 hb4
   go_wp2_with fail
   refine (zg_d _ _ _ _ _ (show SlB W5 _ 4 _ _ from hs5.sub (show 18<=22 by omega) (show 22<=l.length by omega)) (by omega)).mono ?_;rintro e W6 ⟨rfl,hy6⟩
   have hs6:=hs5.ext hy6
   have hZ6:SupBox W6 w.heap.size Super.zero:=(hy6.block _ (za_a hZ5)).trans hZ5
   have hb6:=hb5.trans (hy6.mono hb5.size)
   rw [show Crc.unfix4 ((l.take 22).drop 18)=a4 l 18 from rfl]
   have hl18:=zm_l l 18 (by omega)
   clear hs5 hZ5 hb5
   go_wp2_with fail
   refine (zg_d _ _ _ _ _ (show SlB W6 _ 4 _ _ from hs6.sub (show 22<=26 by omega) (show 26<=l.length by omega)) (by omega)).mono ?_;rintro e W7 ⟨rfl,hy7⟩
   have hs7:=hs6.ext hy7
   have hZ7:SupBox W7 w.heap.size Super.zero:=(hy7.block _ (za_a hZ6)).trans hZ6
   have hb7:=hb6.trans (hy7.mono hb6.size)
   rw [show Crc.unfix4 ((l.take 26).drop 22)=a4 l 22 from rfl]
   have hl22:=zm_l l 22 (by omega)
   clear hs6 hZ6 hb6
   have hfl:Super.fields l=⟨a4 l 6+a4 l 10 * 4294967296,((l[5]?.getD 0).toNat:Int),a4 l 14,a4 l 18,a4 l 22⟩:=by
    unfold Super.fields
    rw [zp_c l (by omega),zc_n l 14 (by omega),zc_n l 18 (by omega),zc_n l 22 (by omega)]
   have hfl':=zH hfl
   clear hfl
   obtain⟨_,_,e5,hg5,k5,hc5⟩:=hs7.at (show 5 < l.length by omega)
   injection e5 with e5;injection e5 with e5 e6;subst e5;subst e6
   generalize l[5]?.getD 0=q at *
   generalize a4 l 6=g6 at *
   generalize a4 l 10=g10 at *
   generalize a4 l 14=g14 at *
   generalize a4 l 18=g18 at *
   generalize a4 l 22=g22 at *
   have hq8:q.toNat < 256:=q.toNat_lt
   have j5:(5:Int) < (l.length:Int):=by omega
   clear k5
   go_wp2_with fail
   obtain⟨G,hG⟩:∃ G,G=g6+g10 * 4294967296:=⟨_,rfl⟩
   have hGl:G < 18446744073709551616:=by omega
   have hGc:((g6:Int)+g10 * 4294967296)=(G:Int):=by rw [hG];simp
   rw [hGc]
   have hfl:=hfl'.out
   rw [<-hG] at hfl
   clear hG hGc hfl'
   refine (zk_g ⟨G,q.toNat,g14,g18,g22⟩ ⟨hGl,hl14,hl22⟩ _).mono ?_;rintro e w5 ⟨a5,n5,c5,rfl,hsl5,hb5⟩
   have hZ5:SupBox w5 w.heap.size Super.zero:=(hb5.block _ (by have:=za_a hZ7;simp;omega)).trans ((za_c _ _ _ (za_a hZ7)).trans hZ7)
   have hF5:SupBox w5 W7.heap.size ⟨G,q.toNat,g14,g18,g22⟩:=(hb5.block _ (by simp)).trans (za_b _ _ _ rfl)
   have hb25:Below W7.heap.size W7 w5:=((Below.refl _ _).alloc (zN _) _).trans (hb5.mono (by simp))
   have hbw5:Below w.heap.size w w5:=hb7.trans (hb25.mono hb7.size)
   have hs5:=hs7.ext hb25
   have hdd:Super.dec l=if Super.valid (Super.fields l)=true/\Super.enc (Super.fields l)=l then (Super.fields l,0) else (Super.zero,6):=by
    unfold Super.dec;rw [if_neg (by rw [H64.out];simp),if_neg (by rw [HCRC.out];simp)]
   rw [hfl] at hdd
   obtain⟨sf,hsf⟩:∃ sf:Super.S,sf=⟨G,q.toNat,g14,g18,g22⟩:=⟨_,rfl⟩
   rw [<-hsf] at hdd hsl5 hF5 ⊢
   clear hsf hfl
   have k1:=za_t hsl5
   have k2:=za_t hs5
   by_cases hv:Super.valid sf=true
   ·rw [if_pos hv] at k1 hsl5 ⊢
    by_cases he:Super.enc sf=l
    ·rw [if_pos ⟨hv,he⟩] at hdd
     have t2:(!(Super.enc sf == l))=false:=by simp [he]
     have HD:=zH hdd
     have hlf:=za_u sf
     clear he hdd hsl5 hs5 hv
     go_wp2_with (first|(refine wpList_load_row rfl 94 _ rfl W7.heap.size rfl 94 (scells sf) (0,0) _ hF5 Tryz.underlying94 rfl hlf ?_)|(refine za_p rfl 94 _ _ rfl w.heap.size rfl 94 (scells Super.zero) (scells sf) rfl hZ5 hlf rfl (za_y _) ?_))
     refine bodyPost_ret (v:=.tuple #[supv sf,.int .i64 0]) (zb_j (p:=2) (u:=3) rfl _ (hZ5.setRow sf) rfl) rfl ⟨by rw [HD.out],?_⟩
     exact zb_i hbw5 (zN _) _
    ·rw [if_neg (fun h=>he h.2)] at hdd
     have t2:(!(Super.enc sf == l))=true:=by simp [he]
     have HD:=zH hdd
     clear he hdd hsl5 hs5 hv
     go_wp2_with (refine za_p rfl 94 _ _ rfl w.heap.size rfl 94 (scells Super.zero) (scells Super.zero) rfl hZ5 (za_u _) rfl (za_y _) ?_)
     refine bodyPost_ret (v:=.tuple #[supv Super.zero,.int .i64 6]) (zb_j (p:=2) (u:=3) rfl _ (hZ5.setRow Super.zero) rfl) rfl ⟨by rw [HD.out],?_⟩
     exact zb_i hbw5 (zN _) _
   ·rw [if_neg (fun h=>hv h.1)] at hdd
    rw [if_neg hv] at k1 hsl5 ⊢
    have HD:=zH hdd
    clear hdd hsl5 hs5 hv
    go_wp2_with (refine za_p rfl 94 _ _ rfl w.heap.size rfl 94 (scells Super.zero) (scells Super.zero) rfl hZ5 (za_u _) rfl (za_y _) ?_)
    refine bodyPost_ret (v:=.tuple #[supv Super.zero,.int .i64 6]) (zb_j (p:=2) (u:=3) rfl _ (hZ5.setRow Super.zero) rfl) rfl ⟨by rw [HD.out],?_⟩
    exact zb_i hbw5 (zN _) _
  ·have t1:(((Crc.unfix4 (l.drop 60):Nat):Int) != ((Crc.update 0 (l.take 60):Nat):Int))=true:=by rw [bne_iff_ne];omega
   have hd:Super.dec l=(Super.zero,7):=by unfold Super.dec;rw [if_neg (by rw [H64.out];simp),if_pos hcrc]
   have HD:=zH hd
   clear hcrc hd
   go_wp2_with (refine za_p rfl 94 _ _ rfl w.heap.size rfl 94 (scells Super.zero) (scells Super.zero) rfl hZ2 (za_u _) rfl (za_y _) ?_)
   refine bodyPost_ret (v:=.tuple #[supv Super.zero,.int .i64 7]) (zb_j (p:=2) (u:=3) rfl _ (hZ2.setRow Super.zero) rfl) rfl ⟨by rw [HD.out],?_⟩
   exact zb_i hb2 (zN _) _
 ·have t0:((l.length:Int) != 64)=true:=by rw [bne_iff_ne];omega
  have hd:Super.dec l=(Super.zero,5):=by unfold Super.dec;rw [if_pos h64]
  have HD:=zH hd;clear hd h64
  go_enter Tryz.func133,Tryz.ntmps133
  go_wp2
  refine bodyPost_ret (v:=.tuple #[supv Super.zero,.int .i64 5]) ?_ rfl ⟨by rw [HD.out],?_⟩
  ·simp [results,Tryz.results133,go_sem,supv,Super.zero]
  ·exact (Below.refl _ _).alloc (zN _) _
end
section
open Go.RowKit
set_option maxRecDepth 100000
variable {w:World} {H:Nat} {s:Super.S}
theorem zb_b {fn:Func} {t p u:Tmp} (h:fn.results=#[.tmp t,.cell p 94,.tmp u]) (tmps:Array Value) (hb:SupBox w H s) (hp:tmps.getD p undef=.pointer H) :
 (results fn tmps).run Tryz.prog w=.ok (.tuple #[tmps.getD t undef,supv s,tmps.getD u undef]) w:=by
 have hl:=run_loadVar_row (P:=Tryz.prog) w H _ 94 (scells s) _ _ hb Tryz.underlying94 rfl (za_u s)
 have hp':tmps[p]?.getD undef=.pointer H:=by simpa using hp
 simp only [results,h]
 simp [Result.andThen,hp',asAddr,hl]
 rfl
theorem SupBox.free (h:SupBox w H s) (k:Nat):w.frozen? (H k)=false:=frozen_of_row _ _ _ _ _ h
theorem SupBox.set5 (h:SupBox w H s) (s':Super.S) :
 SupBox (((((w.setCell H (.int .u64 s'.gen)).setCell (H 1) (s'.act:Value)).setCell (H 2) (.int .u32 s'.epoch)).setCell (H 3) (s'.len:Value)).setCell (H 4) (.int .u32 s'.sum)) H s':=by
 unfold SupBox
 rw [heap_setCell_same _ _ _ _ _ _ (heap_setCell_same _ _ _ _ _ _ (heap_setCell_same _ _ _ _ _ _ (heap_setCell_same _ _ _ _ _ _ (heap_setCell_same _ _ _ _ _ _ h))))]
 simp
def ChoosePost (la lb:List UInt8) (w:World) (e:Ending) (w':World):Prop :=
 e=.returned (.tuple #[.int .i64 (Super.choose la lb).1,supv (Super.choose la lb).2.1,.int .i64 (Super.choose la lb).2.2])/\Below w.heap.size w w'
set_option maxHeartbeats 2000000 in
theorem zj_a (β:Bool) (a b:Option Addr) (n m c d:Nat) (la lb:List UInt8) (w:World) (ha:SlB w a n c la) (hb:SlB w b m d lb) :
 Calls Tryz.prog (cond β 113 78) #[.slice a n c,.slice b m d] w (ChoosePost la lb w):=by
 have HQ:=Mk.mk β
 cases β <;> dsimp only [cond]
 all_goals
  first|(replace HQ:Mk true:=HQ;have hca:=zi_s a n c la)|have hca:=zf_o a n c la
  first|(replace HQ:Mk true:=HQ;have hcb:=zi_s b m d lb)|have hcb:=zf_o b m d lb
  have hch:Super.choose la lb=if (Super.dec la).2 ≠ 0/\(Super.dec lb).2 ≠ 0 then (0,Super.zero,13) else if (Super.dec la).2 ≠ 0\/((Super.dec lb).2=0/\(Super.dec la).1.gen < (Super.dec lb).1.gen) then (1,(Super.dec lb).1,0) else (0,(Super.dec la).1,0):=rfl
  unfold DecPost at hca hcb
  obtain⟨⟨sa,ra⟩,hda⟩:∃ x,x=Super.dec la:=⟨_,rfl⟩
  obtain⟨⟨sb,rb⟩,hdb⟩:∃ x,x=Super.dec lb:=⟨_,rfl⟩
  rw [<-hda] at hca hch
  rw [<-hdb] at hcb hch
  simp only at hca hcb hch
  clear hda hdb
  unfold supv at hca hcb
  have HA:=zH hca;have HB:=zH hcb;have HC:=zH hch
  clear hca hcb hch
  have h1:=hb
  first|(go_at_call 113;go_enter Tryz.func113,Tryz.ntmps113)|go_enter Tryz.func78,Tryz.ntmps78
  go_wp2_with fail
  have hz:=za_b w (.cells #[.int .u64 0,.int .i64 0,.int .u32 0,.int .i64 0,.int .u32 0] 94) _ rfl
  have hZ1:SupBox (w.alloc (.cells #[.int .u64 0,.int .i64 0,.int .u32 0,.int .i64 0,.int .u32 0] 94)) w.heap.size Super.zero:=hz
  have hbw1:Below w.heap.size w (w.alloc (.cells #[.int .u64 0,.int .i64 0,.int .u32 0,.int .i64 0,.int .u32 0] 94)):=(Below.refl _ _).alloc (zN _) _
  refine (HA.out _ (ha.ext hbw1)).mono ?_;rintro e w2 ⟨rfl,hy2⟩
  have hZ2:SupBox w2 w.heap.size Super.zero:=(hy2.block _ (za_a hZ1)).trans hZ1
  have hbw2:=hbw1.trans (hy2.mono hbw1.size)
  clear hz hZ1 hbw1 hy2
  go_wp2_with fail
  have hA3:SupBox (w2.alloc (.cells #[.int .u64 sa.gen,sa.act,.int .u32 sa.epoch,sa.len,.int .u32 sa.sum] 94)) w2.heap.size sa:=za_b _ _ _ rfl
  have hZ3:SupBox (w2.alloc (.cells #[.int .u64 sa.gen,sa.act,.int .u32 sa.epoch,sa.len,.int .u32 sa.sum] 94)) w.heap.size Super.zero:=(za_c _ _ _ (za_a hZ2)).trans hZ2
  have hbw3:=hbw2.alloc hbw2.size (.cells #[.int .u64 sa.gen,sa.act,.int .u32 sa.epoch,sa.len,.int .u32 sa.sum] 94)
  have hlt2:=za_a hZ2
  refine (HB.out _ (hb.ext hbw3)).mono ?_;rintro e w4 ⟨rfl,hy4⟩
  have hA4:SupBox w4 w2.heap.size sa:=(hy4.block _ (za_a hA3)).trans hA3
  have hZ4:SupBox w4 w.heap.size Super.zero:=(hy4.block _ (za_a hZ3)).trans hZ3
  have hbw4:=hbw3.trans (hy4.mono hbw3.size)
  clear hA3 hZ3 hbw3 hy4 hbw2 hZ2
  have hB5:SupBox (w4.alloc (.cells #[.int .u64 sb.gen,sb.act,.int .u32 sb.epoch,sb.len,.int .u32 sb.sum] 94)) w4.heap.size sb:=za_b _ _ _ rfl
  have hA5:SupBox (w4.alloc (.cells #[.int .u64 sb.gen,sb.act,.int .u32 sb.epoch,sb.len,.int .u32 sb.sum] 94)) w2.heap.size sa:=(za_c _ _ _ (za_a hA4)).trans hA4
  have hZ5:SupBox (w4.alloc (.cells #[.int .u64 sb.gen,sb.act,.int .u32 sb.epoch,sb.len,.int .u32 sb.sum] 94)) w.heap.size Super.zero:=(za_c _ _ _ (za_a hZ4)).trans hZ4
  have hbw5:=hbw4.alloc hbw4.size (.cells #[.int .u64 sb.gen,sb.act,.int .u32 sb.epoch,sb.len,.int .u32 sb.sum] 94)
  have hlt4:=za_a hZ4
  have hlt5:=za_a hA4
  by_cases hra:ra=0
  ·have ta:(ra == 0)=true:=by simp [hra]
   have ta':(ra != 0)=false:=by simp [hra]
   by_cases hrb:rb=0
   ·have tb:(rb == 0)=true:=by simp [hrb]
    have tb':(rb != 0)=false:=by simp [hrb]
    by_cases hgt:sa.gen < sb.gen
    ·have HC2:=zH ((HC.out.trans (if_neg (fun h=>h.1 hra))).trans (if_pos (Or.inr ⟨hrb,hgt⟩)))
     clear hra hrb
     obtain⟨q0,q1,q2,q3,q4⟩:=hB5.cells
     obtain⟨p0,p1,p2,p3,p4⟩:=hA5.cells
     obtain⟨z0,z1,z2,z3,z4⟩:=hZ4.cells
     have f0:=hZ4.free 0;have f1:=hZ4.free 1;have f2:=hZ4.free 2;have f3:=hZ4.free 3;have f4:=hZ4.free 4
     go_wp2_with fail
     go_region
     go_wp2
     refine bodyPost_ret (v:=.tuple #[.int .i64 1,supv sb,.int .i64 0]) (zb_b (t:=4) (p:=5) (u:=6) (H:=w.heap.size) rfl _ (show SupBox _ w.heap.size sb from (za_c _ _ _ (by simp;omega)).trans (hZ4.set5 sb)) rfl) rfl ⟨by rw [HC2.out],?_⟩
     exact ((((((hbw4.setCell (zN _) _).setCell (zN _) _).setCell (zN _) _).setCell (zN _) _).setCell (zN _) _).alloc (by simp;omega) _).drew
    ·have HC2:=zH ((HC.out.trans (if_neg (fun h=>h.1 hra))).trans (if_neg (fun h=>h.elim (fun h=>h hra) (fun h=>hgt h.2))))
     clear hra hrb
     obtain⟨q0,q1,q2,q3,q4⟩:=hB5.cells
     obtain⟨p0,p1,p2,p3,p4⟩:=hA5.cells
     obtain⟨z0,z1,z2,z3,z4⟩:=hZ4.cells
     have f0:=hZ4.free 0;have f1:=hZ4.free 1;have f2:=hZ4.free 2;have f3:=hZ4.free 3;have f4:=hZ4.free 4
     go_wp2_with fail
     go_region
     go_wp2
     refine bodyPost_ret (v:=.tuple #[.int .i64 0,supv sa,.int .i64 0]) (zb_b (t:=4) (p:=5) (u:=6) (H:=w.heap.size) rfl _ (show SupBox _ w.heap.size sa from (za_c _ _ _ (by simp;omega)).trans (hZ4.set5 sa)) rfl) rfl ⟨by rw [HC2.out],?_⟩
     exact ((((((hbw4.setCell (zN _) _).setCell (zN _) _).setCell (zN _) _).setCell (zN _) _).setCell (zN _) _).alloc (by simp;omega) _).drew
   ·have tb:(rb == 0)=false:=by simp [hrb]
    have tb':(rb != 0)=true:=by simp [hrb]
    have HC2:=zH ((HC.out.trans (if_neg (fun h=>h.1 hra))).trans (if_neg (fun h=>h.elim (fun h=>h hra) (fun h=>hrb h.1))))
    clear hra hrb
    obtain⟨q0,q1,q2,q3,q4⟩:=hB5.cells
    obtain⟨p0,p1,p2,p3,p4⟩:=hA5.cells
    obtain⟨z0,z1,z2,z3,z4⟩:=hZ4.cells
    have f0:=hZ4.free 0;have f1:=hZ4.free 1;have f2:=hZ4.free 2;have f3:=hZ4.free 3;have f4:=hZ4.free 4
    go_wp2_with fail
    go_region
    go_wp2
    refine bodyPost_ret (v:=.tuple #[.int .i64 0,supv sa,.int .i64 0]) (zb_b (t:=4) (p:=5) (u:=6) (H:=w.heap.size) rfl _ (show SupBox _ w.heap.size sa from (za_c _ _ _ (by simp;omega)).trans (hZ4.set5 sa)) rfl) rfl ⟨by rw [HC2.out],?_⟩
    exact ((((((hbw4.setCell (zN _) _).setCell (zN _) _).setCell (zN _) _).setCell (zN _) _).setCell (zN _) _).alloc (by simp;omega) _).drew
  ·have ta:(ra == 0)=false:=by simp [hra]
   have ta':(ra != 0)=true:=by simp [hra]
   by_cases hrb:rb=0
   ·have tb:(rb == 0)=true:=by simp [hrb]
    have tb':(rb != 0)=false:=by simp [hrb]
    have HC2:=zH ((HC.out.trans (if_neg (fun h=>h.2 hrb))).trans (if_pos (Or.inl hra)))
    clear hra hrb
    obtain⟨q0,q1,q2,q3,q4⟩:=hB5.cells
    obtain⟨p0,p1,p2,p3,p4⟩:=hA5.cells
    obtain⟨z0,z1,z2,z3,z4⟩:=hZ4.cells
    have f0:=hZ4.free 0;have f1:=hZ4.free 1;have f2:=hZ4.free 2;have f3:=hZ4.free 3;have f4:=hZ4.free 4
    go_wp2_with fail
    go_region
    go_wp2
    refine bodyPost_ret (v:=.tuple #[.int .i64 1,supv sb,.int .i64 0]) (zb_b (t:=4) (p:=5) (u:=6) (H:=w.heap.size) rfl _ (show SupBox _ w.heap.size sb from (za_c _ _ _ (by simp;omega)).trans (hZ4.set5 sb)) rfl) rfl ⟨by rw [HC2.out],?_⟩
    exact ((((((hbw4.setCell (zN _) _).setCell (zN _) _).setCell (zN _) _).setCell (zN _) _).setCell (zN _) _).alloc (by simp;omega) _).drew
   ·have tb:(rb == 0)=false:=by simp [hrb]
    have tb':(rb != 0)=true:=by simp [hrb]
    have HC2:=zH (HC.out.trans (if_pos ⟨hra,hrb⟩))
    clear hra hrb
    obtain⟨q0,q1,q2,q3,q4⟩:=hB5.cells
    obtain⟨p0,p1,p2,p3,p4⟩:=hA5.cells
    obtain⟨z0,z1,z2,z3,z4⟩:=hZ4.cells
    have f0:=hZ4.free 0;have f1:=hZ4.free 1;have f2:=hZ4.free 2;have f3:=hZ4.free 3;have f4:=hZ4.free 4
    go_wp2_with fail
    refine bodyPost_ret (v:=.tuple #[.int .i64 0,supv Super.zero,.int .i64 13]) (zb_b (t:=4) (p:=5) (u:=6) (H:=w.heap.size) rfl _ (show SupBox _ w.heap.size Super.zero from (za_c _ _ _ (by simp;omega)).trans (hZ4.set5 Super.zero)) rfl) rfl ⟨by rw [HC2.out],?_⟩
    exact ((((((hbw4.setCell (zN _) _).setCell (zN _) _).setCell (zN _) _).setCell (zN _) _).setCell (zN _) _).alloc (by simp;omega) _)
end
end Go.Proofs.YtmanejniepghlaaGreatDoor
