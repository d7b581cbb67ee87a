import Derived.Test.YtmanejniepghlaaGreatDoorRun36
import Derived.IntWalk
import Derived.Deep.QuietTactic
import Derived.BigQuiet
namespace Go.Proofs.YtmanejniepghlaaGreatDoor
open Go.RowKit
set_option maxRecDepth 100000
def FDecPost (l:List UInt8) (ep sq:Nat) (w:World) (e:Ending) (w':World):Prop :=
 ∃ v,e=.returned (.tuple #[v,.int .i64 ((Frame.dec l ep sq).2.1:Nat),.int .i64 (Frame.dec l ep sq).2.2])/\OwnB w.heap.size w' v (Frame.dec l ep sq).1/\Below w.heap.size w w'
theorem zb_c {l:List UInt8} {ep sq:Nat} {p:List UInt8} {m:Nat} {er:Int} (hd:Frame.dec l ep sq=(p,m,er)) {w:World} {e:Ending} {w':World} (v:Value) (he:e=.returned (.tuple #[v,m,er])) (ho:OwnB w.heap.size w' v p) (hb:Below w.heap.size w w'):FDecPost l ep sq w e w':=by
 unfold FDecPost;rw [hd];exact⟨v,he,ho,hb⟩
set_option maxHeartbeats 4000000 in
theorem zn_e (a:Option Addr) (n c:Nat) (l:List UInt8) (ep sq:Nat) (_he:ep < 4294967296) (_hs:sq < 4294967296) (w:World) (h:SlB w a n c l) :
 Calls Tryz.prog 172 #[.slice a n c,.int .u32 ep,.int .u32 sq] w (FDecPost l ep sq w):=by
 have hle:=h.le
 have hln:=h.len
 by_cases h1:n < 14
 ·have hd:Frame.dec l ep sq=([],0,5):=by unfold Frame.dec;rw [if_pos (by omega)]
  have HD:=zH hd
  have ht:(n:Int) < 14:=by omega
  clear hd hln
  go_enter Tryz.func172,Tryz.ntmps172
  go_wp2_with fail
  go_ret3
  exact zb_c HD.out _ rfl (OwnB.nil _ _) (Below.refl _ _)
 have ht1:¬ (n:Int) < 14:=by omega
 obtain⟨b,o,rfl,hb,-,-⟩:=h.at (show 0 < n by omega)
 have hr1:=h.take (show 2<=n by omega)
 have hm:=Frame.len2_lt l
 have hml:Super.unle (l.take 2)=Frame.len2 l:=rfl
 have hcn:n<=c:=h.2.1
 by_cases h2:1024 < Frame.len2 l
 ·have hd:Frame.dec l ep sq=([],0,3):=by unfold Frame.dec;rw [if_neg (by omega),if_pos h2]
  have hsz:Frame.size (Frame.len2 l:Int)=0:=by unfold Frame.size;rw [if_pos (by omega)]
  have HD:=zH hd;have HSZ:=zH hsz;have HML:=zH hml
  clear hd hsz hml hln
  generalize Frame.len2 l=m at *
  go_enter Tryz.func172,Tryz.ntmps172
  go_wp2_with fail
  refine (zc_b _ _ _ _ _ hr1 (by omega)).mono ?_;rintro e w1 ⟨rfl,hb1⟩
  rw [HML.out]
  go_wp2_with fail
  refine (zg_y _ (by omega) (by omega) _).mono ?_;rintro e w0 ⟨rfl,rfl⟩
  rw [HSZ.out]
  go_wp2_with fail
  go_ret3
  exact zb_c HD.out _ rfl (OwnB.nil _ _) hb1
 have hsz:Frame.size (Frame.len2 l:Int)=((14+Frame.len2 l:Nat):Int):=by unfold Frame.size;rw [if_neg (by omega)];omega
 by_cases h3:n < 14+Frame.len2 l
 ·have hd:Frame.dec l ep sq=([],0,5):=by unfold Frame.dec;rw [if_neg (by omega),if_neg h2,if_pos (by omega)]
  have HD:=zH hd;have HSZ:=zH hsz;have HML:=zH hml
  clear hd hsz hml hln
  generalize Frame.len2 l=m at *
  have ht2:(n:Int) < 14+(m:Int):=by omega
  have ht3:((14:Int)+m == 0)=false:=by simp;omega
  go_enter Tryz.func172,Tryz.ntmps172
  go_wp2_with fail
  refine (zc_b _ _ _ _ _ hr1 (by omega)).mono ?_;rintro e w1 ⟨rfl,hb1⟩
  rw [HML.out]
  go_wp2_with fail
  refine (zg_y _ (by omega) (by omega) _).mono ?_;rintro e w0 ⟨rfl,rfl⟩
  rw [HSZ.out]
  go_wp2_with fail
  go_ret3
  exact zb_c HD.out _ rfl (OwnB.nil _ _) hb1
 have hrs:SlB w (b (o+(10+Frame.len2 l))) 4 (c - (10+Frame.len2 l)) ((l.drop (10+Frame.len2 l)).take 4):=(h.drop (k:=10+Frame.len2 l) (by omega)).take (by omega)
 have hrd:SlB w (b o) (10+Frame.len2 l) c (l.take (10+Frame.len2 l)):=h.take (by omega)
 have hre:SlB w (b (o+2)) 4 (c - 2) ((l.drop 2).take 4):=(h.drop (k:=2) (by omega)).take (by omega)
 have hrq:SlB w (b (o+6)) 4 (c - 6) ((l.drop 6).take 4):=(h.drop (k:=6) (by omega)).take (by omega)
 have hrp:SlB w (b (o+10)) (Frame.len2 l) (c - 10) ((l.drop 10).take (Frame.len2 l)):=(h.drop (k:=10) (by omega)).take (by omega)
 have hc4:=fun ep sq=>show Frame.dec l ep sq=if Super.unle ((l.drop (10+Frame.len2 l)).take 4) ≠ Crc.update 0 (l.take (10+Frame.len2 l)) then ([],0,7) else if Super.unle ((l.drop 2).take 4) ≠ ep\/Super.unle ((l.drop 6).take 4) ≠ sq then ([],0,8) else ((l.drop 10).take (Frame.len2 l),14+Frame.len2 l,0) by
  unfold Frame.dec;rw [if_neg (by omega),if_neg h2,if_neg (by omega)]
 have hu1:=Super.unle_lt ((l.drop (10+Frame.len2 l)).take 4)
 have hu2:=Crc.update_lt 0 (l.take (10+Frame.len2 l))
 have HC4:=zH hc4;have HSZ:=zH hsz;have HML:=zH hml
 clear hc4 hsz hml hln hu1 hu2
 generalize Frame.len2 l=m at *
 obtain⟨U,hU⟩:∃ U,U=Super.unle ((l.drop (10+m)).take 4):=⟨_,rfl⟩
 obtain⟨V,hV⟩:∃ V,V=Crc.update 0 (l.take (10+m)):=⟨_,rfl⟩
 obtain⟨X,hX⟩:∃ X,X=Super.unle ((l.drop 2).take 4):=⟨_,rfl⟩
 obtain⟨Y,hY⟩:∃ Y,Y=Super.unle ((l.drop 6).take 4):=⟨_,rfl⟩
 have hcs:(((U:Int) != V)=true/\Hid (Frame.dec l ep sq=([],0,7)))\/(((U:Int) != V)=false/\((X:Int) != ep)=true/\Hid (Frame.dec l ep sq=([],0,8)))\/(((U:Int) != V)=false/\((X:Int) != ep)=false/\((Y:Int) != sq)=true/\Hid (Frame.dec l ep sq=([],0,8))) ∨
  (((U:Int) != V)=false/\((X:Int) != ep)=false/\((Y:Int) != sq)=false/\Hid (Frame.dec l ep sq=((l.drop 10).take m,14+m,0))):=by
  have hc:=HC4.out ep sq
  rw [<-hU,<-hV,<-hX,<-hY] at hc
  by_cases e1:U=V
  ·rw [if_neg (by simpa using e1)] at hc
   by_cases e2:X=ep
   ·by_cases e3:Y=sq
    ·rw [if_neg (by simp [e2,e3])] at hc
     exact .inr (.inr (.inr ⟨by simp [e1],by simp [e2],by simp [e3],zH hc⟩))
    ·rw [if_pos (.inr e3)] at hc
     exact .inr (.inr (.inl ⟨by simp [e1],by simp [e2],by simp;omega,zH hc⟩))
   ·rw [if_pos (.inl e2)] at hc
    exact .inr (.inl ⟨by simp [e1],by simp;omega,zH hc⟩)
  ·rw [if_pos e1] at hc
   exact .inl ⟨by simp;omega,zH hc⟩
 have HU:=zH hU;have HV:=zH hV;have HX:=zH hX;have HY:=zH hY
 clear hU hV hX hY HC4
 have ht2:¬ (n:Int) < 14+(m:Int):=by omega
 have ht3:((14:Int)+m == 0)=false:=by simp;omega
 have hne1:¬ c=10+m:=by omega
 have hne2:¬ c=2:=by omega
 have hne6:¬ c=6:=by omega
 have hne10:¬ c=10:=by omega
 rcases hcs with⟨t1,HD⟩|⟨t1,t2,HD⟩|⟨t1,t2,t3,HD⟩|⟨t1,t2,t3,HD⟩
 all_goals
  go_enter Tryz.func172,Tryz.ntmps172
  go_wp2_with fail
  refine (zc_b _ _ _ _ _ hr1 (by omega)).mono ?_;rintro e w1 ⟨rfl,hb1⟩
  rw [HML.out]
  go_wp2_with fail
  refine (zg_y _ (by omega) (by omega) _).mono ?_;rintro e w0 ⟨rfl,rfl⟩
  rw [HSZ.out]
  have s1:IntKind.i64.wrap (14+(m:Int) - 4)=10+m:=by rw [show 14+(m:Int) - 4=10+m by omega];exact IntWalk.i64_in _ (by omega)
  go_wp2_with fail
  have v1:(0:Int)<=10+(m:Int):=by omega
  have v2:(10:Int)+(m:Int)<=14+(m:Int):=by omega
  have v3:(14:Int)+(m:Int)<=(c:Int):=by omega
  have v4:(10:Int)+(m:Int)<=(c:Int):=by omega
  have v5:((10:Int)+(m:Int)).toNat=10+m:=by omega
  have v6:((14:Int)+(m:Int)).toNat=14+m:=by omega
  have v7:14+m - (10+m)=4:=by omega
  have hq1:=hrs.ext hb1
  have hq2:=hrd.ext hb1
  go_region_held3 (fun w'=>Ext w1 w') (first|assumption|exact Ext.drew (Ext.refl _)|exact Ext.step (by assumption) (by assumption)) (first|(go_at_call 195;go_must (refine (zc_b _ _ _ _ _ (hq1.ext' (by assumption)) (by omega)).mono ?_);rintro e w9 ⟨rfl,hb9⟩)|(go_at_call 48;go_must (refine (zc_g _ _ _ _ _ (hq2.ext' (by assumption))).mono ?_);rintro e w9 ⟨rfl,rfl⟩))
  have hb9':Ext w1 w9:=by assumption
  have hw9:=hb1.trans (Below.mono hb9' hb1.size)
  rw [<-HU.out,<-HV.out]
  clear s1 v1 v2 v3 v4 v5 v6 v7 hq1 hq2 hr1 hrs hrd hb1 hb9 hb9'
 ·go_wp2_with fail
  go_ret3
  exact zb_c HD.out _ rfl (OwnB.nil _ _) hw9
 ·go_wp2_with fail
  refine (zc_b _ _ _ _ _ (hre.ext hw9) (by omega)).mono ?_;rintro e w10 ⟨rfl,hb10⟩
  rw [<-HX.out]
  go_wp2_with fail
  go_ret3
  exact zb_c HD.out _ rfl (OwnB.nil _ _) (hw9.trans (Below.mono hb10 hw9.size))
 ·go_wp2_with fail
  refine (zc_b _ _ _ _ _ (hre.ext hw9) (by omega)).mono ?_;rintro e w10 ⟨rfl,hb10⟩
  have hw10:=hw9.trans (Below.mono hb10 hw9.size)
  rw [<-HX.out]
  go_wp2_with fail
  refine (zc_b _ _ _ _ _ (hrq.ext hw10) (by omega)).mono ?_;rintro e w11 ⟨rfl,hb11⟩
  rw [<-HY.out]
  go_wp2_with fail
  go_ret3
  exact zb_c HD.out _ rfl (OwnB.nil _ _) (hw10.trans (Below.mono hb11 hw10.size))
 ·go_wp2_with fail
  refine (zc_b _ _ _ _ _ (hre.ext hw9) (by omega)).mono ?_;rintro e w10 ⟨rfl,hb10⟩
  have hw10:=hw9.trans (Below.mono hb10 hw9.size)
  rw [<-HX.out]
  go_wp2_with fail
  refine (zc_b _ _ _ _ _ (hrq.ext hw10) (by omega)).mono ?_;rintro e w11 ⟨rfl,hb11⟩
  have hw11:=hw10.trans (Below.mono hb11 hw10.size)
  rw [<-HY.out]
  go_wp2_with fail
  refine (zp_s _ _ _ _ _ (hrp.ext hw11) (by omega)).mono ?_;rintro e w12 ⟨v,rfl,hO,hb12⟩
  go_wp2_with fail
  go_ret3
  exact zb_c HD.out _ (by simp) (hO.mono hw11.size) (hw11.trans (Below.mono hb12 hw11.size))
theorem zq_b (l:List UInt8) (h:2<=l.length):Frame.len2 l=(l[0]?.getD 0).toNat+256 * (l[1]?.getD 0).toNat:=by
 match l,h with
|x :: y :: l,_=>simp [Frame.len2,Super.unle]
set_option maxHeartbeats 4000000 in
theorem zj_m (a:Option Addr) (n c:Nat) (l:List UInt8) (ep sq:Nat) (_he:ep < 4294967296) (_hs:sq < 4294967296) (w:World) (h:SlB w a n c l) :
 Calls Tryz.prog 175 #[.slice a n c,.int .u32 ep,.int .u32 sq] w (FDecPost l ep sq w):=by
 have hle:=h.le
 have hln:=h.len
 by_cases h1:n < 14
 ·have hd:Frame.dec l ep sq=([],0,5):=by unfold Frame.dec;rw [if_pos (by omega)]
  have HD:=zH hd
  have ht:(n:Int) < 14:=by omega
  clear hd hln
  go_enter Tryz.func175,Tryz.ntmps175
  go_wp2_with fail
  go_ret3
  exact zb_c HD.out _ rfl (OwnB.nil _ _) (Below.refl _ _)
 have ht1:¬ (n:Int) < 14:=by omega
 obtain⟨b,o,rfl,hb,-,q0⟩:=h.at (show 0 < n by omega)
 obtain⟨b',o',e,-,-,q1⟩:=h.at (show 1 < n by omega)
 cases e
 rw [Nat.add_zero] at q0
 have hm:=Frame.len2_lt l
 have hml:=zq_b l (by omega)
 have hcn:n<=c:=h.2.1
 have hrs:Frame.len2 l+14<=n->SlB w (b (o+(10+Frame.len2 l))) 4 (c - (10+Frame.len2 l)) ((l.drop (10+Frame.len2 l)).take 4):=fun _=>(h.drop (k:=10+Frame.len2 l) (by omega)).take (by omega)
 have hrd:Frame.len2 l+14<=n->SlB w (b o) (10+Frame.len2 l) c (l.take (10+Frame.len2 l)):=fun _=>h.take (by omega)
 have hre:SlB w (b (o+2)) 4 (c - 2) ((l.drop 2).take 4):=(h.drop (k:=2) (by omega)).take (by omega)
 have hrq:SlB w (b (o+6)) 4 (c - 6) ((l.drop 6).take 4):=(h.drop (k:=6) (by omega)).take (by omega)
 have hrp:Frame.len2 l+14<=n->SlB w (b (o+10)) (Frame.len2 l) (c - 10) ((l.drop 10).take (Frame.len2 l)):=fun _=>(h.drop (k:=10) (by omega)).take (by omega)
 have hc4:Frame.dec l ep sq=if 1024 < Frame.len2 l then ([],0,3) else if n < 14+Frame.len2 l then ([],0,5) else if Super.unle ((l.drop (10+Frame.len2 l)).take 4) ≠ Crc.update 0 (l.take (10+Frame.len2 l)) then ([],0,7) else if Super.unle ((l.drop 2).take 4) ≠ ep\/Super.unle ((l.drop 6).take 4) ≠ sq then ([],0,8) else ((l.drop 10).take (Frame.len2 l),14+Frame.len2 l,0):=by
  unfold Frame.dec;rw [if_neg (by omega),hln]
 have hue:Super.unle ((l.drop 2).take 4)=Crc.unfix4 ((l.drop 2).take 4):=Super.unle_four _ hre.len
 have huq:Super.unle ((l.drop 6).take 4)=Crc.unfix4 ((l.drop 6).take 4):=Super.unle_four _ hrq.len
 have hus:Frame.len2 l+14<=n->Super.unle ((l.drop (10+Frame.len2 l)).take 4)=Crc.unfix4 ((l.drop (10+Frame.len2 l)).take 4):=fun hh=>Super.unle_four _ (hrs hh).len
 have HC4:=zH hc4;have HML:=zH hml;have HUE:=zH hue;have HUQ:=zH huq;have HUS:=zH hus;have HRS:=zH hrs;have HRD:=zH hrd;have HRP:=zH hrp
 clear hc4 hml hue huq hus hrs hrd hrp hln
 generalize Frame.len2 l=m at *
 generalize l[0]?.getD 0=x0 at *
 generalize l[1]?.getD 0=x1 at *
 have y0:x0.toNat < 256:=x0.toNat_lt
 have y1:x1.toNat < 256:=x1.toNat_lt
 have b0:(0:Int) < (n:Int):=by omega
 have b1:(1:Int) < (n:Int):=by omega
 have pre:∃ Q,Q=((m:Nat):Int):=⟨_,rfl⟩
 clear pre
 by_cases h2:1024 < m
 ·have hc:=HC4.out
  rw [if_pos h2] at hc
  have HD:=zH hc
  have ht2:(1024:Int) < m:=by omega
  clear hc HC4 HRS HRD HRP HUE HUQ HUS hre hrq
  go_enter Tryz.func175,Tryz.ntmps175
  go_wp2_with fail
  go_quiet (fail)
  rw [show (x0.toNat:Int)+256 * (x1.toNat:Int)=(m:Int) by rw [HML.out];omega]
  go_wp2_with fail
  go_ret3
  exact zb_c HD.out _ rfl (OwnB.nil _ _) (za_i _ _ _)
 have ht2:¬ (1024:Int) < m:=by omega
 by_cases h3:n < 14+m
 ·have hc:=HC4.out
  rw [if_neg h2,if_pos h3] at hc
  have HD:=zH hc
  have ht3:(n:Int) < 14+m:=by omega
  clear hc HC4 HRS HRD HRP HUE HUQ HUS hre hrq
  go_enter Tryz.func175,Tryz.ntmps175
  go_wp2_with fail
  go_quiet (fail)
  rw [show (x0.toNat:Int)+256 * (x1.toNat:Int)=(m:Int) by rw [HML.out];omega]
  go_wp2_with fail
  go_ret3
  exact zb_c HD.out _ rfl (OwnB.nil _ _) (za_i _ _ _)
 have ht3:¬ (n:Int) < 14+m:=by omega
 have hrs:=HRS.out (by omega)
 have hrd:=HRD.out (by omega)
 have hrp:=HRP.out (by omega)
 have hus:=HUS.out (by omega)
 obtain⟨U,hU⟩:∃ U,U=Crc.unfix4 ((l.drop (10+m)).take 4):=⟨_,rfl⟩
 obtain⟨V,hV⟩:∃ V,V=Crc.update 0 (l.take (10+m)):=⟨_,rfl⟩
 obtain⟨X,hX⟩:∃ X,X=Crc.unfix4 ((l.drop 2).take 4):=⟨_,rfl⟩
 obtain⟨Y,hY⟩:∃ Y,Y=Crc.unfix4 ((l.drop 6).take 4):=⟨_,rfl⟩
 have hcs:(((U:Int) != V)=true/\Hid (Frame.dec l ep sq=([],0,7)))\/(((U:Int) != V)=false/\((X:Int) != ep)=true/\Hid (Frame.dec l ep sq=([],0,8)))\/(((U:Int) != V)=false/\((X:Int) != ep)=false/\((Y:Int) != sq)=true/\Hid (Frame.dec l ep sq=([],0,8))) ∨
  (((U:Int) != V)=false/\((X:Int) != ep)=false/\((Y:Int) != sq)=false/\Hid (Frame.dec l ep sq=((l.drop 10).take m,14+m,0))):=by
  have hc:=HC4.out
  rw [if_neg h2,if_neg h3,hus,HUE.out,HUQ.out,<-hU,<-hV,<-hX,<-hY] at hc
  by_cases e1:U=V
  ·rw [if_neg (by simpa using e1)] at hc
   by_cases e2:X=ep
   ·by_cases e3:Y=sq
    ·rw [if_neg (by simp [e2,e3])] at hc
     exact .inr (.inr (.inr ⟨by simp [e1],by simp [e2],by simp [e3],zH hc⟩))
    ·rw [if_pos (.inr e3)] at hc
     exact .inr (.inr (.inl ⟨by simp [e1],by simp [e2],by simp;omega,zH hc⟩))
   ·rw [if_pos (.inl e2)] at hc
    exact .inr (.inl ⟨by simp [e1],by simp;omega,zH hc⟩)
  ·rw [if_pos e1] at hc
   exact .inl ⟨by simp;omega,zH hc⟩
 have HU:=zH hU;have HV:=zH hV;have HX:=zH hX;have HY:=zH hY
 clear hU hV hX hY HC4 HRS HRD HRP HUE HUQ HUS hus
 have hne1:¬ c=10+m:=by omega
 have hne2:¬ c=2:=by omega
 have hne6:¬ c=6:=by omega
 have hne10:¬ c=10:=by omega
 rcases hcs with⟨t1,HD⟩|⟨t1,t2,HD⟩|⟨t1,t2,t3,HD⟩|⟨t1,t2,t3,HD⟩
 all_goals
  go_enter Tryz.func175,Tryz.ntmps175
  go_wp2_with fail
  go_quiet (fail)
  rw [show (x0.toNat:Int)+256 * (x1.toNat:Int)=(m:Int) by rw [HML.out];omega]
  have hw1:=za_i w.heap.size w nq
  generalize w.drewN nq=w1 at *
  clear q0 q1
  go_wp2_with fail
  refine (za_o _ _ _ _ _ (hrs.ext hw1) (by omega)).mono ?_;rintro e w2 ⟨rfl,k2,rfl⟩
  have hw2:=hw1.trans (za_i w.heap.size w1 k2)
  generalize w1.drewN k2=w2 at *
  rw [<-HU.out]
  go_wp2_with fail
  refine (zh_f _ _ _ _ _ (hrd.ext hw2)).mono ?_;rintro e w3 ⟨rfl,rfl⟩
  rw [<-HV.out]
 ·go_wp2_with fail
  go_ret3
  exact zb_c HD.out _ rfl (OwnB.nil _ _) hw2
 ·go_wp2_with fail
  refine (za_o _ _ _ _ _ (hre.ext hw2) (by omega)).mono ?_;rintro e w3 ⟨rfl,k3,rfl⟩
  have hw3:=hw2.trans (za_i w.heap.size w2 k3)
  generalize w2.drewN k3=w3 at *
  rw [<-HX.out]
  go_wp2_with fail
  refine (za_o _ _ _ _ _ (hrq.ext hw3) (by omega)).mono ?_;rintro e w4 ⟨rfl,k4,rfl⟩
  have hw4:=hw3.trans (za_i w.heap.size w3 k4)
  generalize w3.drewN k4=w4 at *
  rw [<-HY.out]
  go_wp2_with fail
  go_ret3
  exact zb_c HD.out _ rfl (OwnB.nil _ _) hw4
 ·go_wp2_with fail
  refine (za_o _ _ _ _ _ (hre.ext hw2) (by omega)).mono ?_;rintro e w3 ⟨rfl,k3,rfl⟩
  have hw3:=hw2.trans (za_i w.heap.size w2 k3)
  generalize w2.drewN k3=w3 at *
  rw [<-HX.out]
  go_wp2_with fail
  refine (za_o _ _ _ _ _ (hrq.ext hw3) (by omega)).mono ?_;rintro e w4 ⟨rfl,k4,rfl⟩
  have hw4:=hw3.trans (za_i w.heap.size w3 k4)
  generalize w3.drewN k4=w4 at *
  rw [<-HY.out]
  go_wp2_with fail
  go_ret3
  exact zb_c HD.out _ rfl (OwnB.nil _ _) hw4
 ·go_wp2_with fail
  refine (za_o _ _ _ _ _ (hre.ext hw2) (by omega)).mono ?_;rintro e w3 ⟨rfl,k3,rfl⟩
  have hw3:=hw2.trans (za_i w.heap.size w2 k3)
  generalize w2.drewN k3=w3 at *
  rw [<-HX.out]
  go_wp2_with fail
  refine (za_o _ _ _ _ _ (hrq.ext hw3) (by omega)).mono ?_;rintro e w4 ⟨rfl,k4,rfl⟩
  have hw4:=hw3.trans (za_i w.heap.size w3 k4)
  generalize w3.drewN k4=w4 at *
  rw [<-HY.out]
  have hp4:=hrp.ext (hw4.alloc hw4.size (.cells #[] 5))
  have hsz4:=hw4.size
  go_wp2_with (at_builtin;refine za_d rfl _ _ rfl w4.heap.size _ [] rfl (OwnB.empty w4 (zN _)) (b (o+10)) (10+m - 10) (c - 10) ((l.drop 10).take m) rfl (by rw [Nat.add_sub_cancel_left];exact hp4) (by simp;omega) (by simp) ?_;intro v w5 hown hg _)
  go_ret3
  exact zb_c HD.out _ (by simp;omega) (hown.mono hw4.size) ((hw4.alloc hw4.size _).grown hg (by simp;omega) (fun k hk=>by cases hk;exact hw4.size))
end Go.Proofs.YtmanejniepghlaaGreatDoor
