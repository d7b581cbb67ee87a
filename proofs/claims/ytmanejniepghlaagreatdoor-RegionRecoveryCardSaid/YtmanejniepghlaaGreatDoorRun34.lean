import Derived.Test.YtmanejniepghlaaGreatDoorRun3
import Derived.Test.YtmanejniepghlaaGreatDoorRun0
import Derived.Test.YtmanejniepghlaaGreatDoorRun33
import Derived.Test.YtmanejniepghlaaGreatDoorRun1
import Derived.Deep.RegionHeld3
import Derived.RegionTactic
import Derived.Deep.MidRow
import Derived.Deep.DeepMust
namespace Go.Proofs.YtmanejniepghlaaGreatDoor
section
open Go.RowKit
set_option maxRecDepth 100000
variable {w:World} {H:Nat} {s:Super.S}
def supv (s:Super.S):Value:=.agg #[.int .u64 s.gen,s.act,.int .u32 s.epoch,s.len,.int .u32 s.sum]
theorem zg_v (v k:Nat):Value.int .u8 ((v:Int) / 2 ^ (8 * k) % 256)=bv (UInt8.ofNat (v / 256 ^ k % 256)):=by
 rw [bv,Crc.toNat_ofNat8 (Nat.mod_lt _ (by decide))]
 have e:(256:Nat) ^ k=2 ^ (8 * k):=by rw [Nat.pow_mul]
 rw [e];simp
theorem zi_u (g o m c n v:Nat) (t:TypeId) (l:List UInt8) (w:World) (hr:RowIs w g t l) (hnm:n<=m) (hfit:o+m<=l.length) (hn8:n<=8) (N:Int) (hN:N=(n:Int)) :
 Calls Tryz.prog 105 #[.slice (g o) m c,.int .u64 v,N] w fun e w'=>e=.returned (.tuple #[])/\RowIs w' g t (Super.spl l o (Super.le n v))/\But g w w':=by
 subst hN
 go_enter Tryz.func105,Tryz.ntmps105
 go_wp2
 go_loopw [8] (fun i wr=>∃ k:Nat,k<=n/\i=.int .i64 k/\RowIs wr g t (Super.spl l o (Super.le k v))/\But g w wr) (fun i _=>n - (intOf i).toNat)
 case atStart=>exact⟨0,Nat.zero_le _,rfl,by rw [Super.le,Super.spl_nil];exact hr,But.refl _ _⟩
 case round =>
  obtain⟨k,hk,rfl,hR,hB⟩:=hrel
  by_cases hlt:k < n
  ·have hlen:(Super.spl l o (Super.le k v)).length=l.length:=Super.spl_length _ _ _ (by rw [Super.le_length];omega)
   have hc:=hR.cell (o+k) (by rw [hlen];omega)
   have hf:=hR.free (o+k)
   have HS:=zH (Super.spl_snoc l o (Super.le k v) (UInt8.ofNat (v / 256 ^ k % 256)) (by rw [Super.le_length];omega))
   generalize (Super.spl l o (Super.le k v))[o+k]?.getD 0=q at *
   clear hlen
   go_wp2
   go_roundw
   case rel =>
    refine⟨k+1,by omega,by go_num,?_,hB.setCell _ _⟩
    rw [zg_v v k,Super.le_succ,<-HS.out,Super.le_length]
    exact hR.set _ _
   case measure=>simp [intOf];omega
  ·obtain rfl:k=n:=by omega
   go_wp2
   go_end0
   exact⟨rfl,hR,hB⟩
theorem zq_f (x q k:Nat) (hx:x < 256 ^ k) (hq:q < 256) (hk:k < 8) :
 bits BinOp.or IntKind.u64 (x:Int) (IntKind.u64.wrap (IntKind.u64.wrap (q:Int) * 2 ^ (8 * k)))=((x+256 ^ k * q:Nat):Int):=by
 have e:(256:Nat) ^ k=2 ^ (8 * k):=by rw [Nat.pow_mul]
 have h8:(256:Nat) ^ (k+1)<=256 ^ 8:=Nat.pow_le_pow_right (by decide) (by omega)
 have hq2:q * 2 ^ (8 * k) < 18446744073709551616:=by
  rw [<-e]
  have:q * 256 ^ k < 256 ^ (k+1):=by rw [Nat.pow_succ,Nat.mul_comm (256 ^ k)];exact Nat.mul_lt_mul_of_pos_right hq (Nat.pow_pos (by decide))
  exact Nat.lt_of_lt_of_le this (Nat.le_trans h8 (by decide))
 have w1:IntKind.u64.wrap (q:Int)=(q:Int):=by
  simp [IntKind.wrap,IntKind.bits,IntKind.signed];omega
 have w2:IntKind.u64.wrap (IntKind.u64.wrap (q:Int) * 2 ^ (8 * k))=((q * 2 ^ (8 * k):Nat):Int):=by
  rw [w1]
  have e2:(q:Int) * 2 ^ (8 * k)=((q * 2 ^ (8 * k):Nat):Int):=by simp
  rw [e2]
  simp only [IntKind.wrap,IntKind.bits,IntKind.signed]
  generalize q * 2 ^ (8 * k)=y at *
  simp;omega
 have hx8:x < 18446744073709551616:=Nat.lt_of_lt_of_le hx (Nat.le_trans (Nat.pow_le_pow_right (n:=256) (by decide) (show k<=8 by omega)) (by decide))
 rw [w2,u64_or_nat _ _ hx8 hq2]
 congr 1
 rw [Nat.or_comm,nat_join (8 * k) _ _ (Nat.mul_mod_left _ _) (by rw [<-e];exact hx),e,Nat.mul_comm,Nat.add_comm]
theorem zi_t (a:Option Addr) (m c n:Nat) (l:List UInt8) (w:World) (h:SlB w a m c l) (hnm:n<=m) (hn8:n<=8) (N:Int) (hN:N=(n:Int)) :
 Calls Tryz.prog 184 #[.slice a m c,N] w fun e w'=>e=.returned (.int .u64 (Super.unle (l.take n):Nat))/\w=w':=by
 subst hN
 have hle:=h.le
 go_enter Tryz.func184,Tryz.ntmps184
 go_wp2
 go_loop [5,8] (fun x i=>∃ k:Nat,k<=n/\i=.int .i64 k/\x=.int .u64 (Super.unle (l.take k):Nat)) (fun _ i=>n - (intOf i).toNat)
 case atStart=>exact⟨0,Nat.zero_le _,rfl,rfl⟩
 case round =>
  obtain⟨k,hk,rfl,rfl⟩:=hrel
  by_cases hlt:k < n
  ·obtain⟨b,o,rfl,hb,hkl,hcell⟩:=h.at (show k < m by omega)
   have hx:=Super.unle_lt (l.take k)
   rw [List.length_take,Nat.min_eq_left (by omega)] at hx
   have hs:Super.unle (l.take (k+1))=Super.unle (l.take k)+256 ^ k * (l[k]?.getD 0).toNat:=by
    rw [List.take_succ_eq_append_getElem hkl,Super.unle_append,List.length_take,Nat.min_eq_left (by omega),List.getElem?_eq_getElem hkl];simp [Super.unle]
   have HX:Hid (Value.int .u64 (bits BinOp.or IntKind.u64 ((Super.unle (l.take k):Nat):Int) (IntKind.u64.wrap (IntKind.u64.wrap ((l[k]?.getD 0).toNat:Int) * 2 ^ (8 * k))))=.int .u64 (Super.unle (l.take (k+1)):Nat)):=by
    rw [zq_f _ _ k hx (UInt8.toNat_lt _) (by omega),hs];exact zH rfl
   clear hs hx
   generalize l[k]?.getD 0=q at *
   generalize Super.unle (l.take k)=x at *
   go_wp2
   go_round
   case rel =>
    refine⟨k+1,by omega,by go_num,?_⟩
    rw [HX.out]
   case measure=>simp [intOf];omega
  ·obtain rfl:k=n:=by omega
   go_wp2
   go_ret
   exact⟨rfl,rfl⟩
theorem zq_n (w:World) (n:Nat) (A:Array Value) (t:TypeId) (k:Nat) (hA:A=((List.replicate n 0).map bv).toArray) (hk:k=w.heap.size):RowIs (w.alloc (.cells A t)) k t (List.replicate n 0):=by
 subst hA;subst hk
 exact za_b _ _ _ rfl
def SupBox (w:World) (H:Nat) (s:Super.S):Prop:=w.heap[H]?=some (.cells #[.int .u64 s.gen,s.act,.int .u32 s.epoch,s.len,.int .u32 s.sum] 94 (0,0))
theorem SupBox.cells (h:SupBox w H s) :
 w.cell? H=some (.int .u64 s.gen)/\w.cell? (H 1)=some (s.act:Value)/\w.cell? (H 2)=some (.int .u32 s.epoch)/\w.cell? (H 3)=some (s.len:Value)/\w.cell? (H 4)=some (.int .u32 s.sum):=by
 refine⟨?_,?_,?_,?_,?_⟩ <;> (rw [cell_of_row _ _ _ _ _ _ h];rfl)
theorem SupBox.drew (h:SupBox w H s):SupBox w.drew H s:=h
theorem SupBox.but {w':World} {g:Nat} (h:SupBox w H s) (hb:But g w w') (hg:H ≠ g):SupBox w' H s :=
 (hb.block _ (za_a h) hg).trans h
theorem SupBox.at0 (h:SupBox w H s):SupBox w H s/\w.cell? H=some (.int .u64 s.gen):=⟨h,h.cells.1⟩
theorem SupBox.at2 (h:SupBox w H s):SupBox w H s/\w.cell? (H 2)=some (.int .u32 s.epoch):=⟨h,h.cells.2.2.1⟩
theorem SupBox.at3 (h:SupBox w H s):SupBox w H s/\w.cell? (H 3)=some (s.len:Value):=⟨h,h.cells.2.2.2.1⟩
theorem SupBox.at4 (h:SupBox w H s):SupBox w H s/\w.cell? (H 4)=some (.int .u32 s.sum):=⟨h,h.cells.2.2.2.2⟩
theorem ze_x (β:Bool) (s:Super.S) (w:World) :
 Calls Tryz.prog (cond β 104 145) #[supv s] w fun e w'=>e=.returned (.bool (Super.valid s))/\Below w.heap.size w w':=by
 cases β <;> dsimp only [cond]
 all_goals
  obtain⟨gen,act,epoch,len,sum⟩:=s
  unfold supv
  have hv:Super.valid ⟨gen,act,epoch,len,sum⟩=((act == 0 || act == 1) && decide (0<=len) && decide (len<=262144)):=rfl
  rw [hv];clear hv
  by_cases h0:act=0
  ·have t0:(act == 0)=true:=by simp [h0]
   clear h0
   by_cases h1:0<=len
   ·first|(go_at_call 104;go_enter Tryz.func104,Tryz.ntmps104)|go_enter Tryz.func145,Tryz.ntmps145
    go_wp2
    go_ret
    exact⟨by simp [t0,h1],(Below.refl _ _).alloc (zN _) _⟩
   ·first|(go_at_call 104;go_enter Tryz.func104,Tryz.ntmps104)|go_enter Tryz.func145,Tryz.ntmps145
    go_wp2
    go_ret
    exact⟨by simp;omega,(Below.refl _ _).alloc (zN _) _⟩
  ·have t0:(act == 0)=false:=by simp [h0]
   by_cases h2:act=1
   ·have t1:(act == 1)=true:=by simp [h2]
    clear h0 h2
    by_cases h1:0<=len
    ·first|(go_at_call 104;go_enter Tryz.func104,Tryz.ntmps104)|go_enter Tryz.func145,Tryz.ntmps145
     go_wp2
     go_ret
     exact⟨by simp [t1,h1],(Below.refl _ _).alloc (zN _) _⟩
    ·first|(go_at_call 104;go_enter Tryz.func104,Tryz.ntmps104)|go_enter Tryz.func145,Tryz.ntmps145
     go_wp2
     go_ret
     exact⟨by simp;omega,(Below.refl _ _).alloc (zN _) _⟩
   ·have t1:(act == 1)=false:=by simp [h2]
    clear h0 h2
    first|(go_at_call 104;go_enter Tryz.func104,Tryz.ntmps104)|go_enter Tryz.func145,Tryz.ntmps145
    go_wp2
    go_ret
    exact⟨by simp [t0,t1],(Below.refl _ _).alloc (zN _) _⟩
theorem zg_o (gen act epoch len sum:Nat) (_h1:gen < 18446744073709551616) (h2:epoch < 4294967296) (h3:sum < 4294967296) (h4:len<=262144) (h5:act < 2) (hv:Super.valid ⟨gen,act,epoch,len,sum⟩=true) (w:World) :
 Calls Tryz.prog 47 #[supv ⟨gen,act,epoch,len,sum⟩] w fun e w'=>∃ K,e=.returned (.tuple #[.slice (K:Nat) 64 64,.int .i64 0])/\RowIs w' K 151 (Super.enc ⟨gen,act,epoch,len,sum⟩)/\w.heap.size<=K/\Below w.heap.size w w':=by
 have hV:=ze_x true ⟨gen,act,epoch,len,sum⟩
 rw [hv] at hV
 have HV:=zH hV;clear hV hv
 have hbox:SupBox (w.alloc (.cells #[.int .u64 gen,act,.int .u32 epoch,len,.int .u32 sum] 94)) w.heap.size ⟨gen,act,epoch,len,sum⟩:=za_b _ _ _ rfl
 have HB:=zH hbox;clear hbox
 go_enter Tryz.func47,Tryz.ntmps47
 unfold supv at *
 go_wp2_with fail
 refine (HV.out _).mono ?_;rintro e w1 ⟨rfl,hb1⟩
 have hK1:w.heap.size < w1.heap.size:=by have:=hb1.size;simp at this;omega
 have hB1:SupBox w1 w.heap.size ⟨gen,act,epoch,len,sum⟩:=(hb1.block _ (by simp)).trans HB.out
 have hbw1:Below w.heap.size w w1:=((Below.refl _ _).alloc (zN _) _).trans (hb1.mono (by simp))
 have hsz5:(Tryz.prog.info? 5).map (·.size)=some 1:=by kernel_rfl
 have hs4:(ByteArray.mk #[72,83,84,83]).size<=64:=by decide
 have hs5:0+(ByteArray.mk #[72,83,84,83]).size<=(List.replicate 64 (0:UInt8)).length:=by decide
 go_wp2_with (first|((show wpList _ _ _ [Oper.mk (some 9) _ _ _ _ _] _ _);go_must (apply zf_t (dT:=70) (sT:=9) (elem:=5) (g:=w1.heap.size) (off:=0) (dLen:=64) (dCap:=64) (x:=⟨#[72,83,84,83]⟩) (t:=151) (l:=List.replicate 64 0);(case hgd=>rfl);(case ho=>rfl);(case hu=>exact Tryz.underlying70);(case hsz=>exact hsz5);(case hd=>rfl);(case hs=>rfl);(case hn=>exact hs4);(case hr=>exact zq_n w1 64 _ _ _ rfl rfl);(case hfit=>exact hs5);intro w2 hr2 hbut2)))
 obtain⟨L2,hL2⟩:∃ L2,L2=List.take 0 (List.replicate 64 (0:UInt8)) ++ (ByteArray.mk #[72,83,84,83]).data.toList ++ List.drop (0+(ByteArray.mk #[72,83,84,83]).size) (List.replicate 64 0):=⟨_,rfl⟩
 rw [<-hL2] at hr2
 have hlen2:L2.length=64:=by rw [hL2];decide
 have hB2:SupBox w2 w.heap.size ⟨gen,act,epoch,len,sum⟩:=(hbut2.block _ (by simp;omega) (by omega)).trans ((za_c _ _ _ hK1).trans hB1)
 have hbw2:Below w.heap.size w w2:=But.below (hbw1.alloc (Nat.le_of_lt hK1) _) hbut2 (Nat.le_of_lt hK1) (by simp;omega)
 obtain⟨c0,c1,c2,c3,c4⟩:=hB2.cells
 have k4:=hr2.cell 4 (by omega)
 have k5:=hr2.cell 5 (by omega)
 have f4:=hr2.free 4
 have f5:=hr2.free 5
 have hr3:=((hr2.set 4 1).set 5 (UInt8.ofNat act))
 have hlen3:((L2.set 4 1).set 5 (UInt8.ofNat act)).length=64:=by simp [hlen2]
 have HL2:=zH hL2;have HLL:=zH hlen3
 have hbut3:But w1.heap.size w2 ((w2.setCell (w1.heap.size 4) (bv 1)).setCell (w1.heap.size 5) (bv (UInt8.ofNat act))).drew:=(((But.refl _ _).setCell _ _).setCell _ _).drew
 have hr3':RowIs ((w2.setCell (w1.heap.size 4) (bv 1)).setCell (w1.heap.size 5) (bv (UInt8.ofNat act))).drew w1.heap.size 151 ((L2.set 4 1).set 5 (UInt8.ofNat act)):=hr3
 have HB3:=zH hbut3;have HR3:=zH hr3';have HR2:=zH hr2
 have hba:bv (UInt8.ofNat act)=.int .u8 (act:Int):=by rw [bv,Crc.toNat_ofNat8 (by omega)]
 have hb1':bv 1=.int .u8 1:=rfl
 rw [hba,hb1'] at HB3 HR3
 clear hL2 hlen2 hlen3 hr3 hbut3 hr3' hr2 hba hb1'
 go_region
 go_wp2
 generalize ((w2.setCell (w1.heap.size 4) (.int .u8 1)).setCell (w1.heap.size 5) (.int .u8 (act:Int))).drew=w3 at *
 obtain⟨L3,hL3⟩:∃ L3,L3=(L2.set 4 1).set 5 (UInt8.ofNat act):=⟨_,rfl⟩
 rw [<-hL3] at HR3 HLL
 have HL3:=zH hL3;clear hL3
 have hs3:=HB3.out.size
 have hB3:=hB2.but HB3.out (by omega)
 have hbw3:=But.below hbw2 HB3.out (Nat.le_of_lt hK1) (Nat.le_of_lt (za_a hB2))
 have hr3:=HR3.out
 have hl3:L3.length=64:=HLL.out
 clear HB3 HR3 c0 c1 c2 c3 c4 k4 k5 f4 f5
 have hne:w.heap.size ≠ w1.heap.size:=by omega
 have we:IntKind.u64.wrap (epoch:Int)=(epoch:Int):=by simp [IntKind.wrap,IntKind.bits,IntKind.signed];omega
 have wl:IntKind.u64.wrap (len:Int)=(len:Int):=by simp [IntKind.wrap,IntKind.bits,IntKind.signed];omega
 have ws:IntKind.u64.wrap (sum:Int)=(sum:Int):=by simp [IntKind.wrap,IntKind.bits,IntKind.signed];omega
 go_region_held3 (fun w'=>SupBox w' w.heap.size ⟨gen,act,epoch,len,sum⟩/\w'.cell? w.heap.size=some (.int .u64 gen)) (first|exact hB3.at0|exact (SupBox.but (w:=w3.drew) hB3 hbut4 hne).at0) (first|(go_at_call 105;go_must (refine (zi_u w1.heap.size 6 58 58 8 gen 151 L3 _ (by exact hr3) (by omega) (by omega) (by omega) _ rfl).mono ?_);rintro e w4 ⟨rfl,hr4,hbut4⟩))
 go_wp2
 have hl4:(Super.spl L3 6 (Super.le 8 gen)).length=64:=by rw [Super.spl_length _ _ _ (by rw [Super.le_length];omega),hl3]
 obtain⟨L4,hL4⟩:∃ L,L=Super.spl L3 6 (Super.le 8 gen):=⟨_,rfl⟩
 rw [<-hL4] at hr4 hl4
 have HL4:=zH hL4
 have hs4:=hbut4.size
 have hB4:SupBox w4 w.heap.size ⟨gen,act,epoch,len,sum⟩:=SupBox.but (SupBox.drew hB3) hbut4 hne
 have hbw4:=But.below hbw3.drew hbut4 (Nat.le_of_lt hK1) (Nat.le_of_lt (za_a hB3))
 clear hL4
 go_region_held3 (fun w'=>SupBox w' w.heap.size ⟨gen,act,epoch,len,sum⟩/\w'.cell? (w.heap.size 2)=some (.int .u32 epoch)) (first|exact hB4.at2|exact (SupBox.but (w:=w4.drew) hB4 hbut5 hne).at2) (first|(go_at_call 105;go_must (refine (zi_u w1.heap.size 14 50 50 4 epoch 151 L4 _ (by exact hr4) (by omega) (by omega) (by omega) _ rfl).mono ?_);rintro e w5 ⟨rfl,hr5,hbut5⟩))
 go_wp2
 have hl5:(Super.spl L4 14 (Super.le 4 epoch)).length=64:=by rw [Super.spl_length _ _ _ (by rw [Super.le_length];omega),hl4]
 obtain⟨L5,hL5⟩:∃ L,L=Super.spl L4 14 (Super.le 4 epoch):=⟨_,rfl⟩
 rw [<-hL5] at hr5 hl5
 have HL5:=zH hL5
 have hs5:=hbut5.size
 have hB5:SupBox w5 w.heap.size ⟨gen,act,epoch,len,sum⟩:=SupBox.but (SupBox.drew hB4) hbut5 hne
 have hbw5:=But.below hbw4.drew hbut5 (Nat.le_of_lt hK1) (Nat.le_of_lt (za_a hB4))
 clear hL5
 go_region_held3 (fun w'=>SupBox w' w.heap.size ⟨gen,act,epoch,len,sum⟩/\w'.cell? (w.heap.size 3)=some (len:Value)) (first|exact hB5.at3|exact (SupBox.but (w:=w5.drew) hB5 hbut6 hne).at3) (first|(go_at_call 105;go_must (refine (zi_u w1.heap.size 18 46 46 4 len 151 L5 _ (by exact hr5) (by omega) (by omega) (by omega) _ rfl).mono ?_);rintro e w6 ⟨rfl,hr6,hbut6⟩))
 go_wp2
 have hl6:(Super.spl L5 18 (Super.le 4 len)).length=64:=by rw [Super.spl_length _ _ _ (by rw [Super.le_length];omega),hl5]
 obtain⟨L6,hL6⟩:∃ L,L=Super.spl L5 18 (Super.le 4 len):=⟨_,rfl⟩
 rw [<-hL6] at hr6 hl6
 have HL6:=zH hL6
 have hs6:=hbut6.size
 have hB6:SupBox w6 w.heap.size ⟨gen,act,epoch,len,sum⟩:=SupBox.but (SupBox.drew hB5) hbut6 hne
 have hbw6:=But.below hbw5.drew hbut6 (Nat.le_of_lt hK1) (Nat.le_of_lt (za_a hB5))
 clear hL6
 go_region_held3 (fun w'=>SupBox w' w.heap.size ⟨gen,act,epoch,len,sum⟩/\w'.cell? (w.heap.size 4)=some (.int .u32 sum)) (first|exact hB6.at4|exact (SupBox.but (w:=w6.drew) hB6 hbut7 hne).at4) (first|(go_at_call 105;go_must (refine (zi_u w1.heap.size 22 42 42 4 sum 151 L6 _ (by exact hr6) (by omega) (by omega) (by omega) _ rfl).mono ?_);rintro e w7 ⟨rfl,hr7,hbut7⟩))
 go_wp2
 have hl7:(Super.spl L6 22 (Super.le 4 sum)).length=64:=by rw [Super.spl_length _ _ _ (by rw [Super.le_length];omega),hl6]
 obtain⟨L7,hL7⟩:∃ L,L=Super.spl L6 22 (Super.le 4 sum):=⟨_,rfl⟩
 rw [<-hL7] at hr7 hl7
 have HL7:=zH hL7
 have hs7:=hbut7.size
 have hB7:SupBox w7 w.heap.size ⟨gen,act,epoch,len,sum⟩:=SupBox.but (SupBox.drew hB6) hbut7 hne
 have hbw7:=But.below hbw6.drew hbut7 (Nat.le_of_lt hK1) (Nat.le_of_lt (za_a hB6))
 clear hL7
 have hlay:L7=Super.lay gen act epoch len sum:=by rw [HL7.out,HL6.out,HL5.out,HL4.out,HL3.out,HL2.out];rfl
 have hsl:=hr7.slb 0 60 64 (by omega) (by decide) (by decide)
 rw [hlay,Super.lay_take] at hsl
 obtain⟨U,hU⟩:∃ U,U=Crc.update 0 (Super.body ⟨gen,act,epoch,len,sum⟩):=⟨_,rfl⟩
 have hsum:=zc_g _ _ _ _ w7.drew (show SlB w7.drew _ _ _ _ from hsl)
 rw [<-hU] at hsum
 have hUl:U < 4294967296:=by rw [hU];exact Crc.update_lt _ _
 have wu:IntKind.u64.wrap (U:Int)=(U:Int):=by simp [IntKind.wrap,IntKind.bits,IntKind.signed];omega
 have HSUM:=zH hsum
 have HU:=zH hU
 have HLAY:=zH hlay
 clear hsum hU hsl hlay
 go_region_held3 (fun w'=>SupBox w' w.heap.size ⟨gen,act,epoch,len,sum⟩) (first|exact hB7|exact (SupBox.but (w:=w7.drew) hB7 hbut8 hne)) (first|(go_at_call 48;go_must (refine (HSUM.out).mono ?_);rintro e w9 ⟨rfl,rfl⟩)|(go_at_call 105;go_must (refine (zi_u w1.heap.size 60 4 4 4 U 151 L7 _ (by exact hr7) (by omega) (by omega) (by omega) _ rfl).mono ?_);rintro e w8 ⟨rfl,hr8,hbut8⟩))
 go_wp2
 go_ret2
 refine⟨w1.heap.size,rfl,?_,Nat.le_of_lt hK1,But.below hbw7.drew hbut8 (Nat.le_of_lt hK1) (Nat.le_of_lt (za_a hB7))⟩
 rw [HLAY.out,HU.out,Super.lay_enc] at hr8
 exact hr8
end
section
open Go.RowKit
set_option maxRecDepth 100000
def lenV:Value->Nat
|.slice _ n _=>n
|_=>0
theorem zi_y (gen act epoch len sum:Nat) (h1:gen < 18446744073709551616) (h2:epoch < 4294967296) (h3:sum < 4294967296) (h4:len<=262144) (h5:act < 2) (hv:Super.valid ⟨gen,act,epoch,len,sum⟩=true) (w:World) :
 Calls Tryz.prog 93 #[supv ⟨gen,act,epoch,len,sum⟩] w fun e w'=>∃ v,e=.returned (.tuple #[v,.int .i64 0])/\OwnB w.heap.size w' v (Super.enc ⟨gen,act,epoch,len,sum⟩)/\Below w.heap.size w w':=by
 have hV:=ze_x false ⟨gen,act,epoch,len,sum⟩
 rw [hv] at hV
 have HV:=zH hV;clear hV hv
 have hbox:SupBox (w.alloc (.cells #[.int .u64 gen,act,.int .u32 epoch,len,.int .u32 sum] 94)) w.heap.size ⟨gen,act,epoch,len,sum⟩:=za_b _ _ _ rfl
 have HB:=zH hbox;clear hbox
 have HP:=zH (Super.body_parts gen act epoch len sum h1 h2 h3 (by omega))
 go_enter Tryz.func93,Tryz.ntmps93
 unfold supv at *
 go_wp2_with fail
 refine (HV.out _).mono ?_;rintro e w1 ⟨rfl,hb1⟩
 have hB1:SupBox w1 w.heap.size ⟨gen,act,epoch,len,sum⟩:=(hb1.block _ (by simp)).trans HB.out
 have hbw1:Below w.heap.size w w1:=((Below.refl _ _).alloc (zN _) _).trans (hb1.mono (by simp))
 have hs1:w.heap.size < w1.heap.size:=by have:=hb1.size;simp at this;omega
 obtain⟨c0,c1,c2,c3,c4⟩:=hB1.cells
 have hA:#[Value.int .u8 72,.int .u8 83,.int .u8 84,.int .u8 83,.int .u8 1,.int .u8 (act:Int)]=(([72,83,84,83,1,UInt8.ofNat act]:List UInt8).map bv).toArray:=by
  simp only [List.map_cons,List.map_nil,bv]
  rw [Crc.toNat_ofNat8 (show act < 256 by omega)];rfl
 have hO1:OwnB (w.heap.size+1) (w1.alloc (.cells #[Value.int .u8 72,.int .u8 83,.int .u8 84,.int .u8 83,.int .u8 1,.int .u8 (act:Int)] 5)) (.slice w1.heap.size 6 6) [72,83,84,83,1,UInt8.ofNat act]:=by
  rw [hA];exact OwnB.built w1 _ hs1 (by simp [maxLen])
 have hBa:SupBox (w1.alloc (.cells #[Value.int .u8 72,.int .u8 83,.int .u8 84,.int .u8 83,.int .u8 1,.int .u8 (act:Int)] 5)) w.heap.size ⟨gen,act,epoch,len,sum⟩:=(za_c _ _ _ hs1).trans hB1
 have hba:=hbw1.alloc (Nat.le_of_lt hs1) (.cells #[Value.int .u8 72,.int .u8 83,.int .u8 84,.int .u8 83,.int .u8 1,.int .u8 (act:Int)] 5)
 have HO1:=zH hO1;have HBa:=zH hBa;have Hba:=zH hba
 clear hA hO1 hBa hba
 go_wp2_with fail
 rw [show ((gen:Int) % 4294967296)=((gen % 4294967296:Nat):Int) by omega]
 have hO:=HO1.out;have hB:=HBa.out;have hb:=Hba.out
 clear HO1 HBa Hba c0 c1 c2 c3 c4
 refine (zb_w (gen % 4294967296) (by omega) _).mono ?_;rintro e y0 ⟨x0,rfl,hx0,hy0⟩
 have hO':=hO.ext hy0
 have hB':SupBox y0 w.heap.size ⟨gen,act,epoch,len,sum⟩:=(hy0.block _ (za_a hB)).trans hB
 have hb':=hb.trans (hy0.mono hb.size)
 have hlt:=za_a hB'
 have hob:=hO'.lt
 clear hO hB hb
 go_wp2_with (first|(at_builtin;refine za_d rfl _ _ rfl (w.heap.size+1) (.slice w1.heap.size 6 6) ([72,83,84,83,1,UInt8.ofNat act]) rfl hO' (some x0) 4 4 _ rfl hx0 (by simp) hlt ?_;intro v0 z0 hO hg0 _;have hB:SupBox z0 w.heap.size ⟨gen,act,epoch,len,sum⟩:=(hg0.block _ hlt (fun e=>by have:=(hob _ e.symm).1;omega)).trans hB';have hb:Below w.heap.size w z0:=hb'.grown hg0 (Nat.le_of_lt hlt) (fun k hk=>Nat.le_of_succ_le (hob k hk).1);clear hO' hB' hb' hlt hob hg0;obtain⟨c0,c1,c2,c3,c4⟩:=hB.cells))
 rw [show ((gen:Int) / 4294967296)=((gen / 4294967296:Nat):Int) by omega]
 refine (zb_w (gen / 4294967296) (by omega) _).mono ?_;rintro e y1 ⟨x1,rfl,hx1,hy1⟩
 have hO':=hO.ext hy1
 have hB':SupBox y1 w.heap.size ⟨gen,act,epoch,len,sum⟩:=(hy1.block _ (za_a hB)).trans hB
 have hb':=hb.trans (hy1.mono hb.size)
 have hlt:=za_a hB'
 have hob:=hO'.lt
 clear hO hB hb
 go_wp2_with (first|(at_builtin;refine za_d rfl _ _ rfl (w.heap.size+1) v0 ([72,83,84,83,1,UInt8.ofNat act] ++ Crc.fix4 (gen % 4294967296)) rfl hO' (some x1) 4 4 _ rfl hx1 (by simp [Crc.fix4]) hlt ?_;intro v1 z1 hO hg1 _;have hB:SupBox z1 w.heap.size ⟨gen,act,epoch,len,sum⟩:=(hg1.block _ hlt (fun e=>by have:=(hob _ e.symm).1;omega)).trans hB';have hb:Below w.heap.size w z1:=hb'.grown hg1 (Nat.le_of_lt hlt) (fun k hk=>Nat.le_of_succ_le (hob k hk).1);clear hO' hB' hb' hlt hob hg1;obtain⟨c0,c1,c2,c3,c4⟩:=hB.cells))
 refine (zb_w epoch (by omega) _).mono ?_;rintro e y2 ⟨x2,rfl,hx2,hy2⟩
 have hO':=hO.ext hy2
 have hB':SupBox y2 w.heap.size ⟨gen,act,epoch,len,sum⟩:=(hy2.block _ (za_a hB)).trans hB
 have hb':=hb.trans (hy2.mono hb.size)
 have hlt:=za_a hB'
 have hob:=hO'.lt
 clear hO hB hb
 go_wp2_with (first|(at_builtin;refine za_d rfl _ _ rfl (w.heap.size+1) v1 ([72,83,84,83,1,UInt8.ofNat act] ++ Crc.fix4 (gen % 4294967296) ++ Crc.fix4 (gen / 4294967296)) rfl hO' (some x2) 4 4 _ rfl hx2 (by simp [Crc.fix4]) hlt ?_;intro v2 z2 hO hg2 _;have hB:SupBox z2 w.heap.size ⟨gen,act,epoch,len,sum⟩:=(hg2.block _ hlt (fun e=>by have:=(hob _ e.symm).1;omega)).trans hB';have hb:Below w.heap.size w z2:=hb'.grown hg2 (Nat.le_of_lt hlt) (fun k hk=>Nat.le_of_succ_le (hob k hk).1);clear hO' hB' hb' hlt hob hg2;obtain⟨c0,c1,c2,c3,c4⟩:=hB.cells))
 refine (zb_w len (by omega) _).mono ?_;rintro e y3 ⟨x3,rfl,hx3,hy3⟩
 have hO':=hO.ext hy3
 have hB':SupBox y3 w.heap.size ⟨gen,act,epoch,len,sum⟩:=(hy3.block _ (za_a hB)).trans hB
 have hb':=hb.trans (hy3.mono hb.size)
 have hlt:=za_a hB'
 have hob:=hO'.lt
 clear hO hB hb
 go_wp2_with (first|(at_builtin;refine za_d rfl _ _ rfl (w.heap.size+1) v2 ([72,83,84,83,1,UInt8.ofNat act] ++ Crc.fix4 (gen % 4294967296) ++ Crc.fix4 (gen / 4294967296) ++ Crc.fix4 epoch) rfl hO' (some x3) 4 4 _ rfl hx3 (by simp [Crc.fix4]) hlt ?_;intro v3 z3 hO hg3 _;have hB:SupBox z3 w.heap.size ⟨gen,act,epoch,len,sum⟩:=(hg3.block _ hlt (fun e=>by have:=(hob _ e.symm).1;omega)).trans hB';have hb:Below w.heap.size w z3:=hb'.grown hg3 (Nat.le_of_lt hlt) (fun k hk=>Nat.le_of_succ_le (hob k hk).1);clear hO' hB' hb' hlt hob hg3;obtain⟨c0,c1,c2,c3,c4⟩:=hB.cells))
 refine (zb_w sum (by omega) _).mono ?_;rintro e y4 ⟨x4,rfl,hx4,hy4⟩
 have hO':=hO.ext hy4
 have hB':SupBox y4 w.heap.size ⟨gen,act,epoch,len,sum⟩:=(hy4.block _ (za_a hB)).trans hB
 have hb':=hb.trans (hy4.mono hb.size)
 have hlt:=za_a hB'
 have hob:=hO'.lt
 clear hO hB hb
 go_wp2_with (first|(at_builtin;refine za_d rfl _ _ rfl (w.heap.size+1) v3 ([72,83,84,83,1,UInt8.ofNat act] ++ Crc.fix4 (gen % 4294967296) ++ Crc.fix4 (gen / 4294967296) ++ Crc.fix4 epoch ++ Crc.fix4 len) rfl hO' (some x4) 4 4 _ rfl hx4 (by simp [Crc.fix4]) hlt ?_;intro v4 z4 hO hg4 _;have hB:SupBox z4 w.heap.size ⟨gen,act,epoch,len,sum⟩:=(hg4.block _ hlt (fun e=>by have:=(hob _ e.symm).1;omega)).trans hB';have hb:Below w.heap.size w z4:=hb'.grown hg4 (Nat.le_of_lt hlt) (fun k hk=>Nat.le_of_succ_le (hob k hk).1);clear hO' hB' hb' hlt hob hg4;obtain⟨c0,c1,c2,c3,c4⟩:=hB.cells))
 obtain⟨L8,hL8⟩:∃ L,L=[72,83,84,83,1,UInt8.ofNat act] ++ Crc.fix4 (gen % 4294967296) ++ Crc.fix4 (gen / 4294967296) ++ Crc.fix4 epoch ++ Crc.fix4 len ++ Crc.fix4 sum:=⟨_,rfl⟩
 have hO8:OwnB (w.heap.size+1) z4 v4 (L8 ++ List.replicate 0 0):=by rw [hL8];simpa using hO
 have hl8:L8.length=26:=by rw [hL8];simp [Crc.fix4]
 have HL8:=zH hL8
 have HL26:=zH hl8
 have hs4:=za_a hB
 clear hO hL8 hl8 hB c0 c1 c2 c3 c4
 go_loopw [4] (fun v wr=>∃ k:Nat,k<=34/\OwnB (w.heap.size+1) wr v (L8 ++ List.replicate k 0)/\w.heap.size < wr.heap.size/\Below w.heap.size w wr) (fun v _=>60 - lenV v)
 case atStart=>exact⟨0,Nat.zero_le _,hO8,hs4,hb⟩
 case round =>
  obtain⟨k,hk,hOk,hsk,hbk⟩:=hrel
  obtain⟨a,c,hv,hsl,-⟩:=id hOk.sl
  have hlen:(L8 ++ List.replicate k 0).length=26+k:=by simp [HL26.out]
  rw [hlen] at hv hsl
  subst hv
  by_cases hlt:k < 34
  ·have ht:((26+k:Nat):Int) < 60:=by omega
   have hOk1:=OwnB.alloc hOk (.cells #[bv 0] 5)
   have hob:=hOk1.lt
   clear hlen
   go_wp2_with (first|(at_builtin;refine za_d rfl _ _ rfl (w.heap.size+1) _ (L8 ++ List.replicate k 0) rfl hOk1 wr.heap.size 1 1 [0] rfl (SlB.one wr 0 _) (by simp [HL26.out];omega) (by simp;omega) ?_;intro v' w' hO' hg' _))
   have hL:L8 ++ List.replicate k 0 ++ [0]=L8 ++ List.replicate (k+1) 0:=by rw [List.append_assoc,<-List.replicate_succ']
   rw [hL] at hO'
   obtain⟨a',c',hv',-,-⟩:=id hO'.sl
   have hlen':(L8 ++ List.replicate (k+1) 0).length=26+(k+1):=by simp [HL26.out]
   rw [hlen'] at hv'
   have hsz:=hg'.size
   simp at hsz
   refine⟨⟨k+1,by omega,hO',by omega,(hbk.alloc (Nat.le_of_lt hsk) _).grown hg' (by simp;omega) (fun j hj=>Nat.le_of_succ_le (hob j hj).1)⟩,?_⟩
   rw [hv'];simp only [lenV];omega
  ·obtain rfl:k=34:=by omega
   have ht:¬ ((26+34:Nat):Int) < 60:=by omega
   have hbody:L8 ++ List.replicate 34 0=Super.body ⟨gen,act,epoch,len,sum⟩:=by rw [HL8.out,HP.out]
   rw [hbody] at hOk hsl
   clear hbody hlen
   have hsl60:SlB wr a 60 c (Super.body ⟨gen,act,epoch,len,sum⟩):=hsl
   have hUl:=Crc.update_lt 0 (Super.body ⟨gen,act,epoch,len,sum⟩)
   clear hsl
   go_wp2_with fail
   refine (zh_f _ _ _ _ _ hsl60).mono ?_;rintro e w9 ⟨rfl,rfl⟩
   go_wp2_with fail
   refine (zb_w _ hUl _).mono ?_;rintro e y9 ⟨x9,rfl,hx9,hy9⟩
   have hO9:=OwnB.mono (hOk.ext hy9) (Nat.le_succ _)
   have hb9:=hbk.trans (hy9.mono hbk.size)
   have hob9:=hO9.lt
   have hl60:=Super.body_length ⟨gen,act,epoch,len,sum⟩
   go_wp2_with (first|(at_builtin;refine za_d rfl _ _ rfl w.heap.size _ (Super.body ⟨gen,act,epoch,len,sum⟩) rfl hO9 (some x9) 4 4 _ rfl hx9 (by omega) hb9.size ?_;intro v10 w10 hO10 hg10 _))
   go_ret2
   exact⟨v10,rfl,hO10,hb9.grown hg10 hb9.size (fun j hj=>(hob9 j hj).1)⟩
end
end Go.Proofs.YtmanejniepghlaaGreatDoor
