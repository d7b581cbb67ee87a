import Derived.Test.YtmanejniepghlaaGreatDoorRun4
import Derived.Test.YtmanejniepghlaaGreatDoorRun33
import Derived.Test.YtmanejniepghlaaGreatDoorRun1
import Derived.Deep.RegionHeld3
import Derived.RegionTactic
import Derived.Deep.MidRow
import Derived.Deep.DeepMust
set_option maxRecDepth 100000
namespace Go.Proofs.YtmanejniepghlaaGreatDoor
section
open Go.RowKit
variable {w:World} {H:Nat} {s:Su.S}
def supv (s:Su.S):Value:=.agg #[.int .u64 s.gen,s.act,.int .u32 s.AA,s.len,.int .u32 s.sum]
theorem Ht (v k:Nat):Value.int .u8 ((v:Int) / 2 ^ (8 * k) % 256)=bv (UInt8.ofNat (v / 256 ^ k % 256)):=by
 rw [bv,AX.BJ (Nat.mod_lt _ (by decide))]
 have e:(256:Nat) ^ k=2 ^ (8 * k):=by rw [Nat.pow_mul]
 rw [e];simp
theorem Oa (g o m c n v:Nat) (t:TypeId) (l:List UInt8) (w:World) (hr:RowIs w g t l) (u:n<=m) (hfit:o+m<=l.length) (r:n<=8) (N:Int) (j:N=(n:Int)) :
 Calls Tryz.prog 105 #[.slice (g o) m c,.int .u64 v,N] w fun e f=>e=.returned (.tuple #[])/\RowIs f g t (Su.spl l o (Su.le n v))/\BQ g w f:=by
 subst j
 go_in
 go_wp2
 go_loopw [8] (fun i wr=>∃ k:Nat,k<=n/\i=.int .i64 k/\RowIs wr g t (Su.spl l o (Su.le k v))/\BQ g w wr) (fun i _=>n - (intOf i).toNat)
 case atStart=>exact⟨0,Nat.zero_le _,rfl,by rw [Su.le,Su.VH];exact hr,BQ.refl _ _⟩
 case round =>
  obtain⟨k,z,rfl,a,d⟩:=hrel
  by_cases p:k < n
  ·have b:(Su.spl l o (Su.le k v)).length=l.length:=Su.EA _ _ _ (by rw [Su.AU];omega)
   have x:=a.cell (o+k) (by rw [b];omega)
   have y:=a.free (o+k)
   have h:=zH (Su.TY l o (Su.le k v) (UInt8.ofNat (v / 256 ^ k % 256)) (by rw [Su.AU];omega))
   generalize (Su.spl l o (Su.le k v))[o+k]?.getD 0=q at *
   clear b
   go_wp2
   go_roundw
   case rel =>
    refine⟨k+1,by omega,by go_num,?_,d.setCell _ _⟩
    rw [Ht v k,Su.le_succ,<-h.out,Su.AU]
    exact a.set _ _
   case measure=>simp [intOf];omega
  ·obtain rfl:k=n:=by omega
   go_wp2
   go_end0
   exact⟨rfl,a,d⟩
theorem El (x q k:Nat) (a:x < 256 ^ k) (g:q < 256) (j:k < 8) :
 bits BinOp.or IntKind.u64 (x:Int) (IntKind.u64.wrap (IntKind.u64.wrap (q:Int) * 2 ^ (8 * k)))=((x+256 ^ k * q:Nat):Int):=by
 have e:(256:Nat) ^ k=2 ^ (8 * k):=by rw [Nat.pow_mul]
 have f:(256:Nat) ^ (k+1)<=256 ^ 8:=Nat.pow_le_pow_right (by decide) (by omega)
 have b:q * 2 ^ (8 * k) < 18446744073709551616:=by
  rw [<-e]
  have:q * 256 ^ k < 256 ^ (k+1):=by rw [Nat.pow_succ,Nat.mul_comm (256 ^ k)];exact Nat.mul_lt_mul_of_pos_right g (Nat.pow_pos (by decide))
  exact Nat.lt_of_lt_of_le this (Nat.le_trans f (by decide))
 have h:IntKind.u64.wrap (q:Int)=(q:Int):=by
  simp [IntKind.wrap,IntKind.bits,IntKind.signed];omega
 have i:IntKind.u64.wrap (IntKind.u64.wrap (q:Int) * 2 ^ (8 * k))=((q * 2 ^ (8 * k):Nat):Int):=by
  rw [h]
  have d:(q:Int) * 2 ^ (8 * k)=((q * 2 ^ (8 * k):Nat):Int):=by simp
  rw [d]
  simp only [IntKind.wrap,IntKind.bits,IntKind.signed]
  generalize q * 2 ^ (8 * k)=y at *
  simp;omega
 have c:x < 18446744073709551616:=Nat.lt_of_lt_of_le a (Nat.le_trans (Nat.pow_le_pow_right (n:=256) (by decide) (show k<=8 by omega)) (by decide))
 rw [i,u64_or_nat _ _ c b]
 congr 1
 rw [Nat.or_comm,nat_join (8 * k) _ _ (Nat.mul_mod_left _ _) (by rw [<-e];exact a),e,Nat.mul_comm,Nat.add_comm]
theorem Uz (a:Option Addr) (m c n:Nat) (l:List UInt8) (w:World) (h:AM w a m c l) (z:n<=m) (y:n<=8) (N:Int) (j:N=(n:Int)) :
 Calls Tryz.prog 184 #[.slice a m c,N] w fun e p=>e=.returned (.int .u64 (Su.unle (l.take n):Nat))/\w=p:=by
 subst j
 have t:=h.le
 go_in
 go_wp2
 go_loop [5,8] (fun x i=>∃ k:Nat,k<=n/\i=.int .i64 k/\x=.int .u64 (Su.unle (l.take k):Nat)) (fun _ i=>n - (intOf i).toNat)
 case atStart=>exact⟨0,Nat.zero_le _,rfl,rfl⟩
 case round =>
  obtain⟨k,B,rfl,rfl⟩:=hrel
  by_cases u:k < n
  ·obtain⟨b,o,rfl,A,f,r⟩:=h.at (show k < m by omega)
   have d:=Su.CV (l.take k)
   rw [List.length_take,Nat.min_eq_left (by omega)] at d
   have hs:Su.unle (l.take (k+1))=Su.unle (l.take k)+256 ^ k * (l[k]?.getD 0).toNat:=by
    rw [List.take_succ_eq_append_getElem f,Su.IX,List.length_take,Nat.min_eq_left (by omega),List.getElem?_eq_getElem f];simp [Su.unle]
   have g:Hid (Value.int .u64 (bits BinOp.or IntKind.u64 ((Su.unle (l.take k):Nat):Int) (IntKind.u64.wrap (IntKind.u64.wrap ((l[k]?.getD 0).toNat:Int) * 2 ^ (8 * k))))=.int .u64 (Su.unle (l.take (k+1)):Nat)):=by
    rw [El _ _ k d (UInt8.toNat_lt _) (by omega),hs];exact zH rfl
   clear hs d
   generalize l[k]?.getD 0=q at *
   generalize Su.unle (l.take k)=x at *
   go_wp2
   go_round
   case rel =>
    refine⟨k+1,by omega,by go_num,?_⟩
    rw [g.out]
   case measure=>simp [intOf];omega
  ·obtain rfl:k=n:=by omega
   go_wp2
   go_ret
   exact⟨rfl,rfl⟩
theorem Ew (w:World) (n:Nat) (A:Array Value) (t:TypeId) (k:Nat) (a:A=((List.replicate n 0).map bv).toArray) (b:k=w.heap.size):RowIs (w.alloc (.cells A t)) k t (List.replicate n 0):=by
 subst a;subst b
 exact Qb _ _ _ rfl
def AF (w:World) (H:Nat) (s:Su.S):Prop:=w.heap[H]?=some (.cells #[.int .u64 s.gen,s.act,.int .u32 s.AA,s.len,.int .u32 s.sum] 94 (0,0))
theorem AF.cells (h:AF w H s) :
 w.cell? H=some (.int .u64 s.gen)/\w.cell? (H 1)=some (s.act:Value)/\w.cell? (H 2)=some (.int .u32 s.AA)/\w.cell? (H 3)=some (s.len:Value)/\w.cell? (H 4)=some (.int .u32 s.sum):=by
 refine⟨?_,?_,?_,?_,?_⟩ <;> (rw [cell_of_row _ _ _ _ _ _ h];rfl)
theorem AF.drew (h:AF w H s):AF w.drew H s:=h
theorem AF.but {w':World} {g:Nat} (h:AF w H s) (a:BQ g w w') (b:H ≠ g):AF w' H s :=
 (a.block _ (Qa h) b).trans h
theorem AF.NB (h:AF w H s):AF w H s/\w.cell? H=some (.int .u64 s.gen):=⟨h,h.cells.1⟩
theorem AF.ZI (h:AF w H s):AF w H s/\w.cell? (H 2)=some (.int .u32 s.AA):=⟨h,h.cells.2.2.1⟩
theorem AF.ZJ (h:AF w H s):AF w H s/\w.cell? (H 3)=some (s.len:Value):=⟨h,h.cells.2.2.2.1⟩
theorem AF.ZK (h:AF w H s):AF w H s/\w.cell? (H 4)=some (.int .u32 s.sum):=⟨h,h.cells.2.2.2.2⟩
theorem Vi (β:Bool) (s:Su.S) (w:World) :
 Calls Tryz.prog (cond β 104 145) #[supv s] w fun e f=>e=.returned (.bool (Su.AB s))/\Below w.heap.size w f:=by
 cases β <;> dsimp only [cond]
 all_goals
  obtain⟨gen,act,AA,len,sum⟩:=s
  unfold supv
  have d:Su.AB ⟨gen,act,AA,len,sum⟩=((act == 0 || act == 1) && decide (0<=len) && decide (len<=262144)):=rfl
  rw [d];clear d
  by_cases h0:act=0
  ·have t0:(act == 0)=true:=by simp [h0]
   clear h0
   by_cases b:0<=len
   ·go_in
    go_wp2
    go_ret
    exact⟨by simp [t0,b],(Below.refl _ _).alloc (zN _) _⟩
   ·go_in
    go_wp2
    go_ret
    exact⟨by simp;omega,(Below.refl _ _).alloc (zN _) _⟩
  ·have t0:(act == 0)=false:=by simp [h0]
   by_cases a:act=1
   ·have c:(act == 1)=true:=by simp [a]
    clear h0 a
    by_cases b:0<=len
    ·go_in
     go_wp2
     go_ret
     exact⟨by simp [c,b],(Below.refl _ _).alloc (zN _) _⟩
    ·go_in
     go_wp2
     go_ret
     exact⟨by simp;omega,(Below.refl _ _).alloc (zN _) _⟩
   ·have c:(act == 1)=false:=by simp [a]
    clear h0 a
    go_in
    go_wp2
    go_ret
    exact⟨by simp [t0,c],(Below.refl _ _).alloc (zN _) _⟩
theorem Hh (gen act AA len sum:Nat) (_h1:gen < 18446744073709551616) (h2:AA < 4294967296) (h3:sum < 4294967296) (h4:len<=262144) (h5:act < 2) (hv:Su.AB ⟨gen,act,AA,len,sum⟩=true) (w:World) :
 Calls Tryz.prog 47 #[supv ⟨gen,act,AA,len,sum⟩] w fun e b=>∃ K,e=.returned (.tuple #[.slice (K:Nat) 64 64,.int .i64 0])/\RowIs b K 151 (Su.enc ⟨gen,act,AA,len,sum⟩)/\w.heap.size<=K/\Below w.heap.size w b:=by
 have hV:=Vi true ⟨gen,act,AA,len,sum⟩
 rw [hv] at hV
 have HV:=zH hV;clear hV hv
 have zg:AF (w.alloc (.cells #[.int .u64 gen,act,.int .u32 AA,len,.int .u32 sum] 94)) w.heap.size ⟨gen,act,AA,len,sum⟩:=Qb _ _ _ rfl
 have HB:=zH zg;clear zg
 go_in
 unfold supv at *
 go_wp2_with fail
 refine (HV.out _).mono ?_;rintro e a ⟨rfl,T⟩
 have c:w.heap.size < a.heap.size:=by have:=T.size;simp at this;omega
 have yj:AF a w.heap.size ⟨gen,act,AA,len,sum⟩:=(T.block _ (by simp)).trans HB.out
 have zv:Below w.heap.size w a:=((Below.refl _ _).alloc (zN _) _).trans (T.mono (by simp))
 have yc:(Tryz.prog.info? 5).map (·.size)=some 1:=by kernel_rfl
 have zr:(ByteArray.mk #[72,83,84,83]).size<=64:=by decide
 have zs:0+(ByteArray.mk #[72,83,84,83]).size<=(List.replicate 64 (0:UInt8)).length:=by decide
 go_wp2_with (first|((show wpList _ _ _ [Oper.mk (some 9) _ _ _ _ _] _ _);go_must (apply Kg (dT:=70) (sT:=9) (elem:=5) (g:=a.heap.size) (off:=0) (dLen:=64) (dCap:=64) (x:=⟨#[72,83,84,83]⟩) (t:=151) (l:=List.replicate 64 0);(case hgd=>rfl);(case ho=>rfl);(case hu=>exact Tryz.underlying70);(case hsz=>exact yc);(case hd=>rfl);(case hs=>rfl);(case hn=>exact zr);(case hr=>exact Ew a 64 _ _ _ rfl rfl);(case hfit=>exact zs);intro j f za)))
 obtain⟨h,A⟩:∃ h,h=List.take 0 (List.replicate 64 (0:UInt8)) ++ (ByteArray.mk #[72,83,84,83]).data.toList ++ List.drop (0+(ByteArray.mk #[72,83,84,83]).size) (List.replicate 64 0):=⟨_,rfl⟩
 rw [<-A] at f
 have zd:h.length=64:=by rw [A];decide
 have J:AF j w.heap.size ⟨gen,act,AA,len,sum⟩:=(za.block _ (by simp;omega) (by omega)).trans ((Qd _ _ _ c).trans yj)
 have zw:Below w.heap.size w j:=BQ.below (zv.alloc (Nat.le_of_lt c) _) za (Nat.le_of_lt c) (by simp;omega)
 obtain⟨c0,c1,c2,c3,c4⟩:=J.cells
 have k4:=f.cell 4 (by omega)
 have k5:=f.cell 5 (by omega)
 have f4:=f.free 4
 have f5:=f.free 5
 have B:=((f.set 4 1).set 5 (UInt8.ofNat act))
 have ze:((h.set 4 1).set 5 (UInt8.ofNat act)).length=64:=by simp [zd]
 have yd:=zH A;have zi:=zH ze
 have zb:BQ a.heap.size j ((j.setCell (a.heap.size 4) (bv 1)).setCell (a.heap.size 5) (bv (UInt8.ofNat act))).drew:=(((BQ.refl _ _).setCell _ _).setCell _ _).drew
 have zh:RowIs ((j.setCell (a.heap.size 4) (bv 1)).setCell (a.heap.size 5) (bv (UInt8.ofNat act))).drew a.heap.size 151 ((h.set 4 1).set 5 (UInt8.ofNat act)):=B
 have k:=zH zb;have q:=zH zh;have ym:=zH f
 have zj:bv (UInt8.ofNat act)=.int .u8 (act:Int):=by rw [bv,AX.BJ (by omega)]
 have zf:bv 1=.int .u8 1:=rfl
 rw [zj,zf] at k q
 clear A zd ze B zb zh f zj zf
 go_region
 go_wp2
 generalize ((j.setCell (a.heap.size 4) (.int .u8 1)).setCell (a.heap.size 5) (.int .u8 (act:Int))).drew=w3 at *
 obtain⟨i,N⟩:∃ i,i=(h.set 4 1).set 5 (UInt8.ofNat act):=⟨_,rfl⟩
 rw [<-N] at q zi
 have ye:=zH N;clear N
 have yo:=k.out.size
 have r:=J.but k.out (by omega)
 have zx:=BQ.below zw k.out (Nat.le_of_lt c) (Nat.le_of_lt (Qa J))
 have B:=q.out
 have yk:i.length=64:=zi.out
 clear k q c0 c1 c2 c3 c4 k4 k5 f4 f5
 have d:w.heap.size ≠ a.heap.size:=by omega
 have we:IntKind.u64.wrap (AA:Int)=(AA:Int):=by simp [IntKind.wrap,IntKind.bits,IntKind.signed];omega
 have wl:IntKind.u64.wrap (len:Int)=(len:Int):=by simp [IntKind.wrap,IntKind.bits,IntKind.signed];omega
 have ws:IntKind.u64.wrap (sum:Int)=(sum:Int):=by simp [IntKind.wrap,IntKind.bits,IntKind.signed];omega
 go_region_held3 (fun b=>AF b w.heap.size ⟨gen,act,AA,len,sum⟩/\b.cell? w.heap.size=some (.int .u64 gen)) (first|exact r.NB|exact (AF.but (w:=w3.drew) r m d).NB) (first|(go_at_call 105;go_must (refine (Oa a.heap.size 6 58 58 8 gen 151 i _ (by exact B) (by omega) (by omega) (by omega) _ rfl).mono ?_);rintro e w4 ⟨rfl,zn,m⟩))
 go_wp2
 have zk:(Su.spl i 6 (Su.le 8 gen)).length=64:=by rw [Su.EA _ _ _ (by rw [Su.AU];omega),yk]
 obtain⟨Y,O⟩:∃ L,L=Su.spl i 6 (Su.le 8 gen):=⟨_,rfl⟩
 rw [<-O] at zn zk
 have yf:=zH O
 have zr:=m.size
 have u:AF w4 w.heap.size ⟨gen,act,AA,len,sum⟩:=AF.but (AF.drew r) m d
 have zy:=BQ.below zx.drew m (Nat.le_of_lt c) (Nat.le_of_lt (Qa r))
 clear O
 go_region_held3 (fun b=>AF b w.heap.size ⟨gen,act,AA,len,sum⟩/\b.cell? (w.heap.size 2)=some (.int .u32 AA)) (first|exact u.ZI|exact (AF.but (w:=w4.drew) u n d).ZI) (first|(go_at_call 105;go_must (refine (Oa a.heap.size 14 50 50 4 AA 151 Y _ (by exact zn) (by omega) (by omega) (by omega) _ rfl).mono ?_);rintro e w5 ⟨rfl,zo,n⟩))
 go_wp2
 have zl:(Su.spl Y 14 (Su.le 4 AA)).length=64:=by rw [Su.EA _ _ _ (by rw [Su.AU];omega),zk]
 obtain⟨Z,P⟩:∃ L,L=Su.spl Y 14 (Su.le 4 AA):=⟨_,rfl⟩
 rw [<-P] at zo zl
 have yg:=zH P
 have zs:=n.size
 have y:AF w5 w.heap.size ⟨gen,act,AA,len,sum⟩:=AF.but (AF.drew u) n d
 have zz:=BQ.below zy.drew n (Nat.le_of_lt c) (Nat.le_of_lt (Qa u))
 clear P
 go_region_held3 (fun b=>AF b w.heap.size ⟨gen,act,AA,len,sum⟩/\b.cell? (w.heap.size 3)=some (len:Value)) (first|exact y.ZJ|exact (AF.but (w:=w5.drew) y o d).ZJ) (first|(go_at_call 105;go_must (refine (Oa a.heap.size 18 46 46 4 len 151 Z _ (by exact zo) (by omega) (by omega) (by omega) _ rfl).mono ?_);rintro e w6 ⟨rfl,zp,o⟩))
 go_wp2
 have zm:(Su.spl Z 18 (Su.le 4 len)).length=64:=by rw [Su.EA _ _ _ (by rw [Su.AU];omega),zl]
 obtain⟨L6,Q⟩:∃ L,L=Su.spl Z 18 (Su.le 4 len):=⟨_,rfl⟩
 rw [<-Q] at zp zm
 have yh:=zH Q
 have yp:=o.size
 have z:AF w6 w.heap.size ⟨gen,act,AA,len,sum⟩:=AF.but (AF.drew y) o d
 have ya:=BQ.below zz.drew o (Nat.le_of_lt c) (Nat.le_of_lt (Qa y))
 clear Q
 go_region_held3 (fun b=>AF b w.heap.size ⟨gen,act,AA,len,sum⟩/\b.cell? (w.heap.size 4)=some (.int .u32 sum)) (first|exact z.ZK|exact (AF.but (w:=w6.drew) z p d).ZK) (first|(go_at_call 105;go_must (refine (Oa a.heap.size 22 42 42 4 sum 151 L6 _ (by exact zp) (by omega) (by omega) (by omega) _ rfl).mono ?_);rintro e F ⟨rfl,W,p⟩))
 go_wp2
 have yl:(Su.spl L6 22 (Su.le 4 sum)).length=64:=by rw [Su.EA _ _ _ (by rw [Su.AU];omega),zm]
 obtain⟨L7,R⟩:∃ L,L=Su.spl L6 22 (Su.le 4 sum):=⟨_,rfl⟩
 rw [<-R] at W yl
 have yi:=zH R
 have yq:=p.size
 have M:AF F w.heap.size ⟨gen,act,AA,len,sum⟩:=AF.but (AF.drew z) p d
 have yb:=BQ.below ya.drew p (Nat.le_of_lt c) (Nat.le_of_lt (Qa z))
 clear R
 have G:L7=Su.lay gen act AA len sum:=by rw [yi.out,yh.out,yg.out,yf.out,ye.out,yd.out];rfl
 have X:=W.slb 0 60 64 (by omega) (by decide) (by decide)
 rw [G,Su.TF] at X
 obtain⟨U,C⟩:∃ U,U=AX.update 0 (Su.body ⟨gen,act,AA,len,sum⟩):=⟨_,rfl⟩
 have I:=Xr _ _ _ _ F.drew (show AM F.drew _ _ _ _ from X)
 rw [<-C] at I
 have yn:U < 4294967296:=by rw [C];exact AX.BX _ _
 have wu:IntKind.u64.wrap (U:Int)=(U:Int):=by simp [IntKind.wrap,IntKind.bits,IntKind.signed];omega
 have zu:=zH I
 have HU:=zH C
 have zt:=zH G
 clear I C X G
 go_region_held3 (fun b=>AF b w.heap.size ⟨gen,act,AA,len,sum⟩) (first|exact M|exact (AF.but (w:=F.drew) M zc d)) (first|(go_at_call 48;go_must (refine (zu.out).mono ?_);rintro e w9 ⟨rfl,rfl⟩)|(go_at_call 105;go_must (refine (Oa a.heap.size 60 4 4 4 U 151 L7 _ (by exact W) (by omega) (by omega) (by omega) _ rfl).mono ?_);rintro e w8 ⟨rfl,zq,zc⟩))
 go_wp2
 go_ret2
 refine⟨a.heap.size,rfl,?_,Nat.le_of_lt c,BQ.below yb.drew zc (Nat.le_of_lt c) (Nat.le_of_lt (Qa M))⟩
 rw [zt.out,HU.out,Su.UT] at zq
 exact zq
end
section
open Go.RowKit
def XU:Value->Nat
|.slice _ n _=>n
|_=>0
theorem Zw (gen act AA len sum:Nat) (h1:gen < 18446744073709551616) (h2:AA < 4294967296) (h3:sum < 4294967296) (h4:len<=262144) (h5:act < 2) (x:Su.AB ⟨gen,act,AA,len,sum⟩=true) (w:World) :
 Calls Tryz.prog 93 #[supv ⟨gen,act,AA,len,sum⟩] w fun e Y=>∃ v,e=.returned (.tuple #[v,.int .i64 0])/\AC w.heap.size Y v (Su.enc ⟨gen,act,AA,len,sum⟩)/\Below w.heap.size w Y:=by
 have W:=Vi false ⟨gen,act,AA,len,sum⟩
 rw [x] at W
 have HV:=zH W;clear W x
 have zb:AF (w.alloc (.cells #[.int .u64 gen,act,.int .u32 AA,len,.int .u32 sum] 94)) w.heap.size ⟨gen,act,AA,len,sum⟩:=Qb _ _ _ rfl
 have HB:=zH zb;clear zb
 have HP:=zH (Su.OX gen act AA len sum h1 h2 h3 (by omega))
 go_in
 unfold supv at *
 go_wp2_with fail
 refine (HV.out _).mono ?_;rintro e p ⟨rfl,F⟩
 have zf:AF p w.heap.size ⟨gen,act,AA,len,sum⟩:=(F.block _ (by simp)).trans HB.out
 have zr:Below w.heap.size w p:=((Below.refl _ _).alloc (zN _) _).trans (F.mono (by simp))
 have O:w.heap.size < p.heap.size:=by have:=F.size;simp at this;omega
 obtain⟨q,r,s,t,u⟩:=zf.cells
 have hA:#[Value.int .u8 72,.int .u8 83,.int .u8 84,.int .u8 83,.int .u8 1,.int .u8 (act:Int)]=(([72,83,84,83,1,UInt8.ofNat act]:List UInt8).map bv).toArray:=by
  simp only [List.map_cons,List.map_nil,bv]
  rw [AX.BJ (show act < 256 by omega)];rfl
 have zh:AC (w.heap.size+1) (p.alloc (.cells #[Value.int .u8 72,.int .u8 83,.int .u8 84,.int .u8 83,.int .u8 1,.int .u8 (act:Int)] 5)) (.slice p.heap.size 6 6) [72,83,84,83,1,UInt8.ofNat act]:=by
  rw [hA];exact AC.built p _ O (by simp [maxLen])
 have zg:AF (p.alloc (.cells #[Value.int .u8 72,.int .u8 83,.int .u8 84,.int .u8 83,.int .u8 1,.int .u8 (act:Int)] 5)) w.heap.size ⟨gen,act,AA,len,sum⟩:=(Qd _ _ _ O).trans zf
 have zj:=zr.alloc (Nat.le_of_lt O) (.cells #[Value.int .u8 72,.int .u8 83,.int .u8 84,.int .u8 83,.int .u8 1,.int .u8 (act:Int)] 5)
 have zd:=zH zh;have zc:=zH zg;have ze:=zH zj
 clear hA zh zg zj
 go_wp2_with fail
 rw [show ((gen:Int) % 4294967296)=((gen % 4294967296:Nat):Int) by omega]
 have l:=zd.out;have b:=zc.out;have h:=ze.out
 clear zd zc ze q r s t u
 refine (Jh (gen % 4294967296) (by omega) _).mono ?_;rintro e y0 ⟨x0,rfl,zz,P⟩
 have f:=l.ext P
 have i:AF y0 w.heap.size ⟨gen,act,AA,len,sum⟩:=(P.block _ (Qa b)).trans b
 have m:=h.trans (P.mono h.size)
 have d:=Qa i
 have g:=f.lt
 clear l b h
 go_wp2_with (first|(at_builtin;refine Qc rfl _ _ rfl (w.heap.size+1) (.slice p.heap.size 6 6) ([72,83,84,83,1,UInt8.ofNat act]) rfl f (some x0) 4 4 _ rfl zz (by simp) d ?_;intro v0 z0 l I _;have b:AF z0 w.heap.size ⟨gen,act,AA,len,sum⟩:=(I.block _ d (fun e=>by have:=(g _ e.symm).1;omega)).trans i;have h:Below w.heap.size w z0:=m.grown I (Nat.le_of_lt d) (fun k n=>Nat.le_of_succ_le (g k n).1);clear f i m d g I;obtain⟨q,r,s,t,u⟩:=b.cells))
 rw [show ((gen:Int) / 4294967296)=((gen / 4294967296:Nat):Int) by omega]
 refine (Jh (gen / 4294967296) (by omega) _).mono ?_;rintro e y1 ⟨x1,rfl,ya,Q⟩
 have f:=l.ext Q
 have i:AF y1 w.heap.size ⟨gen,act,AA,len,sum⟩:=(Q.block _ (Qa b)).trans b
 have m:=h.trans (Q.mono h.size)
 have d:=Qa i
 have g:=f.lt
 clear l b h
 go_wp2_with (first|(at_builtin;refine Qc rfl _ _ rfl (w.heap.size+1) v0 ([72,83,84,83,1,UInt8.ofNat act] ++ AX.CC (gen % 4294967296)) rfl f (some x1) 4 4 _ rfl ya (by simp [AX.CC]) d ?_;intro v1 z1 l J _;have b:AF z1 w.heap.size ⟨gen,act,AA,len,sum⟩:=(J.block _ d (fun e=>by have:=(g _ e.symm).1;omega)).trans i;have h:Below w.heap.size w z1:=m.grown J (Nat.le_of_lt d) (fun k n=>Nat.le_of_succ_le (g k n).1);clear f i m d g J;obtain⟨q,r,s,t,u⟩:=b.cells))
 refine (Jh AA (by omega) _).mono ?_;rintro e y2 ⟨x2,rfl,yb,R⟩
 have f:=l.ext R
 have i:AF y2 w.heap.size ⟨gen,act,AA,len,sum⟩:=(R.block _ (Qa b)).trans b
 have m:=h.trans (R.mono h.size)
 have d:=Qa i
 have g:=f.lt
 clear l b h
 go_wp2_with (first|(at_builtin;refine Qc rfl _ _ rfl (w.heap.size+1) v1 ([72,83,84,83,1,UInt8.ofNat act] ++ AX.CC (gen % 4294967296) ++ AX.CC (gen / 4294967296)) rfl f (some x2) 4 4 _ rfl yb (by simp [AX.CC]) d ?_;intro v2 z2 l K _;have b:AF z2 w.heap.size ⟨gen,act,AA,len,sum⟩:=(K.block _ d (fun e=>by have:=(g _ e.symm).1;omega)).trans i;have h:Below w.heap.size w z2:=m.grown K (Nat.le_of_lt d) (fun k n=>Nat.le_of_succ_le (g k n).1);clear f i m d g K;obtain⟨q,r,s,t,u⟩:=b.cells))
 refine (Jh len (by omega) _).mono ?_;rintro e y3 ⟨x3,rfl,yc,T⟩
 have f:=l.ext T
 have i:AF y3 w.heap.size ⟨gen,act,AA,len,sum⟩:=(T.block _ (Qa b)).trans b
 have m:=h.trans (T.mono h.size)
 have d:=Qa i
 have g:=f.lt
 clear l b h
 go_wp2_with (first|(at_builtin;refine Qc rfl _ _ rfl (w.heap.size+1) v2 ([72,83,84,83,1,UInt8.ofNat act] ++ AX.CC (gen % 4294967296) ++ AX.CC (gen / 4294967296) ++ AX.CC AA) rfl f (some x3) 4 4 _ rfl yc (by simp [AX.CC]) d ?_;intro v3 z3 l M _;have b:AF z3 w.heap.size ⟨gen,act,AA,len,sum⟩:=(M.block _ d (fun e=>by have:=(g _ e.symm).1;omega)).trans i;have h:Below w.heap.size w z3:=m.grown M (Nat.le_of_lt d) (fun k n=>Nat.le_of_succ_le (g k n).1);clear f i m d g M;obtain⟨q,r,s,t,u⟩:=b.cells))
 refine (Jh sum (by omega) _).mono ?_;rintro e y4 ⟨x4,rfl,yd,U⟩
 have f:=l.ext U
 have i:AF y4 w.heap.size ⟨gen,act,AA,len,sum⟩:=(U.block _ (Qa b)).trans b
 have m:=h.trans (U.mono h.size)
 have d:=Qa i
 have g:=f.lt
 clear l b h
 go_wp2_with (first|(at_builtin;refine Qc rfl _ _ rfl (w.heap.size+1) v3 ([72,83,84,83,1,UInt8.ofNat act] ++ AX.CC (gen % 4294967296) ++ AX.CC (gen / 4294967296) ++ AX.CC AA ++ AX.CC len) rfl f (some x4) 4 4 _ rfl yd (by simp [AX.CC]) d ?_;intro v4 z4 l N _;have b:AF z4 w.heap.size ⟨gen,act,AA,len,sum⟩:=(N.block _ d (fun e=>by have:=(g _ e.symm).1;omega)).trans i;have h:Below w.heap.size w z4:=m.grown N (Nat.le_of_lt d) (fun k n=>Nat.le_of_succ_le (g k n).1);clear f i m d g N;obtain⟨q,r,s,t,u⟩:=b.cells))
 obtain⟨o,y⟩:∃ L,L=[72,83,84,83,1,UInt8.ofNat act] ++ AX.CC (gen % 4294967296) ++ AX.CC (gen / 4294967296) ++ AX.CC AA ++ AX.CC len ++ AX.CC sum:=⟨_,rfl⟩
 have zv:AC (w.heap.size+1) z4 v4 (o ++ List.replicate 0 0):=by rw [y];simpa using l
 have zl:o.length=26:=by rw [y];simp [AX.CC]
 have zu:=zH y
 have B:=zH zl
 have zx:=Qa b
 clear l y zl b q r s t u
 go_loopw [4] (fun v wr=>∃ k:Nat,k<=34/\AC (w.heap.size+1) wr v (o ++ List.replicate k 0)/\w.heap.size < wr.heap.size/\Below w.heap.size w wr) (fun v _=>60 - XU v)
 case atStart=>exact⟨0,Nat.zero_le _,zv,zx,h⟩
 case round =>
  obtain⟨k,n,z,zy,H⟩:=hrel
  obtain⟨a,c,x,A,-⟩:=id z.sl
  have C:(o ++ List.replicate k 0).length=26+k:=by simp [B.out]
  rw [C] at x A
  subst x
  by_cases d:k < 34
  ·have ht:((26+k:Nat):Int) < 60:=by omega
   have za:=AC.alloc z (.cells #[bv 0] 5)
   have g:=za.lt
   clear C
   go_wp2_with (first|(at_builtin;refine Qc rfl _ _ rfl (w.heap.size+1) _ (o ++ List.replicate k 0) rfl za wr.heap.size 1 1 [0] rfl (AM.one wr 0 _) (by simp [B.out];omega) (by simp;omega) ?_;intro v' Y f zk _))
   have hL:o ++ List.replicate k 0 ++ [0]=o ++ List.replicate (k+1) 0:=by rw [List.append_assoc,<-List.replicate_succ']
   rw [hL] at f
   obtain⟨a',c',zm,-,-⟩:=id f.sl
   have zo:(o ++ List.replicate (k+1) 0).length=26+(k+1):=by simp [B.out]
   rw [zo] at zm
   have hsz:=zk.size
   simp at hsz
   refine⟨⟨k+1,by omega,f,by omega,(H.alloc (Nat.le_of_lt zy) _).grown zk (by simp;omega) (fun j X=>Nat.le_of_succ_le (g j X).1)⟩,?_⟩
   rw [zm];simp only [XU];omega
  ·obtain rfl:k=34:=by omega
   have ht:¬ ((26+34:Nat):Int) < 60:=by omega
   have Z:o ++ List.replicate 34 0=Su.body ⟨gen,act,AA,len,sum⟩:=by rw [zu.out,HP.out]
   rw [Z] at z A
   clear Z C
   have zp:AM wr a 60 c (Su.body ⟨gen,act,AA,len,sum⟩):=A
   have zw:=AX.BX 0 (Su.body ⟨gen,act,AA,len,sum⟩)
   clear A
   go_wp2_with fail
   refine (Yo _ _ _ _ _ zp).mono ?_;rintro e w9 ⟨rfl,rfl⟩
   go_wp2_with fail
   refine (Jh _ zw _).mono ?_;rintro e y9 ⟨x9,rfl,ye,zn⟩
   have zi:=AC.mono (z.ext zn) (Nat.le_succ _)
   have G:=H.trans (zn.mono H.size)
   have zt:=zi.lt
   have yg:=Su.EE ⟨gen,act,AA,len,sum⟩
   go_wp2_with (first|(at_builtin;refine Qc rfl _ _ rfl w.heap.size _ (Su.body ⟨gen,act,AA,len,sum⟩) rfl zi (some x9) 4 4 _ rfl ye (by omega) G.size ?_;intro yf yh zq zs _))
   go_ret2
   exact⟨yf,rfl,zq,G.grown zs G.size (fun j X=>(zt j X).1)⟩
end
end Go.Proofs.YtmanejniepghlaaGreatDoor
