import Derived.RangeFuncNested
import Derived.RangeFuncBound
import Derived.RangeFuncCalls
import Derived.RangeFuncLeaves
import Derived.RangeFuncBox
import Derived.Shelf.Abstract
import Derived.Shelf.RegionOpen
import Derived.WalkKit
import Derived.OwnWalkIn
import Derived.TacticsInMore
import Derived.LoopNIn
import Derived.LoopIn
import Derived.Test.YtmanejniepghlaaGreatDoorRun3
import Derived.Test.YtmanejniepghlaaGreatDoorRun1
namespace Go.Proofs.YtmanejniepghlaaGreatDoor
open Go.RowKit Go.Shelf
set_option maxRecDepth 100000
variable {Bs n₀:Nat}
attribute [local go_sem] Oper.semAt_some
theorem zg_y (n:Int) (h1:-9223372036854775808<=n) (h2:n<=9223372036854775807) (w:World):Calls Tryz.prog 170 #[n] w fun e w'=>e=.returned (.int .i64 (Frame.size n))/\w=w':=by
 by_cases h:n < 0
 ·rw [show Frame.size n=0 from if_pos (by omega)]
  go_enter Tryz.func170,Tryz.ntmps170
  go_wp2
  go_ret
  exact⟨rfl,rfl⟩
 by_cases h3:1024 < n
 ·rw [show Frame.size n=0 from if_pos (by omega)]
  go_enter Tryz.func170,Tryz.ntmps170
  go_wp2
  go_ret
  exact⟨rfl,rfl⟩
 ·rw [show Frame.size n=14+n from if_neg (by omega)]
  go_enter Tryz.func170,Tryz.ntmps170
  go_wp2
  go_ret
  exact⟨rfl,rfl⟩
theorem SlB.oneMod (w:World) (y:Nat) (t:TypeId):SlB (w.alloc (.cells #[.int .u8 ((y:Int) % 256)] t)) w.heap.size 1 1 [UInt8.ofNat (y % 256)]:=by
 have h:=SlB.one w (UInt8.ofNat (y % 256)) t
 rw [bv,Crc.toNat_ofNat8 (Nat.mod_lt _ (by decide))] at h
 simpa using h
set_option maxHeartbeats 1000000 in
theorem zd_e (base:Nat) (v:Value) (l:List UInt8) (x n:Nat) (w:World) (h:OwnB base w v l) (hb:base<=w.heap.size) (_hx:x < 4294967296) (hl:l.length<=1000000) (hn:n<=8) (N:Int) (hN:N=(n:Int)) :
 Calls Tryz.prog 171 #[v,.int .u32 x,N] w fun e w'=>∃ v',e=.returned v'/\OwnB base w' v' (l ++ Super.le n x)/\Below base w w':=by
 subst hN
 go_enter Tryz.func171,Tryz.ntmps171
 go_wp2
 go_loopw [0,1,8] (fun u y i wr=>∃ k:Nat,k<=n/\i=.int .i64 k/\y=.int .u32 (x / 256 ^ k:Nat)/\OwnB base wr u (l ++ Super.le k x)/\Below base w wr) (fun _ _ i _=>n - (intOf i).toNat)
 case atStart=>exact⟨0,Nat.zero_le _,rfl,by simp,by simpa [Super.le] using h,Below.refl _ _⟩
 case round =>
  obtain⟨k,hk,rfl,rfl,hO,hB⟩:=hrel
  by_cases hlt:k < n
  ·have hlen:(l ++ Super.le k x).length<=1000008:=by rw [List.length_append,Super.le_length];omega
   have hs:=Super.le_succ k x
   have hd:x / 256 ^ k / 256=x / 256 ^ (k+1):=by rw [Nat.div_div_eq_div_mul,Nat.pow_succ]
   have hone:=SlB.oneMod wr (x / 256 ^ k)
   generalize x / 256 ^ k=y at *
   have hyn:(0:Int)<=(y:Int):=Int.natCast_nonneg _
   have HS:=zH hs;have HD:=zH hd;have HONE:=zH hone
   have hsz:=hB.size
   clear hs hd hone
   go_wp2_with (at_builtin;refine za_d rfl _ _ rfl base _ (l ++ Super.le k x) rfl (hO.alloc _) wr.heap.size 1 1 [UInt8.ofNat (y % 256)] rfl (HONE.out _) (by omega) (by simp;omega) ?_;intro v' w1 hown hg _)
   have hgr:Below base w w1:=(hB.alloc (by omega) _).grown hg (by simp;omega) (fun g hg=>(hO.lt g hg).1)
   clear hg
   go_wp2
   go_roundw
   case rel =>
    refine⟨k+1,by omega,by go_num,?_,?_,hgr⟩
    ·rw [<-HD.out];simp
    ·rw [HS.out,<-List.append_assoc];exact hown
   case measure=>simp [intOf];omega
  ·obtain rfl:k=n:=by omega
   go_wp2
   go_ret
   exact⟨_,rfl,hO,hB⟩
theorem zp_s (a:Option Addr) (n c:Nat) (l:List UInt8) (w:World) (h:SlB w a n c l) (hn:n<=140737488355328) :
 Calls Tryz.prog 75 #[.slice a n c] w fun e w'=>∃ v,e=.returned v/\OwnB w.heap.size w' v l/\Below w.heap.size w w':=by
 cases a with
|none =>
  obtain⟨rfl,rfl⟩:=h.2.2.2.1 rfl
  obtain rfl:n=0:=h.1.symm
  have hnil:=fun (w:World)=>Lib.run_eql_slice_nil (P:=Tryz.prog) w 70 5 none 0 0 0 0 Tryz.underlying70
  go_enter Tryz.func75,Tryz.ntmps75
  go_wp2
  go_ret
  exact⟨_,rfl,OwnB.nil _ _,Below.refl _ _⟩
|some ad =>
  have h2:SlB (w.alloc (.cells #[] 5)) (some ad) n c l:=h.ext ((Below.refl _ _).alloc (zN _) _)
  have hnil:=fun (w:World)=>Lib.run_eql_slice_nil (P:=Tryz.prog) w 70 5 (some ad) n c 0 0 Tryz.underlying70
  go_enter Tryz.func75,Tryz.ntmps75
  go_wp2_with (at_builtin;refine za_d rfl _ _ rfl w.heap.size _ [] rfl (OwnB.empty w (zN _)) (some ad) n c l rfl h2 (by simpa using hn) (by simp) ?_;intro v w1 hown hg _)
  go_ret
  exact⟨v,rfl,hown,((Below.refl _ _).alloc (zN _) _).grown hg (by simp) (fun k hk=>by cases hk;exact zN _)⟩
def upto {α:Type} (f:Nat->α) (k:Nat):List α:=(List.range k).map f
theorem zj_b {α:Type} (f:Nat->α) (k:Nat):upto f (k+1)=upto f k ++ [f k]:=by simp [upto,List.range_succ]
theorem zk_i {α:Type} (f:Nat->α) (k:Nat):(upto f k).length=k:=by simp [upto]
def back (l:List UInt8) (n k:Nat):Int × UInt8:=((n:Int) - 1 - (k:Int),l[n - 1 - k]?.getD 0)
def KpB (n₀ Bs:Nat) (A B:World):Prop:=Below n₀ A B/\B.heap[Bs]?=A.heap[Bs]?
theorem zt_f {A B C:World} (h:KpB n₀ Bs A B) (k:KpB n₀ Bs B C):KpB n₀ Bs A C:=⟨h.1.trans k.1,k.2.trans h.2⟩
theorem zt_z {w:World} (hn:n₀<=w.heap.size) (hBs:Bs < w.heap.size) (W:World) (l:Nat) (o o':Obj) (hl:w.heap.size<=l) (h:W.heap[l]?=some o) (h1:o.isCells=false) (h2:o.isWalk=false):KpB n₀ Bs W (W.putObj l o') :=
 ⟨belowK_b hn W l o o' hl h h1 h2,(grownBy_putObj' W l o').block Bs (by have:=za_a h;omega) (fun e=>by cases e;omega)⟩
set_option maxHeartbeats 2000000 in
theorem zp_i (F:Fence) (n:Nat) (h8:F.fn 241) (hro:F.round=none) (hn:1<=n) (l Bs n₀:Nat) (a:Option Addr) (len cap:Nat) (zs:List UInt8) (ha:∀ x,a=some x->0 < len->x.block < n₀) (J Jx:List (Int × UInt8)->World->Prop)
 (hY:∀ pre x W,J pre W->pre.length < len->YieldAt F (n - 1) Tryz.prog l #[x.1,.int .u8 (x.2.toNat:Int)] W fun e W' =>
  (e=.returned (.bool true)/\J (pre ++ [x]) W'/\KpB n₀ Bs W W')\/(e=.returned (.bool false)/\Jx (pre ++ [x]) W'))
 (W:World) (hBs:W.cell? Bs=some (.slice a len cap)) (hc:SlB W a len cap zs) (h0:J [] W) :
 CallsIn F n Tryz.prog 241 #[.func (.yield l) #[] #[],.pointer Bs] W fun e W'=>(∃ v,e=.returned v) ∧
  ((∃ ys,ys=upto (back zs len) len/\J ys W')\/(∃ pre,(∃ k,k<=len/\pre=upto (back zs len) k)/\Jx pre W')):=by
 have hle:=hc.le
 have hcell:∀ k,k < len->∀ W',KpB n₀ Bs W W'->∃ b o,a=some ((b:Nat) o)/\W'.cell? (b (o+(len - 1 - k)))=some (.int .u8 (((back zs len k).2).toNat:Int))/\W'.cell? Bs=some (.slice (b o) len cap):=by
  intro k hk W' hB
  obtain⟨b,o,e,_,_,h⟩:=hc.at (show len - 1 - k < len by omega)
  refine⟨b,o,e,(hB.1.cell (p:=(b (o+(len - 1 - k)))) (ha (b o) e (by omega))).trans h,?_⟩
  rw [<-e];exact (World.cell?_of_block (a:=Bs) hB.2).trans hBs
 have HC:=zH hcell
 clear hc hcell
 refine callsIn_of_wp Tryz.func241 rfl h8 ?_ hro
 simp only [Tryz.ntmps241,List.size_toArray,List.length_cons,List.length_nil,Nat.reduceAdd,Nat.reduceSub,Array.replicate_succ,Array.replicate_zero,List.push_toArray,List.append_toArray,List.nil_append,List.cons_append]
 gi_wp2
 gi_loopw [3] (fun i wr=>∃ k:Nat,k<=len/\i=.int .i64 ((len:Int) - 1 - k)/\J (upto (back zs len) k) wr/\KpB n₀ Bs W wr)
  (fun i _=>(intOf i+1).toNat)
 case atStart=>exact⟨0,Nat.zero_le _,by simp,h0,Below.refl _ _,rfl⟩
 case round =>
  obtain⟨k,hk,rfl,hJs,hnx⟩:=hrel
  by_cases hlt:k < len
  ·obtain⟨b,o,rfl,hcx,hbx⟩:=HC.out k hlt wr hnx
   obtain⟨fn,tmps,assign,body,hy,hR⟩:=hY _ (back zs len k) wr hJs (by rw [zk_i];exact hlt)
   have he1:(back zs len k).1=(len:Int) - 1 - k:=rfl
   rw [he1] at hy
   have hidx:((len:Int) - 1 - k).toNat=len - 1 - k:=by omega
   have hg0:0<=(len:Int) - 1 - k:=by omega
   have hg1:(len:Int) - 1 - k < len:=by omega
   clear he1
   gi_wp2
   refine hR.mono ?_
   rintro e W3 (⟨rfl,hJ3,hk3⟩|⟨rfl,hJx3⟩)
   ·gi_wp2
    go_roundw
    case rel=>exact⟨k+1,by omega,by go_num,by rw [zj_b];exact hJ3,zt_f hnx hk3⟩
    case measure=>simp [intOf];omega
   ·gi_wp2
    refine bodyPost_ret (results_none rfl _ _ _) rfl ?_
    exact⟨⟨_,rfl⟩,.inr ⟨_,⟨k+1,by omega,(zj_b _ _).symm⟩,hJx3⟩⟩
  ·obtain rfl:k=len:=by omega
   have hg0:¬ 0<=(k:Int) - 1 - k:=by omega
   gi_wp2
   go_end0
   exact⟨⟨_,rfl⟩,.inl hJs⟩
theorem zr_o (F:Fence) (n:Nat) (h6:F.fn 221) (hro:F.round=none) (a:Option Addr) (len cap:Nat) (w:World) :
 CallsIn F n Tryz.prog 221 #[.slice a len cap] w fun e w'=>e=.returned (.func (.func 241) #[] #[.pointer w.heap.size])/\w'=w.alloc (.cells #[.slice a len cap] 70):=by
 refine callsIn_of_wp Tryz.func221 rfl h6 ?_ hro
 simp only [Tryz.ntmps221,List.size_toArray,List.length_cons,List.length_nil,Nat.reduceAdd,Nat.reduceSub,Array.replicate_succ,Array.replicate_zero,List.push_toArray,List.append_toArray,List.nil_append,List.cons_append]
 gi_wp2
 go_ret
 exact⟨rfl,rfl⟩
theorem zl_n (F:Fence) (n:Nat) (h8:F.fn 241) (hro:F.round=none) (hn:1<=n) (Bs n₀:Nat) (a:Option Addr) (len cap:Nat) (zs:List UInt8) (ha:∀ x,a=some x->0 < len->x.block < n₀) (w:World) (hBs:Bs < w.heap.size)
 (hc:w.cell? Bs=some (.slice a len cap)) (hI:SlB w a len cap zs) :
 SeqStopsK F n Tryz.prog 241 #[.pointer Bs] (fun x:Int × UInt8=>#[x.1,Value.int .u8 (x.2.toNat:Int)]) (KpB n₀ Bs) (fun ys=>ys=upto (back zs len) len)
  (fun pre=>∃ k,k<=len/\pre=upto (back zs len) k) len w:=fun l J Jx W hW _ _ hY h0 =>
 zp_i F n h8 hro hn l Bs n₀ a len cap zs ha J Jx hY W ((hW.cell (p:=Bs) hBs).trans hc) (hI.ext hW) h0
def acc (p:List (Int × UInt8)):Nat:=p.foldl (fun v x=>(v * 256) % 4294967296 ||| x.2.toNat) 0
theorem zp_e (p:List (Int × UInt8)) (x:Int × UInt8):acc (p ++ [x])=(acc p * 256) % 4294967296 ||| x.2.toNat:=by simp [acc]
theorem zp_d (l:List UInt8) (h:l.length<=4):acc (upto (back l l.length) l.length)=Super.unle l:=by
 have hsnd:∀ p:List (Int × UInt8),acc p=(p.map (·.2)).foldl (fun v x=>(v * 256) % 4294967296 ||| x.toNat) 0:=fun p=>by simp [acc,List.foldl_map]
 have hrev:(upto (back l l.length) l.length).map (·.2)=l.reverse:=by
  apply List.ext_getElem
  ·simp [upto]
  ·intro i h1 h2
   simp at h2
   simp only [upto,List.map_map,List.getElem_map,List.getElem_range,Function.comp,back,List.getElem_reverse]
   rw [List.getElem?_eq_getElem (by omega)];rfl
 rw [hsnd,hrev]
 clear hsnd hrev
 induction l with
|nil=>rfl
|cons b l ih =>
  rw [List.reverse_cons,List.foldl_append,ih (by simp at h;omega),Super.unle]
  have hlt:=Super.unle_lt l
  have h3:Super.unle l < 16777216:=Nat.lt_of_lt_of_le hlt (Nat.le_trans (Nat.pow_le_pow_right (by decide) (show l.length<=3 by simp at h;omega)) (by decide))
  have hb:=b.toNat_lt
  simp only [List.foldl_cons,List.foldl_nil]
  rw [Nat.mod_eq_of_lt (by omega),show Super.unle l * 256=2 ^ 8 * Super.unle l by omega,Nat.or_comm,Nat.or_comm,<-Nat.two_pow_add_eq_or_of_lt hb];omega
theorem zr_z (v:Nat) (b:UInt8):bits BinOp.or IntKind.u32 (IntKind.u32.wrap ((v:Int) * 2 ^ 8)) (b.toNat:Int)=(((v * 256) % 4294967296 ||| b.toNat:Nat):Int):=by
 have h1:IntKind.u32.wrap ((v:Int) * 2 ^ 8)=((v * 256 % 4294967296:Nat):Int):=by
  simp [IntKind.wrap,IntKind.bits,IntKind.signed]
 rw [h1,u32_or_nat _ _ (Nat.mod_lt _ (by decide)) (Nat.lt_of_lt_of_le b.toNat_lt (by decide))]
set_option maxHeartbeats 2000000 in
theorem zl_u (F:Fence) (n:Nat) (h3:F.fn 195) (h5:F.fn 221) (h7:F.fn 241) (hro:F.round=none) (hn:3<=n) (a:Option Addr) (len cap:Nat) (zs:List UInt8) (w:World) (hI:SlB w a len cap zs) :
 CallsIn F n Tryz.prog 195 #[.slice a len cap] w fun e W'=>e=.returned (.int .u32 (acc (upto (back zs len) len):Nat))/\Below w.heap.size w W':=by
 have h1:1<=n:=by omega
 have hbl:∀ x,a=some x->0 < len->x.block < w.heap.size:=by
  intro x hx hl
  obtain⟨b,o,e,hb,-⟩:=hI.at hl
  rw [hx] at e;cases e;exact hb
 refine callsIn_of_wp_marks Tryz.func195 rfl h3 ?_ hro
 simp only [Tryz.ntmps195,List.size_toArray,List.length_cons,List.length_nil,Nat.reduceAdd,Nat.reduceSub,Array.replicate_succ,Array.replicate_zero,List.push_toArray,List.append_toArray,List.nil_append,List.cons_append]
 gi_wp2_with (gi_at_call 221;refine (zr_o F (n - 1) h5 hro _ _ _ _).mono ?_;rintro e w' ⟨rfl,rfl⟩)
 have bS:=Boxed.new w 91 (.int .u32 0)
 have bN:=Boxed.new (w.alloc (.cells #[.int .u32 0] 91)) 70 (.slice a len cap)
 rw [World.size_alloc] at bN
 have hB0:Below w.heap.size w ((w.alloc (.cells #[.int .u32 0] 91)).alloc (.cells #[.slice a len cap] 70)):=((Below.refl _ w).alloc (zN _) _).alloc (by simp) _
 refine wpIn_rangeFunc_ownG hro h1 (gf:=241) (lb:=#[.pointer (w.heap.size+1:Nat)]) rfl h7 (enters_of Tryz.func241 (by kernel_rfl) rfl)
  (zl_n F (n - 1) h7 hro (by omega) (w.heap.size+1) w.heap.size a len cap zs hbl _ (by simp) bN.cell (hI.ext hB0)) zt_f (zt_z (by simp;omega) (by simp)) (Below.refl _ _) (fun _=>rfl)
  (fun pre W=>(W.cell? w.heap.size=some (.int .u32 (acc pre:Nat))/\W.frozen? w.heap.size=false)/\Below w.heap.size w W)
  (fun _ _ _=>False)
  (OwnFrom.and (Own.from (fun s A B row hs hg hr=>⟨cell_kept hs.1 hg hr,(frozen_kept hs.1 hg hr).trans hs.2⟩) _) (ownFrom_below (zN _) (by simp;omega)))
  (fun _ _ _ _ _ hs _ _=>hs)
  ⟨⟨(bS.alloc _).cell,(bS.alloc _).frozen⟩,hB0⟩
  (fun x=>{ tmps:=#[.slice a len cap,undef,.int .u32 0,.pointer w.heap.size,undef,.int .u8 (x.2.toNat:Int),.slice a len cap,.func (.func 241) #[] #[.pointer (w.heap.size+1:Nat)],x.1,.int .u8 (x.2.toNat:Int),undef,undef,undef,undef,undef,undef],defers:=[] }) ?assign ?body ?done ?stop
 case assign =>
  intro l x W K hK
  gi_wp2
  exact hK
 case body =>
  rintro l pre x W ⟨⟨hc,hf⟩,hB⟩ _
  have hob:=zH (zr_z (acc pre) x.2)
  have has:=zH (zp_e pre x)
  have hx8:=x.2.toNat_lt
  gi_wp2
  exact⟨(KeepsOthers.setCell _ _ _).from _,⟨(Below.refl w.heap.size W).setCell (p:=w.heap.size) (zN _) _,heap_setCell_other _ _ _ _ (by simp)⟩,⟨by rw [has.out,<-hob.out];exact World.cell?_setCell_same' _ _ _ (by rw [hc];rfl),by rw [World.frozen?_setCell];exact hf⟩,hB.setCell (p:=w.heap.size) (zN _) _⟩
 case done =>
  rintro D ys W hD rfl ⟨⟨hc,_⟩,hB⟩ hK
  gi_wp2
  refine⟨by simp,.inl ⟨_,_,rfl,run_takeDeferred hK,?_⟩⟩
  exact⟨_,results_tmp rfl _ _ _,rfl,hB.trans (belowK_b (w:=w) (zN _) W D _ _ (by simp at hD;omega) hK rfl rfl)⟩
 case stop =>
  rintro D c pre W _ _ h _
  exact h.elim
theorem zc_b (a:Option Addr) (n c:Nat) (l:List UInt8) (w:World) (h:SlB w a n c l) (hn:n<=4) :
 Calls Tryz.prog 195 #[.slice a n c] w fun e w'=>e=.returned (.int .u32 (Super.unle l:Nat))/\Below w.heap.size w w':=by
 have:=callsIn_wide.1 (zl_u Fence.wide 3 trivial trivial trivial rfl (zN _) a n c l w h)
 obtain rfl:=h.len
 rw [zp_d l hn] at this
 exact this
end Go.Proofs.YtmanejniepghlaaGreatDoor
