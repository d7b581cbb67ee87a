import Derived.Test.YtmanejniepghlaaGreatDoorRun32
import Derived.Test.YtmanejniepghlaaGreatDoorRun0
import Derived.Test.YtmanejniepghlaaGreatDoorRun33
import Derived.OwnWalk
import Derived.RegionTactic
import Derived.Deep.RegionHeld3
import Derived.Deep.DeepMust
namespace Go.Proofs.YtmanejniepghlaaGreatDoor
open Go.RowKit
set_option maxRecDepth 100000
theorem ze_g {w:World} {ops:Array Oper} {rest:List Oper} {o:Oper} {a:Act} {Q:Exit->Act->World->Prop} (hg:o.guard=none) (l c:Operand) (hop:o.op=Op.makeSlice 70 l c)
 (base:Nat) (n:Nat) (C:Int) (hl:a.eval l=.int .i64 0) (hc:a.eval c=.int .i64 C) (hC:C=(n:Int)) (b2:n<=281474976710656) (b4:base<=w.heap.size)
 (hK:∀ v w',OwnB base w' v []->Below w.heap.size w w'->wpList Tryz.prog ops Q rest (a.put o.dst v) w'):wpList Tryz.prog ops Q (o :: rest) a w:=by
 obtain⟨i0,hi,hz0,hz1,hz2⟩:=info_parts info5
 refine wpList_make_own w hg l c 70 hop base 5 i0 _ 1 Tryz.underlying70 hi hz0 hz1 .i64 .i64 C n hl hc hC (by rw [hz2];omega) (by unfold maxLen;omega) b4 ?_
 intro w' hown hg'
 exact hK _ w' hown ((Below.refl _ _).grown hg' (zN _) (fun k hk=>by cases hk))
set_option maxHeartbeats 2000000 in
theorem ze_k (ep sq:Nat) (he:ep < 4294967296) (hs:sq < 4294967296) (a:Option Addr) (n c:Nat) (l:List UInt8) (w:World) (h:SlB w a n c l) (hn:n<=1024) :
 Calls Tryz.prog 125 #[.int .u32 ep,.int .u32 sq,.slice a n c] w fun e w'=>∃ v,e=.returned (.tuple #[v,.int .i64 0])/\OwnB w.heap.size w' v (Frame.enc ep sq l)/\Below w.heap.size w w':=by
 have hln:=h.len
 have hsz:Frame.size (n:Int)=((14+n:Nat):Int):=by unfold Frame.size;rw [if_neg (by omega)];omega
 have HSZ:=zH hsz;have HLN:=zH hln
 clear hsz hln
 go_enter Tryz.func125,Tryz.ntmps125
 go_wp2_with fail
 refine (zg_y _ (by omega) (by omega) _).mono ?_;rintro e w0 ⟨rfl,rfl⟩
 rw [HSZ.out]
 go_wp2_with (refine ze_g rfl _ _ rfl w.heap.size (14+n) _ rfl rfl rfl (by omega) (zN _) ?_;intro v1 w1 hO1 hb1)
 have h1:=h.ext hb1
 refine (zd_e w.heap.size v1 [] n 2 w1 hO1 hb1.size (by omega) (by simp) (by omega) _ rfl).mono ?_;rintro e w2 ⟨v2,rfl,hO2,hb2⟩
 have hw2:=hb1.trans hb2
 have h2:=h.ext hw2
 rw [List.nil_append] at hO2
 clear hO1 h1 hb1 hb2
 go_wp2_with fail
 refine (zd_e w.heap.size v2 _ ep 4 w2 hO2 hw2.size he (by rw [Super.le_length];omega) (by omega) _ rfl).mono ?_;rintro e w3 ⟨v3,rfl,hO3,hb3⟩
 have hw3:=hw2.trans hb3
 clear hO2 h2 hw2 hb3
 go_wp2_with fail
 refine (zd_e w.heap.size v3 _ sq 4 w3 hO3 hw3.size hs (by simp [Super.le_length]) (by omega) _ rfl).mono ?_;rintro e w4 ⟨v4,rfl,hO4,hb4⟩
 have hw4:=hw3.trans hb4
 have h4:=h.ext hw4
 clear hO3 hw3 hb4
 go_wp2_with (at_builtin;refine za_d rfl _ _ rfl w.heap.size v4 _ rfl hO4 a n c l rfl h4 (by simp [Super.le_length];omega) hw4.size ?_;intro v5 w5 hO5 hg5 _)
 have hw5:=hw4.grown hg5 hw4.size (fun k hk=>(hO4.lt k hk).1)
 clear hO4 h4 hw4 hg5
 have hH:Super.le 2 n ++ Super.le 4 ep ++ Super.le 4 sq ++ l=Frame.head ep sq l:=by unfold Frame.head;rw [HLN.out]
 rw [hH] at hO5
 clear hH
 obtain⟨a5,c5,rfl,hs5,-⟩:=id hO5.sl
 go_wp2_with fail
 refine (zc_g _ _ _ _ _ hs5).mono ?_;rintro e w9 ⟨rfl,rfl⟩
 go_wp2_with fail
 have hhl:=Frame.head_length ep sq l
 refine (zd_e w.heap.size _ _ (Crc.update 0 (Frame.head ep sq l)) 4 w5 hO5 hw5.size (Crc.update_lt _ _) (by rw [hhl,HLN.out];omega) (by omega) _ rfl).mono ?_;rintro e w6 ⟨v6,rfl,hO6,hb6⟩
 go_wp2_with fail
 go_ret2
 exact⟨v6,rfl,hO6,hw5.trans hb6⟩
theorem zf_u (ep sq:Nat) (a:Option Addr) (n c:Nat) (w:World) (hn:1024 < n) (hm:n<=9223372036854775807) :
 Calls Tryz.prog 125 #[.int .u32 ep,.int .u32 sq,.slice a n c] w fun e w'=>e=.returned (.tuple #[.slice none 0 0,.int .i64 3])/\w=w':=by
 have ht:(1024:Int) < (n:Int):=by omega
 go_enter Tryz.func125,Tryz.ntmps125
 go_wp2_with fail
 go_ret2
 exact⟨rfl,rfl⟩
end Go.Proofs.YtmanejniepghlaaGreatDoor
