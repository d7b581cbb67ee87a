import Derived.Test.YtmanejniepghlaaGreatDoorRun32
namespace Go.Proofs.YtmanejniepghlaaGreatDoor
section
open Go.RowKit
variable {t:List UInt8} {B m:Nat} {w:World} {k x z:Int} {h:ByteArray} {s:Bool} {q:Pin}
theorem set4 {x y z u:Value} {t:TypeId} (hb:w.heap[B]?=some (.cells #[x,y,z,u] t (0,0))) (a b c d:Value) :
 ((((w.setCell ⟨B,0,none⟩ a).setCell ⟨B,1,none⟩ b).setCell ⟨B,2,none⟩ c).setCell ⟨B,3,none⟩ d).heap[B]?=some (.cells #[a,b,c,d] t (0,0)) :=
 heap_setCell_same _ B 3 _ t d (heap_setCell_same _ B 2 _ t c (heap_setCell_same _ B 1 _ t b (heap_setCell_same w B 0 _ t a hb)))
theorem UBox.put (hb:UBox w B k h s x) (h':ByteArray) (s':Bool) (x':Int) :
 UBox (((w.setCell ⟨B,1,none⟩ (.string h')).setCell ⟨B,2,none⟩ (.bool s')).setCell ⟨B,3,none⟩ (.int .i64 x')) B k h' s' x' :=
 heap_setCell_same _ B 3 _ _ _ (heap_setCell_same _ B 2 _ _ _ (heap_setCell_same _ B 1 _ _ _ hb))
theorem UBox.put1 (hb:UBox w B k h s x) (h':ByteArray):UBox (w.setCell ⟨B,1,none⟩ (.string h')) B k h' s x :=
 heap_setCell_same _ B 1 _ _ _ hb
theorem UBox.other (hb:UBox w B k h s x) {g:Nat} (hne:g ≠ B) (i:Nat) (v:Value):UBox (w.setCell ⟨g,i,none⟩ v) B k h s x :=
 (heap_setCell_other _ _ _ _ (fun e=>hne e.symm)).trans hb
def UDecP (b:List UInt8) (w:World) (e:Ending) (w':World):Prop:=e=.returned (.tuple #[uv (Upt.dec b).1,.int .i64 (Upt.dec b).2])/\Ext w w'
theorem UDecP.of {b:List UInt8} {u:UpdV} (h:Upt.dec b=(u,z)) {e:Ending} {w':World} (he:e=.returned (.tuple #[uv u,.int .i64 z])) (hb:Ext w w'):UDecP b w e w':=by
 unfold UDecP;rw [h];exact⟨he,hb⟩
theorem UBox.frz (hb:UBox w B k h s x):∀ j,w.frozen? ⟨B,j,none⟩=false:=fun _=>frozen_of_row _ _ _ _ _ hb
theorem Upt.dec_nil:Upt.dec []=(Upt.none,5):=rfl
theorem Upt.dec_1a (h:Pin.dec t=(q,m,z)) (hz:z ≠ 0):Upt.dec (1 :: t)=(Upt.none,z):=by unfold Upt.dec;dsimp only;rw [if_pos rfl];unfold Upt.dec1;rw [h];exact if_pos hz
theorem Upt.dec_1b (h:Pin.dec t=(q,m,0)) (hm:m < t.length):Upt.dec (1 :: t)=(Upt.none,6):=by unfold Upt.dec;dsimp only;rw [if_pos rfl];unfold Upt.dec1;rw [h];exact (if_neg (by simp)).trans (if_pos hm)
theorem Upt.dec_1c (h:Pin.dec t=(q,m,0)) (hm:¬ m < t.length):Upt.dec (1 :: t)=(⟨1,q⟩,0):=by unfold Upt.dec;dsimp only;rw [if_pos rfl];unfold Upt.dec1;rw [h];exact (if_neg (by simp)).trans (if_neg hm)
theorem Upt.dec_2a {s:List UInt8} (h:Wire.decT t=(s,m,z)) (hz:z ≠ 0):Upt.dec (2 :: t)=(Upt.none,z):=by unfold Upt.dec;dsimp only;rw [if_neg (by decide),if_pos rfl];unfold Upt.dec2;rw [h];exact if_pos hz
theorem Upt.dec_2b {s:List UInt8} (h:Wire.decT t=(s,m,0)) (hm:m < t.length):Upt.dec (2 :: t)=(Upt.none,6):=by unfold Upt.dec;dsimp only;rw [if_neg (by decide),if_pos rfl];unfold Upt.dec2;rw [h];exact (if_neg (by simp)).trans (if_pos hm)
theorem Upt.dec_2c {s:List UInt8} (h:Wire.decT t=(s,m,0)) (hm:¬ m < t.length) (hn:Host.name s=false):Upt.dec (2 :: t)=(Upt.none,14):=by unfold Upt.dec;dsimp only;rw [if_neg (by decide),if_pos rfl];unfold Upt.dec2;rw [h];exact (if_neg (by simp)).trans ((if_neg hm).trans (if_pos hn))
theorem Upt.dec_2d {s:List UInt8} (h:Wire.decT t=(s,m,0)) (hm:¬ m < t.length) (hn:Host.name s=true):Upt.dec (2 :: t)=(⟨2,⟨s,false,0⟩⟩,0):=by unfold Upt.dec;dsimp only;rw [if_neg (by decide),if_pos rfl];unfold Upt.dec2;rw [h];exact (if_neg (by simp)).trans ((if_neg hm).trans (if_neg (by rw [hn];decide)))
theorem Upt.dec_o {x:UInt8} (h1:x ≠ 1) (h2:x ≠ 2):Upt.dec (x :: t)=(Upt.none,6):=by unfold Upt.dec;dsimp only;rw [if_neg h1,if_neg h2]
set_option maxRecDepth 100000 in
set_option maxHeartbeats 8000000 in
theorem zo_g (a:Option Addr) (n c:Nat) (b:List UInt8) (w:World) (h:SlB w a n c b) (hn:n<=1000000) :
 Calls Tryz.prog 115 #[.slice a n c] w (UDecP b w):=by
 have hln:=h.len
 cases b with
|nil =>
  obtain rfl:n=0:=hln.symm
  have HR:=zH Upt.dec_nil
  clear h hln
  go_enter Tryz.func115,Tryz.ntmps115
  go_wp2_with fail
  refine bodyPost_ret (v:=.tuple #[.agg #[.int .i64 0,.string ⟨#[]⟩,.bool false,.int .i64 0],.int .i64 5]) (by simp [results,Tryz.results115,go_sem]) rfl (UDecP.of HR.out rfl ?_)
  exact (Below.refl _ _).alloc (zN _) _
|cons x t =>
  simp only [List.length_cons] at hln
  obtain⟨bb,o,rfl,hbb,-,c0⟩:=h.at (show 0 < n by omega)
  simp only [List.getElem?_cons_zero,Option.getD_some,Nat.add_zero] at c0
  have n1:(0:Int) < (n:Int):=by omega
  have n2:(1:Int)<=(n:Int):=by omega
  have n3:((n:Int) == 0)=false:=beq_eq_false_iff_ne.2 (by omega)
  have hR0:=UBox.new w 0 ⟨#[]⟩ false 0
  have hB0:=(Below.refl w.heap.size w).alloc (zN _) (.cells #[.int .i64 0,.string ⟨#[]⟩,.bool false,.int .i64 0] 36)
  have hz0:(w.alloc (.cells #[.int .i64 0,.string ⟨#[]⟩,.bool false,.int .i64 0] 36)).heap.size=w.heap.size+1:=by simp
  have hx8:x.toNat < 256:=x.toNat_lt
  obtain⟨xn,hxn⟩:∃ xn:Nat,x.toNat=xn:=⟨_,rfl⟩
  have hU0:=UBox.new (w.alloc (.cells #[.int .i64 0,.string ⟨#[]⟩,.bool false,.int .i64 0] 36)) (xn:Int) ⟨#[]⟩ false 0
  have hB1:=hB0.alloc hB0.size (.cells #[.int .i64 (xn:Int),.string ⟨#[]⟩,.bool false,.int .i64 0] 36)
  have hE1:Ext (w.alloc (.cells #[.int .i64 0,.string ⟨#[]⟩,.bool false,.int .i64 0] 36)) _:=(Ext.refl _).alloc (.cells #[.int .i64 (xn:Int),.string ⟨#[]⟩,.bool false,.int .i64 0] 36)
  have hR1:=hR0.ext hE1
  have hs1:=h.ext hB1
  rw [hz0] at hU0
  rw [hxn] at c0 hx8
  by_cases hx1:x=1
  ·subst hx1
   obtain rfl:1=xn:=hxn
   simp only [show ((1:Nat):Int)=1 from rfl] at c0 hU0 hB1 hE1 hR1 hs1
   obtain⟨W1,hW1⟩:∃ W1,(w.alloc (.cells #[.int .i64 0,.string ⟨#[]⟩,.bool false,.int .i64 0] 36)).alloc (.cells #[.int .i64 1,.string ⟨#[]⟩,.bool false,.int .i64 0] 36)=W1:=⟨_,rfl⟩
   rw [hW1] at hU0 hB1 hR1 hs1
   have HW1:=zH hW1
   have HU0:=zH hU0
   have HR1:=zH hR1
   have HB1:=zH hB1
   obtain⟨q,m,z,hq⟩:∃ q m z,Pin.dec t=(q,m,z):=⟨_,_,_,rfl⟩
   have HD:=zH (fun a2 c2 (hs:SlB W1 a2 (n - 1) c2 t)=>zi_f a2 (n - 1) c2 t W1 hs (by omega))
   unfold PDecP at HD
   rw [hq] at HD
   have HQ:=zH hq
   obtain⟨qh,qs,qx⟩:=q
   unfold pv at HD
   simp only at HD
   obtain⟨sq,hsq⟩:∃ sq,str qh=sq:=⟨_,rfl⟩
   rw [hsq] at HD
   have HSQ:=zH hsq
   have HLN:=zH hln
   clear hW1 hU0 hR1 hB1 hE1 hR0 hB0 hz0 h hln hq hsq hx8
   by_cases hz:z ≠ 0
   ·have HR:=zH (Upt.dec_1a HQ.out hz)
    have t1:(z != 0)=true:=by simpa using hz
    have t2:(z == 0)=false:=by simpa using hz
    clear hz
    go_enter Tryz.func115,Tryz.ntmps115
    go_wp2_with (refine za_j rfl _ _ rfl rfl 1 _ rfl rfl (by rw [HW1.out];exact hs1) (by omega) ?_;intro a2 hsa2)
    rw [HW1.out] at hsa2 ⊢
    refine (HD.out _ _ hsa2).mono ?_;rintro e w2 ⟨rfl,hB2⟩
    have hU2:=HU0.out.ext hB2
    have hR2:=HR1.out.ext hB2
    obtain⟨u0,u1,u2,u3⟩:=hU2.cells
    obtain⟨r0,r1,r2,r3⟩:=hR2.cells
    have fu:=hU2.frz
    have fr:=hR2.frz
    have lu:=za_a hU2
    have lr:=za_a hR2
    have hU3:=hU2.put sq qs qx
    have hR3:=((hR2.other (g:=w.heap.size+1) (by omega) 1 (.string sq)).other (g:=w.heap.size+1) (by omega) 2 (.bool qs)).other (g:=w.heap.size+1) (by omega) 3 (.int .i64 qx)
    have hb3:=(((HB1.out.trans (hB2.mono HB1.out.size)).setCell (p:=⟨w.heap.size+1,1,none⟩) (Nat.le_succ _) (.string sq)).setCell (p:=⟨w.heap.size+1,2,none⟩) (Nat.le_succ _) (.bool qs)).setCell (p:=⟨w.heap.size+1,3,none⟩) (Nat.le_succ _) (.int .i64 qx)
    have HU3:=zH hU3
    have HR3:=zH hR3
    have HB3:=zH hb3
    clear hU2 hR2 hU3 hR3 hb3
    go_wp2_with fail
    have hfin:=set4 HR3.out (.int .i64 0) (.string ⟨#[]⟩) (.bool false) (.int .i64 0)
    have d0:=(cell_of_row _ _ 0 _ _ _ hfin).trans rfl
    have d1:=(cell_of_row _ _ 1 _ _ _ hfin).trans rfl
    have d2:=(cell_of_row _ _ 2 _ _ _ hfin).trans rfl
    have d3:=(cell_of_row _ _ 3 _ _ _ hfin).trans rfl
    refine bodyPost_ret (v:=.tuple #[.agg #[.int .i64 0,.string ⟨#[]⟩,.bool false,.int .i64 0],.int .i64 z]) (by simp [results,Tryz.results115,go_sem,d0,d1,d2,d3]) rfl (UDecP.of HR.out rfl ?_)
    exact (((HB3.out.setCell (p:=⟨w.heap.size,0,none⟩) (zN _) _).setCell (p:=⟨w.heap.size,1,none⟩) (zN _) _).setCell (p:=⟨w.heap.size,2,none⟩) (zN _) _).setCell (p:=⟨w.heap.size,3,none⟩) (zN _) _
   obtain rfl:z=0:=by simpa using hz
   by_cases hm:m < t.length
   ·have HR:=zH (Upt.dec_1b HQ.out hm)
    have t1:(m:Int) < (n:Int) - 1:=by have:=HLN.out;omega
    clear hm hz
    go_enter Tryz.func115,Tryz.ntmps115
    go_wp2_with (refine za_j rfl _ _ rfl rfl 1 _ rfl rfl (by rw [HW1.out];exact hs1) (by omega) ?_;intro a2 hsa2)
    rw [HW1.out] at hsa2 ⊢
    refine (HD.out _ _ hsa2).mono ?_;rintro e w2 ⟨rfl,hB2⟩
    have hU2:=HU0.out.ext hB2
    have hR2:=HR1.out.ext hB2
    obtain⟨u0,u1,u2,u3⟩:=hU2.cells
    obtain⟨r0,r1,r2,r3⟩:=hR2.cells
    have fu:=hU2.frz
    have fr:=hR2.frz
    have lu:=za_a hU2
    have lr:=za_a hR2
    have hU3:=hU2.put sq qs qx
    have hR3:=((hR2.other (g:=w.heap.size+1) (by omega) 1 (.string sq)).other (g:=w.heap.size+1) (by omega) 2 (.bool qs)).other (g:=w.heap.size+1) (by omega) 3 (.int .i64 qx)
    have hb3:=(((HB1.out.trans (hB2.mono HB1.out.size)).setCell (p:=⟨w.heap.size+1,1,none⟩) (Nat.le_succ _) (.string sq)).setCell (p:=⟨w.heap.size+1,2,none⟩) (Nat.le_succ _) (.bool qs)).setCell (p:=⟨w.heap.size+1,3,none⟩) (Nat.le_succ _) (.int .i64 qx)
    have HU3:=zH hU3
    have HR3:=zH hR3
    have HB3:=zH hb3
    clear hU2 hR2 hU3 hR3 hb3
    go_wp2_with fail
    have hfin:=set4 HR3.out (.int .i64 0) (.string ⟨#[]⟩) (.bool false) (.int .i64 0)
    have d0:=(cell_of_row _ _ 0 _ _ _ hfin).trans rfl
    have d1:=(cell_of_row _ _ 1 _ _ _ hfin).trans rfl
    have d2:=(cell_of_row _ _ 2 _ _ _ hfin).trans rfl
    have d3:=(cell_of_row _ _ 3 _ _ _ hfin).trans rfl
    refine bodyPost_ret (v:=.tuple #[.agg #[.int .i64 0,.string ⟨#[]⟩,.bool false,.int .i64 0],.int .i64 6]) (by simp [results,Tryz.results115,go_sem,d0,d1,d2,d3]) rfl (UDecP.of HR.out rfl ?_)
    exact (((HB3.out.setCell (p:=⟨w.heap.size,0,none⟩) (zN _) _).setCell (p:=⟨w.heap.size,1,none⟩) (zN _) _).setCell (p:=⟨w.heap.size,2,none⟩) (zN _) _).setCell (p:=⟨w.heap.size,3,none⟩) (zN _) _
   ·have HR:=zH (Upt.dec_1c HQ.out hm)
    have t1:¬ (m:Int) < (n:Int) - 1:=by have:=HLN.out;omega
    have hvq:Pin.valid ⟨qh,qs,qx⟩=true:=(Pin.enc_dec HQ.out).1
    have hql:qh.length<=1000000:=by have:=Pin.name_len ((Pin.valid_iff _).1 hvq).1;simp only at this;omega
    have HV:=zH (fun W=>ze_t ⟨1,⟨qh,qs,qx⟩⟩ hql W)
    have hvu:Upt.valid ⟨1,⟨qh,qs,qx⟩⟩=true:=by unfold Upt.valid;rw [if_pos rfl];exact hvq
    rw [hvu] at HV
    unfold uv uc at HV
    simp only at HV
    rw [HSQ.out] at HV
    clear hm hz hvq hql hvu
    go_enter Tryz.func115,Tryz.ntmps115
    go_wp2_with (refine za_j rfl _ _ rfl rfl 1 _ rfl rfl (by rw [HW1.out];exact hs1) (by omega) ?_;intro a2 hsa2)
    rw [HW1.out] at hsa2 ⊢
    refine (HD.out _ _ hsa2).mono ?_;rintro e w2 ⟨rfl,hB2⟩
    have hU2:=HU0.out.ext hB2
    have hR2:=HR1.out.ext hB2
    obtain⟨u0,u1,u2,u3⟩:=hU2.cells
    obtain⟨r0,r1,r2,r3⟩:=hR2.cells
    have fu:=hU2.frz
    have fr:=hR2.frz
    have lu:=za_a hU2
    have lr:=za_a hR2
    have hU3:=hU2.put sq qs qx
    have hR3:=((hR2.other (g:=w.heap.size+1) (by omega) 1 (.string sq)).other (g:=w.heap.size+1) (by omega) 2 (.bool qs)).other (g:=w.heap.size+1) (by omega) 3 (.int .i64 qx)
    have hb3:=(((HB1.out.trans (hB2.mono HB1.out.size)).setCell (p:=⟨w.heap.size+1,1,none⟩) (Nat.le_succ _) (.string sq)).setCell (p:=⟨w.heap.size+1,2,none⟩) (Nat.le_succ _) (.bool qs)).setCell (p:=⟨w.heap.size+1,3,none⟩) (Nat.le_succ _) (.int .i64 qx)
    have HU3:=zH hU3
    have HR3:=zH hR3
    have HB3:=zH hb3
    clear hU2 hR2 hU3 hR3 hb3
    obtain⟨W3,hW3⟩:∃ W3,((w2.setCell ⟨w.heap.size+1,1,none⟩ (.string sq)).setCell ⟨w.heap.size+1,2,none⟩ (.bool qs)).setCell ⟨w.heap.size+1,3,none⟩ (.int .i64 qx)=W3:=⟨_,rfl⟩
    have hu3:=HU3.out
    have hr3:=HR3.out
    have hb3:=HB3.out
    rw [hW3] at hu3 hr3 hb3
    have HW3:=zH hW3
    have HU4:=zH hu3
    have HR4:=zH hr3
    have HB4:=zH hb3
    clear hu3 hr3 hb3 hW3
    go_wp2_with fail
    rw [HW3.out]
    refine (HV.out _).mono ?_;rintro e w4 ⟨rfl,hB4⟩
    have hU5:=HU4.out.ext hB4
    have hR5:=HR4.out.ext hB4
    clear u0 u1 u2 u3 r0 r1 r2 r3 fu fr lu lr
    obtain⟨u0,u1,u2,u3⟩:=hU5.cells
    obtain⟨r0,r1,r2,r3⟩:=hR5.cells
    have fu:=hU5.frz
    have fr:=hR5.frz
    have lu:=za_a hU5
    have lr:=za_a hR5
    have HR5:=zH hR5
    have HB5:=zH (HB4.out.trans (Below.mono hB4 HB4.out.size))
    clear hU5 hR5
    go_wp2_with fail
    have hfin:=set4 HR5.out (.int .i64 1) (.string sq) (.bool qs) (.int .i64 qx)
    have d0:=(cell_of_row _ _ 0 _ _ _ hfin).trans rfl
    have d1:=(cell_of_row _ _ 1 _ _ _ hfin).trans rfl
    have d2:=(cell_of_row _ _ 2 _ _ _ hfin).trans rfl
    have d3:=(cell_of_row _ _ 3 _ _ _ hfin).trans rfl
    refine bodyPost_ret (v:=.tuple #[.agg #[.int .i64 1,.string sq,.bool qs,.int .i64 qx],.int .i64 0]) (by simp [results,Tryz.results115,go_sem,d0,d1,d2,d3]) rfl (UDecP.of HR.out (by unfold uv uc;simp only;rw [HSQ.out]) ?_)
    exact (((HB5.out.setCell (p:=⟨w.heap.size,0,none⟩) (zN _) _).setCell (p:=⟨w.heap.size,1,none⟩) (zN _) _).setCell (p:=⟨w.heap.size,2,none⟩) (zN _) _).setCell (p:=⟨w.heap.size,3,none⟩) (zN _) _
  by_cases hx2:x=2
  ·subst hx2
   obtain rfl:2=xn:=hxn
   simp only [show ((2:Nat):Int)=2 from rfl] at c0 hU0 hB1 hE1 hR1 hs1
   obtain⟨W1,hW1⟩:∃ W1,(w.alloc (.cells #[.int .i64 0,.string ⟨#[]⟩,.bool false,.int .i64 0] 36)).alloc (.cells #[.int .i64 2,.string ⟨#[]⟩,.bool false,.int .i64 0] 36)=W1:=⟨_,rfl⟩
   rw [hW1] at hU0 hB1 hR1 hs1
   have HW1:=zH hW1
   have HU0:=zH hU0
   have HR1:=zH hR1
   have HB1:=zH hB1
   obtain⟨q,m,z,hq⟩:∃ q m z,Wire.decT t=(q,m,z):=⟨_,_,_,rfl⟩
   have HD:=zH (fun a2 c2 (hs:SlB W1 a2 (n - 1) c2 t)=>zo_j a2 (n - 1) c2 t W1 hs (by omega))
   rw [hq] at HD
   have HQ:=zH hq
   simp only at HD
   obtain⟨sq,hsq⟩:∃ sq,str q=sq:=⟨_,rfl⟩
   rw [hsq] at HD
   have HSQ:=zH hsq
   have HLN:=zH hln
   clear hW1 hU0 hR1 hB1 hE1 hR0 hB0 hz0 h hln hq hsq hx8 hx1
   by_cases hz:z ≠ 0
   ·have HR:=zH (Upt.dec_2a HQ.out hz)
    have t1:(z != 0)=true:=by simpa using hz
    have t2:(z == 0)=false:=by simpa using hz
    clear hz
    go_enter Tryz.func115,Tryz.ntmps115
    go_wp2_with (refine za_j rfl _ _ rfl rfl 1 _ rfl rfl (by rw [HW1.out];exact hs1) (by omega) ?_;intro a2 hsa2)
    rw [HW1.out] at hsa2 ⊢
    refine (HD.out _ _ hsa2).mono ?_;rintro e w2 ⟨rfl,rfl⟩
    obtain⟨u0,u1,u2,u3⟩:=HU0.out.cells
    obtain⟨r0,r1,r2,r3⟩:=HR1.out.cells
    have fu:=HU0.out.frz
    have fr:=HR1.out.frz
    have lu:=za_a HU0.out
    have lr:=za_a HR1.out
    have HU3:=zH (HU0.out.put1 sq)
    have HR3:=zH (HR1.out.other (g:=w.heap.size+1) (by omega) 1 (.string sq))
    have HB3:=zH (HB1.out.setCell (p:=⟨w.heap.size+1,1,none⟩) (Nat.le_succ _) (.string sq))
    go_wp2_with fail
    have hfin:=set4 HR3.out (.int .i64 0) (.string ⟨#[]⟩) (.bool false) (.int .i64 0)
    have d0:=(cell_of_row _ _ 0 _ _ _ hfin).trans rfl
    have d1:=(cell_of_row _ _ 1 _ _ _ hfin).trans rfl
    have d2:=(cell_of_row _ _ 2 _ _ _ hfin).trans rfl
    have d3:=(cell_of_row _ _ 3 _ _ _ hfin).trans rfl
    refine bodyPost_ret (v:=.tuple #[.agg #[.int .i64 0,.string ⟨#[]⟩,.bool false,.int .i64 0],.int .i64 z]) (by simp [results,Tryz.results115,go_sem,d0,d1,d2,d3]) rfl (UDecP.of HR.out rfl ?_)
    exact (((HB3.out.setCell (p:=⟨w.heap.size,0,none⟩) (zN _) _).setCell (p:=⟨w.heap.size,1,none⟩) (zN _) _).setCell (p:=⟨w.heap.size,2,none⟩) (zN _) _).setCell (p:=⟨w.heap.size,3,none⟩) (zN _) _
   obtain rfl:z=0:=by simpa using hz
   by_cases hm:m < t.length
   ·have HR:=zH (Upt.dec_2b HQ.out hm)
    have t1:(m:Int) < (n:Int) - 1:=by have:=HLN.out;omega
    clear hm hz
    go_enter Tryz.func115,Tryz.ntmps115
    go_wp2_with (refine za_j rfl _ _ rfl rfl 1 _ rfl rfl (by rw [HW1.out];exact hs1) (by omega) ?_;intro a2 hsa2)
    rw [HW1.out] at hsa2 ⊢
    refine (HD.out _ _ hsa2).mono ?_;rintro e w2 ⟨rfl,rfl⟩
    obtain⟨u0,u1,u2,u3⟩:=HU0.out.cells
    obtain⟨r0,r1,r2,r3⟩:=HR1.out.cells
    have fu:=HU0.out.frz
    have fr:=HR1.out.frz
    have lu:=za_a HU0.out
    have lr:=za_a HR1.out
    have HU3:=zH (HU0.out.put1 sq)
    have HR3:=zH (HR1.out.other (g:=w.heap.size+1) (by omega) 1 (.string sq))
    have HB3:=zH (HB1.out.setCell (p:=⟨w.heap.size+1,1,none⟩) (Nat.le_succ _) (.string sq))
    go_wp2_with fail
    have hfin:=set4 HR3.out (.int .i64 0) (.string ⟨#[]⟩) (.bool false) (.int .i64 0)
    have d0:=(cell_of_row _ _ 0 _ _ _ hfin).trans rfl
    have d1:=(cell_of_row _ _ 1 _ _ _ hfin).trans rfl
    have d2:=(cell_of_row _ _ 2 _ _ _ hfin).trans rfl
    have d3:=(cell_of_row _ _ 3 _ _ _ hfin).trans rfl
    refine bodyPost_ret (v:=.tuple #[.agg #[.int .i64 0,.string ⟨#[]⟩,.bool false,.int .i64 0],.int .i64 6]) (by simp [results,Tryz.results115,go_sem,d0,d1,d2,d3]) rfl (UDecP.of HR.out rfl ?_)
    exact (((HB3.out.setCell (p:=⟨w.heap.size,0,none⟩) (zN _) _).setCell (p:=⟨w.heap.size,1,none⟩) (zN _) _).setCell (p:=⟨w.heap.size,2,none⟩) (zN _) _).setCell (p:=⟨w.heap.size,3,none⟩) (zN _) _
   have hql:q.length<=1000000:=by have:=(Wire.txt_decT HQ.out).2.2.1;omega
   have HV:=zH (fun W=>ze_t ⟨2,⟨q,false,0⟩⟩ hql W)
   have hvu:Upt.valid ⟨2,⟨q,false,0⟩⟩=Host.name q:=by unfold Upt.valid;simp
   rw [hvu] at HV
   unfold uv uc at HV
   simp only at HV
   rw [HSQ.out] at HV
   have t1:¬ (m:Int) < (n:Int) - 1:=by have:=HLN.out;omega
   cases hnm:Host.name q with
  |false =>
    have HR:=zH (Upt.dec_2c HQ.out hm hnm)
    rw [hnm] at HV
    clear hm hz hql hvu hnm
    go_enter Tryz.func115,Tryz.ntmps115
    go_wp2_with (refine za_j rfl _ _ rfl rfl 1 _ rfl rfl (by rw [HW1.out];exact hs1) (by omega) ?_;intro a2 hsa2)
    rw [HW1.out] at hsa2 ⊢
    refine (HD.out _ _ hsa2).mono ?_;rintro e w2 ⟨rfl,rfl⟩
    obtain⟨u0,u1,u2,u3⟩:=HU0.out.cells
    obtain⟨r0,r1,r2,r3⟩:=HR1.out.cells
    have fu:=HU0.out.frz
    have fr:=HR1.out.frz
    have lu:=za_a HU0.out
    have lr:=za_a HR1.out
    have HU3:=zH (HU0.out.put1 sq)
    have HR3:=zH (HR1.out.other (g:=w.heap.size+1) (by omega) 1 (.string sq))
    have HB3:=zH (HB1.out.setCell (p:=⟨w.heap.size+1,1,none⟩) (Nat.le_succ _) (.string sq))
    obtain⟨W3,hW3⟩:∃ W3,W1.setCell ⟨w.heap.size+1,1,none⟩ (.string sq)=W3:=⟨_,rfl⟩
    have hu3:=HU3.out
    have hr3:=HR3.out
    have hb3:=HB3.out
    rw [hW3] at hu3 hr3 hb3
    have HW3:=zH hW3
    have HU4:=zH hu3
    have HR4:=zH hr3
    have HB4:=zH hb3
    clear hu3 hr3 hb3 hW3
    go_wp2_with fail
    rw [HW3.out]
    refine (HV.out _).mono ?_;rintro e w4 ⟨rfl,hB4⟩
    have hU5:=HU4.out.ext hB4
    have hR5:=HR4.out.ext hB4
    clear u0 u1 u2 u3 r0 r1 r2 r3 fu fr lu lr
    obtain⟨u0,u1,u2,u3⟩:=hU5.cells
    obtain⟨r0,r1,r2,r3⟩:=hR5.cells
    have fu:=hU5.frz
    have fr:=hR5.frz
    have lu:=za_a hU5
    have lr:=za_a hR5
    have HR5:=zH hR5
    have HB5:=zH (HB4.out.trans (Below.mono hB4 HB4.out.size))
    clear hU5 hR5
    go_wp2_with fail
    have hfin:=set4 HR5.out (.int .i64 0) (.string ⟨#[]⟩) (.bool false) (.int .i64 0)
    have d0:=(cell_of_row _ _ 0 _ _ _ hfin).trans rfl
    have d1:=(cell_of_row _ _ 1 _ _ _ hfin).trans rfl
    have d2:=(cell_of_row _ _ 2 _ _ _ hfin).trans rfl
    have d3:=(cell_of_row _ _ 3 _ _ _ hfin).trans rfl
    refine bodyPost_ret (v:=.tuple #[.agg #[.int .i64 0,.string ⟨#[]⟩,.bool false,.int .i64 0],.int .i64 14]) (by simp [results,Tryz.results115,go_sem,d0,d1,d2,d3]) rfl (UDecP.of HR.out rfl ?_)
    exact (((HB5.out.setCell (p:=⟨w.heap.size,0,none⟩) (zN _) _).setCell (p:=⟨w.heap.size,1,none⟩) (zN _) _).setCell (p:=⟨w.heap.size,2,none⟩) (zN _) _).setCell (p:=⟨w.heap.size,3,none⟩) (zN _) _
  |true =>
    have HR:=zH (Upt.dec_2d HQ.out hm hnm)
    rw [hnm] at HV
    clear hm hz hql hvu hnm
    go_enter Tryz.func115,Tryz.ntmps115
    go_wp2_with (refine za_j rfl _ _ rfl rfl 1 _ rfl rfl (by rw [HW1.out];exact hs1) (by omega) ?_;intro a2 hsa2)
    rw [HW1.out] at hsa2 ⊢
    refine (HD.out _ _ hsa2).mono ?_;rintro e w2 ⟨rfl,rfl⟩
    obtain⟨u0,u1,u2,u3⟩:=HU0.out.cells
    obtain⟨r0,r1,r2,r3⟩:=HR1.out.cells
    have fu:=HU0.out.frz
    have fr:=HR1.out.frz
    have lu:=za_a HU0.out
    have lr:=za_a HR1.out
    have HU3:=zH (HU0.out.put1 sq)
    have HR3:=zH (HR1.out.other (g:=w.heap.size+1) (by omega) 1 (.string sq))
    have HB3:=zH (HB1.out.setCell (p:=⟨w.heap.size+1,1,none⟩) (Nat.le_succ _) (.string sq))
    obtain⟨W3,hW3⟩:∃ W3,W1.setCell ⟨w.heap.size+1,1,none⟩ (.string sq)=W3:=⟨_,rfl⟩
    have hu3:=HU3.out
    have hr3:=HR3.out
    have hb3:=HB3.out
    rw [hW3] at hu3 hr3 hb3
    have HW3:=zH hW3
    have HU4:=zH hu3
    have HR4:=zH hr3
    have HB4:=zH hb3
    clear hu3 hr3 hb3 hW3
    go_wp2_with fail
    rw [HW3.out]
    refine (HV.out _).mono ?_;rintro e w4 ⟨rfl,hB4⟩
    have hU5:=HU4.out.ext hB4
    have hR5:=HR4.out.ext hB4
    clear u0 u1 u2 u3 r0 r1 r2 r3 fu fr lu lr
    obtain⟨u0,u1,u2,u3⟩:=hU5.cells
    obtain⟨r0,r1,r2,r3⟩:=hR5.cells
    have fu:=hU5.frz
    have fr:=hR5.frz
    have lu:=za_a hU5
    have lr:=za_a hR5
    have HR5:=zH hR5
    have HB5:=zH (HB4.out.trans (Below.mono hB4 HB4.out.size))
    clear hU5 hR5
    go_wp2_with fail
    have hfin:=set4 HR5.out (.int .i64 2) (.string sq) (.bool false) (.int .i64 0)
    have d0:=(cell_of_row _ _ 0 _ _ _ hfin).trans rfl
    have d1:=(cell_of_row _ _ 1 _ _ _ hfin).trans rfl
    have d2:=(cell_of_row _ _ 2 _ _ _ hfin).trans rfl
    have d3:=(cell_of_row _ _ 3 _ _ _ hfin).trans rfl
    refine bodyPost_ret (v:=.tuple #[.agg #[.int .i64 2,.string sq,.bool false,.int .i64 0],.int .i64 0]) (by simp [results,Tryz.results115,go_sem,d0,d1,d2,d3]) rfl (UDecP.of HR.out (by unfold uv uc;simp only;rw [HSQ.out]) ?_)
    exact (((HB5.out.setCell (p:=⟨w.heap.size,0,none⟩) (zN _) _).setCell (p:=⟨w.heap.size,1,none⟩) (zN _) _).setCell (p:=⟨w.heap.size,2,none⟩) (zN _) _).setCell (p:=⟨w.heap.size,3,none⟩) (zN _) _
  have hx1':xn ≠ 1:=fun e=>hx1 (UInt8.toNat_inj.1 (hxn.trans e))
  have hx2':xn ≠ 2:=fun e=>hx2 (UInt8.toNat_inj.1 (hxn.trans e))
  obtain⟨W1,hW1⟩:∃ W1,(w.alloc (.cells #[.int .i64 0,.string ⟨#[]⟩,.bool false,.int .i64 0] 36)).alloc (.cells #[.int .i64 (xn:Int),.string ⟨#[]⟩,.bool false,.int .i64 0] 36)=W1:=⟨_,rfl⟩
  rw [hW1] at hU0 hB1 hR1 hs1
  have HW1:=zH hW1
  have HU0:=zH hU0
  have HR1:=zH hR1
  have HB1:=zH hB1
  have HR:=zH (Upt.dec_o (t:=t) hx1 hx2)
  have t1:((xn:Int) == 1)=false:=beq_eq_false_iff_ne.2 (by omega)
  have t2:((xn:Int) == 2)=false:=beq_eq_false_iff_ne.2 (by omega)
  have wx:IntKind.i64.wrap (xn:Int)=(xn:Int):=by rw [IntKind.wrap_i64];omega
  clear hW1 hU0 hR1 hB1 hE1 hR0 hB0 hz0 h hln hx1 hx2 hx1' hx2' hxn hs1
  obtain⟨r0,r1,r2,r3⟩:=HR1.out.cells
  have fr:=HR1.out.frz
  have lr:=za_a HR1.out
  go_enter Tryz.func115,Tryz.ntmps115
  go_wp2_with fail
  refine bodyPost_ret (v:=.tuple #[.agg #[.int .i64 0,.string ⟨#[]⟩,.bool false,.int .i64 0],.int .i64 6]) (by simp [results,Tryz.results115,go_sem]) rfl (UDecP.of HR.out rfl ?_)
  rw [HW1.out]
  exact HB1.out
end
section
open Go.RowKit
def UEncP (u:UpdV) (w:World) (e:Ending) (w':World):Prop:=∃ v,e=.returned (.tuple #[v,.int .i64 (if Upt.valid u then 0 else 1)])/\OwnB w.heap.size w' v (if Upt.valid u then Upt.enc u else [])/\Below w.heap.size w w'
set_option maxRecDepth 100000 in
set_option maxHeartbeats 4000000 in
theorem zm_z (u:UpdV) (hu:u.p.h.length<=900) (w:World) :
 Calls Tryz.prog 61 #[uv u] w (UEncP u w):=by
 have HV:=zH (fun W=>ze_t u (by omega) W)
 have HE:=zH (fun W=>zh_u u.p hu W)
 have HT:=zH (fun a n c l W h hn=>zd_u a n c l u.p.h (by omega) W h hn)
 have hb0:=(Below.refl w.heap.size w).alloc (zN _) (.cells (uc u) 36)
 have hbx:=UBox.new w u.k (str u.p.h) u.p.s u.p.x
 have hvc:Upt.valid u=true->(u.k=1/\Pin.valid u.p=true)\/u.k=2:=fun h=>by
  rcases Upt.valid_cases h with⟨h1,h2⟩|⟨h1,-,-⟩
  ·exact .inl ⟨h1,h2⟩
  ·exact .inr h1
 have he:Upt.enc u=if u.k=2 then 2 :: Wire.txt u.p.h else 1 :: Pin.enc u.p:=rfl
 have hel:Pin.valid u.p=true->(Pin.enc u.p).length<=1000000:=fun h=>by have:=Pin.enc_len h;omega
 unfold UEncP
 unfold PEncP at HE
 obtain⟨r,hrr⟩:∃ r,Upt.valid u=r:=⟨_,rfl⟩
 obtain⟨E,hE⟩:∃ E,Upt.enc u=E:=⟨_,rfl⟩
 obtain⟨pe,hpe⟩:∃ E,Pin.enc u.p=E:=⟨_,rfl⟩
 obtain⟨te,hte⟩:∃ E,Wire.txt u.p.h=E:=⟨_,rfl⟩
 rw [hrr] at hvc HV ⊢
 rw [hE] at he ⊢
 rw [hpe] at he hel HE
 rw [hte] at he HT
 unfold uv at HV ⊢
 unfold uc at hb0 HV ⊢
 unfold pv at HE
 obtain⟨vb,hvb⟩:∃ b,Pin.valid u.p=b:=⟨_,rfl⟩
 rw [hvb] at HE hvc hel
 obtain⟨sh,hsh⟩:∃ s,str u.p.h=s:=⟨_,rfl⟩
 rw [hsh] at HV HE HT hb0 hbx ⊢
 obtain⟨ps,hps⟩:∃ s,u.p.s=s:=⟨_,rfl⟩
 obtain⟨px,hpx⟩:∃ s,u.p.x=s:=⟨_,rfl⟩
 obtain⟨k,hk⟩:∃ k,u.k=k:=⟨_,rfl⟩
 rw [hps] at HV HE hb0 hbx ⊢
 rw [hpx] at HV HE hb0 hbx ⊢
 rw [hk] at hvc he HV hb0 hbx ⊢
 have hz:(w.alloc (.cells #[.int .i64 k,.string sh,.bool ps,.int .i64 px] 36)).heap.size=w.heap.size+1:=by simp
 have HB0:=zH hb0
 have HBX:=zH hbx
 have HZ:=zH hz
 have HEL:=zH hel
 have HEE:=zH he
 clear hrr hE hpe hte hvb hsh hps hpx hk hb0 hbx hz hu he hel
 cases r with
|false =>
  clear hvc
  go_enter Tryz.func61,Tryz.ntmps61
  go_wp2_with fail
  refine (HV.out _).mono ?_;rintro e w1 ⟨rfl,hB1⟩
  unfold Ext at hB1;rw [HZ.out] at hB1
  go_wp2_with fail
  go_ret2
  exact⟨_,rfl,OwnB.nil _ _,HB0.out.trans (hB1.mono (Nat.le_succ _))⟩
|true =>
  rcases hvc rfl with⟨rfl,rfl⟩|rfl
  ·clear hvc
   have wk:IntKind.u8.wrap 1=1:=rfl
   go_enter Tryz.func61,Tryz.ntmps61
   go_wp2_with fail
   refine (HV.out _).mono ?_;rintro e w1 ⟨rfl,hB1⟩
   unfold Ext at hB1;rw [HZ.out] at hB1
   have hP1:UBox w1 w.heap.size 1 sh ps px:=(hB1.block _ (Nat.lt_succ_self _)).trans HBX.out
   obtain⟨q0,q1,q2,q3⟩:=hP1.cells
   have hlt:=za_a hP1
   have hz2:w.heap.size < w1.heap.size:=hlt
   have hbW:=(Below.refl w1.heap.size w1).alloc (zN _) (.cells #[.int .u8 1] 5)
   have hoW:OwnB w.heap.size (w1.alloc (.cells #[.int .u8 1] 5)) (.slice (some ⟨w1.heap.size,0,none⟩) 1 1) [1]:=OwnB.built w1 [1] (Nat.le_of_lt hz2) (by unfold maxLen;simp)
   obtain⟨W2,hW2⟩:∃ W2,w1.alloc (.cells #[.int .u8 1] 5)=W2:=⟨_,rfl⟩
   rw [hW2] at hbW hoW
   obtain⟨q0,q1,q2,q3⟩:=(hP1.ext hbW).cells
   have hlt2:=za_a (hP1.ext hbW)
   have HW2:=zH hW2
   have HOW:=zH hoW
   have HBW:=zH (HB0.out.trans ((hB1.mono (Nat.le_succ _)).trans (hbW.mono (Nat.le_of_lt hz2))))
   obtain⟨p0,p1,p2,p3⟩:=hP1.cells
   clear hW2 hoW hbW hP1
   go_wp2_with fail
   rw [HW2.out]
   go_wp2_with fail
   refine (HE.out _).mono ?_;rintro e w2 ⟨v2,rfl,ho2,hB2⟩
   rw [if_pos trivial] at ho2
   obtain⟨a2,c2,hv2,hs2,-⟩:=ho2.sl
   subst hv2
   have HS2:=zH hs2
   have HO2:=zH (HOW.out.ext hB2)
   clear ho2 hs2
   go_wp2_with (at_builtin;refine za_e rfl _ _ rfl w.heap.size _ [1] rfl HO2.out a2 _ c2 pe rfl HS2.out (by have:=HEL.out (by first|rfl|trivial);simp;omega) (by have:=hB2.size;omega) ?_;intro v3 w3 ho3 hg3 _)
   go_ret2
   exact⟨_,rfl,by rw [HEE.out,if_neg (by decide)];exact ho3,(HBW.out.trans (hB2.mono HBW.out.size)).grown hg3 (by have:=HBW.out.size;have:=hB2.size;omega) (fun k hk=>(HO2.out.lt k hk).1)⟩
  ·clear hvc
   have wk:IntKind.u8.wrap 2=2:=rfl
   go_enter Tryz.func61,Tryz.ntmps61
   go_wp2_with fail
   refine (HV.out _).mono ?_;rintro e w1 ⟨rfl,hB1⟩
   unfold Ext at hB1;rw [HZ.out] at hB1
   have hP1:UBox w1 w.heap.size 2 sh ps px:=(hB1.block _ (Nat.lt_succ_self _)).trans HBX.out
   have hz2:w.heap.size < w1.heap.size:=za_a hP1
   have hbW:=(Below.refl w1.heap.size w1).alloc (zN _) (.cells #[.int .u8 2] 5)
   have hoW:SlB (w1.alloc (.cells #[.int .u8 2] 5)) (some ⟨w1.heap.size,0,none⟩) 1 1 [2]:=SlB.one w1 2 _
   obtain⟨W2,hW2⟩:∃ W2,w1.alloc (.cells #[.int .u8 2] 5)=W2:=⟨_,rfl⟩
   rw [hW2] at hbW hoW
   obtain⟨q0,q1,q2,q3⟩:=(hP1.ext hbW).cells
   have hlt2:=za_a (hP1.ext hbW)
   have HW2:=zH hW2
   have HOW:=zH hoW
   have HBW:=zH (HB0.out.trans ((hB1.mono (Nat.le_succ _)).trans (hbW.mono (Nat.le_of_lt hz2))))
   obtain⟨p0,p1,p2,p3⟩:=hP1.cells
   clear hW2 hoW hbW hP1
   go_wp2_with fail
   rw [HW2.out]
   go_wp2_with fail
   refine (HT.out _ _ _ _ _ HOW.out (by omega)).mono ?_;rintro e w2 ⟨v2,rfl,ho2,hB2⟩
   have HO2:=zH ho2
   clear ho2
   go_wp2_with fail
   go_ret2
   exact⟨_,rfl,by rw [HEE.out];simp only [↓reduceIte];exact HO2.out.mono HBW.out.size,HBW.out.trans (hB2.mono HBW.out.size)⟩
end
section
open Go.RowKit
set_option maxRecDepth 100000 in
set_option maxHeartbeats 2000000 in
theorem zr_c (u:UpdV) (hu:u.p.h.length<=1000000) (w:World) :
 Calls Tryz.prog 57 #[uv u] w fun e w'=>e=.returned (.bool (Upt.valid u))/\Ext w w':=by
 have HV:=zH (fun W=>zg_o u.p hu W)
 have HN:=zH (fun W=>ze_j u.p.h hu W)
 have hb0:=(Below.refl w.heap.size w).alloc (zN _) (.cells (uc u) 36)
 have hbx:=UBox.new w u.k (str u.p.h) u.p.s u.p.x
 have hr:Upt.valid u=if u.k=1 then Pin.valid u.p else if u.k=2 then Host.name u.p.h && decide (u.p.s=false/\u.p.x=0) else false:=rfl
 obtain⟨r,hrr⟩:∃ r,Upt.valid u=r:=⟨_,rfl⟩
 rw [hrr] at hr ⊢
 unfold uv
 unfold uc at hb0 ⊢
 unfold pv at HV
 obtain⟨vb,hvb⟩:∃ b,Pin.valid u.p=b:=⟨_,rfl⟩
 obtain⟨nb,hnb⟩:∃ b,Host.name u.p.h=b:=⟨_,rfl⟩
 rw [hvb] at HV hr
 rw [hnb] at HN hr
 obtain⟨sh,hsh⟩:∃ s,str u.p.h=s:=⟨_,rfl⟩
 rw [hsh] at HV HN hb0 hbx ⊢
 obtain⟨ps,hps⟩:∃ s,u.p.s=s:=⟨_,rfl⟩
 obtain⟨px,hpx⟩:∃ s,u.p.x=s:=⟨_,rfl⟩
 obtain⟨k,hk⟩:∃ k,u.k=k:=⟨_,rfl⟩
 rw [hps] at HV hr hb0 hbx ⊢
 rw [hpx] at HV hr hb0 hbx ⊢
 rw [hk] at hr hb0 hbx ⊢
 have hz:(w.alloc (.cells #[.int .i64 k,.string sh,.bool ps,.int .i64 px] 36)).heap.size=w.heap.size+1:=by simp
 have HB0:=zH hb0
 have HBX:=zH hbx
 have HZ:=zH hz
 clear hrr hvb hnb hsh hps hpx hk hb0 hbx hz hu
 by_cases k1:k=1
 ·rw [if_pos k1] at hr
  subst k1
  subst hr
  go_enter Tryz.func57,Tryz.ntmps57
  go_wp2_with fail
  refine (HV.out _).mono ?_;rintro e w1 ⟨rfl,hb1⟩
  rw [HZ.out] at hb1
  go_wp2_with fail
  go_ret
  exact⟨rfl,HB0.out.trans (hb1.mono (Nat.le_succ _))⟩
 ·rw [if_neg k1] at hr
  have t1:(k == 1)=false:=beq_eq_false_iff_ne.2 k1
  by_cases k2:k=2
  ·rw [if_pos k2] at hr
   subst k2
   have HR:=zH hr
   clear hr k1 t1
   cases nb with
  |false =>
    have hrf:r=false:=by rw [HR.out];rfl
    subst hrf
    go_enter Tryz.func57,Tryz.ntmps57
    go_wp2_with fail
    refine (HN.out _).mono ?_;rintro e w1 ⟨rfl,hb1⟩
    rw [HZ.out] at hb1
    have hP1:UBox w1 w.heap.size 2 sh ps px:=(hb1.block _ (Nat.lt_succ_self _)).trans HBX.out
    obtain⟨q0,q1,q2,q3⟩:=hP1.cells
    have hlt:=za_a hP1
    clear hP1
    go_wp2_with fail
    go_ret
    exact⟨rfl,HB0.out.trans (hb1.mono (Nat.le_succ _))⟩
  |true =>
    have hrt:r=(!ps && px == 0):=by
     rw [HR.out,Bool.true_and]
     cases ps <;> by_cases h0:px=0 <;> simp [h0]
    have HRT:=zH hrt
    clear hrt HR
    cases ps
    all_goals
     by_cases h0:px=0
     all_goals
      first
      |(have hrr:r=true:=by rw [HRT.out,h0];rfl)
      |(have hrr:r=false:=by rw [HRT.out];simp [h0])
      subst hrr
      first|subst h0|skip
      go_enter Tryz.func57,Tryz.ntmps57
      go_wp2_with fail
      refine (HN.out _).mono ?_;rintro e w1 ⟨rfl,hb1⟩
      rw [HZ.out] at hb1
      have hP1:UBox w1 w.heap.size 2 sh _ _:=(hb1.block _ (Nat.lt_succ_self _)).trans HBX.out
      obtain⟨q0,q1,q2,q3⟩:=hP1.cells
      have hlt:=za_a hP1
      clear hP1
      go_wp2_with fail
      go_ret
      exact⟨rfl,HB0.out.trans (hb1.mono (Nat.le_succ _))⟩
  ·rw [if_neg k2] at hr
   have t2:(k == 2)=false:=beq_eq_false_iff_ne.2 k2
   subst hr
   go_enter Tryz.func57,Tryz.ntmps57
   go_wp2_with fail
   go_ret
   exact⟨rfl,HB0.out⟩
end
section
open Go.RowKit
theorem Upt.stValid_load (ck:Int) (L:List Pin):Upt.stValid ck L=decide (0<=ck/\ck<=1099511627776/\Tab.load L 1000=0):=by
 unfold Upt.stValid Tab.load
 apply decide_eq_decide.2
 rw [if_neg (by omega)]
 by_cases h2:(1000:Int) < L.length
 ·rw [if_pos h2]
  exact⟨fun e=>by omega,fun e=>by omega⟩
 ·rw [if_neg h2]
  exact⟨fun e=>⟨e.1,e.2.1,e.2.2.2⟩,fun e=>⟨e.1,e.2.1,by omega,e.2.2⟩⟩
set_option maxHeartbeats 4000000 in
set_option maxRecDepth 100000 in
theorem zh_j (ck:Int) (a:Option Addr) (n c:Nat) (L:List Pin) (w:World) (h:SlN w a n c L) (hn:n<=1000000) (hL:∀ p ∈ L,p.h.length<=1000000) :
 Calls Tryz.prog 56 #[.agg #[.int .i64 ck,.slice a n c]] w fun e w'=>e=.returned (.bool (Upt.stValid ck L))/\Ext w w':=by
 have hr:=Upt.stValid_load ck L
 obtain⟨r,hrr⟩:∃ r,Upt.stValid ck L=r:=⟨_,rfl⟩
 rw [hrr] at hr ⊢
 have hb0:=(Below.refl w.heap.size w).alloc (zN _) (.cells #[.int .i64 ck,.slice a n c] 44)
 have HB0:=zH hb0
 have HLD:=zH (zr_w 1000 a n c L _ (h.ext hb0) hn hL)
 have hln:=h.len
 have h0:n=0->Tab.load L 1000=0:=fun e=>by
  have:L=[]:=List.eq_nil_of_length_eq_zero (by omega)
  subst this;rfl
 obtain⟨z,hz⟩:∃ z,Tab.load L 1000=z:=⟨_,rfl⟩
 rw [hz] at hr h0 HLD
 clear hz hrr hb0 h hL
 by_cases h1:ck < 0
 ·have hrf:r=false:=by rw [hr];exact decide_eq_false (fun e=>by omega)
  subst hrf
  clear hr hln h0
  go_enter Tryz.func56,Tryz.ntmps56
  go_wp2_with fail
  go_ret
  exact⟨rfl,HB0.out⟩
 have t1:decide (0<=ck)=true:=decide_eq_true (by omega)
 by_cases h2:1099511627776 < ck
 ·have hrf:r=false:=by rw [hr];exact decide_eq_false (fun e=>by omega)
  subst hrf
  clear hr hln h0
  go_enter Tryz.func56,Tryz.ntmps56
  go_wp2_with fail
  go_ret
  exact⟨rfl,HB0.out⟩
 have t2:decide (ck<=1099511627776)=true:=decide_eq_true (by omega)
 have hr2:r=decide (z=0):=by rw [hr];apply decide_eq_decide.2;exact⟨fun e=>e.2.2,fun e=>⟨by omega,by omega,e⟩⟩
 clear hr
 by_cases hn0:n=0
 ·have hrt:r=true:=by rw [hr2];exact decide_eq_true (h0 hn0)
  subst hrt;subst hn0
  clear hr2 h0 hln
  go_enter Tryz.func56,Tryz.ntmps56
  go_wp2_with fail
  go_ret
  exact⟨rfl,HB0.out⟩
 ·have t3:((n:Int) == 0)=false:=beq_eq_false_iff_ne.2 (by omega)
  have HR:=zH hr2
  have HZ:=zH (show (w.alloc (.cells #[.int .i64 ck,.slice a n c] 44)).heap.size=w.heap.size+1 by simp)
  clear hr2 h0 hln hn0
  go_enter Tryz.func56,Tryz.ntmps56
  go_wp2_with fail
  refine HLD.out.mono ?_;rintro e w1 ⟨rfl,hb1⟩
  go_wp2_with fail
  go_ret
  exact⟨by rw [HR.out];rfl,HB0.out.trans (hb1.mono HB0.out.size)⟩
end
end Go.Proofs.YtmanejniepghlaaGreatDoor
