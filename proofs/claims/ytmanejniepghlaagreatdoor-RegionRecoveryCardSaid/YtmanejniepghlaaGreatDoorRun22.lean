import Derived.Test.YtmanejniepghlaaGreatDoorRun19
namespace Go.Proofs.YtmanejniepghlaaGreatDoor
section
open Go.RowKit
variable {t:List UInt8} {B m:Nat} {w:World} {k x z:Int} {h:ByteArray} {s:Bool} {q:Pin}
theorem set4 {x y z u:Value} {t:TypeId} (hb:w.heap[B]?=some (.cells #[x,y,z,u] t (0,0))) (a b c d:Value) :
 ((((w.setCell B a).setCell (B 1) b).setCell (B 2) c).setCell (B 3) d).heap[B]?=some (.cells #[a,b,c,d] t (0,0)) :=
 heap_setCell_same _ B 3 _ t d (heap_setCell_same _ B 2 _ t c (heap_setCell_same _ B 1 _ t b (heap_setCell_same w B 0 _ t a hb)))
theorem set4a {x y z u:Value} {t:TypeId} (hb:w.heap[B]?=some (.cells #[x,y,z,u] t (0,0))) (a b c d:Value) (o:Obj) :
 (((((w.setCell B a).setCell (B 1) b).setCell (B 2) c).setCell (B 3) d).alloc o).heap[B]?=some (.cells #[a,b,c,d] t (0,0)) :=
 (za_c _ o _ (za_a (set4 hb a b c d))).trans (set4 hb a b c d)
theorem UBox.put (hb:UBox w B k h s x) (h':ByteArray) (s':Bool) (x':Int) :
 UBox (((w.setCell (B 1) (.string h')).setCell (B 2) (.bool s')).setCell (B 3) (x':Value)) B k h' s' x' :=
 heap_setCell_same _ B 3 _ _ _ (heap_setCell_same _ B 2 _ _ _ (heap_setCell_same _ B 1 _ _ _ hb))
theorem UBox.put1 (hb:UBox w B k h s x) (h':ByteArray):UBox (w.setCell (B 1) (.string h')) B k h' s x :=
 heap_setCell_same _ B 1 _ _ _ hb
theorem UBox.other (hb:UBox w B k h s x) {g:Nat} (hne:g ≠ B) (i:Nat) (v:Value):UBox (w.setCell (g i) v) B k h s x :=
 (heap_setCell_other _ _ _ _ (fun e=>hne e.symm)).trans hb
def UDecP (b:List UInt8) (w:World) (e:Ending) (w':World):Prop:=e=.returned (.tuple #[uv (Upt.dec b).1,.int .i64 (Upt.dec b).2])/\Ext w w'
theorem UDecP.of {b:List UInt8} {u:UpdV} (h:Upt.dec b=(u,z)) {e:Ending} {w':World} (he:e=.returned (.tuple #[uv u,z])) (hb:Ext w w'):UDecP b w e w':=by
 unfold UDecP;rw [h];exact⟨he,hb⟩
theorem Upt.dec_nil:Upt.dec []=(Upt.none,5):=rfl
theorem Upt.dec_1a (h:Pin.dec t=(q,m,z)) (hz:z ≠ 0):Upt.dec (1 :: t)=(Upt.none,z):=by unfold Upt.dec;dsimp only;rw [if_pos rfl];unfold Upt.dec1;rw [h];exact if_pos hz
theorem Upt.dec_1b (h:Pin.dec t=(q,m,0)) (hm:m < t.length):Upt.dec (1 :: t)=(Upt.none,6):=by unfold Upt.dec;dsimp only;rw [if_pos rfl];unfold Upt.dec1;rw [h];exact (if_neg (by simp)).trans (if_pos hm)
theorem Upt.dec_1c (h:Pin.dec t=(q,m,0)) (hm:¬ m < t.length):Upt.dec (1 :: t)=(⟨1,q⟩,0):=by unfold Upt.dec;dsimp only;rw [if_pos rfl];unfold Upt.dec1;rw [h];exact (if_neg (by simp)).trans (if_neg hm)
theorem Upt.dec_2a {s:List UInt8} (h:Wire.decT t=(s,m,z)) (hz:z ≠ 0):Upt.dec (2 :: t)=(Upt.none,z):=by unfold Upt.dec;dsimp only;rw [if_neg (by decide),if_pos rfl];unfold Upt.dec2;rw [h];exact if_pos hz
theorem Upt.dec_2b {s:List UInt8} (h:Wire.decT t=(s,m,0)) (hm:m < t.length):Upt.dec (2 :: t)=(Upt.none,6):=by unfold Upt.dec;dsimp only;rw [if_neg (by decide),if_pos rfl];unfold Upt.dec2;rw [h];exact (if_neg (by simp)).trans (if_pos hm)
theorem Upt.dec_2c {s:List UInt8} (h:Wire.decT t=(s,m,0)) (hm:¬ m < t.length) (hn:Host.name s=false):Upt.dec (2 :: t)=(Upt.none,14):=by unfold Upt.dec;dsimp only;rw [if_neg (by decide),if_pos rfl];unfold Upt.dec2;rw [h];exact (if_neg (by simp)).trans ((if_neg hm).trans (if_pos hn))
theorem Upt.dec_2d {s:List UInt8} (h:Wire.decT t=(s,m,0)) (hm:¬ m < t.length) (hn:Host.name s=true):Upt.dec (2 :: t)=(⟨2,⟨s,false,0⟩⟩,0):=by unfold Upt.dec;dsimp only;rw [if_neg (by decide),if_pos rfl];unfold Upt.dec2;rw [h];exact (if_neg (by simp)).trans ((if_neg hm).trans (if_neg (by rw [hn];decide)))
theorem Upt.dec_o {x:UInt8} (h1:x ≠ 1) (h2:x ≠ 2):Upt.dec (x :: t)=(Upt.none,6):=by unfold Upt.dec;dsimp only;rw [if_neg h1,if_neg h2]
set_option maxRecDepth 100000 in
set_option maxHeartbeats 8000000 in
theorem zo_y (a:Option Addr) (n c:Nat) (b:List UInt8) (w:World) (h:SlB w a n c b) (hn:n<=1000000) :
 Calls Tryz.prog 115 #[.slice a n c] w (UDecP b w):=by
 have hln:=h.len
 cases b with
|nil =>
  obtain rfl:n=0:=hln.symm
  have HR:=zH Upt.dec_nil
  clear h hln
  go_enter Tryz.func115,Tryz.ntmps115
  go_wp2_with fail
  refine bodyPost_ret (v:=.tuple #[.agg #[.int .i64 0,.string ⟨#[]⟩,.bool false,.int .i64 0],.int .i64 5]) (by simp [results,Tryz.results115,go_sem]) rfl (UDecP.of HR.out rfl ?_)
  exact (Below.refl _ _).alloc (zN _) _
|cons x t =>
  simp only [List.length_cons] at hln
  obtain⟨bb,o,rfl,hbb,-,c0⟩:=h.at (show 0 < n by omega)
  simp only [List.getElem?_cons_zero,Option.getD_some,Nat.add_zero] at c0
  have n1:(0:Int) < (n:Int):=by omega
  have n2:(1:Int)<=(n:Int):=by omega
  have n3:((n:Int) == 0)=false:=beq_eq_false_iff_ne.2 (by omega)
  have hR0:=UBox.new w 0 ⟨#[]⟩ false 0
  have hB0:=(Below.refl w.heap.size w).alloc (zN _) (.cells #[.int .i64 0,.string ⟨#[]⟩,.bool false,.int .i64 0] 36)
  have hz0:(w.alloc (.cells #[.int .i64 0,.string ⟨#[]⟩,.bool false,.int .i64 0] 36)).heap.size=w.heap.size+1:=by simp
  have hx8:x.toNat < 256:=x.toNat_lt
  obtain⟨xn,hxn⟩:∃ xn:Nat,x.toNat=xn:=⟨_,rfl⟩
  have hU0:=UBox.new (w.alloc (.cells #[.int .i64 0,.string ⟨#[]⟩,.bool false,.int .i64 0] 36)) (xn:Int) ⟨#[]⟩ false 0
  have hB1:=hB0.alloc hB0.size (.cells #[xn,.string ⟨#[]⟩,.bool false,.int .i64 0] 36)
  have hE1:Ext (w.alloc (.cells #[.int .i64 0,.string ⟨#[]⟩,.bool false,.int .i64 0] 36)) _:=(Ext.refl _).alloc (.cells #[xn,.string ⟨#[]⟩,.bool false,.int .i64 0] 36)
  have hR1:=hR0.ext hE1
  have hs1:=h.ext hB1
  rw [hz0] at hU0
  rw [hxn] at c0 hx8
  by_cases hx1:x=1
  ·subst hx1
   obtain rfl:1=xn:=hxn
   simp only [show ((1:Nat):Int)=1 from rfl] at c0 hU0 hB1 hE1 hR1 hs1
   obtain⟨W1,hW1⟩:∃ W1,(w.alloc (.cells #[.int .i64 0,.string ⟨#[]⟩,.bool false,.int .i64 0] 36)).alloc (.cells #[.int .i64 1,.string ⟨#[]⟩,.bool false,.int .i64 0] 36)=W1:=⟨_,rfl⟩
   rw [hW1] at hU0 hB1 hR1 hs1
   have HW1:=zH hW1
   have HU0:=zH hU0
   have HR1:=zH hR1
   have HB1:=zH hB1
   obtain⟨q,m,z,hq⟩:∃ q m z,Pin.dec t=(q,m,z):=⟨_,_,_,rfl⟩
   have HD:=zH (fun a2 c2 (hs:SlB W1 a2 (n - 1) c2 t)=>zd_h true a2 (n - 1) c2 t W1 hs (by omega))
   unfold PDecP at HD
   rw [hq] at HD
   have HQ:=zH hq
   obtain⟨qh,qs,qx⟩:=q
   unfold pv at HD
   simp only at HD
   obtain⟨sq,hsq⟩:∃ sq,str qh=sq:=⟨_,rfl⟩
   rw [hsq] at HD
   have HSQ:=zH hsq
   have HLN:=zH hln
   clear hW1 hU0 hR1 hB1 hE1 hR0 hB0 hz0 h hln hq hsq hx8
   by_cases hz:z ≠ 0
   ·have HR:=zH (Upt.dec_1a HQ.out hz)
    have t1:(z != 0)=true:=by simpa using hz
    have t2:(z == 0)=false:=by simpa using hz
    clear hz
    go_enter Tryz.func115,Tryz.ntmps115
    go_wp2_with (refine za_g rfl _ _ rfl rfl 1 _ rfl rfl (by rw [HW1.out];exact hs1) (by omega) ?_;intro a2 hsa2)
    rw [HW1.out] at hsa2 ⊢
    refine (HD.out _ _ hsa2).mono ?_;rintro e w2 ⟨rfl,hB2⟩
    have hU2:=HU0.out.ext hB2
    have hR2:=HR1.out.ext hB2
    obtain⟨⟨u0,u1,u2,u3⟩,fu,lu⟩:=hU2.al
    obtain⟨⟨r0,r1,r2,r3⟩,fr,lr⟩:=hR2.al
    have hU3:=hU2.put sq qs qx
    have hR3:=((hR2.other (g:=w.heap.size+1) (by omega) 1 (.string sq)).other (g:=w.heap.size+1) (by omega) 2 (.bool qs)).other (g:=w.heap.size+1) (by omega) 3 (qx:Value)
    have hb3:=(((HB1.out.trans (hB2.mono HB1.out.size)).setCell (p:=((w.heap.size+1) 1)) (Nat.le_succ _) (.string sq)).setCell (p:=((w.heap.size+1) 2)) (Nat.le_succ _) (.bool qs)).setCell (p:=((w.heap.size+1) 3)) (Nat.le_succ _) (qx:Value)
    have HU3:=zH hU3
    have HR3:=zH hR3
    have HB3:=zH hb3
    clear hU2 hR2 hU3 hR3 hb3
    go_wp2_with fail
    refine ret4 rfl rfl (set4 HR3.out _ _ _ _) rfl rfl (UDecP.of HR.out rfl ?_)
    exact below4 HB3.out (zN _)
   obtain rfl:z=0:=by simpa using hz
   by_cases hm:m < t.length
   ·have HR:=zH (Upt.dec_1b HQ.out hm)
    have t1:(m:Int) < (n:Int) - 1:=by have:=HLN.out;omega
    clear hm hz
    go_enter Tryz.func115,Tryz.ntmps115
    go_wp2_with (refine za_g rfl _ _ rfl rfl 1 _ rfl rfl (by rw [HW1.out];exact hs1) (by omega) ?_;intro a2 hsa2)
    rw [HW1.out] at hsa2 ⊢
    refine (HD.out _ _ hsa2).mono ?_;rintro e w2 ⟨rfl,hB2⟩
    have hU2:=HU0.out.ext hB2
    have hR2:=HR1.out.ext hB2
    obtain⟨⟨u0,u1,u2,u3⟩,fu,lu⟩:=hU2.al
    obtain⟨⟨r0,r1,r2,r3⟩,fr,lr⟩:=hR2.al
    have hU3:=hU2.put sq qs qx
    have hR3:=((hR2.other (g:=w.heap.size+1) (by omega) 1 (.string sq)).other (g:=w.heap.size+1) (by omega) 2 (.bool qs)).other (g:=w.heap.size+1) (by omega) 3 (qx:Value)
    have hb3:=(((HB1.out.trans (hB2.mono HB1.out.size)).setCell (p:=((w.heap.size+1) 1)) (Nat.le_succ _) (.string sq)).setCell (p:=((w.heap.size+1) 2)) (Nat.le_succ _) (.bool qs)).setCell (p:=((w.heap.size+1) 3)) (Nat.le_succ _) (qx:Value)
    have HU3:=zH hU3
    have HR3:=zH hR3
    have HB3:=zH hb3
    clear hU2 hR2 hU3 hR3 hb3
    go_wp2_with fail
    refine ret4 rfl rfl (set4 HR3.out _ _ _ _) rfl rfl (UDecP.of HR.out rfl ?_)
    exact below4 HB3.out (zN _)
   ·have HR:=zH (Upt.dec_1c HQ.out hm)
    have t1:¬ (m:Int) < (n:Int) - 1:=by have:=HLN.out;omega
    have hvq:Pin.valid ⟨qh,qs,qx⟩=true:=(Pin.enc_dec HQ.out).1
    have hql:qh.length<=1000000:=by have:=Pin.name_len ((Pin.valid_iff _).1 hvq).1;simp only at this;omega
    have HV:=zH (fun W=>zd_n true ⟨1,⟨qh,qs,qx⟩⟩ hql W)
    have hvu:Upt.valid ⟨1,⟨qh,qs,qx⟩⟩=true:=by unfold Upt.valid;rw [if_pos rfl];exact hvq
    rw [hvu] at HV
    unfold uv uc at HV
    simp only at HV
    rw [HSQ.out] at HV
    clear hm hz hvq hql hvu
    go_enter Tryz.func115,Tryz.ntmps115
    go_wp2_with (refine za_g rfl _ _ rfl rfl 1 _ rfl rfl (by rw [HW1.out];exact hs1) (by omega) ?_;intro a2 hsa2)
    rw [HW1.out] at hsa2 ⊢
    refine (HD.out _ _ hsa2).mono ?_;rintro e w2 ⟨rfl,hB2⟩
    have hU2:=HU0.out.ext hB2
    have hR2:=HR1.out.ext hB2
    obtain⟨⟨u0,u1,u2,u3⟩,fu,lu⟩:=hU2.al
    obtain⟨⟨r0,r1,r2,r3⟩,fr,lr⟩:=hR2.al
    have hU3:=hU2.put sq qs qx
    have hR3:=((hR2.other (g:=w.heap.size+1) (by omega) 1 (.string sq)).other (g:=w.heap.size+1) (by omega) 2 (.bool qs)).other (g:=w.heap.size+1) (by omega) 3 (qx:Value)
    have hb3:=(((HB1.out.trans (hB2.mono HB1.out.size)).setCell (p:=((w.heap.size+1) 1)) (Nat.le_succ _) (.string sq)).setCell (p:=((w.heap.size+1) 2)) (Nat.le_succ _) (.bool qs)).setCell (p:=((w.heap.size+1) 3)) (Nat.le_succ _) (qx:Value)
    have HU3:=zH hU3
    have HR3:=zH hR3
    have HB3:=zH hb3
    clear hU2 hR2 hU3 hR3 hb3
    obtain⟨W3,hW3⟩:∃ W3,((w2.setCell ((w.heap.size+1) 1) (.string sq)).setCell ((w.heap.size+1) 2) (.bool qs)).setCell ((w.heap.size+1) 3) (qx:Value)=W3:=⟨_,rfl⟩
    have hu3:=HU3.out
    have hr3:=HR3.out
    have hb3:=HB3.out
    rw [hW3] at hu3 hr3 hb3
    have HW3:=zH hW3
    have HU4:=zH hu3
    have HR4:=zH hr3
    have HB4:=zH hb3
    clear hu3 hr3 hb3 hW3
    go_wp2_with fail
    rw [HW3.out]
    refine (HV.out _).mono ?_;rintro e w4 ⟨rfl,hB4⟩
    have hU5:=HU4.out.ext hB4
    have hR5:=HR4.out.ext hB4
    clear u0 u1 u2 u3 r0 r1 r2 r3 fu fr lu lr
    obtain⟨⟨u0,u1,u2,u3⟩,fu,lu⟩:=hU5.al
    obtain⟨⟨r0,r1,r2,r3⟩,fr,lr⟩:=hR5.al
    have HR5:=zH hR5
    have HB5:=zH (HB4.out.trans (Below.mono hB4 HB4.out.size))
    clear hU5 hR5
    go_wp2_with fail
    refine ret4 rfl rfl (set4 HR5.out _ _ _ _) rfl rfl (UDecP.of HR.out (by unfold uv uc;simp only;rw [HSQ.out];rfl) ?_)
    exact below4 HB5.out (zN _)
  by_cases hx2:x=2
  ·subst hx2
   obtain rfl:2=xn:=hxn
   simp only [show ((2:Nat):Int)=2 from rfl] at c0 hU0 hB1 hE1 hR1 hs1
   obtain⟨W1,hW1⟩:∃ W1,(w.alloc (.cells #[.int .i64 0,.string ⟨#[]⟩,.bool false,.int .i64 0] 36)).alloc (.cells #[.int .i64 2,.string ⟨#[]⟩,.bool false,.int .i64 0] 36)=W1:=⟨_,rfl⟩
   rw [hW1] at hU0 hB1 hR1 hs1
   have HW1:=zH hW1
   have HU0:=zH hU0
   have HR1:=zH hR1
   have HB1:=zH hB1
   obtain⟨q,m,z,hq⟩:∃ q m z,Wire.decT t=(q,m,z):=⟨_,_,_,rfl⟩
   have HD:=zH (fun a2 c2 (hs:SlB W1 a2 (n - 1) c2 t)=>zk_o true a2 (n - 1) c2 t W1 hs (by omega))
   rw [hq] at HD
   have HQ:=zH hq
   simp only at HD
   obtain⟨sq,hsq⟩:∃ sq,str q=sq:=⟨_,rfl⟩
   rw [hsq] at HD
   have HSQ:=zH hsq
   have HLN:=zH hln
   clear hW1 hU0 hR1 hB1 hE1 hR0 hB0 hz0 h hln hq hsq hx8 hx1
   by_cases hz:z ≠ 0
   ·have HR:=zH (Upt.dec_2a HQ.out hz)
    have t1:(z != 0)=true:=by simpa using hz
    have t2:(z == 0)=false:=by simpa using hz
    clear hz
    go_enter Tryz.func115,Tryz.ntmps115
    go_wp2_with (refine za_g rfl _ _ rfl rfl 1 _ rfl rfl (by rw [HW1.out];exact hs1) (by omega) ?_;intro a2 hsa2)
    rw [HW1.out] at hsa2 ⊢
    refine (HD.out _ _ hsa2).mono ?_;rintro e w2 ⟨rfl,rfl⟩
    obtain⟨⟨u0,u1,u2,u3⟩,fu,lu⟩:=HU0.out.al
    obtain⟨⟨r0,r1,r2,r3⟩,fr,lr⟩:=HR1.out.al
    have HU3:=zH (HU0.out.put1 sq)
    have HR3:=zH (HR1.out.other (g:=w.heap.size+1) (by omega) 1 (.string sq))
    have HB3:=zH (HB1.out.setCell (p:=((w.heap.size+1) 1)) (Nat.le_succ _) (.string sq))
    go_wp2_with fail
    refine ret4 rfl rfl (set4 HR3.out _ _ _ _) rfl rfl (UDecP.of HR.out rfl ?_)
    exact below4 HB3.out (zN _)
   obtain rfl:z=0:=by simpa using hz
   by_cases hm:m < t.length
   ·have HR:=zH (Upt.dec_2b HQ.out hm)
    have t1:(m:Int) < (n:Int) - 1:=by have:=HLN.out;omega
    clear hm hz
    go_enter Tryz.func115,Tryz.ntmps115
    go_wp2_with (refine za_g rfl _ _ rfl rfl 1 _ rfl rfl (by rw [HW1.out];exact hs1) (by omega) ?_;intro a2 hsa2)
    rw [HW1.out] at hsa2 ⊢
    refine (HD.out _ _ hsa2).mono ?_;rintro e w2 ⟨rfl,rfl⟩
    obtain⟨⟨u0,u1,u2,u3⟩,fu,lu⟩:=HU0.out.al
    obtain⟨⟨r0,r1,r2,r3⟩,fr,lr⟩:=HR1.out.al
    have HU3:=zH (HU0.out.put1 sq)
    have HR3:=zH (HR1.out.other (g:=w.heap.size+1) (by omega) 1 (.string sq))
    have HB3:=zH (HB1.out.setCell (p:=((w.heap.size+1) 1)) (Nat.le_succ _) (.string sq))
    go_wp2_with fail
    refine ret4 rfl rfl (set4 HR3.out _ _ _ _) rfl rfl (UDecP.of HR.out rfl ?_)
    exact below4 HB3.out (zN _)
   have hql:q.length<=1000000:=by have:=(Wire.txt_decT HQ.out).2.2.1;omega
   have HV:=zH (fun W=>zd_n true ⟨2,⟨q,false,0⟩⟩ hql W)
   have hvu:Upt.valid ⟨2,⟨q,false,0⟩⟩=Host.name q:=by unfold Upt.valid;simp
   rw [hvu] at HV
   unfold uv uc at HV
   simp only at HV
   rw [HSQ.out] at HV
   have t1:¬ (m:Int) < (n:Int) - 1:=by have:=HLN.out;omega
   cases hnm:Host.name q with
  |false =>
    have HR:=zH (Upt.dec_2c HQ.out hm hnm)
    rw [hnm] at HV
    clear hm hz hql hvu hnm
    go_enter Tryz.func115,Tryz.ntmps115
    go_wp2_with (refine za_g rfl _ _ rfl rfl 1 _ rfl rfl (by rw [HW1.out];exact hs1) (by omega) ?_;intro a2 hsa2)
    rw [HW1.out] at hsa2 ⊢
    refine (HD.out _ _ hsa2).mono ?_;rintro e w2 ⟨rfl,rfl⟩
    obtain⟨⟨u0,u1,u2,u3⟩,fu,lu⟩:=HU0.out.al
    obtain⟨⟨r0,r1,r2,r3⟩,fr,lr⟩:=HR1.out.al
    have HU3:=zH (HU0.out.put1 sq)
    have HR3:=zH (HR1.out.other (g:=w.heap.size+1) (by omega) 1 (.string sq))
    have HB3:=zH (HB1.out.setCell (p:=((w.heap.size+1) 1)) (Nat.le_succ _) (.string sq))
    obtain⟨W3,hW3⟩:∃ W3,W1.setCell ((w.heap.size+1) 1) (.string sq)=W3:=⟨_,rfl⟩
    have hu3:=HU3.out
    have hr3:=HR3.out
    have hb3:=HB3.out
    rw [hW3] at hu3 hr3 hb3
    have HW3:=zH hW3
    have HU4:=zH hu3
    have HR4:=zH hr3
    have HB4:=zH hb3
    clear hu3 hr3 hb3 hW3
    go_wp2_with fail
    rw [HW3.out]
    refine (HV.out _).mono ?_;rintro e w4 ⟨rfl,hB4⟩
    have hU5:=HU4.out.ext hB4
    have hR5:=HR4.out.ext hB4
    clear u0 u1 u2 u3 r0 r1 r2 r3 fu fr lu lr
    obtain⟨⟨u0,u1,u2,u3⟩,fu,lu⟩:=hU5.al
    obtain⟨⟨r0,r1,r2,r3⟩,fr,lr⟩:=hR5.al
    have HR5:=zH hR5
    have HB5:=zH (HB4.out.trans (Below.mono hB4 HB4.out.size))
    clear hU5 hR5
    go_wp2_with fail
    refine ret4 rfl rfl (set4 HR5.out _ _ _ _) rfl rfl (UDecP.of HR.out rfl ?_)
    exact below4 HB5.out (zN _)
  |true =>
    have HR:=zH (Upt.dec_2d HQ.out hm hnm)
    rw [hnm] at HV
    clear hm hz hql hvu hnm
    go_enter Tryz.func115,Tryz.ntmps115
    go_wp2_with (refine za_g rfl _ _ rfl rfl 1 _ rfl rfl (by rw [HW1.out];exact hs1) (by omega) ?_;intro a2 hsa2)
    rw [HW1.out] at hsa2 ⊢
    refine (HD.out _ _ hsa2).mono ?_;rintro e w2 ⟨rfl,rfl⟩
    obtain⟨⟨u0,u1,u2,u3⟩,fu,lu⟩:=HU0.out.al
    obtain⟨⟨r0,r1,r2,r3⟩,fr,lr⟩:=HR1.out.al
    have HU3:=zH (HU0.out.put1 sq)
    have HR3:=zH (HR1.out.other (g:=w.heap.size+1) (by omega) 1 (.string sq))
    have HB3:=zH (HB1.out.setCell (p:=((w.heap.size+1) 1)) (Nat.le_succ _) (.string sq))
    obtain⟨W3,hW3⟩:∃ W3,W1.setCell ((w.heap.size+1) 1) (.string sq)=W3:=⟨_,rfl⟩
    have hu3:=HU3.out
    have hr3:=HR3.out
    have hb3:=HB3.out
    rw [hW3] at hu3 hr3 hb3
    have HW3:=zH hW3
    have HU4:=zH hu3
    have HR4:=zH hr3
    have HB4:=zH hb3
    clear hu3 hr3 hb3 hW3
    go_wp2_with fail
    rw [HW3.out]
    refine (HV.out _).mono ?_;rintro e w4 ⟨rfl,hB4⟩
    have hU5:=HU4.out.ext hB4
    have hR5:=HR4.out.ext hB4
    clear u0 u1 u2 u3 r0 r1 r2 r3 fu fr lu lr
    obtain⟨⟨u0,u1,u2,u3⟩,fu,lu⟩:=hU5.al
    obtain⟨⟨r0,r1,r2,r3⟩,fr,lr⟩:=hR5.al
    have HR5:=zH hR5
    have HB5:=zH (HB4.out.trans (Below.mono hB4 HB4.out.size))
    clear hU5 hR5
    go_wp2_with fail
    refine ret4 rfl rfl (set4 HR5.out _ _ _ _) rfl rfl (UDecP.of HR.out (by unfold uv uc;simp only;rw [HSQ.out];rfl) ?_)
    exact below4 HB5.out (zN _)
  have hx1':xn ≠ 1:=fun e=>hx1 (UInt8.toNat_inj.1 (hxn.trans e))
  have hx2':xn ≠ 2:=fun e=>hx2 (UInt8.toNat_inj.1 (hxn.trans e))
  obtain⟨W1,hW1⟩:∃ W1,(w.alloc (.cells #[.int .i64 0,.string ⟨#[]⟩,.bool false,.int .i64 0] 36)).alloc (.cells #[xn,.string ⟨#[]⟩,.bool false,.int .i64 0] 36)=W1:=⟨_,rfl⟩
  rw [hW1] at hU0 hB1 hR1 hs1
  have HW1:=zH hW1
  have HU0:=zH hU0
  have HR1:=zH hR1
  have HB1:=zH hB1
  have HR:=zH (Upt.dec_o (t:=t) hx1 hx2)
  have t1:((xn:Int) == 1)=false:=beq_eq_false_iff_ne.2 (by omega)
  have t2:((xn:Int) == 2)=false:=beq_eq_false_iff_ne.2 (by omega)
  have wx:IntKind.i64.wrap (xn:Int)=(xn:Int):=by rw [IntKind.wrap_i64];omega
  clear hW1 hU0 hR1 hB1 hE1 hR0 hB0 hz0 h hln hx1 hx2 hx1' hx2' hxn hs1
  obtain⟨⟨r0,r1,r2,r3⟩,fr,lr⟩:=HR1.out.al
  go_enter Tryz.func115,Tryz.ntmps115
  go_wp2_with fail
  refine bodyPost_ret (v:=.tuple #[.agg #[.int .i64 0,.string ⟨#[]⟩,.bool false,.int .i64 0],.int .i64 6]) (by simp [results,Tryz.results115,go_sem]) rfl (UDecP.of HR.out rfl ?_)
  rw [HW1.out]
  exact HB1.out
end
section
open Go.RowKit
def UEncP (u:UpdV) (w:World) (e:Ending) (w':World):Prop:=∃ v,e=.returned (.tuple #[v,.int .i64 (if Upt.valid u then 0 else 1)])/\OwnB w.heap.size w' v (if Upt.valid u then Upt.enc u else [])/\Below w.heap.size w w'
set_option maxRecDepth 100000 in
set_option maxHeartbeats 4000000 in
theorem zo_z (u:UpdV) (hu:u.p.h.length<=900) (w:World) :
 Calls Tryz.prog 61 #[uv u] w (UEncP u w):=by
 have HV:=zH (fun W=>zd_n true u (by omega) W)
 have HE:=zH (fun W=>zi_m u.p hu W)
 have HT:=zH (fun a n c l W h hn=>zd_o a n c l u.p.h (by omega) W h hn)
 have hb0:=(Below.refl w.heap.size w).alloc (zN _) (.cells (uc u) 36)
 have hbx:=UBox.new w u.k (str u.p.h) u.p.s u.p.x
 have hvc:Upt.valid u=true->(u.k=1/\Pin.valid u.p=true)\/u.k=2:=fun h=>by
  rcases Upt.valid_cases h with⟨h1,h2⟩|⟨h1,-,-⟩
  ·exact .inl ⟨h1,h2⟩
  ·exact .inr h1
 have he:Upt.enc u=if u.k=2 then 2 :: Wire.txt u.p.h else 1 :: Pin.enc u.p:=rfl
 have hel:Pin.valid u.p=true->(Pin.enc u.p).length<=1000000:=fun h=>by have:=Pin.enc_len h;omega
 unfold UEncP
 unfold PEncP at HE
 obtain⟨r,hrr⟩:∃ r,Upt.valid u=r:=⟨_,rfl⟩
 obtain⟨E,hE⟩:∃ E,Upt.enc u=E:=⟨_,rfl⟩
 obtain⟨pe,hpe⟩:∃ E,Pin.enc u.p=E:=⟨_,rfl⟩
 obtain⟨te,hte⟩:∃ E,Wire.txt u.p.h=E:=⟨_,rfl⟩
 rw [hrr] at hvc HV ⊢
 rw [hE] at he ⊢
 rw [hpe] at he hel HE
 rw [hte] at he HT
 unfold uv at HV ⊢
 unfold uc at hb0 HV ⊢
 unfold pv at HE
 obtain⟨vb,hvb⟩:∃ b,Pin.valid u.p=b:=⟨_,rfl⟩
 rw [hvb] at HE hvc hel
 obtain⟨sh,hsh⟩:∃ s,str u.p.h=s:=⟨_,rfl⟩
 rw [hsh] at HV HE HT hb0 hbx ⊢
 obtain⟨ps,hps⟩:∃ s,u.p.s=s:=⟨_,rfl⟩
 obtain⟨px,hpx⟩:∃ s,u.p.x=s:=⟨_,rfl⟩
 obtain⟨k,hk⟩:∃ k,u.k=k:=⟨_,rfl⟩
 rw [hps] at HV HE hb0 hbx ⊢
 rw [hpx] at HV HE hb0 hbx ⊢
 rw [hk] at hvc he HV hb0 hbx ⊢
 have hz:(w.alloc (.cells #[k,.string sh,.bool ps,px] 36)).heap.size=w.heap.size+1:=by simp
 have HB0:=zH hb0
 have HBX:=zH hbx
 have HZ:=zH hz
 have HEL:=zH hel
 have HEE:=zH he
 clear hrr hE hpe hte hvb hsh hps hpx hk hb0 hbx hz hu he hel
 cases r with
|false =>
  clear hvc
  go_enter Tryz.func61,Tryz.ntmps61
  go_wp2_with fail
  refine (HV.out _).mono ?_;rintro e w1 ⟨rfl,hB1⟩
  unfold Ext at hB1;rw [HZ.out] at hB1
  go_wp2_with fail
  go_ret2
  exact⟨_,rfl,OwnB.nil _ _,HB0.out.trans (hB1.mono (Nat.le_succ _))⟩
|true =>
  rcases hvc rfl with⟨rfl,rfl⟩|rfl
  ·clear hvc
   have wk:IntKind.u8.wrap 1=1:=rfl
   go_enter Tryz.func61,Tryz.ntmps61
   go_wp2_with fail
   refine (HV.out _).mono ?_;rintro e w1 ⟨rfl,hB1⟩
   unfold Ext at hB1;rw [HZ.out] at hB1
   have hP1:UBox w1 w.heap.size 1 sh ps px:=(hB1.block _ (Nat.lt_succ_self _)).trans HBX.out
   obtain⟨q0,q1,q2,q3⟩:=hP1.cells
   have hlt:=za_a hP1
   have hz2:w.heap.size < w1.heap.size:=hlt
   have hbW:=(Below.refl w1.heap.size w1).alloc (zN _) (.cells #[.int .u8 1] 5)
   have hoW:OwnB w.heap.size (w1.alloc (.cells #[.int .u8 1] 5)) (.slice w1.heap.size 1 1) [1]:=OwnB.built w1 [1] (Nat.le_of_lt hz2) (by unfold maxLen;simp)
   obtain⟨W2,hW2⟩:∃ W2,w1.alloc (.cells #[.int .u8 1] 5)=W2:=⟨_,rfl⟩
   rw [hW2] at hbW hoW
   obtain⟨q0,q1,q2,q3⟩:=(hP1.ext hbW).cells
   have hlt2:=za_a (hP1.ext hbW)
   have HW2:=zH hW2
   have HOW:=zH hoW
   have HBW:=zH (HB0.out.trans ((hB1.mono (Nat.le_succ _)).trans (hbW.mono (Nat.le_of_lt hz2))))
   obtain⟨p0,p1,p2,p3⟩:=hP1.cells
   clear hW2 hoW hbW hP1
   go_wp2_with fail
   rw [HW2.out]
   go_wp2_with fail
   refine (HE.out _).mono ?_;rintro e w2 ⟨v2,rfl,ho2,hB2⟩
   rw [if_pos trivial] at ho2
   obtain⟨a2,c2,hv2,hs2,-⟩:=ho2.sl
   subst hv2
   have HS2:=zH hs2
   have HO2:=zH (HOW.out.ext hB2)
   clear ho2 hs2
   go_wp2_with (at_builtin;refine za_d rfl _ _ rfl w.heap.size _ [1] rfl HO2.out a2 _ c2 pe rfl HS2.out (by have:=HEL.out (by first|rfl|trivial);simp;omega) (by have:=hB2.size;omega) ?_;intro v3 w3 ho3 hg3 _)
   go_ret2
   exact⟨_,rfl,by rw [HEE.out,if_neg (by decide)];exact ho3,(HBW.out.trans (hB2.mono HBW.out.size)).grown hg3 (by have:=HBW.out.size;have:=hB2.size;omega) (fun k hk=>(HO2.out.lt k hk).1)⟩
  ·clear hvc
   have wk:IntKind.u8.wrap 2=2:=rfl
   go_enter Tryz.func61,Tryz.ntmps61
   go_wp2_with fail
   refine (HV.out _).mono ?_;rintro e w1 ⟨rfl,hB1⟩
   unfold Ext at hB1;rw [HZ.out] at hB1
   have hP1:UBox w1 w.heap.size 2 sh ps px:=(hB1.block _ (Nat.lt_succ_self _)).trans HBX.out
   have hz2:w.heap.size < w1.heap.size:=za_a hP1
   have hbW:=(Below.refl w1.heap.size w1).alloc (zN _) (.cells #[.int .u8 2] 5)
   have hoW:SlB (w1.alloc (.cells #[.int .u8 2] 5)) w1.heap.size 1 1 [2]:=SlB.one w1 2 _
   obtain⟨W2,hW2⟩:∃ W2,w1.alloc (.cells #[.int .u8 2] 5)=W2:=⟨_,rfl⟩
   rw [hW2] at hbW hoW
   obtain⟨q0,q1,q2,q3⟩:=(hP1.ext hbW).cells
   have hlt2:=za_a (hP1.ext hbW)
   have HW2:=zH hW2
   have HOW:=zH hoW
   have HBW:=zH (HB0.out.trans ((hB1.mono (Nat.le_succ _)).trans (hbW.mono (Nat.le_of_lt hz2))))
   obtain⟨p0,p1,p2,p3⟩:=hP1.cells
   clear hW2 hoW hbW hP1
   go_wp2_with fail
   rw [HW2.out]
   go_wp2_with fail
   refine (HT.out _ _ _ _ _ HOW.out (by omega)).mono ?_;rintro e w2 ⟨v2,rfl,ho2,hB2⟩
   have HO2:=zH ho2
   clear ho2
   go_wp2_with fail
   go_ret2
   exact⟨_,rfl,by rw [HEE.out];simp only [↓reduceIte];exact HO2.out.mono HBW.out.size,HBW.out.trans (hB2.mono HBW.out.size)⟩
end
section
open Go.RowKit
set_option maxRecDepth 100000 in
set_option maxHeartbeats 8000000 in
theorem zo_k (a:Option Addr) (n c:Nat) (b:List UInt8) (w:World) (h:SlB w a n c b) (hn:n<=1000000) :
 Calls Tryz.prog 84 #[.slice a n c] w (UDecP b w):=by
 have hln:=h.len
 cases b with
|nil =>
  obtain rfl:n=0:=hln.symm
  have HR:=zH Upt.dec_nil
  clear h hln
  go_enter Tryz.func84,Tryz.ntmps84
  go_wp2_with fail
  refine bodyPost_ret (v:=.tuple #[.agg #[.int .i64 0,.string ⟨#[]⟩,.bool false,.int .i64 0],.int .i64 5]) (by simp [results,Tryz.results84,go_sem]) rfl (UDecP.of HR.out rfl ?_)
  exact (Below.refl _ _).alloc (zN _) _
|cons x t =>
  simp only [List.length_cons] at hln
  obtain⟨bb,o,rfl,hbb,-,c0⟩:=h.at (show 0 < n by omega)
  simp only [List.getElem?_cons_zero,Option.getD_some,Nat.add_zero] at c0
  have n1:(0:Int) < (n:Int):=by omega
  have n2:(1:Int)<=(n:Int):=by omega
  have n3:((n:Int) == 0)=false:=beq_eq_false_iff_ne.2 (by omega)
  have hR0:=UBox.new w 0 ⟨#[]⟩ false 0
  have hB0:=(Below.refl w.heap.size w).alloc (zN _) (.cells #[.int .i64 0,.string ⟨#[]⟩,.bool false,.int .i64 0] 36)
  have hz0:(w.alloc (.cells #[.int .i64 0,.string ⟨#[]⟩,.bool false,.int .i64 0] 36)).heap.size=w.heap.size+1:=by simp
  have hx8:x.toNat < 256:=x.toNat_lt
  obtain⟨xn,hxn⟩:∃ xn:Nat,x.toNat=xn:=⟨_,rfl⟩
  rw [hxn] at c0 hx8
  have hs1:=h.ext hB0
  obtain⟨W1,hW1⟩:∃ W1,w.alloc (.cells #[.int .i64 0,.string ⟨#[]⟩,.bool false,.int .i64 0] 36)=W1:=⟨_,rfl⟩
  rw [hW1] at hs1 hR0 hB0 hz0
  have c0':=(hB0.cell (p:=(bb o)) hbb).trans c0
  have HW1:=zH hW1
  have HR1:=zH hR0
  have HB1:=zH hB0
  have HZ1:=zH hz0
  have HLN:=zH hln
  clear hW1 hR0 hB0 hz0 h hln
  by_cases hx1:x=1
  ·subst hx1
   obtain rfl:1=xn:=hxn
   simp only [show ((1:Nat):Int)=1 from rfl] at c0 c0'
   obtain⟨q,m,z,hq⟩:∃ q m z,Pin.dec t=(q,m,z):=⟨_,_,_,rfl⟩
   have HD:=zH (fun a2 c2 (hs:SlB W1 a2 (n - 1) c2 t)=>zd_h false a2 (n - 1) c2 t W1 hs (by omega))
   unfold PDecP at HD
   rw [hq] at HD
   have HQ:=zH hq
   obtain⟨qh,qs,qx⟩:=q
   unfold pv at HD
   simp only at HD
   obtain⟨sq,hsq⟩:∃ sq,str qh=sq:=⟨_,rfl⟩
   rw [hsq] at HD
   have HSQ:=zH hsq
   clear hq hsq hx8
   by_cases hz:z ≠ 0
   ·have HR:=zH (Upt.dec_1a HQ.out hz)
    have t1:(z != 0)=true:=by simpa using hz
    have t2:(z == 0)=false:=by simpa using hz
    clear hz
    go_enter Tryz.func84,Tryz.ntmps84
    go_wp2_with (refine za_g rfl _ _ rfl rfl 1 _ rfl rfl (by rw [HW1.out];exact hs1) (by omega) ?_;intro a2 hsa2)
    rw [HW1.out] at hsa2 ⊢
    refine (HD.out _ _ hsa2).mono ?_;rintro e w2 ⟨rfl,hB2⟩
    have hR2:=HR1.out.ext hB2
    have hb2:=HB1.out.trans (hB2.mono HB1.out.size)
    obtain⟨⟨r0,r1,r2,r3⟩,fr,lr⟩:=hR2.al
    have HR3:=zH hR2
    have HB3:=zH hb2
    clear hR2 hb2
    go_wp2_with fail
    refine ret4 rfl rfl (set4a HR3.out _ _ _ _ _) rfl rfl (UDecP.of HR.out rfl ?_)
    exact (below4 HB3.out (zN _)).alloc (by simpa using HB3.out.size) _
   obtain rfl:z=0:=by simpa using hz
   have hmn:m<=t.length:=(Pin.enc_dec HQ.out).2.2
   have g0:(0:Int)<=(m:Int):=by omega
   have g1:(m:Int)<=1000000:=by have:=HLN.out;omega
   by_cases hm:m < t.length
   case' pos=>
    have HR:=zH (Upt.dec_1b HQ.out hm)
    have t1:((m:Int)+1 != (n:Int))=true:=bne_iff_ne.2 (by have:=HLN.out;omega)
    have t2:((m:Int)+1 == (n:Int))=false:=beq_eq_false_iff_ne.2 (by have:=HLN.out;omega)
    clear hm hz hmn
    go_enter Tryz.func84,Tryz.ntmps84
    go_wp2_with (refine za_g rfl _ _ rfl rfl 1 _ rfl rfl (by rw [HW1.out];exact hs1) (by omega) ?_;intro a2 hsa2)
    rw [HW1.out] at hsa2 ⊢
    refine (HD.out _ _ hsa2).mono ?_;rintro e w2 ⟨rfl,hB2⟩
    have hR2:=HR1.out.ext hB2
    have hb2:=HB1.out.trans (hB2.mono HB1.out.size)
    obtain⟨⟨r0,r1,r2,r3⟩,fr,lr⟩:=hR2.al
    have HR3:=zH hR2
    have HB3:=zH hb2
    clear hR2 hb2
    go_wp2_with fail
    refine ret4 rfl rfl (set4a HR3.out _ _ _ _ _) rfl rfl (UDecP.of HR.out rfl ?_)
   case' neg=>
    have HR:=zH (Upt.dec_1c HQ.out hm)
    have t1:((m:Int)+1 != (n:Int))=false:=by
     have:=HLN.out
     rw [show (m:Int)+1=(n:Int) by omega];simp
    have t2:((m:Int)+1 == (n:Int))=true:=beq_iff_eq.2 (by have:=HLN.out;omega)
    clear hm hz hmn
    go_enter Tryz.func84,Tryz.ntmps84
    go_wp2_with (refine za_g rfl _ _ rfl rfl 1 _ rfl rfl (by rw [HW1.out];exact hs1) (by omega) ?_;intro a2 hsa2)
    rw [HW1.out] at hsa2 ⊢
    refine (HD.out _ _ hsa2).mono ?_;rintro e w2 ⟨rfl,hB2⟩
    have hR2:=HR1.out.ext hB2
    have hb2:=HB1.out.trans (hB2.mono HB1.out.size)
    obtain⟨⟨r0,r1,r2,r3⟩,fr,lr⟩:=hR2.al
    have HR3:=zH hR2
    have HB3:=zH hb2
    clear hR2 hb2
    go_wp2_with fail
    refine ret4 rfl rfl (set4a HR3.out _ _ _ _ _) rfl rfl (UDecP.of HR.out (by unfold uv uc;simp only;rw [HSQ.out];rfl) ?_)
   all_goals
    exact (below4 HB3.out (zN _)).alloc (by simpa using HB3.out.size) _
  by_cases hx2:x=2
  ·subst hx2
   obtain rfl:2=xn:=hxn
   simp only [show ((2:Nat):Int)=2 from rfl] at c0 c0'
   obtain⟨q,m,z,hq⟩:∃ q m z,Wire.decT t=(q,m,z):=⟨_,_,_,rfl⟩
   have HD:=zH (fun a2 c2 (hs:SlB W1 a2 (n - 1) c2 t)=>zk_o false a2 (n - 1) c2 t W1 hs (by omega))
   rw [hq] at HD
   have HQ:=zH hq
   simp only at HD
   obtain⟨sq,hsq⟩:∃ sq,str q=sq:=⟨_,rfl⟩
   rw [hsq] at HD
   have HSQ:=zH hsq
   clear hq hsq hx8 hx1
   by_cases hz:z ≠ 0
   ·have HR:=zH (Upt.dec_2a HQ.out hz)
    have t1:(z != 0)=true:=by simpa using hz
    have t2:(z == 0)=false:=by simpa using hz
    clear hz
    go_enter Tryz.func84,Tryz.ntmps84
    go_wp2_with (refine za_g rfl _ _ rfl rfl 1 _ rfl rfl (by rw [HW1.out];exact hs1) (by omega) ?_;intro a2 hsa2)
    rw [HW1.out] at hsa2 ⊢
    refine (HD.out _ _ hsa2).mono ?_;rintro e w2 ⟨rfl,rfl⟩
    obtain⟨⟨r0,r1,r2,r3⟩,fr,lr⟩:=HR1.out.al
    go_wp2_with fail
    refine ret4 rfl rfl (set4 HR1.out _ _ _ _) rfl rfl (UDecP.of HR.out rfl ?_)
    exact below4 HB1.out (zN _)
   obtain rfl:z=0:=by simpa using hz
   obtain⟨-,hmn,hql,-,-⟩:=Wire.txt_decT HQ.out
   have g0:(0:Int)<=(m:Int):=by omega
   have g1:(m:Int)<=1000000:=by have:=HLN.out;omega
   by_cases hm:m < t.length
   ·have HR:=zH (Upt.dec_2b HQ.out hm)
    have t1:((m:Int)+1 != (n:Int))=true:=bne_iff_ne.2 (by have:=HLN.out;omega)
    have t2:((m:Int)+1 == (n:Int))=false:=beq_eq_false_iff_ne.2 (by have:=HLN.out;omega)
    clear hm hz hmn
    go_enter Tryz.func84,Tryz.ntmps84
    go_wp2_with (refine za_g rfl _ _ rfl rfl 1 _ rfl rfl (by rw [HW1.out];exact hs1) (by omega) ?_;intro a2 hsa2)
    rw [HW1.out] at hsa2 ⊢
    refine (HD.out _ _ hsa2).mono ?_;rintro e w2 ⟨rfl,rfl⟩
    obtain⟨⟨r0,r1,r2,r3⟩,fr,lr⟩:=HR1.out.al
    go_wp2_with fail
    refine ret4 rfl rfl (set4 HR1.out _ _ _ _) rfl rfl (UDecP.of HR.out rfl ?_)
    exact below4 HB1.out (zN _)
   have t1:((m:Int)+1 != (n:Int))=false:=by
    have:=HLN.out
    rw [show (m:Int)+1=(n:Int) by omega];simp
   have t2:((m:Int)+1 == (n:Int))=true:=beq_iff_eq.2 (by have:=HLN.out;omega)
   have HV:=zH (fun W=>zb_s q (by omega) W)
   rw [HSQ.out] at HV
   cases hnm:Host.name q with
  |false =>
    have HR:=zH (Upt.dec_2c HQ.out hm hnm)
    rw [hnm] at HV
    clear hm hz hmn hql hnm
    go_enter Tryz.func84,Tryz.ntmps84
    go_wp2_with (refine za_g rfl _ _ rfl rfl 1 _ rfl rfl (by rw [HW1.out];exact hs1) (by omega) ?_;intro a2 hsa2)
    rw [HW1.out] at hsa2 ⊢
    refine (HD.out _ _ hsa2).mono ?_;rintro e w2 ⟨rfl,rfl⟩
    obtain⟨⟨r0,r1,r2,r3⟩,fr,lr⟩:=HR1.out.al
    go_wp2_with fail
    refine (HV.out _).mono ?_;rintro e w4 ⟨rfl,hB4⟩
    have hR5:=HR1.out.ext hB4
    clear r0 r1 r2 r3 fr lr
    obtain⟨⟨r0,r1,r2,r3⟩,fr,lr⟩:=hR5.al
    have HR5:=zH hR5
    have HB5:=zH (HB1.out.trans (Below.mono hB4 HB1.out.size))
    clear hR5
    go_wp2_with fail
    refine ret4 rfl rfl (set4 HR5.out _ _ _ _) rfl rfl (UDecP.of HR.out rfl ?_)
    exact below4 HB5.out (zN _)
  |true =>
    have HR:=zH (Upt.dec_2d HQ.out hm hnm)
    rw [hnm] at HV
    clear hm hz hmn hql hnm
    go_enter Tryz.func84,Tryz.ntmps84
    go_wp2_with (refine za_g rfl _ _ rfl rfl 1 _ rfl rfl (by rw [HW1.out];exact hs1) (by omega) ?_;intro a2 hsa2)
    rw [HW1.out] at hsa2 ⊢
    refine (HD.out _ _ hsa2).mono ?_;rintro e w2 ⟨rfl,rfl⟩
    obtain⟨⟨r0,r1,r2,r3⟩,fr,lr⟩:=HR1.out.al
    go_wp2_with fail
    refine (HV.out _).mono ?_;rintro e w4 ⟨rfl,hB4⟩
    have hR5:=HR1.out.ext hB4
    clear r0 r1 r2 r3 fr lr
    obtain⟨⟨r0,r1,r2,r3⟩,fr,lr⟩:=hR5.al
    have HR5:=zH hR5
    have HB5:=zH (HB1.out.trans (Below.mono hB4 HB1.out.size))
    clear hR5
    go_wp2_with fail
    refine ret4 rfl rfl (set4 HR5.out _ _ _ _) rfl rfl (UDecP.of HR.out (by unfold uv uc;simp only;rw [HSQ.out];rfl) ?_)
    exact below4 HB5.out (zN _)
  have hx1':xn ≠ 1:=fun e=>hx1 (UInt8.toNat_inj.1 (hxn.trans e))
  have hx2':xn ≠ 2:=fun e=>hx2 (UInt8.toNat_inj.1 (hxn.trans e))
  have HR:=zH (Upt.dec_o (t:=t) hx1 hx2)
  have t1:((xn:Int) == 1)=false:=beq_eq_false_iff_ne.2 (by omega)
  have t2:((xn:Int) == 2)=false:=beq_eq_false_iff_ne.2 (by omega)
  clear hx1 hx2 hx1' hx2' hxn hs1
  go_enter Tryz.func84,Tryz.ntmps84
  go_wp2_with fail
  refine bodyPost_ret (v:=.tuple #[.agg #[.int .i64 0,.string ⟨#[]⟩,.bool false,.int .i64 0],.int .i64 6]) (by simp [results,Tryz.results84,go_sem]) rfl (UDecP.of HR.out rfl ?_)
  rw [HW1.out]
  exact HB1.out
end
end Go.Proofs.YtmanejniepghlaaGreatDoor
