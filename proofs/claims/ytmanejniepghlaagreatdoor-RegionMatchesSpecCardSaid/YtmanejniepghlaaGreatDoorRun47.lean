import Derived.Test.YtmanejniepghlaaGreatDoorRun46
import Derived.Test.YtmanejniepghlaaGreatDoorRun28
import Derived.Test.YtmanejniepghlaaGreatDoorRun38
import Derived.Deep.RegionHeld3
import Derived.Test.YtmanejniepghlaaGreatDoorRun29
set_option maxHeartbeats 8000000
set_option maxRecDepth 100000
namespace Go.Proofs.YtmanejniepghlaaGreatDoor
section
open Go.RowKit
variable {w w':World} {cb fc fn g q sb sc:Nat} {L L':AO.L} {F:Nat->Prop} {fa:Option Addr} {d d':Dd.Dk} {z:Int}
def EB (w:World) (q g:Nat) (L:AO.L):Prop :=
 w.heap[q]?=some (.cells #[.pointer g,L.f,L.c,.int .u32 (L.ep:Nat),.int .i64 (L.en:Nat),.int .i64 (L.rc:Nat),.int .i64 (L.sy:Nat),.bool L.fl] 181 (0,0))
theorem EB.lt (h:EB w q g L):q < w.heap.size:=Qa h
theorem EB.same (h:EB w q g L) (e:w'.heap[q]?=w.heap[q]?):EB w' q g L:=e.trans h
theorem EB.ext (h:EB w q g L) (e:Below w.heap.size w w'):EB w' q g L:=h.same (e.block _ h.lt)
theorem EB.cells (h:EB w q g L):w.cell? q=some (.pointer g)/\w.cell? (q 1)=some (L.f:Value)/\w.cell? (q 2)=some (L.c:Value)/\w.cell? (q 3)=some (.int .u32 (L.ep:Nat)) ∧
 w.cell? (q 4)=some (.int .i64 (L.en:Nat))/\w.cell? (q 5)=some (.int .i64 (L.rc:Nat))/\w.cell? (q 6)=some (.int .i64 (L.sy:Nat))/\w.cell? (q 7)=some (.bool L.fl):=by
 refine⟨?_,?_,?_,?_,?_,?_,?_,?_⟩ <;> rw [cell_of_row _ _ _ _ _ _ h] <;> rfl
theorem EB.free (h:EB w q g L) (k:Nat):w.frozen? (q k)=false:=frozen_of_row _ _ _ _ _ h
theorem Ut (h:EB w q g L):Calls Tryz.prog 89 #[.pointer q] w fun e w'=>e=.returned (.bool L.fl)/\w=w':=by
 have a:=h.cells.2.2.2.2.2.2.2
 go_in
 go_wp2
 go_ret
 exact⟨rfl,rfl⟩
structure RW (F:Nat->Prop) (w:World) (q g sb cb sc:Nat) (fa:Option Addr) (fn fc:Nat) (L:AO.L) (d:Dd.Dk):Prop where
 disk:RD F w g sb cb sc fa fn fc d
 log:EB w q g L
 apart:¬ F q
theorem EB.YE (h:EB w q g L) (b:Bool):EB (w.setCell (q 7) (.bool b)) q g { L with fl:=b }:=by unfold EB;rw [heap_setCell_same _ _ _ _ _ _ h];rfl
theorem EB.ZE (h:EB w q g L) (n:Nat):EB (w.setCell (q 6) (n:Value)) q g { L with sy:=n }:=by unfold EB;rw [heap_setCell_same _ _ _ _ _ _ h];rfl
theorem EB.ZB (h:EB w q g L) (n:Nat):EB (w.setCell (q 4) (n:Value)) q g { L with en:=n }:=by unfold EB;rw [heap_setCell_same _ _ _ _ _ _ h];rfl
theorem EB.ZD (h:EB w q g L) (n:Nat):EB (w.setCell (q 5) (n:Value)) q g { L with rc:=n }:=by unfold EB;rw [heap_setCell_same _ _ _ _ _ _ h];rfl
theorem RD.other (h:RD F w g sb cb sc fa fn fc d) {b:Nat} (a:¬ F b) (o:Nat) (v:Value):RD F (w.setCell (b o) v) g sb cb sc fa fn fc d :=
 h.AI (fun k c=>heap_setCell_other _ _ _ _ (by rintro rfl;exact a c)) (by simp)
theorem Lo (h:RW F w q g sb cb sc fa fn fc L d) (hr:AO.sync L d=(z,L',d')) :
 Calls Tryz.prog 88 #[.pointer q] w fun e w'=>e=.returned (z:Value)/\RW F w' q g sb cb sc fa fn fc L' d'/\AD (fun k=>F k\/k=q) w (fun k=>F k\/k=q) w':=by
 obtain⟨u,-,-,-,-,x,y,p⟩:=h.log.cells
 unfold AO.sync at hr
 by_cases f:L.fl=true
 ·rw [if_pos f] at hr
  cases hr
  rw [f] at p
  go_in
  go_wp2
  go_ret
  exact⟨rfl,h,AD.refl _ _⟩
 rw [if_neg f] at hr
 have s:L.fl=false:=by simpa using f
 rw [s] at p
 obtain⟨j,r,hs⟩:∃ j r,Dd.sync d=(j,r):=⟨_,_,rfl⟩
 rw [hs] at hr
 simp only at hr
 have o:=Wc h.disk
 rw [hs] at o
 have m:=zH o
 have n:=h.log.lt
 have b:=h.apart
 by_cases i:j=0
 ·subst i
  rw [if_pos rfl] at hr
  cases hr
  go_in
  go_wp2_with (go_at_call 92;go_must (refine m.out.mono ?_);rintro e t ⟨rfl,l,c⟩;have a:=h.log.same (c.block q n b);have B:=a.cells.2.2.2.2.2.1;have C:=a.cells.2.2.2.2.2.2.1;have f6:=a.free 6)
  go_ret
  exact⟨rfl,⟨l.other b _ _,a.ZE L.rc,b⟩,(c.beside q).setCell (.inl (.inr rfl)) _ _⟩
 ·have A:(j != 0)=true:=by simpa using i
  rw [if_neg i] at hr
  cases hr
  clear i
  go_in
  go_wp2_with (go_at_call 92;go_must (refine m.out.mono ?_);rintro e t ⟨rfl,l,c⟩;have a:=h.log.same (c.block q n b);have G:=a.cells.2.2.2.2.2.2.2;have f7:=a.free 7)
  go_ret
  exact⟨rfl,⟨l.other b _ _,a.YE true,b⟩,(c.beside q).setCell (.inl (.inr rfl)) _ _⟩
theorem Ch (h:RW F w q g sb cb sc fa fn fc L d) (hfit:AO.OT L) (a:Option Addr) (n ca:Nat) (p:List UInt8) (hp:AM w a n ca p) (hr:AO.append L d p=(z,L',d')) :
 Calls Tryz.prog 87 #[.pointer q,.slice a n ca] w fun e w'=>e=.returned (z:Value)/\∃ U,RW U w' q g sb cb sc fa fn fc L' d'/\AD (fun k=>F k\/k=q) w (fun k=>U k\/k=q) w':=by
 obtain⟨c0,c1,c2,c3,c4,c5,c6,c7⟩:=h.log.cells
 have zo:=hp.len
 have zn:=hp.le
 have zh:=h.log.lt
 have J:=h.apart
 obtain⟨f1,f2,f3,f4,f5,f6,f7⟩:=hfit
 unfold AO.append at hr
 by_cases O:L.fl=true
 ·rw [if_pos O] at hr
  cases hr
  rw [O] at c7
  go_in
  go_wp2
  go_ret
  exact⟨rfl,F,h,AD.refl _ _⟩
 rw [if_neg O] at hr
 have zl:L.fl=false:=by simpa using O
 rw [zl] at c7
 have w3:IntKind.u32.wrap (L.rc:Int)=(L.rc:Int):=by unfold IntKind.wrap;simp [IntKind.bits,IntKind.signed];omega
 by_cases za:1024 < p.length
 ·rw [if_pos za] at hr
  cases hr
  have M:=zH (fun W=>Vb L.ep L.rc a n ca W (by omega) zn)
  clear za O
  go_in
  go_wp2_with fail
  go_region_held3 (fun w'=>w'.cell? (q 3)=some (.int .u32 (L.ep:Nat))/\w'.cell? (q 5)=some (.int .i64 (L.rc:Nat))) (first|exact⟨c3,c5⟩) (first
  |(go_at_call 143;go_must (refine (M.out _).mono ?_);rintro e t ⟨rfl,rfl⟩))
  go_wp2_with fail
  go_ret
  exact⟨rfl,F,⟨h.disk.AI (fun _ _=>rfl) (zN _),h.log,J⟩,(AD.refl _ _).drew⟩
 rw [if_neg za] at hr
 have zb:=Fr.CK L.ep L.rc p
 have M:=zH (fun W (e:Below w.heap.size w W)=>Kk L.ep L.rc f3 (by omega) a n ca p W (hp.ext e) (by omega))
 have zc:=zH (fun W=>Yn L.f L.c f2 W)
 obtain⟨N,zm⟩:∃ N,Fr.enc L.ep L.rc p=N:=⟨_,rfl⟩
 rw [zm] at zb M hr
 obtain⟨m,hm⟩:∃ m,m=14+p.length:=⟨_,rfl⟩
 rw [<-hm] at zb hr
 have H:=zH zb
 have I:Below w.heap.size w w.drew:=Below.drew (Below.refl _ _)
 have zp:m<=2000:=by omega
 obtain⟨Y,hsz⟩:∃ Y,Ex.size L.c=Y:=⟨_,rfl⟩
 rw [hsz] at f6 f7 hr zc
 clear zb hsz za O hm zo
 have zq:IntKind.i64.wrap (Y - (L.en:Int))=Y - (L.en:Int):=by rw [IntKind.wrap_i64];omega
 by_cases zg:Y - (L.en:Int) < (m:Int)
 ·rw [if_pos zg] at hr
  cases hr
  go_in
  go_wp2_with fail
  go_region_held3 (fun w'=>w'.cell? (q 3)=some (.int .u32 (L.ep:Nat))/\w'.cell? (q 5)=some (.int .i64 (L.rc:Nat))) (first|exact⟨c3,c5⟩|exact⟨a3,a5⟩) (first
  |(go_at_call 143;go_must (refine (M.out _ I).mono ?_);rintro e t ⟨v1,rfl,Q,R⟩;have r:Below w.heap.size w t:=I.trans R;obtain⟨a1,u,rfl,A,zd⟩:=Q.sl;rw [H.out] at A;rw [H.out];have i:=h.log.ext r;have a3:=i.cells.2.2.2.1;have a5:=i.cells.2.2.2.2.2.1;have Z:=i.cells.2.1;have x2:=i.cells.2.2.1;have x4:=i.cells.2.2.2.2.1))
  go_wp2_with fail
  go_region_held3 (fun w'=>w'.cell? (q 1)=some (L.f:Value)/\w'.cell? (q 2)=some (L.c:Value)/\w'.cell? (q 4)=some (.int .i64 (L.en:Nat))) (first|exact⟨Z,x2,x4⟩|exact⟨B,C,G⟩) (first
  |(go_at_call 79;go_must (refine (zc.out _).mono ?_);rintro e o ⟨rfl,T⟩;have l:Below w.heap.size w o:=(Below.drew r).trans (T.mono r.size);have j:=h.log.ext l;have B:=j.cells.2.1;have C:=j.cells.2.2.1;have G:=j.cells.2.2.2.2.1))
  go_wp2_with fail
  go_ret
  exact⟨rfl,F,⟨h.disk.ext l,j,J⟩,AD.AL l⟩
 rw [if_neg zg] at hr
 obtain⟨z1,d1,hw⟩:∃ z1 d1,Ex.write d L.f L.c L.en N=(z1,d1):=⟨_,_,rfl⟩
 rw [hw] at hr
 simp only at hr
 have HW:Hid (∀ (W:World),Below w.heap.size w W->∀ (b:Option Addr) (k:Nat),AM W b m k N->(∀ y,b=some y->N ≠ []->¬ F y.block)->Calls Tryz.prog 91 #[.pointer g,.agg #[L.f,L.c],.int .i64 (L.en:Nat),.slice b m k] W fun e w'=>e=.returned (z1:Value)/\∃ U,RD U w' g sb cb sc fa fn fc d1/\AD F W U w'):=zH (fun W e b k hs hF=>by
  have:=Wd (h.disk.ext e) L.f L.c L.en f1 f2 ⟨by omega,by omega⟩ b m k N hs hF
  unfold DS at this;rw [hw] at this;exact this)
 clear hw
 by_cases hz:z1=0
 ·subst hz
  rw [if_pos rfl] at hr
  cases hr
  go_in
  go_wp2_with fail
  go_region_held3 (fun w'=>w'.cell? (q 3)=some (.int .u32 (L.ep:Nat))/\w'.cell? (q 5)=some (.int .i64 (L.rc:Nat))) (first|exact⟨c3,c5⟩|exact⟨a3,a5⟩) (first
  |(go_at_call 143;go_must (refine (M.out _ I).mono ?_);rintro e t ⟨v1,rfl,Q,R⟩;have r:Below w.heap.size w t:=I.trans R;obtain⟨a1,u,rfl,A,zd⟩:=Q.sl;rw [H.out] at A;rw [H.out];have i:=h.log.ext r;have a3:=i.cells.2.2.2.1;have a5:=i.cells.2.2.2.2.2.1;have Z:=i.cells.2.1;have x2:=i.cells.2.2.1;have x4:=i.cells.2.2.2.2.1))
  go_wp2_with fail
  go_region_held3 (fun w'=>w'.cell? (q 1)=some (L.f:Value)/\w'.cell? (q 2)=some (L.c:Value)/\w'.cell? (q 4)=some (.int .i64 (L.en:Nat))) (first|exact⟨Z,x2,x4⟩|exact⟨B,C,G⟩) (first
  |(go_at_call 79;go_must (refine (zc.out _).mono ?_);rintro e o ⟨rfl,T⟩;have P:Below t.heap.size t o:=(Below.drew (Below.refl _ _)).trans T;have l:Below w.heap.size w o:=r.trans (P.mono r.size);have j:=h.log.ext l;have y0:=j.cells.1;have B:=j.cells.2.1;have C:=j.cells.2.2.1;have G:=j.cells.2.2.2.2.1))
  go_wp2_with fail
  have ze:=zH (HW.out o.drew (Below.drew l) a1 u ((A.ext P).AI (fun _ _ _=>rfl) (zN _)) (fun y hy _ e=>by have u:=(zd y hy).2.1;have k2:=h.disk.lt _ e;have k3:w.drew.heap.size=w.heap.size:=rfl;omega))
  go_region_held3 (fun w'=>w'.cell? q=some (.pointer g)/\w'.cell? (q 1)=some (L.f:Value)/\w'.cell? (q 2)=some (L.c:Value)/\w'.cell? (q 4)=some (.int .i64 (L.en:Nat))) (first|exact⟨y0,B,C,G⟩|exact⟨u0,u1,u2,u4⟩) (first
  |(go_at_call 91;go_must (refine ze.out.mono ?_);rintro e w3 ⟨rfl,X,zf,x⟩;have K:¬ X q:=(fun e=>by rcases x.new q e with e|e;exact J e;have u:=l.size;have k2:o.drew.heap.size=o.heap.size:=rfl;omega);have s:EB w3 q g L:=EB.same (w:=o.drew) j (x.block q (Nat.lt_of_lt_of_le zh l.size) J);obtain⟨u0,u1,u2,u3,u4,u5,u6,u7⟩:=s.cells;have zi:=s.free 4;have zj:=s.free 5;have zk:=s.free 7))
  go_wp2_with fail
  go_ret
  have g1:=(s.ZB (L.en+m)).ZD (L.rc+1)
  refine⟨rfl,X,⟨(zf.other K _ _).other K _ _,?_,K⟩,((((AD.AL l).drew).trans x).beside q).setCell (.inl (.inr rfl)) _ _ |>.setCell (.inl (.inr rfl)) _ _⟩
  simpa using g1
 ·have t1:(z1 != 0)=true:=by simpa using hz
  rw [if_neg hz] at hr
  cases hr
  clear hz
  go_in
  go_wp2_with fail
  go_region_held3 (fun w'=>w'.cell? (q 3)=some (.int .u32 (L.ep:Nat))/\w'.cell? (q 5)=some (.int .i64 (L.rc:Nat))) (first|exact⟨c3,c5⟩|exact⟨a3,a5⟩) (first
  |(go_at_call 143;go_must (refine (M.out _ I).mono ?_);rintro e t ⟨v1,rfl,Q,R⟩;have r:Below w.heap.size w t:=I.trans R;obtain⟨a1,u,rfl,A,zd⟩:=Q.sl;rw [H.out] at A;rw [H.out];have i:=h.log.ext r;have a3:=i.cells.2.2.2.1;have a5:=i.cells.2.2.2.2.2.1;have Z:=i.cells.2.1;have x2:=i.cells.2.2.1;have x4:=i.cells.2.2.2.2.1))
  go_wp2_with fail
  go_region_held3 (fun w'=>w'.cell? (q 1)=some (L.f:Value)/\w'.cell? (q 2)=some (L.c:Value)/\w'.cell? (q 4)=some (.int .i64 (L.en:Nat))) (first|exact⟨Z,x2,x4⟩|exact⟨B,C,G⟩) (first
  |(go_at_call 79;go_must (refine (zc.out _).mono ?_);rintro e o ⟨rfl,T⟩;have P:Below t.heap.size t o:=(Below.drew (Below.refl _ _)).trans T;have l:Below w.heap.size w o:=r.trans (P.mono r.size);have j:=h.log.ext l;have y0:=j.cells.1;have B:=j.cells.2.1;have C:=j.cells.2.2.1;have G:=j.cells.2.2.2.2.1))
  go_wp2_with fail
  have ze:=zH (HW.out o.drew (Below.drew l) a1 u ((A.ext P).AI (fun _ _ _=>rfl) (zN _)) (fun y hy _ e=>by have u:=(zd y hy).2.1;have k2:=h.disk.lt _ e;have k3:w.drew.heap.size=w.heap.size:=rfl;omega))
  go_region_held3 (fun w'=>w'.cell? q=some (.pointer g)/\w'.cell? (q 1)=some (L.f:Value)/\w'.cell? (q 2)=some (L.c:Value)/\w'.cell? (q 4)=some (.int .i64 (L.en:Nat))) (first|exact⟨y0,B,C,G⟩|exact⟨u0,u1,u2,u4⟩) (first
  |(go_at_call 91;go_must (refine ze.out.mono ?_);rintro e w3 ⟨rfl,X,zf,x⟩;have K:¬ X q:=(fun e=>by rcases x.new q e with e|e;exact J e;have u:=l.size;have k2:o.drew.heap.size=o.heap.size:=rfl;omega);have s:EB w3 q g L:=EB.same (w:=o.drew) j (x.block q (Nat.lt_of_lt_of_le zh l.size) J);obtain⟨u0,u1,u2,u3,u4,u5,u6,u7⟩:=s.cells;have zi:=s.free 4;have zj:=s.free 5;have zk:=s.free 7))
  go_wp2_with fail
  go_ret
  exact⟨rfl,X,⟨zf.other K _ _,s.YE true,K⟩,((((AD.AL l).drew).trans x).beside q).setCell (.inl (.inr rfl)) _ _⟩
end
section
open Go.RowKit
def JN (F:Nat->Prop) (w:World) (g f b sc:Nat) (c:Option Addr) (fn d:Nat) (r:Option AO.L × List (List UInt8) × Int × Dd.Dk) (e:Ending) (w':World):Prop :=
 match r with
|(none,_,z,d')=>e=.returned (.tuple #[.pointer none,.slice none 0 0,z])/\∃ a,RD a w' g f b sc c fn d d'/\AD F w a w'
|(some L,ps,z,d')=>∃ a q v,e=.returned (.tuple #[.pointer (q:Nat),v,z])/\w.heap.size<=q/\BR w.heap.size w' v ps/\RW a w' q g f b sc c fn d L d'/\AD F w a w'
theorem Cp (n:Nat) (hn:n<=1000000) (w:World):∃ b c,Sem.run Tryz.prog (Instr.makeSlice 70 (n:Value) (n:Value)) w=.ok (Value.slice w.heap.size n c) b/\AM b w.heap.size n c (List.replicate n 0)/\Below w.heap.size w b:=by
 obtain⟨o,l,g,h,i⟩:=info_parts JX
 obtain⟨b,f,d,p⟩:=run_make_full (P:=Tryz.prog) w w.heap.size 70 5 o (.int .u8 0) 1 Tryz.underlying70 l g h .i64 .i64 n (by rw [i];omega) (by unfold maxLen;omega) (zN _)
 rw [QH n] at d
 have j:AC w.heap.size b (.slice w.heap.size n n) (List.replicate n 0):=by unfold AC;rw [List.length_replicate];exact d
 obtain⟨a,c,e,hs,-⟩:=j.sl
 rw [List.length_replicate] at e hs
 refine⟨b,n,f,?_,(Below.refl _ _).grown p (zN _) (fun k m=>by cases m)⟩
 cases e;exact hs
theorem Ln {F:Nat->Prop} {w:World} {g sb cb sc:Nat} {fa:Option Addr} {fn fc:Nat} {d:Dd.Dk} (h:RD F w g sb cb sc fa fn fc d) (f c:Int) (hf:ib f) (hc:ib c) (ep:Nat) (yy:ep < 4294967296) (hn:d.st.length<=1000) :
 Calls Tryz.prog 83 #[.pointer g,.agg #[f,c],.int .u32 (ep:Nat)] w (JN F w g sb cb sc fa fn fc (AO.open d f c ep)):=by
 have hb:=(Below.refl _ w).alloc (zN _) (.cells #[f,c] 23)
 have HV:=zH (Nr (h.ext ((Below.refl _ w).alloc (zN _) (.cells #[f,c] 23))) f c)
 have yb:FC (w.alloc (.cells #[f,c] 23)) w.heap.size f c:=Qb _ _ _ rfl
 have zn:(w.alloc (.cells #[f,c] 23)).heap.size=w.heap.size+1:=by simp
 obtain⟨b,z,d1,hr⟩:∃ b z d1,Ex.read d f c 0 (Ex.size c)=(b,z,d1):=⟨_,_,_,rfl⟩
 obtain⟨vb,zx⟩:∃ vb,Ex.AB d.st.length f c=vb:=⟨_,rfl⟩
 rw [zx] at HV
 cases vb with
|false =>
  have yu:Ex.read d f c 0 (Ex.size c)=([],1,d):=by
   unfold Ex.read Ex.check
   rw [zx];simp
  have HO:=zH (AO.DH (ep:=ep) yu (by decide))
  clear yu zx hr
  go_in
  go_wp2_with (go_at_call 138;go_must (refine HV.out.mono ?_);rintro e1 s ⟨rfl,H⟩)
  go_ret3
  rw [HO.out]
  have hB:=hb.trans (H.mono (by rw [zn];exact Nat.le_succ _))
  exact⟨rfl,F,h.ext hB,AD.AL hB⟩
|true =>
  clear zx
  have zr:=zH (fun W=>Yn f c hc W)
  have zq:=zH (fun W (e:Below w.heap.size w W)=>by
   have:=Cc (h.ext e) f c 0 (Ex.size c) hf hc ⟨by decide,by decide⟩ (Gr c)
   unfold FM at this;rw [hr] at this;exact this)
  have Z:=zH hr
  obtain⟨sz,hsz⟩:∃ sz,Ex.size c=sz:=⟨_,rfl⟩
  have xe:=zH hsz
  rw [hsz] at zr zq
  have yi:=h.lt
  have yg:=zH (fun hz:z=0=>AO.KJ h.ok hn (by rw [hr,hz]))
  clear hr hsz
  have q0:=yb.cells.1
  by_cases hz:z=0
  ·subst hz
   obtain⟨r1,r2,r3⟩:=yg.out rfl
   obtain⟨j,yq⟩:∃ j,j=(Fr.scan b ep).2:=⟨_,rfl⟩
   obtain⟨P,yt⟩:∃ P,P=(Fr.scan b ep).1:=⟨_,rfl⟩
   have zo:Fr.scan b ep=(P,j):=by rw [yq,yt]
   have ys:=Fr.MX b ep
   rw [zo] at ys
   obtain⟨l1,l2⟩:=ys
   simp only at l1 l2
   have yn:=zH zo
   obtain⟨N,hN⟩:∃ N,b.length=N:=⟨_,rfl⟩
   rw [hN] at r1 r2 l1
   have HN:=zH hN
   obtain⟨T,O,he⟩:∃ T O,AO.erase d1 f c j (b.drop j)=(T,O):=⟨_,_,rfl⟩
   have zd:=zH (show AO.erase d1 f c (Fr.scan b ep).2 (b.drop (Fr.scan b ep).2)=(T,O) by rw [zo];exact he)
   have HE:=zH he
   have ym:=zH (fun W (a:Option Addr) (k:Nat) (hs:AM W a N k b)=>by
    have:=Bb a N k b ep yy W hs (by omega)
    unfold EO at this;rw [zo] at this;exact this)
   clear zo yq yt hN he r3 yg
   go_in
   go_wp2_with (go_at_call 138;go_must (refine HV.out.mono ?_);rintro e1 s ⟨rfl,H⟩)
   have zf:Below w.heap.size w s:=hb.trans (H.mono (by rw [zn];exact Nat.le_succ _))
   have C:FC s w.heap.size f c:=(H.block _ (by rw [zn];exact Nat.lt_succ_self _)).trans yb
   obtain⟨Q,R⟩:=C.cells
   go_region_held3 (fun l=>l.cell? w.heap.size=some (f:Value)/\l.cell? (w.heap.size 1)=some (c:Value)) (first|exact⟨Q,R⟩|exact⟨u0,u1⟩|exact⟨y0,y1⟩) (first
   |(go_at_call 79;go_must (refine (zr.out _).mono ?_);rintro e2 w2 ⟨rfl,zt⟩;have U:Below s.heap.size s w2:=(Below.drew (Below.refl _ _)).trans zt;have za:=zf.trans (U.mono zf.size);have G:FC w2 w.heap.size f c:=(U.block _ (Qa C)).trans C;obtain⟨u0,u1⟩:=G.cells)
   |(go_at_call 80;go_must (refine (zq.out _ za).mono ?_);rintro e3 w3 ⟨v3,rfl,zs,zh,J⟩;obtain⟨g3,c3,rfl,xg,xh,zw⟩:=Un zs N HN.out (by omega);have X:FC w3 w.heap.size f c:=(J.block _ (Qa G) (fun e=>Nat.lt_irrefl _ (yi _ e))).trans G;obtain⟨y0,y1⟩:=X.cells))
   go_wp2_with (go_at_call 139;go_must (refine (ym.out _ _ _ zw).mono ?_);rintro e4 w4 ⟨v4,rfl,yp,zm⟩)
   have zj:AD F w F w4:=((AD.AL za).trans J).ext zm
   have yf:=zh.ext zm
   have xa:=zw.ext zm
   have I:FC w4 w.heap.size f c:=(zm.block _ (Qa X)).trans X
   have yl:w.heap.size<=w3.heap.size:=Nat.le_trans za.size J.size
   have yo:∀ k,F k->k < w3.heap.size:=zh.lt
   clear zs zh zw X G C y0 y1 u0 u1 Q R H zt U zr zq ym HV J zm
   obtain⟨Q,R⟩:=I.cells
   have zu:¬ F w.heap.size:=fun e=>Nat.lt_irrefl _ (yi _ e)
   have HZ:=zH (fun (k:Nat) (hk:j+k < N)=>Hr b j k (by rw [HN.out];exact hk))
   go_loopw [13,14] (fun cl i wr=>∃ k:Nat,j+k<=N/\i=.int .i64 ((j+k:Nat):Int)/\cl=.bool (zeros ((b.drop j).take k))/\wr=w4) (fun _ i _=>N - (intOf i).toNat)
   case atStart=>exact⟨0,l1,rfl,rfl,rfl⟩
   case round =>
    obtain⟨k,hk,rfl,rfl,rfl⟩:=hrel
    by_cases zv:j+k < N
    ·obtain⟨_,_,e5,-,-,cB⟩:=xa.at zv
     cases e5
     have M:=HZ.out k zv
     obtain⟨zk,yj⟩:∃ zk,zeros ((b.drop j).take k)=zk:=⟨_,rfl⟩
     obtain⟨yv,ye⟩:∃ yv,zeros ((b.drop j).take (k+1))=yv:=⟨_,rfl⟩
     rw [yj,ye] at M
     obtain⟨x,hx⟩:∃ x,b[j+k]?.getD 0=x:=⟨_,rfl⟩
     rw [hx] at cB M
     rw [yj]
     have HK:=zH (And.intro M ye)
     obtain⟨p,hp⟩:∃ p,p=j+k:=⟨_,rfl⟩
     rw [<-hp] at zv cB hk
     rw [Nat.zero_add] at cB
     rw [<-hp]
     have Y:=zH hp
     have i0:(0:Int)<=(p:Int):=by omega
     have i1:(p:Int) < (N:Int):=by omega
     clear M yj ye hx hp
     cases zk with
    |false =>
      go_wp2
      exact⟨⟨k+1,by have:=Y.out;omega,by have:=Y.out;rw [show j+(k+1)=p+1 by omega];go_num,by rw [HK.out.2,HK.out.1];rfl,trivial⟩,by simp [intOf];omega⟩
    |true =>
      by_cases zy:x=0
      ·subst zy
       have xf:wr.cell? _=some (.int .u8 0):=cB
       clear cB
       go_wp2
       exact⟨⟨k+1,by have:=Y.out;omega,by have:=Y.out;rw [show j+(k+1)=p+1 by omega];go_num,by rw [HK.out.2,HK.out.1];rfl,trivial⟩,by simp [intOf];omega⟩
      ·have tx:((x.toNat:Int) == 0)=false:=by
        apply beq_eq_false_iff_ne.2
        intro e9;exact zy (UInt8.toNat_inj.1 (by simpa using e9))
       have tb:(x == 0)=false:=by simpa using zy
       have yw:=zH tb
       clear zy tb
       go_wp2
       exact⟨⟨k+1,by have:=Y.out;omega,by have:=Y.out;rw [show j+(k+1)=p+1 by omega];go_num,by rw [HK.out.2,HK.out.1,yw.out];rfl,trivial⟩,by simp [intOf];omega⟩
    ·have yr:j+k=N:=by omega
     have yk:(b.drop j).take k=b.drop j:=List.take_of_length_le (by rw [List.length_drop,HN.out];omega)
     rw [yk,yr]
     have r:=HE.out
     unfold AO.erase at r
     obtain⟨zz,M⟩:∃ zz,zeros (b.drop j)=zz:=⟨_,rfl⟩
     rw [M] at r ⊢
     clear yk yr M HZ zv hk
     cases zz with
    |true =>
      rw [if_pos rfl] at r
      have e1:T=0:=(congrArg Prod.fst r).symm
      have e2:O=d1:=(congrArg Prod.snd r).symm
      clear r HE
      subst e1
      subst e2
      have zi:=yf
      have t:AD F wr F wr:=AD.refl _ _
      obtain⟨z3,d3,hs⟩:∃ z3 d3,Dd.sync O=(z3,d3):=⟨_,_,rfl⟩
      have A:=Wc zi
      rw [hs] at A
      have ze:=zH A
      by_cases B:z3=0
      ·subst B
       have n:=zH (AO.EK Z.out zd.out hs)
       rw [yn.out] at n
       clear hs A
       go_wp2_with (go_at_call 92;go_must (refine ze.out.mono ?_);rintro e6 o ⟨rfl,u,q⟩;have yd:FC o w.heap.size f c:=((t.trans q).block w.heap.size (Qa I) zu).trans I;obtain⟨y0,y1⟩:=yd.cells;have zg:=(yp.keep (fun k hk yh=>(t.trans q).block k yh (fun e=>by have:=yo k e;omega))).mono yl;obtain⟨a6,c6,rfl,xb⟩:=zg.sl)
       go_ret3
       rw [n.out]
       have K:Below o.heap.size o (o.alloc (.cells #[.pointer g,f,c,.int .u32 (ep:Nat),j,.int .i64 (P.length:Nat),.int .i64 (P.length:Nat),.bool false] 181)):=(Below.refl _ _).alloc (zN _) _
       have zb:=zj.trans (t.trans q)
       exact⟨F,o.heap.size,_,rfl,zb.size,zg.ext K,⟨u.ext K,Qb _ _ _ rfl,fun e=>Nat.lt_irrefl _ (u.lt _ e)⟩,zb.ext K⟩
      ·have t3:(z3 != 0)=true:=by simpa using B
       have n:=zH (AO.DI Z.out zd.out hs B)
       clear hs A B
       go_wp2_with (go_at_call 92;go_must (refine ze.out.mono ?_);rintro e6 o ⟨rfl,u,q⟩)
       go_ret3
       rw [n.out]
       exact⟨rfl,F,u,zj.trans (t.trans q)⟩
    |false =>
      rw [if_neg (by decide)] at r
      obtain⟨m,hm⟩:∃ m,(b.drop j).length=m:=⟨_,rfl⟩
      rw [hm] at r
      rw [List.length_drop,HN.out] at hm
      have xi:(N:Int) - (j:Int)=(m:Int):=by omega
      have xj:IntKind.i64.wrap (m:Int)=(m:Int):=by rw [IntKind.wrap_i64];omega
      have yz:m<=1000000:=by omega
      obtain⟨wm,cm,xd,xc,yx⟩:=Cp m yz wr.drew
      have zp:Below wr.heap.size wr wm:=(Below.drew (Below.refl _ _)).trans yx
      have zc:FC wm w.heap.size f c:=(zp.block _ (Qa I)).trans I
      obtain⟨m0,m1⟩:=zc.cells
      have HW:=zH (show Calls Tryz.prog 91 #[.pointer g,.agg #[f,c],j,.slice wr.drew.heap.size m cm] wm fun e l=>e=.returned (T:Value)/\∃ F',RD F' l g sb cb sc fa fn fc O/\AD F wm F' l by
       have:=Wd (yf.ext zp) f c j hf hc ⟨by omega,by omega⟩ wr.drew.heap.size m cm (List.replicate m 0) xc (fun y hy _ e=>by cases hy;exact Nat.lt_irrefl _ (yf.lt _ e))
       unfold DS at this;rw [r] at this;exact this)
      clear r HE hm
      by_cases ya:T=0
      ·subst ya
       go_wp2_with fail
       go_region_held3 (fun l=>l.cell? w.heap.size=some (f:Value)/\l.cell? (w.heap.size 1)=some (c:Value)) (first|exact⟨Q,R⟩|exact⟨m0,m1⟩|exact⟨k0,k1⟩) (first
       |(go_at_call 91;go_must (refine HW.out.mono ?_);rintro e5 w5 ⟨rfl,F5,zi,zl⟩;have yc:FC w5 w.heap.size f c:=(zl.block _ (Qa zc) zu).trans zc;obtain⟨k0,k1⟩:=yc.cells))
       have t:AD F wr F5 w5:=(AD.AL zp).trans zl
       obtain⟨z3,d3,hs⟩:∃ z3 d3,Dd.sync O=(z3,d3):=⟨_,_,rfl⟩
       have A:=Wc zi
       rw [hs] at A
       have ze:=zH A
       by_cases B:z3=0
       ·subst B
        have n:=zH (AO.EK Z.out zd.out hs)
        rw [yn.out] at n
        clear hs A
        go_wp2_with (go_at_call 92;go_must (refine ze.out.mono ?_);rintro e6 o ⟨rfl,u,q⟩;have yd:FC o w.heap.size f c:=((t.trans q).block w.heap.size (Qa I) zu).trans I;obtain⟨y0,y1⟩:=yd.cells;have zg:=(yp.keep (fun k hk yh=>(t.trans q).block k yh (fun e=>by have:=yo k e;omega))).mono yl;obtain⟨a6,c6,rfl,xb⟩:=zg.sl)
        go_ret3
        rw [n.out]
        have K:Below o.heap.size o (o.alloc (.cells #[.pointer g,f,c,.int .u32 (ep:Nat),j,.int .i64 (P.length:Nat),.int .i64 (P.length:Nat),.bool false] 181)):=(Below.refl _ _).alloc (zN _) _
        have zb:=zj.trans (t.trans q)
        exact⟨F5,o.heap.size,_,rfl,zb.size,zg.ext K,⟨u.ext K,Qb _ _ _ rfl,fun e=>Nat.lt_irrefl _ (u.lt _ e)⟩,zb.ext K⟩
       ·have t3:(z3 != 0)=true:=by simpa using B
        have n:=zH (AO.DI Z.out zd.out hs B)
        clear hs A B
        go_wp2_with (go_at_call 92;go_must (refine ze.out.mono ?_);rintro e6 o ⟨rfl,u,q⟩)
        go_ret3
        rw [n.out]
        exact⟨rfl,F5,u,zj.trans (t.trans q)⟩
      ·have t2:(T != 0)=true:=by simpa using ya
       have n:=zH (AO.DV Z.out zd.out ya)
       clear ya
       go_wp2_with fail
       go_region_held3 (fun l=>l.cell? w.heap.size=some (f:Value)/\l.cell? (w.heap.size 1)=some (c:Value)) (first|exact⟨Q,R⟩|exact⟨m0,m1⟩|exact⟨k0,k1⟩) (first
       |(go_at_call 91;go_must (refine HW.out.mono ?_);rintro e5 w5 ⟨rfl,F5,zi,zl⟩;have yc:FC w5 w.heap.size f c:=(zl.block _ (Qa zc) zu).trans zc;obtain⟨k0,k1⟩:=yc.cells))
       go_wp2_with fail
       go_ret3
       rw [n.out]
       exact⟨rfl,F5,zi,zj.trans ((AD.AL zp).trans zl)⟩
  ·have t1:(z != 0)=true:=by simpa using hz
   have n:=zH (AO.DH (ep:=ep) Z.out hz)
   clear hz yg
   go_in
   go_wp2_with (go_at_call 138;go_must (refine HV.out.mono ?_);rintro e1 s ⟨rfl,H⟩)
   have zf:Below w.heap.size w s:=hb.trans (H.mono (by rw [zn];exact Nat.le_succ _))
   have C:FC s w.heap.size f c:=(H.block _ (by rw [zn];exact Nat.lt_succ_self _)).trans yb
   obtain⟨Q,R⟩:=C.cells
   go_region_held3 (fun l=>l.cell? w.heap.size=some (f:Value)/\l.cell? (w.heap.size 1)=some (c:Value)) (first|exact⟨Q,R⟩|exact⟨u0,u1⟩|exact⟨y0,y1⟩) (first
   |(go_at_call 79;go_must (refine (zr.out _).mono ?_);rintro e2 w2 ⟨rfl,zt⟩;have U:Below s.heap.size s w2:=(Below.drew (Below.refl _ _)).trans zt;have za:=zf.trans (U.mono zf.size);have G:FC w2 w.heap.size f c:=(U.block _ (Qa C)).trans C;obtain⟨u0,u1⟩:=G.cells)
   |(go_at_call 80;go_must (refine (zq.out _ za).mono ?_);rintro e3 w3 ⟨v3,rfl,zs,zh,J⟩;have X:FC w3 w.heap.size f c:=(J.block _ (Qa G) (fun e=>Nat.lt_irrefl _ (yi _ e))).trans G;obtain⟨y0,y1⟩:=X.cells;obtain⟨a3,c3,rfl,zw,-⟩:=zs.sl))
   go_wp2_with fail
   go_ret3
   rw [n.out]
   exact⟨rfl,F,zh,(AD.AL za).trans J⟩
end
end Go.Proofs.YtmanejniepghlaaGreatDoor
