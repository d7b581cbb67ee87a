import Derived.Test.YtmanejniepghlaaGreatDoorRun1
import Derived.OwnWalk
import Derived.StillTailTactics
namespace Go.Proofs.YtmanejniepghlaaGreatDoor
open Go.RowKit
set_option maxRecDepth 100000
variable {F:Nat->Prop} {w:World} {fc fn g m s:Nat} {fa:Option Addr} {d:Disk.Dk}
def Rw (F:Nat->Prop) (g s m:Nat) (k:Nat):Prop:=F k/\k ≠ g/\k ≠ s/\k ≠ m
structure PD (F:Nat->Prop) (w:World) (g s m:Nat) (fa:Option Addr) (fn fc:Nat) (d:Disk.Dk):Prop where
 ok:d.Ok
 box:w.heap[g]?=some (.cells #[.slice s (64 * d.st.length) (64 * d.st.length),.map (some m),.slice fa fn fc,d.cnt,.bool d.off] 87 (0,0))
 row:RowIs w s 5 d.st.flatten
 map:MapIs (Rw F g s m) w m d.ca
 flt:SlP w fa fn fc d.fs
 fltF:∀ x,fa=some x->d.fs ≠ []->Rw F g s m x.block
 lt:∀ k,F k->k < w.heap.size
 Fg:F g
 Fs:F s
 Fm:F m
section
variable {F:Nat->Prop} {w w':World} {g s m:Nat} {fa:Option Addr} {fn fc:Nat} {d:Disk.Dk}
theorem PD.cells (h:PD F w g s m fa fn fc d) :
 w.cell? g=some (.slice s (64 * d.st.length) (64 * d.st.length))/\w.cell? (g 1)=some (.map (some m))/\w.cell? (g 2)=some (.slice fa fn fc)/\w.cell? (g 3)=some (d.cnt:Value)/\w.cell? (g 4)=some (.bool d.off):=by
 refine⟨?_,?_,?_,?_,?_⟩ <;> rw [cell_of_row _ _ _ _ _ _ h.box] <;> rfl
theorem PD.free (h:PD F w g s m fa fn fc d) (k:Nat):w.frozen? (g k)=false:=frozen_of_row _ _ _ _ _ h.box
theorem PD.gs (h:PD F w g s m fa fn fc d):g ≠ s:=by
 intro e;have h1:=h.box;have h2:=h.row;unfold RowIs at h2;rw [e,h2] at h1;simp at h1
theorem PD.gm (h:PD F w g s m fa fn fc d):g ≠ m:=by
 intro e;have h1:=h.box;obtain⟨es,c,h2,-⟩:=h.map;rw [e,h2] at h1;cases h1
theorem PD.sm (h:PD F w g s m fa fn fc d):s ≠ m:=by
 intro e;have h1:=h.row;unfold RowIs at h1;obtain⟨es,c,h2,-⟩:=h.map;rw [e,h2] at h1;cases h1
theorem PD.stay (h:PD F w g s m fa fn fc d) (k:∀ b,F b->w'.heap[b]?=w.heap[b]?) (hz:w.heap.size<=w'.heap.size):PD F w' g s m fa fn fc d :=
 ⟨h.ok,(k g h.Fg).trans h.box,h.row.keep (k s h.Fs),h.map.stay (fun b hb _=>k b hb.1) (k m h.Fm) hz,h.flt.stay (fun x hx hl=>k _ (h.fltF x hx hl).1) hz,h.fltF,fun b hb=>Nat.lt_of_lt_of_le (h.lt b hb) hz,h.Fg,h.Fs,h.Fm⟩
theorem PD.ext (h:PD F w g s m fa fn fc d) (e:Below w.heap.size w w'):PD F w' g s m fa fn fc d:=h.stay (fun b hb=>e.block b (h.lt b hb)) e.size
theorem PD.drew (h:PD F w g s m fa fn fc d):PD F w.drew g s m fa fn fc d:=h.stay (fun _ _=>rfl) (zN _)
theorem PD.alloc (h:PD F w g s m fa fn fc d) (o:Obj):PD F (w.alloc o) g s m fa fn fc d:=h.ext ((Below.refl _ _).alloc (zN _) o)
theorem PD.rebox (h:PD F w g s m fa fn fc d) (k:∀ b,b ≠ g->w'.heap[b]?=w.heap[b]?) (hz:w'.heap.size=w.heap.size) (d':Disk.Dk) (hst:d'.st=d.st) (hca:d'.ca=d.ca) (hfs:d'.fs=d.fs)
 (hb:w'.heap[g]?=some (.cells #[.slice s (64 * d.st.length) (64 * d.st.length),.map (some m),.slice fa fn fc,d'.cnt,.bool d'.off] 87 (0,0))):PD F w' g s m fa fn fc d':=by
 obtain⟨st,ca,fs,cnt,off⟩:=d
 obtain⟨st',ca',fs',cnt',off'⟩:=d'
 simp only at hst hca hfs hb
 subst hst;subst hca;subst hfs
 exact⟨⟨h.ok.len,h.ok.pos,h.ok.max,h.ok.st64,h.ok.ca64⟩,hb,h.row.keep (k s (Ne.symm h.gs)),h.map.stay (fun b hb _=>k b hb.2.1) (k m (Ne.symm h.gm)) (Nat.le_of_eq hz.symm),h.flt.stay (fun x hx hl=>k _ (h.fltF x hx hl).2.1) (Nat.le_of_eq hz.symm),h.fltF,fun b hb=>by rw [hz];exact h.lt b hb,h.Fg,h.Fs,h.Fm⟩
theorem PD.setCnt (h:PD F w g s m fa fn fc d) (z:Int):PD F (w.setCell (g 3) (z:Value)) g s m fa fn fc { d with cnt:=z } :=
 h.rebox (fun b hb=>heap_setCell_other _ _ _ _ hb) (by simp) _ rfl rfl rfl (by rw [heap_setCell_same _ _ _ _ _ _ h.box];rfl)
theorem PD.setOff (h:PD F w g s m fa fn fc d) (z:Bool):PD F (w.setCell (g 4) (.bool z)) g s m fa fn fc { d with off:=z } :=
 h.rebox (fun b hb=>heap_setCell_other _ _ _ _ hb) (by simp) _ rfl rfl rfl (by rw [heap_setCell_same _ _ _ _ _ _ h.box];rfl)
end
theorem PD.other (h:PD F w g s m fa fn fc d) {b:Nat} (hb:¬ F b) (o:Nat) (v:Value):PD F (w.setCell (b o) v) g s m fa fn fc d :=
 h.stay (fun k hk=>heap_setCell_other _ _ _ _ (by rintro rfl;exact hb hk)) (by simp)
def ffrom (l:List (Int × Int)) (c:Int):Int:=((l.find? fun f=>f.1 == c).map (·.2)).getD 0
theorem zi_b (l:List (Int × Int)) (c:Int) (k:Nat) (hk:k < l.length) (h:((l[k]?.getD (0,0)).1 == c)=true):ffrom (l.drop k) c=(l[k]?.getD (0,0)).2:=by
 rw [List.getElem?_eq_getElem hk,Option.getD_some] at *
 unfold ffrom;rw [List.drop_eq_getElem_cons hk,List.find?_cons_of_pos (p:=fun f:Int × Int=>f.1 == c) h];rfl
theorem zg_e (l:List (Int × Int)) (c:Int) (k:Nat) (hk:k < l.length) (h:((l[k]?.getD (0,0)).1 == c)=false):ffrom (l.drop k) c=ffrom (l.drop (k+1)) c:=by
 rw [List.getElem?_eq_getElem hk,Option.getD_some] at *
 unfold ffrom;rw [List.drop_eq_getElem_cons hk,List.find?_cons_of_neg (p:=fun f:Int × Int=>f.1 == c) (by simpa using h)]
theorem zc_q (h:PD F w g s m fa fn fc d) :
 Calls Tryz.prog 45 #[.pointer g] w fun e w'=>e=.returned (.int .i64 (d.st.length:Nat))/\w=w':=by
 have hc:=h.cells.1
 have hm:=h.ok.max
 generalize d.st.length=n at *
 go_enter Tryz.func45,Tryz.ntmps45
 go_wp2
 go_ret
 exact⟨by simp,rfl⟩
set_option maxHeartbeats 1000000 in
theorem zq_o (h:PD F w g s m fa fn fc d) :
 Calls Tryz.prog 156 #[.pointer g] w fun e w'=>e=.returned (.int .i64 (Disk.fault d))/\PD F w' g s m fa fn fc (Disk.tick d)/\Upd F w F w':=by
 obtain⟨-,-,hc2,hc3,-⟩:=h.cells
 have hf:=h.free 3
 have hle:=h.flt.le
 have HLN:=zH h.flt.len
 have HP:=zH (h.setCnt (wrap64 (d.cnt+1)))
 have HU:=zH ((Upd.refl F w).setCell (.inl h.Fg) 3 (.int .i64 (wrap64 (d.cnt+1))))
 have h0:Disk.fault d=ffrom (d.fs.drop 0) d.cnt:=rfl
 have H0:=zH h0
 generalize Disk.fault d=R at *
 clear h0
 go_enter Tryz.func156,Tryz.ntmps156
 go_wp2
 generalize w.setCell (g 3) (.int .i64 (wrap64 (d.cnt+1)))=w0 at *
 go_loopw [22] (fun i wr=>∃ k:Nat,k<=fn/\i=.int .i64 k/\PD F wr g s m fa fn fc (Disk.tick d)/\Upd F w F wr/\Hid (R=ffrom (d.fs.drop k) d.cnt)) (fun i _=>fn - (intOf i).toNat)
 case atStart=>exact⟨0,Nat.zero_le _,rfl,HP.out,HU.out,H0⟩
 case round =>
  obtain⟨k,hk,rfl,hP,hU,HG⟩:=hrel
  by_cases hlt:k < fn
  ·obtain⟨b,o,rfl,hb,q1,q2⟩:=hP.flt.at hlt
   have hh:=zi_b d.fs d.cnt k (by rw [HLN.out];exact hlt)
   have hn:=zg_e d.fs d.cnt k (by rw [HLN.out];exact hlt)
   have HH:=zH hh;have HN:=zH hn
   change _=some (Value.int IntKind.i64 (d.fs[k]?.getD (0,0)).1) at q1
   change _=some (Value.int IntKind.i64 (d.fs[k]?.getD (0,0)).2) at q2
   clear hh hn
   generalize (d.fs[k]?.getD (0,0)).1=y1 at *
   generalize (d.fs[k]?.getD (0,0)).2=y2 at *
   go_wp2
   ·have hy:(y1 == d.cnt)=true:=by assumption
    obtain rfl:=HG.out.trans (HH.out hy)
    go_ret
    exact⟨rfl,hP.alloc _,hU.alloc _⟩
   ·have hy:(y1 == d.cnt)=false:=by assumption
    go_roundw
    case rel=>exact⟨k+1,by omega,by go_num,hP.alloc _,hU.alloc _,zH (by rw [HG.out,HN.out hy])⟩
    case measure=>simp [intOf];omega
  ·obtain rfl:k=fn:=by omega
   go_wp2
   go_ret
   refine⟨?_,hP,hU⟩
   rw [HG.out,List.drop_of_length_le (by rw [HLN.out];exact zN _)];rfl
def BegPost (F:Nat->Prop) (w:World) (g s m:Nat) (fa:Option Addr) (fn fc:Nat) (r:Bool × Int × Disk.Dk) (e:Ending) (w':World):Prop :=
 e=.returned (.tuple #[.bool r.1,r.2.1])/\PD F w' g s m fa fn fc r.2.2/\Upd F w F w'
set_option maxHeartbeats 1000000 in
theorem zh_k (h:PD F w g s m fa fn fc d) (b:Bool) :
 Calls Tryz.prog 111 #[.pointer g,.bool b] w (BegPost F w g s m fa fn fc (Disk.begin d b)):=by
 obtain⟨r,hr⟩:∃ r,r=Disk.begin d b:=⟨_,rfl⟩
 rw [<-hr]
 unfold Disk.begin at hr
 have hc4:=h.cells.2.2.2.2
 cases ho:d.off with
|true =>
  rw [ho] at hr hc4
  rw [if_pos rfl] at hr
  have HR:=zH hr;clear hr ho
  go_enter Tryz.func111,Tryz.ntmps111
  go_wp2
  go_ret2
  rw [HR.out];exact⟨rfl,h,Upd.refl _ _⟩
|false =>
  rw [ho] at hr hc4
  rw [if_neg (by decide)] at hr
  cases b with
 |false =>
   rw [if_neg (by decide)] at hr
   have HR:=zH hr;clear hr ho
   go_enter Tryz.func111,Tryz.ntmps111
   go_wp2
   go_ret2
   rw [HR.out];exact⟨rfl,h,Upd.refl _ _⟩
 |true =>
   rw [if_pos rfl] at hr
   have HR:=zH hr;clear hr ho
   have hf:=zq_o h
   have HF:=zH hf
   clear hf
   generalize Disk.fault d=z at *
   by_cases h1:z=1
   ·subst h1
    go_enter Tryz.func111,Tryz.ntmps111
    go_wp2_with fail
    refine HF.out.mono ?_;rintro e w1 ⟨rfl,hP,hU⟩
    go_wp2_with fail
    go_ret2
    rw [HR.out];exact⟨rfl,hP,hU⟩
   ·by_cases h2:z=2
    ·subst h2
     clear h1
     go_enter Tryz.func111,Tryz.ntmps111
     go_wp2_with fail
     refine HF.out.mono ?_;rintro e w1 ⟨rfl,hP,hU⟩
     go_wp2_with fail
     go_ret2
     rw [HR.out];exact⟨rfl,hP,hU⟩
    ·have t1:(z == 1)=false:=by simp [h1]
     have t2:(z == 2)=false:=by simp [h2]
     have hr:=HR.out
     rw [if_neg h1,if_neg h2] at hr
     have HR2:=zH hr
     clear hr h1 h2
     go_enter Tryz.func111,Tryz.ntmps111
     go_wp2_with fail
     refine HF.out.mono ?_;rintro e w1 ⟨rfl,hP,hU⟩
     go_wp2_with fail
     go_ret2
     rw [HR2.out];exact⟨rfl,hP,hU⟩
theorem zk_c (h:PD F w g s m fa fn fc d) (i:Nat) (hi:i < d.st.length) (z:Int) (hz:z=(i:Int)) :
 Calls Tryz.prog 68 #[.pointer g,z] w fun e w'=>e=.returned (.slice (s (64 * i)) 64 (64 * d.st.length - 64 * i))/\w=w':=by
 subst hz
 have hc:=h.cells.1
 have hm:=h.ok.max
 generalize d.st.length=n at *
 have hne:¬ 64 * n=64 * i:=by omega
 go_enter Tryz.func68,Tryz.ntmps68
 go_wp2
 go_ret
 refine⟨?_,rfl⟩
 show Ending.returned (.slice (s (i * 64)) ((i+1) * 64 - i * 64) (64 * n - i * 64))=_
 rw [show (i+1) * 64 - i * 64=64 by omega,Nat.mul_comm i 64]
end Go.Proofs.YtmanejniepghlaaGreatDoor
