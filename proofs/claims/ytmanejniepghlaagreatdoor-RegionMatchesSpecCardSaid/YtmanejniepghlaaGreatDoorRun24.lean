import Derived.Test.YtmanejniepghlaaGreatDoorRun2
import Derived.Test.YtmanejniepghlaaGreatDoorRun1
import Derived.OwnWalk
import Derived.StillTailTactics
set_option maxHeartbeats 1000000
namespace Go.Proofs.YtmanejniepghlaaGreatDoor
open Go.RowKit
set_option maxRecDepth 100000
variable {F:Nat->Prop} {w:World} {fc fn g m s:Nat} {fa:Option Addr} {d:Dd.Dk}
def Rw (F:Nat->Prop) (g s m:Nat) (k:Nat):Prop:=F k/\k ≠ g/\k ≠ s/\k ≠ m
structure PD (F:Nat->Prop) (w:World) (g s m:Nat) (fa:Option Addr) (fn fc:Nat) (d:Dd.Dk):Prop where
 ok:d.Ok
 box:w.heap[g]?=some (.cells #[.slice s (64 * d.st.length) (64 * d.st.length),.map (some m),.slice fa fn fc,d.cnt,.bool d.off] 87 (0,0))
 row:RowIs w s 5 d.st.flatten
 map:BU (Rw F g s m) w m d.ca
 flt:CZ w fa fn fc d.fs
 fltF:∀ x,fa=some x->d.fs ≠ []->Rw F g s m x.block
 lt:∀ k,F k->k < w.heap.size
 Fg:F g
 Fs:F s
 Fm:F m
section
variable {F:Nat->Prop} {w w':World} {g s m:Nat} {fa:Option Addr} {fn fc:Nat} {d:Dd.Dk}
theorem PD.cells (h:PD F w g s m fa fn fc d) :
 w.cell? g=some (.slice s (64 * d.st.length) (64 * d.st.length))/\w.cell? (g 1)=some (.map (some m))/\w.cell? (g 2)=some (.slice fa fn fc)/\w.cell? (g 3)=some (d.cnt:Value)/\w.cell? (g 4)=some (.bool d.off):=by
 refine⟨?_,?_,?_,?_,?_⟩ <;> rw [cell_of_row _ _ _ _ _ _ h.box] <;> rfl
theorem PD.free (h:PD F w g s m fa fn fc d) (k:Nat):w.frozen? (g k)=false:=frozen_of_row _ _ _ _ _ h.box
theorem PD.gs (h:PD F w g s m fa fn fc d):g ≠ s:=by
 intro e;have a:=h.box;have b:=h.row;unfold RowIs at b;rw [e,b] at a;simp at a
theorem PD.gm (h:PD F w g s m fa fn fc d):g ≠ m:=by
 intro e;have a:=h.box;obtain⟨f,c,b,-⟩:=h.map;rw [e,b] at a;cases a
theorem PD.sm (h:PD F w g s m fa fn fc d):s ≠ m:=by
 intro e;have a:=h.row;unfold RowIs at a;obtain⟨f,c,b,-⟩:=h.map;rw [e,b] at a;cases a
theorem PD.AI (h:PD F w g s m fa fn fc d) (k:∀ b,F b->w'.heap[b]?=w.heap[b]?) (c:w.heap.size<=w'.heap.size):PD F w' g s m fa fn fc d :=
 ⟨h.ok,(k g h.Fg).trans h.box,h.row.keep (k s h.Fs),h.map.AI (fun b a _=>k b a.1) (k m h.Fm) c,h.flt.AI (fun x f e=>k _ (h.fltF x f e).1) c,h.fltF,fun b a=>Nat.lt_of_lt_of_le (h.lt b a) c,h.Fg,h.Fs,h.Fm⟩
theorem PD.ext (h:PD F w g s m fa fn fc d) (e:Below w.heap.size w w'):PD F w' g s m fa fn fc d:=h.AI (fun b a=>e.block b (h.lt b a)) e.size
theorem PD.drew (h:PD F w g s m fa fn fc d):PD F w.drew g s m fa fn fc d:=h.AI (fun _ _=>rfl) (zN _)
theorem PD.alloc (h:PD F w g s m fa fn fc d) (o:Obj):PD F (w.alloc o) g s m fa fn fc d:=h.ext ((Below.refl _ _).alloc (zN _) o)
theorem PD.rebox (h:PD F w g s m fa fn fc d) (k:∀ b,b ≠ g->w'.heap[b]?=w.heap[b]?) (e:w'.heap.size=w.heap.size) (a:Dd.Dk) (j:a.st=d.st) (f:a.ca=d.ca) (i:a.fs=d.fs)
 (c:w'.heap[g]?=some (.cells #[.slice s (64 * d.st.length) (64 * d.st.length),.map (some m),.slice fa fn fc,a.cnt,.bool a.off] 87 (0,0))):PD F w' g s m fa fn fc a:=by
 obtain⟨z,u,y,cnt,off⟩:=d
 obtain⟨t,q,r,o,p⟩:=a
 simp only at j f i c
 subst j;subst f;subst i
 exact⟨⟨h.ok.len,h.ok.pos,h.ok.max,h.ok.st64,h.ok.ca64⟩,c,h.row.keep (k s (Ne.symm h.gs)),h.map.AI (fun b c _=>k b c.2.1) (k m (Ne.symm h.gm)) (Nat.le_of_eq e.symm),h.flt.AI (fun x n l=>k _ (h.fltF x n l).2.1) (Nat.le_of_eq e.symm),h.fltF,fun b c=>by rw [e];exact h.lt b c,h.Fg,h.Fs,h.Fm⟩
theorem PD.GO (h:PD F w g s m fa fn fc d) (z:Int):PD F (w.setCell (g 3) (z:Value)) g s m fa fn fc { d with cnt:=z } :=
 h.rebox (fun b a=>heap_setCell_other _ _ _ _ a) (by simp) _ rfl rfl rfl (by rw [heap_setCell_same _ _ _ _ _ _ h.box];rfl)
theorem PD.FG (h:PD F w g s m fa fn fc d) (z:Bool):PD F (w.setCell (g 4) (.bool z)) g s m fa fn fc { d with off:=z } :=
 h.rebox (fun b a=>heap_setCell_other _ _ _ _ a) (by simp) _ rfl rfl rfl (by rw [heap_setCell_same _ _ _ _ _ _ h.box];rfl)
end
theorem PD.other (h:PD F w g s m fa fn fc d) {b:Nat} (a:¬ F b) (o:Nat) (v:Value):PD F (w.setCell (b o) v) g s m fa fn fc d :=
 h.AI (fun k c=>heap_setCell_other _ _ _ _ (by rintro rfl;exact a c)) (by simp)
def ffrom (l:List (Int × Int)) (c:Int):Int:=((l.find? fun f=>f.1 == c).map (·.2)).getD 0
theorem Uf (l:List (Int × Int)) (c:Int) (k:Nat) (a:k < l.length) (h:((l[k]?.getD (0,0)).1 == c)=true):ffrom (l.drop k) c=(l[k]?.getD (0,0)).2:=by
 rw [List.getElem?_eq_getElem a,Option.getD_some] at *
 unfold ffrom;rw [List.drop_eq_getElem_cons a,List.find?_cons_of_pos (p:=fun f:Int × Int=>f.1 == c) h];rfl
theorem Kw (l:List (Int × Int)) (c:Int) (k:Nat) (a:k < l.length) (h:((l[k]?.getD (0,0)).1 == c)=false):ffrom (l.drop k) c=ffrom (l.drop (k+1)) c:=by
 rw [List.getElem?_eq_getElem a,Option.getD_some] at *
 unfold ffrom;rw [List.drop_eq_getElem_cons a,List.find?_cons_of_neg (p:=fun f:Int × Int=>f.1 == c) (by simpa using h)]
theorem Yc (h:PD F w g s m fa fn fc d) :
 Calls Tryz.prog 45 #[.pointer g] w fun e w'=>e=.returned (.int .i64 (d.st.length:Nat))/\w=w':=by
 have a:=h.cells.1
 have b:=h.ok.max
 generalize d.st.length=n at *
 go_in
 go_wp2
 go_ret
 exact⟨by simp,rfl⟩
theorem Mw (h:PD F w g s m fa fn fc d) :
 Calls Tryz.prog 38 #[.pointer g] w fun e w'=>e=.returned (.bool d.off)/\w=w':=by
 have a:=h.cells.2.2.2.2
 go_in
 go_wp2
 go_ret
 exact⟨rfl,rfl⟩
theorem Ez (h:PD F w g s m fa fn fc d) :
 Calls Tryz.prog 156 #[.pointer g] w fun e w'=>e=.returned (.int .i64 (Dd.fault d))/\PD F w' g s m fa fn fc (Dd.tick d)/\AD F w F w':=by
 obtain⟨-,-,B,C,-⟩:=h.cells
 have I:=h.free 3
 have G:=h.flt.le
 have c:=zH h.flt.len
 have x:=zH (h.GO (wrap64 (d.cnt+1)))
 have y:=zH ((AD.refl F w).setCell (.inl h.Fg) 3 (.int .i64 (wrap64 (d.cnt+1))))
 have h0:Dd.fault d=ffrom (d.fs.drop 0) d.cnt:=rfl
 have r:=zH h0
 generalize Dd.fault d=R at *
 clear h0
 go_in
 go_wp2
 generalize w.setCell (g 3) (.int .i64 (wrap64 (d.cnt+1)))=K at *
 go_loopw [22] (fun i wr=>∃ k:Nat,k<=fn/\i=.int .i64 k/\PD F wr g s m fa fn fc (Dd.tick d)/\AD F w F wr/\Hid (R=ffrom (d.fs.drop k) d.cnt)) (fun i _=>fn - (intOf i).toNat)
 case atStart=>exact⟨0,Nat.zero_le _,rfl,x.out,y.out,r⟩
 case round =>
  obtain⟨k,J,rfl,a,l,j⟩:=hrel
  by_cases f:k < fn
  ·obtain⟨b,o,rfl,H,z,A⟩:=a.flt.at f
   have p:=Uf d.fs d.cnt k (by rw [c.out];exact f)
   have hn:=Kw d.fs d.cnt k (by rw [c.out];exact f)
   have t:=zH p;have u:=zH hn
   change _=some (Value.int IntKind.i64 (d.fs[k]?.getD (0,0)).1) at z
   change _=some (Value.int IntKind.i64 (d.fs[k]?.getD (0,0)).2) at A
   clear p hn
   generalize (d.fs[k]?.getD (0,0)).1=q at *
   generalize (d.fs[k]?.getD (0,0)).2=M at *
   go_wp2
   ·have n:(q == d.cnt)=true:=by assumption
    obtain rfl:=j.out.trans (t.out n)
    go_ret
    exact⟨rfl,a.alloc _,l.alloc _⟩
   ·have n:(q == d.cnt)=false:=by assumption
    go_roundw
    case rel=>exact⟨k+1,by omega,by go_num,a.alloc _,l.alloc _,zH (by rw [j.out,u.out n])⟩
    case measure=>simp [intOf];omega
  ·obtain rfl:k=fn:=by omega
   go_wp2
   go_ret
   refine⟨?_,a,l⟩
   rw [j.out,List.drop_of_length_le (by rw [c.out];exact zN _)];rfl
def UF (F:Nat->Prop) (w:World) (g s m:Nat) (fa:Option Addr) (fn fc:Nat) (r:Bool × Int × Dd.Dk) (e:Ending) (w':World):Prop :=
 e=.returned (.tuple #[.bool r.1,r.2.1])/\PD F w' g s m fa fn fc r.2.2/\AD F w F w'
theorem Wl (h:PD F w g s m fa fn fc d) (b:Bool) :
 Calls Tryz.prog 111 #[.pointer g,.bool b] w (UF F w g s m fa fn fc (Dd.begin d b)):=by
 obtain⟨r,hr⟩:∃ r,r=Dd.begin d b:=⟨_,rfl⟩
 rw [<-hr]
 unfold Dd.begin at hr
 have l:=h.cells.2.2.2.2
 cases ho:d.off with
|true =>
  rw [ho] at hr l
  rw [if_pos rfl] at hr
  have a:=zH hr;clear hr ho
  go_in
  go_wp2
  go_ret2
  rw [a.out];exact⟨rfl,h,AD.refl _ _⟩
|false =>
  rw [ho] at hr l
  rw [if_neg (by decide)] at hr
  cases b with
 |false =>
   rw [if_neg (by decide)] at hr
   have a:=zH hr;clear hr ho
   go_in
   go_wp2
   go_ret2
   rw [a.out];exact⟨rfl,h,AD.refl _ _⟩
 |true =>
   rw [if_pos rfl] at hr
   have a:=zH hr;clear hr ho
   have n:=Ez h
   have k:=zH n
   clear n
   generalize Dd.fault d=z at *
   by_cases c:z=1
   ·subst c
    go_in
    go_wp2_with fail
    refine k.out.mono ?_;rintro e o ⟨rfl,f,i⟩
    go_wp2_with fail
    go_ret2
    rw [a.out];exact⟨rfl,f,i⟩
   ·by_cases j:z=2
    ·subst j
     clear c
     go_in
     go_wp2_with fail
     refine k.out.mono ?_;rintro e o ⟨rfl,f,i⟩
     go_wp2_with fail
     go_ret2
     rw [a.out];exact⟨rfl,f,i⟩
    ·have q:(z == 1)=false:=by simp [c]
     have t:(z == 2)=false:=by simp [j]
     have hr:=a.out
     rw [if_neg c,if_neg j] at hr
     have p:=zH hr
     clear hr c j
     go_in
     go_wp2_with fail
     refine k.out.mono ?_;rintro e o ⟨rfl,f,i⟩
     go_wp2_with fail
     go_ret2
     rw [p.out];exact⟨rfl,f,i⟩
theorem Gq (h:PD F w g s m fa fn fc d) (i:Nat) (f:i < d.st.length) (z:Int) (a:z=(i:Int)) :
 Calls Tryz.prog 68 #[.pointer g,z] w fun e w'=>e=.returned (.slice (s (64 * i)) 64 (64 * d.st.length - 64 * i))/\w=w':=by
 subst a
 have c:=h.cells.1
 have j:=h.ok.max
 generalize d.st.length=n at *
 have b:¬ 64 * n=64 * i:=by omega
 go_in
 go_wp2
 go_ret
 refine⟨?_,rfl⟩
 show Ending.returned (.slice (s (i * 64)) ((i+1) * 64 - i * 64) (64 * n - i * 64))=_
 rw [show (i+1) * 64 - i * 64=64 by omega,Nat.mul_comm i 64]
end Go.Proofs.YtmanejniepghlaaGreatDoor
