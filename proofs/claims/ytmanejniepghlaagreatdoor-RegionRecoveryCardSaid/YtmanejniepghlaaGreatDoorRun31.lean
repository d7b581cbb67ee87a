import Derived.Test.YtmanejniepghlaaGreatDoorRun30
import Derived.Test.YtmanejniepghlaaGreatDoorRun4
namespace Go.Proofs.YtmanejniepghlaaGreatDoor
section
open Go.RowKit
theorem madeL (n:Nat):(madeCells (Value.slice none 0 0).cells (n * 1)).toList=List.replicate n (.slice none 0 0):=by
 rw [Nat.mul_one,show madeCells (Value.slice none 0 0).cells n=madeCells #[.slice none 0 0] n from rfl,toList_madeCells_one]
theorem ze_h {w:World} {ops:Array Oper} {rest:List Oper} {o:Oper} {a:Act} {Q:Exit->Act->World->Prop} (hg:o.guard=none) (l c:Operand) (hop:o.op=Op.makeSlice 112 l c)
 (n:Nat) (L C:Int) (hl:a.eval l=.int .i64 L) (hc:a.eval c=.int .i64 C) (hL:L=(n:Int)) (hC:C=(n:Int)) (b2:n<=1000000)
 (hK:∀ w1 cs,Below w.heap.size w w1->w1.heap[w.heap.size]?=some (.cells cs 70 (0,0))->n<=cs.size->(∀ i,i < n->cs[i]?=some (.slice none 0 0))->wpList Tryz.prog ops Q rest (a.put o.dst (.slice w.heap.size n n)) w1):wpList Tryz.prog ops Q (o :: rest) a w:=by
 obtain⟨i0,hi,hz0,hz1,hz2⟩:=info_parts info26
 refine wpList_make_full w hg l c 112 hop w.heap.size 70 i0 (.slice none 0 0) 1 Tryz.underlying112 hi hz0 hz1 .i64 .i64 L C n hl hc hL hC (by rw [hz2];omega) (by unfold maxLen;omega) (zN _) ?_
 intro w1 hown hg1
 rw [madeL] at hown
 have hB:=(Below.refl w.heap.size w).grown hg1 (zN _) (fun k hk=>by cases hk)
 rcases hown.2 with⟨e,-⟩|⟨g,cap,cur,hv,-,hcell,hcap,-,hsz,htake⟩
 ·cases e
 ·cases hv
  refine hK w1 cur hB hcell (by omega) fun i hi'=>?_
  have h1:(cur.toList.take (n * 1))[i]?=some (.slice none 0 0):=by rw [htake];simp [hi']
  rw [List.getElem?_take_of_lt (by omega)] at h1
  simpa using h1
section
variable {F:Nat->Prop} {w w':World} {g sb cb sc:Nat} {fa:Option Addr} {fn fc:Nat} {d d':Disk.Dk}
end
end
section
open Go.RowKit
variable {w w':World} {base:Nat} {v:Value} {ls:List (List UInt8)} {l:List UInt8}
theorem Disk.chunks_succ (n:Nat) (l:List UInt8):Disk.chunks (n+1) l=Disk.chunks n l ++ [(l.drop (64 * n)).take 64]:=by
 unfold Disk.chunks
 rw [List.range_succ,List.map_append];rfl
theorem OwnL.rowS (h:OwnL base w v ls) (h64:∀ x ∈ ls,x.length=64) (hne:0 < ls.length) :
 ∃ sb sc,v=.slice (sb:Nat) ls.length sc/\base<=sb/\sb < w.heap.size/\ls.length<=sc/\RowS (fun k=>base<=k/\k < w.heap.size/\k ≠ sb) w sb (ls.map some):=by
 obtain⟨vs,h1,h2⟩:=h
 have hvl:vs.length=ls.length:=by rw [h1.1];simp
 rcases id h1.2 with⟨hv,hn⟩|⟨g,cap,cur,hv,hg,hc,hnc,hcm,hcs,htake⟩
 ·omega
 ·refine⟨g,cap,hv,hg,za_a hc,hnc,cur,hc,by simp;omega,fun i x hx=>?_⟩
  rw [List.getElem?_map] at hx
  have hi:i < ls.length:=by
   rcases Nat.lt_or_ge i ls.length with h|h
   ·exact h
   ·rw [List.getElem?_eq_none h] at hx;cases hx
  rw [List.getElem?_eq_getElem hi] at hx
  cases hx
  obtain⟨u,h3,h4⟩:=h2 i hi
  have e:ls[i]?.getD []=ls[i]:=by simp [hi]
  rw [e] at h4
  obtain⟨b,c,rfl,hb,hbl,hs⟩:=h4.at0 (h64 _ (List.getElem_mem hi))
  refine⟨_,?_,b,c,rfl,⟨hb,hbl,fun e=>?_⟩,hs⟩
  ·have:=World.ownsRow.cellAt (g:=g) (cap:=cap) (by rw [<-hv];exact h1) i (by omega)
   rw [cell_of_row _ _ _ _ _ _ hc] at this
   rw [this];simpa using h3
  ·subst e
   rcases h4.2 with⟨hv2,_⟩|⟨g2,cap2,cur2,hv2,_,hc2,_⟩
   ·cases hv2
   ·injection hv2 with e1
    cases e1
    rw [hc] at hc2
    cases hc2
theorem OwnB.keepR (h:OwnB base w v l) (k:∀ b,base<=b->b < w.heap.size->w'.heap[b]?=w.heap[b]?):OwnB base w' v l:=by
 refine⟨h.1,?_⟩
 rcases h.2 with hn|⟨g,cap,cur,rfl,hb,hgg,rest⟩
 ·exact .inl hn
 ·exact .inr ⟨g,cap,cur,rfl,hb,(k g hb (za_a hgg)).trans hgg,rest⟩
theorem OwnL.keepR (h:OwnL base w v ls) (k:∀ b,base<=b->b < w.heap.size->w'.heap[b]?=w.heap[b]?):OwnL base w' v ls:=by
 obtain⟨vs,h1,h2⟩:=h
 refine⟨vs,⟨h1.1,?_⟩,fun i hi=>?_⟩
 ·rcases h1.2 with hn|⟨g,cap,cur,rfl,hb,hgg,rest⟩
  ·exact .inl hn
  ·exact .inr ⟨g,cap,cur,rfl,hb,(k g hb (za_a hgg)).trans hgg,rest⟩
 ·obtain⟨u,h3,h4⟩:=h2 i hi
  exact⟨u,h3,h4.keepR k⟩
def LRel (W0:World) (g cb n:Nat) (l:List UInt8) (k:Nat) (wr:World):Prop :=
 ∃ v,wr.heap[g]?=some (.cells #[v,.slice cb n n,.slice none 0 0,.int .i64 0,.bool false] 128 (0,0))/\OwnL W0.heap.size wr v (Disk.chunks k l)/\Upd (fun b=>b=g) W0 (fun b=>b=g) wr
def RNewPost (w:World) (d:Disk.Dk) (e:Ending) (w':World):Prop :=
 ∃ F g sb cb sc,e=.returned (.tuple #[.pointer (g:Nat),.int .i64 0])/\RD F w' g sb cb sc none 0 0 d/\(∀ k,F k->w.heap.size<=k)/\Below w.heap.size w w'
theorem LRel.done {W0 wr:World} {g cb n:Nat} (h:LRel W0 g cb n l n wr) (h1:1<=n) (h2:n<=4096) (hl:l.length=64 * n) (hb:Below w.heap.size w W0) (hg:w.heap.size<=g) (hgl:g < W0.heap.size) (hcb:w.heap.size<=cb) (hcl:cb < W0.heap.size) (hgc:g ≠ cb)
 {cs:Array Value} (hrow:W0.heap[cb]?=some (.cells cs 70 (0,0))) (hn:n<=cs.size) (hcs:∀ i,i < n->cs[i]?=some (.slice none 0 0)):RNewPost w (Disk.load n l) (.returned (.tuple #[.pointer g,.int .i64 0])) wr:=by
 obtain⟨v,hbox,hO,hU⟩:=h
 have hlen:=Disk.chunks_length n l
 have h64:=Disk.chunks_mem n l hl
 obtain⟨sb,sc,rfl,hsb,hsl,hcap,hR⟩:=hO.rowS h64 (by omega)
 have hz:=hU.size
 have hbz:=hb.size
 have hRF:∀ k,(W0.heap.size<=k/\k < wr.heap.size/\k ≠ sb)->Rw (fun k=>k=g\/k=cb\/(W0.heap.size<=k/\k < wr.heap.size)) g sb cb k:=fun k hk=>⟨.inr (.inr ⟨hk.1,hk.2.1⟩),by omega,hk.2.2,by omega⟩
 refine⟨fun k=>k=g\/k=cb\/(W0.heap.size<=k/\k < wr.heap.size),g,sb,cb,sc,rfl,⟨⟨?_,?_,?_,h64,?_⟩,?_,hR.stay rfl (fun _ _=>rfl) (zN _) hRF,⟨cs,?_,?_,fun i x hx=>?_⟩,SlP.nil _,(fun x hx=>by cases hx),fun k hk=>?_,.inl rfl,.inr (.inr ⟨hsb,hsl⟩),.inr (.inl rfl),by omega,hgc,by omega,?_⟩,fun k hk=>?_,hU.below hb (fun k hk=>by omega) hbz⟩
 ·show (List.replicate n (none:Option (List UInt8))).length=(Disk.chunks n l).length
  simp [hlen]
 ·show 1<=(Disk.chunks n l).length
  omega
 ·show (Disk.chunks n l).length<=4096
  omega
 ·intro x hx
  have:some x ∈ List.replicate n (none:Option (List UInt8)):=hx
  simp at this
 ·show wr.heap[g]?=some (.cells #[.slice sb (Disk.chunks n l).length sc,.slice cb (Disk.chunks n l).length (Disk.chunks n l).length,_,_,_] _ _)
  rw [hlen] at hbox ⊢
  exact hbox
 ·exact (hU.block cb hcl (by omega)).trans hrow
 ·show (List.replicate n (none:Option (List UInt8))).length<=cs.size
  simpa using hn
 ·have hx:(List.replicate n (none:Option (List UInt8)))[i]?=some x:=hx
  have hi:=(List.getElem?_eq_some_iff.1 hx).1
  simp at hi
  rw [List.getElem?_replicate,if_pos hi] at hx
  cases hx
  exact⟨_,hcs i hi,rfl⟩
 ·rcases hk with rfl|rfl|hk <;> omega
 ·exact hcap
 ·rcases hk with rfl|rfl|hk <;> omega
set_option maxRecDepth 100000 in
set_option maxHeartbeats 4000000 in
theorem zs_j (a:Option Addr) (n c:Nat) (l:List UInt8) (w:World) (h1:1<=n) (h2:n<=4096) (h:SlB w a (64 * n) c l):Calls Tryz.prog 27 #[.slice a (64 * n) c] w (RNewPost w (Disk.load n l)):=by
 obtain⟨ab,ao,rfl,-⟩:=h.at (show 0 < 64 * n by omega)
 have HLN:=zH h.len
 have HS:=zH h
 have hcap:=h.2.1
 clear h
 go_enter Tryz.func27,Tryz.ntmps27
 go_wp2_with ((show wpList _ _ _ (Oper.mk (some 23) _ _ _ _ _ :: _) _ _);go_must (refine ze_h rfl (.tmp 22) (.tmp 22) rfl n (n:Int) (n:Int) rfl rfl rfl rfl (by omega) ?_);intro w1 cs hB1 hc1 hcsz hcs)
 have hz1:=hB1.size
 have hcl1:=za_a hc1
 obtain⟨g,hg⟩:∃ g,g=w1.heap.size:=⟨_,rfl⟩
 obtain⟨cb,hcb⟩:∃ cb,cb=w.heap.size:=⟨_,rfl⟩
 have HC:=zH hcb
 have hb0:Below w.heap.size w (w1.alloc (.cells #[.slice none 0 0,.slice w.heap.size n n,.slice none 0 0,.int .i64 0,.bool false] 128)):=hB1.alloc hz1 _
 have hbox0:(w1.alloc (.cells #[.slice none 0 0,.slice w.heap.size n n,.slice none 0 0,.int .i64 0,.bool false] 128)).heap[g]?=some (.cells #[.slice none 0 0,.slice w.heap.size n n,.slice none 0 0,.int .i64 0,.bool false] 128 (0,0)):=za_b _ _ _ hg
 have hrow0:(w1.alloc (.cells #[.slice none 0 0,.slice w.heap.size n n,.slice none 0 0,.int .i64 0,.bool false] 128)).heap[w.heap.size]?=some (.cells cs 70 (0,0)):=(za_c _ _ _ hcl1).trans hc1
 have hsz0:(w1.alloc (.cells #[.slice none 0 0,.slice w.heap.size n n,.slice none 0 0,.int .i64 0,.bool false] 128)).heap.size=g+1:=by simp [hg]
 generalize (w1.alloc (.cells #[.slice none 0 0,.slice w.heap.size n n,.slice none 0 0,.int .i64 0,.bool false] 128))=W0 at *
 rw [<-hcb] at hbox0 hrow0
 have hwg:cb<=g:=by omega
 have hcg:cb < g:=by omega
 rw [<-hg,<-hcb]
 have HL0:LRel W0 g cb n l 0 W0:=⟨_,hbox0,OwnL.nil _ _,Upd.refl _ _⟩
 have HN:=zH hcs
 clear hbox0 hc1 hB1 hcs hg hcb hz1 hcl1
 go_loopw [6] (fun i wr=>∃ k:Nat,k<=n/\i=.int .i64 k/\LRel W0 g cb n l k wr) (fun i _=>n - (intOf i).toNat)
 case atStart=>exact⟨0,by omega,rfl,HL0⟩
 case round =>
  obtain⟨k,hk,rfl,hL⟩:=hrel
  clear HL0
  by_cases hlt:k < n
  ·obtain⟨v,hbox,hO,hU⟩:=hL
   have hUz:=hU.size
   have bg:=za_a hbox
   have HB0:=zH hb0
   have S0:SlB wr (ab ao) (64 * n) c l:=(HS.out.ext (hb0.mono (Nat.le_of_eq rfl))).upd hU (fun x hx hl e=>by
    cases hx
    have h1:ab < w.heap.size:=HS.out.blt hl
    have h2:=HC.out
    have h3:ab=g:=e
    omega)
   obtain⟨p,hp⟩:∃ p,p=64 * k:=⟨_,rfl⟩
   have e1:(k:Int) * 64=(p:Int):=by omega
   obtain⟨q,hq⟩:∃ q,q=p+64:=⟨_,rfl⟩
   have e2:((k:Int)+1) * 64=(q:Int):=by omega
   have hpq:q - p=64:=by omega
   have hpqi:(p:Int)<=(q:Int):=by omega
   have b0:(0:Int)<=(k:Int):=by omega
   have b1:(k:Int) < (n:Int):=by omega
   have b3:(0:Int)<=(p:Int):=by omega
   have hqN:q<=64 * n:=by omega
   have hqc:(q:Int)<=(c:Int):=by omega
   have hqc2:q<=c:=by omega
   have hpc:¬ c=p:=by omega
   have hw1:IntKind.i64.wrap (p:Int)=(p:Int):=by rw [IntKind.wrap_i64];omega
   have hw2:IntKind.i64.wrap ((k:Int)+1)=(k:Int)+1:=by rw [IntKind.wrap_i64];omega
   have hw3:IntKind.i64.wrap (q:Int)=(q:Int):=by rw [IntKind.wrap_i64];omega
   have S1:SlB (wr.drew.alloc (.cells #[] 5)) (ab (ao+p)) 64 (c - p) ((l.drop p).take 64) :=
    (((S0.stay (w':=wr.drew) (fun _ _ _=>rfl) (zN _)).ext ((Below.refl _ _).alloc (zN _) _)).drop (k:=p) (by omega)).take (k:=64) (by omega)
   have hch:=Disk.chunks_succ k l
   rw [<-hp] at hch
   have HCH:=zH hch
   have hx64:((l.drop p).take 64).length=64:=by rw [List.length_take,List.length_drop,HLN.out];omega
   obtain⟨x,hx⟩:∃ x,(l.drop p).take 64=x:=⟨_,rfl⟩
   rw [hx] at S1 hx64
   rw [hx] at HCH
   have HX:=zH hx64
   have hcll:(Disk.chunks k l).length<=1000000000:=by rw [Disk.chunks_length];omega
   have HCL:=zH hcll
   have y0:wr.cell? g=some v:=by rw [cell_of_row _ _ _ _ _ _ hbox];rfl
   have hOd:OwnL W0.heap.size wr.drew v (Disk.chunks k l):=hO.ext (Below.drew (Below.refl _ _))
   clear hx hx64 hch hp hq hcll
   go_wp2
   go_region_law (first
   |(refine zb_z rfl (.tmp 36) (.tmp 43) rfl W0.heap.size _ [] (by simp [Act.eval]) (OwnB.empty wr.drew hUz) (ab (ao+p)) 64 (c - p) x (by simp [Act.eval]) S1 (by simp) (by simpa using Nat.le_succ_of_le hUz) ?_;intro v3 w3 hO3 hg3;obtain⟨b3,c3,rfl,hb3,hbl3,hs3⟩:=OwnB.at0 (l:=x) hO3 HX.out;have hB3:=((Below.refl wr.drew.heap.size wr.drew).alloc (zN _) (.cells #[] 5)).grown hg3 (by simp) (fun k hk=>by cases hk;exact zN _);have hbox3:w3.heap[g]?=some _:=(hB3.block g bg).trans hbox;have z3:w3.cell? g=some v:=(hB3.cell (p:=g) bg).trans y0;have z4:∀ o,(w3.alloc o).cell? g=some v:=fun o=>(((Below.refl w3.heap.size w3).alloc (zN _) o).cell (p:=g) (za_a hbox3)).trans z3)
   |(refine zm_h rfl (.tmp 35) (.tmp 45) rfl W0.heap.size v (Disk.chunks k l) (by simp [Act.eval]) ((hOd.ext hB3).ext ((Below.refl _ _).alloc (zN _) _)) (.slice b3 64 c3) x (OwnB.alloc (l:=x) hO3 _) w3.heap.size (by simp [Act.eval]) (by rw [World.cell?_alloc_at _ _ _ _ rfl];rfl) HCL.out (by have:=hB3.size;have:wr.drew.heap.size=wr.heap.size:=rfl;simp;omega) ?_;intro v5 w5 hO5 hg5;obtain⟨a5,c5,rfl,-⟩:=hO5.sl;have hbox5:w5.heap[g]?=some _:=(hg5.block g (by have:=za_a hbox3;simp;omega) (fun e=>by have:=(hO.lt g e.symm).1;omega)).trans ((za_c _ _ _ (za_a hbox3)).trans hbox3);have z5:w5.cell? g=some v:=(by rw [cell_of_row _ _ _ _ _ _ hbox5];rfl);have f5:w5.frozen? g=false:=frozen_of_row _ _ _ _ _ hbox5))
   all_goals
    have hO6:=hO5.keepR (w':=w5.setCell g (.slice a5 ((Disk.chunks k l).length+1) c5)) (fun b hb hbl=>heap_setCell_other _ _ _ _ (show b ≠ g by rw [hsz0] at hb;omega))
    have hbox6:(w5.setCell g (.slice a5 ((Disk.chunks k l).length+1) c5)).heap[g]?=some (.cells #[.slice a5 ((Disk.chunks k l).length+1) c5,.slice cb n n,.slice none 0 0,.int .i64 0,.bool false] 128 (0,0)):=by rw [heap_setCell_same _ _ _ _ _ _ hbox5];rfl
    have hU6:Upd (fun b=>b=g) W0 (fun b=>b=g) (w5.setCell g (.slice a5 ((Disk.chunks k l).length+1) c5)):=((((hU.drew).ext hB3).alloc _).grown (fun b hb=>.inr (hO.lt b hb).1) hg5).setCell (.inl rfl) _ _
    have hO7:OwnL W0.heap.size (w5.setCell g (.slice a5 ((Disk.chunks k l).length+1) c5)) (.slice a5 ((Disk.chunks k l).length+1) c5) (Disk.chunks (k+1) l):=by rw [HCH.out];simpa using hO6
    clear hO5 hO6 hg5 hbox5 z5 f5 hbox3 z3 z4 hO3 hg3 hB3 hs3 hbox y0 S1 hO hU hOd
    generalize w5.setCell g (.slice a5 ((Disk.chunks k l).length+1) c5)=W6 at *
    go_wp2
    exact⟨⟨k+1,by omega,by go_num,⟨_,hbox6,hO7,hU6⟩⟩,by simp [intOf];omega⟩
  ·obtain rfl:k=n:=by omega
   go_wp2
   go_ret2
   exact hL.done h1 h2 HLN.out hb0 (by rw [<-HC.out];exact hwg) (by omega) (by rw [<-HC.out];exact zN _) (by omega) (by omega) hrow0 hcsz HN.out
end
end Go.Proofs.YtmanejniepghlaaGreatDoor
