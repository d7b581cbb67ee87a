import Derived.Test.YtmanejniepghlaaGreatDoorRun16
import Derived.Laws.OwnMore
namespace Go.Proofs.YtmanejniepghlaaGreatDoor
open Go.RowKit
variable {base c g n:Nat} {w:World} {l:List (List UInt8)}
namespace Host
theorem split_count:∀ l:List UInt8,(split l).length=l.count 46+1
|[]=>rfl
|x :: l=>by
  have ih:=split_count l
  by_cases hx:x=46
  ·subst hx;rw [zb_k,List.length_cons,ih,List.count_cons_self]
  ·rw [za_z hx,List.count_cons_of_ne hx]
   have hp:=List.length_pos_iff.2 (split_ne l)
   simp only [List.length_cons,List.length_tail];omega
end Host
theorem OwnT.set (h:OwnT base w (.slice g n c) l) (j:Nat) (b:List UInt8) :
 OwnT base (w.setCell (g j) (tv b)) (.slice g n c) (l.set j b):=by
 have hn:n=l.length:=by
  obtain⟨a,c',e,-⟩:=h.sl
  injection e
 subst hn
 have:=(World.ownsRow.stored h j (tv b)).1
 unfold OwnT
 rw [List.length_set,List.map_set];exact this
theorem OwnT.free (h:OwnT base w (.slice g n c) l) (k:Nat):w.frozen? (g k)=false:=by
 have hn:n=l.length:=by
  obtain⟨a,c',e,-⟩:=h.sl
  injection e
 subst hn
 exact World.ownsRow.frozenAt h k
theorem madeT (n:Nat):(madeCells (Value.string ⟨#[]⟩).cells (n * 1)).toList=(List.replicate n ([]:List UInt8)).map tv:=by
 rw [Nat.mul_one,show madeCells (Value.string ⟨#[]⟩).cells n=madeCells #[.string ⟨#[]⟩] n from rfl,toList_madeCells_one];simp [tv,str]
theorem zo_o (n:Nat) (hn:n<=1000001) (w:World):∃ w',Sem.run Tryz.prog (Instr.makeSlice 200 (n:Value) (n:Value)) w=.ok (Value.slice w.heap.size n n) w'/\OwnT w.heap.size w' (Value.slice w.heap.size n n) (List.replicate n [])/\Below w.heap.size w w':=by
 obtain⟨i0,hi,hz0,hz1,hz2⟩:=info_parts infoStr
 obtain⟨w',hrun,r1,r2⟩:=run_make_full (P:=Tryz.prog) w w.heap.size 200 9 i0 (.string ⟨#[]⟩) 1 Tryz.underlying200 hi hz0 hz1 .i64 .i64 n (by rw [hz2];omega) (by unfold maxLen;omega) (zN _)
 rw [madeT n] at r1
 refine⟨w',hrun,?_,(Below.refl _ _).grown r2 (zN _) (fun k hk=>by cases hk)⟩
 unfold OwnT;rw [List.length_replicate];exact r1
def GsRel (l:List UInt8) (ps:List (List UInt8)) (N g base:Nat) (w:World) (s i:Value) (wr:World):Prop :=
 ∃ k,k < N/\i=.int .i64 (k:Nat)/\s=.string (str (Host.rest l k))/\OwnT base wr (.slice g N N) (ps.take k ++ List.replicate (N - k) [])/\Below base w wr
set_option maxRecDepth 100000 in
set_option maxHeartbeats 4000000 in
theorem zk_h (l:List UInt8) (hl:l.length<=1000000) (w:World) :
 Calls Tryz.prog 243 #[.string (str l),.string ⟨#[46]⟩,.int .i64 0,.int .i64 (-1)] w fun e w'=>∃ v,e=.returned v/\OwnT w.heap.size w' v (Host.split l)/\Below w.heap.size w w':=by
 have hsz:=strSize l
 have hcnt:=fun W=>zq_s (str l) 46 W
 have hdt:(str l).data.toList=l:=rfl
 rw [hdt] at hcnt
 have hsc:=Host.split_count l
 have hcl:l.count 46<=l.length:=List.count_le_length
 have HN0:=List.length_pos_iff.2 (Host.split_ne l)
 have HLAST:=zH (fun k=>Host.rest_last (l:=l) (k:=k))
 have HMORE:=zH (fun k=>Host.rest_more (l:=l) (k:=k))
 have HRL:=zH (fun k=>Nat.le_trans (Host.rest_len l k) hl)
 have HR0:=zH (show str l=str (Host.rest l 0) from rfl)
 obtain⟨ps,hps⟩:∃ ps,Host.split l=ps:=⟨_,rfl⟩
 rw [hps] at HN0 HLAST HMORE hsc ⊢
 obtain⟨N,hN⟩:∃ N,ps.length=N:=⟨_,rfl⟩
 rw [hN] at HN0 HLAST HMORE hsc
 have HN:=zH hN
 have hct:Lib.countByte l 46=N - 1:=by unfold Lib.countByte;omega
 rw [hct] at hcnt
 have HCNT:=zH hcnt
 have i0:((N - 1:Nat):Int)=(N:Int) - 1:=by omega
 have i1:(N:Int)<=(l.length:Int)+1:=by omega
 have i2:0<=(N:Int) - 1:=by omega
 have hNb:N<=1000001:=by omega
 obtain⟨sv,hsv⟩:∃ sv,str l=sv:=⟨_,rfl⟩
 rw [hsv] at hsz HCNT HR0 ⊢
 clear hcnt hdt hsc hcl hps hN hct hsv
 go_enter Tryz.func243,Tryz.ntmps243
 go_wp2_with fail
 refine (HCNT.out _).mono ?_;rintro e w1 ⟨rfl,rfl⟩
 rw [i0]
 have hmin:min (N:Int) ((l.length:Int)+1)=(N:Int):=by omega
 obtain⟨w2,hrun,hO,hB⟩:=zo_o N hNb w1
 obtain⟨g,hg⟩:∃ g,w1.heap.size=g:=⟨_,rfl⟩
 rw [hg] at hrun hO
 have HG:=zH hg
 have hst:GsRel l ps N g w1.heap.size w1 (.string sv) (.int .i64 0) w2:=⟨0,HN0,rfl,by rw [HR0.out],by rw [hg];simpa using hO,hB⟩
 have HST:=zH hst
 clear hst hO hg
 go_wp2_with fail
 clear hrun hmin
 go_loopw [0,10] (fun s i wr=>GsRel l ps N g w1.heap.size w1 s i wr) (fun _ i _=>N - (intOf i).toNat)
 case atStart=>exact HST.out
 case round =>
  obtain⟨k,hk,rfl,rfl,hOk,hBk⟩:=hrel
  have k0:(0:Int)<=(k:Int):=by omega
  have hfr:=hOk.free k
  have hkN:(k:Int) < (N:Int):=by omega
  have hgl:g < wr.heap.size:=(hOk.lt g rfl).2
  have hcell:wr.cell? (g k)=some (tv ((ps.take k ++ List.replicate (N - k) [])[k]?.getD [])):=by
   obtain⟨a,c,e,hs⟩:=hOk.sl
   have h1:(ps.take k ++ List.replicate (N - k) ([]:List UInt8)).length=N:=by rw [List.length_append,List.length_take,List.length_replicate,HN.out];omega
   rw [h1] at e hs
   cases e
   obtain⟨_,_,e5,_,_,hc⟩:=hs.at hk
   cases e5
   rw [Nat.zero_add] at hc;exact hc
  obtain⟨old,hold⟩:∃ old,tv ((ps.take k ++ List.replicate (N - k) [])[k]?.getD [])=old:=⟨_,rfl⟩
  rw [hold] at hcell
  have hrl:=HRL.out k
  have hsz2:=strSize (Host.rest l k)
  have hcut:=strCut (Host.rest l k)
  have hidx:=fun W=>zl_h (str (Host.rest l k)) 46 W
  have hdt:(str (Host.rest l k)).data.toList=Host.rest l k:=rfl
  rw [hdt] at hidx
  have HPK:=zH (show ∀ p,ps[k]?.getD []=p->(ps.take k ++ List.replicate (N - k) []).set k p=ps.take (k+1) ++ List.replicate (N - (k+1)) [] by
   intro p hp
   have hkl:k < ps.length:=by rw [HN.out];exact hk
   rw [List.getElem?_eq_getElem hkl] at hp
   simp only [Option.getD_some] at hp
   rw [List.set_append_right _ _ (by rw [List.length_take];omega),List.length_take,Nat.min_eq_left (by omega),Nat.sub_self]
   obtain⟨m,hm⟩:∃ m,N - k=m+1:=⟨N - k - 1,by omega⟩
   rw [hm,List.replicate_succ,List.set_cons_zero,show N - (k+1)=m by omega,<-List.take_append_getElem hkl,hp,List.append_assoc];rfl)
  by_cases hk1:k+1 < N
  ·obtain⟨j,e1,e2,e3,e4⟩:=HMORE.out k hk1
   obtain⟨r,hr⟩:∃ r,Host.rest l k=r:=⟨_,rfl⟩
   rw [hr] at e1 e2 e3 e4 hcut hsz2 hidx hrl ⊢
   rw [e1] at hidx
   have HIX:=zH hidx
   have hc1:=hcut 0 j
   have hc2:=hcut (j+1) r.length
   rw [List.drop_zero] at hc1
   rw [List.take_length,<-e4] at hc2
   have HSET:=zH (HPK.out _ e3)
   obtain⟨p,hp⟩:∃ p,r.take j=p:=⟨_,rfl⟩
   rw [hp] at hc1 HSET
   have hO2:=hOk.set k p
   rw [tv] at hO2
   obtain⟨s2,hs2⟩:∃ s2,str (Host.rest l (k+1))=s2:=⟨_,rfl⟩
   obtain⟨s1,hs1⟩:∃ s1,str p=s1:=⟨_,rfl⟩
   obtain⟨sr,hsr⟩:∃ sr,str r=sr:=⟨_,rfl⟩
   rw [hs2] at hc2
   rw [hs1] at hc1 hO2
   rw [hsr] at hc1 hc2 hsz2 HIX ⊢
   have HS2:=zH hs2
   have HO2:=zH hO2
   have t0:(0:Int)<=(j:Int):=by omega
   have t1:(j:Int)<=(r.length:Int):=by omega
   have t2:(j:Int)+1<=(r.length:Int):=by omega
   have t3:((j:Int)+1).toNat=j+1:=by omega
   have t4:(k:Int) < (N:Int) - 1:=by omega
   have HBS:=zH (fun v=>hBk.setCell (p:=(g k)) (by rw [HG.out];exact zN _) v)
   clear hidx hcut hr hs1 hs2 hsr e1 e3 e4 hdt hp hold hO2 HPK
   go_wp2_with (go_at_call 237;go_must (refine (HIX.out _).mono ?_);rintro e W1 ⟨rfl,rfl⟩)
   exact⟨⟨k+1,hk1,by go_num,by rw [HS2.out],by rw [<-HSET.out];exact HO2.out,HBS.out _⟩,by simp [intOf];omega⟩
  ·obtain⟨e1,e2⟩:=HLAST.out k (by omega)
   have HSET:=zH (HPK.out _ e2)
   have hkn:k+1=N:=by omega
   have hfull:ps.take (k+1) ++ List.replicate (N - (k+1)) []=ps:=by
    rw [hkn,Nat.sub_self,List.take_of_length_le (by rw [HN.out];exact zN _)];simp
   have hO2:=hOk.set k (Host.rest l k)
   rw [HSET.out,hfull,tv] at hO2
   have HO2:=zH hO2
   have t4:¬ (k:Int) < (N:Int) - 1:=by omega
   have t5:((k:Int)+1).toNat=N:=by omega
   have t6:(k:Int)+1<=(N:Int):=by omega
   have t7:(0:Int)<=(k:Int)+1:=by omega
   have HBS:=zH (fun v=>hBk.setCell (p:=(g k)) (by rw [HG.out];exact zN _) v)
   obtain⟨sr,hsr⟩:∃ sr,str (Host.rest l k)=sr:=⟨_,rfl⟩
   rw [hsr] at HO2 ⊢
   clear hidx hcut hsz2 e1 e2 hkn hfull hO2 HPK HSET hsr hold hdt
   go_wp2_with fail
   go_ret
   exact⟨_,rfl,HO2.out,HBS.out _⟩
theorem zq_t (l:List UInt8) (hl:l.length<=1000000) (w:World) :
 Calls Tryz.prog 233 #[.string (str l),.string ⟨#[46]⟩] w fun e w'=>∃ v,e=.returned v/\OwnT w.heap.size w' v (Host.split l)/\Below w.heap.size w w':=by
 have HG:=zH (zk_h l hl w)
 obtain⟨sv,hsv⟩:∃ sv,str l=sv:=⟨_,rfl⟩
 rw [hsv] at HG ⊢
 clear hsv
 go_enter Tryz.func233,Tryz.ntmps233
 go_wp2_with fail
 refine HG.out.mono ?_;rintro e w1 ⟨v,rfl,hO,hB⟩
 go_wp2_with fail
 go_ret
 exact⟨v,rfl,hO,hB⟩
end Go.Proofs.YtmanejniepghlaaGreatDoor
