import Derived.Test.YtmanejniepghlaaGreatDoorRun19
import Derived.Test.YtmanejniepghlaaGreatDoorRun1
import Derived.Shelf.Spec.SlicesInsert
import Derived.Lib.AppendZerosOnto
import Derived.Laws.NewBlocks
import Derived.Test.YtmanejniepghlaaGreatDoorRun10
import Derived.Test.YtmanejniepghlaaGreatDoorRun12
import Derived.Test.YtmanejniepghlaaGreatDoorRun18
namespace Go.Proofs.YtmanejniepghlaaGreatDoor
section
open Go.RowKit
set_option maxRecDepth 100000
theorem zc_p {P:Program} (k:Nat) (w:World) (dT sT ty elem:TypeId) (b o dLen dCap:Nat) (a:Addr) (sLen sCap:Nat) (cs:List Value)
 (hu:P.underlying dT=some (.slice elem)) (hs:(P.info? elem).map (·.size)=some k) (hn:cs.length=Nat.min sLen dLen * k)
 (hsrc:∀ j v,cs[j]?=some v->w.cell? (a.add j)=some v) (hc:∀ j,j < cs.length->(w.cell? (b (o+j))).isSome=true) (hf:∀ j,j < cs.length->w.frozen? (b (o+j))=false) (h1:∀ v ∈ cs,v.oneCell'=true) :
 (Builtin.copy_ #[dT,sT] ty #[.slice (b o) dLen dCap,.slice (some a) sLen sCap]).run P w=.ok (goInt (Nat.min sLen dLen)) (w.setCells b o cs):=by
 have hl:=run_loadCells_list (P:=P) w a cs hsrc
 have hst:=run_storeCells_cells (P:=P) b o cs 0 w (by simpa using hc) (by simpa using hf) h1
 cases hq:P.info? elem with
|none=>simp [hq] at hs
|some i =>
  have hi:i.size=k:=by simpa [hq] using hs
  simp [Builtin.copy_,run_underlying hu,Builtin.lenOf,Builtin.firstCells,sizeOf,typeInfo,hq,hi,<-hn,hl,hst]
theorem zf_f (l:List Pin):∀ v ∈ l.flatMap pl,v.oneCell'=true:=by
 intro u hu
 obtain⟨p,_,hp⟩:=List.mem_flatMap.1 hu
 simp [pl] at hp
 rcases hp with rfl|rfl|rfl <;> rfl
set_option maxHeartbeats 4000000 in
theorem zp_v (b n c i vb:Nat) (L:List Pin) (p:Pin) (w:World) (hi:i < n) (hnc:n<=c) (hroom:c < n+1) (hbig:n<=1000000) (hL:L.length=n)
 (hcs:∀ j v,(L.flatMap pl)[j]?=some v->w.cell? (b (0+j))=some v) (hvs:∀ j v,(pl p)[j]?=some v->w.cell? (vb (0+j))=some v) :
 Calls Tryz.prog 165 #[.slice b n c,i,.slice vb 1 1] w fun e w' =>
  ∃ G ROW,n+1<=G/\G<=maxLen/\ROW.size=G * 3/\ROW.toList.take (i * 3)=(L.take i).flatMap pl/\e=.returned (.slice w.heap.size (n+1) G) ∧
  w'=(((w.alloc (.cells ROW 34)).drew.setCells w.heap.size (i * 3) (pl p)).drew).setCells w.heap.size ((i+1) * 3) ((L.drop i).flatMap pl):=by
 have mixed:Tryz.prog.follows Departure.mixedOrders=true:=by kernel_rfl
 obtain⟨i0,hi0,hz0,hzs,hzb⟩:=info_parts infoPin
 have hz2:¬ ((i:Int)=(n:Int)):=by omega
 have hz3:(c:Int) < (n:Int)+1:=by omega
 have hsz:(Tryz.prog.info? 34).map (·.size)=some 3:=by rw [hi0];simp [hzs]
 have hcl:(L.flatMap pl).length=n * 3:=by rw [za_f,hL]
 have hbw:b < w.heap.size:=block_lt_of_cell (hcs 0 _ (List.getElem?_eq_getElem (by omega)))
 have hvw:vb < w.heap.size:=block_lt_of_cell (hvs 0 _ (List.getElem?_eq_getElem (by simp [pl])))
 have hkk:(n:Int)+1 - (i:Int)=((n+1 - i:Nat):Int):=by omega
 have hik:i+(n+1 - i)=n+1:=by omega
 have htk:(L.take i).flatMap pl=(L.flatMap pl).take (i * 3):=by
  conv=>rhs;rw [<-List.take_append_drop i L,List.flatMap_append]
  rw [List.take_left' (by rw [za_f,List.length_take];omega)]
 have hdk:(L.drop i).flatMap pl=(L.flatMap pl).drop (i * 3):=by
  conv=>rhs;rw [<-List.take_append_drop i L,List.flatMap_append]
  rw [List.drop_left' (by rw [za_f,List.length_take];omega)]
 have hold:(Builtin.firstCells i0.size i (.slice b i c)).run Tryz.prog w.drew=.ok ((L.flatMap pl).take (i * 3)).toArray w.drew:=by
  rw [hzs]
  exact run_firstCells_some w.drew 3 i b i c ((L.flatMap pl).take (i * 3)) (by rw [List.length_take];omega) (fun j v hj=>by
   rw [Addr.add_lit]
   rw [List.getElem?_take] at hj
   split at hj
   ·exact hcs j v hj
   ·cases hj)
 have hrz:∀ ty,(Builtin.append_ #[42,3] ty #[.slice b i c,.int .i64 ((n:Int)+1 - (i:Int))]).run Tryz.prog w =
  .ok (.slice w.heap.size (n+1) (grownCap w (n+1) c 34)) (w.drew.alloc (.cells (((L.flatMap pl).take (i * 3)).toArray ++ Builtin.zeroCells (Value.agg #[.string ⟨#[]⟩,.bool false,.int .i64 0]).cells (n+1 - i) ++ Builtin.zeroCells (Value.agg #[.string ⟨#[]⟩,.bool false,.int .i64 0]).cells (grownCap w (n+1) c 34 - (n+1))) 34)):=fun ty=>by
  have h:=Lib.run_append_grow_zeros w 42 3 ty 34 i0 _ .i64 .i64 Tryz.underlying42 Tryz.underlying3 hi0 hz0 b i c ((L.flatMap pl).take (i * 3)) hold (n+1 - i) (by omega) (by omega) (by omega) (by omega) (by rw [hzb];omega) (by rw [hzb,hik];exact growslice_fits hroom (by omega))
  rw [hik] at h
  rw [hkk]
  exact h
 have hGn:n+1<=grownCap w (n+1) c 34:=grownCap_ge w _ _ _
 have hGm:grownCap w (n+1) c 34<=maxLen:=grownCap_le_maxLen w (n+1) c 34 (by unfold maxLen;omega)
 obtain⟨G,hG⟩:∃ G,G=grownCap w (n+1) c 34:=⟨_,rfl⟩
 rw [<-hG] at hrz hGn hGm
 obtain⟨ROW,hROW⟩:∃ ROW:Array Value,ROW=((L.flatMap pl).take (i * 3)).toArray ++ Builtin.zeroCells (Value.agg #[.string ⟨#[]⟩,.bool false,.int .i64 0]).cells (n+1 - i) ++ Builtin.zeroCells (Value.agg #[.string ⟨#[]⟩,.bool false,.int .i64 0]).cells (G - (n+1)):=⟨_,rfl⟩
 rw [<-hROW] at hrz
 have hRl:ROW.size=G * 3:=by
  rw [hROW]
  simp [Builtin.zeroCells,Value.cells,hcl]
  omega
 have hRt:ROW.toList.take (i * 3)=(L.take i).flatMap pl:=by
  rw [hROW,htk,Array.toList_append,Array.toList_append,List.append_assoc,List.take_append_of_le_length (by simp [hcl];omega)]
  exact List.take_of_length_le (by simp;omega)
 obtain⟨W1,hW1⟩:∃ W1,W1=w.drew.alloc (.cells ROW 34):=⟨_,rfl⟩
 rw [<-hW1] at hrz
 have hN:∀ j,j < (n+1) * 3->(W1.cell? (w.heap.size j)).isSome=true:=fun j hj=>by
  rw [hW1,World.cell?_alloc_at (w:=w.drew) ROW _ w.heap.size j rfl,Array.getElem?_eq_getElem (by omega)];rfl
 have hNf:∀ j,W1.frozen? (w.heap.size j)=false:=fun j=>by rw [hW1];exact World.frozen?_alloc_at (w:=w.drew) ROW _ w.heap.size j rfl
 have hOb:∀ j v,w.cell? (b j)=some v->W1.cell? (b j)=some v:=fun j v h=>by rw [hW1,World.cell?_alloc_past (w:=w.drew) _ b j hbw];exact h
 have hOv:∀ j v,w.cell? (vb j)=some v->W1.cell? (vb j)=some v:=fun j v h=>by rw [hW1,World.cell?_alloc_past (w:=w.drew) _ vb j hvw];exact h
 have h1v:∀ v ∈ pl p,v.oneCell'=true:=fun v hv=>zf_f [p] v (by simpa using hv)
 have hpl:(pl p).length=3:=rfl
 obtain⟨vs,hvse⟩:∃ vs,pl p=vs:=⟨_,rfl⟩
 rw [hvse] at hvs h1v hpl
 have hdl:((L.drop i).flatMap pl).length=(n - i) * 3:=by rw [za_f,List.length_drop,hL]
 have hds:∀ j v,((L.drop i).flatMap pl)[j]?=some v->w.cell? (b (i * 3+j))=some v:=fun j v hj=>by
  rw [hdk,List.getElem?_drop] at hj
  have:=hcs _ _ hj
  rwa [Nat.zero_add] at this
 have h1d:=zf_f (L.drop i)
 obtain⟨ds,hdse⟩:∃ ds,(L.drop i).flatMap pl=ds:=⟨_,rfl⟩
 rw [hdse] at hdl hds h1d
 have hcpA:∀ (W:World),(∀ x,W.cell? x=W1.cell? x)->(∀ x,W.frozen? x=W1.frozen? x)->∀ ty dc,(Builtin.copy_ #[42,42] ty #[.slice (w.heap.size (i * 3)) (n+1 - i) dc,.slice vb 1 1]).run Tryz.prog W=.ok (goInt 1) (W.setCells w.heap.size (i * 3) vs):=fun W hWc hWf ty dc=>by
  have hm:Nat.min 1 (n+1 - i)=1:=by simp only [Nat.min_def];split <;> omega
  have:=zc_p (P:=Tryz.prog) 3 W _ 42 ty 34 w.heap.size (i * 3) (n+1 - i) dc vb 1 1 vs Tryz.underlying42 hsz (by rw [hm];omega)
   (fun j v hj=>by rw [Addr.add_lit,hWc];exact hOv _ v (hvs j v hj))
   (fun j hj=>by rw [hWc];exact hN _ (by omega)) (fun j hj=>by rw [hWf];exact hNf _) h1v
  rwa [hm] at this
 have hGi:¬ (G=i):=by omega
 have hGim:¬ (G=i+1):=by omega
 have hci:¬ (c=i):=by omega
 have hbN:b ≠ w.heap.size:=by omega
 have hcpB:∀ (W:World),(∀ x,W.cell? x=(W1.setCells w.heap.size (i * 3) vs).cell? x)->(∀ x,W.frozen? x=(W1.setCells w.heap.size (i * 3) vs).frozen? x)->∀ ty dc sc,(Builtin.copy_ #[42,42] ty #[.slice (w.heap.size ((i+1) * 3)) (n+1 - (i+1)) dc,.slice (b (i * 3)) (n - i) sc]).run Tryz.prog W=.ok (goInt ((n - i:Nat):Int)) (W.setCells w.heap.size ((i+1) * 3) ds):=fun W hWc hWf ty dc sc=>by
  have hm:Nat.min (n - i) (n+1 - (i+1))=n - i:=by simp only [Nat.min_def];split <;> omega
  have:=zc_p (P:=Tryz.prog) 3 W _ 42 ty 34 w.heap.size ((i+1) * 3) (n+1 - (i+1)) dc (b (i * 3)) (n - i) sc ds Tryz.underlying42 hsz (by rw [hm];omega)
   (fun j v hj=>by
    rw [Addr.add_lit,hWc,World.cell?_setCells_out _ _ _ _ _ (fun h _=>absurd h hbN)]
    exact hOb _ v (hds j v hj))
   (fun j hj=>by rw [hWc];exact isSome_setCells _ _ _ _ (fun t ht=>hN _ (by omega)) _ (hN _ (by omega)))
   (fun j hj=>by rw [hWf,World.frozen?_setCells];exact hNf _) h1d
  rwa [hm] at this
 subst hW1
 have hE1:∀ x,((w.alloc (.cells ROW 34)).drew).cell? x=(w.drew.alloc (.cells ROW 34)).cell? x:=fun x=>rfl
 have hE2:∀ x,((w.alloc (.cells ROW 34)).drew).frozen? x=(w.drew.alloc (.cells ROW 34)).frozen? x:=fun x=>rfl
 have hF1:∀ x,(((w.alloc (.cells ROW 34)).drew.setCells w.heap.size (i * 3) vs).drew).cell? x=((w.drew.alloc (.cells ROW 34)).setCells w.heap.size (i * 3) vs).cell? x:=fun x=>rfl
 have hF2:∀ x,(((w.alloc (.cells ROW 34)).drew.setCells w.heap.size (i * 3) vs).drew).frozen? x=((w.drew.alloc (.cells ROW 34)).setCells w.heap.size (i * 3) vs).frozen? x:=fun x=>rfl
 have hw1:IntKind.i64.wrap ((i:Int)+1)=(i:Int)+1:=by rw [IntKind.wrap_i64];omega
 have hb1:(0:Int)<=(i:Int)+1:=by omega
 have hin:i<=n:=by omega
 have htn:((i:Int)+1).toNat=i+1:=by omega
 have hb3:(i:Int)<=(n:Int):=by omega
 have HFIN:=zH (show ∃ G' ROW',n+1<=G'/\G'<=maxLen/\ROW'.size=G' * 3/\ROW'.toList.take (i * 3)=(L.take i).flatMap pl/\G'=G/\ROW'=ROW from ⟨G,ROW,hGn,hGm,hRl,hRt,rfl,rfl⟩)
 clear hkk hik hold hROW hG hRl hRt htk hdk hcl hvs hds h1v h1d
 go_enter Tryz.func165,Tryz.ntmps165
 go_wp2_with (first
 |(at_builtin;refine Lib.wpList_append_run _ rfl _ _ _ _ rfl _ _ rfl rfl _ _ (hrz _) ?_)
 |(at_builtin;refine wpList_copy_runI _ rfl _ _ 42 42 rfl _ _ rfl rfl (hcpA _ hE1 hE2 _ _) ?_)
 |(at_builtin;refine wpList_copy_runI _ rfl _ _ 42 42 rfl _ _ rfl rfl (hcpB _ (fun _=>rfl) (fun _=>rfl) _ _ _) ?_))
 go_region_law_o (refine step_copy_runI rfl _ _ 42 42 rfl (.slice (w.heap.size ((i+1) * 3)) (n+1 - (i+1)) (G - (i+1))) (.slice (b (i * 3)) (n - i) (c - i)) (by simp [Act.eval,Act.put]) (by simp [Act.eval,Act.put]) (hcpB _ hF1 hF2 3 (G - (i+1)) (c - i)) ?_)
 go_wp2
 go_ret
 obtain⟨G',ROW',f1,f2,f3,f4,rfl,rfl⟩:=HFIN.out
 exact⟨G',ROW',f1,f2,f3,f4,rfl,by rw [hvse,hdse]⟩
set_option maxHeartbeats 4000000 in
theorem zn_i (b n c i vb:Nat) (L:List Pin) (p:Pin) (w:World) (hi:i < n) (hroom:n+1<=c) (_hc63:c<=maxLen) (hbig:n<=1000000) (hvb:vb ≠ b) (hL:L.length=n)
 (hcs:∀ j v,(L.flatMap pl)[j]?=some v->w.cell? (b (0+j))=some v) (hsp:∀ j,j < (n+1) * 3->(w.cell? (b j)).isSome=true) (hfz:∀ j,w.frozen? (b j)=false) (hvs:∀ j v,(pl p)[j]?=some v->w.cell? (vb (0+j))=some v)
 (tA tB:TypeId) (kA kB:Nat) (hsa:w.shape? vb=some (tA,kA)) (hsb:w.shape? b=some (tB,kB)) (hkB:kB ≠ 0) (hfa:∀ j,w.frozen? (vb j)=false) :
 Calls Tryz.prog 165 #[.slice b n c,i,.slice vb 1 1] w fun e w' =>
  e=.returned (.slice b (n+1) c)/\w'=(w.drew.setCells b ((i+1) * 3) ((L.drop i).flatMap pl)).setCells b (i * 3) (pl p):=by
 have mixed:Tryz.prog.follows Departure.mixedOrders=true:=by kernel_rfl
 obtain⟨i0,hi0,hz0,hzs,hzb⟩:=info_parts infoPin
 have hz2:¬ ((i:Int)=(n:Int)):=by omega
 have hsz:(Tryz.prog.info? 34).map (·.size)=some 3:=by rw [hi0];simp [hzs]
 have hov:∀ lb cb,(callFunc 186 #[.slice vb 1 1,.slice (b ((i+1) * 3)) lb cb]).run Tryz.prog w=.ok (.value (.bool false)) w:=fun lb cb=>by
  rw [run_callFunc_extern Tryz.func186 (by kernel_rfl) (by kernel_rfl) (by kernel_rfl) (e:=Extern.SlicesOverlaps.overlaps #[42,42] #[4]) (by kernel_rfl),
   Lib.run_overlaps_apart w 42 4 34 Tryz.underlying42 3 (fun w=>by simp [sizeOf,typeInfo,hi0,hzs]) vb (b ((i+1) * 3)) 1 1 lb cb hvb tA tB kA kB hsa hsb hkB (hfa _) (hfa _)]
  rfl
 have hdk:(L.drop i).flatMap pl=(L.flatMap pl).drop (i * 3):=by
  conv=>rhs;rw [<-List.take_append_drop i L,List.flatMap_append]
  rw [List.drop_left' (by rw [za_f,List.length_take];omega)]
 have hw1:IntKind.i64.wrap ((i:Int)+1)=(i:Int)+1:=by rw [IntKind.wrap_i64];omega
 have hb1:(0:Int)<=(i:Int)+1:=by omega
 have hin:i<=n:=by omega
 have htn:((i:Int)+1).toNat=i+1:=by omega
 have hb2:¬ (c=i+1):=by omega
 have hb3:(i:Int)<=(n:Int)+1:=by omega
 have hb4:¬ (c=i):=by omega
 have h1v:∀ v ∈ pl p,v.oneCell'=true:=fun v hv=>zf_f [p] v (by simpa using hv)
 have hpl:(pl p).length=3:=rfl
 obtain⟨vs,hvse⟩:∃ vs,pl p=vs:=⟨_,rfl⟩
 rw [hvse] at hvs h1v hpl
 have hdl:((L.drop i).flatMap pl).length=(n - i) * 3:=by rw [za_f,List.length_drop,hL]
 have hds:∀ j v,((L.drop i).flatMap pl)[j]?=some v->w.cell? (b (i * 3+j))=some v:=fun j v hj=>by
  rw [hdk,List.getElem?_drop] at hj
  have:=hcs _ _ hj
  rwa [Nat.zero_add] at this
 have h1d:=zf_f (L.drop i)
 obtain⟨ds,hdse⟩:∃ ds,(L.drop i).flatMap pl=ds:=⟨_,rfl⟩
 rw [hdse] at hdl hds h1d
 have hcp1:∀ ty dc sc,(Builtin.copy_ #[42,42] ty #[.slice (b ((i+1) * 3)) (n - i) dc,.slice (b (i * 3)) (n+1 - i) sc]).run Tryz.prog w.drew=.ok (goInt ((n - i:Nat):Int)) (w.drew.setCells b ((i+1) * 3) ds):=fun ty dc sc=>by
  have hm:Nat.min (n+1 - i) (n - i)=n - i:=by simp only [Nat.min_def];split <;> omega
  have:=zc_p (P:=Tryz.prog) 3 w.drew _ 42 ty 34 b ((i+1) * 3) (n - i) dc (b (i * 3)) (n+1 - i) sc ds Tryz.underlying42 hsz (by rw [hm];omega)
   (fun j v hj=>by rw [Addr.add_lit];exact hds j v hj)
   (fun j hj=>hsp _ (by omega)) (fun j hj=>hfz _) h1d
  rwa [hm] at this
 obtain⟨W1,hW1⟩:∃ W1,W1=w.drew.setCells b ((i+1) * 3) ds:=⟨_,rfl⟩
 have hsp1:∀ k,k < (n+1) * 3->(W1.cell? (b k)).isSome=true:=fun k hk=>by
  rw [hW1]
  exact isSome_setCells b ds ((i+1) * 3) w.drew (fun j hj=>hsp _ (by omega)) k (hsp k hk)
 have hcp2:∀ (W:World),(∀ x,W.cell? x=W1.cell? x)->(∀ x,W.frozen? x=W1.frozen? x)->∀ ty dc,(Builtin.copy_ #[42,42] ty #[.slice (b (i * 3)) (n+1 - i) dc,.slice vb 1 1]).run Tryz.prog W=.ok (goInt 1) (W.setCells b (i * 3) vs):=fun W hWc hWf ty dc=>by
  have hm:Nat.min 1 (n+1 - i)=1:=by simp only [Nat.min_def];split <;> omega
  have:=zc_p (P:=Tryz.prog) 3 W _ 42 ty 34 b (i * 3) (n+1 - i) dc vb 1 1 vs Tryz.underlying42 hsz (by rw [hm];omega)
   (fun j v hj=>by
    rw [Addr.add_lit,hWc,hW1,World.cell?_setCells_out b _ _ _ _ (fun h _=>absurd h hvb)]
    exact hvs j v hj)
   (fun j hj=>by rw [hWc];exact hsp1 _ (by omega)) (fun j hj=>by rw [hWf,hW1,World.frozen?_setCells];exact hfz _) h1v
  rwa [hm] at this
 rw [<-hW1] at hcp1
 have hcI:(n:Int)+1<=(c:Int):=by omega
 clear hdk hcs hvs hsp hds h1v h1d
 go_enter Tryz.func165,Tryz.ntmps165
 go_wp2_with (simp only [hov])
 go_region_law_o (refine step_copy_runI rfl _ _ 42 42 rfl _ _ (by simp [Act.eval,Act.put]) (by simp [Act.eval,Act.put]) (hcp1 _ _ _) ?_)
 go_wp2_with (at_builtin;refine wpList_copy_runI _ rfl _ _ 42 42 rfl _ _ rfl rfl (hcp2 _ (fun _=>rfl) (fun _=>rfl) _ _) ?_)
 go_ret
 exact⟨rfl,by rw [hvse,hdse]⟩
end
section
open Go.RowKit
variable {w:World}
theorem zk_e (cur:Array Value) (o:Nat) (A X Y:List Value) (hA:cur.toList.take o=A) (ho:A.length=o) (hs:o+X.length+Y.length<=cur.size) :
 (YtmanejniepghlaaGreatDoor.splice (YtmanejniepghlaaGreatDoor.splice cur o X) (o+X.length) Y).toList.take (o+X.length+Y.length)=A ++ (X ++ Y):=by
 rw [za_n _ _ _ (by rw [za_r];omega),za_n _ _ _ (by omega),hA]
 have h1:(A ++ X ++ cur.toList.drop (o+X.length)).take (o+X.length)=A ++ X:=List.take_left' (by simp;omega)
 rw [h1,List.append_assoc (A ++ X),List.take_append,List.take_of_length_le (by simp;omega),List.take_append]
 simp [ho,List.append_assoc]
theorem zh_n (cur:Array Value) (o:Nat) (A X D:List Value) (hA:cur.toList.take (o+D.length)=A ++ D) (ho:A.length=o) (hs:o+X.length+D.length<=cur.size) :
 (YtmanejniepghlaaGreatDoor.splice (YtmanejniepghlaaGreatDoor.splice cur (o+X.length) D) o X).toList.take (o+X.length+D.length)=A ++ (X ++ D):=by
 have hA2:cur.toList.take o=A:=by
  have:=congrArg (List.take o) hA
  rw [List.take_take,List.take_left' ho] at this
  rwa [show min o (o+D.length)=o by omega] at this
 rw [za_n _ _ _ (by rw [za_r];omega),za_n _ _ _ (by omega)]
 have h1:(cur.toList.take (o+X.length) ++ D ++ cur.toList.drop (o+X.length+D.length)).take o=A:=by
  rw [List.append_assoc,List.take_append_of_le_length (by simp;omega),List.take_take,show min o (o+X.length)=o by omega,hA2]
 have h2:(cur.toList.take (o+X.length) ++ D ++ cur.toList.drop (o+X.length+D.length)).drop (o+X.length)=D ++ cur.toList.drop (o+X.length+D.length):=by
  rw [List.append_assoc,List.drop_left' (by simp;omega)]
 rw [h1,h2,<-List.append_assoc,List.take_left' (by simp;omega),List.append_assoc]
theorem zh_s {base:Nat} {v:Value} {L:List Pin} (hown:OwnN base w v L) (vb:Nat) (p:Pin) (hsl:SlN w vb 1 1 [p]) (hlen:L.length<=1000000) (hbase:base<=w.heap.size) (ty:TypeId) :
 ∃ v' w',(Builtin.append_ #[42,42] ty #[v,.slice vb 1 1]).run Tryz.prog w=.ok v' w'/\OwnN base w' v' (L ++ [p])/\w.grownBy w' v.ownBlock/\∀ k,v'.ownBlock=some k->v.ownBlock=some k\/w.heap.size<=k:=by
 obtain⟨i0,hi,hz0,hz1,hz2⟩:=info_parts infoPin
 obtain⟨-,-,c1,c2,c3⟩:=hsl.2.2.2.2 _ rfl 0 (by simp)
 have hnews:∀ j u,(pl p)[j]?=some u->w.cell? ((vb:Addr).add j)=some u:=by
  intro j u hj
  rw [Addr.add_lit]
  match j,hj with
 |0,hj=>cases hj;exact c1
 |1,hj=>cases hj;exact c2
 |2,hj=>cases hj;exact c3
 |j+3,hj=>simp [pl] at hj
 have hpl:(pl p).length=3:=rfl
 have h1:∀ u ∈ pl p,u.oneCell'=true:=fun u hu=>zf_f [p] u (by simpa using hu)
 obtain⟨v',w',hr,h2,h3,-⟩:=run_append_own (P:=Tryz.prog) w base 42 ty 34 i0 _ 3 32 Tryz.underlying42 hi hz0 hz1 hz2 rfl (by decide) v L.length _ hown vb 1 1 (pl p) rfl hnews h1 (by unfold maxLen;omega) (by omega) hbase
 refine⟨v',w',hr,?_,h3,?_⟩
 ·unfold OwnN;rw [List.length_append,List.flatMap_append];simpa using h2
 ·intro k hk
  rcases hown.2 with⟨hv,hn⟩|⟨g,cap,cur,hv,hbg,hg,hnc,hcm,hcs,htake⟩
  ·right
   have hw0:OwnN w.heap.size w v L:=⟨hown.1,.inl ⟨hv,hn⟩⟩
   obtain⟨v2,w2,hr2,h22,-,-⟩:=run_append_own (P:=Tryz.prog) w w.heap.size 42 ty 34 i0 _ 3 32 Tryz.underlying42 hi hz0 hz1 hz2 rfl (by decide) v L.length _ hw0 vb 1 1 (pl p) rfl hnews h1 (by unfold maxLen;omega) (by omega) (zN _)
   rw [hr] at hr2
   cases hr2
   exact (World.ownsRow.lt h22 k hk).1
  ·subst hv
   by_cases hroom:L.length+1<=cap
   ·left
    have hr2:=run_append_room (P:=Tryz.prog) w 42 ty 34 i0 Tryz.underlying42 hi g L.length cap cur hg vb 1 1 (pl p) (by rw [hz1];rfl) hnews h1 hroom (by rw [hz1,hpl];omega)
    rw [hr] at hr2
    cases hr2
    exact hk
   ·right
    have holds:∀ j u,(L.flatMap pl)[j]?=some u->w.cell? ((g:Addr).add j)=some u:=by
     intro j u hj
     rw [Addr.add_lit,Nat.zero_add,cell_of_row w g j cur _ _ hg]
     rw [<-htake,List.getElem?_take] at hj
     split at hj
     ·simpa using hj
     ·cases hj
    have hr2:=run_append_grow (P:=Tryz.prog) w 42 ty 34 i0 _ Tryz.underlying42 hi hz0 g L.length cap (L.flatMap pl) (by rw [za_f,hz1]) holds vb 1 1 (pl p) (by rw [hz1];rfl) hnews (by omega) (by omega) (growslice_fits (by omega) (by rw [hz2];omega))
    rw [hr] at hr2
    cases hr2
    cases hk
    exact zN _
def InsP (base:Nat) (v:Value) (L:List Pin) (w:World) (e:Ending) (w':World):Prop:=∃ v',e=.returned v'/\OwnN base w' v' L/\w.grownBy w' v.ownBlock/\∀ k,v'.ownBlock=some k->v.ownBlock=some k\/w.heap.size<=k
set_option maxRecDepth 100000 in
theorem zr_v (base:Nat) (v:Value) (L:List Pin) (p:Pin) (vb:Nat) (w:World) (h:OwnN base w v L) (hl:L.length<=1000000) (hb:base<=w.heap.size) (hx:SlN w vb 1 1 [p]) :
 Calls Tryz.prog 165 #[v,.int .i64 (L.length:Nat),.slice vb 1 1] w (InsP base v (L ++ [p]) w):=by
 obtain⟨v1,w1,hr,hown,hg1,hk1⟩:=zh_s h vb p hx hl hb 42
 have HR:=zH hr
 have HF:=zH (show InsP base v (L ++ [p]) w (.returned v1) w1 from ⟨v1,rfl,hown,hg1,hk1⟩)
 clear hr hown hg1 hk1
 rcases id h.2 with⟨rfl,hn0⟩|⟨g,cap,cur,rfl,hg,hcur,hnc,hcm,hcs,htk⟩
 ·have hl0:L=[]:=List.eq_nil_of_length_eq_zero hn0
  subst hl0
  go_enter Tryz.func165,Tryz.ntmps165
  go_wp2_with (at_builtin;refine Lib.wpList_append_run _ rfl _ _ _ _ rfl _ _ rfl rfl _ _ HR.out ?_)
  go_ret
  exact HF.out
 ·obtain⟨n,hn⟩:∃ n,L.length=n:=⟨_,rfl⟩
  rw [hn] at hnc hl HR HF ⊢
  have hle:(n:Int)<=(cap:Int):=by omega
  have h63:(cap:Int)<=9223372036854775807:=by unfold maxLen at hcm;omega
  clear h hn hcur hcs htk
  by_cases hcn:cap=n
  case' pos=>subst hcn
  all_goals
   go_enter Tryz.func165,Tryz.ntmps165
   go_wp2_with (at_builtin;refine Lib.wpList_append_run _ rfl _ _ _ _ rfl _ _ rfl rfl _ _ HR.out ?_)
   go_ret
   exact HF.out
theorem zi_n {vb:Nat} {p:Pin} (hx:SlN w vb 1 1 [p]):∀ j v,(pl p)[j]?=some v->w.cell? (vb (0+j))=some v:=by
 obtain⟨-,-,c1,c2,c3⟩:=hx.2.2.2.2 _ rfl 0 (by simp)
 intro j v hj
 match j,hj with
|0,hj=>cases hj;exact c1
|1,hj=>cases hj;exact c2
|2,hj=>cases hj;exact c3
|j+3,hj=>simp [pl] at hj
set_option maxHeartbeats 1000000 in
theorem zp_w (base:Nat) (v:Value) (L:List Pin) (i:Nat) (p:Pin) (vb:Nat) (w:World) (h:OwnN base w v L) (hi:i<=L.length) (hl:L.length<=1000000) (hb:base<=w.heap.size)
 (hx:w.heap[vb]?=some (.cells #[.string (str p.h),.bool p.s,p.x] 34 (0,0))) (hne:v.ownBlock ≠ some vb) :
 Calls Tryz.prog 165 #[v,i,.slice vb 1 1] w (InsP base v (L.take i ++ p :: L.drop i) w):=by
 have hxs:SlN w vb 1 1 [p]:=by
  refine⟨rfl,zN _,by unfold maxLen;omega,(fun h=>by cases h),fun x hx' i hi=>?_⟩
  cases hx'
  obtain rfl:i=0:=by simpa using hi
  exact⟨rfl,za_a hx,(cell_of_row _ _ _ _ _ _ hx).trans rfl,(cell_of_row _ _ _ _ _ _ hx).trans rfl,(cell_of_row _ _ _ _ _ _ hx).trans rfl⟩
 by_cases hend:i=L.length
 ·subst hend
  have:=zr_v base v L p vb w h hl hb hxs
  rwa [List.take_length,List.drop_length]
 ·rcases id h.2 with⟨rfl,hn0⟩|⟨g,cap,cur,rfl,hg,hcur,hnc,hcm,hcs,htk⟩
  ·omega
  ·have hcells:∀ (j:Nat) u,(L.flatMap pl)[j]?=some u->w.cell? (g (0+j))=some u:=by
    intro j u hj
    rw [Nat.zero_add,cell_of_row w g j cur _ _ hcur]
    rw [<-htk,List.getElem?_take] at hj
    split at hj
    ·simpa using hj
    ·cases hj
   have hgne:vb ≠ g:=fun e=>hne (by rw [e];rfl)
   have hal:((L.take i).flatMap pl).length=i * 3:=by rw [za_f,List.length_take];omega
   have hdl:((L.drop i).flatMap pl).length=(L.length - i) * 3:=by rw [za_f,List.length_drop]
   have hpl:(pl p).length=3:=rfl
   have hnew:(L.take i ++ p :: L.drop i).flatMap pl=(L.take i).flatMap pl ++ (pl p ++ (L.drop i).flatMap pl):=by rw [List.flatMap_append,List.flatMap_cons]
   have hnl:(L.take i ++ p :: L.drop i).length=L.length+1:=by simp;omega
   have e3:(i+1) * 3=i * 3+(pl p).length:=by rw [hpl];omega
   by_cases hroom:L.length+1<=cap
   ·refine (zn_i g L.length cap i vb L p w (by omega) hroom hcm hl hgne rfl hcells (fun j hj=>by rw [cell_of_row w g j cur _ _ hcur,Array.getElem?_eq_getElem (by omega)];rfl) (fun j=>frozen_of_row _ _ _ _ _ hcur) (zi_n hxs) 34 34 3 (cap * 3) (by simp [World.shape?,hx]) (by simp [World.shape?,hcur,hcs]) (by omega) (fun j=>frozen_of_row _ _ _ _ _ hx)).mono ?_
    rintro e w' ⟨rfl,rfl⟩
    have h1:=za_h g 34 ((L.drop i).flatMap pl) cur ((i+1) * 3) w.drew hcur
    have h2:=za_h g 34 (pl p) _ (i * 3) _ h1
    refine⟨_,rfl,⟨?_,.inr ⟨g,cap,_,by rw [hnl],hg,h2,by omega,hcm,by rw [za_r,za_r];exact hcs,?_⟩⟩,?_,fun k hk=>.inl hk⟩
    ·rw [za_f]
    ·rw [e3,hnew,hnl,show (L.length+1) * 3=i * 3+(pl p).length+((L.drop i).flatMap pl).length by rw [hpl,hdl];omega]
     refine zh_n cur (i * 3) _ (pl p) _ ?_ hal (by rw [hpl,hdl];omega)
     rw [hdl,show i * 3+(L.length - i) * 3=L.length * 3 by omega,htk,<-List.flatMap_append,List.take_append_drop]
    ·exact (show w.grownBy w.drew _ from ⟨rfl,rfl,rfl,zN _,fun _ _ _=>rfl⟩).trans ((za_m g _ _ w.drew).trans (za_m g _ _ _))
   ·refine (zp_v g L.length cap i vb L p w (by omega) hnc (by omega) hl rfl hcells (zi_n hxs)).mono ?_
    rintro e w' ⟨G,ROW,hG1,hG2,hR1,hR2,rfl,rfl⟩
    have h0:(w.alloc (.cells ROW 34)).drew.heap[w.heap.size]?=some (.cells ROW 34 (0,0)):=za_b _ _ _ rfl
    have h1:=za_h w.heap.size 34 (pl p) ROW (i * 3) _ h0
    have h2:=za_h w.heap.size 34 ((L.drop i).flatMap pl) _ ((i+1) * 3) ((w.alloc (.cells ROW 34)).drew.setCells w.heap.size (i * 3) (pl p)).drew h1
    refine⟨_,rfl,⟨?_,.inr ⟨w.heap.size,G,_,by rw [hnl],hb,h2,by omega,hG2,by rw [za_r,za_r];exact hR1,?_⟩⟩,?_,fun k hk=>.inr (by cases hk;exact zN _)⟩
    ·rw [za_f]
    ·rw [e3,hnew,hnl,show (L.length+1) * 3=i * 3+(pl p).length+((L.drop i).flatMap pl).length by rw [hpl,hdl];omega]
     exact zk_e ROW (i * 3) _ (pl p) _ hR2 hal (by rw [hpl,hdl];omega)
    ·have hA:=za_m w.heap.size (pl p) (i * 3) (w.alloc (.cells ROW 34)).drew
     have hB:=za_m w.heap.size ((L.drop i).flatMap pl) ((i+1) * 3) ((w.alloc (.cells ROW 34)).drew.setCells w.heap.size (i * 3) (pl p)).drew
     have hz:w.heap.size<=(w.alloc (.cells ROW 34)).drew.heap.size:=by simp
     have hz1:=hA.size
     have hz2:=hB.size
     exact⟨hB.os.trans hA.os,hB.tape.trans hA.tape,hB.output.trans hA.output,Nat.le_trans hz (Nat.le_trans hz1 hz2),fun k hk _=>(hB.block k (Nat.lt_of_lt_of_le hk (Nat.le_trans hz hz1)) (fun e=>by cases e;omega)).trans ((hA.block k (Nat.lt_of_lt_of_le hk hz) (fun e=>by cases e;omega)).trans (za_c w _ _ hk))⟩
end
section
open Go.RowKit
variable {i:Nat} {w:World}
theorem zd_d (L:List Pin) (hi:i<=L.length):(L.take i).flatMap pl=(L.flatMap pl).take (i * 3):=by
 conv=>rhs;rw [<-List.take_append_drop i L,List.flatMap_append]
 rw [List.take_left' (by rw [za_f,List.length_take];omega)]
theorem zc_h (L:List Pin) (hi:i<=L.length):(L.drop i).flatMap pl=(L.flatMap pl).drop (i * 3):=by
 conv=>rhs;rw [<-List.take_append_drop i L,List.flatMap_append]
 rw [List.drop_left' (by rw [za_f,List.length_take];omega)]
theorem OwnN.set3 {base:Nat} {g n c:Nat} {L:List Pin} (h:OwnN base w (.slice g n c) L) (hi:i < L.length) (p:Pin) :
 OwnN base (((w.setCell (g (i * 3)) (.string (str p.h))).setCell (g (i * 3+1)) (.bool p.s)).setCell (g (i * 3+2)) (p.x:Value)) (.slice g n c) (L.set i p):=by
 refine⟨by rw [za_f],?_⟩
 rcases h.2 with⟨hv,hn⟩|⟨g',cap,cur,hv,hg,hc,hnc,hcm,hcs,htake⟩
 ·cases hv
 ·cases hv
  have h1:=za_h g 34 (pl p) cur (i * 3) w hc
  refine .inr ⟨g,c,_,by rw [List.length_set],hg,h1,by rw [List.length_set];exact hnc,hcm,by rw [za_r];exact hcs,?_⟩
  have hpl:(pl p).length=3:=rfl
  have hset:L.set i p=L.take i ++ p :: L.drop (i+1):=by rw [List.set_eq_take_append_cons_drop,if_pos hi]
  rw [List.length_set,hset,za_n _ _ _ (by rw [hpl];omega),List.flatMap_append,List.flatMap_cons,hpl]
  have e1:cur.toList.take (i * 3)=(L.take i).flatMap pl:=by
   rw [zd_d L (by omega),<-htake,List.take_take,show min (i * 3) (L.length * 3)=i * 3 by omega]
  have e2:(cur.toList.drop (i * 3+3)).take (L.length * 3 - (i * 3+3))=(L.drop (i+1)).flatMap pl:=by
   rw [zc_h L (by omega),<-htake,List.drop_take,show (i+1) * 3=i * 3+3 by omega]
  have hl:((L.take i).flatMap pl ++ pl p).length=i * 3+3:=by rw [List.length_append,za_f,List.length_take,hpl];omega
  rw [e1,List.take_append,List.take_of_length_le (by omega),hl,e2,List.append_assoc]
theorem zk_a {P:Program} (w:World) (t e ty:TypeId) (z:Value) (ht:P.underlying t=some (.slice e)) (hv:∀ w,(zeroValue e).run P w=.ok z w) (b o n c:Nat) (hn:0 < n) (zs:List Value) (hzs:(Builtin.zeroCells z.cells n).toList=zs)
 (hc:∀ j,j < zs.length->(w.cell? (b (o+j))).isSome=true) (hf:∀ j,j < zs.length->w.frozen? (b (o+j))=false) (h1:∀ v ∈ zs,v.oneCell'=true) :
 (Builtin.clear_ #[t] ty #[.slice (b o) n c]).run P w=.ok (.tuple #[]) (w.setCells b o zs):=by
 have hst:=run_storeCells_cells (P:=P) b o zs 0 w (by simpa using hc) (by simpa using hf) h1
 simp only [Nat.add_zero] at hst
 obtain⟨m,rfl⟩:∃ m,n=m+1:=⟨n - 1,by omega⟩
 simp [Builtin.clear_,run_underlying ht,hv,hzs,hst]
theorem zj_n {w1 w2:World} {row:Option Nat} (h:w.grownBy w1 row) (k:w1.grownBy w2 row):w.grownBy w2 row :=
 ⟨k.os.trans h.os,k.tape.trans h.tape,k.output.trans h.output,Nat.le_trans h.size k.size,fun i hi hne=>(k.block i (Nat.lt_of_lt_of_le hi h.size) hne).trans (h.block i hi hne)⟩
theorem zr_d (m:Nat):∀ v ∈ (Builtin.zeroCells (Value.agg #[.string ⟨#[]⟩,.bool false,.int .i64 0]).cells m).toList,v.oneCell'=true:=by
 intro v hv
 rw [Array.mem_toList_iff,Array.mem_iff_getElem] at hv
 obtain⟨i,hi,rfl⟩:=hv
 simp [Builtin.zeroCells,Value.cells]
 have h3:i % 3=0\/i % 3=1\/i % 3=2:=by omega
 rcases h3 with h|h|h <;> simp [h] <;> rfl
theorem zr_c (m:Nat):(Builtin.zeroCells (Value.agg #[.string ⟨#[]⟩,.bool false,.int .i64 0]).cells m).toList.length=m * 3:=by
 simp [Builtin.zeroCells,Value.cells]
end
section
open Go.RowKit
variable {w:World} {c n:Nat} {l:List Pin} {a:Option Addr}
theorem SlN.cellsOf {ad:Addr} {m:Nat} {l2:List Pin} (hsl:SlN w (some ad) m c l2):∀ j u,(l2.flatMap pl)[j]?=some u->w.cell? (ad.add j)=some u:=by
 intro j u hj
 have hjl:j < l2.length * 3:=by
  have:=(List.getElem?_eq_some_iff.1 hj).1;rwa [za_f] at this
 have hi2:j / 3 < l2.length:=by omega
 obtain⟨hsp,hb,c1,c2,c3⟩:=hsl.2.2.2.2 ad rfl (j / 3) hi2
 obtain⟨g1,g2,g3⟩:=zc_y l2 (j / 3) hi2
 have hadd:ad.add j=(ad.block (ad.off+j)):=by
  obtain⟨b,o,sp⟩:=ad;simp only at hsp;subst hsp;unfold Addr.add;split <;> simp_all
 rw [hadd]
 have h3:j % 3=0\/j % 3=1\/j % 3=2:=by omega
 rcases h3 with h0|h0|h0
 ·have e:j / 3 * 3=j:=by omega
  rw [e] at c1 g1
  rw [c1,<-hj,g1]
 ·have e:j / 3 * 3+1=j:=by omega
  rw [Nat.add_assoc,e] at c2
  rw [e] at g2
  rw [c2,<-hj,g2]
 ·have e:j / 3 * 3+2=j:=by omega
  rw [Nat.add_assoc,e] at c3
  rw [e] at g3
  rw [c3,<-hj,g3]
theorem zf_j (ty:TypeId) (base:Nat) (v:Value) (l:List Pin) (hown:OwnN base w v l) (b:Option Addr) (m c:Nat) (l2:List Pin) (hsl:SlN w b m c l2) (hlen:l.length+m<=1000000000) (hbase:base<=w.heap.size) :
 ∃ v' w',(Builtin.append_ #[42,42] ty #[v,.slice b m c]).run Tryz.prog w=.ok v' w'/\OwnN base w' v' (l ++ l2)/\w.grownBy w' v.ownBlock:=by
 obtain⟨i0,hi,hz0,hz1,hz2⟩:=info_parts infoPin
 cases b with
|none =>
  obtain⟨rfl,rfl⟩:=hsl.2.2.2.1 rfl
  obtain rfl:m=0:=hsl.1.symm
  have hrun:=run_append_owned_none (P:=Tryz.prog) (w:=w) base 42 ty 34 i0 3 Tryz.underlying42 hi v l.length _ hown
  exact⟨v,w,hrun,by simpa using hown,rfl,rfl,rfl,zN _,fun _ _ _=>rfl⟩
|some ad =>
  have hl2:=hsl.len
  obtain⟨v',w',hr,h2,h3,-⟩:=run_append_own (P:=Tryz.prog) w base 42 ty 34 i0 _ 3 32 Tryz.underlying42 hi hz0 hz1 hz2 rfl (by decide) v l.length _ hown ad m c (l2.flatMap pl) (by rw [za_f,hl2]) hsl.cellsOf (zf_f _) (by unfold maxLen;omega) (by omega) hbase
  refine⟨v',w',hr,?_,h3⟩
  unfold OwnN;rw [List.length_append,List.flatMap_append,hl2];exact h2
theorem za_k {ops:Array Oper} {o:Oper} {a:Act} {K:Act->World->Prop} {Q:Exit->Act->World->Prop} {E:Prop} (hgd:o.guard=none) (s x:Operand)
 (ho:o.op=.call { callee:=.builtin .append,args:=#[s,x],argTypes:=#[42,42] })
 (base:Nat) (v:Value) (l:List Pin) (hs:a.eval s=v) (hown:OwnN base w v l) (b:Option Addr) (m c:Nat) (l2:List Pin) (hx:a.eval x=.slice b m c) (hsl:SlN w b m c l2)
 (hlen:l.length+m<=1000000000) (hbase:base<=w.heap.size)
 (h:∀ v' w',OwnN base w' v' (l ++ l2)->w.grownBy w' v.ownBlock->K (a.put o.dst v') w') :
 if Region.wanted o (yielded ops a.tmps)=true then Oper.wp Tryz.prog o a w K Q else E:=by
 have hw:Region.wanted o (yielded ops a.tmps)=true:=by simp [Region.wanted,hgd]
 rw [if_pos hw]
 obtain⟨v',w',hrun,h1,h2⟩:=zf_j o.type base v l hown b m c l2 hsl hlen hbase
 unfold Oper.wp
 simp [execOp,ho,resolve,invoke,builtin,hs,hx,hrun,Result.andThen]
 exact h v' w' h1 h2
theorem SlN.grown {w':World} {row:Option Nat} (h:SlN w a n c l) (hg:w.grownBy w' row) (hne:∀ x,a=some x->row ≠ some x.block):SlN w' a n c l:=by
 obtain⟨hl,hn,hc,h0,h1⟩:=h
 refine⟨hl,hn,hc,h0,fun x hx i hi=>?_⟩
 obtain⟨hs,hb,hi⟩:=h1 x hx i hi
 exact⟨hs,Nat.lt_of_lt_of_le hb hg.size,hi.stay (hg.block _ hb (fun e=>hne x hx e.symm))⟩
theorem SlN.heap {W:World} (h:SlN w a n c l) (he:W.heap=w.heap):SlN W a n c l :=
 h.stay (fun _ _ _=>by rw [he]) (by rw [he];exact zN _)
theorem SlN.drop {b o:Nat} (h:SlN w (b o) n c l) {k:Nat} (hk:k<=n):SlN w (b (o+k * 3)) (n - k) (c - k) (l.drop k):=by
 obtain⟨hl,hn,hc,h0,h1⟩:=h
 refine⟨by simp;omega,by omega,by omega,(fun h=>by cases h),fun y hy i hi=>?_⟩
 cases hy
 have hi':k+i < l.length:=by simp at hi;omega
 obtain⟨hs,hb,hcl⟩:=h1 _ rfl (k+i) hi'
 refine⟨rfl,hb,?_⟩
 rw [List.getElem_drop]
 simp only at hcl ⊢
 rwa [show o+k * 3+i * 3=o+(k+i) * 3 by omega]
theorem SlN.zero (w:World) (x:Addr) (c:Nat) (hc:c<=maxLen):SlN w (some x) 0 c []:=⟨rfl,Nat.zero_le _,hc,(fun h=>by cases h),fun y _ i hi=>by simp at hi⟩
end
section
open Go.RowKit
def NewOr (w w':World) (v0 v:Value) (L0 L:List Pin):Prop:=(v=v0/\L=L0)\/OwnN w.heap.size w' v L
set_option maxRecDepth 100000 in
theorem zs_q (a:Option Addr) (n c:Nat) (L:List Pin) (t:List UInt8) (w:World) (h:SlN w a n c L) :
 Calls Tryz.prog 120 #[.slice a n c,.string (str t)] w fun e w'=>e=.returned (.int .i64 (if Tab.find L t < n then (Tab.find L t:Nat) else -1))/\w=w':=by
 have hle:=h.le
 have HLN:=zH h.len
 obtain⟨r,hr⟩:∃ r:Int,(if Tab.find L t < n then ((Tab.find L t:Nat):Int) else -1)=r:=⟨_,rfl⟩
 rw [hr]
 have HR:=zH hr
 obtain⟨st,hst⟩:∃ s,str t=s:=⟨_,rfl⟩
 have HST:=zH hst
 rw [hst]
 have HSL:=zH h
 clear hr hst h
 go_enter Tryz.func120,Tryz.ntmps120
 go_wp2_with fail
 go_loop [5] (fun i=>∃ k:Nat,k<=n/\i=.int .i64 (k:Nat)/\Hid (∀ q ∈ L.take k,q.h ≠ t)) (fun i=>n - (intOf i).toNat)
 case atStart=>exact⟨0,Nat.zero_le _,rfl,zH (by simp)⟩
 case round =>
  obtain⟨k,hk,rfl,HN⟩:=hrel
  have i0:(0:Int)<=(k:Int):=by omega
  have hbef:∀ i p,i < k->L[i]?=some p->p.h ≠ t:=fun i p hi hp=>HN.out p (List.mem_iff_getElem?.2 ⟨i,by rw [List.getElem?_take_of_lt hi];exact hp⟩)
  have HBE:=zH hbef
  clear hbef
  by_cases hlt:k < n
  ·have i2:(k:Int) < (n:Int):=by omega
   obtain⟨bb,o,rfl,hbb,hkl,c1,-,-⟩:=HSL.out.at hlt
   have HTK:=zH (List.take_succ_eq_append_getElem hkl)
   have HGT:=zH (List.getElem?_eq_getElem hkl)
   rw [List.getElem?_eq_getElem hkl,Option.getD_some] at c1
   generalize L[k]=q at *
   by_cases heq:q.h=t
   ·have ht:((str q.h).toList == st.toList)=true:=by rw [<-HST.out,heq];simp
    have hrk:r=(k:Int):=by
     have hf:Tab.find L t=k:=Tab.find_eq (by omega) HBE.out (fun p hp=>by rw [HGT.out] at hp;cases hp;exact heq)
     rw [<-HR.out,hf,if_pos hlt]
    obtain⟨sq,hsq⟩:∃ s,str q.h=s:=⟨_,rfl⟩
    rw [hsq] at c1 ht
    subst hrk
    clear hsq heq hkl
    go_wp2_with fail
    go_ret
    exact⟨rfl,rfl⟩
   ·have ht:((str q.h).toList == st.toList)=false:=by rw [<-HST.out,str_toList,str_toList];exact beq_eq_false_iff_ne.2 heq
    have HNN:=zH (show ∀ p ∈ L.take (k+1),p.h ≠ t by
     rw [HTK.out];intro p hp
     rcases List.mem_append.1 hp with hp|hp
     ·exact HN.out p hp
     ·simp at hp;subst hp;exact heq)
    obtain⟨sq,hsq⟩:∃ s,str q.h=s:=⟨_,rfl⟩
    rw [hsq] at c1 ht
    clear hsq heq hkl
    go_wp2_with fail
    go_round
    case rel=>exact⟨k+1,by omega,by go_num,HNN⟩
    case measure=>simp [intOf];omega
  ·obtain rfl:k=n:=by omega
   have hrk:r=-1:=by
    have hf:Tab.find L t=k:=Tab.find_eq (by rw [HLN.out];exact zN _) HBE.out (fun p hp=>by rw [List.getElem?_eq_none (by rw [HLN.out];exact zN _)] at hp;cases hp)
    rw [<-HR.out,hf,if_neg (by omega)]
   subst hrk
   go_wp2_with fail
   go_ret
   exact⟨rfl,rfl⟩
end
section
open Go.RowKit
set_option maxRecDepth 100000
def RRemP (a:Option Addr) (n c:Nat) (L:List Pin) (t:List UInt8) (w:World) (e:Ending) (w':World):Prop :=
 ∃ v,e=.returned (.tuple #[v,.bool (Tab.rremove L t).2])/\NewOr w w' (.slice a n c) v L (Tab.rremove L t).1/\Below w.heap.size w w'
set_option maxHeartbeats 4000000 in
theorem zi_r (a:Option Addr) (n c:Nat) (L:List Pin) (t:List UInt8) (w:World) (h:SlN w a n c L) (hn:n<=1000000) :
 Calls Tryz.prog 58 #[.slice a n c,.string (str t)] w (RRemP a n c L t w):=by
 have HF:=zH (zs_q a n c L t w h)
 have HGO:=zH (show ∀ L' b e w' v,Tab.rremove L t=(L',b)->e=.returned (.tuple #[v,.bool b])->NewOr w w' (.slice a n c) v L L'->Below w.heap.size w w'->RRemP a n c L t w e w' from fun L' b e w' v h1 h2 h3 h4=>by unfold RRemP;rw [h1];exact⟨v,h2,h3,h4⟩)
 have hr:Tab.rremove L t=if Tab.find L t < n then (L.take (Tab.find L t) ++ L.drop (Tab.find L t+1),true) else (L,false):=by unfold Tab.rremove;rw [h.len]
 obtain⟨k,hk⟩:∃ k,Tab.find L t=k:=⟨_,rfl⟩
 rw [hk] at HF hr
 have HSL:=zH h
 generalize str t=st at *
 by_cases hkn:k < n
 ·rw [if_pos hkn] at HF hr
  have HR:=zH hr
  have HLN:=zH h.len
  obtain⟨bb,o,rfl,-⟩:=h.at hkn
  have hcn:=h.2.1
  have hcm:=h.2.2.1
  have k0:(0:Int)<=(k:Int):=by omega
  have k1:¬ (k:Int) < 0:=by omega
  have kn:(k:Int)<=(n:Int):=by omega
  have kc:(k:Int)<=(c:Int):=by omega
  have kc2:k<=c:=by omega
  have z1:(0:Int)<=(k:Int)+1:=by omega
  have z2:(k:Int)+1<=(n:Int):=by omega
  have z3:k+1<=n:=by omega
  have z9:(k:Int)<=(k:Int)+1:=by omega
  have wk:IntKind.i64.wrap ((k:Int)+1)=(k:Int)+1:=by rw [IntKind.wrap_i64];omega
  have hEx:Below w.heap.size w (w.alloc (.cells #[] 34)).drew:=Below.drew ((Below.refl _ _).alloc (zN _) _)
  have HEX:=zH hEx
  have HE:=zH (show OwnN w.heap.size (w.alloc (.cells #[] 34)).drew (.slice w.heap.size 0 0) [] from (OwnN.empty w (zN _)).stay (fun _ _=>rfl))
  have HHD:=zH ((h.ext hEx).take (k:=k) (by omega))
  have hnc:¬ c=k:=by omega
  clear hr hk h hEx
  by_cases hck:c=k+1
  case' pos=>
   have HTL:=zH (show ∀ W,Below w.heap.size w W->SlN W (bb o) 0 0 (L.drop (k+1)) from fun W _=>by
    rw [List.drop_of_length_le (by rw [HLN.out];omega)]
    exact SlN.zero _ _ _ (Nat.zero_le _))
   obtain rfl:n=k+1:=by omega
   subst hck
   go_enter Tryz.func58,Tryz.ntmps58
   go_wp2_with fail
   refine HF.out.mono ?_;rintro e w1 ⟨rfl,rfl⟩
   go_wp2_with fail
   go_region_law (first
   |(refine za_k rfl (.tmp 13) (.tmp 16) rfl w.heap.size _ [] (by simp [Act.eval]) (HE.out) (bb o) k (k+1) (L.take k) (by simp [Act.eval]) HHD.out (by simp;omega) (by simp) ?_;intro v1 w1 hO1 hg1;have hB1:Below w.heap.size w w1:=HEX.out.grown hg1 (by simp) (fun j hj=>by cases hj;exact zN _))
   |(refine za_k rfl (.tmp 17) (.tmp 21) rfl w.heap.size v1 _ (by simp [Act.eval]) hO1 (bb o) 0 0 (L.drop (k+1)) (by simp [Act.eval]) (HTL.out _ hB1) (by simp;omega) hB1.size ?_;intro v2 w2 hO2 hg2;have hB2:Below w.heap.size w w2:=hB1.grown hg2 hB1.size (fun j hj=>(hO1.lt j hj).1)))
  case' neg=>
   have HTL:=zH (show ∀ W,Below w.heap.size w W->SlN W (bb (o+(k+1) * 3)) (n - (k+1)) (c - (k+1)) (L.drop (k+1)) from fun W hb=>(HSL.out.ext hb).drop (by omega))
   go_enter Tryz.func58,Tryz.ntmps58
   go_wp2_with fail
   refine HF.out.mono ?_;rintro e w1 ⟨rfl,rfl⟩
   go_wp2_with fail
   go_region_law (first
   |(refine za_k rfl (.tmp 13) (.tmp 16) rfl w.heap.size _ [] (by simp [Act.eval]) (HE.out) (bb o) k c (L.take k) (by simp [Act.eval]) HHD.out (by simp;omega) (by simp) ?_;intro v1 w1 hO1 hg1;have hB1:Below w.heap.size w w1:=HEX.out.grown hg1 (by simp) (fun j hj=>by cases hj;exact zN _))
   |(refine za_k rfl (.tmp 17) (.tmp 21) rfl w.heap.size v1 _ (by simp [Act.eval]) hO1 (bb (o+(k+1) * 3)) (n - (k+1)) (c - (k+1)) (L.drop (k+1)) (by simp [Act.eval]) (HTL.out _ hB1) (by simp;omega) hB1.size ?_;intro v2 w2 hO2 hg2;have hB2:Below w.heap.size w w2:=hB1.grown hg2 hB1.size (fun j hj=>(hO1.lt j hj).1)))
  all_goals
   have HO2:=zH (show OwnN w.heap.size w2 v2 (L.take k ++ L.drop (k+1)) from by simpa using hO2)
   clear hO1 hO2 hg1 hg2
   go_wp2_with fail
   go_ret2
   exact HGO.out _ _ _ _ _ HR.out rfl (.inr HO2.out) hB2
 ·rw [if_neg hkn] at HF hr
  have HR:=zH hr
  clear hr hk h
  go_enter Tryz.func58,Tryz.ntmps58
  go_wp2_with fail
  refine HF.out.mono ?_;rintro e w1 ⟨rfl,rfl⟩
  go_wp2_with fail
  go_ret2
  exact HGO.out _ _ _ _ _ HR.out rfl (.inl ⟨rfl,rfl⟩) (Below.refl _ _)
theorem NewOr.sl {w w':World} {a:Option Addr} {n c:Nat} {v:Value} {L R:List Pin} (h:NewOr w w' (.slice a n c) v L R) (hs:SlN w a n c L) (hb:Below w.heap.size w w'):∃ a2 c2,v=.slice a2 R.length c2/\SlN w' a2 R.length c2 R:=by
 rcases h with⟨rfl,rfl⟩|ho
 ·exact⟨a,c,by rw [hs.len],by rw [hs.len];exact hs.ext hb⟩
 ·obtain⟨a2,c2,h1,h2,-⟩:=ho.sl
  exact⟨a2,c2,h1,h2⟩
def RPutP (a:Option Addr) (n c:Nat) (L:List Pin) (p:Pin) (cap:Int) (w:World) (e:Ending) (w':World):Prop :=
 ∃ v,e=.returned (.tuple #[v,.int .i64 (Tab.rput L p cap).2])/\NewOr w w' (.slice a n c) v L (Tab.rput L p cap).1/\Below w.heap.size w w'
theorem rtx (w:World) (p:Pin) {sh:ByteArray} (h:str p.h=sh) {A N:Obj} (hA:A=.cells #[.string sh,.bool p.s,p.x] 34) (hN:N=.cells #[] 34) :
 Hid (OwnN w.heap.size (w.alloc N).drew (.slice w.heap.size 0 0) [])/\Hid (OwnN w.heap.size ((w.alloc N).alloc A).drew (.slice w.heap.size 0 0) []) ∧
 Hid (OwnN w.heap.size ((w.alloc A).alloc N).drew (.slice (w.heap.size+1:Nat) 0 0) [])/\Hid (SlN ((w.alloc N).alloc A).drew (w.heap.size+1:Nat) 1 1 [p])/\Hid (SlN ((w.alloc A).alloc N).drew w.heap.size 1 1 [p]) ∧
 Hid (Below w.heap.size w (w.alloc N).drew/\Below w.heap.size w ((w.alloc N).alloc A).drew/\Below w.heap.size w ((w.alloc A).alloc N).drew)/\Hid (∀ W:World,SlN (W.alloc A) W.heap.size 1 1 [p]):=by
 subst hA hN h
 have hone:=fun W:World=>SlN.one W p 34
 refine⟨zH ((OwnN.empty w (zN _)).stay fun _ _=>rfl),zH (((OwnN.empty w (zN _)).alloc _).stay fun _ _=>rfl),zH ?_,zH ?_,zH (((hone w).ext ((Below.refl _ _).alloc (zN _) _)).heap rfl),
  zH ⟨Below.drew ((Below.refl _ _).alloc (zN _) _),Below.drew (((Below.refl _ _).alloc (zN _) _).alloc (by simp) _),Below.drew (((Below.refl _ _).alloc (zN _) _).alloc (by simp) _)⟩,zH hone⟩
 ·have:=OwnN.empty (base:=w.heap.size) (w.alloc (.cells (pc p) 34)) (by simp)
  rw [show (w.alloc (.cells (pc p) 34)).heap.size=w.heap.size+1 by simp] at this;exact this.stay (fun _ _=>rfl)
 ·have:=hone (w.alloc (.cells #[] 34));rw [show (w.alloc (.cells #[] 34)).heap.size=w.heap.size+1 by simp] at this;exact this.heap rfl
set_option maxHeartbeats 8000000 in
theorem zt_h (a:Option Addr) (n c:Nat) (L:List Pin) (p:Pin) (cap:Int) (w:World) (h:SlN w a n c L) (hn:n<=1000000) (hL:∀ q ∈ L,q.h.length<=1000000) (hp:p.h.length<=1000000) :
 Calls Tryz.prog 59 #[.slice a n c,pv p,cap] w (RPutP a n c L p cap w):=by
 have HV:=zH (fun W=>zd_i false p hp W)
 have hb0:=(Below.refl w.heap.size w).alloc (zN _) (.cells (pc p) 34)
 have hbx:=PBox.new w (str p.h) p.s p.x
 have HREM:=zH (fun W (hB:Below w.heap.size w W)=>zi_r a n c L p.h W (h.ext hB) hn)
 have HGO:=zH (show ∀ L' z e w' v,Tab.rput L p cap=(L',z)->e=.returned (.tuple #[v,z])->NewOr w w' (.slice a n c) v L L'->Below w.heap.size w w'->RPutP a n c L p cap w e w' from fun L' b e w' v h1 h2 h3 h4=>by unfold RPutP;rw [h1];exact⟨v,h2,h3,h4⟩)
 have hr:Tab.rput L p cap=if Pin.valid p=false then (L,1) else if (Tab.rremove L p.h).2=false/\cap<=L.length then (L,11) else ((Tab.rremove L p.h).1.take (Tab.lo (Tab.rremove L p.h).1 p.h) ++ p :: (Tab.rremove L p.h).1.drop (Tab.lo (Tab.rremove L p.h).1 p.h),0):=rfl
 have hsub:∀ q ∈ (Tab.rremove L p.h).1,q.h.length<=1000000:=fun q hq=>hL q (by
  unfold Tab.rremove at hq
  split at hq
  ·rcases List.mem_append.1 hq with m|m
   ·exact List.mem_of_mem_take m
   ·exact List.mem_of_mem_drop m
  ·exact hq)
 have hRl:(Tab.rremove L p.h).1.length<=n:=by
  unfold Tab.rremove
  split
  ·rw [List.length_append,List.length_take,List.length_drop,h.len];omega
  ·rw [h.len];exact zN _
 unfold RRemP at HREM
 rw [h.len] at hr
 unfold pc at hb0
 unfold pv at HV ⊢
 obtain⟨ok,hok⟩:∃ b,Pin.valid p=b:=⟨_,rfl⟩
 obtain⟨⟨R,fd⟩,hrem⟩:∃ b,Tab.rremove L p.h=b:=⟨_,rfl⟩
 rw [hok] at HV hr
 rw [hrem] at HREM hr hsub hRl
 simp only at HREM hr hsub hRl
 have HSL:=zH h
 have hz0:(w.alloc (.cells #[.string (str p.h),.bool p.s,p.x] 34)).heap.size=w.heap.size+1:=by simp
 have HP0:=zH (show p=⟨p.h,p.s,p.x⟩ from rfl)
 obtain⟨sh,hsh⟩:∃ s,str p.h=s:=⟨_,rfl⟩
 rw [hsh] at HV hb0 hbx hz0 HREM ⊢
 have HSH:=zH hsh
 have HB0:=zH hb0
 have HZ0:=zH hz0
 have HSUB:=zH hsub
 have HBX:=zH hbx
 clear hok hrem hb0 hz0 hL h hsub hbx hsh
 cases ok with
|false =>
  have HR:=zH (hr.trans (if_pos rfl))
  clear hr
  go_enter Tryz.func59,Tryz.ntmps59
  go_wp2_with fail
  refine (HV.out _).mono ?_;rintro e w1 ⟨rfl,hB1⟩
  rw [HZ0.out] at hB1
  go_wp2_with fail
  go_ret2
  exact HGO.out _ _ _ _ _ HR.out rfl (.inl ⟨rfl,rfl⟩) (HB0.out.trans (hB1.mono (Nat.le_succ _)))
|true =>
  rw [if_neg (by decide)] at hr
  by_cases hfull:fd=false/\cap<=(n:Int)
  ·rw [if_pos hfull] at hr
   obtain⟨rfl,hf2⟩:=hfull
   have HR:=zH hr
   clear hr
   go_enter Tryz.func59,Tryz.ntmps59
   go_wp2_with fail
   refine (HV.out _).mono ?_;rintro e w1 ⟨rfl,hB1⟩
   rw [HZ0.out] at hB1
   have hB:=HB0.out.trans (hB1.mono (Nat.le_succ _))
   have hP1:PBox w1 w.heap.size sh p.s p.x:=(hB1.block _ (Nat.lt_succ_self _)).trans HBX.out
   obtain⟨q0,q1,q2⟩:=hP1.cells
   have hlt1:=za_a hP1
   clear hP1
   go_wp2_with fail
   refine (HREM.out _ hB).mono ?_;rintro e w2 ⟨v2,rfl,-,hB2⟩
   go_wp2_with fail
   go_ret2
   exact HGO.out _ _ _ _ _ HR.out rfl (.inl ⟨rfl,rfl⟩) (hB.trans (hB2.mono hB.size))
  ·rw [if_neg hfull] at hr
   have HR:=zH hr
   clear hr
   have hnf:fd=false->¬ cap<=(n:Int):=fun e h=>hfull ⟨e,h⟩
   clear hfull
   cases fd
   all_goals
    first
    |(have hnf2:=hnf rfl;have tnf:decide (cap<=(n:Int))=false:=decide_eq_false hnf2;clear hnf)
    |clear hnf
    go_enter Tryz.func59,Tryz.ntmps59
    go_wp2_with fail
    refine (HV.out _).mono ?_;rintro e w1 ⟨rfl,hB1⟩
    rw [HZ0.out] at hB1
    have hB:=HB0.out.trans (hB1.mono (Nat.le_succ _))
    have hP1:PBox w1 w.heap.size sh p.s p.x:=(hB1.block _ (Nat.lt_succ_self _)).trans HBX.out
    obtain⟨q0,q1,q2⟩:=hP1.cells
    have hlt1:=za_a hP1
    have HP1:=zH hP1
    clear hP1
    go_wp2_with fail
    refine (HREM.out _ hB).mono ?_;rintro e w2 ⟨v2,rfl,hnew,hB2⟩
    obtain⟨a2,c2,rfl,hs2⟩:=hnew.sl (HSL.out.ext hB) hB2
    have hBB:=hB.trans (hB2.mono hB.size)
    have hP2:=HP1.out.ext hB2
    obtain⟨m,hm⟩:∃ m,R.length=m:=⟨_,rfl⟩
    rw [hm] at hs2 hRl ⊢
    have HM:=zH hm
    have HS2:=zH hs2
    have HP2:=zH hP2
    have hpb2:=za_a hP2
    clear hm hnew hs2 hP2 q0 q1 q2
    go_wp2_with fail
    go_loopw [10] (fun i wr=>∃ k:Nat,k<=m/\i=.int .i64 (k:Nat)/\Hid (∀ q ∈ R.take k,Host.cmp q.h p.h < 0)/\Ext w2 wr) (fun i _=>m - (intOf i).toNat)
    case atStart=>exact⟨0,Nat.zero_le _,rfl,zH (by simp),Ext.refl _⟩
    case round =>
     obtain⟨k,hk,rfl,HN,hE⟩:=hrel
     have i0:(0:Int)<=(k:Int):=by omega
     have hp3:=HP2.out.ext hE
     obtain⟨q0,q1,q2⟩:=hp3.cells
     have hlq:=za_a hp3
     by_cases hlt:k < m
     case' pos=>
      have i2:(k:Int) < (m:Int):=by omega
      have i3:decide (k < m)=true:=decide_eq_true hlt
      obtain⟨bb,o,rfl,hbb,hkl,c1,-,-⟩:=(HS2.out.ext hE).at hlt
      rw [List.getElem?_eq_getElem hkl,Option.getD_some] at c1
      have hgt:=List.getElem?_eq_getElem hkl
      have HTK:=zH (List.take_succ_eq_append_getElem hkl)
      have HC:=zH (fun W=>zg_n R[k].h p.h (HSUB.out _ (List.getElem_mem hkl)) hp W)
      generalize R[k]=r at *
      obtain⟨z,hz⟩:∃ z,Host.cmp r.h p.h=z:=⟨_,rfl⟩
      obtain⟨sr,hsr⟩:∃ s,str r.h=s:=⟨_,rfl⟩
      rw [hz,hsr,HSH.out] at HC
      rw [hsr] at c1
      have HCL:=zH (show ∀ w',Ext wr w'->Ext wr w'/\w'.cell? (bb (o+k * 3))=some (.string sr)/\w'.cell? w.heap.size=some (.string sh)/\bb < w'.heap.size/\w.heap.size < w'.heap.size from fun w' he =>
       ⟨he,(Below.cell he (p:=(bb (o+k * 3))) hbb).trans c1,(hp3.ext he).cells.1,Nat.lt_of_lt_of_le hbb (Below.size he),za_a (hp3.ext he)⟩)
      have HZ:=zH hz
      have HG:=zH hgt
      have HE:=zH hE
      clear hgt hz hsr hkl hp3 hE
      by_cases hzn:z < 0
      ·have HNN:=zH (show ∀ q ∈ R.take (k+1),Host.cmp q.h p.h < 0 by
        rw [HTK.out];intro q hq
        rcases List.mem_append.1 hq with hq|hq
        ·exact HN.out q hq
        ·simp at hq;subst hq;rw [HZ.out];exact hzn)
       go_wp2_with fail
       go_region_held3 (fun w'=>Ext wr w'/\w'.cell? (bb (o+k * 3))=some (.string sr)/\w'.cell? w.heap.size=some (.string sh)/\bb < w'.heap.size/\w.heap.size < w'.heap.size) (first|assumption|exact HCL.out _ (Ext.drew (Ext.refl _))|exact HCL.out _ (Ext.step (by assumption) (And.left (by assumption)))) (first|(go_at_call 121;go_must (refine (HC.out _).mono ?_);rintro e w9 ⟨rfl,hb9⟩))
       all_goals
        have hfin:Ext wr _:=And.left (by assumption)
        go_wp2_with fail
        go_roundw
        case rel=>exact⟨k+1,by omega,by go_num,HNN,HE.out.trans (Below.mono hfin HE.out.size)⟩
        case measure=>simp [intOf];omega
      have hlo:Tab.lo R p.h=k:=Tab.lo_eq (by rw [HM.out];omega) (fun i q hi hq=>HN.out q (List.mem_iff_getElem?.2 ⟨i,by rw [List.getElem?_take_of_lt hi];exact hq⟩)) (fun q hq=>by rw [HG.out] at hq;cases hq;rw [HZ.out];exact hzn)
      go_wp2_with fail
      go_region_held3 (fun w'=>Ext wr w'/\w'.cell? (bb (o+k * 3))=some (.string sr)/\w'.cell? w.heap.size=some (.string sh)/\bb < w'.heap.size/\w.heap.size < w'.heap.size) (first|assumption|exact HCL.out _ (Ext.drew (Ext.refl _))|exact HCL.out _ (Ext.step (by assumption) (And.left (by assumption)))) (first|(go_at_call 121;go_must (refine (HC.out _).mono ?_);rintro e w9 ⟨rfl,hb9⟩))
      go_wp2_with fail
      have hfin:Ext wr w9:=And.left (by assumption)
      have HE2:=HE
      have hcm:m<=c2/\c2<=maxLen:=⟨HS2.out.2.1,HS2.out.2.2.1⟩
      obtain⟨hcm,hcmx⟩:=hcm
      have n1:¬ c2=k:=by omega
      have n2:k<=c2:=by omega
      have n3:k<=m:=by omega
      have n4:(k:Int)<=(c2:Int):=by omega
      have n5:(k:Int)<=(m:Int):=by omega
      clear c1 q0 q1 q2
      have HTL:=zH (fun W (hb:Below w9.heap.size w9 W)=>((HS2.out.ext (HE2.out.trans (Below.mono hfin HE2.out.size))).ext hb).drop (k:=k) (by omega))
     case' neg=>
      have i3:decide (k < m)=false:=decide_eq_false hlt
      obtain rfl:k=m:=by omega
      have hlo:Tab.lo R p.h=k:=Tab.lo_eq (by rw [HM.out];exact zN _) (fun i q hi hq=>HN.out q (List.mem_iff_getElem?.2 ⟨i,by rw [List.getElem?_take_of_lt hi];exact hq⟩)) (fun q hq=>by rw [List.getElem?_eq_none (by rw [HM.out];exact zN _)] at hq;cases hq)
      go_wp2_with fail
      go_quiet (fail)
      go_wp2_with fail
      obtain⟨w9,hw9⟩:∃ w9,wr.drewN nq=w9:=⟨_,rfl⟩
      rw [hw9]
      have hfin:Ext wr w9:=by rw [<-hw9];exact za_i _ _ _
      have HE2:=zH hE
      have hkc:k<=c2/\c2<=maxLen:=⟨HS2.out.2.1,HS2.out.2.2.1⟩
      obtain⟨n2,hcmx⟩:=hkc
      have n3:k<=k:=zN _
      have n4:(k:Int)<=(c2:Int):=by omega
      have n5:(k:Int)<=(k:Int):=by omega
      clear q0 q1 q2 hp3 hE hw9
      have HRD:=zH (show R.drop k=[] from List.drop_of_length_le (by rw [HM.out];exact zN _))
      rcases a2 with _|⟨bb,o,sp⟩
      ·have hz:=(HS2.out.2.2.2.1 rfl)
       obtain rfl:k=0:=by have:=HM.out;rw [hz.1] at this;simpa using this.symm
       obtain rfl:c2=0:=hz.2
       clear hz
       have hBw9:Below w2.heap.size w2 w9:=HE2.out.trans (Below.mono hfin HE2.out.size)
       have hs9:=HS2.out.ext hBw9
       have hp9:=HP2.out.ext hBw9
       obtain⟨p0,p1,p2⟩:=hp9.cells
       have hlp9:=za_a hp9
       have HP9:=zH hp9
       obtain⟨HEX,HEY,HEZ,HNY,HNZ,HBXYZ,HONE⟩:=rtx w9 p HSH.out rfl rfl
       have HTL:=zH (show ∀ W,Below w9.heap.size w9 W->SlN W none 0 0 (R.drop 0) from fun W _=>by rw [HRD.out];exact SlN.nil _)
       have HBF:=zH (hBB.trans (hBw9.mono hBB.size))
       clear hs9 hp9 hBw9
       go_region_law (first|(refine za_k rfl (.tmp 52) (.tmp 54) rfl w9.heap.size _ [] rfl (by first|exact HEY.out|exact HEZ.out) _ _ _ [p] rfl (by first|exact HNY.out|exact HNZ.out) (by simp) (by simp <;> omega) ?_;intro v3 w3' hO3 hg2;have hb3:Below w9.heap.size w9 w3':=(by first|exact HBXYZ.out.2.1.grown hg2 (by simp <;> omega) (fun j hj=>by cases hj;first|exact zN _|exact Nat.le_succ _)|exact HBXYZ.out.2.2.grown hg2 (by simp <;> omega) (fun j hj=>by cases hj;first|exact zN _|exact Nat.le_succ _));have hsz3:=hb3.size)|(refine za_k rfl (.tmp 55) (.tmp 58) rfl w9.heap.size _ _ rfl hO3 _ _ _ (R.drop 0) rfl (HTL.out _ hb3) (by simp <;> omega) hsz3 ?_;intro v4 w4' hO4 hg3;have hb4:Below w9.heap.size w9 w4':=hb3.grown hg3 hsz3 (fun j hj=>(hO3.lt j hj).1)))
       all_goals
        have HO4:=zH (show OwnN w.heap.size w4' v4 (R.take (Tab.lo R p.h) ++ p :: R.drop (Tab.lo R p.h)) from by rw [hlo];have:=hO4.mono (b':=w.heap.size) HBF.out.size;simpa using this)
        have HB4:=zH (HBF.out.trans (hb4.mono HBF.out.size))
        clear hO3 hO4 hg2 hg3 hb3 hb4 hsz3
        go_wp2_with fail
        go_ret2
        exact HGO.out _ _ _ _ _ HR.out rfl (.inr HO4.out) HB4.out
      have HTL:=zH (show ∀ (W:World) (x:Addr) (c':Nat),c'<=maxLen->SlN W (some x) 0 c' (R.drop k) from fun W x c' hc=>by rw [HRD.out];exact SlN.zero _ _ _ hc)
      clear HRD
      by_cases hck:c2=k
      case' pos=>subst c2
      case' neg=>have n1:=hck
     all_goals
      have hBw9:Below w2.heap.size w2 w9:=HE2.out.trans (Below.mono hfin HE2.out.size)
      have hs9:=HS2.out.ext hBw9
      have hp9:=HP2.out.ext hBw9
      obtain⟨p0,p1,p2⟩:=hp9.cells
      have hlp9:=za_a hp9
      have HP9:=zH hp9
      obtain⟨HEX,HEY,HEZ,HNY,HNZ,HBXYZ,HONE⟩:=rtx w9 p HSH.out rfl rfl
      have HDX:=zH ((hs9.ext HBXYZ.out.1).take (k:=k) (by omega))
      have HDY:=zH ((hs9.ext HBXYZ.out.2.1).take (k:=k) (by omega))
      have HDZ:=zH ((hs9.ext HBXYZ.out.2.2).take (k:=k) (by omega))
      have HBF:=zH (hBB.trans (hBw9.mono hBB.size))
      clear hs9 hp9 hBw9
      go_region_law (first|(refine za_k rfl (.tmp 48) (.tmp 51) rfl w9.heap.size _ [] rfl (by first|exact HEX.out|exact HEY.out|exact HEZ.out) _ _ _ (R.take k) rfl (by first|exact HDX.out|exact HDY.out|exact HDZ.out) (by simp;omega) (by simp <;> omega) ?_;intro v1 w1' hO1 hg1;have hb1:Below w9.heap.size w9 w1':=(by first|exact HBXYZ.out.1.grown hg1 (by simp <;> omega) (fun j hj=>by cases hj;first|exact zN _|exact Nat.le_succ _)|exact HBXYZ.out.2.1.grown hg1 (by simp <;> omega) (fun j hj=>by cases hj;first|exact zN _|exact Nat.le_succ _)|exact HBXYZ.out.2.2.grown hg1 (by simp <;> omega) (fun j hj=>by cases hj;first|exact zN _|exact Nat.le_succ _));have hsz1:=hb1.size;obtain⟨x0,x1,x2⟩:=(HP9.out.ext hb1).cells;have hlx:=za_a (HP9.out.ext hb1))|(refine za_k rfl (.tmp 52) (.tmp 54) rfl w9.heap.size _ _ rfl (by first|exact hO1|exact hO1.alloc _) _ _ _ [p] rfl (by first|exact HONE.out w1'|exact HNY.out.grown hg1 (fun y hy=>by cases hy;exact fun e=>Nat.succ_ne_self _ (Option.some.inj e).symm)|exact HNZ.out.grown hg1 (fun y hy=>by cases hy;exact fun e=>Nat.succ_ne_self _ (Option.some.inj e))) (by simp;omega) (by first|exact hsz1|(simp;omega)) ?_;intro v3 w3' hO3 hg2;have hb3:Below w9.heap.size w9 w3':=(by first|exact hb1.grown hg2 hsz1 (fun j hj=>(hO1.lt j hj).1)|exact (hb1.alloc hsz1 (.cells #[.string sh,.bool p.s,p.x] 34)).grown hg2 (by simp <;> omega) (fun j hj=>(hO1.lt j hj).1));have hsz3:=hb3.size)|(refine za_k rfl (.tmp 55) (.tmp 58) rfl w9.heap.size _ _ rfl hO3 _ _ _ (R.drop k) rfl (by first|exact HTL.out _ hb3|exact HTL.out _ _ _ (by omega)) (by simp;omega) hsz3 ?_;intro v4 w4' hO4 hg3;have hb4:Below w9.heap.size w9 w4':=hb3.grown hg3 hsz3 (fun j hj=>(hO3.lt j hj).1)))
      all_goals
       have HO4:=zH (show OwnN w.heap.size w4' v4 (R.take (Tab.lo R p.h) ++ p :: R.drop (Tab.lo R p.h)) from by rw [hlo];have:=hO4.mono (b':=w.heap.size) HBF.out.size;simpa using this)
       have HB4:=zH (HBF.out.trans (hb4.mono HBF.out.size))
       clear hO1 hO3 hO4 hg1 hg2 hg3 hb1 hb3 hb4 hsz1 hsz3
       go_wp2_with fail
       go_ret2
       exact HGO.out _ _ _ _ _ HR.out rfl (.inr HO4.out) HB4.out
end
end Go.Proofs.YtmanejniepghlaaGreatDoor
