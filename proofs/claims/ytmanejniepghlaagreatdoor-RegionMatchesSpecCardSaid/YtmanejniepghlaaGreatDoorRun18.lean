import Derived.Test.YtmanejniepghlaaGreatDoorRun17
import Derived.Test.YtmanejniepghlaaGreatDoorRun2
import Derived.Shelf.Spec.SlicesInsert
import Derived.Lib.AppendZerosOnto
import Derived.Laws.NewBlocks
import Derived.Test.YtmanejniepghlaaGreatDoorRun9
import Derived.Test.YtmanejniepghlaaGreatDoorRun11
import Derived.Test.YtmanejniepghlaaGreatDoorRun16
set_option maxHeartbeats 8000000
set_option maxRecDepth 100000
namespace Go.Proofs.YtmanejniepghlaaGreatDoor
open _root_.Go.Proofs.Tryz
section
open Go.RowKit
theorem Yb {P:Program} (k:Nat) (w:World) (dT sT r elem:TypeId) (b o dLen dCap:Nat) (a:Addr) (d g:Nat) (c:List Value)
 (hu:P.underlying dT=some (.slice elem)) (hs:(P.info? elem).map (·.size)=some k) (hn:c.length=Nat.min d dLen * k)
 (f:∀ j v,c[j]?=some v->w.cell? (a.add j)=some v) (m:∀ j,j < c.length->(w.cell? (b (o+j))).isSome=true) (n:∀ j,j < c.length->w.frozen? (b (o+j))=false) (l:∀ v ∈ c,v.oneCell'=true) :
 (Builtin.copy_ #[dT,sT] r #[.slice (b o) dLen dCap,.slice (some a) d g]).run P w=.ok (goInt (Nat.min d dLen)) (w.setCells b o c):=by
 have q:=run_loadCells_list (P:=P) w a c f
 have h:=run_storeCells_cells (P:=P) b o c 0 w (by simpa using m) (by simpa using n) l
 cases e:P.info? elem with
|none=>simp [e] at hs
|some i =>
  have p:i.size=k:=by simpa [e] using hs
  simp [Builtin.copy_,run_underlying hu,Builtin.lenOf,Builtin.firstCells,sizeOf,typeInfo,e,p,<-hn,q,h]
theorem Vq (l:List AJ):∀ v ∈ l.flatMap pl,v.oneCell'=true:=by
 intro u hu
 obtain⟨p,_,a⟩:=List.mem_flatMap.1 hu
 simp [pl] at a
 rcases a with rfl|rfl|rfl <;> rfl
theorem Eb (b n c i l:Nat) (L:List AJ) (p:AJ) (w:World) (hi:i < n) (yd:n<=c) (zh:c < n+1) (zx:n<=1000000) (hL:L.length=n)
 (J:∀ j v,(L.flatMap pl)[j]?=some v->w.cell? (b (0+j))=some v) (A:∀ j v,(pl p)[j]?=some v->w.cell? (l (0+j))=some v) :
 Calls prog 165 #[.slice b n c,i,.slice l 1 1] w fun e w' =>
  ∃ G a,n+1<=G/\G<=maxLen/\a.size=G * 3/\a.toList.take (i * 3)=(L.take i).flatMap pl/\e=.returned (.slice w.heap.size (n+1) G) ∧
  w'=(((w.alloc (.cells a 34)).drew.setCells w.heap.size (i * 3) (pl p)).drew).setCells w.heap.size ((i+1) * 3) ((L.drop i).flatMap pl):=by
 have mixed:prog.follows Departure.mixedOrders=true:=by kernel_rfl
 obtain⟨i0,zc,zv,zg,zf⟩:=info_parts GC
 have yg:¬ ((i:Int)=(n:Int)):=by omega
 have yh:(c:Int) < (n:Int)+1:=by omega
 have hsz:(prog.info? 34).map (·.size)=some 3:=by rw [zc];simp [zg]
 have I:(L.flatMap pl).length=n * 3:=by rw [Qf,hL]
 have zr:b < w.heap.size:=block_lt_of_cell (J 0 _ (List.getElem?_eq_getElem (by omega)))
 have zu:l < w.heap.size:=block_lt_of_cell (A 0 _ (List.getElem?_eq_getElem (by simp [pl])))
 have zd:(n:Int)+1 - (i:Int)=((n+1 - i:Nat):Int):=by omega
 have M:i+(n+1 - i)=n+1:=by omega
 have ze:(L.take i).flatMap pl=(L.flatMap pl).take (i * 3):=by
  conv=>rhs;rw [<-List.take_append_drop i L,List.flatMap_append]
  rw [List.take_left' (by rw [Qf,List.length_take];omega)]
 have zb:(L.drop i).flatMap pl=(L.flatMap pl).drop (i * 3):=by
  conv=>rhs;rw [<-List.take_append_drop i L,List.flatMap_append]
  rw [List.drop_left' (by rw [Qf,List.length_take];omega)]
 have R:(Builtin.firstCells i0.size i (.slice b i c)).run prog w.drew=.ok ((L.flatMap pl).take (i * 3)).toArray w.drew:=by
  rw [zg]
  exact run_firstCells_some w.drew 3 i b i c ((L.flatMap pl).take (i * 3)) (by rw [List.length_take];omega) (fun j v d=>by
   rw [Addr.add_lit]
   rw [List.getElem?_take] at d
   split at d
   ·exact J j v d
   ·cases d)
 have z:∀ f,(Builtin.append_ #[42,3] f #[.slice b i c,.int .i64 ((n:Int)+1 - (i:Int))]).run prog w =
  .ok (.slice w.heap.size (n+1) (grownCap w (n+1) c 34)) (w.drew.alloc (.cells (((L.flatMap pl).take (i * 3)).toArray ++ Builtin.zeroCells (Value.agg #[.string ⟨#[]⟩,.bool false,.int .i64 0]).cells (n+1 - i) ++ Builtin.zeroCells (Value.agg #[.string ⟨#[]⟩,.bool false,.int .i64 0]).cells (grownCap w (n+1) c 34 - (n+1))) 34)):=fun f=>by
  have h:=Lib.run_append_grow_zeros w 42 3 f 34 i0 _ .i64 .i64 underlying42 underlying3 zc zv b i c ((L.flatMap pl).take (i * 3)) R (n+1 - i) (by omega) (by omega) (by omega) (by omega) (by rw [zf];omega) (by rw [zf,M];exact growslice_fits zh (by omega))
  rw [M] at h
  rw [zd]
  exact h
 have X:n+1<=grownCap w (n+1) c 34:=grownCap_ge w _ _ _
 have U:grownCap w (n+1) c 34<=maxLen:=grownCap_le_maxLen w (n+1) c 34 (by unfold maxLen;omega)
 obtain⟨G,hG⟩:∃ G,G=grownCap w (n+1) c 34:=⟨_,rfl⟩
 rw [<-hG] at z X U
 obtain⟨a,y⟩:∃ a:Array Value,a=((L.flatMap pl).take (i * 3)).toArray ++ Builtin.zeroCells (Value.agg #[.string ⟨#[]⟩,.bool false,.int .i64 0]).cells (n+1 - i) ++ Builtin.zeroCells (Value.agg #[.string ⟨#[]⟩,.bool false,.int .i64 0]).cells (G - (n+1)):=⟨_,rfl⟩
 rw [<-y] at z
 have Z:a.size=G * 3:=by
  rw [y]
  simp [Builtin.zeroCells,Value.cells,I]
  omega
 have za:a.toList.take (i * 3)=(L.take i).flatMap pl:=by
  rw [y,ze,Array.toList_append,Array.toList_append,List.append_assoc,List.take_append_of_le_length (by simp [I];omega)]
  exact List.take_of_length_le (by simp;omega)
 obtain⟨g,o⟩:∃ g,g=w.drew.alloc (.cells a 34):=⟨_,rfl⟩
 rw [<-o] at z
 have N:∀ j,j < (n+1) * 3->(g.cell? (w.heap.size j)).isSome=true:=fun j d=>by
  rw [o,World.cell?_alloc_at (w:=w.drew) a _ w.heap.size j rfl,Array.getElem?_eq_getElem (by omega)];rfl
 have Y:∀ j,g.frozen? (w.heap.size j)=false:=fun j=>by rw [o];exact World.frozen?_alloc_at (w:=w.drew) a _ w.heap.size j rfl
 have zo:∀ j v,w.cell? (b j)=some v->g.cell? (b j)=some v:=fun j v h=>by rw [o,World.cell?_alloc_past (w:=w.drew) _ b j zr];exact h
 have zp:∀ j v,w.cell? (l j)=some v->g.cell? (l j)=some v:=fun j v h=>by rw [o,World.cell?_alloc_past (w:=w.drew) _ l j zu];exact h
 have F:∀ v ∈ pl p,v.oneCell'=true:=fun v hv=>Vq [p] v (by simpa using hv)
 have zt:(pl p).length=3:=rfl
 obtain⟨k,T⟩:∃ k,pl p=k:=⟨_,rfl⟩
 rw [T] at A F zt
 have zs:((L.drop i).flatMap pl).length=(n - i) * 3:=by rw [Qf,List.length_drop,hL]
 have K:∀ j v,((L.drop i).flatMap pl)[j]?=some v->w.cell? (b (i * 3+j))=some v:=fun j v d=>by
  rw [zb,List.getElem?_drop] at d
  have:=J _ _ d
  rwa [Nat.zero_add] at this
 have C:=Vq (L.drop i)
 obtain⟨B,Q⟩:∃ B,(L.drop i).flatMap pl=B:=⟨_,rfl⟩
 rw [Q] at zs K C
 have zj:∀ (W:World),(∀ x,W.cell? x=g.cell? x)->(∀ x,W.frozen? x=g.frozen? x)->∀ f m,(Builtin.copy_ #[42,42] f #[.slice (w.heap.size (i * 3)) (n+1 - i) m,.slice l 1 1]).run prog W=.ok (goInt 1) (W.setCells w.heap.size (i * 3) k):=fun W s H f m=>by
  have u:Nat.min 1 (n+1 - i)=1:=by simp only [Nat.min_def];split <;> omega
  have:=Yb (P:=prog) 3 W _ 42 f 34 w.heap.size (i * 3) (n+1 - i) m l 1 1 k underlying42 hsz (by rw [u];omega)
   (fun j v d=>by rw [Addr.add_lit,s];exact zp _ v (A j v d))
   (fun j d=>by rw [s];exact N _ (by omega)) (fun j d=>by rw [H];exact Y _) F
  rwa [u] at this
 have zy:¬ (G=i):=by omega
 have zw:¬ (G=i+1):=by omega
 have yb:¬ (c=i):=by omega
 have zq:b ≠ w.heap.size:=by omega
 have O:∀ (W:World),(∀ x,W.cell? x=(g.setCells w.heap.size (i * 3) k).cell? x)->(∀ x,W.frozen? x=(g.setCells w.heap.size (i * 3) k).frozen? x)->∀ f m sc,(Builtin.copy_ #[42,42] f #[.slice (w.heap.size ((i+1) * 3)) (n+1 - (i+1)) m,.slice (b (i * 3)) (n - i) sc]).run prog W=.ok (goInt ((n - i:Nat):Int)) (W.setCells w.heap.size ((i+1) * 3) B):=fun W s H f m sc=>by
  have u:Nat.min (n - i) (n+1 - (i+1))=n - i:=by simp only [Nat.min_def];split <;> omega
  have:=Yb (P:=prog) 3 W _ 42 f 34 w.heap.size ((i+1) * 3) (n+1 - (i+1)) m (b (i * 3)) (n - i) sc B underlying42 hsz (by rw [u];omega)
   (fun j v d=>by
    rw [Addr.add_lit,s,World.cell?_setCells_out _ _ _ _ _ (fun h _=>absurd h zq)]
    exact zo _ v (K j v d))
   (fun j d=>by rw [s];exact isSome_setCells _ _ _ _ (fun t ht=>N _ (by omega)) _ (N _ (by omega)))
   (fun j d=>by rw [H,World.frozen?_setCells];exact Y _) C
  rwa [u] at this
 subst o
 have zk:∀ x,((w.alloc (.cells a 34)).drew).cell? x=(w.drew.alloc (.cells a 34)).cell? x:=fun x=>rfl
 have zl:∀ x,((w.alloc (.cells a 34)).drew).frozen? x=(w.drew.alloc (.cells a 34)).frozen? x:=fun x=>rfl
 have zm:∀ x,(((w.alloc (.cells a 34)).drew.setCells w.heap.size (i * 3) k).drew).cell? x=((w.drew.alloc (.cells a 34)).setCells w.heap.size (i * 3) k).cell? x:=fun x=>rfl
 have zn:∀ x,(((w.alloc (.cells a 34)).drew.setCells w.heap.size (i * 3) k).drew).frozen? x=((w.drew.alloc (.cells a 34)).setCells w.heap.size (i * 3) k).frozen? x:=fun x=>rfl
 have yf:IntKind.i64.wrap ((i:Int)+1)=(i:Int)+1:=by rw [IntKind.wrap_i64];omega
 have zz:(0:Int)<=(i:Int)+1:=by omega
 have yc:i<=n:=by omega
 have ye:((i:Int)+1).toNat=i+1:=by omega
 have ya:(i:Int)<=(n:Int):=by omega
 have zi:=zH (show ∃ q r,n+1<=q/\q<=maxLen/\r.size=q * 3/\r.toList.take (i * 3)=(L.take i).flatMap pl/\q=G/\r=a from ⟨G,a,X,U,Z,za,rfl,rfl⟩)
 clear zd M R y hG Z za ze zb I A K F C
 go_in
 go_wp2_with (first
 |(at_builtin;refine Lib.wpList_append_run _ rfl _ _ _ _ rfl _ _ rfl rfl _ _ (z _) ?_)
 |(at_builtin;refine wpList_copy_runI _ rfl _ _ 42 42 rfl _ _ rfl rfl (zj _ zk zl _ _) ?_)
 |(at_builtin;refine wpList_copy_runI _ rfl _ _ 42 42 rfl _ _ rfl rfl (O _ (fun _=>rfl) (fun _=>rfl) _ _ _) ?_))
 go_region_law_o (refine step_copy_runI rfl _ _ 42 42 rfl (.slice (w.heap.size ((i+1) * 3)) (n+1 - (i+1)) (G - (i+1))) (.slice (b (i * 3)) (n - i) (c - i)) (by simp [Act.eval,Act.put]) (by simp [Act.eval,Act.put]) (O _ zm zn 3 (G - (i+1)) (c - i)) ?_)
 go_wp2
 go_ret
 obtain⟨q,r,f1,f2,f3,f4,rfl,rfl⟩:=zi.out
 exact⟨q,r,f1,f2,f3,f4,rfl,by rw [T,Q]⟩
theorem Be (b n c i d:Nat) (L:List AJ) (p:AJ) (w:World) (hi:i < n) (zg:n+1<=c) (_hc63:c<=maxLen) (zh:n<=1000000) (O:d ≠ b) (hL:L.length=n)
 (I:∀ j v,(L.flatMap pl)[j]?=some v->w.cell? (b (0+j))=some v) (r:∀ j,j < (n+1) * 3->(w.cell? (b j)).isSome=true) (M:∀ j,w.frozen? (b j)=false) (z:∀ j v,(pl p)[j]?=some v->w.cell? (d (0+j))=some v)
 (T U:TypeId) (R B:Nat) (ze:w.shape? d=some (T,R)) (zf:w.shape? b=some (U,B)) (zb:B ≠ 0) (K:∀ j,w.frozen? (d j)=false) :
 Calls prog 165 #[.slice b n c,i,.slice d 1 1] w fun e w' =>
  e=.returned (.slice b (n+1) c)/\w'=(w.drew.setCells b ((i+1) * 3) ((L.drop i).flatMap pl)).setCells b (i * 3) (pl p):=by
 have mixed:prog.follows Departure.mixedOrders=true:=by kernel_rfl
 obtain⟨i0,N,zq,Q,zs⟩:=info_parts GC
 have zr:¬ ((i:Int)=(n:Int)):=by omega
 have hsz:(prog.info? 34).map (·.size)=some 3:=by rw [N];simp [Q]
 have zc:∀ lb A,(callFunc 186 #[.slice d 1 1,.slice (b ((i+1) * 3)) lb A]).run prog w=.ok (.value (.bool false)) w:=fun lb A=>by
  rw [run_callFunc_extern func186 (by kernel_rfl) (by kernel_rfl) (by kernel_rfl) (e:=Extern.SlicesOverlaps.overlaps #[42,42] #[4]) (by kernel_rfl),
   Lib.run_overlaps_apart w 42 4 34 underlying42 3 (fun w=>by simp [sizeOf,typeInfo,N,Q]) d (b ((i+1) * 3)) 1 1 lb A O T U R B ze zf zb (K _) (K _)]
  rfl
 have J:(L.drop i).flatMap pl=(L.flatMap pl).drop (i * 3):=by
  conv=>rhs;rw [<-List.take_append_drop i L,List.flatMap_append]
  rw [List.drop_left' (by rw [Qf,List.length_take];omega)]
 have zp:IntKind.i64.wrap ((i:Int)+1)=(i:Int)+1:=by rw [IntKind.wrap_i64];omega
 have zi:(0:Int)<=(i:Int)+1:=by omega
 have zn:i<=n:=by omega
 have zo:((i:Int)+1).toNat=i+1:=by omega
 have zj:¬ (c=i+1):=by omega
 have zk:(i:Int)<=(n:Int)+1:=by omega
 have zl:¬ (c=i):=by omega
 have u:∀ v ∈ pl p,v.oneCell'=true:=fun v hv=>Vq [p] v (by simpa using hv)
 have zd:(pl p).length=3:=rfl
 obtain⟨s,G⟩:∃ s,pl p=s:=⟨_,rfl⟩
 rw [G] at z u zd
 have za:((L.drop i).flatMap pl).length=(n - i) * 3:=by rw [Qf,List.length_drop,hL]
 have y:∀ j v,((L.drop i).flatMap pl)[j]?=some v->w.cell? (b (i * 3+j))=some v:=fun j v a=>by
  rw [J,List.getElem?_drop] at a
  have:=I _ _ a
  rwa [Nat.zero_add] at this
 have t:=Vq (L.drop i)
 obtain⟨l,F⟩:∃ l,(L.drop i).flatMap pl=l:=⟨_,rfl⟩
 rw [F] at za y t
 have C:∀ g f sc,(Builtin.copy_ #[42,42] g #[.slice (b ((i+1) * 3)) (n - i) f,.slice (b (i * 3)) (n+1 - i) sc]).run prog w.drew=.ok (goInt ((n - i:Nat):Int)) (w.drew.setCells b ((i+1) * 3) l):=fun g f sc=>by
  have o:Nat.min (n+1 - i) (n - i)=n - i:=by simp only [Nat.min_def];split <;> omega
  have:=Yb (P:=prog) 3 w.drew _ 42 g 34 b ((i+1) * 3) (n - i) f (b (i * 3)) (n+1 - i) sc l underlying42 hsz (by rw [o];omega)
   (fun j v a=>by rw [Addr.add_lit];exact y j v a)
   (fun j a=>r _ (by omega)) (fun j a=>M _) t
  rwa [o] at this
 obtain⟨m,q⟩:∃ m,m=w.drew.setCells b ((i+1) * 3) l:=⟨_,rfl⟩
 have Y:∀ k,k < (n+1) * 3->(m.cell? (b k)).isSome=true:=fun k hk=>by
  rw [q]
  exact isSome_setCells b l ((i+1) * 3) w.drew (fun j a=>r _ (by omega)) k (r k hk)
 have X:∀ (W:World),(∀ x,W.cell? x=m.cell? x)->(∀ x,W.frozen? x=m.frozen? x)->∀ g f,(Builtin.copy_ #[42,42] g #[.slice (b (i * 3)) (n+1 - i) f,.slice d 1 1]).run prog W=.ok (goInt 1) (W.setCells b (i * 3) s):=fun W H Z g f=>by
  have o:Nat.min 1 (n+1 - i)=1:=by simp only [Nat.min_def];split <;> omega
  have:=Yb (P:=prog) 3 W _ 42 g 34 b (i * 3) (n+1 - i) f d 1 1 s underlying42 hsz (by rw [o];omega)
   (fun j v a=>by
    rw [Addr.add_lit,H,q,World.cell?_setCells_out b _ _ _ _ (fun h _=>absurd h O)]
    exact z j v a)
   (fun j a=>by rw [H];exact Y _ (by omega)) (fun j a=>by rw [Z,q,World.frozen?_setCells];exact M _) u
  rwa [o] at this
 rw [<-q] at C
 have zm:(n:Int)+1<=(c:Int):=by omega
 clear J I z r y u t
 go_in
 go_wp2_with (simp only [zc])
 go_region_law_o (refine step_copy_runI rfl _ _ 42 42 rfl _ _ (by simp [Act.eval,Act.put]) (by simp [Act.eval,Act.put]) (C _ _ _) ?_)
 go_wp2_with (at_builtin;refine wpList_copy_runI _ rfl _ _ 42 42 rfl _ _ rfl rfl (X _ (fun _=>rfl) (fun _=>rfl) _ _) ?_)
 go_ret
 exact⟨rfl,by rw [G,F]⟩
end
section
open Go.RowKit
variable {w:World}
theorem Gs (a:Array Value) (o:Nat) (A X Y:List Value) (c:a.toList.take o=A) (ho:A.length=o) (hs:o+X.length+Y.length<=a.size) :
 (YtmanejniepghlaaGreatDoor.splice (YtmanejniepghlaaGreatDoor.splice a o X) (o+X.length) Y).toList.take (o+X.length+Y.length)=A ++ (X ++ Y):=by
 rw [Qn _ _ _ (by rw [Qr];omega),Qn _ _ _ (by omega),c]
 have b:(A ++ X ++ a.toList.drop (o+X.length)).take (o+X.length)=A ++ X:=List.take_left' (by simp;omega)
 rw [b,List.append_assoc (A ++ X),List.take_append,List.take_of_length_le (by simp;omega),List.take_append]
 simp [ho,List.append_assoc]
theorem Wo (a:Array Value) (o:Nat) (A X D:List Value) (e:a.toList.take (o+D.length)=A ++ D) (ho:A.length=o) (hs:o+X.length+D.length<=a.size) :
 (YtmanejniepghlaaGreatDoor.splice (YtmanejniepghlaaGreatDoor.splice a (o+X.length) D) o X).toList.take (o+X.length+D.length)=A ++ (X ++ D):=by
 have b:a.toList.take o=A:=by
  have:=congrArg (List.take o) e
  rw [List.take_take,List.take_left' ho] at this
  rwa [show min o (o+D.length)=o by omega] at this
 rw [Qn _ _ _ (by rw [Qr];omega),Qn _ _ _ (by omega)]
 have c:(a.toList.take (o+X.length) ++ D ++ a.toList.drop (o+X.length+D.length)).take o=A:=by
  rw [List.append_assoc,List.take_append_of_le_length (by simp;omega),List.take_take,show min o (o+X.length)=o by omega,b]
 have d:(a.toList.take (o+X.length) ++ D ++ a.toList.drop (o+X.length+D.length)).drop (o+X.length)=D ++ a.toList.drop (o+X.length+D.length):=by
  rw [List.append_assoc,List.drop_left' (by simp;omega)]
 rw [c,d,<-List.append_assoc,List.take_left' (by simp;omega),List.append_assoc]
theorem Ww {base:Nat} {v:Value} {L:List AJ} (n:AR base w v L) (c:Nat) (p:AJ) (G:AT w c 1 1 [p]) (O:L.length<=1000000) (z:base<=w.heap.size) (e:TypeId) :
 ∃ f h,(Builtin.append_ #[42,42] e #[v,.slice c 1 1]).run prog w=.ok f h/\AR base h f (L ++ [p])/\w.grownBy h v.ownBlock/\∀ k,f.ownBlock=some k->v.ownBlock=some k\/w.heap.size<=k:=by
 obtain⟨m,l,o,d,q⟩:=info_parts GC
 obtain⟨-,-,I,J,K⟩:=G.2.2.2.2 _ rfl 0 (by simp)
 have i:∀ j u,(pl p)[j]?=some u->w.cell? ((c:Addr).add j)=some u:=by
  intro j u a
  rw [Addr.add_lit]
  match j,a with
 |0,a=>cases a;exact I
 |1,a=>cases a;exact J
 |2,a=>cases a;exact K
 |j+3,a=>simp [pl] at a
 have F:(pl p).length=3:=rfl
 have r:∀ u ∈ pl p,u.oneCell'=true:=fun u hu=>Vq [p] u (by simpa using hu)
 obtain⟨f,h,hr,M,N,-⟩:=run_append_own (P:=prog) w base 42 e 34 m _ 3 32 underlying42 l o d q rfl (by decide) v L.length _ n c 1 1 (pl p) rfl i r (by unfold maxLen;omega) (by omega) z
 refine⟨f,h,hr,?_,N,?_⟩
 ·unfold AR;rw [List.length_append,List.flatMap_append];simpa using M
 ·intro k s
  rcases n.2 with⟨t,hn⟩|⟨g,cap,x,t,Q,y,U,R,T,B⟩
  ·right
   have H:AR w.heap.size w v L:=⟨n.1,.inl ⟨t,hn⟩⟩
   obtain⟨W,X,b,C,-,-⟩:=run_append_own (P:=prog) w w.heap.size 42 e 34 m _ 3 32 underlying42 l o d q rfl (by decide) v L.length _ H c 1 1 (pl p) rfl i r (by unfold maxLen;omega) (by omega) (zN _)
   rw [hr] at b
   cases b
   exact (World.ownsRow.lt C k s).1
  ·subst t
   by_cases A:L.length+1<=cap
   ·left
    have b:=run_append_room (P:=prog) w 42 e 34 m underlying42 l g L.length cap x y c 1 1 (pl p) (by rw [d];rfl) i r A (by rw [d,F];omega)
    rw [hr] at b
    cases b
    exact s
   ·right
    have holds:∀ j u,(L.flatMap pl)[j]?=some u->w.cell? ((g:Addr).add j)=some u:=by
     intro j u a
     rw [Addr.add_lit,Nat.zero_add,cell_of_row w g j x _ _ y]
     rw [<-B,List.getElem?_take] at a
     split at a
     ·simpa using a
     ·cases a
    have b:=run_append_grow (P:=prog) w 42 e 34 m _ underlying42 l o g L.length cap (L.flatMap pl) (by rw [Qf,d]) holds c 1 1 (pl p) (by rw [d];rfl) i (by omega) (by omega) (growslice_fits (by omega) (by rw [q];omega))
    rw [hr] at b
    cases b
    cases s
    exact zN _
def WB (base:Nat) (v:Value) (L:List AJ) (w:World) (e:Ending) (w':World):Prop:=∃ a,e=.returned a/\AR base w' a L/\w.grownBy w' v.ownBlock/\∀ k,a.ownBlock=some k->v.ownBlock=some k\/w.heap.size<=k
theorem Ir (base:Nat) (v:Value) (L:List AJ) (p:AJ) (c:Nat) (w:World) (h:AR base w v L) (i:L.length<=1000000) (u:base<=w.heap.size) (x:AT w c 1 1 [p]) :
 Calls prog 165 #[v,.int .i64 (L.length:Nat),.slice c 1 1] w (WB base v (L ++ [p]) w):=by
 obtain⟨j,y,hr,d,e,f⟩:=Ww h c p x i u 42
 have b:=zH hr
 have a:=zH (show WB base v (L ++ [p]) w (.returned j) y from ⟨j,rfl,d,e,f⟩)
 clear hr d e f
 rcases id h.2 with⟨rfl,r⟩|⟨g,cap,z,rfl,C,k,s,l,o,t⟩
 ·have q:L=[]:=List.eq_nil_of_length_eq_zero r
  subst q
  go_in
  go_wp2_with (at_builtin;refine Lib.wpList_append_run _ rfl _ _ _ _ rfl _ _ rfl rfl _ _ b.out ?_)
  go_ret
  exact a.out
 ·obtain⟨n,hn⟩:∃ n,L.length=n:=⟨_,rfl⟩
  rw [hn] at s i b a ⊢
  have B:(n:Int)<=(cap:Int):=by omega
  have A:(cap:Int)<=9223372036854775807:=by unfold maxLen at l;omega
  clear h hn k o t
  by_cases m:cap=n
  case' pos=>subst m
  all_goals
   go_in
   go_wp2_with (at_builtin;refine Lib.wpList_append_run _ rfl _ _ _ _ rfl _ _ rfl rfl _ _ b.out ?_)
   go_ret
   exact a.out
theorem Up {b:Nat} {p:AJ} (f:AT w b 1 1 [p]):∀ j v,(pl p)[j]?=some v->w.cell? (b (0+j))=some v:=by
 obtain⟨-,-,c,d,e⟩:=f.2.2.2.2 _ rfl 0 (by simp)
 intro j v a
 match j,a with
|0,a=>cases a;exact c
|1,a=>cases a;exact d
|2,a=>cases a;exact e
|j+3,a=>simp [pl] at a
theorem Ec (base:Nat) (v:Value) (L:List AJ) (i:Nat) (p:AJ) (b:Nat) (w:World) (h:AR base w v L) (Q:i<=L.length) (B:L.length<=1000000) (P:base<=w.heap.size)
 (d:w.heap[b]?=some (.cells #[.string (str p.h),.bool p.s,p.x] 34 (0,0))) (za:v.ownBlock ≠ some b) :
 Calls prog 165 #[v,i,.slice b 1 1] w (WB base v (L.take i ++ p :: L.drop i) w):=by
 have y:AT w b 1 1 [p]:=by
  refine⟨rfl,zN _,by unfold maxLen;omega,(fun h=>by cases h),fun x zb i Q=>?_⟩
  cases zb
  obtain rfl:i=0:=by simpa using Q
  exact⟨rfl,Qa d,(cell_of_row _ _ _ _ _ _ d).trans rfl,(cell_of_row _ _ _ _ _ _ d).trans rfl,(cell_of_row _ _ _ _ _ _ d).trans rfl⟩
 by_cases T:i=L.length
 ·subst T
  have:=Ir base v L p b w h B P y
  rwa [List.take_length,List.drop_length]
 ·rcases id h.2 with⟨rfl,ze⟩|⟨g,cap,r,rfl,hg,f,Z,J,K,M⟩
  ·omega
  ·have F:∀ (j:Nat) u,(L.flatMap pl)[j]?=some u->w.cell? (g (0+j))=some u:=by
    intro j u q
    rw [Nat.zero_add,cell_of_row w g j r _ _ f]
    rw [<-M,List.getElem?_take] at q
    split at q
    ·simpa using q
    ·cases q
   have U:b ≠ g:=fun e=>za (by rw [e];rfl)
   have I:((L.take i).flatMap pl).length=i * 3:=by rw [Qf,List.length_take];omega
   have l:((L.drop i).flatMap pl).length=(L.length - i) * 3:=by rw [Qf,List.length_drop]
   have m:(pl p).length=3:=rfl
   have H:(L.take i ++ p :: L.drop i).flatMap pl=(L.take i).flatMap pl ++ (pl p ++ (L.drop i).flatMap pl):=by rw [List.flatMap_append,List.flatMap_cons]
   have t:(L.take i ++ p :: L.drop i).length=L.length+1:=by simp;omega
   have O:(i+1) * 3=i * 3+(pl p).length:=by rw [m];omega
   by_cases R:L.length+1<=cap
   ·refine (Be g L.length cap i b L p w (by omega) R J B U rfl F (fun j q=>by rw [cell_of_row w g j r _ _ f,Array.getElem?_eq_getElem (by omega)];rfl) (fun j=>frozen_of_row _ _ _ _ _ f) (Up y) 34 34 3 (cap * 3) (by simp [World.shape?,d]) (by simp [World.shape?,f,K]) (by omega) (fun j=>frozen_of_row _ _ _ _ _ d)).mono ?_
    rintro e w' ⟨rfl,rfl⟩
    have z:=Qi g 34 ((L.drop i).flatMap pl) r ((i+1) * 3) w.drew f
    have A:=Qi g 34 (pl p) _ (i * 3) _ z
    refine⟨_,rfl,⟨?_,.inr ⟨g,cap,_,by rw [t],hg,A,by omega,J,by rw [Qr,Qr];exact K,?_⟩⟩,?_,fun k c=>.inl c⟩
    ·rw [Qf]
    ·rw [O,H,t,show (L.length+1) * 3=i * 3+(pl p).length+((L.drop i).flatMap pl).length by rw [m,l];omega]
     refine Wo r (i * 3) _ (pl p) _ ?_ I (by rw [m,l];omega)
     rw [l,show i * 3+(L.length - i) * 3=L.length * 3 by omega,M,<-List.flatMap_append,List.take_append_drop]
    ·exact (show w.grownBy w.drew _ from ⟨rfl,rfl,rfl,zN _,fun _ _ _=>rfl⟩).trans ((Qm g _ _ w.drew).trans (Qm g _ _ _))
   ·refine (Eb g L.length cap i b L p w (by omega) Z (by omega) B rfl F (Up y)).mono ?_
    rintro e w' ⟨G,a,zd,W,X,Y,rfl,rfl⟩
    have h0:(w.alloc (.cells a 34)).drew.heap[w.heap.size]?=some (.cells a 34 (0,0)):=Qb _ _ _ rfl
    have z:=Qi w.heap.size 34 (pl p) a (i * 3) _ h0
    have A:=Qi w.heap.size 34 ((L.drop i).flatMap pl) _ ((i+1) * 3) ((w.alloc (.cells a 34)).drew.setCells w.heap.size (i * 3) (pl p)).drew z
    refine⟨_,rfl,⟨?_,.inr ⟨w.heap.size,G,_,by rw [t],P,A,by omega,W,by rw [Qr,Qr];exact X,?_⟩⟩,?_,fun k c=>.inr (by cases c;exact zN _)⟩
    ·rw [Qf]
    ·rw [O,H,t,show (L.length+1) * 3=i * 3+(pl p).length+((L.drop i).flatMap pl).length by rw [m,l];omega]
     exact Gs a (i * 3) _ (pl p) _ Y I (by rw [m,l];omega)
    ·have n:=Qm w.heap.size (pl p) (i * 3) (w.alloc (.cells a 34)).drew
     have o:=Qm w.heap.size ((L.drop i).flatMap pl) ((i+1) * 3) ((w.alloc (.cells a 34)).drew.setCells w.heap.size (i * 3) (pl p)).drew
     have C:w.heap.size<=(w.alloc (.cells a 34)).drew.heap.size:=by simp
     have N:=n.size
     have zc:=o.size
     exact⟨o.os.trans n.os,o.tape.trans n.tape,o.output.trans n.output,Nat.le_trans C (Nat.le_trans N zc),fun k c _=>(o.block k (Nat.lt_of_lt_of_le c (Nat.le_trans C N)) (fun e=>by cases e;omega)).trans ((n.block k (Nat.lt_of_lt_of_le c C) (fun e=>by cases e;omega)).trans (Qd w _ _ c))⟩
end
section
open Go.RowKit
variable {i:Nat} {w:World}
theorem Ys (L:List AJ) (a:i<=L.length):(L.take i).flatMap pl=(L.flatMap pl).take (i * 3):=by
 conv=>rhs;rw [<-List.take_append_drop i L,List.flatMap_append]
 rw [List.take_left' (by rw [Qf,List.length_take];omega)]
theorem Xs (L:List AJ) (a:i<=L.length):(L.drop i).flatMap pl=(L.flatMap pl).drop (i * 3):=by
 conv=>rhs;rw [<-List.take_append_drop i L,List.flatMap_append]
 rw [List.drop_left' (by rw [Qf,List.length_take];omega)]
theorem AR.VD {base:Nat} {g n c:Nat} {L:List AJ} (h:AR base w (.slice g n c) L) (u:i < L.length) (p:AJ) :
 AR base (((w.setCell (g (i * 3)) (.string (str p.h))).setCell (g (i * 3+1)) (.bool p.s)).setCell (g (i * 3+2)) (p.x:Value)) (.slice g n c) (L.set i p):=by
 refine⟨by rw [Qf],?_⟩
 rcases h.2 with⟨d,hn⟩|⟨z,cap,a,d,t,r,l,j,k,e⟩
 ·cases d
 ·cases d
  have q:=Qi g 34 (pl p) a (i * 3) w r
  refine .inr ⟨g,c,_,by rw [List.length_set],t,q,by rw [List.length_set];exact l,j,by rw [Qr];exact k,?_⟩
  have b:(pl p).length=3:=rfl
  have f:L.set i p=L.take i ++ p :: L.drop (i+1):=by rw [List.set_eq_take_append_cons_drop,if_pos u]
  rw [List.length_set,f,Qn _ _ _ (by rw [b];omega),List.flatMap_append,List.flatMap_cons,b]
  have m:a.toList.take (i * 3)=(L.take i).flatMap pl:=by
   rw [Ys L (by omega),<-e,List.take_take,show min (i * 3) (L.length * 3)=i * 3 by omega]
  have o:(a.toList.drop (i * 3+3)).take (L.length * 3 - (i * 3+3))=(L.drop (i+1)).flatMap pl:=by
   rw [Xs L (by omega),<-e,List.drop_take,show (i+1) * 3=i * 3+3 by omega]
  have y:((L.take i).flatMap pl ++ pl p).length=i * 3+3:=by rw [List.length_append,Qf,List.length_take,b];omega
  rw [m,List.take_append,List.take_of_length_le (by omega),y,o,List.append_assoc]
theorem Gn {P:Program} (w:World) (t e q:TypeId) (z:Value) (l:P.underlying t=some (.slice e)) (p:∀ w,(zeroValue e).run P w=.ok z w) (b o n c:Nat) (hn:0 < n) (a:List Value) (f:(Builtin.zeroCells z.cells n).toList=a)
 (h:∀ j,j < a.length->(w.cell? (b (o+j))).isSome=true) (k:∀ j,j < a.length->w.frozen? (b (o+j))=false) (g:∀ v ∈ a,v.oneCell'=true) :
 (Builtin.clear_ #[t] q #[.slice (b o) n c]).run P w=.ok (.tuple #[]) (w.setCells b o a):=by
 have d:=run_storeCells_cells (P:=P) b o a 0 w (by simpa using h) (by simpa using k) g
 simp only [Nat.add_zero] at d
 obtain⟨m,rfl⟩:∃ m,n=m+1:=⟨n - 1,by omega⟩
 simp [Builtin.clear_,run_underlying l,p,f,d]
theorem Oz {c d:World} {row:Option Nat} (h:w.grownBy c row) (k:c.grownBy d row):w.grownBy d row :=
 ⟨k.os.trans h.os,k.tape.trans h.tape,k.output.trans h.output,Nat.le_trans h.size k.size,fun i b a=>(k.block i (Nat.lt_of_lt_of_le b h.size) a).trans (h.block i b a)⟩
theorem Fw (m:Nat):∀ v ∈ (Builtin.zeroCells (Value.agg #[.string ⟨#[]⟩,.bool false,.int .i64 0]).cells m).toList,v.oneCell'=true:=by
 intro v a
 rw [Array.mem_toList_iff,Array.mem_iff_getElem] at a
 obtain⟨i,c,rfl⟩:=a
 simp [Builtin.zeroCells,Value.cells]
 have b:i % 3=0\/i % 3=1\/i % 3=2:=by omega
 rcases b with h|h|h <;> simp [h] <;> rfl
theorem Fv (m:Nat):(Builtin.zeroCells (Value.agg #[.string ⟨#[]⟩,.bool false,.int .i64 0]).cells m).toList.length=m * 3:=by
 simp [Builtin.zeroCells,Value.cells]
end
section
open Go.RowKit
variable {w:World} {c n:Nat} {l:List AJ} {a:Option Addr}
theorem AT.cellsOf {d:Addr} {m:Nat} {l2:List AJ} (t:AT w (some d) m c l2):∀ j u,(l2.flatMap pl)[j]?=some u->w.cell? (d.add j)=some u:=by
 intro j u f
 have y:j < l2.length * 3:=by
  have:=(List.getElem?_eq_some_iff.1 f).1;rwa [Qf] at this
 have g:j / 3 < l2.length:=by omega
 obtain⟨h,z,i,k,p⟩:=t.2.2.2.2 d rfl (j / 3) g
 obtain⟨g1,q,r⟩:=Yl l2 (j / 3) g
 have s:d.add j=(d.block (d.off+j)):=by
  obtain⟨b,o,A⟩:=d;simp only at h;subst h;unfold Addr.add;split <;> simp_all
 rw [s]
 have x:j % 3=0\/j % 3=1\/j % 3=2:=by omega
 rcases x with h0|h0|h0
 ·have e:j / 3 * 3=j:=by omega
  rw [e] at i g1
  rw [i,<-f,g1]
 ·have e:j / 3 * 3+1=j:=by omega
  rw [Nat.add_assoc,e] at k
  rw [e] at q
  rw [k,<-f,q]
 ·have e:j / 3 * 3+2=j:=by omega
  rw [Nat.add_assoc,e] at p
  rw [e] at r
  rw [p,<-f,r]
theorem Vv (h:TypeId) (base:Nat) (v:Value) (l:List AJ) (g:AR base w v l) (b:Option Addr) (m c:Nat) (l2:List AJ) (e:AT w b m c l2) (y:l.length+m<=1000000000) (o:base<=w.heap.size) :
 ∃ f d,(Builtin.append_ #[42,42] h #[v,.slice b m c]).run prog w=.ok f d/\AR base d f (l ++ l2)/\w.grownBy d v.ownBlock:=by
 obtain⟨k,j,q,r,s⟩:=info_parts GC
 cases b with
|none =>
  obtain⟨rfl,rfl⟩:=e.2.2.2.1 rfl
  obtain rfl:m=0:=e.1.symm
  have p:=run_append_owned_none (P:=prog) (w:=w) base 42 h 34 k 3 underlying42 j v l.length _ g
  exact⟨v,w,p,by simpa using g,rfl,rfl,rfl,zN _,fun _ _ _=>rfl⟩
|some t =>
  have i:=e.len
  obtain⟨f,d,hr,u,x,-⟩:=run_append_own (P:=prog) w base 42 h 34 k _ 3 32 underlying42 j q r s rfl (by decide) v l.length _ g t m c (l2.flatMap pl) (by rw [Qf,i]) e.cellsOf (Vq _) (by unfold maxLen;omega) (by omega) o
  refine⟨f,d,hr,?_,x⟩
  unfold AR;rw [List.length_append,List.flatMap_append,i];exact u
theorem Qk {f:Array Oper} {o:Oper} {a:Act} {K:Act->World->Prop} {Q:Exit->Act->World->Prop} {E:Prop} (hgd:o.guard=none) (s x:Operand)
 (ho:o.op=.call { callee:=.builtin .append,args:=#[s,x],argTypes:=#[42,42] })
 (base:Nat) (v:Value) (l:List AJ) (hs:a.eval s=v) (j:AR base w v l) (b:Option Addr) (m c:Nat) (l2:List AJ) (u:a.eval x=.slice b m c) (p:AT w b m c l2)
 (i:l.length+m<=1000000000) (g:base<=w.heap.size)
 (h:∀ e d,AR base d e (l ++ l2)->w.grownBy d v.ownBlock->K (a.put o.dst e) d) :
 if Region.wanted o (yielded f a.tmps)=true then Oper.wp prog o a w K Q else E:=by
 have t:Region.wanted o (yielded f a.tmps)=true:=by simp [Region.wanted,hgd]
 rw [if_pos t]
 obtain⟨e,d,k,q,r⟩:=Vv o.type base v l j b m c l2 p i g
 unfold Oper.wp
 simp [execOp,ho,resolve,invoke,builtin,hs,u,k,Result.andThen]
 exact h e d q r
theorem AT.grown {w':World} {row:Option Nat} (h:AT w a n c l) (f:w.grownBy w' row) (j:∀ x,a=some x->row ≠ some x.block):AT w' a n c l:=by
 obtain⟨o,hn,m,h0,k⟩:=h
 refine⟨o,hn,m,h0,fun x g i b=>?_⟩
 obtain⟨hs,d,b⟩:=k x g i b
 exact⟨hs,Nat.lt_of_lt_of_le d f.size,b.AI (f.block _ d (fun e=>j x g e.symm))⟩
theorem AT.heap {W:World} (h:AT w a n c l) (b:W.heap=w.heap):AT W a n c l :=
 h.AI (fun _ _ _=>by rw [b]) (by rw [b];exact zN _)
theorem AT.drop {b o:Nat} (h:AT w (b o) n c l) {k:Nat} (q:k<=n):AT w (b (o+k * 3)) (n - k) (c - k) (l.drop k):=by
 obtain⟨r,hn,p,h0,f⟩:=h
 refine⟨by simp;omega,by omega,by omega,(fun h=>by cases h),fun y m i j=>?_⟩
 cases m
 have e:k+i < l.length:=by simp at j;omega
 obtain⟨hs,g,d⟩:=f _ rfl (k+i) e
 refine⟨rfl,g,?_⟩
 rw [List.getElem_drop]
 simp only at d ⊢
 rwa [show o+k * 3+i * 3=o+(k+i) * 3 by omega]
theorem AT.zero (w:World) (x:Addr) (c:Nat) (b:c<=maxLen):AT w (some x) 0 c []:=⟨rfl,Nat.zero_le _,b,(fun h=>by cases h),fun y _ i d=>by simp at d⟩
end
section
open Go.RowKit
def KU (w w':World) (v0 v:Value) (a L:List AJ):Prop:=(v=v0/\L=a)\/AR w.heap.size w' v L
theorem Ls (a:Option Addr) (n c:Nat) (L:List AJ) (t:List UInt8) (w:World) (h:AT w a n c L) :
 Calls prog 120 #[.slice a n c,.string (str t)] w fun e P=>e=.returned (.int .i64 (if BA.find L t < n then (BA.find L t:Nat) else -1))/\w=P:=by
 have R:=h.le
 have A:=zH h.len
 obtain⟨r,hr⟩:∃ r:Int,(if BA.find L t < n then ((BA.find L t:Nat):Int) else -1)=r:=⟨_,rfl⟩
 rw [hr]
 have G:=zH hr
 obtain⟨H,l⟩:∃ s,str t=s:=⟨_,rfl⟩
 have B:=zH l
 rw [l]
 have K:=zH h
 clear hr l h
 go_in
 go_wp2_with fail
 go_loop [5] (fun i=>∃ k:Nat,k<=n/\i=.int .i64 (k:Nat)/\Hid (∀ q ∈ L.take k,q.h ≠ t)) (fun i=>n - (intOf i).toNat)
 case atStart=>exact⟨0,Nat.zero_le _,rfl,zH (by simp)⟩
 case round =>
  obtain⟨k,U,rfl,F⟩:=hrel
  have W:(0:Int)<=(k:Int):=by omega
  have y:∀ i p,i < k->L[i]?=some p->p.h ≠ t:=fun i p N b=>F.out p (List.mem_iff_getElem?.2 ⟨i,by rw [List.getElem?_take_of_lt N];exact b⟩)
  have z:=zH y
  clear y
  by_cases C:k < n
  ·have X:(k:Int) < (n:Int):=by omega
   obtain⟨T,o,rfl,Q,f,m,-,-⟩:=K.out.at C
   have M:=zH (List.take_succ_eq_append_getElem f)
   have I:=zH (List.getElem?_eq_getElem f)
   rw [List.getElem?_eq_getElem f,Option.getD_some] at m
   generalize L[k]=q at *
   by_cases d:q.h=t
   ·have x:((str q.h).toList == H.toList)=true:=by rw [<-B.out,d];simp
    have j:r=(k:Int):=by
     have u:BA.find L t=k:=BA.JF (by omega) z.out (fun p b=>by rw [I.out] at b;cases b;exact d)
     rw [<-G.out,u,if_pos C]
    obtain⟨O,g⟩:∃ s,str q.h=s:=⟨_,rfl⟩
    rw [g] at m x
    subst j
    clear g d f
    go_wp2_with fail
    go_ret
    exact⟨rfl,rfl⟩
   ·have x:((str q.h).toList == H.toList)=false:=by rw [<-B.out,AQ,AQ];exact beq_eq_false_iff_ne.2 d
    have J:=zH (show ∀ p ∈ L.take (k+1),p.h ≠ t by
     rw [M.out];intro p b
     rcases List.mem_append.1 b with b|b
     ·exact F.out p b
     ·simp at b;subst b;exact d)
    obtain⟨O,g⟩:∃ s,str q.h=s:=⟨_,rfl⟩
    rw [g] at m x
    clear g d f
    go_wp2_with fail
    go_round
    case rel=>exact⟨k+1,by omega,by go_num,J⟩
    case measure=>simp [intOf];omega
  ·obtain rfl:k=n:=by omega
   have j:r=-1:=by
    have u:BA.find L t=k:=BA.JF (by rw [A.out];exact zN _) z.out (fun p b=>by rw [List.getElem?_eq_none (by rw [A.out];exact zN _)] at b;cases b)
    rw [<-G.out,u,if_neg (by omega)]
   subst j
   go_wp2_with fail
   go_ret
   exact⟨rfl,rfl⟩
end
section
open Go.RowKit
def NH (a:Option Addr) (n c:Nat) (L:List AJ) (t:List UInt8) (w:World) (e:Ending) (w':World):Prop :=
 ∃ v,e=.returned (.tuple #[v,.bool (BA.rremove L t).2])/\KU w w' (.slice a n c) v L (BA.rremove L t).1/\Below w.heap.size w w'
theorem Uw (a:Option Addr) (n c:Nat) (L:List AJ) (t:List UInt8) (w:World) (h:AT w a n c L) (hn:n<=1000000) :
 Calls prog 58 #[.slice a n c,.string (str t)] w (NH a n c L t w):=by
 have i:=zH (Ls a n c L t w h)
 have H:=zH (show ∀ B b e r v,BA.rremove L t=(B,b)->e=.returned (.tuple #[v,.bool b])->KU w r (.slice a n c) v L B->Below w.heap.size w r->NH a n c L t w e r from fun B b e r v R T U X=>by unfold NH;rw [R];exact⟨v,T,U,X⟩)
 have hr:BA.rremove L t=if BA.find L t < n then (L.take (BA.find L t) ++ L.drop (BA.find L t+1),true) else (L,false):=by unfold BA.rremove;rw [h.len]
 obtain⟨k,C⟩:∃ k,BA.find L t=k:=⟨_,rfl⟩
 rw [C] at i hr
 have P:=zH h
 generalize str t=st at *
 by_cases z:k < n
 ·rw [if_pos z] at i hr
  have A:=zH hr
  have N:=zH h.len
  obtain⟨l,o,rfl,-⟩:=h.at z
  have za:=h.2.1
  have Z:=h.2.2.1
  have k0:(0:Int)<=(k:Int):=by omega
  have k1:¬ (k:Int) < 0:=by omega
  have kn:(k:Int)<=(n:Int):=by omega
  have kc:(k:Int)<=(c:Int):=by omega
  have zc:k<=c:=by omega
  have z1:(0:Int)<=(k:Int)+1:=by omega
  have z2:(k:Int)+1<=(n:Int):=by omega
  have z3:k+1<=n:=by omega
  have z9:(k:Int)<=(k:Int)+1:=by omega
  have wk:IntKind.i64.wrap ((k:Int)+1)=(k:Int)+1:=by rw [IntKind.wrap_i64];omega
  have x:Below w.heap.size w (w.alloc (.cells #[] 34)).drew:=Below.drew ((Below.refl _ _).alloc (zN _) _)
  have G:=zH x
  have K:=zH (show AR w.heap.size (w.alloc (.cells #[] 34)).drew (.slice w.heap.size 0 0) [] from (AR.empty w (zN _)).AI (fun _ _=>rfl))
  have I:=zH ((h.ext x).take (k:=k) (by omega))
  have zb:¬ c=k:=by omega
  clear hr C h x
  by_cases Q:c=k+1
  case' pos=>
   have u:=zH (show ∀ W,Below w.heap.size w W->AT W (l o) 0 0 (L.drop (k+1)) from fun W _=>by
    rw [List.drop_of_length_le (by rw [N.out];omega)]
    exact AT.zero _ _ _ (Nat.zero_le _))
   obtain rfl:n=k+1:=by omega
   subst Q
   go_in
   go_wp2_with fail
   refine i.out.mono ?_;rintro e m ⟨rfl,rfl⟩
   go_wp2_with fail
   go_region_law (first
   |(refine Qk rfl (.tmp 13) (.tmp 16) rfl w.heap.size _ [] (by simp [Act.eval]) (K.out) (l o) k (k+1) (L.take k) (by simp [Act.eval]) I.out (by simp;omega) (by simp) ?_;intro F m g p;have d:Below w.heap.size w m:=G.out.grown p (by simp) (fun j f=>by cases f;exact zN _))
   |(refine Qk rfl (.tmp 17) (.tmp 21) rfl w.heap.size F _ (by simp [Act.eval]) g (l o) 0 0 (L.drop (k+1)) (by simp [Act.eval]) (u.out _ d) (by simp;omega) d.size ?_;intro M s y q;have J:Below w.heap.size w s:=d.grown q d.size (fun j f=>(g.lt j f).1)))
  case' neg=>
   have u:=zH (show ∀ W,Below w.heap.size w W->AT W (l (o+(k+1) * 3)) (n - (k+1)) (c - (k+1)) (L.drop (k+1)) from fun W Y=>(P.out.ext Y).drop (by omega))
   go_in
   go_wp2_with fail
   refine i.out.mono ?_;rintro e m ⟨rfl,rfl⟩
   go_wp2_with fail
   go_region_law (first
   |(refine Qk rfl (.tmp 13) (.tmp 16) rfl w.heap.size _ [] (by simp [Act.eval]) (K.out) (l o) k c (L.take k) (by simp [Act.eval]) I.out (by simp;omega) (by simp) ?_;intro F m g p;have d:Below w.heap.size w m:=G.out.grown p (by simp) (fun j f=>by cases f;exact zN _))
   |(refine Qk rfl (.tmp 17) (.tmp 21) rfl w.heap.size F _ (by simp [Act.eval]) g (l (o+(k+1) * 3)) (n - (k+1)) (c - (k+1)) (L.drop (k+1)) (by simp [Act.eval]) (u.out _ d) (by simp;omega) d.size ?_;intro M s y q;have J:Below w.heap.size w s:=d.grown q d.size (fun j f=>(g.lt j f).1)))
  all_goals
   have O:=zH (show AR w.heap.size s M (L.take k ++ L.drop (k+1)) from by simpa using y)
   clear g y p q
   go_wp2_with fail
   go_ret2
   exact H.out _ _ _ _ _ A.out rfl (.inr O.out) J
 ·rw [if_neg z] at i hr
  have A:=zH hr
  clear hr C h
  go_in
  go_wp2_with fail
  refine i.out.mono ?_;rintro e m ⟨rfl,rfl⟩
  go_wp2_with fail
  go_ret2
  exact H.out _ _ _ _ _ A.out rfl (.inl ⟨rfl,rfl⟩) (Below.refl _ _)
theorem KU.sl {w w':World} {a:Option Addr} {n c:Nat} {v:Value} {L R:List AJ} (h:KU w w' (.slice a n c) v L R) (hs:AT w a n c L) (f:Below w.heap.size w w'):∃ a2 b,v=.slice a2 R.length b/\AT w' a2 R.length b R:=by
 rcases h with⟨rfl,rfl⟩|ho
 ·exact⟨a,c,by rw [hs.len],by rw [hs.len];exact hs.ext f⟩
 ·obtain⟨a2,b,d,e,-⟩:=ho.sl
  exact⟨a2,b,d,e⟩
def RV (a:Option Addr) (n c:Nat) (L:List AJ) (p:AJ) (cap:Int) (w:World) (e:Ending) (w':World):Prop :=
 ∃ v,e=.returned (.tuple #[v,.int .i64 (BA.rput L p cap).2])/\KU w w' (.slice a n c) v L (BA.rput L p cap).1/\Below w.heap.size w w'
theorem rtx (w:World) (p:AJ) {b:ByteArray} (h:str p.h=b) {A N:Obj} (c:A=.cells #[.string b,.bool p.s,p.x] 34) (d:N=.cells #[] 34) :
 Hid (AR w.heap.size (w.alloc N).drew (.slice w.heap.size 0 0) [])/\Hid (AR w.heap.size ((w.alloc N).alloc A).drew (.slice w.heap.size 0 0) []) ∧
 Hid (AR w.heap.size ((w.alloc A).alloc N).drew (.slice (w.heap.size+1:Nat) 0 0) [])/\Hid (AT ((w.alloc N).alloc A).drew (w.heap.size+1:Nat) 1 1 [p])/\Hid (AT ((w.alloc A).alloc N).drew w.heap.size 1 1 [p]) ∧
 Hid (Below w.heap.size w (w.alloc N).drew/\Below w.heap.size w ((w.alloc N).alloc A).drew/\Below w.heap.size w ((w.alloc A).alloc N).drew)/\Hid (∀ W:World,AT (W.alloc A) W.heap.size 1 1 [p]):=by
 subst c d h
 have a:=fun W:World=>AT.one W p 34
 refine⟨zH ((AR.empty w (zN _)).AI fun _ _=>rfl),zH (((AR.empty w (zN _)).alloc _).AI fun _ _=>rfl),zH ?_,zH ?_,zH (((a w).ext ((Below.refl _ _).alloc (zN _) _)).heap rfl),
  zH ⟨Below.drew ((Below.refl _ _).alloc (zN _) _),Below.drew (((Below.refl _ _).alloc (zN _) _).alloc (by simp) _),Below.drew (((Below.refl _ _).alloc (zN _) _).alloc (by simp) _)⟩,zH a⟩
 ·have:=AR.empty (base:=w.heap.size) (w.alloc (.cells (pc p) 34)) (by simp)
  rw [show (w.alloc (.cells (pc p) 34)).heap.size=w.heap.size+1 by simp] at this;exact this.AI (fun _ _=>rfl)
 ·have:=a (w.alloc (.cells #[] 34));rw [show (w.alloc (.cells #[] 34)).heap.size=w.heap.size+1 by simp] at this;exact this.heap rfl
theorem Mq (a:Option Addr) (n c:Nat) (L:List AJ) (p:AJ) (cap:Int) (w:World) (h:AT w a n c L) (hn:n<=1000000) (hL:∀ q ∈ L,q.h.length<=1000000) (hp:p.h.length<=1000000) :
 Calls prog 59 #[.slice a n c,pv p,cap] w (RV a n c L p cap w):=by
 have HV:=zH (fun W=>Xz false p hp W)
 have zp:=(Below.refl w.heap.size w).alloc (zN _) (.cells (pc p) 34)
 have ye:=JM.new w (str p.h) p.s p.x
 have T:=zH (fun W (A:Below w.heap.size w W)=>Uw a n c L p.h W (h.ext A) hn)
 have zn:=zH (show ∀ L' z e f v,BA.rput L p cap=(L',z)->e=.returned (.tuple #[v,z])->KU w f (.slice a n c) v L L'->Below w.heap.size w f->RV a n c L p cap w e f from fun L' b e f v h1 h2 h3 h4=>by unfold RV;rw [h1];exact⟨v,h2,h3,h4⟩)
 have hr:BA.rput L p cap=if AJ.AB p=false then (L,1) else if (BA.rremove L p.h).2=false/\cap<=L.length then (L,11) else ((BA.rremove L p.h).1.take (BA.lo (BA.rremove L p.h).1 p.h) ++ p :: (BA.rremove L p.h).1.drop (BA.lo (BA.rremove L p.h).1 p.h),0):=rfl
 have zk:∀ q ∈ (BA.rremove L p.h).1,q.h.length<=1000000:=fun q g=>hL q (by
  unfold BA.rremove at g
  split at g
  ·rcases List.mem_append.1 g with m|m
   ·exact List.mem_of_mem_take m
   ·exact List.mem_of_mem_drop m
  ·exact g)
 have yd:(BA.rremove L p.h).1.length<=n:=by
  unfold BA.rremove
  split
  ·rw [List.length_append,List.length_take,List.length_drop,h.len];omega
  ·rw [h.len];exact zN _
 unfold NH at T
 rw [h.len] at hr
 unfold pc at zp
 unfold pv at HV ⊢
 obtain⟨ok,yw⟩:∃ b,AJ.AB p=b:=⟨_,rfl⟩
 obtain⟨⟨R,fd⟩,yq⟩:∃ b,BA.rremove L p.h=b:=⟨_,rfl⟩
 rw [yw] at HV hr
 rw [yq] at T hr zk yd
 simp only at T hr zk yd
 have xj:=zH h
 have ym:(w.alloc (.cells #[.string (str p.h),.bool p.s,p.x] 34)).heap.size=w.heap.size+1:=by simp
 have xp:=zH (show p=⟨p.h,p.s,p.x⟩ from rfl)
 obtain⟨sh,yj⟩:∃ s,str p.h=s:=⟨_,rfl⟩
 rw [yj] at HV zp ye ym T ⊢
 have ya:=zH yj
 have zq:=zH zp
 have yb:=zH ym
 have yz:=zH zk
 have yr:=zH ye
 clear yw yq zp ym hL h zk ye yj
 cases ok with
|false =>
  have HR:=zH (hr.trans (if_pos rfl))
  clear hr
  go_in
  go_wp2_with fail
  refine (HV.out _).mono ?_;rintro e w1 ⟨rfl,u⟩
  rw [yb.out] at u
  go_wp2_with fail
  go_ret2
  exact zn.out _ _ _ _ _ HR.out rfl (.inl ⟨rfl,rfl⟩) (zq.out.trans (u.mono (Nat.le_succ _)))
|true =>
  rw [if_neg (by decide)] at hr
  by_cases zb:fd=false/\cap<=(n:Int)
  ·rw [if_pos zb] at hr
   obtain⟨rfl,xq⟩:=zb
   have HR:=zH hr
   clear hr
   go_in
   go_wp2_with fail
   refine (HV.out _).mono ?_;rintro e w1 ⟨rfl,u⟩
   rw [yb.out] at u
   have A:=zq.out.trans (u.mono (Nat.le_succ _))
   have I:JM w1 w.heap.size sh p.s p.x:=(u.block _ (Nat.lt_succ_self _)).trans yr.out
   obtain⟨q0,q1,q2⟩:=I.cells
   have xc:=Qa I
   clear I
   go_wp2_with fail
   refine (T.out _ A).mono ?_;rintro e w2 ⟨v2,rfl,-,zd⟩
   go_wp2_with fail
   go_ret2
   exact zn.out _ _ _ _ _ HR.out rfl (.inl ⟨rfl,rfl⟩) (A.trans (zd.mono A.size))
  ·rw [if_neg zb] at hr
   have HR:=zH hr
   clear hr
   have yh:fd=false->¬ cap<=(n:Int):=fun e h=>zb ⟨e,h⟩
   clear zb
   cases fd
   all_goals
    first
    |(have xd:=yh rfl;have xt:decide (cap<=(n:Int))=false:=decide_eq_false xd;clear yh)
    |clear yh
    go_in
    go_wp2_with fail
    refine (HV.out _).mono ?_;rintro e w1 ⟨rfl,u⟩
    rw [yb.out] at u
    have A:=zq.out.trans (u.mono (Nat.le_succ _))
    have I:JM w1 w.heap.size sh p.s p.x:=(u.block _ (Nat.lt_succ_self _)).trans yr.out
    obtain⟨q0,q1,q2⟩:=I.cells
    have xc:=Qa I
    have xi:=zH I
    clear I
    go_wp2_with fail
    refine (T.out _ A).mono ?_;rintro e w2 ⟨v2,rfl,yp,zd⟩
    obtain⟨a2,t,rfl,yi⟩:=yp.sl (xj.out.ext A) zd
    have zo:=A.trans (zd.mono A.size)
    have yc:=xi.out.ext zd
    obtain⟨m,hm⟩:∃ m,R.length=m:=⟨_,rfl⟩
    rw [hm] at yi yd ⊢
    have HM:=zH hm
    have F:=zH yi
    have zx:=zH yc
    have xo:=Qa yc
    clear hm yp yi yc q0 q1 q2
    go_wp2_with fail
    go_loopw [10] (fun i wr=>∃ k:Nat,k<=m/\i=.int .i64 (k:Nat)/\Hid (∀ q ∈ R.take k,Ho.cmp q.h p.h < 0)/\AP w2 wr) (fun i _=>m - (intOf i).toNat)
    case atStart=>exact⟨0,Nat.zero_le _,rfl,zH (by simp),AP.refl _⟩
    case round =>
     obtain⟨k,hk,rfl,HN,hE⟩:=hrel
     have i0:(0:Int)<=(k:Int):=by omega
     have Z:=zx.out.ext hE
     obtain⟨q0,q1,q2⟩:=Z.cells
     have xr:=Qa Z
     by_cases yg:k < m
     case' pos=>
      have i2:(k:Int) < (m:Int):=by omega
      have i3:decide (k < m)=true:=decide_eq_true yg
      obtain⟨J,o,rfl,yt,zi,c1,-,-⟩:=(F.out.ext hE).at yg
      rw [List.getElem?_eq_getElem zi,Option.getD_some] at c1
      have yv:=List.getElem?_eq_getElem zi
      have xk:=zH (List.take_succ_eq_append_getElem zi)
      have HC:=zH (fun W=>Hg R[k].h p.h (yz.out _ (List.getElem_mem zi)) hp W)
      generalize R[k]=r at *
      obtain⟨z,Q⟩:∃ z,Ho.cmp r.h p.h=z:=⟨_,rfl⟩
      obtain⟨sr,yk⟩:∃ s,str r.h=s:=⟨_,rfl⟩
      rw [Q,yk,ya.out] at HC
      rw [yk] at c1
      have zm:=zH (show ∀ f,AP wr f->AP wr f/\f.cell? (J (o+k * 3))=some (.string sr)/\f.cell? w.heap.size=some (.string sh)/\J < f.heap.size/\w.heap.size < f.heap.size from fun f he =>
       ⟨he,(Below.cell he (p:=(J (o+k * 3))) yt).trans c1,(Z.ext he).cells.1,Nat.lt_of_lt_of_le yt (Below.size he),Qa (Z.ext he)⟩)
      have HZ:=zH Q
      have HG:=zH yv
      have HE:=zH hE
      clear yv Q yk zi Z hE
      by_cases yx:z < 0
      ·have xh:=zH (show ∀ q ∈ R.take (k+1),Ho.cmp q.h p.h < 0 by
        rw [xk.out];intro q g
        rcases List.mem_append.1 g with g|g
        ·exact HN.out q g
        ·simp at g;subst g;rw [HZ.out];exact yx)
       go_wp2_with fail
       go_region_held3 (fun f=>AP wr f/\f.cell? (J (o+k * 3))=some (.string sr)/\f.cell? w.heap.size=some (.string sh)/\J < f.heap.size/\w.heap.size < f.heap.size) (first|assumption|exact zm.out _ (AP.drew (AP.refl _))|exact zm.out _ (AP.step (by assumption) (And.left (by assumption)))) (first|(go_at_call 121;go_must (refine (HC.out _).mono ?_);rintro e d ⟨rfl,xl⟩))
       all_goals
        have U:AP wr _:=And.left (by assumption)
        go_wp2_with fail
        go_roundw
        case rel=>exact⟨k+1,by omega,by go_num,xh,HE.out.trans (Below.mono U HE.out.size)⟩
        case measure=>simp [intOf];omega
      have yf:BA.lo R p.h=k:=BA.QG (by rw [HM.out];omega) (fun i q hi g=>HN.out q (List.mem_iff_getElem?.2 ⟨i,by rw [List.getElem?_take_of_lt hi];exact g⟩)) (fun q g=>by rw [HG.out] at g;cases g;rw [HZ.out];exact yx)
      go_wp2_with fail
      go_region_held3 (fun f=>AP wr f/\f.cell? (J (o+k * 3))=some (.string sr)/\f.cell? w.heap.size=some (.string sh)/\J < f.heap.size/\w.heap.size < f.heap.size) (first|assumption|exact zm.out _ (AP.drew (AP.refl _))|exact zm.out _ (AP.step (by assumption) (And.left (by assumption)))) (first|(go_at_call 121;go_must (refine (HC.out _).mono ?_);rintro e d ⟨rfl,xl⟩))
      go_wp2_with fail
      have U:AP wr d:=And.left (by assumption)
      have N:=HE
      have yu:m<=t/\t<=maxLen:=⟨F.out.2.1,F.out.2.2.1⟩
      obtain⟨yu,xa⟩:=yu
      have n1:¬ t=k:=by omega
      have n2:k<=t:=by omega
      have n3:k<=m:=by omega
      have n4:(k:Int)<=(t:Int):=by omega
      have n5:(k:Int)<=(m:Int):=by omega
      clear c1 q0 q1 q2
      have zc:=zH (fun W (hb:Below d.heap.size d W)=>((F.out.ext (N.out.trans (Below.mono U N.out.size))).ext hb).drop (k:=k) (by omega))
     case' neg=>
      have i3:decide (k < m)=false:=decide_eq_false yg
      obtain rfl:k=m:=by omega
      have yf:BA.lo R p.h=k:=BA.QG (by rw [HM.out];exact zN _) (fun i q hi g=>HN.out q (List.mem_iff_getElem?.2 ⟨i,by rw [List.getElem?_take_of_lt hi];exact g⟩)) (fun q g=>by rw [List.getElem?_eq_none (by rw [HM.out];exact zN _)] at g;cases g)
      go_wp2_with fail
      go_quiet (fail)
      go_wp2_with fail
      obtain⟨d,yl⟩:∃ d,wr.drewN nq=d:=⟨_,rfl⟩
      rw [yl]
      have U:AP wr d:=by rw [<-yl];exact Qh _ _ _
      have N:=zH hE
      have xn:k<=t/\t<=maxLen:=⟨F.out.2.1,F.out.2.2.1⟩
      obtain⟨n2,xa⟩:=xn
      have n3:k<=k:=zN _
      have n4:(k:Int)<=(t:Int):=by omega
      have n5:(k:Int)<=(k:Int):=by omega
      clear q0 q1 q2 Z hE yl
      have zz:=zH (show R.drop k=[] from List.drop_of_length_le (by rw [HM.out];exact zN _))
      rcases a2 with _|⟨J,o,sp⟩
      ·have Q:=(F.out.2.2.2.1 rfl)
       obtain rfl:k=0:=by have:=HM.out;rw [Q.1] at this;simpa using this.symm
       obtain rfl:t=0:=Q.2
       clear Q
       have C:Below w2.heap.size w2 d:=N.out.trans (Below.mono U N.out.size)
       have za:=F.out.ext C
       have H:=zx.out.ext C
       obtain⟨p0,p1,p2⟩:=H.cells
       have xb:=Qa H
       have zy:=zH H
       obtain⟨ys,zs,zt,zu,zv,B,yo⟩:=rtx d p ya.out rfl rfl
       have zc:=zH (show ∀ W,Below d.heap.size d W->AT W none 0 0 (R.drop 0) from fun W _=>by rw [zz.out];exact AT.nil _)
       have M:=zH (zo.trans (C.mono zo.size))
       clear za H C
       go_region_law (first|(refine Qk rfl (.tmp 52) (.tmp 54) rfl d.heap.size _ [] rfl (by first|exact zs.out|exact zt.out) _ _ _ [p] rfl (by first|exact zu.out|exact zv.out) (by simp) (by simp <;> omega) ?_;intro v3 yn O P;have G:Below d.heap.size d yn:=(by first|exact B.out.2.1.grown P (by simp <;> omega) (fun j l=>by cases l;first|exact zN _|exact Nat.le_succ _)|exact B.out.2.2.grown P (by simp <;> omega) (fun j l=>by cases l;first|exact zN _|exact Nat.le_succ _));have K:=G.size)|(refine Qk rfl (.tmp 55) (.tmp 58) rfl d.heap.size _ _ rfl O _ _ _ (R.drop 0) rfl (zc.out _ G) (by simp <;> omega) K ?_;intro v4 zj zf zh;have zg:Below d.heap.size d zj:=G.grown zh K (fun j l=>(O.lt j l).1)))
       all_goals
        have zw:=zH (show AR w.heap.size zj v4 (R.take (BA.lo R p.h) ++ p :: R.drop (BA.lo R p.h)) from by rw [yf];have:=zf.mono (b':=w.heap.size) M.out.size;simpa using this)
        have zr:=zH (M.out.trans (zg.mono M.out.size))
        clear O zf P zh G zg K
        go_wp2_with fail
        go_ret2
        exact zn.out _ _ _ _ _ HR.out rfl (.inr zw.out) zr.out
      have zc:=zH (show ∀ (W:World) (x:Addr) (c':Nat),c'<=maxLen->AT W (some x) 0 c' (R.drop k) from fun W x c' hc=>by rw [zz.out];exact AT.zero _ _ _ hc)
      clear zz
      by_cases xm:t=k
      case' pos=>subst t
      case' neg=>have n1:=xm
     all_goals
      have C:Below w2.heap.size w2 d:=N.out.trans (Below.mono U N.out.size)
      have za:=F.out.ext C
      have H:=zx.out.ext C
      obtain⟨p0,p1,p2⟩:=H.cells
      have xb:=Qa H
      have zy:=zH H
      obtain⟨ys,zs,zt,zu,zv,B,yo⟩:=rtx d p ya.out rfl rfl
      have xe:=zH ((za.ext B.out.1).take (k:=k) (by omega))
      have xf:=zH ((za.ext B.out.2.1).take (k:=k) (by omega))
      have xg:=zH ((za.ext B.out.2.2).take (k:=k) (by omega))
      have M:=zH (zo.trans (C.mono zo.size))
      clear za H C
      go_region_law (first|(refine Qk rfl (.tmp 48) (.tmp 51) rfl d.heap.size _ [] rfl (by first|exact ys.out|exact zs.out|exact zt.out) _ _ _ (R.take k) rfl (by first|exact xe.out|exact xf.out|exact xg.out) (by simp;omega) (by simp <;> omega) ?_;intro v1 yy ze Y;have X:Below d.heap.size d yy:=(by first|exact B.out.1.grown Y (by simp <;> omega) (fun j l=>by cases l;first|exact zN _|exact Nat.le_succ _)|exact B.out.2.1.grown Y (by simp <;> omega) (fun j l=>by cases l;first|exact zN _|exact Nat.le_succ _)|exact B.out.2.2.grown Y (by simp <;> omega) (fun j l=>by cases l;first|exact zN _|exact Nat.le_succ _));have zl:=X.size;obtain⟨x0,x1,x2⟩:=(zy.out.ext X).cells;have xs:=Qa (zy.out.ext X))|(refine Qk rfl (.tmp 52) (.tmp 54) rfl d.heap.size _ _ rfl (by first|exact ze|exact ze.alloc _) _ _ _ [p] rfl (by first|exact yo.out yy|exact zu.out.grown Y (fun y hy=>by cases hy;exact fun e=>Nat.succ_ne_self _ (Option.some.inj e).symm)|exact zv.out.grown Y (fun y hy=>by cases hy;exact fun e=>Nat.succ_ne_self _ (Option.some.inj e))) (by simp;omega) (by first|exact zl|(simp;omega)) ?_;intro v3 yn O P;have G:Below d.heap.size d yn:=(by first|exact X.grown P zl (fun j l=>(ze.lt j l).1)|exact (X.alloc zl (.cells #[.string sh,.bool p.s,p.x] 34)).grown P (by simp <;> omega) (fun j l=>(ze.lt j l).1));have K:=G.size)|(refine Qk rfl (.tmp 55) (.tmp 58) rfl d.heap.size _ _ rfl O _ _ _ (R.drop k) rfl (by first|exact zc.out _ G|exact zc.out _ _ _ (by omega)) (by simp;omega) K ?_;intro v4 zj zf zh;have zg:Below d.heap.size d zj:=G.grown zh K (fun j l=>(O.lt j l).1)))
      all_goals
       have zw:=zH (show AR w.heap.size zj v4 (R.take (BA.lo R p.h) ++ p :: R.drop (BA.lo R p.h)) from by rw [yf];have:=zf.mono (b':=w.heap.size) M.out.size;simpa using this)
       have zr:=zH (M.out.trans (zg.mono M.out.size))
       clear ze O zf Y P zh X G zg zl K
       go_wp2_with fail
       go_ret2
       exact zn.out _ _ _ _ _ HR.out rfl (.inr zw.out) zr.out
end
end Go.Proofs.YtmanejniepghlaaGreatDoor
