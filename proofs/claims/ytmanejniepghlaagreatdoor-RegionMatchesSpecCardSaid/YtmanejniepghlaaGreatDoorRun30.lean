import Derived.Test.YtmanejniepghlaaGreatDoorRun26
import Derived.Shelf.SlIterI.Nil
import Derived.Shelf.SlIterI.Sorted
import Derived.Shelf.SortM.Plain
import Derived.Shelf.SortM.SortNone
namespace Go.Proofs.YtmanejniepghlaaGreatDoor
open _root_.Go.Proofs.Tryz
open Go.RowKit Go.Maps Go.Sort Go.Shelf
set_option maxRecDepth 100000
variable {w:World} {m:Nat}
def IA:Go.Shelf.Ren:=⟨fun|7=>100|10=>150|n=>n,fun|23=>85|26=>3|3=>70|28=>146|0=>0|27=>145|33=>31|4=>4|n=>n,fun|n=>n⟩
theorem OC:SlLaysZI.n7 prog IA:={
 mixed:=by kernel_rfl
 f7:=⟨Tryz.f100.name,by kernel_rfl,func100.trans (congrArg some (by kernel_rfl))⟩
 f10:=⟨Tryz.f150.name,by kernel_rfl,func150.trans (congrArg some (by kernel_rfl))⟩
 t0:=underlying0
 a0:=isAgg0
 z0:=sizeOf0
 v0:=zeroValue0
 t4:=underlying4
 a4:=isAgg4
 z4:=sizeOf4
 v4:=zeroValue4
 t23:=underlying85
 a23:=isAgg85
 z23:=sizeOf85
 v23:=zeroValue85
 t26:=underlying3
 a26:=isAgg3
 z26:=sizeOf3
 v26:=zeroValue3
 t27:=underlying145
 a27:=isAgg145
 z27:=sizeOf145
 v27:=zeroValue145
 t28:=underlying146
 a28:=isAgg146
 z28:=sizeOf146
 v28:=zeroValue146
 t33:=underlying31
 a33:=isAgg31
 z33:=sizeOf31
 v33:=zeroValue31 }
def FQ:Go.Shelf.Ren:=⟨fun|6=>99|8=>148|9=>149|11=>176|13=>178|12=>177|23=>205|24=>206|14=>196|15=>197|16=>198|17=>199|18=>200|19=>201|20=>202|21=>203|22=>204|25=>222|26=>223|27=>224|28=>225|29=>226|30=>209|31=>242|n=>n,fun|26=>3|28=>146|24=>81|0=>0|3=>3|37=>187|48=>91|50=>52|4=>4|40=>224|39=>223|45=>195|5=>5|9=>9|51=>244|55=>247|57=>257|58=>258|33=>31|n=>n,fun|n=>n⟩
theorem PI:SlLaysZI.n6 prog FQ:={
 mixed:=by kernel_rfl
 f6:=⟨Tryz.f99.name,by kernel_rfl,func99.trans (congrArg some (by kernel_rfl))⟩
 f8:=⟨Tryz.f148.name,by kernel_rfl,func148.trans (congrArg some (by kernel_rfl))⟩
 f11:=⟨Tryz.f176.name,by kernel_rfl,func176.trans (congrArg some (by kernel_rfl))⟩
 t0:=underlying0
 a0:=isAgg0
 z0:=sizeOf0
 v0:=zeroValue0
 t24:=underlying81
 a24:=isAgg81
 z24:=sizeOf81
 v24:=zeroValue81
 t26:=underlying3
 a26:=isAgg3
 z26:=sizeOf3
 v26:=zeroValue3
 t28:=underlying146
 a28:=isAgg146
 z28:=sizeOf146
 v28:=zeroValue146
 i26:=by kernel_rfl }
def MR:Go.Shelf.Ren:=⟨fun|5=>149|8=>178|7=>177|19=>205|20=>206|10=>196|11=>197|12=>198|13=>199|14=>200|15=>201|16=>202|17=>203|18=>204|30=>222|31=>223|32=>224|33=>225|34=>226|35=>209|40=>242|n=>n,fun|23=>81|25=>3|3=>3|32=>187|22=>81|0=>0|44=>91|46=>52|4=>4|36=>224|35=>223|41=>195|5=>5|9=>9|53=>244|57=>247|63=>257|64=>258|n=>n,fun|n=>n⟩
theorem OD:SlLaysM.n5 prog MR:={
 mixed:=by kernel_rfl
 f5:=⟨Tryz.f149.name,by kernel_rfl,func149.trans (congrArg some (by kernel_rfl))⟩
 f7:=⟨Tryz.f177.name,by kernel_rfl,func177.trans (congrArg some (by kernel_rfl))⟩
 f8:=func178.trans (congrArg some (by kernel_rfl))
 f10:=⟨Tryz.f196.name,by kernel_rfl,func196.trans (congrArg some (by kernel_rfl))⟩
 f11:=⟨Tryz.f197.name,by kernel_rfl,func197.trans (congrArg some (by kernel_rfl))⟩
 f12:=⟨Tryz.f198.name,by kernel_rfl,func198.trans (congrArg some (by kernel_rfl))⟩
 f13:=⟨Tryz.f199.name,by kernel_rfl,func199.trans (congrArg some (by kernel_rfl))⟩
 f14:=⟨Tryz.f200.name,by kernel_rfl,func200.trans (congrArg some (by kernel_rfl))⟩
 f15:=⟨Tryz.f201.name,by kernel_rfl,func201.trans (congrArg some (by kernel_rfl))⟩
 f16:=⟨Tryz.f202.name,by kernel_rfl,func202.trans (congrArg some (by kernel_rfl))⟩
 f17:=⟨Tryz.f203.name,by kernel_rfl,func203.trans (congrArg some (by kernel_rfl))⟩
 f18:=⟨Tryz.f204.name,by kernel_rfl,func204.trans (congrArg some (by kernel_rfl))⟩
 f19:=func205.trans (congrArg some (by kernel_rfl))
 f20:=func206.trans (congrArg some (by kernel_rfl))
 f30:=⟨Tryz.f222.name,by kernel_rfl,func222.trans (congrArg some (by kernel_rfl))⟩
 f31:=func223.trans (congrArg some (by kernel_rfl))
 f32:=func224.trans (congrArg some (by kernel_rfl))
 f33:=⟨Tryz.f225.name,by kernel_rfl,func225.trans (congrArg some (by kernel_rfl))⟩
 f34:=⟨Tryz.f226.name,by kernel_rfl,func226.trans (congrArg some (by kernel_rfl))⟩
 f35:=⟨Tryz.f209.name,by kernel_rfl,func209.trans (congrArg some (by kernel_rfl))⟩
 f40:=⟨Tryz.f242.name,by kernel_rfl,func242.trans (congrArg some (by kernel_rfl))⟩
 t0:=underlying0
 a0:=isAgg0
 z0:=sizeOf0
 v0:=zeroValue0
 t3:=underlying3
 a3:=isAgg3
 z3:=sizeOf3
 v3:=zeroValue3
 t4:=underlying4
 a4:=isAgg4
 z4:=sizeOf4
 v4:=zeroValue4
 t5:=underlying5
 a5:=isAgg5
 z5:=sizeOf5
 v5:=zeroValue5
 t9:=underlying9
 a9:=isAgg9
 z9:=sizeOf9
 v9:=zeroValue9
 t22:=underlying81
 a22:=isAgg81
 z22:=sizeOf81
 v22:=zeroValue81
 t23:=underlying81
 a23:=isAgg81
 z23:=sizeOf81
 v23:=zeroValue81
 t25:=underlying3
 a25:=isAgg3
 z25:=sizeOf3
 v25:=zeroValue3
 t32:=underlying187
 a32:=isAgg187
 z32:=sizeOf187
 v32:=zeroValue187
 t35:=underlying223
 a35:=isAgg223
 z35:=sizeOf223
 v35:=zeroValue223
 t36:=underlying224
 a36:=isAgg224
 z36:=sizeOf224
 v36:=zeroValue224
 t41:=underlying195
 a41:=isAgg195
 z41:=sizeOf195
 v41:=zeroValue195
 t44:=underlying91
 a44:=isAgg91
 z44:=sizeOf91
 v44:=zeroValue91
 t46:=underlying52
 a46:=isAgg52
 z46:=sizeOf52
 v46:=zeroValue52
 t53:=underlying244
 a53:=isAgg244
 z53:=sizeOf244
 v53:=zeroValue244
 t57:=underlying247
 a57:=isAgg247
 z57:=sizeOf247
 v57:=zeroValue247
 t63:=underlying257
 a63:=isAgg257
 z63:=sizeOf257
 v63:=zeroValue257
 t64:=underlying258
 a64:=isAgg258
 z64:=sizeOf258
 v64:=zeroValue258 }
theorem Rp (m:Nat):AnyZI.SortsIn prog FQ Fence.wide m :=
 ⟨fun b off cap d W c a hsz=>callsIn_wide.2 (AnyM.slices_Sort_int OD b off cap d W c a hsz),
  fun p cap W=>callsIn_wide.2 (AnyM.slices_Sort_int_none OD p cap W)⟩
def RH (v:Value):Option (DataW Value × List MemPlace):=some (.held v,[])
theorem Od {l:List (Lit × DataW Value)}:(l.foldr DataW.insert []).Perm l:=Go.WideShapes.sorted_perm l
theorem BU.keys {R:Nat->Prop} {ca:List (Option (List UInt8))} (h:BU R w m ca) (hn:ca.length<=4096) :
 ∃ C:DataW Value,w.ownsMap prog 3 RH m 4096 C/\Maps.size C<=4096/\∀ g:List Int,g.Perm (intKeys C)->g.mergeSort (fun x y=>decide (x<=y))=Dd.dirty ⟨[],ca,[],0,false⟩:=by
 obtain⟨d,H,F,t⟩:=h
 have hsz:d.size<=4096:=by rw [t.size];exact Nat.le_trans List.countP_le_length hn
 have J:∀ x ∈ d.toList,∃ i:Nat,x.key=.int .i64 (i:Int)/\(∃ y,ca[i]?=some (some y))/\WideElems.rd prog 3 RH x=some (.int .i64 (i:Int),.held x.val):=by
  intro x f
  obtain⟨i,y,a,c,O,Q,-⟩:=t.mem x f
  have M:=(List.getElem?_eq_some_iff.1 O).1
  refine⟨i,Q,⟨y,O⟩,?_⟩
  have hk:=Maps.keyOf_int_mk (P:=prog) (k:=3) (q:=.i64) underlying3 (a:=(i:Int)) (by simp [Lit.wf,IntKind.min,IntKind.max,IntKind.signed,IntKind.bits];omega)
  unfold WideElems.rd
  rw [Q,hk];rfl
 refine⟨_,⟨d,H,F,⟨by unfold maxLen;omega,t.stamped,fun x f=>?_⟩,hsz,rfl⟩,?_,?_⟩
 ·obtain⟨i,-,-,n⟩:=J x f;exact⟨_,n⟩
 ·simp only [Maps.size,length_sorted];simpa using hsz
 ·intro g hp
  have Y:g.Perm (d.toList.map fun x=>Go.intOf (WideElems.rg prog 3 RH x).1):=by
   refine hp.trans ?_
   unfold intKeys
   rw [show (d.toList.map fun x=>Go.intOf (WideElems.rg prog 3 RH x).1)=(d.toList.map (WideElems.rg prog 3 RH)).map fun p=>Go.intOf p.1 by rw [List.map_map];rfl]
   exact (Od).map _
  have u:∀ x ∈ d.toList,∃ i:Nat,Go.intOf (WideElems.rg prog 3 RH x).1=(i:Int)/\x.key=.int .i64 (i:Int)/\∃ y,ca[i]?=some (some y):=by
   intro x f
   obtain⟨i,A,n,h3⟩:=J x f
   exact⟨i,by rw [WideElems.rg_of h3];rfl,A,n⟩
  have W:(d.toList.map fun x=>Go.intOf (WideElems.rg prog 3 RH x).1).Nodup:=by
   have h5:=((MapKept.stamped_iff d H).1 t.stamped).2.2
   refine List.pairwise_map.2 (h5.imp_of_mem fun {a b} ha F X e=>X ?_)
   obtain⟨i,r,l,-⟩:=u a ha
   obtain⟨j,Z,e4,-⟩:=u b F
   rw [r,Z] at e
   rw [l,e4,e]
  have I:(Dd.dirty ⟨[],ca,[],0,false⟩).Pairwise (fun a b=>a < b):=by
   unfold Dd.dirty
   refine List.pairwise_map.2 ?_
   exact (List.Pairwise.filter _ List.pairwise_lt_range).imp (fun {a b} h=>by omega)
  have T:g.Perm (Dd.dirty ⟨[],ca,[],0,false⟩):=by
   refine Y.trans ((List.perm_ext_iff_of_nodup W (I.imp (fun {a b} h=>by omega))).2 fun z=>?_)
   constructor
   ·intro B
    obtain⟨x,f,rfl⟩:=List.mem_map.1 B
    obtain⟨i,r,-,y,N⟩:=u x f
    rw [r]
    unfold Dd.dirty
    refine List.mem_map.2 ⟨i,List.mem_filter.2 ⟨List.mem_range.2 (List.getElem?_eq_some_iff.1 N).1,?_⟩,rfl⟩
    show (ca[i]?.getD none).isSome=true
    rw [N];rfl
   ·intro B
    unfold Dd.dirty at B
    obtain⟨i,M,rfl⟩:=List.mem_map.1 B
    have s:=(List.mem_filter.1 M).2
    change (ca[i]?.getD none).isSome=true at s
    cases G:ca[i]? with
   |none=>rw [G] at s;simp at s
   |some o =>
     cases o with
    |none=>rw [G] at s;simp at s
    |some y =>
      obtain⟨e,K,U⟩:=t.all i y G
      obtain⟨j,r,l,-⟩:=u e K
      rw [U] at l
      injection l with _ l
      exact List.mem_map.2 ⟨e,K,by rw [r,<-l]⟩
  have tr:∀ a b c:Int,decide (a<=b)=true->decide (b<=c)=true->decide (a<=c)=true:=fun a b c A n=>by simp only [decide_eq_true_eq] at *;omega
  have to:∀ a b:Int,(decide (a<=b) || decide (b<=a))=true:=fun a b=>by simp only [Bool.or_eq_true,decide_eq_true_eq];omega
  exact List.Perm.eq_of_pairwise (le:=fun a b=>decide (a<=b)=true) (fun a b _ _ A n=>by simp only [decide_eq_true_eq] at A n;omega) (List.pairwise_mergeSort tr to g) (I.imp (fun {a b} h=>by simp only [decide_eq_true_eq];omega)) ((List.mergeSort_perm g _).trans T)
set_option maxHeartbeats 1000000 in
theorem Ey {F:Nat->Prop} {g s:Nat} {H:Option Addr} {fn I:Nat} {d:Dd.Dk} (h:PD F w g s m H fn I d) :
 Calls prog 41 #[.pointer g] w fun e a=>∃ v,e=.returned v/\AS w.heap.size a v (Dd.dirty d)/\Below w.heap.size w a:=by
 have P:=h.cells.2.1
 have A:d.ca.length<=4096:=by rw [h.ok.len];exact h.ok.max
 obtain⟨f,r,hsz,l⟩:=h.map.keys A
 have z:=h.map.lt
 have u:=zH l
 clear l
 refine (callsIn_wide (n:=6)).1 ?_
 have j:SeqGives Fence.wide 2 prog 150 #[.pointer w.heap.size] encZ (fun b=>b.Perm (intKeys f)) (Maps.size f) (w.alloc (.cells #[.map (some m)] 85)) :=
  AnyZI.keys_gives (ρ:=IA) { OC with } Fence.wide _ trivial rfl (by omega) w.heap.size m 4096 f _ (by simp) (by rw [World.cell?_alloc_at _ _ _ _ rfl];rfl) (by
   obtain⟨G,p,i,B,hs,J⟩:=r
   exact⟨G,p,(Below.heap_alloc _ _ m z).trans i,B,hs,J⟩)
 have C:∀ c W,CallsIn Fence.wide 5 prog 100 #[.map c] W fun e a=>e=.returned (.func (.func 150) #[] #[.pointer W.heap.size])/\a=W.alloc (.cells #[.map c] 85):=fun c W=>AnyZI.keys_in OC Fence.wide 5 trivial rfl c W
 have o:=AnyZI.sorted_in PI Fence.wide 5 trivial trivial trivial trivial rfl (by omega) (Rp _) (enters_of func149 (by kernel_rfl) rfl) 150 #[.pointer w.heap.size] trivial (enters_of func150 (by kernel_rfl) rfl) _ _ (by unfold maxLen;omega) (by omega) _ j
 change CallsIn _ _ prog 99 _ _ _ at o
 have N:Fence.wide.fn 100:=trivial
 have O:Fence.wide.fn 99:=trivial
 clear j
 refine callsIn_of_wp func41 rfl trivial ?_ rfl
 simp only [ntmps41,List.size_toArray,List.length_cons,List.length_nil,Nat.reduceAdd,Nat.reduceSub,Array.replicate_succ,Array.replicate_zero,List.push_toArray,List.append_toArray,List.nil_append,List.cons_append]
 gi_wp2_with (first
 |(gi_at_call 100;refine (C _ _).mono ?_;rintro e a ⟨rfl,rfl⟩)
 |(gi_at_call 99;refine o.mono ?_;rintro e a ⟨v,b,rfl,K,t,M,i⟩))
 go_ret
 have hd:=u.out b K
 have k:b.mergeSort (fun x y=>decide (x<=y))=Dd.dirty d:=hd
 have q:b.length=(Dd.dirty d).length:=by rw [<-k,List.length_mergeSort]
 refine⟨v,rfl,?_,((Below.refl _ w).alloc (zN _) _).trans (i.mono (by simp))⟩
 unfold AS
 have:=ownsRow_base_a (base':=w.heap.size) t (by simp)
 rw [k,q] at this
 exact this
end Go.Proofs.YtmanejniepghlaaGreatDoor
