/- Any sequence of operations on a store, with faults and power failures, has the results of the reference and leaves the same bytes on the disk, whatever bytes the disk contained at the beginning. No condition beyond the statement's own; the card reads the two listed tables of unicode/utf8. -/
import Derived.Test.YtmanejniepghlaaGreatDoorRun51
import Derived.Test.YtmanejniepghlaaGreatDoorRun19
import Derived.Test.YtmanejniepghlaaGreatDoorCards
import Derived.Test.YtmanejniepghlaaGreatDoorTie
import Derived.ProofKit
import Derived.OpenShut
import Derived.ShutString
import Derived.ChangeOld
import Derived.PinnedBridge
import Derived.Lay
import Derived.LaidOnce
import Derived.SevenTiedAt
import Derived.Stop.Joined
namespace Go.Proofs.YtmanejniepghlaaGreatDoor
open _root_.Go.Proofs.Tryz
open Go.ChangeShapes Go.WideShapes Go.ChangeAt Go.RowKit Go.Lib
open Go.ChangeMaps (open_string shut_string)
theorem AM.WU {w:World} {x:Addr} {n c:Nat} {zs:List Int} (hl:n<=c) (hm:c<=maxLen) (hz:zs.length=c) (hcell:∀ i,i < zs.length->w.cell? (x.add i)=some (.int .u8 (zs.getD i 0)))
 (hw:∀ z ∈ zs,(Lit.int .u8 z).wf=true):AM w (some x) n c ((zs.take n).map fun z=>UInt8.ofNat z.toNat):=by
 refine⟨by simp;omega,hl,hm,(fun h=>by cases h),fun y hy i hi=>?_⟩
 cases hy
 simp at hi
 have hc:=hcell i (by omega)
 obtain⟨b,o,sp⟩:=x
 have hsp:sp=none:=by
  have:=World.cell?_spot (hcell 0 (by omega))
  simpa [Addr.add] using this
 subst hsp
 have hadd:(⟨b,o,none⟩:Addr).add i=⟨b,o+i,none⟩:=by unfold Addr.add;split <;> simp_all
 rw [hadd] at hc
 refine⟨rfl,World.block_lt_of_cell? w ⟨b,o+i,none⟩ hc,?_⟩
 rw [hc]
 have hiz:i < zs.length:=by omega
 have hwi:=hw zs[i] (List.getElem_mem hiz)
 simp [Lit.wf,IntKind.min,IntKind.max,IntKind.signed,IntKind.bits] at hwi
 simp only [List.getD_eq_getElem?_getD,List.getElem?_eq_getElem hiz,Option.getD_some,List.getElem_map,List.getElem_take]
 congr 2
 have:(UInt8.ofNat zs[i].toNat).toNat=zs[i].toNat:=by simp;omega
 rw [this];omega
theorem RowReg5.own:ownKnob prog.godebug=none:=by kernel_rfl
theorem RowReg5.QD:laidOutB prog=true:=by kernel_rfl
def RowReg5.laid:List (String × DataW Unit) := [("unicode/utf8.acceptRanges",Rows.laid_unicode_utf8_acceptRanges), ("unicode/utf8.first",Rows.laid_unicode_utf8_first)]
set_option maxRecDepth 100000 in
theorem regionMatchesSpec_lifted (os:Os) (started:os.Started) (H:Type) (enc:TypeId × Value->H) :
 ReturnsInHanded {} Tryz.checked os 7 .any (fun w args=>(Rows.regionMatchesSpecSpec.pre enc prog Tryz.f7 [] false w args/\laidMetH prog RowReg5.laid w)/\sizedMet enc prog Tryz.f7 (OpenSpec.ofChange Rows.regionMatchesSpecSpec) false w args)
  (Rows.regionMatchesSpecSpec.post enc prog Tryz.f7 false true false false):=by
 refine returnsInHanded_of_change_and (C:=Tryz.checked) (X:=fun w _=>laidMetH prog RowReg5.laid w) (fun _ _ _ hh h=>h.of_heap hh) RowReg5.own started (by kernel_rfl) func7
  (ChangeSpec.witness_shaped (enc:=enc) (C:=Tryz.checked) (os:=os) (X:=fun w _=>laidMetH prog RowReg5.laid w) false (World.laidAll prog os RowReg5.laid) #[.int .i64 0,.slice none 0 0,.slice none 0 0] 8 (World.laidAll_os _ _ _)
   (World.shaped_of_ZipB (by kernel_rfl) (by kernel_rfl)) (by kernel_rfl) (by kernel_rfl) (by kernel_rfl)
   (by rw [MakeChecks.laidMetH_plain _ _ _ (by kernel_rfl)];exact laidMet_laidAll _ (by kernel_rfl) (by kernel_rfl))) ?_
 intro W base args ds gs before hval0 hW _ _ hL _
 have hval:∀ (j:Nat) t v,Tryz.f7.params[j]?=some t->args[j]?=some v->Value.okWide prog W .any base t v:=hval0
 have hW':=hW
 obtain⟨p,q,hA0,hV,rfl,hfz,hnd⟩:=hW
 have hA:DataW.TrodAll enc prog W 0 (fun _=>true) true Tryz.f7.params.toList args.toList ds p:=hA0
 rw [params7] at hA hval
 obtain⟨v0,vs0,d0,ds0,p0,q0,hargs,rfl,rfl,h0,r0⟩:=trodAll_cons hA
 obtain⟨v1,vs1,d1,ds1,p1,q1,rfl,rfl,rfl,h1,r1⟩:=trodAll_cons r0
 obtain⟨v2,vs2,d2,ds2,p2,q2,rfl,rfl,rfl,h2,r2⟩:=trodAll_cons r1
 obtain⟨rfl,rfl,rfl⟩:=trodAll_nil r2
 obtain rfl:args=#[v0,v1,v2]:=by cases args;simp_all
 obtain⟨rfl,rfl⟩:=trodVars_none hV
 obtain⟨a0,rfl,rfl,rfl,w0⟩:=open_int underlying3 (hval 0 3 v0 rfl rfl) h0
 obtain⟨a1,len1,cap1,rfl⟩:=okWide_slice underlying70 (hval 1 70 v1 rfl rfl)
 have k1:=h1
 have lt1:∀ x ∈ p1,x.block < W.heap.size:=by obtain⟨m,hm⟩:=k1;exact DataW.trod_lt m _ _ _ hm
 obtain⟨z1,w1⟩:∃ l,AM W a1 len1 cap1 l:=by
  obtain⟨fuel,hf⟩:=h1
  rcases open_ints underlying70 underlying5 (by kernel_rfl) hf with⟨hcs,_⟩|⟨x,l,c,zs,hcs,_,hl,hm,hz,_,hcell,hwz⟩
  ·simp [Value.cells] at hcs
   obtain⟨rfl,rfl,rfl⟩:=hcs
   exact⟨[],rfl,Nat.le_refl _,by unfold maxLen;omega,fun _=>⟨rfl,rfl⟩,fun x hx=>by cases hx⟩
  ·simp [Value.cells] at hcs
   obtain⟨rfl,rfl,rfl⟩:=hcs
   exact⟨_,AM.WU hl hm (by simpa using hz) hcell hwz⟩
 obtain⟨a2,BD,cap2,rfl⟩:=okWide_slice underlying59 (hval 2 59 v2 rfl rfl)
 have k2:=h2
 have lt2:∀ x ∈ p2,x.block < W.heap.size:=by obtain⟨m,hm⟩:=k2;exact DataW.trod_lt m _ _ _ hm
 obtain⟨z2,w2⟩:∃ l,EP W a2 BD cap2 l:=by
  obtain⟨fuel,hf⟩:=h2
  obtain⟨a,n,c,l,hv,hl⟩:=Rr (by simpa [Value.cells] using hf)
  cases hv
  exact⟨l,hl⟩
 clear hA0 hval0
 refine (XZ a0 a1 len1 cap1 z1 a2 BD cap2 z2 W w0 w1 w2).mono fun e W' ⟨he,bel⟩=>?_
 subst he
 exact⟨_,rfl,_,_,_,[],_,[],hW',trodAll_mk1 (shut_bool underlying4 _),(trodAll_cons_mk (shut_int underlying3 w0) (trodAll_cons_mk (Below.trod RowReg5.QD (by kernel_rfl) (of_decide_eq_true (by kernel_rfl)) k1 bel lt1) (trodAll_cons_mk (Below.trod RowReg5.QD (by kernel_rfl) (of_decide_eq_true (by kernel_rfl)) k2 bel lt2) trodAll_mk0))),rfl,bel.frame _,fun h=>by cases h⟩
set_option maxHeartbeats 8000000 in
theorem regionMatchesSpec_holds:Rows.RegionMatchesSpecSaid :=
 OpenClaim.holds_of_wide 7 Tryz.f7 rfl rfl rfl rfl rfl rfl rfl ⟨rfl,rfl,rfl,rfl,rfl⟩ rfl rfl rfl rfl rfl (by kernel_rfl) func7 (by unfold joinedFacts;simp only [Bool.and_eq_true];and_intros <;> as_aux_lemma=>kernel_rfl)
  (of_decide_eq_true (by as_aux_lemma=>kernel_rfl)) (by as_aux_lemma=>unfold Func.isWrapper;first|(rw [if_pos (by decide +kernel)];kernel_rfl)|(rw [if_neg (by decide +kernel)];exact⟨rfl,rfl⟩))
  (fun os started H enc _=>regionMatchesSpec_lifted os started H enc)
theorem regionMatchesSpec_card_holds:Rows.RegionMatchesSpecCardSaid :=
 Claim7.holds_tied_plain_at .later [] [.data,.pinned] true (true, "856beb09aac1f7e29f29f9816a34dd826c11c23709595c92d8b82049d2358110") false
  regionMatchesSpec_holds (fun _ h=>by cases h) (by kernel_rfl) (fun _ h=>by cases h) regionMatchesSpec_row_tie rfl ⟨rfl,rfl⟩ (by kernel_rfl) rfl
  (fun f fn hf hfn=>by
   obtain rfl:f=7:=Option.some.inj ((show prog.funcNamed "hstsstore/hstsstorelaw33.RegionMatchesSpec"=some 7 by kernel_rfl).symm.trans hf) |>.symm
   obtain rfl:fn=Tryz.f7:=(Option.some.inj (func7.symm.trans hfn)).symm
   exact⟨by kernel_rfl,fun j t ht=>by
    rw [params7] at ht
    have hm:t ∈ [3,70,59]:=by simpa using Array.mem_of_getElem? ht
    have hall:([3,70,59].all fun u=>!prog.wantsStandIn u)=true:=by kernel_rfl
    exact (show prog.wantsStandIn t=false by simpa using List.all_eq_true.1 hall t hm)⟩)
  (by kernel_rfl)
#print axioms regionMatchesSpec_card_holds
end Go.Proofs.YtmanejniepghlaaGreatDoor
