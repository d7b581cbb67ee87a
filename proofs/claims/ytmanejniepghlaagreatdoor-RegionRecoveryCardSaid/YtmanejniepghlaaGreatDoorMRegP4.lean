/- After a power failure during any operation, with any part of the unsynchronized sectors kept, Open finds the state after all updates and compactions that returned OK, or after the one in progress as well, unless the reference finds another state in the same bytes. No condition beyond the statement's own; the card reads the two listed tables of unicode/utf8. -/
import Derived.Test.YtmanejniepghlaaGreatDoorRun51
import Derived.Test.YtmanejniepghlaaGreatDoorRun21
import Derived.Test.YtmanejniepghlaaGreatDoorCards
import Derived.Test.YtmanejniepghlaaGreatDoorTie
import Derived.ProofKit
import Derived.OpenShut
import Derived.ShutString
import Derived.ChangeOld
import Derived.PinnedBridge
import Derived.Lay
import Derived.LaidOnce
import Derived.SevenTiedAt
import Derived.Stop.Joined
namespace Go.Proofs.YtmanejniepghlaaGreatDoor
open Go.ChangeShapes Go.WideShapes Go.ChangeAt Go.RowKit Go.Lib
open Go.ChangeMaps (open_string shut_string)
theorem RowReg4.own:ownKnob Tryz.prog.godebug=none:=by kernel_rfl
theorem RowReg4.laidOut:laidOutB Tryz.prog=true:=by kernel_rfl
def RowReg4.laid:List (String × DataW Unit) := [("unicode/utf8.acceptRanges",Rows.laid_unicode_utf8_acceptRanges), ("unicode/utf8.first",Rows.laid_unicode_utf8_first)]
set_option maxRecDepth 100000 in
theorem regionRecovery_lifted (os:Os) (started:os.Started) (H:Type) (enc:TypeId × Value->H) :
 ReturnsInHanded {} Tryz.checked os 6 .any (fun w args=>(Rows.regionRecoverySpec.pre enc Tryz.prog Tryz.f6 [] false w args/\laidMetH Tryz.prog RowReg4.laid w)/\sizedMet enc Tryz.prog Tryz.f6 (OpenSpec.ofChange Rows.regionRecoverySpec) false w args)
  (Rows.regionRecoverySpec.post enc Tryz.prog Tryz.f6 false true false false):=by
 refine returnsInHanded_of_change_and (C:=Tryz.checked) (X:=fun w _=>laidMetH Tryz.prog RowReg4.laid w) (fun _ _ _ hh h=>h.of_heap hh) RowReg4.own started (by kernel_rfl) Tryz.func6
  (ChangeSpec.witness_shaped (enc:=enc) (C:=Tryz.checked) (os:=os) (X:=fun w _=>laidMetH Tryz.prog RowReg4.laid w) false (World.laidAll Tryz.prog os RowReg4.laid) #[.int .i64 0,.slice none 0 0] 8 (World.laidAll_os _ _ _)
   (World.shaped_of_ZipB (by kernel_rfl) (by kernel_rfl)) (by kernel_rfl) (by kernel_rfl) (by kernel_rfl)
   (by rw [MakeChecks.laidMetH_plain _ _ _ (by kernel_rfl)];exact laidMet_laidAll _ (by kernel_rfl) (by kernel_rfl))) ?_
 intro W base args ds gs before hval0 hW _ _ hL _
 have hval:∀ (j:Nat) t v,Tryz.f6.params[j]?=some t->args[j]?=some v->Value.okWide Tryz.prog W .any base t v:=hval0
 have hW':=hW
 obtain⟨p,q,hA0,hV,rfl,hfz,hnd⟩:=hW
 have hA:DataW.TrodAll enc Tryz.prog W 0 (fun _=>true) true Tryz.f6.params.toList args.toList ds p:=hA0
 rw [Tryz.params6] at hA hval
 obtain⟨v0,vs0,d0,ds0,p0,q0,hargs,rfl,rfl,h0,r0⟩:=trodAll_cons hA
 obtain⟨v1,vs1,d1,ds1,p1,q1,rfl,rfl,rfl,h1,r1⟩:=trodAll_cons r0
 obtain⟨rfl,rfl,rfl⟩:=trodAll_nil r1
 obtain rfl:args=#[v0,v1]:=by cases args;simp_all
 obtain⟨rfl,rfl⟩:=trodVars_none hV
 obtain⟨a0,rfl,rfl,rfl,w0⟩:=open_int Tryz.underlying3 (hval 0 3 v0 rfl rfl) h0
 obtain⟨a1,len1,cap1,rfl⟩:=okWide_slice Tryz.underlying59 (hval 1 59 v1 rfl rfl)
 have k1:=h1
 have lt1:∀ x ∈ p1,x.block < W.heap.size:=by obtain⟨m,hm⟩:=k1;exact DataW.trod_lt m _ _ _ hm
 obtain⟨z1,w1⟩:∃ l,SlO33 W a1 len1 cap1 l:=by
  obtain⟨fuel,hf⟩:=h1
  obtain⟨a,n,c,l,hv,hl⟩:=zm_a (by simpa [Value.cells] using hf)
  cases hv
  exact⟨l,hl⟩
 clear hA0 hval0
 refine (rec33 a0 a1 len1 cap1 z1 W w0 w1).mono fun e W' ⟨he,bel⟩=>?_
 subst he
 exact⟨_,rfl,_,_,_,[],_,[],hW',trodAll_mk1 (shut_bool Tryz.underlying4 _),(trodAll_cons_mk (shut_int Tryz.underlying3 w0) (trodAll_cons_mk (Below.trod RowReg4.laidOut (by kernel_rfl) (of_decide_eq_true (by kernel_rfl)) k1 bel lt1) trodAll_mk0)),rfl,bel.frame _,fun h=>by cases h⟩
theorem regionRecovery_holds:Rows.RegionRecoverySaid :=
 OpenClaim.holds_of_wide 6 Tryz.f6 rfl rfl rfl rfl rfl rfl rfl ⟨rfl,rfl,rfl,rfl,rfl⟩ rfl rfl rfl rfl rfl (by kernel_rfl) Tryz.func6 (by kernel_rfl)
  (of_decide_eq_true (by kernel_rfl)) (by unfold Func.isWrapper;first|(rw [if_pos (by decide +kernel)];kernel_rfl)|(rw [if_neg (by decide +kernel)];exact⟨rfl,rfl⟩))
  (fun os started H enc _=>regionRecovery_lifted os started H enc)
theorem regionRecovery_card_holds:Rows.RegionRecoveryCardSaid :=
 Claim7.holds_tied_plain_at .later [] [.data,.pinned] true (true, "856beb09aac1f7e29f29f9816a34dd826c11c23709595c92d8b82049d2358110") false
  regionRecovery_holds (fun _ h=>by cases h) (by kernel_rfl) (fun _ h=>by cases h) regionRecovery_row_tie rfl ⟨rfl,rfl⟩ (by kernel_rfl) rfl
  (fun f fn hf hfn=>by
   obtain rfl:f=6:=Option.some.inj ((show Tryz.prog.funcNamed "hstsstore/hstsstorelaw33.RegionRecovery"=some 6 by kernel_rfl).symm.trans hf) |>.symm
   obtain rfl:fn=Tryz.f6:=(Option.some.inj (Tryz.func6.symm.trans hfn)).symm
   exact⟨by kernel_rfl,fun j t ht=>by
    rw [Tryz.params6] at ht
    have hm:t ∈ [3,59]:=by simpa using Array.mem_of_getElem? ht
    have hall:([3,59].all fun u=>!Tryz.prog.wantsStandIn u)=true:=by kernel_rfl
    exact (show Tryz.prog.wantsStandIn t=false by simpa using List.all_eq_true.1 hall t hm)⟩)
  (by kernel_rfl)
#print axioms regionRecovery_card_holds
end Go.Proofs.YtmanejniepghlaaGreatDoor
