/- After a Compact there is room for an update that was refused because the log was full, and Compact keeps the state that it is given, also after a power failure. No condition beyond the statement's own; the card reads the two listed tables of unicode/utf8. -/
import Derived.Test.YtmanejniepghlaaGreatDoorRun43
import Derived.Test.YtmanejniepghlaaGreatDoorRun41
import Derived.Test.YtmanejniepghlaaGreatDoorCards
import Derived.Test.YtmanejniepghlaaGreatDoorTie
import Derived.ProofKit
import Derived.OpenShut
import Derived.ShutString
import Derived.ChangeOld
import Derived.PinnedBridge
import Derived.Lay
import Derived.LaidOnce
import Derived.SevenTiedAt
import Derived.Stop.Joined
namespace Go.Proofs.YtmanejniepghlaaGreatDoor
open Go.ChangeShapes Go.WideShapes Go.ChangeAt Go.RowKit Go.Lib
open Go.ChangeMaps (open_string shut_string)
theorem RowReg3.own:ownKnob Tryz.prog.godebug=none:=by kernel_rfl
theorem RowReg3.laidOut:laidOutB Tryz.prog=true:=by kernel_rfl
def RowReg3.laid:List (String × DataW Unit) := [("unicode/utf8.acceptRanges",Rows.laid_unicode_utf8_acceptRanges), ("unicode/utf8.first",Rows.laid_unicode_utf8_first)]
set_option maxRecDepth 100000 in
theorem regionCompactMakesRoom_lifted (os:Os) (started:os.Started) (H:Type) (enc:TypeId × Value->H) :
 ReturnsInHanded {} Tryz.checked os 4 .any (fun w args=>(Rows.regionCompactMakesRoomSpec.pre enc Tryz.prog Tryz.f4 [] false w args/\laidMetH Tryz.prog RowReg3.laid w)/\sizedMet enc Tryz.prog Tryz.f4 (OpenSpec.ofChange Rows.regionCompactMakesRoomSpec) false w args)
  (Rows.regionCompactMakesRoomSpec.post enc Tryz.prog Tryz.f4 false true false false):=by
 refine returnsInHanded_of_change_and (C:=Tryz.checked) (X:=fun w _=>laidMetH Tryz.prog RowReg3.laid w) (fun _ _ _ hh h=>h.of_heap hh) RowReg3.own started (by kernel_rfl) Tryz.func4
  (ChangeSpec.witness_shaped (enc:=enc) (C:=Tryz.checked) (os:=os) (X:=fun w _=>laidMetH Tryz.prog RowReg3.laid w) false (World.laidAll Tryz.prog os RowReg3.laid) #[.int .i64 0,.slice none 0 0,.agg #[.int .i64 0,.string ByteArray.empty,.bool false,.int .i64 0]] 8 (World.laidAll_os _ _ _)
   (World.shaped_of_ZipB (by kernel_rfl) (by kernel_rfl)) (by kernel_rfl) (by kernel_rfl) (by kernel_rfl)
   (by rw [MakeChecks.laidMetH_plain _ _ _ (by kernel_rfl)];exact laidMet_laidAll _ (by kernel_rfl) (by kernel_rfl))) ?_
 intro W base args ds gs before hval0 hW _ _ hL _
 have hval:∀ (j:Nat) t v,Tryz.f4.params[j]?=some t->args[j]?=some v->Value.okWide Tryz.prog W .any base t v:=hval0
 have hW':=hW
 obtain⟨p,q,hA0,hV,rfl,hfz,hnd⟩:=hW
 have hA:DataW.TrodAll enc Tryz.prog W 0 (fun _=>true) true Tryz.f4.params.toList args.toList ds p:=hA0
 rw [Tryz.params4] at hA hval
 obtain⟨v0,vs0,d0,ds0,p0,q0,hargs,rfl,rfl,h0,r0⟩:=trodAll_cons hA
 obtain⟨v1,vs1,d1,ds1,p1,q1,rfl,rfl,rfl,h1,r1⟩:=trodAll_cons r0
 obtain⟨v2,vs2,d2,ds2,p2,q2,rfl,rfl,rfl,h2,r2⟩:=trodAll_cons r1
 obtain⟨rfl,rfl,rfl⟩:=trodAll_nil r2
 obtain rfl:args=#[v0,v1,v2]:=by cases args;simp_all
 obtain⟨rfl,rfl⟩:=trodVars_none hV
 obtain⟨a0,rfl,rfl,rfl,w0⟩:=open_int Tryz.underlying3 (hval 0 3 v0 rfl rfl) h0
 obtain⟨a1,len1,cap1,rfl⟩:=okWide_slice Tryz.underlying32 (hval 1 32 v1 rfl rfl)
 have k1:=h1
 have lt1:∀ x ∈ p1,x.block < W.heap.size:=by obtain⟨m,hm⟩:=k1;exact DataW.trod_lt m _ _ _ hm
 obtain⟨z1,w1⟩:∃ l,SlU W a1 len1 cap1 l:=by
  obtain⟨fuel,hf⟩:=h1
  obtain⟨a,n,c,l,hv,hl⟩:=zq_k (by simpa [Value.cells] using hf)
  cases hv
  exact⟨l,hl⟩
 have k2:=h2
 have lt2:∀ x ∈ p2,x.block < W.heap.size:=by obtain⟨m,hm⟩:=k2;exact DataW.trod_lt m _ _ _ hm
 obtain⟨s2,rfl⟩:=zp_s (hval 2 36 v2 rfl rfl) h2
 clear hA0 hval0
 refine (room33_law a0 a1 len1 cap1 z1 s2 W w0 w1).mono fun e W' ⟨he,bel⟩=>?_
 subst he
 exact⟨_,rfl,_,_,_,[],_,[],hW',trodAll_mk1 (shut_bool Tryz.underlying4 _),(trodAll_cons_mk (shut_int Tryz.underlying3 w0) (trodAll_cons_mk (Below.trod RowReg3.laidOut (by kernel_rfl) (of_decide_eq_true (by kernel_rfl)) k1 bel lt1) (trodAll_cons_mk (Below.trod RowReg3.laidOut (by kernel_rfl) (of_decide_eq_true (by kernel_rfl)) k2 bel lt2) trodAll_mk0))),rfl,bel.frame _,fun h=>by cases h⟩
theorem regionCompactMakesRoom_holds:Rows.RegionCompactMakesRoomSaid :=
 OpenClaim.holds_of_wide 4 Tryz.f4 rfl rfl rfl rfl rfl rfl rfl ⟨rfl,rfl,rfl,rfl,rfl⟩ rfl rfl rfl rfl rfl (by kernel_rfl) Tryz.func4 (by kernel_rfl)
  (of_decide_eq_true (by kernel_rfl)) (by unfold Func.isWrapper;first|(rw [if_pos (by decide +kernel)];kernel_rfl)|(rw [if_neg (by decide +kernel)];exact⟨rfl,rfl⟩))
  (fun os started H enc _=>regionCompactMakesRoom_lifted os started H enc)
theorem regionCompactMakesRoom_card_holds:Rows.RegionCompactMakesRoomCardSaid :=
 Claim7.holds_tied_plain_at .later [] [.data,.pinned] true (true, "856beb09aac1f7e29f29f9816a34dd826c11c23709595c92d8b82049d2358110") false
  regionCompactMakesRoom_holds (fun _ h=>by cases h) (by kernel_rfl) (fun _ h=>by cases h) regionCompactMakesRoom_row_tie rfl ⟨rfl,rfl⟩ (by kernel_rfl) rfl
  (fun f fn hf hfn=>by
   obtain rfl:f=4:=Option.some.inj ((show Tryz.prog.funcNamed "hstsstore/hstsstorelaw33.RegionCompactMakesRoom"=some 4 by kernel_rfl).symm.trans hf) |>.symm
   obtain rfl:fn=Tryz.f4:=(Option.some.inj (Tryz.func4.symm.trans hfn)).symm
   exact⟨by kernel_rfl,fun j t ht=>by
    rw [Tryz.params4] at ht
    have hm:t ∈ [3,32,36]:=by simpa using Array.mem_of_getElem? ht
    have hall:([3,32,36].all fun u=>!Tryz.prog.wantsStandIn u)=true:=by kernel_rfl
    exact (show Tryz.prog.wantsStandIn t=false by simpa using List.all_eq_true.1 hall t hm)⟩)
  (by kernel_rfl)
#print axioms regionCompactMakesRoom_card_holds
end Go.Proofs.YtmanejniepghlaaGreatDoor
