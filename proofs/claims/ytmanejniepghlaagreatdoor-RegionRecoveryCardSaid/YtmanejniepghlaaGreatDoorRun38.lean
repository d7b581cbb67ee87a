import Derived.Test.YtmanejniepghlaaGreatDoorRun37
import Derived.Test.YtmanejniepghlaaGreatDoorRun1
import Derived.WalkMore
namespace Go.Proofs.YtmanejniepghlaaGreatDoor
open Go.RowKit
set_option maxRecDepth 100000
def ScanPost (l:List UInt8) (ep:Nat) (w:World) (e:Ending) (w':World):Prop :=
 ∃ v,e=.returned (.tuple #[v,.int .i64 ((Frame.scan l ep).2:Nat)])/\OwnL w.heap.size w' v (Frame.scan l ep).1/\Below w.heap.size w w'
theorem zc_k {l:List UInt8} {ep:Nat} {out:List (List UInt8)} {m:Nat} (hd:(out,m)=Frame.scan l ep) {w:World} {e:Ending} {w':World} (v:Value) (he:e=.returned (.tuple #[v,m])) (ho:OwnL w.heap.size w' v out) (hb:Below w.heap.size w w'):ScanPost l ep w e w':=by
 unfold ScanPost;rw [<-hd];exact⟨v,he,ho,hb⟩
theorem zi_e (a:Option Addr) (n c:Nat) (l:List UInt8) (ep sq:Nat) (he:ep < 4294967296) (hs:sq < 4294967296) (w:World) (h:SlB w a n c l) (p:List UInt8) (m:Nat) (er:Int) (hd:Frame.dec l ep sq=(p,m,er)) :
 Calls Tryz.prog 172 #[.slice a n c,.int .u32 ep,.int .u32 sq] w fun e w'=>∃ v,e=.returned (.tuple #[v,m,er])/\OwnB w.heap.size w' v p/\Below w.heap.size w w':=by
 have:=zn_e a n c l ep sq he hs w h
 unfold FDecPost at this
 rw [hd] at this;exact this
theorem zf_v (a:Option Addr) (n c:Nat) (l:List UInt8) (ep sq:Nat) (he:ep < 4294967296) (hs:sq < 4294967296) (w:World) (h:SlB w a n c l) (p:List UInt8) (m:Nat) (er:Int) (hd:Frame.dec l ep sq=(p,m,er)) :
 Calls Tryz.prog 175 #[.slice a n c,.int .u32 ep,.int .u32 sq] w fun e w'=>∃ v,e=.returned (.tuple #[v,m,er])/\OwnB w.heap.size w' v p/\Below w.heap.size w w':=by
 have:=zj_m a n c l ep sq he hs w h
 unfold FDecPost at this
 rw [hd] at this;exact this
theorem SlB.zero (w:World) (b o:Nat):SlB w (b o) 0 0 []:=⟨rfl,zN _,by unfold maxLen;omega,fun _=>⟨rfl,rfl⟩,fun x hx i hi=>by simp at hi⟩
set_option maxHeartbeats 4000000 in
theorem zr_t (a:Option Addr) (n c:Nat) (l:List UInt8) (ep:Nat) (he:ep < 4294967296) (w:World) (h:SlB w a n c l) (hn:n<=100000) :
 Calls Tryz.prog 128 #[.slice a n c,.int .u32 ep] w (ScanPost l ep w):=by
 have hle:=h.le
 have HLN:=zH h.len
 have h0:Frame.go l ep (n+1 - 0) 0 [] 0=Frame.scan l ep:=by rw [<-HLN.out];rfl
 have H0:=zH h0
 clear h0
 go_enter Tryz.func128,Tryz.ntmps128
 go_wp2
 go_step3
 go_wp2
 go_step3
 go_wp2
 go_loopw [6,7,8] (fun v e s wr=>∃ (k en:Nat) (out:List (List UInt8)),e=.int .i64 en/\s=.int .u32 k/\OwnL w.heap.size wr v out/\Hid (Frame.go l ep (n+1 - k) k out en=Frame.scan l ep)/\Hid (out.length=k)/\14 * k<=en/\en<=n/\Below w.heap.size w wr) (fun _ e _ _=>n+1 - (intOf e).toNat)
 case atStart=>exact⟨0,0,[],rfl,rfl,OwnL.nil _ _,H0,zH rfl,by omega,by omega,Below.refl _ _⟩
 case round =>
  obtain⟨k,en,out,rfl,rfl,hO,HG,HL,hk,hen,hB⟩:=hrel
  have hcn:n<=c:=h.2.1
  obtain⟨⟨p,m,er⟩,hd⟩:∃ r,Frame.dec (l.drop en) ep k=r:=⟨_,rfl⟩
  have hok:=Frame.dec_ok (l.drop en) ep k
  have hgo:=Frame.go_ok l ep (n - k) k out en
  have hge:=Frame.go_end l ep (n - k) k out en
  rw [hd] at hok hgo hge
  simp only [List.length_drop] at hok hgo hge
  rw [HLN.out] at hok
  have hsl:∀ a' m' c',SlB wr a' m' c' (l.drop en)->_:=fun a' m' c' hs=>zi_e a' m' c' (l.drop en) ep k he (by omega) wr hs p m er hd
  have HS:=zH hsl;have HOK:=zH hok;have HGO:=zH hgo;have HGE:=zH hge;have HD:=zH hd
  clear hsl hok hgo hge hd H0
  have hsz:=hB.size
  rcases a with -|⟨b,o,sp⟩
  ·obtain⟨e1,e2⟩:=h.2.2.2.1 rfl
   subst e2
   obtain rfl:n=0:=by omega
   obtain rfl:en=0:=by omega
   obtain rfl:k=0:=by omega
   have hs0:SlB wr none 0 0 (l.drop 0):=by rw [List.drop_zero];exact h.ext hB
   have her:(er != 0)=true:=by
    have h2:(Frame.dec (l.drop 0) ep 0).2.2=er:=by rw [HD.out]
    rw [<-h2,e1];simp [Frame.dec]
   have her':¬ er=0:=by simpa using her
   clear e1
   go_wp2_with fail
   refine (HS.out _ _ _ hs0).mono ?_;rintro e w1 ⟨v1,rfl,hO1,hb1⟩
   go_wp2_with fail
   go_ret2
   exact zc_k ((HGE.out her').symm.trans HG.out) _ rfl (hO.ext hb1) (hB.trans (Below.mono hb1 hsz))
  ·have her0:en=n->(er != 0)=true:=by
    intro e
    have h2:(Frame.dec (l.drop en) ep k).2.2=er:=by rw [HD.out]
    have h3:l.drop en=[]:=List.drop_eq_nil_of_le (by rw [HLN.out];omega)
    rw [<-h2,h3];simp [Frame.dec]
   by_cases hn0:n=0
   ·subst hn0
    obtain rfl:en=0:=by omega
    obtain rfl:k=0:=by omega
    have her:=her0 rfl
    have her':¬ er=0:=by simpa using her
    have hs0:SlB wr (some ⟨b,o,sp⟩) 0 c (l.drop 0):=by rw [List.drop_zero];exact h.ext hB
    clear her0
    go_wp2_with fail
    refine (HS.out _ _ _ hs0).mono ?_;rintro e w1 ⟨v1,rfl,hO1,hb1⟩
    go_wp2_with fail
    go_ret2
    exact zc_k ((HGE.out her').symm.trans HG.out) _ rfl (hO.ext hb1) (hB.trans (Below.mono hb1 hsz))
   ·obtain⟨b',o',e,-,-,-⟩:=h.at (show 0 < n by omega)
    cases e
    by_cases hce:c=en
    ·have her:=her0 (by omega)
     have her':¬ er=0:=by simpa using her
     have hs0:SlB wr (b o) 0 0 (l.drop en):=by rw [List.drop_eq_nil_of_le (by rw [HLN.out];omega)];exact SlB.zero _ _ _
     obtain rfl:n=en:=by omega
     subst hce
     have hg1:Frame.go l ep (c - k+1) k out c=Frame.scan l ep:=by rw [<-HG.out];congr 1;omega
     have HG1:=zH hg1
     clear her0 hg1
     go_wp2_with fail
     refine (HS.out _ _ _ hs0).mono ?_;rintro e w1 ⟨v1,rfl,hO1,hb1⟩
     go_wp2_with fail
     go_ret2
     exact zc_k ((HGE.out her').symm.trans HG1.out) _ rfl (hO.ext hb1) (hB.trans (Below.mono hb1 hsz))
    ·have hs0:SlB wr (b (o+en)) (n - en) (c - en) (l.drop en):=(h.ext hB).drop hen
     have hg1:Frame.go l ep (n - k+1) k out en=Frame.scan l ep:=by rw [<-HG.out];congr 1;omega
     have HG1:=zH hg1
     have v1:(0:Int)<=(en:Int):=by omega
     have v2:(en:Int)<=(n:Int):=by omega
     clear her0 hg1
     by_cases her:er=0
     ·obtain⟨o1,o2,o3⟩:=HOK.out her
      have hg2:=(HGO.out her).symm.trans HG1.out
      have HG2:=zH hg2
      have hk1:k+1 < 4294967296:=by omega
      have hm14:14<=m:=by omega
      subst her
      clear hg2 o1 o3
      go_wp2_with fail
      refine (HS.out _ _ _ hs0).mono ?_;rintro e w1 ⟨v1,rfl,hO1,hb1⟩
      have hO2:=hO.ext hb1
      have hB1:=hB.trans (Below.mono hb1 hsz)
      have hsz1:=hB1.size
      obtain⟨a1,c1,rfl,-,-⟩:=id hO1.sl
      go_wp2_with (at_builtin;go_must (refine zb_u rfl _ _ rfl w.heap.size _ out rfl hO2 _ p (hO1.mono hsz) _ _ rfl _ rfl rfl (by rw [HL.out];omega) hsz1 ?_);intro v2 w2 hO3 hb2)
      have hB2:=hB1.trans hb2
      clear hO1 hO2 hb1 hb2 hs0
      go_wp2
      go_roundw
      case rel=>exact⟨k+1,en+m,out ++ [p],by go_num,by go_num,hO3,zH (by rw [show n+1 - (k+1)=n - k by omega];exact HG2.out),zH (by rw [List.length_append,HL.out];rfl),by omega,by omega,hB2⟩
      case measure=>simp [intOf];omega
     ·have her':(er != 0)=true:=by simpa using her
      go_wp2_with fail
      refine (HS.out _ _ _ hs0).mono ?_;rintro e w1 ⟨v1,rfl,hO1,hb1⟩
      go_wp2_with fail
      go_ret2
      exact zc_k ((HGE.out her).symm.trans HG1.out) _ rfl (hO.ext hb1) (hB.trans (Below.mono hb1 hsz))
set_option maxHeartbeats 4000000 in
theorem zn_f (a:Option Addr) (n c:Nat) (l:List UInt8) (ep:Nat) (he:ep < 4294967296) (w:World) (h:SlB w a n c l) (hn:n<=100000) :
 Calls Tryz.prog 139 #[.slice a n c,.int .u32 ep] w (ScanPost l ep w):=by
 have hle:=h.le
 have HLN:=zH h.len
 have h0:Frame.go l ep (n+1 - 0) 0 [] 0=Frame.scan l ep:=by rw [<-HLN.out];rfl
 have H0:=zH h0
 clear h0
 go_enter Tryz.func139,Tryz.ntmps139
 go_wp2
 go_loopw [6,7] (fun v e wr=>∃ (k en:Nat) (out:List (List UInt8)),e=.int .i64 en/\OwnL w.heap.size wr v out/\Hid (Frame.go l ep (n+1 - k) k out en=Frame.scan l ep)/\Hid (out.length=k)/\14 * k<=en/\en<=n/\Below w.heap.size w wr) (fun _ e _=>n+1 - (intOf e).toNat)
 case atStart=>exact⟨0,0,[],rfl,OwnL.nil _ _,H0,zH rfl,by omega,by omega,Below.refl _ _⟩
 case round =>
  obtain⟨k,en,out,rfl,hO,HG,HL,hk,hen,hB⟩:=hrel
  obtain⟨av,cv,ev,-⟩:=id hO.sl
  rw [HL.out] at ev
  subst ev
  have hcn:n<=c:=h.2.1
  obtain⟨⟨p,m,er⟩,hd⟩:∃ r,Frame.dec (l.drop en) ep k=r:=⟨_,rfl⟩
  have hok:=Frame.dec_ok (l.drop en) ep k
  have hgo:=Frame.go_ok l ep (n - k) k out en
  have hge:=Frame.go_end l ep (n - k) k out en
  rw [hd] at hok hgo hge
  simp only [List.length_drop] at hok hgo hge
  rw [HLN.out] at hok
  have hsl:∀ a' m' c',SlB wr a' m' c' (l.drop en)->_:=fun a' m' c' hs=>zf_v a' m' c' (l.drop en) ep k he (by omega) wr hs p m er hd
  have HS:=zH hsl;have HOK:=zH hok;have HGO:=zH hgo;have HGE:=zH hge;have HD:=zH hd
  clear hsl hok hgo hge hd H0
  have hsz:=hB.size
  rcases a with -|⟨b,o,sp⟩
  ·obtain⟨e1,e2⟩:=h.2.2.2.1 rfl
   subst e2
   obtain rfl:n=0:=by omega
   obtain rfl:en=0:=by omega
   obtain rfl:k=0:=by omega
   have hs0:SlB wr none 0 0 (l.drop 0):=by rw [List.drop_zero];exact h.ext hB
   have her:(er != 0)=true:=by
    have h2:(Frame.dec (l.drop 0) ep 0).2.2=er:=by rw [HD.out]
    rw [<-h2,e1];simp [Frame.dec]
   have her':¬ er=0:=by simpa using her
   clear e1
   go_wp2_with fail
   refine (HS.out _ _ _ hs0).mono ?_;rintro e w1 ⟨v1,rfl,hO1,hb1⟩
   go_wp2_with fail
   go_ret2
   exact zc_k ((HGE.out her').symm.trans HG.out) _ rfl (hO.ext hb1) (hB.trans (Below.mono hb1 hsz))
  ·have her0:en=n->(er != 0)=true:=by
    intro e
    have h2:(Frame.dec (l.drop en) ep k).2.2=er:=by rw [HD.out]
    have h3:l.drop en=[]:=List.drop_eq_nil_of_le (by rw [HLN.out];omega)
    rw [<-h2,h3];simp [Frame.dec]
   by_cases hn0:n=0
   ·subst hn0
    obtain rfl:en=0:=by omega
    obtain rfl:k=0:=by omega
    have her:=her0 rfl
    have her':¬ er=0:=by simpa using her
    have hs0:SlB wr (some ⟨b,o,sp⟩) 0 c (l.drop 0):=by rw [List.drop_zero];exact h.ext hB
    clear her0
    go_wp2_with fail
    refine (HS.out _ _ _ hs0).mono ?_;rintro e w1 ⟨v1,rfl,hO1,hb1⟩
    go_wp2_with fail
    go_ret2
    exact zc_k ((HGE.out her').symm.trans HG.out) _ rfl (hO.ext hb1) (hB.trans (Below.mono hb1 hsz))
   ·obtain⟨b',o',e,-,-,-⟩:=h.at (show 0 < n by omega)
    cases e
    by_cases hce:c=en
    ·have her:=her0 (by omega)
     have her':¬ er=0:=by simpa using her
     have hs0:SlB wr (b o) 0 0 (l.drop en):=by rw [List.drop_eq_nil_of_le (by rw [HLN.out];omega)];exact SlB.zero _ _ _
     obtain rfl:n=en:=by omega
     subst hce
     have hg1:Frame.go l ep (c - k+1) k out c=Frame.scan l ep:=by rw [<-HG.out];congr 1;omega
     have HG1:=zH hg1
     clear her0 hg1
     go_wp2_with fail
     refine (HS.out _ _ _ hs0).mono ?_;rintro e w1 ⟨v1,rfl,hO1,hb1⟩
     go_wp2_with fail
     go_ret2
     exact zc_k ((HGE.out her').symm.trans HG1.out) _ rfl (hO.ext hb1) (hB.trans (Below.mono hb1 hsz))
    ·have hs0:SlB wr (b (o+en)) (n - en) (c - en) (l.drop en):=(h.ext hB).drop hen
     have hg1:Frame.go l ep (n - k+1) k out en=Frame.scan l ep:=by rw [<-HG.out];congr 1;omega
     have HG1:=zH hg1
     have v1:(0:Int)<=(en:Int):=by omega
     have v2:(en:Int)<=(n:Int):=by omega
     clear her0 hg1
     by_cases her:er=0
     ·obtain⟨o1,o2,o3⟩:=HOK.out her
      have hg2:=(HGO.out her).symm.trans HG1.out
      have HG2:=zH hg2
      have hk1:k+1 < 4294967296:=by omega
      have hm14:14<=m:=by omega
      subst her
      clear hg2 o1 o3
      go_wp2_with fail
      refine (HS.out _ _ _ hs0).mono ?_;rintro e w1 ⟨v1,rfl,hO1,hb1⟩
      have hO2:=hO.ext hb1
      have hB1:=hB.trans (Below.mono hb1 hsz)
      have hsz1:=hB1.size
      obtain⟨a1,c1,rfl,-,-⟩:=id hO1.sl
      go_wp2_with (at_builtin;go_must (refine zb_u rfl _ _ rfl w.heap.size _ out rfl hO2 _ p (hO1.mono hsz) _ _ rfl _ rfl rfl (by rw [HL.out];omega) hsz1 ?_);intro v2 w2 hO3 hb2)
      have hB2:=hB1.trans hb2
      clear hO1 hO2 hb1 hb2 hs0
      go_wp2
      go_roundw
      case rel=>exact⟨k+1,en+m,out ++ [p],by go_num,hO3,zH (by rw [show n+1 - (k+1)=n - k by omega];exact HG2.out),zH (by rw [List.length_append,HL.out];rfl),by omega,by omega,hB2⟩
      case measure=>simp [intOf];omega
     ·have her':(er != 0)=true:=by simpa using her
      go_wp2_with fail
      refine (HS.out _ _ _ hs0).mono ?_;rintro e w1 ⟨v1,rfl,hO1,hb1⟩
      go_wp2_with fail
      go_ret2
      exact zc_k ((HGE.out her).symm.trans HG1.out) _ rfl (hO.ext hb1) (hB.trans (Below.mono hb1 hsz))
end Go.Proofs.YtmanejniepghlaaGreatDoor
