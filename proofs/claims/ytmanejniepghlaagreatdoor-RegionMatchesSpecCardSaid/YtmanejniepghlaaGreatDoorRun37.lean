import Derived.Test.YtmanejniepghlaaGreatDoorRun34
import Derived.Test.YtmanejniepghlaaGreatDoorRun1
import Derived.WalkMore
set_option maxHeartbeats 4000000
namespace Go.Proofs.YtmanejniepghlaaGreatDoor
open Go.RowKit
set_option maxRecDepth 100000
def EO (l:List UInt8) (ep:Nat) (w:World) (e:Ending) (w':World):Prop :=
 ∃ v,e=.returned (.tuple #[v,.int .i64 ((Fr.scan l ep).2:Nat)])/\BR w.heap.size w' v (Fr.scan l ep).1/\Below w.heap.size w w'
theorem Xv {l:List UInt8} {ep:Nat} {out:List (List UInt8)} {m:Nat} (hd:(out,m)=Fr.scan l ep) {w:World} {e:Ending} {w':World} (v:Value) (b:e=.returned (.tuple #[v,m])) (ho:BR w.heap.size w' v out) (a:Below w.heap.size w w'):EO l ep w e w':=by
 unfold EO;rw [<-hd];exact⟨v,b,ho,a⟩
theorem Ui (a:Option Addr) (n c:Nat) (l:List UInt8) (ep b:Nat) (g:ep < 4294967296) (hs:b < 4294967296) (w:World) (h:AM w a n c l) (p:List UInt8) (m:Nat) (d:Int) (hd:Fr.dec l ep b=(p,m,d)) :
 Calls Tryz.prog 172 #[.slice a n c,.int .u32 ep,.int .u32 b] w fun e f=>∃ v,e=.returned (.tuple #[v,m,d])/\AC w.heap.size f v p/\Below w.heap.size w f:=by
 have:=Ba a n c l ep b g hs w h
 unfold EN at this
 rw [hd] at this;exact this
theorem Kj (a:Option Addr) (n c:Nat) (l:List UInt8) (ep b:Nat) (g:ep < 4294967296) (hs:b < 4294967296) (w:World) (h:AM w a n c l) (p:List UInt8) (m:Nat) (d:Int) (hd:Fr.dec l ep b=(p,m,d)) :
 Calls Tryz.prog 175 #[.slice a n c,.int .u32 ep,.int .u32 b] w fun e f=>∃ v,e=.returned (.tuple #[v,m,d])/\AC w.heap.size f v p/\Below w.heap.size w f:=by
 have:=Oy a n c l ep b g hs w h
 unfold EN at this
 rw [hd] at this;exact this
theorem AM.zero (w:World) (b o:Nat):AM w (b o) 0 0 []:=⟨rfl,zN _,by unfold maxLen;omega,fun _=>⟨rfl,rfl⟩,fun x c i a=>by simp at a⟩
theorem Ip (a:Option Addr) (n c:Nat) (l:List UInt8) (ep:Nat) (he:ep < 4294967296) (w:World) (h:AM w a n c l) (hn:n<=100000) :
 Calls Tryz.prog 128 #[.slice a n c,.int .u32 ep] w (EO l ep w):=by
 have zm:=h.le
 have H:=zH h.len
 have h0:Fr.go l ep (n+1 - 0) 0 [] 0=Fr.scan l ep:=by rw [<-H.out];rfl
 have Y:=zH h0
 clear h0
 go_in
 go_wp2
 go_step3
 go_wp2
 go_step3
 go_wp2
 go_loopw [6,7,8] (fun v e s wr=>∃ (k d:Nat) (out:List (List UInt8)),e=.int .i64 d/\s=.int .u32 k/\BR w.heap.size wr v out/\Hid (Fr.go l ep (n+1 - k) k out d=Fr.scan l ep)/\Hid (out.length=k)/\14 * k<=d/\d<=n/\Below w.heap.size w wr) (fun _ e _ _=>n+1 - (intOf e).toNat)
 case atStart=>exact⟨0,0,[],rfl,rfl,BR.nil _ _,Y,zH rfl,by omega,by omega,Below.refl _ _⟩
 case round =>
  obtain⟨k,d,out,rfl,rfl,B,K,HL,hk,zh,q⟩:=hrel
  have zk:n<=c:=h.2.1
  obtain⟨⟨p,m,i⟩,hd⟩:∃ r,Fr.dec (l.drop d) ep k=r:=⟨_,rfl⟩
  have z:=Fr.MI (l.drop d) ep k
  have J:=Fr.QB l ep (n - k) k out d
  have I:=Fr.ML l ep (n - k) k out d
  rw [hd] at z J I
  simp only [List.length_drop] at z J I
  rw [H.out] at z
  have X:∀ N Q O,AM wr N Q O (l.drop d)->_:=fun N Q O hs=>Ui N Q O (l.drop d) ep k he (by omega) wr hs p m i hd
  have A:=zH X;have zd:=zH z;have zc:=zH J;have G:=zH I;have Z:=zH hd
  clear X z J I hd Y
  have hsz:=q.size
  rcases a with -|⟨b,o,sp⟩
  ·obtain⟨e1,e2⟩:=h.2.2.2.1 rfl
   subst e2
   obtain rfl:n=0:=by omega
   obtain rfl:d=0:=by omega
   obtain rfl:k=0:=by omega
   have j:AM wr none 0 0 (l.drop 0):=by rw [List.drop_zero];exact h.ext q
   have g:(i != 0)=true:=by
    have P:(Fr.dec (l.drop 0) ep 0).2.2=i:=by rw [Z.out]
    rw [<-P,e1];simp [Fr.dec]
   have u:¬ i=0:=by simpa using g
   clear e1
   go_wp2_with fail
   refine (A.out _ _ _ j).mono ?_;rintro e M ⟨C,rfl,t,f⟩
   go_wp2_with fail
   go_ret2
   exact Xv ((G.out u).symm.trans K.out) _ rfl (B.ext f) (q.trans (Below.mono f hsz))
  ·have x:d=n->(i != 0)=true:=by
    intro e
    have P:(Fr.dec (l.drop d) ep k).2.2=i:=by rw [Z.out]
    have h3:l.drop d=[]:=List.drop_eq_nil_of_le (by rw [H.out];omega)
    rw [<-P,h3];simp [Fr.dec]
   by_cases zi:n=0
   ·subst zi
    obtain rfl:d=0:=by omega
    obtain rfl:k=0:=by omega
    have g:=x rfl
    have u:¬ i=0:=by simpa using g
    have j:AM wr (some ⟨b,o,sp⟩) 0 c (l.drop 0):=by rw [List.drop_zero];exact h.ext q
    clear x
    go_wp2_with fail
    refine (A.out _ _ _ j).mono ?_;rintro e M ⟨C,rfl,t,f⟩
    go_wp2_with fail
    go_ret2
    exact Xv ((G.out u).symm.trans K.out) _ rfl (B.ext f) (q.trans (Below.mono f hsz))
   ·obtain⟨b',o',e,-,-,-⟩:=h.at (show 0 < n by omega)
    cases e
    by_cases zg:c=d
    ·have g:=x (by omega)
     have u:¬ i=0:=by simpa using g
     have j:AM wr (b o) 0 0 (l.drop d):=by rw [List.drop_eq_nil_of_le (by rw [H.out];omega)];exact AM.zero _ _ _
     obtain rfl:n=d:=by omega
     subst zg
     have y:Fr.go l ep (c - k+1) k out c=Fr.scan l ep:=by rw [<-K.out];congr 1;omega
     have F:=zH y
     clear x y
     go_wp2_with fail
     refine (A.out _ _ _ j).mono ?_;rintro e M ⟨C,rfl,t,f⟩
     go_wp2_with fail
     go_ret2
     exact Xv ((G.out u).symm.trans F.out) _ rfl (B.ext f) (q.trans (Below.mono f hsz))
    ·have j:AM wr (b (o+d)) (n - d) (c - d) (l.drop d):=(h.ext q).drop zh
     have y:Fr.go l ep (n - k+1) k out d=Fr.scan l ep:=by rw [<-K.out];congr 1;omega
     have F:=zH y
     have C:(0:Int)<=(d:Int):=by omega
     have v2:(d:Int)<=(n:Int):=by omega
     clear x y
     by_cases g:i=0
     ·obtain⟨o1,o2,o3⟩:=zd.out g
      have W:=(zc.out g).symm.trans F.out
      have zb:=zH W
      have zl:k+1 < 4294967296:=by omega
      have zj:14<=m:=by omega
      subst g
      clear W o1 o3
      go_wp2_with fail
      refine (A.out _ _ _ j).mono ?_;rintro e M ⟨C,rfl,t,f⟩
      have T:=B.ext f
      have R:=q.trans (Below.mono f hsz)
      have za:=R.size
      obtain⟨a1,c1,rfl,-,-⟩:=id t.sl
      go_wp2_with (at_builtin;go_must (refine Xg rfl _ _ rfl w.heap.size _ out rfl T _ p (t.mono hsz) _ _ rfl _ rfl rfl (by rw [HL.out];omega) za ?_);intro v2 w2 zf U)
      have ze:=R.trans U
      clear t T f U j
      go_wp2
      go_roundw
      case rel=>exact⟨k+1,d+m,out ++ [p],by go_num,by go_num,zf,zH (by rw [show n+1 - (k+1)=n - k by omega];exact zb.out),zH (by rw [List.length_append,HL.out];rfl),by omega,by omega,ze⟩
      case measure=>simp [intOf];omega
     ·have u:(i != 0)=true:=by simpa using g
      go_wp2_with fail
      refine (A.out _ _ _ j).mono ?_;rintro e M ⟨C,rfl,t,f⟩
      go_wp2_with fail
      go_ret2
      exact Xv ((G.out g).symm.trans F.out) _ rfl (B.ext f) (q.trans (Below.mono f hsz))
theorem Bb (a:Option Addr) (n c:Nat) (l:List UInt8) (ep:Nat) (he:ep < 4294967296) (w:World) (h:AM w a n c l) (hn:n<=100000) :
 Calls Tryz.prog 139 #[.slice a n c,.int .u32 ep] w (EO l ep w):=by
 have zm:=h.le
 have G:=zH h.len
 have h0:Fr.go l ep (n+1 - 0) 0 [] 0=Fr.scan l ep:=by rw [<-G.out];rfl
 have Y:=zH h0
 clear h0
 go_in
 go_wp2
 go_loopw [6,7] (fun v e wr=>∃ (k d:Nat) (out:List (List UInt8)),e=.int .i64 d/\BR w.heap.size wr v out/\Hid (Fr.go l ep (n+1 - k) k out d=Fr.scan l ep)/\Hid (out.length=k)/\14 * k<=d/\d<=n/\Below w.heap.size w wr) (fun _ e _=>n+1 - (intOf e).toNat)
 case atStart=>exact⟨0,0,[],rfl,BR.nil _ _,Y,zH rfl,by omega,by omega,Below.refl _ _⟩
 case round =>
  obtain⟨k,d,out,rfl,u,J,M,hk,zh,q⟩:=hrel
  obtain⟨av,cv,ev,-⟩:=id u.sl
  rw [M.out] at ev
  subst ev
  have zk:n<=c:=h.2.1
  obtain⟨⟨p,m,i⟩,hd⟩:∃ r,Fr.dec (l.drop d) ep k=r:=⟨_,rfl⟩
  have z:=Fr.MI (l.drop d) ep k
  have I:=Fr.QB l ep (n - k) k out d
  have H:=Fr.ML l ep (n - k) k out d
  rw [hd] at z I H
  simp only [List.length_drop] at z I H
  rw [G.out] at z
  have X:∀ N Q O,AM wr N Q O (l.drop d)->_:=fun N Q O hs=>Kj N Q O (l.drop d) ep k he (by omega) wr hs p m i hd
  have A:=zH X;have zd:=zH z;have zc:=zH I;have F:=zH H;have Z:=zH hd
  clear X z I H hd Y
  have hsz:=q.size
  rcases a with -|⟨b,o,sp⟩
  ·obtain⟨e1,e2⟩:=h.2.2.2.1 rfl
   subst e2
   obtain rfl:n=0:=by omega
   obtain rfl:d=0:=by omega
   obtain rfl:k=0:=by omega
   have j:AM wr none 0 0 (l.drop 0):=by rw [List.drop_zero];exact h.ext q
   have g:(i != 0)=true:=by
    have P:(Fr.dec (l.drop 0) ep 0).2.2=i:=by rw [Z.out]
    rw [<-P,e1];simp [Fr.dec]
   have t:¬ i=0:=by simpa using g
   clear e1
   go_wp2_with fail
   refine (A.out _ _ _ j).mono ?_;rintro e K ⟨B,rfl,s,f⟩
   go_wp2_with fail
   go_ret2
   exact Xv ((F.out t).symm.trans J.out) _ rfl (u.ext f) (q.trans (Below.mono f hsz))
  ·have x:d=n->(i != 0)=true:=by
    intro e
    have P:(Fr.dec (l.drop d) ep k).2.2=i:=by rw [Z.out]
    have h3:l.drop d=[]:=List.drop_eq_nil_of_le (by rw [G.out];omega)
    rw [<-P,h3];simp [Fr.dec]
   by_cases zi:n=0
   ·subst zi
    obtain rfl:d=0:=by omega
    obtain rfl:k=0:=by omega
    have g:=x rfl
    have t:¬ i=0:=by simpa using g
    have j:AM wr (some ⟨b,o,sp⟩) 0 c (l.drop 0):=by rw [List.drop_zero];exact h.ext q
    clear x
    go_wp2_with fail
    refine (A.out _ _ _ j).mono ?_;rintro e K ⟨B,rfl,s,f⟩
    go_wp2_with fail
    go_ret2
    exact Xv ((F.out t).symm.trans J.out) _ rfl (u.ext f) (q.trans (Below.mono f hsz))
   ·obtain⟨b',o',e,-,-,-⟩:=h.at (show 0 < n by omega)
    cases e
    by_cases zg:c=d
    ·have g:=x (by omega)
     have t:¬ i=0:=by simpa using g
     have j:AM wr (b o) 0 0 (l.drop d):=by rw [List.drop_eq_nil_of_le (by rw [G.out];omega)];exact AM.zero _ _ _
     obtain rfl:n=d:=by omega
     subst zg
     have y:Fr.go l ep (c - k+1) k out c=Fr.scan l ep:=by rw [<-J.out];congr 1;omega
     have C:=zH y
     clear x y
     go_wp2_with fail
     refine (A.out _ _ _ j).mono ?_;rintro e K ⟨B,rfl,s,f⟩
     go_wp2_with fail
     go_ret2
     exact Xv ((F.out t).symm.trans C.out) _ rfl (u.ext f) (q.trans (Below.mono f hsz))
    ·have j:AM wr (b (o+d)) (n - d) (c - d) (l.drop d):=(h.ext q).drop zh
     have y:Fr.go l ep (n - k+1) k out d=Fr.scan l ep:=by rw [<-J.out];congr 1;omega
     have C:=zH y
     have B:(0:Int)<=(d:Int):=by omega
     have v2:(d:Int)<=(n:Int):=by omega
     clear x y
     by_cases g:i=0
     ·obtain⟨o1,o2,o3⟩:=zd.out g
      have W:=(zc.out g).symm.trans C.out
      have zb:=zH W
      have zl:k+1 < 4294967296:=by omega
      have zj:14<=m:=by omega
      subst g
      clear W o1 o3
      go_wp2_with fail
      refine (A.out _ _ _ j).mono ?_;rintro e K ⟨B,rfl,s,f⟩
      have T:=u.ext f
      have R:=q.trans (Below.mono f hsz)
      have za:=R.size
      obtain⟨a1,c1,rfl,-,-⟩:=id s.sl
      go_wp2_with (at_builtin;go_must (refine Xg rfl _ _ rfl w.heap.size _ out rfl T _ p (s.mono hsz) _ _ rfl _ rfl rfl (by rw [M.out];omega) za ?_);intro v2 w2 zf U)
      have ze:=R.trans U
      clear s T f U j
      go_wp2
      go_roundw
      case rel=>exact⟨k+1,d+m,out ++ [p],by go_num,zf,zH (by rw [show n+1 - (k+1)=n - k by omega];exact zb.out),zH (by rw [List.length_append,M.out];rfl),by omega,by omega,ze⟩
      case measure=>simp [intOf];omega
     ·have t:(i != 0)=true:=by simpa using g
      go_wp2_with fail
      refine (A.out _ _ _ j).mono ?_;rintro e K ⟨B,rfl,s,f⟩
      go_wp2_with fail
      go_ret2
      exact Xv ((F.out g).symm.trans C.out) _ rfl (u.ext f) (q.trans (Below.mono f hsz))
end Go.Proofs.YtmanejniepghlaaGreatDoor
