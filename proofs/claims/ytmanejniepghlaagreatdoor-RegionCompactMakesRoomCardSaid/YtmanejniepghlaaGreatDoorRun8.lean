import Derived.Test.YtmanejniepghlaaGreatDoorRun7
import Derived.Test.YtmanejniepghlaaGreatDoorRun6
import Derived.Shelf.SlIterI.Nil
import Derived.Shelf.SlIterI.Sorted
import Derived.Shelf.SortM.Plain
import Derived.Shelf.SortM.SortNone
namespace Go.Proofs.YtmanejniepghlaaGreatDoor
section
open Go.RowKit
variable {z:Int}
section
variable {F:Nat->Prop} {w:World} {g s m:Nat} {fa:Option Addr} {fn fc:Nat} {d d':Disk.Dk}
theorem ze_e (h:PD F w g s m fa fn fc d) (f c off len:Int) (hf:ib f) (hc:ib c) (ho:ib off) (hl:ib len) {b:List UInt8} (hr:Extent.read d f c off len=(b,z,d')) :
 Calls Tryz.prog 127 #[.pointer (some ⟨g,0,none⟩),.agg #[.int .i64 f,.int .i64 c],.int .i64 off,.int .i64 len] w fun e w'=>∃ v,e=.returned (.tuple #[v,.int .i64 z])/\OwnB w.heap.size w' v b/\PD F w' g s m fa fn fc d'/\Upd F w F w':=by
 have:=zs_h h f c off len hf hc ho hl
 unfold ExReadPost at this;rw [hr] at this;exact this
theorem zc_z (h:PD F w g s m fa fn fc d) (f c off:Int) (hf:ib f) (hc:ib c) (ho:ib off) {a:Option Addr} {n ca:Nat} {x:List UInt8} (hx:SlB w a n ca x) (hF:∀ y,a=some y->x ≠ []->¬ F y.block) (hr:Extent.write d f c off x=(z,d')) :
 Calls Tryz.prog 108 #[.pointer (some ⟨g,0,none⟩),.agg #[.int .i64 f,.int .i64 c],.int .i64 off,.slice a n ca] w fun e w'=>e=.returned (.int .i64 z)/\∃ F',PD F' w' g s m fa fn fc d'/\Upd F w F' w':=by
 have:=zq_y h f c off hf hc ho a n ca x hx hF
 unfold ExWritePost at this;rw [hr] at this;exact this
end
end
section
variable {d:Disk.Dk} {e first n off:Nat}
namespace Extent
open Disk (Dk)
def rows (d:Dk):List (List UInt8):=(List.range d.st.length).map (Disk.content d)
def V (d:Dk):List UInt8:=(rows d).flatten
theorem zd_b (d:Dk):(rows d).length=d.st.length:=by simp [rows]
theorem zh_e (h:d.Ok):∀ x ∈ rows d,x.length=64:=by
 intro x hx
 obtain⟨i,hi,rfl⟩:=List.mem_map.1 hx
 exact Disk.content64 h i (List.mem_range.1 hi)
theorem V_length (h:d.Ok):(V d).length=64 * d.st.length:=by rw [V,Disk.flat_length _ (zh_e h),zd_b]
theorem zl_h (d:Dk) (i:Nat) (hi:i < d.st.length):(rows d)[i]?.getD []=Disk.content d i:=by simp [rows,hi]
theorem zs_z (h:d.Ok) (i:Nat) (hi:i < d.st.length):Disk.content d i=((V d).drop (64 * i)).take 64:=by
 rw [V,Disk.flat_slot _ (zh_e h) i (by rw [zd_b];exact hi),zl_h d i hi]
theorem zj_j (d:Dk) (h:d.Ok) (i j:Nat) (hi:i < d.st.length) (x:List UInt8):Disk.content (Disk.put d i x) j=if j=i then x else Disk.content d j:=by
 unfold Disk.content Disk.put
 have h1:i < d.ca.length:=by rw [h.len];exact hi
 by_cases e:j=i
 ·subst e;rw [if_pos rfl];simp [h1]
 ·rw [if_neg e];simp [Ne.symm e]
theorem zt_p (h:d.Ok) (i:Nat) (hi:i < d.st.length) (x:List UInt8) (hx:x.length=64):V (Disk.put d i x)=(V d).take (64 * i) ++ x ++ (V d).drop (64 * i+64):=by
 have h1:=Disk.flat_set (rows d) (zh_e h) i (by rw [zd_b];exact hi) x 64 hx (zN _)
 unfold V
 rw [h1,zl_h d i hi]
 have h2:(Disk.content d i).drop 64=[]:=List.drop_of_length_le (by rw [Disk.content64 h i hi];exact zN _)
 rw [h2,List.append_nil]
 congr 1
 refine List.ext_getElem (by simp [rows,Disk.put]) fun j hj1 hj2=>?_
 have hj:j < d.st.length:=by simpa [rows,Disk.put] using hj1
 rw [List.getElem_set]
 simp only [rows,List.getElem_map,List.getElem_range]
 rw [zj_j d h i j hi x]
 by_cases e:j=i
 ·subst e;simp
 ·rw [if_neg e,if_neg (fun e2=>e e2.symm)]
structure Quiet (n:Nat) (d:Dk):Prop where
 ok:d.Ok
 len:d.st.length=n
 on:d.off=false
 fs:d.fs=[]
theorem Quiet.tick (h:Quiet n d):Quiet n (Disk.tick d):=⟨⟨h.ok.len,h.ok.pos,h.ok.max,h.ok.st64,h.ok.ca64⟩,h.len,h.on,h.fs⟩
theorem Quiet.begin (h:Quiet n d):Disk.begin d true=(false,0,Disk.tick d):=by
 have:Disk.fault d=0:=by unfold Disk.fault;rw [h.fs];rfl
 unfold Disk.begin;rw [h.on,this];rfl
theorem Quiet.read (h:Quiet n d) (i:Nat) (hi:i < n):Disk.read d (i:Int)=(((V d).drop (64 * i)).take 64,0,Disk.tick d):=by
 have hf:Disk.fits d (i:Int)=true:=by unfold Disk.fits;simp [h.len,hi]
 rw [zj_i (by rw [hf];exact h.begin),<-zs_z h.ok i (by rw [h.len];exact hi)];rfl
theorem Quiet.write (h:Quiet n d) (i:Nat) (hi:i < n) (x:List UInt8) (hx:x.length=64):Disk.write d (i:Int) x=(0,Disk.put (Disk.tick d) i x)/\Quiet n (Disk.put (Disk.tick d) i x)/\V (Disk.put (Disk.tick d) i x)=(V d).take (64 * i) ++ x ++ (V d).drop (64 * i+64):=by
 have hf:(Disk.fits d (i:Int) && decide (x.length=64))=true:=by unfold Disk.fits;simp [h.len,hi,hx]
 refine⟨zh_k (by rw [hf];exact h.begin),⟨h.tick.ok.put i x hx,h.len,h.on,h.fs⟩,?_⟩
 exact zt_p h.tick.ok i (by rw [h.tick.len];exact hi) x hx
theorem Quiet.sync (h:Quiet n d):∃ d',Disk.sync d=(0,d')/\d'.st.flatten=V d:=by
 refine⟨Disk.flush (Disk.tick d),?_,rfl⟩
 unfold Disk.sync;rw [h.begin];rfl
theorem zm_g (d:Dk) (i j:Nat) (x:List UInt8) (h:(((Disk.put (Disk.tick d) i x).ca[j]?).getD none).isSome=true):((d.ca[j]?).getD none).isSome=true\/j=i:=by
 by_cases e:j=i
 ·exact .inr e
 ·left
  have:(Disk.put (Disk.tick d) i x).ca[j]?=d.ca[j]?:=by
   show (d.ca.set i (some x))[j]?=_
   simp [Ne.symm e]
  rw [this] at h;exact h
theorem glue (v:List UInt8) (A t:Nat) (x y:List UInt8) (hx:x.length=t) (hA:A<=v.length) :
 (v.take A ++ x ++ v.drop (A+t)).take (A+t) ++ y ++ (v.take A ++ x ++ v.drop (A+t)).drop (A+t+y.length)=v.take A ++ (x ++ y) ++ v.drop (A+(t+y.length)):=by
 have e1:(v.take A ++ x).length=A+t:=by rw [List.length_append,List.length_take,hx];omega
 rw [List.take_append_of_le_length (by omega),List.take_of_length_le (by omega),List.drop_append,List.drop_of_length_le (by omega),e1,List.nil_append,List.drop_drop]
 simp only [List.append_assoc]
 congr 4;omega
theorem sect (v x:List UInt8) (i q t:Nat) (hx:x.length=t) (hq:q+t<=64) (hv:64 * i+64<=v.length) :
 v.take (64 * i) ++ (((v.drop (64 * i)).take 64).take q ++ x ++ ((v.drop (64 * i)).take 64).drop (q+t)) ++ v.drop (64 * i+64)=v.take (64 * i+q) ++ x ++ v.drop (64 * i+q+t):=by
 have e1:((v.drop (64 * i)).take 64).take q=(v.drop (64 * i)).take q:=by rw [List.take_take,Nat.min_eq_left (by omega)]
 have e2:v.take (64 * i) ++ (v.drop (64 * i)).take q=v.take (64 * i+q):=List.take_add.symm
 have e3:((v.drop (64 * i)).take 64).drop (q+t) ++ v.drop (64 * i+64)=v.drop (64 * i+q+t):=by
  have:v.drop (64 * i+64)=(v.drop (64 * i)).drop 64:=by rw [List.drop_drop]
  rw [this]
  have h2:=List.take_append_drop 64 (v.drop (64 * i))
  have h3:(v.drop (64 * i)).drop (q+t)=v.drop (64 * i+q+t):=by rw [List.drop_drop,Nat.add_assoc]
  rw [<-h3]
  conv=>rhs;rw [<-h2]
  rw [List.drop_append_of_le_length (by rw [List.length_take,List.length_drop];omega)]
 rw [e1]
 simp only [List.append_assoc]
 rw [e3,<-List.append_assoc,e2]
theorem zq_x (hoe:off<=e) (hin:first * 64+e<=n * 64):∀ (m k:Nat) (data:List UInt8) (d:Dk),Quiet n d->k+m=Extent.cnt off e->data.length=e - pos off e k →
 ∃ d',wr first off e m k data d=(0,d')/\Quiet n d'/\V d'=(V d).take (first * 64+pos off e k) ++ data ++ (V d).drop (first * 64+pos off e k+data.length) ∧
  ∀ j,((d'.ca[j]?).getD none).isSome=true->((d.ca[j]?).getD none).isSome=true\/(first+pos off e k / 64<=j/\j * 64 < first * 64+e/\pos off e k < e):=by
 intro m
 induction m with
|zero =>
  intro k data d h hk hd
  have hpc:pos off e k=e:=by rw [show k=Extent.cnt off e by omega];exact pos_cnt off e hoe
  have:data=[]:=List.eq_nil_of_length_eq_zero (by omega)
  exact⟨d,rfl,h,by rw [this];simp,fun j hj=>.inl hj⟩
|succ m ih =>
  intro k data d h hk hd
  have hlt:=(pos_lt off e k hoe).2 (by omega)
  have hsu:=pos_succ off e k (by omega)
  obtain⟨s1,s2,s3,s4⟩:=step_pos hlt
  have hi:first+pos off e k / 64 < n:=by omega
  have hd':(data.drop (step e (pos off e k))).length=e - pos off e (k+1):=by rw [List.length_drop,hd,hsu];omega
  have hVl:=V_length h.ok
  rw [h.len] at hVl
  have key:∃ d2,Disk.write (if step e (pos off e k) < 64 then Disk.tick d else d) ((first+pos off e k / 64:Nat):Int) ((((V d).drop (64 * (first+pos off e k / 64))).take 64).take (pos off e k % 64) ++ data.take (step e (pos off e k)) ++ (((V d).drop (64 * (first+pos off e k / 64))).take 64).drop (pos off e k % 64+step e (pos off e k)))=(0,d2)/\Quiet n d2 ∧
   V d2=(V d).take (first * 64+pos off e k) ++ data.take (step e (pos off e k)) ++ (V d).drop (first * 64+pos off e k+step e (pos off e k))/\∀ j,((d2.ca[j]?).getD none).isSome=true->((d.ca[j]?).getD none).isSome=true\/j=first+pos off e k / 64:=by
   have hq:Quiet n (if step e (pos off e k) < 64 then Disk.tick d else d):=by split;exact h.tick;exact h
   have hx:((((V d).drop (64 * (first+pos off e k / 64))).take 64).take (pos off e k % 64) ++ data.take (step e (pos off e k)) ++ (((V d).drop (64 * (first+pos off e k / 64))).take 64).drop (pos off e k % 64+step e (pos off e k))).length=64:=by
    simp only [List.length_append,List.length_take,List.length_drop,hVl,hd];omega
   obtain⟨q1,q2,q3⟩:=hq.write _ hi _ hx
   have hVt:V (if step e (pos off e k) < 64 then Disk.tick d else d)=V d:=by split <;> rfl
   have hct:(if step e (pos off e k) < 64 then Disk.tick d else d).ca=d.ca:=by split <;> rfl
   refine⟨_,q1,q2,?_,fun j hj=>?_⟩
   ·rw [q3,hVt,sect _ _ _ _ _ (by rw [List.length_take,hd];omega) s3 (by omega)]
    have e1:64 * (first+pos off e k / 64)+pos off e k % 64=first * 64+pos off e k:=by omega
    rw [e1]
   ·have:=zm_g _ _ _ _ hj
    rw [hct] at this;exact this
  obtain⟨d2,w1,w2,w3,w4⟩:=key
  obtain⟨d',i1,i2,i3,i4⟩:=ih (k+1) _ d2 w2 (by omega) hd'
  have e1:wr first off e (m+1) k data d=(0,d'):=by
   by_cases hs:step e (pos off e k) < 64
   ·rw [if_pos hs] at w1
    have hrd:=h.read (first+pos off e k / 64) hi
    generalize (V d).drop (64 * (first+pos off e k / 64))=S at *
    have e3:=wr_part (first:=first) (off:=off) (e:=e) (k:=k) (m:=m) (data:=data) hs hrd w1
    rw [if_pos rfl] at e3
    exact e3.trans i1
   ·rw [if_neg hs] at w1
    have hst:step e (pos off e k)=64:=by omega
    have hmod:pos off e k % 64=0:=by omega
    rw [hmod,hst] at w1
    have e2:(((V d).drop (64 * (first+pos off e k / 64))).take 64).drop (0+64)=[]:=List.drop_of_length_le (by rw [List.length_take];omega)
    rw [e2,List.take_zero,List.nil_append,List.append_nil] at w1
    have e3:=wr_full (first:=first) (off:=off) (e:=e) (k:=k) (m:=m) (data:=data) (d:=d) (z2:=0) (d2:=d2) hs (by rw [hst];exact w1)
    rw [if_pos rfl] at e3
    exact e3.trans i1
  refine⟨d',e1,i2,?_,fun j hj=>?_⟩
  ·rw [i3,w3,hsu,show first * 64+(pos off e k+step e (pos off e k))=first * 64+pos off e k+step e (pos off e k) by omega,
    glue _ _ _ _ _ (by rw [List.length_take,hd];omega) (by omega),List.take_append_drop]
   congr 2
   rw [List.length_drop];omega
  ·rcases i4 j hj with e|⟨e2,e3,e4⟩
   ·rcases w4 j e with e|e
    ·exact .inl e
    ·exact .inr ⟨by omega,by omega,hlt⟩
   ·exact .inr ⟨by omega,e3,hlt⟩
theorem zq_c (hoe:off<=e) (hin:first * 64+e<=n * 64):∀ (m k:Nat) (acc:List UInt8) (d:Dk),Quiet n d->k+m=Extent.cnt off e →
 ∃ d',rd first off e m k acc d=(acc ++ ((V d).drop (first * 64+pos off e k)).take (e - pos off e k),0,d')/\Quiet n d'/\V d'=V d/\d'.ca=d.ca:=by
 intro m
 induction m with
|zero =>
  intro k acc d h hk
  have hpc:pos off e k=e:=by rw [show k=Extent.cnt off e by omega];exact pos_cnt off e hoe
  exact⟨d,by rw [hpc];simp [rd],h,rfl,rfl⟩
|succ m ih =>
  intro k acc d h hk
  have hlt:=(pos_lt off e k hoe).2 (by omega)
  have hsu:=pos_succ off e k (by omega)
  obtain⟨s1,s2,s3,s4⟩:=step_pos hlt
  have hi:first+pos off e k / 64 < n:=by omega
  have hVl:=V_length h.ok
  rw [h.len] at hVl
  obtain⟨d',i1,i2,i3,i4⟩:=ih (k+1) (acc ++ ((((V d).drop (64 * (first+pos off e k / 64))).take 64).drop (pos off e k % 64)).take (step e (pos off e k))) (Disk.tick d) h.tick (by omega)
  refine⟨d',?_,i2,i3,i4⟩
  rw [Extent.rd_ok (first:=first) (off:=off) (e:=e) (m:=m) (k:=k) (h.read (first+pos off e k / 64) hi),i1]
  congr 1
  have hVt:V (Disk.tick d)=V d:=rfl
  rw [hVt,List.append_assoc,hsu]
  congr 1
  have e1:((((V d).drop (64 * (first+pos off e k / 64))).take 64).drop (pos off e k % 64)).take (step e (pos off e k))=((V d).drop (first * 64+pos off e k)).take (step e (pos off e k)):=by
   rw [List.drop_take,List.take_take,Nat.min_eq_left (by omega),List.drop_drop,show 64 * (first+pos off e k / 64)+pos off e k % 64=first * 64+pos off e k by omega]
  rw [e1,show first * 64+(pos off e k+step e (pos off e k))=(first * 64+pos off e k)+step e (pos off e k) by omega,<-List.drop_drop,show e - pos off e k=step e (pos off e k)+(e - (pos off e k+step e (pos off e k))) by omega,List.take_add]
  simp only [List.drop_drop,Nat.add_assoc]
end Extent
end
end Go.Proofs.YtmanejniepghlaaGreatDoor
