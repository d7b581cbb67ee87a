import Derived.Test.YtmanejniepghlaaGreatDoorRun0
namespace Go.Proofs.YtmanejniepghlaaGreatDoor
open Go.RowKit
theorem zh_c (β:Bool) (n:Int) (w:World) (_h1:-9223372036854775808<=n) (_h2:n<=9223372036854775807):Calls Tryz.prog (cond β 248 231) #[n] w fun e w'=>e=.returned (.bool (Puny.point n))/\w=w':=by
 cases β <;> dsimp only [cond]
 all_goals
  by_cases h0:n < 0
  case' neg=>
   by_cases h1:1114111 < n
   ·rw [show Puny.point n=false by rw [<-Bool.not_eq_true,Puny.point_iff];omega]
    first|(go_at_call 248;go_enter Tryz.func248,Tryz.ntmps248)|go_enter Tryz.func231,Tryz.ntmps231
    go_wp2
    go_ret
    exact⟨rfl,rfl⟩
   by_cases h2:n < 55296
   ·rw [show Puny.point n=true by rw [Puny.point_iff];omega]
    first|(go_at_call 248;go_enter Tryz.func248,Tryz.ntmps248)|go_enter Tryz.func231,Tryz.ntmps231
    go_wp2
    go_ret
    exact⟨rfl,rfl⟩
   by_cases h3:57343 < n
   ·rw [show Puny.point n=true by rw [Puny.point_iff];omega]
    first|(go_at_call 248;go_enter Tryz.func248,Tryz.ntmps248)|go_enter Tryz.func231,Tryz.ntmps231
    go_wp2
    go_ret
    exact⟨rfl,rfl⟩
  all_goals
   rw [show Puny.point n=false by rw [<-Bool.not_eq_true,Puny.point_iff];omega]
   first|(go_at_call 248;go_enter Tryz.func248,Tryz.ntmps248)|go_enter Tryz.func231,Tryz.ntmps231
   go_wp2
   go_ret
   exact⟨rfl,rfl⟩
theorem ze_v (β:Bool) (d:Int) (w:World) (h0:0<=d) (h1:d < 36):Calls Tryz.prog (cond β 260 232) #[d] w fun e w'=>e=.returned (bv (Puny.digit d))/\w=w':=by
 cases β <;> dsimp only [cond]
 all_goals
  unfold bv Puny.digit
  by_cases h:d < 26
  case' _=>
   rw [if_pos h]
   have e1:((UInt8.ofNat (97+d).toNat).toNat:Int)=97+d:=by
    have:(UInt8.ofNat (97+d).toNat).toNat=(97+d).toNat:=by simp;omega
    rw [this];omega
  rotate_left
  case' _=>
   rw [if_neg h]
   have e1:((UInt8.ofNat (48+d - 26).toNat).toNat:Int)=48+d - 26:=by
    have:(UInt8.ofNat (48+d - 26).toNat).toNat=(48+d - 26).toNat:=by simp;omega
    rw [this];omega
  all_goals
   rw [e1]
   clear e1
   first|(go_at_call 260;go_enter Tryz.func260,Tryz.ntmps260)|go_enter Tryz.func232,Tryz.ntmps232
   go_wp2
   go_ret
   exact⟨rfl,rfl⟩
theorem zl_b (β:Bool) (b:UInt8) (w:World):Calls Tryz.prog (cond β 265 228) #[.int .u8 (b.toNat:Int)] w fun e w'=>e=.returned (.int .i64 (Puny.value b))/\w=w':=by
 cases β <;> dsimp only [cond]
 all_goals
  have hb:=b.toNat_lt
  unfold Puny.value
  generalize b.toNat=x at *
  by_cases h97:97<=x/\x<=122
  ·rw [if_pos h97]
   obtain⟨g1,g2⟩:=h97
   first|(go_at_call 265;go_enter Tryz.func265,Tryz.ntmps265)|go_enter Tryz.func228,Tryz.ntmps228
   go_wp2
   go_ret
   exact⟨rfl,rfl⟩
  rw [if_neg h97]
  by_cases h65:65<=x/\x<=90
  ·rw [if_pos h65]
   obtain⟨g1,g2⟩:=h65
   first|(go_at_call 265;go_enter Tryz.func265,Tryz.ntmps265)|go_enter Tryz.func228,Tryz.ntmps228
   go_wp2
   go_ret
   exact⟨rfl,rfl⟩
  rw [if_neg h65]
  by_cases h48:48<=x/\x<=57
  ·rw [if_pos h48]
   obtain⟨g1,g2⟩:=h48
   first|(go_at_call 265;go_enter Tryz.func265,Tryz.ntmps265)|go_enter Tryz.func228,Tryz.ntmps228
   go_wp2
   go_ret
   exact⟨rfl,rfl⟩
  rw [if_neg h48]
  have k1:x < 97\/122 < x:=by omega
  have k2:x < 65\/90 < x:=by omega
  have k3:x < 48\/57 < x:=by omega
  clear h97 h65 h48
  rcases k1 with k1|k1 <;> rcases k2 with k2|k2 <;> rcases k3 with k3|k3
  all_goals first|omega|skip
  all_goals
   first|(go_at_call 265;go_enter Tryz.func265,Tryz.ntmps265)|go_enter Tryz.func228,Tryz.ntmps228
   go_wp2
   go_ret
   exact⟨rfl,rfl⟩
set_option maxHeartbeats 1000000 in
theorem ze_u (β:Bool) (delta count:Int) (first:Bool) (w:World) (hd0:0<=delta) (hd1:delta<=2199023255552) (hc0:1<=count) (hc1:count<=100000) :
 Calls Tryz.prog (cond β 250 230) #[delta,count,.bool first] w fun e w'=>e=.returned (.int .i64 (Puny.adapt delta count first))/\w=w':=by
 cases β <;> dsimp only [cond]
 all_goals
  obtain⟨s0,s1⟩:=Puny.adStart_bd delta count first hd0 hc0
  unfold Puny.adapt
  obtain⟨R,hR⟩:∃ R,R=Puny.adGo ((Puny.adStart delta count first).toNat+1) (Puny.adStart delta count first) 0:=⟨_,rfl⟩
  have hS:Puny.adStart delta count first=(if first then delta / 700 else delta / 2)+(if first then delta / 700 else delta / 2) / count:=rfl
  rw [<-hR]
  generalize Puny.adStart delta count first=S at *
  have HR:=zH hR;have HS:=zH hS
  clear hR hS
  have hq:∀ x:Int,0<=x->0<=x / count/\x / count<=x:=fun x hx=>⟨Int.ediv_nonneg hx (by omega),Int.ediv_le_self _ hx⟩
  cases first
  case' _=>
   have HSS:=zH (show delta / 2+delta / 2 / count=S by rw [HS.out];rfl)
   obtain⟨q0,q1⟩:=hq (delta / 2) (by omega)
  rotate_left
  case' _=>
   have HSS:=zH (show delta / 700+delta / 700 / count=S by rw [HS.out];rfl)
   obtain⟨q0,q1⟩:=hq (delta / 700) (by omega)
  all_goals
   clear hq
   first|(go_at_call 250;go_enter Tryz.func250,Tryz.ntmps250)|go_enter Tryz.func230,Tryz.ntmps230
   go_wp2
   rw [HSS.out]
   go_loop [0,7] (fun d k=>∃ (D K:Int) (f:Nat),d=.int .i64 D/\k=.int .i64 K/\0<=D/\0<=K/\K+D<=5000000000000/\D < f/\Hid (Puny.adGo f D K=R)) (fun d _=>(intOf d).toNat)
   case atStart=>exact⟨S,0,S.toNat+1,rfl,rfl,s0,Int.le_refl _,by omega,by omega,zH HR.out.symm⟩
   case round =>
    obtain⟨D,K,f,rfl,rfl,hD,hK,hKD,hf,HG⟩:=hrel
    obtain⟨f,rfl⟩:∃ g,f=g+1:=⟨f - 1,by omega⟩
    by_cases hlt:455 < D
    ·have hg:=HG.out
     rw [Puny.adGo,if_pos hlt] at hg
     have HG2:=zH hg
     clear hg
     go_wp2
     go_round
     case rel=>exact⟨D / 35,K+36,f,rfl,rfl,by omega,by omega,by omega,by omega,HG2⟩
     case measure=>simp [intOf];omega
    ·have hg:=HG.out
     rw [Puny.adGo,if_neg hlt] at hg
     have q2:0<=36 * D / (D+38):=Int.ediv_nonneg (by omega) (by omega)
     have q3:36 * D / (D+38)<=36 * D:=Int.ediv_le_self _ (by omega)
     have HG2:=zH hg
     clear hg
     go_wp2
     rw [HG2.out]
     go_ret
     exact⟨rfl,rfl⟩
end Go.Proofs.YtmanejniepghlaaGreatDoor
