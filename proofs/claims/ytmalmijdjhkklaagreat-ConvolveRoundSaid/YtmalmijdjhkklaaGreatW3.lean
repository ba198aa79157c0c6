/- modular.Mul, modular.Pow. -/
import Derived.Test.YtmalmijdjhkklaaGreatW1
import Derived.Test.YtmalmijdjhkklaaGreatDiv
import Derived.Deep.DeepCutAuto
import Derived.Deep.CutBlock
import Derived.Test.YtmalmijdjhkklaaGreatW5
set_option linter.unusedVariables false
set_option linter.unusedSimpArgs false
set_option maxRecDepth 100000
set_option maxHeartbeats 16000000
namespace Go.Proofs.YtmalmijdjhkklaaGreat
open Go.RowKit
section
theorem zFC (h l y s Y U L y1 y0 u1 u0 q r t1 V q2 r2 t0 R:Int) (w:World) (h0:(h == 0)=false) (hh0:0≤h) (hhy:h<y) (hl0:0≤l) (hl:l≤18446744073709551615) (hy:y≤18446744073709551615)
  (hs:Hid (64-(Lib.bitLen y.toNat:Int)=s)) (hs0:0≤s) (hs1:s≤63) (eY:IntKind.u64.wrap (y*2^s.toNat)=Y) (eL:IntKind.u64.wrap (l*2^s.toNat)=L)
  (eU:bits .or .u64 (IntKind.u64.wrap (h*2^s.toNat)) (l/2^(64-s).toNat)=U)
  (ey1:Y/4294967296=y1) (ey0:bits .and .u64 Y 4294967295=y0) (eu1:L/4294967296=u1) (eu0:bits .and .u64 L 4294967295=u0)
  (b1:2147483648≤y1) (b2:y1≤4294967295) (b3:0≤y0) (b4:y0≤4294967295) (b5:0≤u1) (b6:u1≤4294967295) (b7:0≤u0) (b8:u0≤4294967295) (b9:0≤U) (b10:U≤18446744073709551615)
  (eq:U/y1=q) (er:IntKind.u64.wrap (U-IntKind.u64.wrap (q*y1))=r) (hq:Div.QI U u1 Y y1 y0 q r)
  (ht1:Hid ((U*4294967296+u1)/Y=t1)) (bt1:0≤t1) (bt1':t1≤4294967295)
  (eV:IntKind.u64.wrap (IntKind.u64.wrap (IntKind.u64.wrap (U*4294967296)+u1)-IntKind.u64.wrap (t1*Y))=V) (bV:0≤V) (bV':V≤18446744073709551615)
  (eq2:V/y1=q2) (er2:IntKind.u64.wrap (V-IntKind.u64.wrap (q2*y1))=r2) (hq2:Div.QI V u0 Y y1 y0 q2 r2)
  (ht0:Hid ((V*4294967296+u0)/Y=t0)) (bt0:0≤t0) (bt0':t0≤4294967295)
  (eR:IntKind.u64.wrap (IntKind.u64.wrap (IntKind.u64.wrap (V*4294967296)+u0)-IntKind.u64.wrap (t0*Y))=R) (bR:0≤R)
  (fin1:Hid (t1*4294967296+t0=(h*18446744073709551616+l)/y)) (fin2:Hid (R/2^s.toNat=(h*18446744073709551616+l)%y)):
  Calls Tryz.prog 198 #[.int .u64 h, .int .u64 l, .int .u64 y] w fun e w'=>e= .returned (.tuple #[.int .u64 ((h*18446744073709551616+l)/y), .int .u64 ((h*18446744073709551616+l)%y)])∧ ∃n,w'=w.drewN n:=by
 have c1:(y == 0)=false:=beq_eq_false_iff_ne.2 (by omega)
 go_enter Tryz.func198,Tryz.ntmps198
 go_upto_block 0 with (go_at_call 218;refine (zLj y _ (by omega) hy).mono ?_;rintro e w' ⟨rfl,rfl⟩;rw [hs.out])
 have eqs:=zy eq
 have eVs:=zy eV
 have eqs2:=zy eq2
 have ers2:=zy er2
 have eRs:=zy eR
 clear eY eL eU ey1 ey0 eu1 eu0 eq er c1 eV eq2 er2 eR
 go_cut [15] (fun v wx=>v= .int .u64 t1∧wx=w)
 case first=>
  go_wp2_with fail
  go_loop [15,16] (fun a b=> ∃q r:Int,a= .int .u64 q∧b= .int .u64 r∧Div.QI U u1 Y y1 y0 q r) (fun a _=>(intOf a).toNat)
  case atStart=>exact ⟨q,r,by rw [eqs.out],rfl,hq⟩
  case round=>
   clear hq eqs
   obtain ⟨q,r,rfl,rfl,hq⟩:=hrel
   have f1:=hq.t_lt
   have f2:=hq.le
   have f3:=hq.r0
   have f4:=hq.rb
   have f5:=hq.qb
   have g1:0≤q:=by omega
   have f6:=hq.y0b
   by_cases hbig:4294967296≤q
   ·have e:=hq.test_big hbig
    have e1:1≤q:=by omega
    by_cases hb:4294967296≤r+y1
    ·have es:=hq.stop e hb
     have HQ:=zy hq
     have HS:=zy es
     clear f1 f2 e hq es
     go_wp2
     go_meet
     exact ⟨by rw [←ht1.out,HS.out],rfl⟩
    ·have en:=zy (hq.next e (by omega))
     clear f1 f2 e hq
     go_wp2
     go_round
     case rel=>exact ⟨q-1,r+y1,rfl,rfl,en.out⟩
     case measure=>simp [intOf];omega
   ·have hp:0≤q*y0∧q*y0≤4294967295*4294967295:=⟨Int.mul_nonneg g1 b3,Int.mul_le_mul (by omega) (by omega) b3 (by omega)⟩
    have hw:IntKind.u64.wrap (q*y0)=q*y0:=IntWalk.u64_in _ (by omega)
    by_cases ht:4294967296*r+u1<q*y0
    ·have e:=hq.test_yes ht
     have e1:1≤q:=by omega
     by_cases hb:4294967296≤r+y1
     ·have es:=hq.stop e hb
      have HS:=zy es
      clear f1 f2 e hq es hp
      go_wp2
      go_meet
      exact ⟨by rw [←ht1.out,HS.out],rfl⟩
     ·have en:=zy (hq.next e (by omega))
      clear f1 f2 e hq hp
      go_wp2
      go_round
      case rel=>exact ⟨q-1,r+y1,rfl,rfl,en.out⟩
      case measure=>simp [intOf];omega
    ·have e:=zy (hq.test_no (by omega))
     clear f1 f2 hq hp
     go_wp2
     go_meet
     exact ⟨by rw [←ht1.out,e.out],rfl⟩
 case rest=>
  obtain ⟨rfl,rfl⟩:=hcut
  clear hq
  have eV:=eVs.out
  have eq2:=eqs2.out
  have er2:=ers2.out
  clear eVs ers2
  go_upto_block 2 with fail
  clear eV er2 eq2
  go_cut [18] (fun v wx=>v= .int .u64 t0∧wx=wc)
  case first=>
   go_wp2_with fail
   go_loop [18,16] (fun a b=> ∃q r:Int,a= .int .u64 q∧b= .int .u64 r∧Div.QI V u0 Y y1 y0 q r) (fun a _=>(intOf a).toNat)
   case atStart=>exact ⟨q2,r2,by rw [eqs2.out],rfl,hq2⟩
   case round=>
    clear hq2 eqs2
    obtain ⟨q,r,rfl,rfl,hq⟩:=hrel
    have f1:=hq.t_lt
    have f2:=hq.le
    have f3:=hq.r0
    have f4:=hq.rb
    have f5:=hq.qb
    have g1:0≤q:=by omega
    have f6:=hq.y0b
    by_cases hbig:4294967296≤q
    ·have e:=hq.test_big hbig
     have e1:1≤q:=by omega
     by_cases hb:4294967296≤r+y1
     ·have es:=hq.stop e hb
      have HQ:=zy hq
      have HS:=zy es
      clear f1 f2 e hq es
      go_wp2
      go_meet
      exact ⟨by rw [←ht0.out,HS.out],rfl⟩
     ·have en:=zy (hq.next e (by omega))
      clear f1 f2 e hq
      go_wp2
      go_round
      case rel=>exact ⟨q-1,r+y1,rfl,rfl,en.out⟩
      case measure=>simp [intOf];omega
    ·have hp:0≤q*y0∧q*y0≤4294967295*4294967295:=⟨Int.mul_nonneg g1 b3,Int.mul_le_mul (by omega) (by omega) b3 (by omega)⟩
     have hw:IntKind.u64.wrap (q*y0)=q*y0:=IntWalk.u64_in _ (by omega)
     by_cases ht:4294967296*r+u0<q*y0
     ·have e:=hq.test_yes ht
      have e1:1≤q:=by omega
      by_cases hb:4294967296≤r+y1
      ·have es:=hq.stop e hb
       have HS:=zy es
       clear f1 f2 e hq es hp
       go_wp2
       go_meet
       exact ⟨by rw [←ht0.out,HS.out],rfl⟩
      ·have en:=zy (hq.next e (by omega))
       clear f1 f2 e hq hp
       go_wp2
       go_round
       case rel=>exact ⟨q-1,r+y1,rfl,rfl,en.out⟩
       case measure=>simp [intOf];omega
     ·have e:=zy (hq.test_no (by omega))
      clear f1 f2 hq hp
      go_wp2
      go_meet
      exact ⟨by rw [←ht0.out,e.out],rfl⟩
  case rest=>
   obtain ⟨rfl,rfl⟩:=hcut
   clear hq2
   have eR:=eRs.out
   clear eRs
   go_wp2
   go_ret2
   exact ⟨zRE fin1.out fin2.out,0,rfl⟩
theorem zCt (n:Nat): ∀x:Nat,x≤n→x≠0→x<18446744073709551616→2^(Lib.bitLen x-1)≤x∧x<2^Lib.bitLen x∧1≤Lib.bitLen x:=by
 induction n with
 | zero=>intro x h0 h1;omega
 | succ n ih=>
  intro x hx h0 h1
  have e:=Lib.bitLen_half x h0 h1
  by_cases hx1:x/2=0
  ·have hb:Lib.bitLen (x/2)=0:=by rw [hx1];decide
   have hx2:x=1:=by omega
   rw [e,hb];subst hx2
   decide
  ·obtain ⟨a,b,c⟩:=ih (x/2) (by omega) hx1 (by omega)
   rw [e]
   obtain ⟨m,hm⟩: ∃m,Lib.bitLen (x/2)=m+1:=⟨Lib.bitLen (x/2)-1,by omega⟩
   rw [hm] at a b ⊢
   have e1:1+(m+1)-1=m+1:=by omega
   have e2:1+(m+1)=(m+1)+1:=by omega
   rw [e1,e2,Nat.pow_succ 2 (m+1)]
   have e3:m+1-1=m:=by omega
   rw [e3] at a
   have e4:2^(m+1)=2^m*2:=Nat.pow_succ ..
   omega
theorem zNu (x y:Int) (s:Nat) (hs:s≤63) (hx0:0≤x) (hx:x<18446744073709551616) (hy0:0≤y) (hd:x%((2^s:Nat):Int)=0) (hy:y<((2^s:Nat):Int)):bits .or .u64 x y=x+y:=by
 obtain ⟨a,rfl⟩:=Int.eq_ofNat_of_zero_le hx0
 obtain ⟨b,rfl⟩:=Int.eq_ofNat_of_zero_le hy0
 have hp:2^s≤2^63:=Nat.pow_le_pow_right (by omega) hs
 rw [u64_or_nat a b (by omega) (by omega),nat_join s a b (by omega) (by omega)]
 rfl
theorem zFB (h l y:Int) (w:World) (hh0:0≤h) (hhy:h<y) (hl0:0≤l) (hl:l≤18446744073709551615) (hy:y≤18446744073709551615):
  Calls Tryz.prog 198 #[.int .u64 h, .int .u64 l, .int .u64 y] w fun e w'=>e= .returned (.tuple #[.int .u64 ((h*18446744073709551616+l)/y), .int .u64 ((h*18446744073709551616+l)%y)])∧ ∃n,w'=w.drewN n:=by
 by_cases h0:h=0
 ·subst h0
  have b1:(y == 0)=false:=beq_eq_false_iff_ne.2 (by omega)
  go_enter Tryz.func198,Tryz.ntmps198
  go_wp2
  go_quiet (fail)
  go_wp2
  go_ret2
  exact ⟨zRE (by simp) (by simp),_,rfl⟩
 ·obtain ⟨c1,c2,c3⟩:=zCt y.toNat y.toNat (Nat.le_refl _) (by omega) (by omega)
  have c4:=bitLen_le64 y (by omega) hy
  generalize hb:Lib.bitLen y.toNat=b at c1 c2 c3 c4
  have hk:(2:Int)^(64-b)*2^b=18446744073709551616:=by
   rw [←Int.pow_add,show 64-b+b=64 by omega];rfl
  have hk2:(2:Int)^b=2*2^(b-1):=by
   rw [show b=(b-1)+1 by omega,Int.pow_succ];simp;omega
  have hyb:(2:Int)^(b-1)≤y:=by have:=Int.ofNat_le.2 c1;simp at this;omega
  have hyb2:y<(2:Int)^b:=by have:=Int.ofNat_lt.2 c2;simp at this;omega
  have hK0:(0:Int)<2^(64-b):=Int.pow_pos (by omega)
  have hs:(64-(b:Int)).toNat=64-b:=by omega
  have hs2:(64-(64-(b:Int))).toNat=b:=by omega
  have hJ0:(0:Int)<2^b:=Int.pow_pos (by omega)
  have hor: ∀x z:Int,0≤x→x<18446744073709551616→0≤z→x%2^(64-b)=0→z<2^(64-b)→bits .or .u64 x z=x+z:=fun x z a1 a2 a3 a4 a5=>
   zNu x z (64-b) (by omega) a1 a2 a3 (by simpa using a4) (by simpa using a5)
  generalize hKe:(2:Int)^(64-b)=K at *
  generalize hJe:(2:Int)^b=J at *
  generalize (2:Int)^(b-1)=I at *
  have hYlo:9223372036854775808≤y*K:=by
   have:I*K≤y*K:=Int.mul_le_mul_of_nonneg_right hyb (by omega)
   have e:K*J=2*(I*K):=by rw [hk2];grind
   omega
  have hYhi:y*K<18446744073709551616:=by
   have:y*K<J*K:=Int.mul_lt_mul_of_pos_right hyb2 hK0
   have e:J*K=K*J:=Int.mul_comm ..
   omega
  have hhK:h*K≤y*K-K:=by
   have:h*K≤(y-1)*K:=Int.mul_le_mul_of_nonneg_right (by omega) (by omega)
   have e:(y-1)*K=y*K-K:=by grind
   omega
  have hhK0:0≤h*K:=Int.mul_nonneg hh0 (by omega)
  have hlJ:l/J<K:=Int.ediv_lt_of_lt_mul hJ0 (by rw [hk];omega)
  have hlJ0:0≤l/J:=Int.ediv_nonneg hl0 (by omega)
  have hlK:l*K=(l/J)*18446744073709551616+(l*K)%18446744073709551616:=by
   have d:=Int.mul_ediv_add_emod l J
   have e:l*K=(l/J)*(K*J)+(l%J)*K:=by
    have:l*K=(J*(l/J)+l%J)*K:=by rw [d]
    rw [this];grind
   have hm:0≤(l%J)*K∧(l%J)*K<18446744073709551616:=by
    have m0:=Int.emod_nonneg l (show J≠0 by omega)
    have m1:=Int.emod_lt_of_pos l hJ0
    refine ⟨Int.mul_nonneg m0 (by omega),?_⟩
    have:(l%J)*K<J*K:=Int.mul_lt_mul_of_pos_right m1 hK0
    have e:J*K=K*J:=Int.mul_comm ..
    omega
   rw [e,hk]
   generalize (l%J)*K=z at *
   generalize l/J=v at *
   omega
  have hmul:(h*18446744073709551616+l)*K=(h*K+l/J)*18446744073709551616+(l*K)%18446744073709551616:=by
   have e:(h*18446744073709551616+l)*K=(h*K)*18446744073709551616+l*K:=by grind
   rw [e]
   generalize (l*K)%18446744073709551616=z at *
   generalize l/J=v at *
   generalize h*K=a at *
   omega
  have hwY:IntKind.u64.wrap (y*K)=y*K:=IntWalk.u64_in _ (by omega)
  have hwh:IntKind.u64.wrap (h*K)=h*K:=IntWalk.u64_in _ (by omega)
  have hU:=hor (h*K) (l/J) hhK0 (by omega) hlJ0 (Int.mul_emod_left h K) hlJ
  have sc:=Div.scaled (h*18446744073709551616+l) y K hK0 (by omega)
  rw [hmul] at sc
  have hUY:h*K+l/J<y*K:=by omega
  have hU0:0≤h*K+l/J:=by omega
  have hL0:=Int.emod_nonneg (l*K) (show (18446744073709551616:Int)≠0 by omega)
  have hL1:=Int.emod_lt_of_pos (l*K) (show (0:Int)<18446744073709551616 by omega)
  generalize hYe:y*K=Y at *
  generalize hUe:h*K+l/J=U at *
  generalize hLe:(l*K)%18446744073709551616=L at *
  have q1:=Div.QI.start (U:=U) (u:=L/4294967296) (Y:=Y) (y1:=Y/4294967296) (y0:=Y%4294967296) (by omega) (by omega) (by omega) (by omega) (by omega) (by omega) (by omega) hU0 hUY
  have t1b:=q1.t_lt
  have hV0:=Int.emod_nonneg (U*4294967296+L/4294967296) (show Y≠0 by omega)
  have hV1:=Int.emod_lt_of_pos (U*4294967296+L/4294967296) (show 0<Y by omega)
  have hVd:=Int.mul_ediv_add_emod (U*4294967296+L/4294967296) Y
  have q0:=Div.QI.start (U:=(U*4294967296+L/4294967296)%Y) (u:=L%4294967296) (Y:=Y) (y1:=Y/4294967296) (y0:=Y%4294967296) (by omega) (by omega) (by omega) (by omega) (by omega) (by omega) (by omega) hV0 hV1
  have t0b:=q0.t_lt
  have tw:=Div.two (U*18446744073709551616+L) Y (L/4294967296) (L%4294967296) U _ _ (by omega) rfl rfl (by omega) (by omega) (by omega)
  have hRd:=Int.mul_ediv_add_emod ((U*4294967296+L/4294967296)%Y*4294967296+L%4294967296) Y
  have hR0:=Int.emod_nonneg ((U*4294967296+L/4294967296)%Y*4294967296+L%4294967296) (show Y≠0 by omega)
  have hR1:=Int.emod_lt_of_pos ((U*4294967296+L/4294967296)%Y*4294967296+L%4294967296) (show 0<Y by omega)
  refine zFC h l y (64-(b:Int)) Y U L (Y/4294967296) (Y%4294967296) (L/4294967296) (L%4294967296) _ _ _ ((U*4294967296+L/4294967296)%Y) _ _ _ (((U*4294967296+L/4294967296)%Y*4294967296+L%4294967296)%Y) w (beq_eq_false_iff_ne.2 h0) hh0 hhy hl0 hl hy
   (zy (by rw [hb])) (by omega) (by omega) (by rw [hs,hKe,hYe];exact hwY) (by rw [hs,hKe,IntKind.wrap_u64];exact hLe) (by rw [hs,hs2,hKe,hJe,hwh];exact hU) rfl (and_low32 Y (by omega) (by omega)) rfl (and_low32 L (by omega) (by omega))
   (by omega) (by omega) (by omega) (by omega) (by omega) (by omega) (by omega) (by omega) hU0 (by omega) rfl ?_ q1 (zy rfl) t1b.1 (by omega) ?_ hV0 (by omega) rfl ?_ q0 (zy rfl) t0b.1 (by omega) ?_ hR0 (zy ?_) (zy ?_)
  ·have:=q1.er
   have r0:=q1.r0
   have rb:=q1.rb
   rw [IntKind.wrap_u64,IntKind.wrap_u64]
   generalize (U/(Y/4294967296))*(Y/4294967296)=z at *
   omega
  ·have e:(U*4294967296+L/4294967296)/Y*Y=Y*((U*4294967296+L/4294967296)/Y):=Int.mul_comm ..
   rw [e]
   simp only [IntKind.wrap_u64]
   generalize Y*((U*4294967296+L/4294967296)/Y)=z at *
   omega
  ·have:=q0.er
   have r0:=q0.r0
   have rb:=q0.rb
   rw [IntKind.wrap_u64,IntKind.wrap_u64]
   generalize ((U*4294967296+L/4294967296)%Y/(Y/4294967296))*(Y/4294967296)=z at *
   omega
  ·have e:((U*4294967296+L/4294967296)%Y*4294967296+L%4294967296)/Y*Y=Y*(((U*4294967296+L/4294967296)%Y*4294967296+L%4294967296)/Y):=Int.mul_comm ..
   rw [e]
   simp only [IntKind.wrap_u64]
   generalize Y*(((U*4294967296+L/4294967296)%Y*4294967296+L%4294967296)/Y)=z at *
   omega
  ·rw [←tw.1];exact sc.1
  ·rw [hs,hKe,←tw.2];exact sc.2
theorem zR0 (h l y:Int) (w:World) (hh0:0≤h) (hh:h≤18446744073709551615) (hy0:0<y) (hl0:0≤l) (hl:l≤18446744073709551615) (hy:y≤18446744073709551615):
  Calls Tryz.prog 163 #[.int .u64 h, .int .u64 l, .int .u64 y] w fun e w'=>e= .returned (.int .u64 ((h*18446744073709551616+l)%y))∧ ∃n,w'=w.drewN n:=by
 have m0:=Int.emod_nonneg h (show y≠0 by omega)
 have m1:=Int.emod_lt_of_pos h hy0
 have e:Hid ((h%y*18446744073709551616+l)%y=(h*18446744073709551616+l)%y):=zy (by
  rw [Int.add_emod,Int.mul_emod,Int.emod_emod_of_dvd h ⟨1,by simp⟩,←Int.mul_emod,←Int.add_emod])
 go_enter Tryz.func163,Tryz.ntmps163
 go_wp2_with (go_at_call 198;refine (zFB _ _ _ _ m0 m1 hl0 hl hy).mono ?_;rintro e w' ⟨rfl,n,rfl⟩)
 go_ret
 exact ⟨zRD e.out,_,rfl⟩
end

section
theorem zLL (a b m:Int) (w:World) (ha0:0≤a) (ha:a≤18446744073709551615) (hb0:0≤b) (hb:b≤18446744073709551615) (hm0:0<m) (hm:m≤18446744073709551615):
  Calls Tryz.prog 221 #[.int .u64 a, .int .u64 b, .int .u64 m] w fun e w'=>e= .returned (.int .u64 (a*b%m))∧ ∃n,w'=w.drewN n:=by
 have h0:(m == 0)=false:=beq_eq_false_iff_ne.2 (by omega)
 have hp0:0≤a*b:=Int.mul_nonneg ha0 hb0
 have hp1:a*b≤18446744073709551615*18446744073709551615:=Int.mul_le_mul ha hb hb0 (by omega)
 have e1:Hid (a*b/18446744073709551616*18446744073709551616+a*b%18446744073709551616=a*b):=zy (by omega)
 go_enter Tryz.func221,Tryz.ntmps221
 go_wp2_with (first|(go_at_call 142;refine (zMc _ _ _ ha0 ha hb0 hb).mono ?_;rintro e w' ⟨rfl,rfl⟩)|(go_at_call 163;refine (zR0 _ _ _ _ (by omega) (by omega) hm0 (by omega) (by omega) hm).mono ?_;rintro e w' ⟨rfl,n,rfl⟩))
 go_ret
 exact ⟨zRD (by rw [e1.out]),_,rfl⟩
theorem zOJ (x y z m:Int) (hy:0<y):(if y%2=1 then z*x%m else z)*(x*x%m)^(y/2).toNat%m=z*x^y.toNat%m:=by
 have hc: ∀k:Nat,((x*x%m)^k)%m=((x*x)^k)%m:=by
  intro k
  induction k with
  | zero=>simp
  | succ k ih=>rw [Int.pow_succ,Int.pow_succ,Int.mul_emod,ih,Int.emod_emod_of_dvd _ ⟨1,by simp⟩,←Int.mul_emod]
 have he:x^y.toNat=(x*x)^(y/2).toNat*x^(y%2).toNat:=by
  have:y.toNat=2*(y/2).toNat+(y%2).toNat:=by omega
  conv=>lhs;rw [this]
  rw [Int.pow_add,Int.pow_mul]
  congr 2
  rw [Int.pow_succ,Int.pow_succ,Int.pow_zero];grind
 rw [he]
 split
 ·rename_i h1
  rw [h1,Int.mul_emod,hc,Int.emod_emod_of_dvd _ ⟨1,by simp⟩,←Int.mul_emod]
  congr 1
  simp;grind
 ·have h1:y%2=0:=by omega
  rw [h1,Int.mul_emod,hc,←Int.mul_emod]
  congr 1
  simp
theorem and_one (y:Int) (h0:0≤y) (h1:y≤18446744073709551615):bits .and .u64 y 1=y%2:=by go_bits2
theorem zLM (a b m:Int) (w:World) (ha0:0≤a) (ha:a≤18446744073709551615) (hb0:0≤b) (hb:b≤18446744073709551615) (hm0:0<m) (hm:m≤18446744073709551615):
  Calls Tryz.prog 210 #[.int .u64 a, .int .u64 b, .int .u64 m] w fun e w'=>e= .returned (.int .u64 (a^b.toNat%m))∧ ∃n,w'=w.drewN n:=by
 have h0:(m == 0)=false:=beq_eq_false_iff_ne.2 (by omega)
 go_enter Tryz.func210,Tryz.ntmps210
 go_wp2
 go_loopw [0,1,7] (fun A E O wr=> ∃x y z:Int,∃n,0≤x∧x≤18446744073709551615∧0≤y∧y≤18446744073709551615∧0≤z∧z≤18446744073709551615∧A= .int .u64 x∧E= .int .u64 y∧O= .int .u64 z∧Hid (z*x^y.toNat%m=a^b.toNat%m)∧Hid (z%m=z)∧wr=w.drewN n) (fun _ E _ _=>(intOf E).toNat)
 case atStart=>
  have:=Int.emod_nonneg 1 (show m≠0 by omega)
  have:=Int.emod_lt_of_pos 1 hm0
  exact ⟨a,b,1%m,0,ha0,ha,hb0,hb,by omega,by omega,rfl,rfl,rfl,zy (by rw [Int.mul_emod,Int.emod_emod_of_dvd _ ⟨1,by simp⟩,←Int.mul_emod];simp),zy (Int.emod_emod_of_dvd _ ⟨1,by simp⟩),rfl⟩
 case round=>
  obtain ⟨x,y,z,n,hx0,hx,hy0,hy,hz0,hz,rfl,rfl,rfl,H,H2,rfl⟩:=hrel
  by_cases hlt:0<y
  ·have st:=zy (zOJ x y z m hlt)
   have ea:=and_one y hy0 hy
   have m0:=Int.emod_nonneg (x*x) (show m≠0 by omega)
   have m1:=Int.emod_lt_of_pos (x*x) hm0
   have m2:=Int.emod_nonneg (z*x) (show m≠0 by omega)
   have m3:=Int.emod_lt_of_pos (z*x) hm0
   have mm:=Int.emod_nonneg y (show (2:Int)≠0 by omega)
   by_cases hodd:y%2=1
   ·have ho:(bits .and .u64 y 1 == 1)=true:=by rw [ea,hodd];rfl
    rw [if_pos hodd] at st
    clear ea hodd
    go_wp2_with fail
    refine (zLL z x m _ hz0 hz hx0 hx hm0 hm).mono ?_
    rintro e w' ⟨rfl,n1,rfl⟩
    go_wp2_with fail
    refine (zLL x x m _ hx0 hx hx0 hx hm0 hm).mono ?_
    rintro e w' ⟨rfl,n2,rfl⟩
    go_wp2
    go_roundw
    case rel=>exact ⟨x*x%m,y/2,z*x%m,_,m0,by omega,by omega,by omega,m2,by omega,rfl,rfl,rfl,zy (by rw [st.out,H.out]),zy (Int.emod_emod_of_dvd _ ⟨1,by simp⟩),rfl⟩
    case measure=>simp [intOf];omega
   ·have ho:(bits .and .u64 y 1 == 1)=false:=by rw [ea];exact beq_eq_false_iff_ne.2 hodd
    rw [if_neg hodd] at st
    clear ea hodd
    go_wp2_with fail
    refine (zLL x x m _ hx0 hx hx0 hx hm0 hm).mono ?_
    rintro e w' ⟨rfl,n2,rfl⟩
    go_wp2
    go_roundw
    case rel=>exact ⟨x*x%m,y/2,z,_,m0,by omega,by omega,by omega,hz0,hz,rfl,rfl,rfl,zy (by rw [st.out,H.out]),H2,rfl⟩
    case measure=>simp [intOf];omega
  ·obtain rfl:y=0:=by omega
   go_wp2
   go_ret
   exact ⟨zRD (by rw [←H.out];simp [H2.out]),_,rfl⟩
end

section
open Alg (FacI IsFac)
theorem zJp:(Tryz.prog.info? 153).map (fun i=>(i.zero,i.size,i.bytes))=some (some (.agg #[.int .u64 0, .int .i64 0]),2,16):=by kernel_rfl
def zO3 (fs:List (Nat×Nat)):List Value:=fs.flatMap fun x=> [.int .u64 x.1, .int .i64 x.2]
theorem zOA (a:List (Nat×Nat)) (x:Nat×Nat):zO3 (a ++ [x])=zO3 a ++ [.int .u64 x.1, .int .i64 x.2]:=by simp [zO3]
theorem zJz {m d e M:Nat} (h:m*d^e=M) (hd:2≤d) (hM:1≤M) (hM2:M≤4294967296):e≤32:=by
 have hm:1≤m:=Nat.pos_of_ne_zero fun h0=>by subst h0;omega
 have h1:2^e≤d^e:=Nat.pow_le_pow_left hd e
 have h2:1*d^e≤m*d^e:=Nat.mul_le_mul_right _ hm
 exact (Nat.pow_le_pow_iff_right (a:=2) (by omega)).1 (show 2^e≤2^32 by omega)
theorem zG8 (n:Nat) (w:World) (h1:2≤n) (h2:n≤4294967296):
  Calls Tryz.prog 190 #[.int .u64 n] w fun e w'=> ∃v fs,e= .returned v∧IsFac n fs∧w'.ownsRow w.heap.size 153 2 v fs.length (zO3 fs)∧Below w.heap.size w w':=by
 obtain ⟨i0,hi,hz0,hz1,hz2⟩:=info_parts zJp
 have t1:(decide ((n:Int)<2))=false:=by simp;omega
 have t2:(decide ((4294967296:Int)<n))=false:=by simp;omega
 go_enter Tryz.func190,Tryz.ntmps190
 go_wp2
 go_loopw [0,3,4] (fun N O D wr=> ∃m d:Nat,∃fs,N= .int .u64 m∧D= .int .u64 d∧FacI n m d fs∧(1<m→d≤65537)∧d≤4294967297∧wr.ownsRow w.heap.size 153 2 O fs.length (zO3 fs)∧Below w.heap.size w wr)
  (fun N _ D _=>(intOf N).toNat+(70000-intOf D).toNat)
 case atStart=>exact ⟨n,2,[],rfl,rfl,FacI.start n (by omega),by omega,by omega,World.ownsRow_nil _ _ _ _,Below.refl _ _⟩
 case round=>
  obtain ⟨m,d,fs,rfl,rfl,hF,hd1,hd2,hown,hB⟩:=hrel
  have hm1:=hF.m1
  by_cases hlt:1<m
  ·have hd3:=hd1 hlt
   have hmn:=hF.le (by omega)
   have hd4:=hF.d2
   have hdd:d*d≤65537*65537:=Nat.mul_le_mul hd3 hd3
   have hddi:((d:Int)*d)=((d*d:Nat):Int):=by simp
   have hw:IntKind.u64.wrap ((d:Int)*d)=(d:Int)*d:=IntWalk.u64_in _ (by rw [hddi];omega)
   obtain ⟨wo,rfl⟩: ∃wo:World,wo=wr:=⟨_,rfl⟩
   have hdlim: ¬m<d*d→d≤65536:=fun hb=>by
    rcases Nat.lt_or_ge 65536 d with h|h
    ·have:65537*65537≤d*d:=Nat.mul_le_mul h h
     omega
    ·exact h
   obtain ⟨D,hFD,hD2,hDd0,hDm0,hD3,hD4⟩: ∃D:Nat,Hid (FacI n m D fs)∧2≤D∧(m<d*d→D=m)∧(¬m<d*d→D=d∧D≤65536)∧D≤4294967296∧d≤D:=by
    have hle:=hF.d_le hlt
    by_cases hb:m<d*d
    ·exact ⟨m,zy (hF.last hlt hb),by omega,fun _=>rfl,fun h=>absurd hb h,by omega,hle⟩
    ·exact ⟨d,zy hF,hd4,fun h=>absurd h hb,fun _=>⟨rfl,hdlim hb⟩,by omega,Nat.le_refl _⟩
   have hDd:=zy hDd0
   have hDm:=zy hDm0
   have HDD:=zy hddi
   clear hF hddi hdlim hdd hDd0 hDm0
   go_upto_if 20 with (fail)
   go_cut [4] (fun v wx=>v= .int .u64 D∧wx=wo)
   case first=>
    by_cases hb:m<d*d
    ·have tb:decide ((m:Int)<(d:Int)*d)=true:=by rw [HDD.out];simp;omega
     have hDm:=zy (hDd.out hb)
     go_wp2
     go_meet
     exact ⟨by rw [hDm.out],rfl⟩
    ·have tb:decide ((m:Int)<(d:Int)*d)=false:=by rw [HDD.out];simp;omega
     have hDm:=zy (hDm.out hb).1
     go_wp2
     go_meet
     exact ⟨by rw [hDm.out],rfl⟩
   case rest=>
    obtain ⟨rfl,rfl⟩:=hcut
    go_wp2
    go_loopw [0,5] (fun N E wr=> ∃k e:Nat,N= .int .u64 k∧E= .int .i64 e∧Hid (k*D^e=m)∧wr=wc∧1≤k∧e≤32∧k≤4294967296) (fun N _ _=>(intOf N).toNat)
    case atStart=>exact ⟨m,0,rfl,rfl,zy (by simp),rfl,hm1,by omega,by omega⟩
    case round=>
     obtain ⟨k,e,rfl,rfl,hk,rfl,hk1,he,hk2⟩:=hrel
     by_cases hdv:D∣k
     ·obtain ⟨c,hc⟩:=hdv
      have hdv:((k:Int)%D == 0)=true:=by
       rw [beq_iff_eq,←Int.natCast_emod,hc,Nat.mul_mod_right];rfl
      have hdi:(k:Int)/D=(c:Nat):=by
       rw [←Int.natCast_ediv,hc,Nat.mul_div_cancel_left _ (by omega)]
      have hc1:1≤c:=Nat.pos_of_ne_zero fun h0=>by subst h0;omega
      have hc64:(c:Int)≤4294967296:=by have:1*c≤D*c:=Nat.mul_le_mul_right c (by omega);omega
      have hck:c<k:=by have:2*c≤D*c:=Nat.mul_le_mul_right c hD2;omega
      have hk':Hid (c*D^(e+1)=m):=zy (by rw [←hk.out,hc,Nat.pow_succ];rw [Nat.mul_comm D c,Nat.mul_assoc,Nat.mul_comm D])
      have he':=zJz hk'.out hD2 hm1 (by omega)
      clear hc
      go_wp2
      go_roundw
      case rel=>exact ⟨c,e+1,rfl,by go_num,hk',by trivial,hc1,he',by omega⟩
      case measure=>simp [intOf];omega
     ·have hdv':((k:Int)%D == 0)=false:=by
       rw [beq_eq_false_iff_ne,←Int.natCast_emod]
       intro h0
       exact hdv (Nat.dvd_of_mod_eq_zero (by omega))
      have HDV:=zy hdv
      clear hdv
      by_cases he0:e=0
      ·subst he0
       have hkm:k=m:=by have:=hk.out;simpa using this
       subst hkm
       have hmore:1<k→D≤65536:=fun _=>by
        by_cases hb:k<d*d
        ·exact absurd (by rw [hDd.out hb];exact Nat.dvd_refl _) HDV.out
        ·exact (hDm.out hb).2
       have HS:=zy (hFD.out.skip HDV.out)
       go_wp2
       go_roundw
       case rel=>exact ⟨k,D+1,fs,rfl,by go_num,HS.out,by (intro hk0;have:=hmore hk0;omega),by omega,hown,hB⟩
       case measure=>
        simp only [intOf]
        omega
      ·have hmore:1<k→D≤65536:=fun hk0=>by
        by_cases hb:m<d*d
        ·exfalso
         have h1:=hk.out
         rw [hDd.out hb] at h1
         have h2:m^1≤m^e:=Nat.pow_le_pow_right (by omega) (by omega)
         have h3:2*m^e≤k*m^e:=Nat.mul_le_mul_right _ hk0
         simp at h2
         omega
        ·exact (hDm.out hb).2
       have hkm:k≤m:=by
        have h1:=hk.out
        have h2:1≤D^e:=Nat.pow_pos (by omega)
        have h3:k*1≤k*D^e:=Nat.mul_le_mul_left k h2
        omega
       have HS:=zy (hFD.out.take (by omega) hk.out HDV.out)
       have hl:=hFD.out.len (by omega) (by omega)
       go_wp2_with (at_builtin;refine wpList_append_own _ rfl _ _ 113 rfl w.heap.size 153 i0 (.agg #[.int .u64 0, .int .i64 0]) 2 16 Tryz.underlying113 hi hz0 hz1 hz2 rfl (by decide) _ _ _ rfl (hown.alloc _) ⟨wr.heap.size,0,none⟩ 1 1 [.int .u64 D, .int .i64 e] rfl rfl ?c1 ?c2 ?c3 ?c4 ?c5 ?_)
       case c1=>
        intro j u hj
        match j,hj with
        | 0,hj=>simp at hj;subst hj;simp [Addr.add]
        | 1,hj=>simp at hj;subst hj;simp [Addr.add]
       case c2=>intro u hu;simp at hu;rcases hu with rfl|rfl <;> rfl
       case c3=>unfold maxLen;omega
       case c4=>omega
       case c5=>have:=hB.size;simp;omega
       intro v' w1 hown' hgrow _
       rw [←zOA fs (D,e)] at hown'
       have hB':=(hB.alloc hB.size (.cells #[.int .u64 D, .int .i64 e] 153)).grown hgrow (by have:=hB.size;simp;omega) (fun k hk=>(hown.lt k hk).1)
       clear hgrow hown hB
       go_wp2
       go_roundw
       case rel=>exact ⟨k,D+1,fs ++ [(D,e)],rfl,by go_num,HS.out,by (intro hk0;have:=hmore hk0;omega),by omega,by simpa using hown',hB'⟩
       case measure=>
        simp only [intOf]
        omega
  ·obtain rfl:m=1:=by omega
   have HF:=zy hF.done
   clear hF
   go_wp2
   go_ret
   exact ⟨_,fs,rfl,HF.out,hown,hB⟩
end
end Go.Proofs.YtmalmijdjhkklaaGreat
