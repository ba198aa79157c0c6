/- The long division by two digits (Knuth's algorithm D), on whole numbers. -/
set_option linter.unusedVariables false
set_option linter.unusedSimpArgs false
set_option linter.unusedSectionVars false
namespace Go.Proofs.YtmalmijdjhkklaaGreat.Div
structure QI (U u Y y1 y0 q r:Int):Prop where
 eY:Y=y1*4294967296+y0
 y1a:2147483648≤y1
 y1b:y1<4294967296
 y0a:0≤y0
 y0b:y0<4294967296
 ua:0≤u
 ub:u<4294967296
 Ua:0≤U
 Ub:U<Y
 le:(U*4294967296+u)/Y≤q
 er:r=U-q*y1
 r0:0≤r
 rb:r<4294967296
 qb:q≤4294967297
variable {U u Y y1 y0 q r:Int}
theorem QI.t_lt (h:QI U u Y y1 y0 q r):0≤(U*4294967296+u)/Y∧(U*4294967296+u)/Y<4294967296:=by
 have:=h.Ub;have:=h.Ua;have:=h.ua;have:=h.ub
 have hY:0<Y:=by omega
 exact ⟨Int.ediv_nonneg (by omega) (by omega),Int.ediv_lt_of_lt_mul hY (by omega)⟩
theorem QI.prod (h:QI U u Y y1 y0 q r):q*Y=(q*y1)*4294967296+q*y0:=by
 rw [h.eY];grind
theorem QI.low_of_gt (h:QI U u Y y1 y0 q r) (hgt:U*4294967296+u<q*Y):(U*4294967296+u)/Y≤q-1:=by
 have hY:0<Y:=by have:=h.Ub;have:=h.Ua;omega
 have:=Int.ediv_lt_of_lt_mul hY hgt
 omega
theorem QI.test_big (h:QI U u Y y1 y0 q r) (hq:4294967296≤q):(U*4294967296+u)/Y≤q-1:=by
 have:=h.t_lt;omega
theorem QI.test_yes (h:QI U u Y y1 y0 q r) (ht:4294967296*r+u<q*y0):(U*4294967296+u)/Y≤q-1:=by
 refine h.low_of_gt ?_
 rw [h.prod]
 have:=h.er
 generalize q*y1=a at *
 generalize q*y0=b at *
 omega
theorem QI.eq_of_le (h:QI U u Y y1 y0 q r) {c:Int} (hle:(U*4294967296+u)/Y≤c) (hc:c*Y≤U*4294967296+u):(U*4294967296+u)/Y=c:=by
 have hY:0<Y:=by have:=h.Ub;have:=h.Ua;omega
 have:=(Int.le_ediv_iff_mul_le hY).2 hc
 omega
theorem QI.test_no (h:QI U u Y y1 y0 q r) (ht:q*y0≤4294967296*r+u):(U*4294967296+u)/Y=q:=by
 refine h.eq_of_le h.le ?_
 rw [h.prod]
 have:=h.er
 generalize q*y1=a at *
 generalize q*y0=b at *
 omega
theorem QI.next (h:QI U u Y y1 y0 q r) (ht:(U*4294967296+u)/Y≤q-1) (hr:r+y1<4294967296):QI U u Y y1 y0 (q-1) (r+y1) where
 eY:=h.eY
 y1a:=h.y1a
 y1b:=h.y1b
 y0a:=h.y0a
 y0b:=h.y0b
 ua:=h.ua
 ub:=h.ub
 Ua:=h.Ua
 Ub:=h.Ub
 le:=ht
 er:=by
  have:=h.er
  have e:(q-1)*y1=q*y1-y1:=by grind
  omega
 r0:=by have:=h.r0;have:=h.y1a;omega
 rb:=hr
 qb:=by have:=h.qb;omega
theorem QI.stop (h:QI U u Y y1 y0 q r) (ht:(U*4294967296+u)/Y≤q-1) (hr:4294967296≤r+y1):(U*4294967296+u)/Y=q-1:=by
 refine h.eq_of_le ht ?_
 have e:(q-1)*Y=(q*y1-y1)*4294967296+(q-1)*y0:=by rw [h.eY];grind
 have h1:(q-1)*y0≤4294967296*y0:=Int.mul_le_mul_of_nonneg_right (by have:=h.qb;omega) h.y0a
 have:=h.er;have:=h.y0b;have:=h.ua
 rw [e]
 generalize q*y1=a at *
 generalize (q-1)*y0=b at *
 omega
theorem QI.start (eY:Y=y1*4294967296+y0) (y1a:2147483648≤y1) (y1b:y1<4294967296) (y0a:0≤y0) (y0b:y0<4294967296) (ua:0≤u) (ub:u<4294967296) (Ua:0≤U) (Ub:U<Y):
  QI U u Y y1 y0 (U/y1) (U%y1):=by
 have hd:=Int.mul_ediv_add_emod U y1
 have hm0:=Int.emod_nonneg U (show y1≠0 by omega)
 have hm1:=Int.emod_lt_of_pos U (show 0<y1 by omega)
 have hq0:0≤U/y1:=Int.ediv_nonneg Ua (by omega)
 refine ⟨eY,y1a,y1b,y0a,y0b,ua,ub,Ua,Ub,?_,by rw [Int.mul_comm];omega,hm0,by omega,?_⟩
 ·have hY:0<Y:=by omega
  have:(U*4294967296+u)/Y<U/y1+1:=by
   refine Int.ediv_lt_of_lt_mul hY ?_
   have e:(U/y1+1)*Y=(y1*(U/y1)+y1)*4294967296+(U/y1+1)*y0:=by rw [eY];grind
   have:0≤(U/y1+1)*y0:=Int.mul_nonneg (by omega) y0a
   rw [e]
   generalize y1*(U/y1)=a at *
   generalize (U/y1+1)*y0=b at *
   omega
  omega
 ·have:U/y1<4294967298:=by
   refine Int.ediv_lt_of_lt_mul (by omega) ?_
   omega
  omega
theorem two (N Y u1 u0 U q1 q0:Int) (hY:0<Y) (e1:(U*4294967296+u1)/Y=q1) (e0:((U*4294967296+u1)%Y*4294967296+u0)/Y=q0) (hu1:0≤u0) (hu0:u0<4294967296)
  (hN:N=U*18446744073709551616+u1*4294967296+u0):N/Y=q1*4294967296+q0∧N%Y=((U*4294967296+u1)%Y*4294967296+u0)%Y:=by
 have d1:=Int.mul_ediv_add_emod (U*4294967296+u1) Y
 rw [e1] at d1
 have e:N=((U*4294967296+u1)%Y*4294967296+u0)+Y*(q1*4294967296):=by
  have:Y*(q1*4294967296)=(Y*q1)*4294967296:=by grind
  rw [this,hN]
  generalize Y*q1=a at *
  omega
 rw [e]
 constructor
 ·rw [Int.add_mul_ediv_left _ _ (by omega),e0];omega
 ·rw [Int.add_mul_emod_self_left]
theorem scaled (N y k:Int) (hk:0<k) (hy:0<y):(N*k)/(y*k)=N/y∧((N*k)%(y*k))/k=N%y:=by
 constructor
 ·exact Int.mul_ediv_mul_of_pos_left N y hk
 ·rw [Int.mul_comm N k,Int.mul_comm y k,Int.mul_emod_mul_of_pos _ _ hk,Int.mul_ediv_cancel_left _ (by omega)]
end Go.Proofs.YtmalmijdjhkklaaGreat.Div