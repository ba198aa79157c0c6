/- Montgomery's reduction, on whole numbers. -/
set_option linter.unusedVariables false
set_option linter.unusedSimpArgs false
namespace Go.Proofs.YtmalmijdjhkklaaGreat.Mont
def rinv (m:Int):Int:=((m+1)/2)^64%m
theorem rinv_spec {m:Int} (hm:1<m) (ho:m%2=1):rinv m*18446744073709551616%m=1:=by
 have h2:((m+1)/2*2)%m=1:=by
  have:(m+1)/2*2=1+m:=by omega
  rw [this,Int.add_emod,Int.emod_self];simp
  exact Int.emod_eq_of_lt (by omega) hm
 have key: ∀k:Nat,(((m+1)/2)^k*2^k)%m=1:=by
  intro k
  induction k with
  | zero=>simp;exact Int.emod_eq_of_lt (by omega) hm
  | succ k ih=>
   have e:((m+1)/2)^(k+1)*2^(k+1)=(((m+1)/2)^k*2^k)*((m+1)/2*2):=by
    rw [Int.pow_succ,Int.pow_succ];grind
   rw [e,Int.mul_emod,ih,h2]
   exact Int.emod_eq_of_lt (by omega) hm
 have h:=key 64
 rw [show (2:Int)^64=18446744073709551616 by decide] at h
 unfold rinv
 rw [Int.mul_emod,Int.emod_emod_of_dvd _ ⟨1,by simp⟩,←Int.mul_emod]
 exact h
theorem by_rinv {m r t:Int} (hm:1<m) (ho:m%2=1) (h:r*18446744073709551616%m=t%m) (h0:0≤r) (h1:r<m):r=t*rinv m%m:=by
 have e:=rinv_spec hm ho
 have:r%m=(t*rinv m)%m:=by
  have a1:(r*18446744073709551616)*rinv m%m=t*rinv m%m:=by rw [Int.mul_emod,h,←Int.mul_emod]
  have a2:(r*18446744073709551616)*rinv m=r*(rinv m*18446744073709551616):=by grind
  rw [←a1,a2,Int.mul_emod,e]
  simp
 rw [←this,Int.emod_eq_of_lt h0 h1]
theorem redc {m t h l q:Int} (hm:1<m) (hm2:m<9223372036854775808) (ho:m%2=1) (ht:t*m%18446744073709551616=18446744073709551615) (hh0:0≤h) (hh:h<m) (hl0:0≤l) (hl:l<18446744073709551616)
  (hq:q=l*t%18446744073709551616):
  0≤h+q*m/18446744073709551616+(l+q*m%18446744073709551616)/18446744073709551616∧
  h+q*m/18446744073709551616+(l+q*m%18446744073709551616)/18446744073709551616<2*m∧
  (h+q*m/18446744073709551616+(l+q*m%18446744073709551616)/18446744073709551616)*18446744073709551616=h*18446744073709551616+l+q*m:=by
 have q0:0≤q:=by rw [hq];exact Int.emod_nonneg _ (by omega)
 have q1:q<18446744073709551616:=by rw [hq];exact Int.emod_lt_of_pos _ (by omega)
 have hqm0:0≤q*m:=Int.mul_nonneg q0 (by omega)
 have hqm1:q*m≤18446744073709551615*m:=Int.mul_le_mul_of_nonneg_right (by omega) (by omega)
 have hz:(l+q*m)%18446744073709551616=0:=by
  have a1:q*m%18446744073709551616=l*(t*m)%18446744073709551616:=by
   rw [hq,Int.mul_emod,Int.emod_emod_of_dvd _ ⟨1,by simp⟩,←Int.mul_emod];congr 1;grind
  have a2:l*(t*m)%18446744073709551616=l*18446744073709551615%18446744073709551616:=by
   rw [Int.mul_emod,ht,Int.mul_emod l 18446744073709551615];rfl
  rw [Int.add_emod,a1,a2]
  omega
 generalize q*m=z at *
 omega
theorem newton {m x k:Int} (h:(1-m*x)%k=0):(1-m*(x*(2-m*x)))%(k*k)=0:=by
 obtain ⟨c,hc⟩:=Int.dvd_of_emod_eq_zero h
 have e:1-m*(x*(2-m*x))=(1-m*x)*(1-m*x):=by grind
 rw [e,hc]
 exact Int.emod_eq_zero_of_dvd ⟨c*c,by grind⟩
theorem newton_mod {m x k j y:Int} (hk:k*k=j∨ ∃c,k*k=j*c) (hj: ∃c,18446744073709551616=j*c) (h:(1-m*x)%k=0) (hy:y=x*(2-m*x)%18446744073709551616):(1-m*y)%j=0:=by
 have h1:=newton h
 have h2:(1-m*(x*(2-m*x)))%j=0:=by
  rcases hk with hk|⟨c,hc⟩
  ·rw [←hk];exact h1
  ·exact Int.emod_eq_zero_of_dvd (Int.dvd_trans ⟨c,hc⟩ (Int.dvd_of_emod_eq_zero h1))
 obtain ⟨c,hc⟩:=hj
 have h3:=Int.mul_ediv_add_emod (x*(2-m*x)) 18446744073709551616
 rw [←hy] at h3
 refine Int.emod_eq_zero_of_dvd ?_
 obtain ⟨d,hd⟩:=Int.dvd_of_emod_eq_zero h2
 refine ⟨d+m*(c*(x*(2-m*x)/18446744073709551616)),?_⟩
 have:1-m*y=(1-m*(x*(2-m*x)))+m*(18446744073709551616*(x*(2-m*x)/18446744073709551616)):=by
  have:y=x*(2-m*x)-18446744073709551616*(x*(2-m*x)/18446744073709551616):=by omega
  rw [this];grind
 rw [this,hd,hc];grind
theorem square_odd {m:Int} (ho:m%2=1):(1-m*m)%8=0:=by
 have h:m%8=1∨m%8=3∨m%8=5∨m%8=7:=by omega
 have:(m*m)%8=((m%8)*(m%8))%8:=Int.mul_emod ..
 rcases h with h|h|h|h <;> rw [h] at this <;> omega
end Go.Proofs.YtmalmijdjhkklaaGreat.Mont