/- mixed: a stage's lift, one. -/
import Derived.Test.YtmalmijdjhkklaaGreatMixA
import Derived.Test.YtmalmijdjhkklaaGreatW90
import Derived.Test.YtmalmijdjhkklaaGreatRowsA
import Derived.Deep.RegionHeld
set_option linter.unusedVariables false
set_option linter.unusedSimpArgs false
set_option maxRecDepth 100000
set_option maxHeartbeats 16000000
namespace Go.Proofs.YtmalmijdjhkklaaGreat
open Go.RowKit
open Alg
theorem zTB:(Tryz.prog.info? 168).map (·.size)=some 4:=by kernel_rfl
theorem zIF {r m b i k:Nat} (hi:i<r) (hk:k<m):(b*(r*m)+i*m+k)/(r*m)=b∧(b*(r*m)+i*m+k)%m=k∧(b*(r*m)+i*m+k)%(r*m)=i*m+k:=by
 have h1:i*m+k<r*m:=by
  have:(i+1)*m≤r*m:=Nat.mul_le_mul_right _ hi
  rw [Nat.add_mul,Nat.one_mul] at this
  omega
 refine ⟨?_,?_,?_⟩
 ·rw [Nat.add_assoc,Nat.mul_comm b,Nat.mul_add_div (by omega),Nat.div_eq_of_lt h1];rfl
 ·rw [←Nat.mul_assoc,←Nat.add_mul,Nat.add_comm,Nat.add_mul_mod_self_right,Nat.mod_eq_of_lt hk]
 ·rw [Nat.add_assoc,Nat.add_comm,Nat.add_mul_mod_self_right,Nat.mod_eq_of_lt h1]
theorem zIG {r m:Nat} (hm:0<m) (hr:0<r) (j:Nat): ∃i,i<r∧j=j/(r*m)*(r*m)+i*m+j%m:=by
 refine ⟨j%(r*m)/m,?_,?_⟩
 ·rw [Nat.div_lt_iff_lt_mul hm];exact Nat.mod_lt _ (Nat.mul_pos hr hm)
 ·have h1:=Nat.div_add_mod j (r*m)
  have h2:=Nat.div_add_mod (j%(r*m)) m
  rw [Nat.mod_mul_left_mod] at h2
  rw [Nat.mul_comm (j/(r*m)),Nat.mul_comm (j%(r*m)/m)]
  omega
theorem zK9 {p:Nat} [NeZero p] (v:Value) (bT oT n cT r m:Nat) (W:Int) (st e:Nat) (w:World) (hst:n=st*(r*m)) (hn:n≤1024) (hn0:0<n) (he:e≤1048576) (hc: ∀i,i<n→w.cell? ⟨bT,oT+i,none⟩=some (.int .u64 (lft p (W^i)))):
  Calls Tryz.prog 206 #[.agg #[v, .slice (some ⟨bT,oT,none⟩) n cT, .int .i64 (r:Int), .int .i64 (m:Int)], .int .i64 (e:Int)] w fun x w'=>x= .returned (.int .u64 (lft p (W^(e*st%n))))∧Below w.heap.size w w':=by
 have R1:=zy (lay1 w 168 #[v, .slice (some ⟨bT,oT,none⟩) n cT, .int .i64 (r:Int), .int .i64 (m:Int)])
 have hrm0:0<r*m:=by
  rcases Nat.eq_zero_or_pos (r*m) with h|h
  ·rw [h,Nat.mul_zero] at hst;omega
  ·exact h
 have hst0:st≤n:=by rw [hst];exact Nat.le_mul_of_pos_right _ hrm0
 have hrmn:r*m≤n:=by
  rw [hst]
  refine Nat.le_mul_of_pos_left _ ?_
  rcases Nat.eq_zero_or_pos st with h|h
  ·rw [h,Nat.zero_mul] at hst;omega
  ·exact h
 obtain ⟨y,hy⟩: ∃y,y=r*m:=⟨_,rfl⟩
 have ey:(r:Int)*(m:Int)=(y:Int):=by rw [hy,Int.natCast_mul]
 rw [←hy] at hst hrm0 hrmn
 have hq:n/y=st:=by rw [hst];exact Nat.mul_div_cancel _ hrm0
 have eq1:(n:Int).tdiv (y:Int)=(st:Int):=by rw [Int.tdiv_eq_ediv_of_nonneg (by omega),←hq];rfl
 obtain ⟨u,hu⟩: ∃u,u=e*st:=⟨_,rfl⟩
 have eu:(e:Int)*(st:Int)=(u:Int):=by rw [hu,Int.natCast_mul]
 have hub:u≤1073741824:=by rw [hu];exact Nat.mul_le_mul he (by omega:st≤1024)
 obtain ⟨a,ha⟩: ∃a,a=u%n:=⟨_,rfl⟩
 have ea:(u:Int).tmod (n:Int)=(a:Int):=by rw [Int.tmod_eq_emod_of_nonneg (by omega),ha];omega
 have ha1:a<n:=by rw [ha];exact Nat.mod_lt _ hn0
 rw [←hu,←ha]
 have c0:=hc a ha1
 have c1:=zDs R1.out.2 (World.block_lt_of_cell? _ _ c0) c0
 obtain ⟨z,hz⟩: ∃z,z=lft p (W^a):=⟨_,rfl⟩
 rw [←hz] at c1 ⊢
 have tz1:((y:Int) == 0)=false:=by simp;omega
 have tz2:((n:Int) == 0)=false:=by simp;omega
 have ny: ¬y=0:=by omega
 have nn: ¬n=0:=by omega
 have w1:IntKind.i64.wrap (y:Int)=(y:Int):=IntWalk.i64_in _ (by omega)
 have w2:IntKind.i64.wrap (u:Int)=(u:Int):=IntWalk.i64_in _ (by omega)
 have w3:IntKind.i64.wrap (a:Int)=(a:Int):=IntWalk.i64_in _ (by omega)
 have w4:IntKind.i64.wrap (st:Int)=(st:Int):=IntWalk.i64_in _ (by omega)
 have i1:(0:Int)≤(a:Int):=by omega
 have i2:(a:Int)<(n:Int):=by omega
 have d1:=R1.out.1.cell (i:=1) (v:= .slice (some ⟨bT,oT,none⟩) n cT) rfl
 have d2:=R1.out.1.cell (i:=2) (v:= .int .i64 (r:Int)) rfl
 have d3:=R1.out.1.cell (i:=3) (v:= .int .i64 (m:Int)) rfl
 have HB1:=zy R1.out.2
 clear hc c0 hy hu ha hz hq hst R1 he hst0 hrmn hrm0 hn0
 go_enter Tryz.func206,Tryz.ntmps206
 go_wp2
 go_quiet (fail)
 go_wp2
 go_ret
 exact ⟨rfl,by first|exact HB1.out|exact below_drewN HB1.out _⟩
end Go.Proofs.YtmalmijdjhkklaaGreat