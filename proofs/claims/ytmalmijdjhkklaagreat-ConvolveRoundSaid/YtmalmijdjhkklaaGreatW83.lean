/- plan: what can be a plan; and the document's. -/
import Derived.Test.YtmalmijdjhkklaaGreatPlA
import Derived.Test.YtmalmijdjhkklaaGreatPlB
import Derived.Test.YtmalmijdjhkklaaGreatW10
import Derived.Deep.RegionHeld3
import Derived.Deep.DrawnRows
import Derived.OrdersHeld
import Derived.Test.YtmalmijdjhkklaaGreatW25
import Derived.Test.YtmalmijdjhkklaaGreatW51
set_option linter.unusedVariables false
set_option linter.unusedSimpArgs false
set_option maxRecDepth 100000
set_option maxHeartbeats 16000000
namespace Go.Proofs.YtmalmijdjhkklaaGreat
open Go.RowKit
section
theorem zDg {K N A:Int} (h:1≤N∧N≤1024):canB K N A=(if K=0 then A == 0 else if K=1∨K=2 then A == 0 && p2 N else if K=3 then A == 0 && zQD N else if K=4 then copB N A
  else if K=5 then decide (0<A) && A == rpad N else if K=6 then A == cpad N else false):=by
 unfold canB;rw [decide_eq_true h,Bool.true_and]
theorem zT2 (K N A:Int) (k0: -9223372036854775808≤K) (k1:K≤9223372036854775807) (n0: -9223372036854775808≤N) (n1:N≤9223372036854775807) (a0: -9223372036854775808≤A) (a1:A≤9223372036854775807) (w:World):
  Calls Tryz.prog 54 #[.agg #[.int .i64 K, .int .i64 N, .int .i64 A]] w fun e w'=>e= .returned (.bool (canB K N A))∧Below w.heap.size w w':=by
 by_cases hN:1≤N∧N≤1024
 case neg=>
  have HR:Hid (canB K N A=false):=zy (by unfold canB;rw [decide_eq_false hN,Bool.false_and])
  by_cases hl:N<1
  ·have t0:decide (N<1)=true:=decide_eq_true hl
   have R1:=zy (lay1 w 36 #[.int .i64 K, .int .i64 N, .int .i64 A])
   obtain ⟨W1,hW1⟩: ∃W,W=w.alloc (.cells #[.int .i64 K, .int .i64 N, .int .i64 A] 36):=⟨_,rfl⟩
   rw [←hW1] at R1
   have d0:=R1.out.1.cell (i:=0) (v:= .int .i64 K) rfl
   have d1:=R1.out.1.cell (i:=1) (v:= .int .i64 N) rfl
   have d2:=R1.out.1.cell (i:=2) (v:= .int .i64 A) rfl
   rw [hW1] at d0 d1 d2
   have HW1:=zy hW1
   clear hW1
   go_enter Tryz.func54,Tryz.ntmps54
   go_wp2
   go_ret
   exact ⟨by rw [HR.out];rfl,by have:=R1.out.2;rw [HW1.out] at this;exact this⟩
  ·have t0:decide (N<1)=false:=decide_eq_false hl
   have t1:decide (N>1024)=true:=decide_eq_true (by omega)
   have R1:=zy (lay1 w 36 #[.int .i64 K, .int .i64 N, .int .i64 A])
   obtain ⟨W1,hW1⟩: ∃W,W=w.alloc (.cells #[.int .i64 K, .int .i64 N, .int .i64 A] 36):=⟨_,rfl⟩
   rw [←hW1] at R1
   have d0:=R1.out.1.cell (i:=0) (v:= .int .i64 K) rfl
   have d1:=R1.out.1.cell (i:=1) (v:= .int .i64 N) rfl
   have d2:=R1.out.1.cell (i:=2) (v:= .int .i64 A) rfl
   rw [hW1] at d0 d1 d2
   have HW1:=zy hW1
   clear hW1
   go_enter Tryz.func54,Tryz.ntmps54
   go_wp2
   go_ret
   exact ⟨by rw [HR.out];rfl,by have:=R1.out.2;rw [HW1.out] at this;exact this⟩
 case pos=>
 have HC:=zy (zDg (K:=K) (A:=A) hN)
 have t0:decide (N<1)=false:=decide_eq_false (by omega)
 have t1:decide (N>1024)=false:=decide_eq_false (by omega)
 by_cases h0:K=0
 ·subst h0
  have HR:Hid (canB 0 N A=(A == 0)):=zy (by rw [HC.out];rfl)
  have R1:=zy (lay1 w 36 #[.int .i64 0, .int .i64 N, .int .i64 A])
  obtain ⟨W1,hW1⟩: ∃W,W=w.alloc (.cells #[.int .i64 0, .int .i64 N, .int .i64 A] 36):=⟨_,rfl⟩
  rw [←hW1] at R1
  have d0:=R1.out.1.cell (i:=0) (v:= .int .i64 0) rfl
  have d1:=R1.out.1.cell (i:=1) (v:= .int .i64 N) rfl
  have d2:=R1.out.1.cell (i:=2) (v:= .int .i64 A) rfl
  rw [hW1] at d0 d1 d2
  have HW1:=zy hW1
  clear hW1
  go_enter Tryz.func54,Tryz.ntmps54
  go_wp2
  go_ret
  exact ⟨by rw [HR.out];rfl,by have:=R1.out.2;rw [HW1.out] at this;exact this⟩
 have g0:(K == 0)=false:=beq_eq_false_iff_ne.2 h0
 by_cases h1:K=1
 ·subst h1
  by_cases hA:A=0
  ·have t2:(A == 0)=true:=by simpa using hA
   have HR:Hid (canB 1 N A=p2 N):=zy (by rw [HC.out,t2];rfl)
   have HF:=zy (fun W=>zHm N W n0 n1)
   clear hA
   have R1:=zy (lay1 w 36 #[.int .i64 1, .int .i64 N, .int .i64 A])
   obtain ⟨W1,hW1⟩: ∃W,W=w.alloc (.cells #[.int .i64 1, .int .i64 N, .int .i64 A] 36):=⟨_,rfl⟩
   rw [←hW1] at R1
   have d0:=R1.out.1.cell (i:=0) (v:= .int .i64 1) rfl
   have d1:=R1.out.1.cell (i:=1) (v:= .int .i64 N) rfl
   have d2:=R1.out.1.cell (i:=2) (v:= .int .i64 A) rfl
   rw [hW1] at d0 d1 d2
   have HW1:=zy hW1
   clear hW1
   go_enter Tryz.func54,Tryz.ntmps54
   go_wp2_with fail
   refine (HF.out _).mono ?_
   rintro e w2 ⟨rfl,rfl⟩
   go_wp2
   go_ret
   exact ⟨by rw [HR.out];rfl,by have:=R1.out.2;rw [HW1.out] at this;exact this⟩
  ·have t2:(A == 0)=false:=by simpa using hA
   have HR:Hid (canB 1 N A=false):=zy (by rw [HC.out,t2];rfl)
   clear hA
   have R1:=zy (lay1 w 36 #[.int .i64 1, .int .i64 N, .int .i64 A])
   obtain ⟨W1,hW1⟩: ∃W,W=w.alloc (.cells #[.int .i64 1, .int .i64 N, .int .i64 A] 36):=⟨_,rfl⟩
   rw [←hW1] at R1
   have d0:=R1.out.1.cell (i:=0) (v:= .int .i64 1) rfl
   have d1:=R1.out.1.cell (i:=1) (v:= .int .i64 N) rfl
   have d2:=R1.out.1.cell (i:=2) (v:= .int .i64 A) rfl
   rw [hW1] at d0 d1 d2
   have HW1:=zy hW1
   clear hW1
   go_enter Tryz.func54,Tryz.ntmps54
   go_wp2
   go_ret
   exact ⟨by rw [HR.out];rfl,by have:=R1.out.2;rw [HW1.out] at this;exact this⟩
 have g1:(K == 1)=false:=beq_eq_false_iff_ne.2 h1
 by_cases h2:K=2
 ·subst h2
  by_cases hA:A=0
  ·have t2:(A == 0)=true:=by simpa using hA
   have HR:Hid (canB 2 N A=p2 N):=zy (by rw [HC.out,t2];rfl)
   have HF:=zy (fun W=>zHm N W n0 n1)
   clear hA
   have R1:=zy (lay1 w 36 #[.int .i64 2, .int .i64 N, .int .i64 A])
   obtain ⟨W1,hW1⟩: ∃W,W=w.alloc (.cells #[.int .i64 2, .int .i64 N, .int .i64 A] 36):=⟨_,rfl⟩
   rw [←hW1] at R1
   have d0:=R1.out.1.cell (i:=0) (v:= .int .i64 2) rfl
   have d1:=R1.out.1.cell (i:=1) (v:= .int .i64 N) rfl
   have d2:=R1.out.1.cell (i:=2) (v:= .int .i64 A) rfl
   rw [hW1] at d0 d1 d2
   have HW1:=zy hW1
   clear hW1
   go_enter Tryz.func54,Tryz.ntmps54
   go_wp2_with fail
   refine (HF.out _).mono ?_
   rintro e w2 ⟨rfl,rfl⟩
   go_wp2
   go_ret
   exact ⟨by rw [HR.out];rfl,by have:=R1.out.2;rw [HW1.out] at this;exact this⟩
  ·have t2:(A == 0)=false:=by simpa using hA
   have HR:Hid (canB 2 N A=false):=zy (by rw [HC.out,t2];rfl)
   clear hA
   have R1:=zy (lay1 w 36 #[.int .i64 2, .int .i64 N, .int .i64 A])
   obtain ⟨W1,hW1⟩: ∃W,W=w.alloc (.cells #[.int .i64 2, .int .i64 N, .int .i64 A] 36):=⟨_,rfl⟩
   rw [←hW1] at R1
   have d0:=R1.out.1.cell (i:=0) (v:= .int .i64 2) rfl
   have d1:=R1.out.1.cell (i:=1) (v:= .int .i64 N) rfl
   have d2:=R1.out.1.cell (i:=2) (v:= .int .i64 A) rfl
   rw [hW1] at d0 d1 d2
   have HW1:=zy hW1
   clear hW1
   go_enter Tryz.func54,Tryz.ntmps54
   go_wp2
   go_ret
   exact ⟨by rw [HR.out];rfl,by have:=R1.out.2;rw [HW1.out] at this;exact this⟩
 have g2:(K == 2)=false:=beq_eq_false_iff_ne.2 h2
 by_cases h3:K=3
 ·subst h3
  have HF:=zy (fun W=>zLV N n0 n1 W)
  by_cases hA:A=0
  ·have t2:(A == 0)=true:=by simpa using hA
   have HR:Hid (canB 3 N A=zQD N):=zy (by rw [HC.out,t2];rfl)
   clear hA
   have R1:=zy (lay1 w 36 #[.int .i64 3, .int .i64 N, .int .i64 A])
   obtain ⟨W1,hW1⟩: ∃W,W=w.alloc (.cells #[.int .i64 3, .int .i64 N, .int .i64 A] 36):=⟨_,rfl⟩
   rw [←hW1] at R1
   have d0:=R1.out.1.cell (i:=0) (v:= .int .i64 3) rfl
   have d1:=R1.out.1.cell (i:=1) (v:= .int .i64 N) rfl
   have d2:=R1.out.1.cell (i:=2) (v:= .int .i64 A) rfl
   rw [hW1] at d0 d1 d2
   have HW1:=zy hW1
   clear hW1
   go_enter Tryz.func54,Tryz.ntmps54
   go_wp2_with fail
   rw [←HW1.out]
   refine (HF.out _).mono ?_
   rintro e w2 ⟨⟨L,V,ho,_,_,rfl,_⟩|⟨ho,rfl⟩,hB2⟩
   ·have R2:=zy (And.intro (R1.out.1.keep hB2) (R1.out.2.trans (hB2.mono R1.out.2.size)))
    have HO:=zy ho
    have e0:=R2.out.1.cell (i:=0) (v:= .int .i64 3) rfl
    have e1:=R2.out.1.cell (i:=1) (v:= .int .i64 N) rfl
    have e2:=R2.out.1.cell (i:=2) (v:= .int .i64 A) rfl
    clear hB2 d0 d1 d2 ho
    go_wp2
    go_ret
    exact ⟨by rw [HR.out,HO.out];rfl,R2.out.2⟩
   ·have R2:=zy (And.intro (R1.out.1.keep hB2) (R1.out.2.trans (hB2.mono R1.out.2.size)))
    have HO:=zy ho
    have e0:=R2.out.1.cell (i:=0) (v:= .int .i64 3) rfl
    have e1:=R2.out.1.cell (i:=1) (v:= .int .i64 N) rfl
    have e2:=R2.out.1.cell (i:=2) (v:= .int .i64 A) rfl
    clear hB2 d0 d1 d2 ho
    go_wp2
    go_ret
    exact ⟨by rw [HR.out,HO.out];rfl,R2.out.2⟩
  ·have t2:(A == 0)=false:=by simpa using hA
   have HR:Hid (canB 3 N A=false):=zy (by rw [HC.out,t2];rfl)
   clear hA
   have R1:=zy (lay1 w 36 #[.int .i64 3, .int .i64 N, .int .i64 A])
   obtain ⟨W1,hW1⟩: ∃W,W=w.alloc (.cells #[.int .i64 3, .int .i64 N, .int .i64 A] 36):=⟨_,rfl⟩
   rw [←hW1] at R1
   have d0:=R1.out.1.cell (i:=0) (v:= .int .i64 3) rfl
   have d1:=R1.out.1.cell (i:=1) (v:= .int .i64 N) rfl
   have d2:=R1.out.1.cell (i:=2) (v:= .int .i64 A) rfl
   rw [hW1] at d0 d1 d2
   have HW1:=zy hW1
   clear hW1
   go_enter Tryz.func54,Tryz.ntmps54
   go_wp2_with fail
   rw [←HW1.out]
   refine (HF.out _).mono ?_
   rintro e w2 ⟨⟨L,V,ho,_,_,rfl,_⟩|⟨ho,rfl⟩,hB2⟩
   ·have R2:=zy (And.intro (R1.out.1.keep hB2) (R1.out.2.trans (hB2.mono R1.out.2.size)))
    have HO:=zy ho
    have e0:=R2.out.1.cell (i:=0) (v:= .int .i64 3) rfl
    have e1:=R2.out.1.cell (i:=1) (v:= .int .i64 N) rfl
    have e2:=R2.out.1.cell (i:=2) (v:= .int .i64 A) rfl
    clear hB2 d0 d1 d2 ho
    go_wp2
    go_ret
    exact ⟨by rw [HR.out];rfl,R2.out.2⟩
   ·have R2:=zy (And.intro (R1.out.1.keep hB2) (R1.out.2.trans (hB2.mono R1.out.2.size)))
    have HO:=zy ho
    have e0:=R2.out.1.cell (i:=0) (v:= .int .i64 3) rfl
    have e1:=R2.out.1.cell (i:=1) (v:= .int .i64 N) rfl
    have e2:=R2.out.1.cell (i:=2) (v:= .int .i64 A) rfl
    clear hB2 d0 d1 d2 ho
    go_wp2
    go_ret
    exact ⟨by rw [HR.out];rfl,R2.out.2⟩
 have g3:(K == 3)=false:=beq_eq_false_iff_ne.2 h3
 by_cases h4:K=4
 ·subst h4
  have HR:Hid (canB 4 N A=copB N A):=zy (by rw [HC.out];rfl)
  have HF:=zy (fun W=>zDD N A n0 n1 a0 (by omega) W)
  have R1:=zy (lay1 w 36 #[.int .i64 4, .int .i64 N, .int .i64 A])
  obtain ⟨W1,hW1⟩: ∃W,W=w.alloc (.cells #[.int .i64 4, .int .i64 N, .int .i64 A] 36):=⟨_,rfl⟩
  rw [←hW1] at R1
  have d0:=R1.out.1.cell (i:=0) (v:= .int .i64 4) rfl
  have d1:=R1.out.1.cell (i:=1) (v:= .int .i64 N) rfl
  have d2:=R1.out.1.cell (i:=2) (v:= .int .i64 A) rfl
  rw [hW1] at d0 d1 d2
  have HW1:=zy hW1
  clear hW1
  go_enter Tryz.func54,Tryz.ntmps54
  go_wp2_with fail
  refine (HF.out _).mono ?_
  rintro e w2 ⟨rfl,q,rfl⟩
  go_wp2
  go_ret
  exact ⟨by rw [HR.out];rfl,below_drewN (by have:=R1.out.2;rw [HW1.out] at this;exact this) q⟩
 have g4:(K == 4)=false:=beq_eq_false_iff_ne.2 h4
 by_cases h5:K=5
 ·subst h5
  by_cases hA:0<A
  ·have t2:decide (A>0)=true:=decide_eq_true hA
   have HR:Hid (canB 5 N A=(A == rpad N)):=zy (by rw [HC.out,decide_eq_true hA];rfl)
   have HF:=zy (fun W=>zSr N W n0 n1)
   have HFq:=HF
   obtain ⟨P,hP⟩: ∃P,P=rpad N:=⟨_,rfl⟩
   rw [←hP] at HR HF HFq
   clear hP
   have R1:=zy (lay1 w 36 #[.int .i64 5, .int .i64 N, .int .i64 A])
   obtain ⟨W1,hW1⟩: ∃W,W=w.alloc (.cells #[.int .i64 5, .int .i64 N, .int .i64 A] 36):=⟨_,rfl⟩
   rw [←hW1] at R1
   have d0:=R1.out.1.cell (i:=0) (v:= .int .i64 5) rfl
   have d1:=R1.out.1.cell (i:=1) (v:= .int .i64 N) rfl
   have d2:=R1.out.1.cell (i:=2) (v:= .int .i64 A) rfl
   rw [hW1] at d0 d1 d2
   have HW1:=zy hW1
   clear hW1
   go_enter Tryz.func54,Tryz.ntmps54
   go_wp2_with fail
   rw [←HW1.out]
   have z0:Hid (zAI (W1.drewN 1) w.heap.size 36 #[.int .i64 5, .int .i64 N, .int .i64 A]∧Below w.heap.size w (W1.drewN 1)):=zy ⟨R1.out.1,below_drewN R1.out.2 1⟩
   change (Code.region _ _ true).wp _ _ _ _
   refine wp_region_held_drew (S:=fun wz=>wz.cell? ⟨w.heap.size,1,none⟩=some (.int .i64 N)∧wz.cell? ⟨w.heap.size,2,none⟩=some (.int .i64 A)) (by kernel_rfl) (⟨z0.out.1.cell (i:=1) rfl,z0.out.1.cell (i:=2) rfl⟩) (fun hHeld=>?_)
   refine zj (i:=0) (v:=?_) rfl (by kernel_rfl) (fun _ _ _=>id) (by rfl) ?_ ⟨z0.out.1.cell (i:=1) rfl,z0.out.1.cell (i:=2) rfl⟩ ?_
   rotate_left
   ·intro w h;go_simp;try with_reducible rfl
   try simp only [zv,zx]
   refine zj (i:=1) (v:=?_) rfl (by kernel_rfl) (fun _ _ _=>id) (by rfl) ?_ ⟨z0.out.1.cell (i:=1) rfl,z0.out.1.cell (i:=2) rfl⟩ ?_
   rotate_left
   ·intro w h;go_simp;try with_reducible rfl
   try simp only [zv,zx]
   refine zj (i:=2) (v:=?_) rfl (by kernel_rfl) (fun _ _ _=>id) (by rfl) ?_ ⟨z0.out.1.cell (i:=1) rfl,z0.out.1.cell (i:=2) rfl⟩ ?_
   rotate_left
   ·intro w h;go_simp;try with_reducible rfl
   try simp only [zv,zx]
   refine zj (i:=3) (v:=?_) rfl (by kernel_rfl) (fun _ _ _=>id) (by rfl) ?_ ⟨z0.out.1.cell (i:=1) rfl,z0.out.1.cell (i:=2) rfl⟩ ?_
   rotate_left
   ·intro w h;go_simp;try with_reducible rfl
   try simp only [zv,zx]
   refine zj (i:=4) (v:=?_) rfl (by kernel_rfl) (fun _ _ _=>id) (by rfl) ?_ ⟨z0.out.1.cell (i:=1) rfl,z0.out.1.cell (i:=2) rfl⟩ ?_
   rotate_left
   ·intro w h;go_simp;try with_reducible rfl
   try simp only [zv,zx]
   refine zj (i:=5) (v:=?_) rfl (by kernel_rfl) (fun _ _ _=>id) (by rfl) ?_ ⟨z0.out.1.cell (i:=1) rfl,z0.out.1.cell (i:=2) rfl⟩ ?_
   rotate_left
   ·intro w h;go_simp;try with_reducible rfl
   try simp only [zv,zx]
   refine zj (i:=6) (v:=?_) rfl (by kernel_rfl) (fun _ _ _=>id) (by rfl) ?_ ⟨z0.out.1.cell (i:=1) rfl,z0.out.1.cell (i:=2) rfl⟩ ?_
   rotate_left
   ·intro w h;go_simp;try with_reducible rfl
   try simp only [zv,zx]
   refine zj (i:=7) (v:=?_) rfl (by kernel_rfl) (fun _ _ _=>id) (by rfl) ?_ ⟨z0.out.1.cell (i:=1) rfl,z0.out.1.cell (i:=2) rfl⟩ ?_
   rotate_left
   ·intro w h;go_simp;try with_reducible rfl
   try simp only [zv,zx]
   refine wpAnyH_ready (rs:= [8]) (by kernel_rfl) (by simp) ?_
   refine AllReadyH.cons rfl (fun K hK=>?_) AllReadyH.nil
   try simp only [zx]
   rw [if_pos (by rfl)]
   go_wp2_with (go_at_call 106;refine (HF.out _).mono ?_;rintro e y8 ⟨rfl,hY⟩)
   have z8:Hid (zAI y8 w.heap.size 36 #[.int .i64 5, .int .i64 N, .int .i64 A]∧Below w.heap.size w y8):=zy ⟨z0.out.1.keep hY,z0.out.2.trans (hY.mono z0.out.2.size)⟩
   clear hY
   refine hK.out _ _ (⟨z8.out.1.cell (i:=1) rfl,z8.out.1.cell (i:=2) rfl⟩) (fun _=>?_)
   clear hK K
   try simp only [zv,zx]
   refine zj (i:=9) (v:=?_) rfl (by kernel_rfl) (fun _ _ _=>id) (by rfl) ?_ ⟨z8.out.1.cell (i:=1) rfl,z8.out.1.cell (i:=2) rfl⟩ ?_
   rotate_left
   ·intro w h;go_simp;try with_reducible rfl
   try simp only [zv,zx]
   refine zj (i:=10) (v:=?_) rfl (by kernel_rfl) (fun _ _ _=>id) (by rfl) ?_ ⟨z8.out.1.cell (i:=1) rfl,z8.out.1.cell (i:=2) rfl⟩ ?_
   rotate_left
   ·intro w h;go_simp;try with_reducible rfl
   try simp only [zv,zx]
   refine zj (i:=11) (v:=?_) rfl (by kernel_rfl) (fun _ _ _=>id) (by rfl) ?_ ⟨z8.out.1.cell (i:=1) rfl,z8.out.1.cell (i:=2) rfl⟩ ?_
   rotate_left
   ·intro w h;go_simp;try with_reducible rfl
   try simp only [zv,zx]
   refine wpAnyH_done (by kernel_rfl) ?_ _
   go_wp2
   go_ret
   exact ⟨by rw [HR.out];rfl,z8.out.2⟩
  ·have t2:decide (A>0)=false:=decide_eq_false hA
   have HR:Hid (canB 5 N A=false):=zy (by rw [HC.out,decide_eq_false hA];rfl)
   have R1:=zy (lay1 w 36 #[.int .i64 5, .int .i64 N, .int .i64 A])
   obtain ⟨W1,hW1⟩: ∃W,W=w.alloc (.cells #[.int .i64 5, .int .i64 N, .int .i64 A] 36):=⟨_,rfl⟩
   rw [←hW1] at R1
   have d0:=R1.out.1.cell (i:=0) (v:= .int .i64 5) rfl
   have d1:=R1.out.1.cell (i:=1) (v:= .int .i64 N) rfl
   have d2:=R1.out.1.cell (i:=2) (v:= .int .i64 A) rfl
   rw [hW1] at d0 d1 d2
   have HW1:=zy hW1
   clear hW1
   go_enter Tryz.func54,Tryz.ntmps54
   go_wp2_with fail
   go_quiet (fail)
   go_wp2
   go_ret
   exact ⟨by rw [HR.out];rfl,below_drewN (by have:=R1.out.2;rw [HW1.out] at this;exact this) _⟩
 have g5:(K == 5)=false:=beq_eq_false_iff_ne.2 h5
 by_cases h6:K=6
 ·subst h6
  have HR:Hid (canB 6 N A=(A == cpad N)):=zy (by rw [HC.out];rfl)
  have HF:=zy (fun W=>(zES N W n0 n1).mono (fun e w2 (h:e= .returned (.int .i64 (cpad N))∧W=w2)=>(⟨h.1,0,h.2.symm⟩:e= .returned (.int .i64 (cpad N))∧ ∃n,w2=W.drewN n)))
  obtain ⟨P,hP⟩: ∃P,P=cpad N:=⟨_,rfl⟩
  rw [←hP] at HR HF
  clear hP
  have R1:=zy (lay1 w 36 #[.int .i64 6, .int .i64 N, .int .i64 A])
  obtain ⟨W1,hW1⟩: ∃W,W=w.alloc (.cells #[.int .i64 6, .int .i64 N, .int .i64 A] 36):=⟨_,rfl⟩
  rw [←hW1] at R1
  have d0:=R1.out.1.cell (i:=0) (v:= .int .i64 6) rfl
  have d1:=R1.out.1.cell (i:=1) (v:= .int .i64 N) rfl
  have d2:=R1.out.1.cell (i:=2) (v:= .int .i64 A) rfl
  rw [hW1] at d0 d1 d2
  have HW1:=zy hW1
  clear hW1
  go_enter Tryz.func54,Tryz.ntmps54
  go_wp2_with fail
  go_quiet ((go_at_call 107;exact Calls.quiet_of (HF.out _)))
  go_wp2
  go_ret
  exact ⟨by rw [HR.out];rfl,below_drewN (by have:=R1.out.2;rw [HW1.out] at this;exact this) _⟩
 have g6:(K == 6)=false:=beq_eq_false_iff_ne.2 h6
 have HR:Hid (canB K N A=false):=zy (by rw [HC.out,if_neg h0,if_neg (by omega),if_neg h3,if_neg h4,if_neg h5,if_neg h6])
 clear h0 h1 h2 h3 h4 h5 h6
 have R1:=zy (lay1 w 36 #[.int .i64 K, .int .i64 N, .int .i64 A])
 obtain ⟨W1,hW1⟩: ∃W,W=w.alloc (.cells #[.int .i64 K, .int .i64 N, .int .i64 A] 36):=⟨_,rfl⟩
 rw [←hW1] at R1
 have d0:=R1.out.1.cell (i:=0) (v:= .int .i64 K) rfl
 have d1:=R1.out.1.cell (i:=1) (v:= .int .i64 N) rfl
 have d2:=R1.out.1.cell (i:=2) (v:= .int .i64 A) rfl
 rw [hW1] at d0 d1 d2
 have HW1:=zy hW1
 clear hW1
 go_enter Tryz.func54,Tryz.ntmps54
 go_wp2
 go_ret
 exact ⟨by rw [HR.out];rfl,by have:=R1.out.2;rw [HW1.out] at this;exact this⟩
theorem zPJ (K N A:Int) (k0: -9223372036854775808≤K) (k1:K≤9223372036854775807) (n0: -9223372036854775808≤N) (n1:N≤9223372036854775807) (a0: -9223372036854775808≤A) (a1:A≤9223372036854775807) (w:World):
  Calls Tryz.prog 57 #[.agg #[.int .i64 K, .int .i64 N, .int .i64 A]] w fun e w'=>e= .returned (.bool (canB K N A))∧Below w.heap.size w w':=by
 by_cases hN:1≤N∧N≤1024
 case neg=>
  have HR:Hid (canB K N A=false):=zy (by unfold canB;rw [decide_eq_false hN,Bool.false_and])
  by_cases hl:N<1
  ·have t0:decide (N<1)=true:=decide_eq_true hl
   have R1:=zy (lay1 w 27 #[.int .i64 K, .int .i64 N, .int .i64 A])
   obtain ⟨W1,hW1⟩: ∃W,W=w.alloc (.cells #[.int .i64 K, .int .i64 N, .int .i64 A] 27):=⟨_,rfl⟩
   rw [←hW1] at R1
   have d0:=R1.out.1.cell (i:=0) (v:= .int .i64 K) rfl
   have d1:=R1.out.1.cell (i:=1) (v:= .int .i64 N) rfl
   have d2:=R1.out.1.cell (i:=2) (v:= .int .i64 A) rfl
   rw [hW1] at d0 d1 d2
   have HW1:=zy hW1
   clear hW1
   go_enter Tryz.func57,Tryz.ntmps57
   go_wp2
   go_ret
   exact ⟨by rw [HR.out];rfl,by have:=R1.out.2;rw [HW1.out] at this;exact this⟩
  ·have t0:decide (N<1)=false:=decide_eq_false hl
   have t1:decide (N>1024)=true:=decide_eq_true (by omega)
   have R1:=zy (lay1 w 27 #[.int .i64 K, .int .i64 N, .int .i64 A])
   obtain ⟨W1,hW1⟩: ∃W,W=w.alloc (.cells #[.int .i64 K, .int .i64 N, .int .i64 A] 27):=⟨_,rfl⟩
   rw [←hW1] at R1
   have d0:=R1.out.1.cell (i:=0) (v:= .int .i64 K) rfl
   have d1:=R1.out.1.cell (i:=1) (v:= .int .i64 N) rfl
   have d2:=R1.out.1.cell (i:=2) (v:= .int .i64 A) rfl
   rw [hW1] at d0 d1 d2
   have HW1:=zy hW1
   clear hW1
   go_enter Tryz.func57,Tryz.ntmps57
   go_wp2
   go_ret
   exact ⟨by rw [HR.out];rfl,by have:=R1.out.2;rw [HW1.out] at this;exact this⟩
 case pos=>
 have HC:=zy (zDg (K:=K) (A:=A) hN)
 have t0:decide (N<1)=false:=decide_eq_false (by omega)
 have t1:decide (N>1024)=false:=decide_eq_false (by omega)
 by_cases h0:K=0
 ·subst h0
  have HR:Hid (canB 0 N A=(A == 0)):=zy (by rw [HC.out];rfl)
  have R1:=zy (lay1 w 27 #[.int .i64 0, .int .i64 N, .int .i64 A])
  obtain ⟨W1,hW1⟩: ∃W,W=w.alloc (.cells #[.int .i64 0, .int .i64 N, .int .i64 A] 27):=⟨_,rfl⟩
  rw [←hW1] at R1
  have d0:=R1.out.1.cell (i:=0) (v:= .int .i64 0) rfl
  have d1:=R1.out.1.cell (i:=1) (v:= .int .i64 N) rfl
  have d2:=R1.out.1.cell (i:=2) (v:= .int .i64 A) rfl
  rw [hW1] at d0 d1 d2
  have HW1:=zy hW1
  clear hW1
  go_enter Tryz.func57,Tryz.ntmps57
  go_wp2
  go_ret
  exact ⟨by rw [HR.out];rfl,by have:=R1.out.2;rw [HW1.out] at this;exact this⟩
 have g0:(K == 0)=false:=beq_eq_false_iff_ne.2 h0
 by_cases h1:K=1
 ·subst h1
  by_cases hA:A=0
  ·have t2:(A == 0)=true:=by simpa using hA
   have HR:Hid (canB 1 N A=p2 N):=zy (by rw [HC.out,t2];rfl)
   have HF:=zy (fun W=>zPC N W n0 n1)
   clear hA
   have R1:=zy (lay1 w 27 #[.int .i64 1, .int .i64 N, .int .i64 A])
   obtain ⟨W1,hW1⟩: ∃W,W=w.alloc (.cells #[.int .i64 1, .int .i64 N, .int .i64 A] 27):=⟨_,rfl⟩
   rw [←hW1] at R1
   have d0:=R1.out.1.cell (i:=0) (v:= .int .i64 1) rfl
   have d1:=R1.out.1.cell (i:=1) (v:= .int .i64 N) rfl
   have d2:=R1.out.1.cell (i:=2) (v:= .int .i64 A) rfl
   rw [hW1] at d0 d1 d2
   have HW1:=zy hW1
   clear hW1
   go_enter Tryz.func57,Tryz.ntmps57
   go_wp2_with fail
   refine (HF.out _).mono ?_
   rintro e w2 ⟨rfl,rfl⟩
   go_wp2
   go_ret
   exact ⟨by rw [HR.out];rfl,by have:=R1.out.2;rw [HW1.out] at this;exact this⟩
  ·have t2:(A == 0)=false:=by simpa using hA
   have HR:Hid (canB 1 N A=false):=zy (by rw [HC.out,t2];rfl)
   clear hA
   have R1:=zy (lay1 w 27 #[.int .i64 1, .int .i64 N, .int .i64 A])
   obtain ⟨W1,hW1⟩: ∃W,W=w.alloc (.cells #[.int .i64 1, .int .i64 N, .int .i64 A] 27):=⟨_,rfl⟩
   rw [←hW1] at R1
   have d0:=R1.out.1.cell (i:=0) (v:= .int .i64 1) rfl
   have d1:=R1.out.1.cell (i:=1) (v:= .int .i64 N) rfl
   have d2:=R1.out.1.cell (i:=2) (v:= .int .i64 A) rfl
   rw [hW1] at d0 d1 d2
   have HW1:=zy hW1
   clear hW1
   go_enter Tryz.func57,Tryz.ntmps57
   go_wp2
   go_ret
   exact ⟨by rw [HR.out];rfl,by have:=R1.out.2;rw [HW1.out] at this;exact this⟩
 have g1:(K == 1)=false:=beq_eq_false_iff_ne.2 h1
 by_cases h2:K=2
 ·subst h2
  by_cases hA:A=0
  ·have t2:(A == 0)=true:=by simpa using hA
   have HR:Hid (canB 2 N A=p2 N):=zy (by rw [HC.out,t2];rfl)
   have HF:=zy (fun W=>zPC N W n0 n1)
   clear hA
   have R1:=zy (lay1 w 27 #[.int .i64 2, .int .i64 N, .int .i64 A])
   obtain ⟨W1,hW1⟩: ∃W,W=w.alloc (.cells #[.int .i64 2, .int .i64 N, .int .i64 A] 27):=⟨_,rfl⟩
   rw [←hW1] at R1
   have d0:=R1.out.1.cell (i:=0) (v:= .int .i64 2) rfl
   have d1:=R1.out.1.cell (i:=1) (v:= .int .i64 N) rfl
   have d2:=R1.out.1.cell (i:=2) (v:= .int .i64 A) rfl
   rw [hW1] at d0 d1 d2
   have HW1:=zy hW1
   clear hW1
   go_enter Tryz.func57,Tryz.ntmps57
   go_wp2_with fail
   refine (HF.out _).mono ?_
   rintro e w2 ⟨rfl,rfl⟩
   go_wp2
   go_ret
   exact ⟨by rw [HR.out];rfl,by have:=R1.out.2;rw [HW1.out] at this;exact this⟩
  ·have t2:(A == 0)=false:=by simpa using hA
   have HR:Hid (canB 2 N A=false):=zy (by rw [HC.out,t2];rfl)
   clear hA
   have R1:=zy (lay1 w 27 #[.int .i64 2, .int .i64 N, .int .i64 A])
   obtain ⟨W1,hW1⟩: ∃W,W=w.alloc (.cells #[.int .i64 2, .int .i64 N, .int .i64 A] 27):=⟨_,rfl⟩
   rw [←hW1] at R1
   have d0:=R1.out.1.cell (i:=0) (v:= .int .i64 2) rfl
   have d1:=R1.out.1.cell (i:=1) (v:= .int .i64 N) rfl
   have d2:=R1.out.1.cell (i:=2) (v:= .int .i64 A) rfl
   rw [hW1] at d0 d1 d2
   have HW1:=zy hW1
   clear hW1
   go_enter Tryz.func57,Tryz.ntmps57
   go_wp2
   go_ret
   exact ⟨by rw [HR.out];rfl,by have:=R1.out.2;rw [HW1.out] at this;exact this⟩
 have g2:(K == 2)=false:=beq_eq_false_iff_ne.2 h2
 by_cases h3:K=3
 ·subst h3
  have HF:=zy (fun W=>zPE N n0 n1 W)
  by_cases hA:A=0
  ·have t2:(A == 0)=true:=by simpa using hA
   have HR:Hid (canB 3 N A=zQD N):=zy (by rw [HC.out,t2];rfl)
   clear hA
   have R1:=zy (lay1 w 27 #[.int .i64 3, .int .i64 N, .int .i64 A])
   obtain ⟨W1,hW1⟩: ∃W,W=w.alloc (.cells #[.int .i64 3, .int .i64 N, .int .i64 A] 27):=⟨_,rfl⟩
   rw [←hW1] at R1
   have d0:=R1.out.1.cell (i:=0) (v:= .int .i64 3) rfl
   have d1:=R1.out.1.cell (i:=1) (v:= .int .i64 N) rfl
   have d2:=R1.out.1.cell (i:=2) (v:= .int .i64 A) rfl
   rw [hW1] at d0 d1 d2
   have HW1:=zy hW1
   clear hW1
   go_enter Tryz.func57,Tryz.ntmps57
   go_wp2_with fail
   rw [←HW1.out]
   refine (HF.out _).mono ?_
   rintro e w2 ⟨⟨L,V,ho,_,_,rfl,_⟩|⟨ho,rfl⟩,hB2⟩
   ·have R2:=zy (And.intro (R1.out.1.keep hB2) (R1.out.2.trans (hB2.mono R1.out.2.size)))
    have HO:=zy ho
    have e0:=R2.out.1.cell (i:=0) (v:= .int .i64 3) rfl
    have e1:=R2.out.1.cell (i:=1) (v:= .int .i64 N) rfl
    have e2:=R2.out.1.cell (i:=2) (v:= .int .i64 A) rfl
    clear hB2 d0 d1 d2 ho
    go_wp2
    go_ret
    exact ⟨by rw [HR.out,HO.out];rfl,R2.out.2⟩
   ·have R2:=zy (And.intro (R1.out.1.keep hB2) (R1.out.2.trans (hB2.mono R1.out.2.size)))
    have HO:=zy ho
    have e0:=R2.out.1.cell (i:=0) (v:= .int .i64 3) rfl
    have e1:=R2.out.1.cell (i:=1) (v:= .int .i64 N) rfl
    have e2:=R2.out.1.cell (i:=2) (v:= .int .i64 A) rfl
    clear hB2 d0 d1 d2 ho
    go_wp2
    go_ret
    exact ⟨by rw [HR.out,HO.out];rfl,R2.out.2⟩
  ·have t2:(A == 0)=false:=by simpa using hA
   have HR:Hid (canB 3 N A=false):=zy (by rw [HC.out,t2];rfl)
   clear hA
   have R1:=zy (lay1 w 27 #[.int .i64 3, .int .i64 N, .int .i64 A])
   obtain ⟨W1,hW1⟩: ∃W,W=w.alloc (.cells #[.int .i64 3, .int .i64 N, .int .i64 A] 27):=⟨_,rfl⟩
   rw [←hW1] at R1
   have d0:=R1.out.1.cell (i:=0) (v:= .int .i64 3) rfl
   have d1:=R1.out.1.cell (i:=1) (v:= .int .i64 N) rfl
   have d2:=R1.out.1.cell (i:=2) (v:= .int .i64 A) rfl
   rw [hW1] at d0 d1 d2
   have HW1:=zy hW1
   clear hW1
   go_enter Tryz.func57,Tryz.ntmps57
   go_wp2_with fail
   rw [←HW1.out]
   refine (HF.out _).mono ?_
   rintro e w2 ⟨⟨L,V,ho,_,_,rfl,_⟩|⟨ho,rfl⟩,hB2⟩
   ·have R2:=zy (And.intro (R1.out.1.keep hB2) (R1.out.2.trans (hB2.mono R1.out.2.size)))
    have HO:=zy ho
    have e0:=R2.out.1.cell (i:=0) (v:= .int .i64 3) rfl
    have e1:=R2.out.1.cell (i:=1) (v:= .int .i64 N) rfl
    have e2:=R2.out.1.cell (i:=2) (v:= .int .i64 A) rfl
    clear hB2 d0 d1 d2 ho
    go_wp2
    go_ret
    exact ⟨by rw [HR.out];rfl,R2.out.2⟩
   ·have R2:=zy (And.intro (R1.out.1.keep hB2) (R1.out.2.trans (hB2.mono R1.out.2.size)))
    have HO:=zy ho
    have e0:=R2.out.1.cell (i:=0) (v:= .int .i64 3) rfl
    have e1:=R2.out.1.cell (i:=1) (v:= .int .i64 N) rfl
    have e2:=R2.out.1.cell (i:=2) (v:= .int .i64 A) rfl
    clear hB2 d0 d1 d2 ho
    go_wp2
    go_ret
    exact ⟨by rw [HR.out];rfl,R2.out.2⟩
 have g3:(K == 3)=false:=beq_eq_false_iff_ne.2 h3
 by_cases h4:K=4
 ·subst h4
  have HR:Hid (canB 4 N A=copB N A):=zy (by rw [HC.out];rfl)
  have HF:=zy (fun W=>zPF N A n0 n1 a0 a1 W)
  have R1:=zy (lay1 w 27 #[.int .i64 4, .int .i64 N, .int .i64 A])
  obtain ⟨W1,hW1⟩: ∃W,W=w.alloc (.cells #[.int .i64 4, .int .i64 N, .int .i64 A] 27):=⟨_,rfl⟩
  rw [←hW1] at R1
  have d0:=R1.out.1.cell (i:=0) (v:= .int .i64 4) rfl
  have d1:=R1.out.1.cell (i:=1) (v:= .int .i64 N) rfl
  have d2:=R1.out.1.cell (i:=2) (v:= .int .i64 A) rfl
  rw [hW1] at d0 d1 d2
  have HW1:=zy hW1
  clear hW1
  go_enter Tryz.func57,Tryz.ntmps57
  go_wp2_with fail
  refine (HF.out _).mono ?_
  rintro e w2 ⟨rfl,rfl⟩
  go_wp2
  go_ret
  exact ⟨by rw [HR.out];rfl,by have:=R1.out.2;rw [HW1.out] at this;exact this⟩
 have g4:(K == 4)=false:=beq_eq_false_iff_ne.2 h4
 by_cases h5:K=5
 ·subst h5
  by_cases hA:0<A
  ·have t2:decide (A>0)=true:=decide_eq_true hA
   have HR:Hid (canB 5 N A=(A == rpad N)):=zy (by rw [HC.out,decide_eq_true hA];rfl)
   have HF:=zy (fun W=>zSu N W n0 n1)
   have HFq:=zy (fun W=>(zSu N W n0 n1).mono (fun e w2 (h:e= .returned (.int .i64 (rpad N))∧W=w2)=>(⟨h.1,0,h.2.symm⟩:e= .returned (.int .i64 (rpad N))∧ ∃n,w2=W.drewN n)))
   obtain ⟨P,hP⟩: ∃P,P=rpad N:=⟨_,rfl⟩
   rw [←hP] at HR HF HFq
   clear hP
   have R1:=zy (lay1 w 27 #[.int .i64 5, .int .i64 N, .int .i64 A])
   obtain ⟨W1,hW1⟩: ∃W,W=w.alloc (.cells #[.int .i64 5, .int .i64 N, .int .i64 A] 27):=⟨_,rfl⟩
   rw [←hW1] at R1
   have d0:=R1.out.1.cell (i:=0) (v:= .int .i64 5) rfl
   have d1:=R1.out.1.cell (i:=1) (v:= .int .i64 N) rfl
   have d2:=R1.out.1.cell (i:=2) (v:= .int .i64 A) rfl
   rw [hW1] at d0 d1 d2
   have HW1:=zy hW1
   clear hW1
   go_enter Tryz.func57,Tryz.ntmps57
   go_wp2_with fail
   go_quiet ((go_at_call 111;exact Calls.quiet_of (HFq.out _)))
   go_wp2
   go_ret
   exact ⟨by rw [HR.out];rfl,below_drewN (by have:=R1.out.2;rw [HW1.out] at this;exact this) _⟩
  ·have t2:decide (A>0)=false:=decide_eq_false hA
   have HR:Hid (canB 5 N A=false):=zy (by rw [HC.out,decide_eq_false hA];rfl)
   have R1:=zy (lay1 w 27 #[.int .i64 5, .int .i64 N, .int .i64 A])
   obtain ⟨W1,hW1⟩: ∃W,W=w.alloc (.cells #[.int .i64 5, .int .i64 N, .int .i64 A] 27):=⟨_,rfl⟩
   rw [←hW1] at R1
   have d0:=R1.out.1.cell (i:=0) (v:= .int .i64 5) rfl
   have d1:=R1.out.1.cell (i:=1) (v:= .int .i64 N) rfl
   have d2:=R1.out.1.cell (i:=2) (v:= .int .i64 A) rfl
   rw [hW1] at d0 d1 d2
   have HW1:=zy hW1
   clear hW1
   go_enter Tryz.func57,Tryz.ntmps57
   go_wp2_with fail
   go_quiet (fail)
   go_wp2
   go_ret
   exact ⟨by rw [HR.out];rfl,below_drewN (by have:=R1.out.2;rw [HW1.out] at this;exact this) _⟩
 have g5:(K == 5)=false:=beq_eq_false_iff_ne.2 h5
 by_cases h6:K=6
 ·subst h6
  have HR:Hid (canB 6 N A=(A == cpad N)):=zy (by rw [HC.out];rfl)
  have HF:=zy (fun W=>(zRs N W n0 n1).mono (fun e w2 (h:e= .returned (.int .i64 (cpad N))∧W=w2)=>(⟨h.1,0,h.2.symm⟩:e= .returned (.int .i64 (cpad N))∧ ∃n,w2=W.drewN n)))
  obtain ⟨P,hP⟩: ∃P,P=cpad N:=⟨_,rfl⟩
  rw [←hP] at HR HF
  clear hP
  have R1:=zy (lay1 w 27 #[.int .i64 6, .int .i64 N, .int .i64 A])
  obtain ⟨W1,hW1⟩: ∃W,W=w.alloc (.cells #[.int .i64 6, .int .i64 N, .int .i64 A] 27):=⟨_,rfl⟩
  rw [←hW1] at R1
  have d0:=R1.out.1.cell (i:=0) (v:= .int .i64 6) rfl
  have d1:=R1.out.1.cell (i:=1) (v:= .int .i64 N) rfl
  have d2:=R1.out.1.cell (i:=2) (v:= .int .i64 A) rfl
  rw [hW1] at d0 d1 d2
  have HW1:=zy hW1
  clear hW1
  go_enter Tryz.func57,Tryz.ntmps57
  go_wp2_with fail
  go_quiet ((go_at_call 112;exact Calls.quiet_of (HF.out _)))
  go_wp2
  go_ret
  exact ⟨by rw [HR.out];rfl,below_drewN (by have:=R1.out.2;rw [HW1.out] at this;exact this) _⟩
 have g6:(K == 6)=false:=beq_eq_false_iff_ne.2 h6
 have HR:Hid (canB K N A=false):=zy (by rw [HC.out,if_neg h0,if_neg (by omega),if_neg h3,if_neg h4,if_neg h5,if_neg h6])
 clear h0 h1 h2 h3 h4 h5 h6
 have R1:=zy (lay1 w 27 #[.int .i64 K, .int .i64 N, .int .i64 A])
 obtain ⟨W1,hW1⟩: ∃W,W=w.alloc (.cells #[.int .i64 K, .int .i64 N, .int .i64 A] 27):=⟨_,rfl⟩
 rw [←hW1] at R1
 have d0:=R1.out.1.cell (i:=0) (v:= .int .i64 K) rfl
 have d1:=R1.out.1.cell (i:=1) (v:= .int .i64 N) rfl
 have d2:=R1.out.1.cell (i:=2) (v:= .int .i64 A) rfl
 rw [hW1] at d0 d1 d2
 have HW1:=zy hW1
 clear hW1
 go_enter Tryz.func57,Tryz.ntmps57
 go_wp2
 go_ret
 exact ⟨by rw [HR.out];rfl,by have:=R1.out.2;rw [HW1.out] at this;exact this⟩
end

section
theorem zT5:(Tryz.prog.info? 36).map (·.size)=some 3:=by kernel_rfl
theorem zT6:(Tryz.prog.info? 27).map (·.size)=some 3:=by kernel_rfl
theorem zNY (n:Int) (w:World):Calls Tryz.prog 53 #[.pointer none, .int .i64 n] w fun e w'=>e= .returned (.int .i64 2)∧w=w':=by
 go_enter Tryz.func53,Tryz.ntmps53
 go_wp2_with fail
 refine (check_nil _ _ _).mono ?_
 rintro e w1 ⟨rfl,rfl⟩
 go_wp2
 go_ret
 exact ⟨rfl,rfl⟩
theorem zNX {w:World} {B:Nat} {v:Value} {p g:Int} (h:Fd w B v p g) (n:Int) (h0: -9223372036854775808≤n) (h1:n≤9223372036854775807):
  Calls Tryz.prog 53 #[v, .int .i64 n] w fun e w'=>e= .returned (.int .i64 (chk p n 1024))∧w=w':=by
 have H:=zy (zDT h n 1024 h0 h1)
 obtain ⟨c,hc⟩: ∃c,c=chk p n 1024:=⟨_,rfl⟩
 rw [←hc] at H ⊢
 obtain ⟨b,hv⟩: ∃b,v= .pointer (some ⟨b,0,none⟩):=by
  obtain ⟨b,_,_,_,_,_,e,_⟩:=h
  exact ⟨b,e⟩
 subst hv
 clear hc h
 go_enter Tryz.func53,Tryz.ntmps53
 go_wp2_with fail
 refine H.out.mono ?_
 rintro e w1 ⟨rfl,rfl⟩
 go_wp2
 go_ret
 exact ⟨rfl,rfl⟩
noncomputable def fitI (p K N A:Int):Int:=if chk p N 1024≠0 then chk p N 1024 else if canB K N A=false∨(5≤K∧fitR A p=false) then 11 else 0
theorem zDh {K N A:Int} (h:canB K N A=true) (hK:5≤K):1≤A∧A≤4096:=by
 unfold canB at h
 rw [Bool.and_eq_true,decide_eq_true_eq] at h
 obtain ⟨hN,h⟩:=h
 rw [if_neg (by omega),if_neg (by omega),if_neg (by omega),if_neg (by omega)] at h
 split at h
 ·rw [Bool.and_eq_true,decide_eq_true_eq,beq_iff_eq] at h
  refine ⟨by omega,?_⟩
  rw [h.2]
  unfold rpad
  split
  ·have:=zOc (show 2*N-3≤4096 by omega);omega
  ·omega
 ·split at h
  ·rw [beq_iff_eq] at h
   rw [h]
   unfold cpad
   rw [if_pos hN]
   have:=zOc (show 2*N-1≤4096 by omega)
   omega
  ·cases h
theorem zOe {w:World} {v:Value} {p g:Int} (h:Fd w w.heap.size v p g) (K N A:Int) (k0: -9223372036854775808≤K) (k1:K≤9223372036854775807) (n0: -9223372036854775808≤N) (n1:N≤9223372036854775807) (a0: -9223372036854775808≤A) (a1:A≤9223372036854775807):
  Calls Tryz.prog 16 #[v, .agg #[.int .i64 K, .int .i64 N, .int .i64 A]] w fun e w'=>e= .returned (.int .i64 (fitI p K N A))∧Below w.heap.size w w':=by
 have R1:=zy (lay1 w 36 #[.int .i64 K, .int .i64 N, .int .i64 A])
 have HC:=zy (zNX (h.below R1.out.2) N n0 n1)
 have HS:=zy (fun W=>zT2 K N A k0 k1 n0 n1 a0 a1 W)
 have HF:=zy h
 have d1:=R1.out.1.cell (i:=1) (v:= .int .i64 N) rfl
 obtain ⟨b,hv⟩: ∃b,v= .pointer (some ⟨b,0,none⟩):=by
  obtain ⟨b,_,_,_,_,_,e,_⟩:=h
  exact ⟨b,e⟩
 subst hv
 by_cases hc:chk p N 1024=0
 case neg=>
  have HR:Hid (fitI p K N A=chk p N 1024):=zy (by unfold fitI;rw [if_pos hc])
  obtain ⟨c,hce⟩: ∃c,c=chk p N 1024:=⟨_,rfl⟩
  rw [←hce] at HC HR hc
  have t0:(c != 0)=true:=by simpa using hc
  clear hc hce h
  go_enter Tryz.func16,Tryz.ntmps16
  go_wp2_with fail
  refine HC.out.mono ?_
  rintro e w1 ⟨rfl,rfl⟩
  go_wp2
  go_ret
  exact ⟨by rw [HR.out];rfl,R1.out.2⟩
 have HR:Hid (fitI p K N A=if canB K N A=false∨(5≤K∧fitR A p=false) then 11 else 0):=zy (by unfold fitI;rw [if_neg (by simp [hc])])
 rw [hc] at HC
 have HD:Hid (canB K N A=true→5≤K→ ∀W,Below w.heap.size w W→Calls Tryz.prog 55 #[.pointer (some ⟨b,0,none⟩), .int .i64 A] W fun e w'=>e= .returned (.bool (fitR A p))∧W=w'):=zy (fun h1 h2 W hW=>zFG (h.below hW) A (by have:=zDh h1 h2;omega) (by have:=zDh h1 h2;omega))
 obtain ⟨cb,hcb⟩: ∃cb,cb=canB K N A:=⟨_,rfl⟩
 rw [←hcb] at HS HR HD
 obtain ⟨fb,hfb⟩: ∃fb,fb=fitR A p:=⟨_,rfl⟩
 rw [←hfb] at HR HD
 clear hcb hfb hc h
 cases cb with
 | false=>
  go_enter Tryz.func16,Tryz.ntmps16
  go_wp2_with fail
  refine HC.out.mono ?_
  rintro e w1 ⟨rfl,rfl⟩
  go_wp2_with (refine wpList_load_row rfl _ _ rfl _ rfl _ _ _ _ (R1.out.1) Tryz.underlying36 rfl (by exact zT5) ?_)
  refine (HS.out _).mono ?_
  rintro e w2 ⟨rfl,hB2⟩
  have HB2:=zy (R1.out.2.trans (hB2.mono R1.out.2.size))
  clear hB2
  go_wp2
  go_ret
  exact ⟨by rw [HR.out];rfl,HB2.out⟩
 | true=>
  by_cases hK:5≤K
  ·have t1:decide (K≥5)=true:=decide_eq_true hK
   have HD2:=zy (HD.out rfl hK)
   have HR2:Hid (fitI p K N A=if fb=false then 11 else 0):=zy (by rw [HR.out];cases fb <;> simp [hK])
   clear hK HD
   cases fb with
   | true=>
    go_enter Tryz.func16,Tryz.ntmps16
    go_wp2_with fail
    refine HC.out.mono ?_
    rintro e w1 ⟨rfl,rfl⟩
    go_wp2_with (refine wpList_load_row rfl _ _ rfl _ rfl _ _ _ _ (R1.out.1) Tryz.underlying36 rfl (by exact zT5) ?_)
    refine (HS.out _).mono ?_
    rintro e w2 ⟨rfl,hB2⟩
    have HB2:=zy (R1.out.2.trans (hB2.mono R1.out.2.size))
    have HR3:=zy (R1.out.1.keep hB2)
    have e0:=HR3.out.cell (i:=0) (v:= .int .i64 K) rfl
    have e2:=HR3.out.cell (i:=2) (v:= .int .i64 A) rfl
    clear hB2 d1
    go_wp2_with fail
    refine (HD2.out _ HB2.out).mono ?_
    rintro e w3 ⟨rfl,rfl⟩
    go_wp2
    go_ret
    exact ⟨by rw [HR2.out];rfl,HB2.out⟩
   | false=>
    go_enter Tryz.func16,Tryz.ntmps16
    go_wp2_with fail
    refine HC.out.mono ?_
    rintro e w1 ⟨rfl,rfl⟩
    go_wp2_with (refine wpList_load_row rfl _ _ rfl _ rfl _ _ _ _ (R1.out.1) Tryz.underlying36 rfl (by exact zT5) ?_)
    refine (HS.out _).mono ?_
    rintro e w2 ⟨rfl,hB2⟩
    have HB2:=zy (R1.out.2.trans (hB2.mono R1.out.2.size))
    have HR3:=zy (R1.out.1.keep hB2)
    have e0:=HR3.out.cell (i:=0) (v:= .int .i64 K) rfl
    have e2:=HR3.out.cell (i:=2) (v:= .int .i64 A) rfl
    clear hB2 d1
    go_wp2_with fail
    refine (HD2.out _ HB2.out).mono ?_
    rintro e w3 ⟨rfl,rfl⟩
    go_wp2
    go_ret
    exact ⟨by rw [HR2.out];rfl,HB2.out⟩
  ·have t1:decide (K≥5)=false:=decide_eq_false hK
   have HR2:Hid (fitI p K N A=0):=zy (by rw [HR.out,if_neg];rintro (h1|h1) <;> first|(cases h1;done)|exact hK h1.1)
   clear hK HD
   go_enter Tryz.func16,Tryz.ntmps16
   go_wp2_with fail
   refine HC.out.mono ?_
   rintro e w1 ⟨rfl,rfl⟩
   go_wp2_with (refine wpList_load_row rfl _ _ rfl _ rfl _ _ _ _ (R1.out.1) Tryz.underlying36 rfl (by exact zT5) ?_)
   refine (HS.out _).mono ?_
   rintro e w2 ⟨rfl,hB2⟩
   have HB2:=zy (R1.out.2.trans (hB2.mono R1.out.2.size))
   have HR3:=zy (R1.out.1.keep hB2)
   have e0:=HR3.out.cell (i:=0) (v:= .int .i64 K) rfl
   clear hB2 d1
   go_wp2
   go_ret
   exact ⟨by rw [HR2.out];rfl,HB2.out⟩
theorem zPO (p K N A:Int) (p1:3≤p) (p2:p<9223372036854775808) (k0: -9223372036854775808≤K) (k1:K≤9223372036854775807) (n0: -9223372036854775808≤N) (n1:N≤9223372036854775807) (a0: -9223372036854775808≤A) (a1:A≤9223372036854775807) (w:World):
  Calls Tryz.prog 20 #[.int .u64 p, .agg #[.int .i64 K, .int .i64 N, .int .i64 A]] w fun e w'=>e= .returned (.int .i64 (fitI p K N A))∧Below w.heap.size w w':=by
 have R1:=zy (lay1 w 27 #[.int .i64 K, .int .i64 N, .int .i64 A])
 have HC:=zy (fun W=>zP8 p N 1024 W p1 p2 n0 n1)
 have HS:=zy (fun W=>zPJ K N A k0 k1 n0 n1 a0 a1 W)
 have d1:=R1.out.1.cell (i:=1) (v:= .int .i64 N) rfl
 by_cases hc:chk p N 1024=0
 case neg=>
  have HR:Hid (fitI p K N A=chk p N 1024):=zy (by unfold fitI;rw [if_pos hc])
  obtain ⟨c,hce⟩: ∃c,c=chk p N 1024:=⟨_,rfl⟩
  rw [←hce] at HC HR hc
  have t0:(c != 0)=true:=by simpa using hc
  clear hc hce
  go_enter Tryz.func20,Tryz.ntmps20
  go_wp2_with fail
  refine (HC.out _).mono ?_
  rintro e w1 ⟨rfl,rfl⟩
  go_wp2
  go_ret
  exact ⟨by rw [HR.out];rfl,R1.out.2⟩
 have HR:Hid (fitI p K N A=if canB K N A=false∨(5≤K∧fitR A p=false) then 11 else 0):=zy (by unfold fitI;rw [if_neg (by simp [hc])])
 rw [hc] at HC
 have HP:Hid (canB K N A=true→5≤K→1≤A∧A≤4096):=zy zDh
 obtain ⟨cb,hcb⟩: ∃cb,cb=canB K N A:=⟨_,rfl⟩
 rw [←hcb] at HS HR HP
 clear hcb hc
 cases cb with
 | false=>
  go_enter Tryz.func20,Tryz.ntmps20
  go_wp2_with fail
  refine (HC.out _).mono ?_
  rintro e w1 ⟨rfl,rfl⟩
  go_wp2_with (refine wpList_load_row rfl _ _ rfl _ rfl _ _ _ _ (R1.out.1) Tryz.underlying27 rfl (by exact zT6) ?_)
  refine (HS.out _).mono ?_
  rintro e w2 ⟨rfl,hB2⟩
  have HB2:=zy (R1.out.2.trans (hB2.mono R1.out.2.size))
  clear hB2
  go_wp2
  go_ret
  exact ⟨by rw [HR.out];rfl,HB2.out⟩
 | true=>
  by_cases hK:5≤K
  ·have t1:decide (K>4)=true:=decide_eq_true (by omega)
   have hA:=HP.out rfl hK
   have HR2:Hid (fitI p K N A=if fitR A p=false then 11 else 0):=zy (by rw [HR.out];cases fitR A p <;> simp [hK])
   have HX:Hid (fitR A p=((p-1)%A == 0)):=zy (by unfold fitR;rw [decide_eq_true (by omega),Bool.true_and])
   have t2:IntKind.u64.wrap A=A:=by rw [IntKind.wrap_u64];omega
   have t3:(A == 0)=false:=beq_eq_false_iff_ne.2 (by omega)
   have t4:IntKind.u64.wrap (p-1)=p-1:=by rw [IntKind.wrap_u64];omega
   obtain ⟨y,hy⟩: ∃y,y=(p-1)%A:=⟨_,rfl⟩
   rw [←hy] at HX
   have y1:(p-1)%A=y:=hy.symm
   have y2:(p-1).tmod A=y:=by rw [Int.tmod_eq_emod_of_nonneg (by omega)];exact y1
   clear hK HP hy
   by_cases hy0:y=0
   ·have t5:(y != 0)=false:=by simpa using hy0
    have HR3:Hid (fitI p K N A=0):=zy (by rw [HR2.out,HX.out,hy0];rfl)
    clear hy0
    go_enter Tryz.func20,Tryz.ntmps20
    go_wp2_with fail
    refine (HC.out _).mono ?_
    rintro e w1 ⟨rfl,rfl⟩
    go_wp2_with (refine wpList_load_row rfl _ _ rfl _ rfl _ _ _ _ (R1.out.1) Tryz.underlying27 rfl (by exact zT6) ?_)
    refine (HS.out _).mono ?_
    rintro e w2 ⟨rfl,hB2⟩
    have HB2:=zy (R1.out.2.trans (hB2.mono R1.out.2.size))
    have HR4:=zy (R1.out.1.keep hB2)
    have e0:=HR4.out.cell (i:=0) (v:= .int .i64 K) rfl
    have e2:=HR4.out.cell (i:=2) (v:= .int .i64 A) rfl
    clear hB2 d1
    go_wp2
    go_ret
    exact ⟨by rw [HR3.out];rfl,HB2.out⟩
   ·have t5:(y != 0)=true:=by simpa using hy0
    have HR3:Hid (fitI p K N A=11):=zy (by
     rw [HR2.out,HX.out,if_pos]
     simpa using hy0)
    clear hy0
    go_enter Tryz.func20,Tryz.ntmps20
    go_wp2_with fail
    refine (HC.out _).mono ?_
    rintro e w1 ⟨rfl,rfl⟩
    go_wp2_with (refine wpList_load_row rfl _ _ rfl _ rfl _ _ _ _ (R1.out.1) Tryz.underlying27 rfl (by exact zT6) ?_)
    refine (HS.out _).mono ?_
    rintro e w2 ⟨rfl,hB2⟩
    have HB2:=zy (R1.out.2.trans (hB2.mono R1.out.2.size))
    have HR4:=zy (R1.out.1.keep hB2)
    have e0:=HR4.out.cell (i:=0) (v:= .int .i64 K) rfl
    have e2:=HR4.out.cell (i:=2) (v:= .int .i64 A) rfl
    clear hB2 d1
    go_wp2
    go_ret
    exact ⟨by rw [HR3.out];rfl,HB2.out⟩
  ·have t1:decide (K>4)=false:=decide_eq_false (by omega)
   have HR2:Hid (fitI p K N A=0):=zy (by rw [HR.out,if_neg];rintro (h1|h1) <;> first|(cases h1;done)|exact hK h1.1)
   clear hK HP
   go_enter Tryz.func20,Tryz.ntmps20
   go_wp2_with fail
   refine (HC.out _).mono ?_
   rintro e w1 ⟨rfl,rfl⟩
   go_wp2_with (refine wpList_load_row rfl _ _ rfl _ rfl _ _ _ _ (R1.out.1) Tryz.underlying27 rfl (by exact zT6) ?_)
   refine (HS.out _).mono ?_
   rintro e w2 ⟨rfl,hB2⟩
   have HB2:=zy (R1.out.2.trans (hB2.mono R1.out.2.size))
   have HR4:=zy (R1.out.1.keep hB2)
   have e0:=HR4.out.cell (i:=0) (v:= .int .i64 K) rfl
   clear hB2 d1
   go_wp2
   go_ret
   exact ⟨by rw [HR2.out];rfl,HB2.out⟩
end
end Go.Proofs.YtmalmijdjhkklaaGreat
