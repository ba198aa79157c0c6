/- mont: the context's calls. -/
import Derived.Test.YtmalmijdjhkklaaGreatW10
import Derived.Test.YtmalmijdjhkklaaGreatMontM
import Derived.Laws.Externs
import Derived.Deep.RegionWith
import Derived.Deep.DeepCutAuto
import Derived.Deep.CutBlock
import Derived.Test.YtmalmijdjhkklaaGreatW1
set_option linter.unusedVariables false
set_option linter.unusedSimpArgs false
set_option maxRecDepth 100000
set_option maxHeartbeats 16000000
namespace Go.Proofs.YtmalmijdjhkklaaGreat
section
open Go.RowKit
theorem zP3 {P:Program} {f:FuncId} {args:Array Value} {w:World} {v:Value} (h:Calls P f args w fun e w'=>e= .returned v∧w=w'):Calls P f args w fun e w'=>e= .returned v∧ ∃n,w'=w.drewN n:=
 h.mono fun _ _ ⟨he,hw⟩=>⟨he,0,hw.symm⟩
theorem zAV (x y c:Int) (hx0:0≤x) (hx:x≤18446744073709551615) (hy0:0≤y) (hy:y≤18446744073709551615) (hc0:0≤c) (hc:c≤1) (w:World):
  (callFunc 183 #[.int .u64 x, .int .u64 y, .int .u64 c]).run Tryz.prog w =
   .ok (.value (.tuple #[.int .u64 ((x+y+c)%18446744073709551616), .int .u64 ((x+y+c)/18446744073709551616)])) w:=by
 obtain ⟨a,rfl⟩:=Int.eq_ofNat_of_zero_le hx0
 obtain ⟨b,rfl⟩:=Int.eq_ofNat_of_zero_le hy0
 obtain ⟨d,rfl⟩:=Int.eq_ofNat_of_zero_le hc0
 rw [run_callFunc_extern Tryz.func183 (by kernel_rfl) (by kernel_rfl) (by kernel_rfl) (e:=add64Entry) (by kernel_rfl),run_add64 a b d (by omega) (by omega) (by omega) (by omega)]
 simp only [Result.andThen]
structure Ctx (w:World) (c:Nat) (m t o s:Int):Prop where
 c0:w.cell? ⟨c,0,none⟩=some (.int .u64 m)
 c1:w.cell? ⟨c,1,none⟩=some (.int .u64 t)
 c2:w.cell? ⟨c,2,none⟩=some (.int .u64 o)
 c3:w.cell? ⟨c,3,none⟩=some (.int .u64 s)
 m1:3≤m
 m2:m<9223372036854775808
 mo:m%2=1
 t0:0≤t
 t1:t≤18446744073709551615
 tm:t*m%18446744073709551616=18446744073709551615
 eo:o=18446744073709551616%m
 es:s=340282366920938463463374607431768211456%m
theorem Ctx.lt {w:World} {c:Nat} {m t o s:Int} (h:Ctx w c m t o s):c<w.heap.size:=World.block_lt_of_cell? w _ h.c0
theorem Ctx.below {w w':World} {c B:Nat} {m t o s:Int} (h:Ctx w c m t o s) (hb:Below B w w') (hB:c<B):Ctx w' c m t o s:=
 ⟨zDs hb hB h.c0,zDs hb hB h.c1,zDs hb hB h.c2,zDs hb hB h.c3,h.m1,h.m2,h.mo,h.t0,h.t1,h.tm,h.eo,h.es⟩
theorem Ctx.drewN {w:World} {c:Nat} {m t o s:Int} (h:Ctx w c m t o s) (n:Nat):Ctx (w.drewN n) c m t o s:=⟨h.c0,h.c1,h.c2,h.c3,h.m1,h.m2,h.mo,h.t0,h.t1,h.tm,h.eo,h.es⟩
theorem zRy {w:World} {c:Nat} {m t o s:Int} (hC:Ctx w c m t o s) (h l:Int) (hh0:0≤h) (hh:h<m) (hl0:0≤l) (hl:l≤18446744073709551615):
  Calls Tryz.prog 141 #[.pointer (some ⟨c,0,none⟩), .int .u64 h, .int .u64 l] w fun e w'=>e= .returned (.int .u64 ((h*18446744073709551616+l)*Mont.rinv m%m))∧ ∃n,w'=w.drewN n:=by
 have c0:=hC.c0
 have c1:=hC.c1
 have m1:=hC.m1
 have m2:=hC.m2
 obtain ⟨q,hq⟩: ∃q,l*t%18446744073709551616=q:=⟨_,rfl⟩
 have hw:IntKind.u64.wrap (l*t)=q:=by rw [IntKind.wrap_u64];exact hq
 have q0:0≤q:=by rw [←hq];exact Int.emod_nonneg _ (by omega)
 have q1:q<18446744073709551616:=by rw [←hq];exact Int.emod_lt_of_pos _ (by omega)
 obtain ⟨r0,r1,r2⟩:=Mont.redc (q:=q) (by omega) m2 hC.mo hC.tm hh0 hh hl0 (by omega) hq.symm
 have hb0:0≤q*m/18446744073709551616:=Int.ediv_nonneg (Int.mul_nonneg q0 (by omega)) (by omega)
 obtain ⟨H,hH⟩: ∃H,q*m/18446744073709551616=H:=⟨_,rfl⟩
 obtain ⟨L,hL⟩: ∃L,q*m%18446744073709551616=L:=⟨_,rfl⟩
 have L0:0≤L:=by rw [←hL];exact Int.emod_nonneg _ (by omega)
 have L1:L<18446744073709551616:=by rw [←hL];exact Int.emod_lt_of_pos _ (by omega)
 rw [hH] at r0 r1 r2 hb0
 rw [hL] at r0 r1 r2
 obtain ⟨d,hd⟩: ∃d,(l+L)/18446744073709551616=d:=⟨_,rfl⟩
 have d0:0≤d:=by omega
 have d1:d≤1:=by omega
 rw [hd] at r0 r1 r2
 have e1:=zAV l L 0 hl0 hl L0 (by omega) (by omega) (by omega)
 rw [Int.add_zero,hd] at e1
 have e2:=zAV h H d hh0 (by omega) hb0 (by omega) d0 d1
 rw [show (h+H+d)%18446744073709551616=h+H+d by omega] at e2
 have hM:=zy (zMc q m · q0 (by omega) (by omega) (by omega))
 have fin:Hid ((if h+H+d≥m then h+H+d-m else h+H+d)=(h*18446744073709551616+l)*Mont.rinv m%m):=zy (by
  refine Mont.by_rinv (by omega) hC.mo ?_ (by split <;> omega) (by split <;> omega)
  have e:(h+H+d)*18446744073709551616%m=(h*18446744073709551616+l)%m:=by
   rw [r2];exact Int.add_mul_emod_self_right ..
  split
  ·rw [Int.sub_mul,←e]
   rw [show (h+H+d)*18446744073709551616-m*18446744073709551616=(h+H+d)*18446744073709551616+m*(-18446744073709551616) by omega]
   exact Int.add_mul_emod_self_left ..
  ·exact e)
 clear hq r2 hd
 by_cases hge:h+H+d≥m
 ·rw [if_pos hge] at fin
  go_enter Tryz.func141,Tryz.ntmps141
  go_wp2
  go_quiet ((go_at_call 142;exact Calls.quiet_of (zP3 (hM.out _))))
  go_wp2
  go_ret
  exact ⟨zRD fin.out,_,rfl⟩
 ·rw [if_neg hge] at fin
  go_enter Tryz.func141,Tryz.ntmps141
  go_wp2
  go_quiet ((go_at_call 142;exact Calls.quiet_of (zP3 (hM.out _))))
  go_wp2
  go_ret
  exact ⟨zRD fin.out,_,rfl⟩
theorem zFb {w:World} {c:Nat} {m t o s:Int} (hC:Ctx w c m t o s) (a:Int) (h0:0≤a) (h1:a≤18446744073709551615):
  Calls Tryz.prog 143 #[.pointer (some ⟨c,0,none⟩), .int .u64 a] w fun e w'=>e= .returned (.int .u64 (a%m))∧ ∃n,w'=w.drewN n:=by
 have c0:=hC.c0
 have m1:=hC.m1
 have hz:(m == 0)=false:=beq_eq_false_iff_ne.2 (by omega)
 by_cases hge:m≤a
 ·go_enter Tryz.func143,Tryz.ntmps143
  go_wp2
  go_ret
  exact ⟨rfl,0,rfl⟩
 ·have e:=zy (Int.emod_eq_of_lt h0 (show a<m by omega))
  go_enter Tryz.func143,Tryz.ntmps143
  go_wp2
  go_ret
  exact ⟨zRD e.out.symm,0,rfl⟩
theorem zLA {w:World} {c:Nat} {m t o s:Int} (hC:Ctx w c m t o s) (x y:Int) (hx0:0≤x) (hx:x≤18446744073709551615) (hy0:0≤y) (hy:y≤18446744073709551615):
  Calls Tryz.prog 84 #[.pointer (some ⟨c,0,none⟩), .int .u64 x, .int .u64 y] w fun e w'=>e= .returned (.int .u64 (x*y*Mont.rinv m%m))∧ ∃n,w'=w.drewN n:=by
 have m1:=hC.m1
 have m2:=hC.m2
 have x0:=Int.emod_nonneg x (show m≠0 by omega)
 have x1:=Int.emod_lt_of_pos x (show 0<m by omega)
 have y0:=Int.emod_nonneg y (show m≠0 by omega)
 have y1:=Int.emod_lt_of_pos y (show 0<m by omega)
 have hp0:0≤(x%m)*(y%m):=Int.mul_nonneg x0 y0
 have hp1:(x%m)*(y%m)<18446744073709551616*m:=by
  have a1:(x%m)*(y%m)≤(x%m)*m:=Int.mul_le_mul_of_nonneg_left (by omega) x0
  have a2:(x%m)*m<18446744073709551616*m:=Int.mul_lt_mul_of_pos_right (by omega) (by omega)
  omega
 have hh:(x%m)*(y%m)/18446744073709551616<m:=Int.ediv_lt_of_lt_mul (by omega) (by rw [Int.mul_comm m];exact hp1)
 have fin:Hid (((x%m)*(y%m)/18446744073709551616*18446744073709551616+(x%m)*(y%m)%18446744073709551616)*Mont.rinv m%m=x*y*Mont.rinv m%m):=zy (by
  rw [show (x%m)*(y%m)/18446744073709551616*18446744073709551616+(x%m)*(y%m)%18446744073709551616=(x%m)*(y%m) by omega]
  rw [Int.mul_emod,←Int.mul_emod x y,←Int.mul_emod])
 go_enter Tryz.func84,Tryz.ntmps84
 go_wp2_with fail
 refine (zFb hC x hx0 hx).mono ?_
 rintro e w1 ⟨rfl,n1,rfl⟩
 go_wp2_with fail
 refine (zFb (hC.drewN n1) y hy0 hy).mono ?_
 rintro e w1 ⟨rfl,n2,rfl⟩
 go_wp2_with fail
 refine (zMc _ _ _ x0 (by omega) y0 (by omega)).mono ?_
 rintro e w1 ⟨rfl,rfl⟩
 go_wp2_with fail
 refine (zRy (hC.drewN _) _ _ (Int.ediv_nonneg hp0 (by omega)) hh (Int.emod_nonneg _ (by omega)) (by omega)).mono ?_
 rintro e w1 ⟨rfl,n3,rfl⟩
 go_wp2
 go_ret
 exact ⟨zRD fin.out,_,rfl⟩
def lft (m a:Int):Int:=a*18446744073709551616%m
theorem zK6 {m:Int} (hm:1≤m) (a:Int):0≤lft m a∧lft m a<m:=⟨Int.emod_nonneg _ (by omega),Int.emod_lt_of_pos _ (by omega)⟩
theorem zK2 (m a:Int):lft m (a%m)=lft m a:=by
 unfold lft;rw [Int.mul_emod,Int.emod_emod_of_dvd _ ⟨1,by simp⟩,←Int.mul_emod]
theorem zK3 {m a y:Int} (hm:1<m) (ho:m%2=1):lft m a*y*Mont.rinv m%m=a*y%m:=by
 unfold lft
 have e:=Mont.rinv_spec hm ho
 have e1:a*18446744073709551616%m*y*Mont.rinv m%m=(a*18446744073709551616)*(y*Mont.rinv m)%m:=by
  rw [Int.mul_assoc,Int.mul_emod,Int.emod_emod_of_dvd _ ⟨1,by simp⟩,←Int.mul_emod]
 have e2:(a*18446744073709551616)*(y*Mont.rinv m)=(a*y)*(Mont.rinv m*18446744073709551616):=by grind
 rw [e1,e2,Int.mul_emod,e];simp
theorem zJe {m a:Int} (hm:1<m) (ho:m%2=1):a*(340282366920938463463374607431768211456%m)*Mont.rinv m%m=lft m a:=by
 have e:=Mont.rinv_spec hm ho
 have e1:a*(340282366920938463463374607431768211456%m)*Mont.rinv m%m=(a*Mont.rinv m)*340282366920938463463374607431768211456%m:=by
  have:a*(340282366920938463463374607431768211456%m)*Mont.rinv m=(a*Mont.rinv m)*(340282366920938463463374607431768211456%m):=by grind
  rw [this,Int.mul_emod,Int.emod_emod_of_dvd _ ⟨1,by simp⟩,←Int.mul_emod]
 have e2:(a*Mont.rinv m)*340282366920938463463374607431768211456=(a*18446744073709551616)*(Mont.rinv m*18446744073709551616):=by grind
 rw [e1,e2,Int.mul_emod,e];unfold lft;simp
theorem zJd {w:World} {c:Nat} {m t o s:Int} (hC:Ctx w c m t o s) (a:Int) (h0:0≤a) (h1:a≤18446744073709551615):
  Calls Tryz.prog 85 #[.pointer (some ⟨c,0,none⟩), .int .u64 a] w fun e w'=>e= .returned (.int .u64 (lft m a))∧ ∃n,w'=w.drewN n:=by
 have c3:=hC.c3
 have m1:=hC.m1
 have m2:=hC.m2
 have es:=hC.es
 have s0:0≤s:=by rw [es];exact Int.emod_nonneg _ (by omega)
 have s1:s≤18446744073709551615:=by have:=Int.emod_lt_of_pos 340282366920938463463374607431768211456 (show 0<m by omega);omega
 have fin:Hid (a*s*Mont.rinv m%m=lft m a):=zy (by rw [es];exact zJe (by omega) hC.mo)
 clear es
 go_enter Tryz.func85,Tryz.ntmps85
 go_wp2_with fail
 refine (zLA hC a s h0 h1 s0 s1).mono ?_
 rintro e w1 ⟨rfl,n1,rfl⟩
 go_wp2
 go_ret
 exact ⟨zRD fin.out,_,rfl⟩
theorem zLB {w:World} {c:Nat} {m t o s:Int} (hC:Ctx w c m t o s) (a b:Int):
  Calls Tryz.prog 84 #[.pointer (some ⟨c,0,none⟩), .int .u64 (lft m a), .int .u64 (lft m b)] w fun e w'=>e= .returned (.int .u64 (lft m (a*b)))∧ ∃n,w'=w.drewN n:=by
 have m1:=hC.m1
 have m2:=hC.m2
 have ra:=zK6 (show 1≤m by omega) a
 have rb:=zK6 (show 1≤m by omega) b
 refine (zLA hC _ _ ra.1 (by omega) rb.1 (by omega)).mono ?_
 rintro e w' ⟨rfl,h⟩
 refine ⟨zRD ?_,h⟩
 rw [zK3 (by omega) hC.mo]
 unfold lft
 rw [Int.mul_emod,Int.emod_emod_of_dvd _ ⟨1,by simp⟩,←Int.mul_emod,Int.mul_assoc]
theorem one_any {w:World} {c:Nat} {m t o s:Int} (hC:Ctx w c m t o s):
  Calls Tryz.prog 217 #[.pointer (some ⟨c,0,none⟩)] w fun e w'=>e= .returned (.int .u64 (lft m 1))∧ ∃n,w'=w.drewN n:=by
 have c2:=hC.c2
 have fin:Hid (o=lft m 1):=zy (by rw [hC.eo];unfold lft;simp)
 go_enter Tryz.func217,Tryz.ntmps217
 go_wp2
 go_ret
 exact ⟨zRD fin.out,0,rfl⟩
theorem zK1 {m a b:Int} (h:a%m=b%m):lft m a=lft m b:=by rw [←zK2,h,zK2]
theorem zK5 (m a z:Int) (y:Int) (hy:0<y):lft m ((if y%2=1 then z*a else z)*(a*a)^(y/2).toNat)=lft m (z*a^y.toNat):=by
 apply zK1
 have he:a^y.toNat=(a*a)^(y/2).toNat*a^(y%2).toNat:=by
  have:y.toNat=2*(y/2).toNat+(y%2).toNat:=by omega
  conv=>lhs;rw [this]
  rw [Int.pow_add,Int.pow_mul]
  congr 2
  rw [Int.pow_succ,Int.pow_succ,Int.pow_zero];grind
 rw [he]
 split
 ·rename_i h1
  rw [h1];congr 1;simp;grind
 ·have h1:y%2=0:=by omega
  rw [h1];congr 1;simp
theorem zLU {w:World} {c:Nat} {m t o s:Int} (hC:Ctx w c m t o s) (a b:Int) (hb0:0≤b) (hb:b≤18446744073709551615):
  Calls Tryz.prog 216 #[.pointer (some ⟨c,0,none⟩), .int .u64 (lft m a), .int .u64 b] w fun e w'=>e= .returned (.int .u64 (lft m (a^b.toNat)))∧ ∃n,w'=w.drewN n:=by
 have c2:=hC.c2
 have m1:=hC.m1
 have eo:o=lft m 1:=by rw [hC.eo];unfold lft;simp
 subst eo
 obtain ⟨L,hL⟩: ∃L,L=lft m a:=⟨_,rfl⟩
 rw [←hL]
 obtain ⟨u,hu⟩: ∃u,u=lft m 1:=⟨_,rfl⟩
 rw [←hu] at c2
 have HL:=zy hL
 have HU:=zy hu
 clear hL hu
 go_enter Tryz.func216,Tryz.ntmps216
 go_wp2
 go_loopw [1,2,7] (fun X E O wr=> ∃x y z:Int,∃vx vz:Int,∃n,0≤y∧y≤18446744073709551615∧X= .int .u64 vx∧E= .int .u64 y∧O= .int .u64 vz∧Hid (vx=lft m x)∧Hid (vz=lft m z)∧Hid (lft m (z*x^y.toNat)=lft m (a^b.toNat))∧wr=w.drewN n) (fun _ E _ _=>(intOf E).toNat)
 case atStart=>exact ⟨a,b,1,L,u,0,hb0,hb,rfl,rfl,rfl,HL,HU,zy (by rw [Int.one_mul]),rfl⟩
 case round=>
  obtain ⟨x,y,z,vx,vz,n,hy0,hy,rfl,rfl,rfl,hx,hz,H,rfl⟩:=hrel
  have hD:=zy (hC.drewN (n:=n))
  by_cases hlt:0<y
  ·have st:=zy (zK5 m x z y hlt)
   have ea:=and_one y hy0 hy
   have mm:=Int.emod_nonneg y (show (2:Int)≠0 by omega)
   by_cases hodd:y%2=1
   ·have ho:(bits .and .u64 y 1 == 1)=true:=by rw [ea,hodd];rfl
    rw [if_pos hodd] at st
    clear ea hodd
    go_wp2_with fail
    rw [hx.out,hz.out]
    refine (zLB hD.out z x).mono ?_
    rintro e w' ⟨rfl,n1,rfl⟩
    rw [←hx.out]
    go_wp2_with fail
    rw [hx.out]
    refine (zLB (hC.drewN _) x x).mono ?_
    rintro e w' ⟨rfl,n2,rfl⟩
    go_wp2
    go_roundw
    case rel=>exact ⟨x*x,y/2,z*x,_,_,_,by omega,by omega,rfl,rfl,rfl,zy rfl,zy rfl,zy (by rw [st.out,H.out]),rfl⟩
    case measure=>simp [intOf];omega
   ·have ho:(bits .and .u64 y 1 == 1)=false:=by rw [ea];exact beq_eq_false_iff_ne.2 hodd
    rw [if_neg hodd] at st
    clear ea hodd
    go_wp2_with fail
    rw [hx.out]
    refine (zLB hD.out x x).mono ?_
    rintro e w' ⟨rfl,n2,rfl⟩
    go_wp2
    go_roundw
    case rel=>exact ⟨x*x,y/2,z,_,vz,_,by omega,by omega,rfl,rfl,rfl,zy rfl,hz,zy (by rw [st.out,H.out]),rfl⟩
    case measure=>simp [intOf];omega
  ·obtain rfl:y=0:=by omega
   go_wp2
   go_ret
   exact ⟨zRD (by rw [←H.out];simp [hz.out]),_,rfl⟩
def newK (i:Nat):Int:=match i with|0=>8|1=>64|2=>4096|3=>16777216|4=>281474976710656|_=>18446744073709551616
theorem zMl {m x y:Int} {i:Nat} (hi:i<5) (h:(1-m*x)%newK i=0) (hy:y=x*(2-m*x)%18446744073709551616):(1-m*y)%newK (i+1)=0:=by
 have hi':i=0∨i=1∨i=2∨i=3∨i=4:=by omega
 rcases hi' with rfl|rfl|rfl|rfl|rfl
 ·exact Mont.newton_mod (k:=8) (j:=64) (.inl rfl) ⟨288230376151711744,rfl⟩ h hy
 ·exact Mont.newton_mod (k:=64) (j:=4096) (.inl rfl) ⟨4503599627370496,rfl⟩ h hy
 ·exact Mont.newton_mod (k:=4096) (j:=16777216) (.inl rfl) ⟨1099511627776,rfl⟩ h hy
 ·exact Mont.newton_mod (k:=16777216) (j:=281474976710656) (.inl rfl) ⟨65536,rfl⟩ h hy
 ·exact Mont.newton_mod (k:=281474976710656) (j:=18446744073709551616) (.inr ⟨4294967296,rfl⟩) ⟨1,rfl⟩ h hy
theorem zMp (m x:Int):IntKind.u64.wrap (x*IntKind.u64.wrap (2-IntKind.u64.wrap (m*x)))=x*(2-m*x)%18446744073709551616:=by
 simp only [IntKind.wrap_u64]
 rw [Int.mul_emod,Int.emod_emod_of_dvd _ ⟨1,by simp⟩,Int.sub_emod,Int.emod_emod_of_dvd _ ⟨1,by simp⟩,←Int.sub_emod,←Int.mul_emod]
theorem zMs {m x:Int} (h:(1-m*x)%18446744073709551616=0):IntKind.u64.wrap (-x)*m%18446744073709551616=18446744073709551615:=by
 rw [IntKind.wrap_u64,Int.mul_emod,Int.emod_emod_of_dvd _ ⟨1,by simp⟩,←Int.mul_emod]
 have: -x*m=(1-m*x)-1:=by grind
 rw [this]
 omega
theorem zMo {m:Int} (h0:3≤m) (h1:m<9223372036854775808):IntKind.u64.wrap (-m)%m=18446744073709551616%m:=by
 rw [IntKind.wrap_u64,show (-m)%18446744073709551616=18446744073709551616-m by omega,←Int.sub_emod_right 18446744073709551616 m]
theorem zMq (m:Int):(18446744073709551616%m*(18446744073709551616%m)/18446744073709551616*18446744073709551616+18446744073709551616%m*(18446744073709551616%m)%18446744073709551616)%m=340282366920938463463374607431768211456%m:=by
 rw [show ∀z:Int,z/18446744073709551616*18446744073709551616+z%18446744073709551616=z from fun z=>by omega,←Int.mul_emod]
 rfl
theorem new_any (m:Int) (w:World) (h3:3≤m) (h1:m<9223372036854775808) (ho:m%2=1):
  Calls Tryz.prog 101 #[.int .u64 m] w fun e w'=> ∃c t o s,e= .returned (.tuple #[.pointer (some ⟨c,0,none⟩), .int .i64 0])∧Ctx w' c m t o s∧w.heap.size≤c∧Below w.heap.size w w':=by
 have ea:=and_one m (by omega) (by omega)
 have t1:(bits .and .u64 m 1 == 0)=false:=by rw [ea,ho];rfl
 have t2:decide (m<3)=false:=by simp;omega
 have HO:=zy ho
 clear ea ho
 go_enter Tryz.func101,Tryz.ntmps101
 go_wp2
 go_loop [4,20] (fun X I=> ∃i:Nat,∃x:Int,X= .int .u64 x∧I= .int .i64 i∧i≤5∧0≤x∧x≤18446744073709551615∧Hid ((1-m*x)%newK i=0)) (fun _ I=>5-(intOf I).toNat)
 case atStart=>exact ⟨0,m,rfl,rfl,by omega,by omega,by omega,zy (Mont.square_odd HO.out)⟩
 case round=>
  obtain ⟨i,x,rfl,rfl,hi,hx0,hx1,H⟩:=hrel
  by_cases hlt:i<5
  ·obtain ⟨y,hy⟩: ∃y,x*(2-m*x)%18446744073709551616=y:=⟨_,rfl⟩
   have hw:IntKind.u64.wrap (x*IntKind.u64.wrap (2-IntKind.u64.wrap (m*x)))=y:=by rw [zMp];exact hy
   have y0:0≤y:=by rw [←hy];exact Int.emod_nonneg _ (by omega)
   have y1:y<18446744073709551616:=by rw [←hy];exact Int.emod_lt_of_pos _ (by omega)
   have H2:=zy (zMl hlt H.out hy.symm)
   clear hy
   go_wp2
   go_round
   case rel=>exact ⟨i+1,y,rfl,by go_num,by omega,y0,by omega,H2⟩
   case measure=>simp [intOf];omega
  ·obtain rfl:i=5:=by omega
   have et:IntKind.u64.wrap (-x)*m%18446744073709551616=18446744073709551615:=zMs H.out
   have ET:=zy et
   obtain ⟨t,ht⟩: ∃t,IntKind.u64.wrap (-x)=t:=⟨_,rfl⟩
   have t0:0≤t:=by rw [←ht,IntKind.wrap_u64];omega
   have t3:t≤18446744073709551615:=by rw [←ht,IntKind.wrap_u64];omega
   rw [ht] at ET
   obtain ⟨o,heo⟩: ∃o,18446744073709551616%m=o:=⟨_,rfl⟩
   have hwo:(IntKind.u64.wrap (-m)).tmod m=o:=by
    rw [Int.tmod_eq_emod_of_nonneg (by rw [IntKind.wrap_u64];omega),zMo h3 h1];exact heo
   have o0:0≤o:=by rw [←heo];exact Int.emod_nonneg _ (by omega)
   have o1:o<m:=by rw [←heo];exact Int.emod_lt_of_pos _ (by omega)
   have oo0:0≤o*o:=Int.mul_nonneg o0 o0
   have oo1:o*o≤18446744073709551615*18446744073709551615:=Int.mul_le_mul (by omega) (by omega) o0 (by omega)
   have hsq:=zMq m
   rw [heo] at hsq
   obtain ⟨sq,hsqe⟩: ∃sq,340282366920938463463374607431768211456%m=sq:=⟨_,rfl⟩
   rw [hsqe] at hsq
   have HQ:=zy hsqe
   have HS:=zy hsq
   have HE:=zy heo
   clear et hsq heo hsqe
   go_wp2_with fail
   refine (zMc o o _ o0 (by omega) o0 (by omega)).mono ?_
   rintro e w1 ⟨rfl,rfl⟩
   go_wp2_with fail
   refine (zR0 _ _ _ _ (Int.ediv_nonneg oo0 (by omega)) (by omega) (by omega) (Int.emod_nonneg _ (by omega)) (by omega) (by omega)).mono ?_
   rintro e w1 ⟨rfl,n,rfl⟩
   rw [HS.out]
   go_wp2
   go_ret2
   refine ⟨w.heap.size,t,o,sq,rfl,⟨?_,?_,?_,?_,h3,h1,HO.out,t0,t3,ET.out,HE.out.symm,HQ.out.symm⟩,Nat.le_refl _,?_⟩
   ·exact (World.cell?_alloc_at (w:=w.drewN n) _ _ _ _ rfl).trans rfl
   ·exact (World.cell?_alloc_at (w:=w.drewN n) _ _ _ _ rfl).trans rfl
   ·exact (World.cell?_alloc_at (w:=w.drewN n) _ _ _ _ rfl).trans rfl
   ·exact (World.cell?_alloc_at (w:=w.drewN n) _ _ _ _ rfl).trans rfl
   ·exact (below_drewN (Below.refl _ _) _).alloc (Nat.le_refl _) _
end

section
open Go.RowKit
def RdPI (w:World) (B:Nat) (A:Option Addr) (fs:List (Int×Int)):Prop:=
 0<fs.length→ ∃b o,A=some ⟨b,o,none⟩∧b<B∧ ∀j,j<fs.length→w.cell? ⟨b,o+j*2,none⟩=some (.int .u64 (fs.getD j (0,0)).1)∧w.cell? ⟨b,o+j*2+1,none⟩=some (.int .i64 (fs.getD j (0,0)).2)
theorem RdPI.below {w w':World} {B:Nat} {A:Option Addr} {fs:List (Int×Int)} (h:RdPI w B A fs) (hb:Below B w w'):RdPI w' B A fs:=fun hl=>by
 obtain ⟨b,o,e,hlt,hc⟩:=h hl
 exact ⟨b,o,e,hlt,fun j hj=>⟨zDs hb hlt (hc j hj).1,zDs hb hlt (hc j hj).2⟩⟩
theorem RdPI.mono {w:World} {B B':Nat} {A:Option Addr} {fs:List (Int×Int)} (h:RdPI w B A fs) (hb:B≤B'):RdPI w B' A fs:=fun hl=>by
 obtain ⟨b,o,e,hlt,hc⟩:=h hl
 exact ⟨b,o,e,by omega,hc⟩
def upP (fs:List (Nat×Nat)):List (Int×Int):=fs.map fun x=>((x.1:Int),(x.2:Int))
theorem zAF.toI {w:World} {B:Nat} {A:Option Addr} {fs:List (Nat×Nat)} (h:zAF w B A fs):RdPI w B A (upP fs):=fun hl=>by
 obtain ⟨b,o,e,hlt,hc⟩:=h (by simpa [upP] using hl)
 refine ⟨b,o,e,hlt,fun j hj=>?_⟩
 have hj':j<fs.length:=by simpa [upP] using hj
 have hx:=hc j hj'
 have e1:(upP fs).getD j (0,0)=(((fs.getD j (0,0)).1:Int),((fs.getD j (0,0)).2:Int)):=by
  simp [upP,List.getD_eq_getElem?_getD,List.getElem?_eq_getElem hj']
 rw [e1]
 exact hx
structure Ent where
 p:Int
 g:Int
 fs:List (Int×Int)
def Ent.none:Ent:=⟨0,0,[]⟩
structure zAl (w:World) (B b o:Nat) (A:Option Addr) (c:Nat) (e:Ent):Prop where
 c0:w.cell? ⟨b,o,none⟩=some (.int .u64 e.p)
 c1:w.cell? ⟨b,o+1,none⟩=some (.int .u64 e.g)
 c2:w.cell? ⟨b,o+2,none⟩=some (.slice A e.fs.length c)
 rd:RdPI w B A e.fs
structure zAm (e:Ent):Prop where
 p0:0≤e.p
 p1:e.p≤18446744073709551615
 g0:0≤e.g
 g1:e.g≤18446744073709551615
 len:e.fs.length≤8796093022208
 q: ∀x ∈ e.fs,0≤x.1∧x.1≤18446744073709551615∧ -9223372036854775808≤x.2∧x.2≤9223372036854775807
def RdE (w:World) (B:Nat) (A:Option Addr) (es:List Ent):Prop:=
 0<es.length→ ∃b o,A=some ⟨b,o,none⟩∧b<B∧ ∀j,j<es.length→ ∃A' c',zAl w B b (o+j*3) A' c' (es.getD j Ent.none)
theorem RdE.below {w w':World} {B:Nat} {A:Option Addr} {es:List Ent} (h:RdE w B A es) (hb:Below B w w'):RdE w' B A es:=fun hl=>by
 obtain ⟨b,o,e,hlt,hc⟩:=h hl
 refine ⟨b,o,e,hlt,fun j hj=>?_⟩
 obtain ⟨A',c',k⟩:=hc j hj
 exact ⟨A',c',zDs hb hlt k.c0,zDs hb hlt k.c1,zDs hb hlt k.c2,k.rd.below hb⟩
theorem RdE.mono {w:World} {B B':Nat} {A:Option Addr} {es:List Ent} (h:RdE w B A es) (hb:B≤B'):RdE w B' A es:=fun hl=>by
 obtain ⟨b,o,e,hlt,hc⟩:=h hl
 refine ⟨b,o,e,by omega,fun j hj=>?_⟩
 obtain ⟨A',c',k⟩:=hc j hj
 exact ⟨A',c',k.c0,k.c1,k.c2,k.rd.mono hb⟩
theorem RdE.take {w:World} {B:Nat} {A:Option Addr} {es:List Ent} (h:RdE w B A es) (n:Nat):RdE w B A (es.take n):=fun hl=>by
 have hl':0<es.length:=by simp at hl;omega
 obtain ⟨b,o,e,hlt,hc⟩:=h hl'
 refine ⟨b,o,e,hlt,fun j hj=>?_⟩
 rw [List.length_take] at hj
 obtain ⟨A',c',k⟩:=hc j (by omega)
 have:(es.take n).getD j Ent.none=es.getD j Ent.none:=by simp [List.getD_eq_getElem?_getD,List.getElem?_take,show j<n by omega]
 rw [this]
 exact ⟨A',c',k⟩
theorem zE1 (p g q:Int) (sv:Value) (b1:Nat) (w:World) (hq:w.cell? ⟨b1,0,none⟩=some (.int .u64 q)):
  Calls Tryz.prog 234 #[.agg #[.int .u64 p, .int .u64 g,sv], .pointer (some ⟨b1,0,none⟩)] w fun e w'=>e= .returned (.bool (p == q))∧Below w.heap.size w w':=by
 have hb1:=World.block_lt_of_cell? w _ hq
 go_enter Tryz.func234,Tryz.ntmps234
 go_wp2
 go_ret
 exact ⟨rfl,(Below.refl _ _).alloc (Nat.le_refl _) _⟩
theorem zJf (A:Option Addr) (c b1:Nat) (q:Int) (es:List Ent) (w:World) (hl:es.length≤140737488351232) (hR:RdE w w.heap.size A es) (hq:w.cell? ⟨b1,0,none⟩=some (.int .u64 q)):
  Calls Tryz.prog 244 #[.slice A es.length c, .func (.func 234) #[] #[.pointer (some ⟨b1,0,none⟩)]] w fun e w'=> ∃i:Int,e= .returned (.int .i64 i)∧(0≤i↔es.any (fun x=>x.p == q)=true)∧ -1≤i∧Below w.heap.size w w':=by
 have hb1:=World.block_lt_of_cell? w _ hq
 go_enter Tryz.func244,Tryz.ntmps244
 go_wp2
 go_loopw [5,8] (fun _ i wr=> ∃k:Nat,i= .int .i64 k∧k≤es.length∧Hid ((es.take k).any (fun x=>x.p == q)=false)∧Below w.heap.size w wr) (fun _ i _=>es.length-(intOf i).toNat)
 case atStart=>exact ⟨0,rfl,by omega,zy (by simp),Below.refl _ _⟩
 case round=>
  obtain ⟨k,rfl,hk,hn,hB⟩:=hrel
  by_cases hlt:k<es.length
  ·obtain ⟨b,o,rfl,hbl,hc⟩:=(hR.below hB) (by omega)
   obtain ⟨A',c',hE⟩:=hc k hlt
   have g0:=hE.c0
   have g1:=hE.c1
   have g2:=hE.c2
   have cq:=zDs hB hb1 hq
   obtain ⟨x,hx⟩: ∃x,x=es.getD k Ent.none:=⟨_,rfl⟩
   rw [←hx] at g0 g1 g2
   have HX:=zy hx
   have hxm:x ∈ es:=by
    rw [hx,List.getD_eq_getElem?_getD,List.getElem?_eq_getElem hlt]
    exact List.getElem_mem hlt
   have htk:Hid ((es.take (k+1)).any (fun x=>x.p == q)=(x.p == q)):=zy (by
    rw [List.take_succ_eq_append_getElem hlt,List.any_append,hn.out,hx,List.getD_eq_getElem?_getD,List.getElem?_eq_getElem hlt];simp)
   clear hx hc hR hE
   by_cases hpx:x.p=q
   ·have t:(x.p == q)=true:=by simp [hpx]
    have HA:Hid (es.any (fun x=>x.p == q)=true):=zy (List.any_eq_true.2 ⟨x,hxm,t⟩)
    have T:=zy t
    clear hpx t
    go_wp2_with fail
    refine (zE1 x.p x.g q (.slice A' x.fs.length c') b1 _ cq).mono ?_
    rintro e w2 ⟨rfl,hB2⟩
    rw [T.out]
    have hB3:Below w.heap.size w w2:=hB.trans (hB2.mono hB.size)
    go_wp2
    go_ret
    exact ⟨k,rfl,by simp [HA.out],by omega,hB3⟩
   ·have t:(x.p == q)=false:=by simp [hpx]
    have HT:Hid ((es.take (k+1)).any (fun x=>x.p == q)=false):=zy (by rw [htk.out,t])
    have T:=zy t
    clear hpx t htk
    go_wp2_with fail
    refine (zE1 x.p x.g q (.slice A' x.fs.length c') b1 _ cq).mono ?_
    rintro e w2 ⟨rfl,hB2⟩
    rw [T.out]
    have hB3:Below w.heap.size w w2:=hB.trans (hB2.mono hB.size)
    go_wp2
    go_roundw
    case rel=>exact ⟨k+1,by go_num,by omega,HT,hB3⟩
    case measure=>simp [intOf];omega
  ·obtain rfl:k=es.length:=by omega
   have hz:=hn.out
   rw [List.take_length] at hz
   have HZ:=zy hz
   clear hz hn
   go_wp2
   go_ret
   exact ⟨-1,rfl,by simp [HZ.out],by omega,hB⟩
theorem zEC (A:Option Addr) (c b1:Nat) (q:Int) (es:List Ent) (w:World) (hl:es.length≤140737488351232) (hR:RdE w w.heap.size A es) (hq:w.cell? ⟨b1,0,none⟩=some (.int .u64 q)):
  Calls Tryz.prog 233 #[.slice A es.length c, .func (.func 234) #[] #[.pointer (some ⟨b1,0,none⟩)]] w fun e w'=>e= .returned (.bool (es.any (fun x=>x.p == q)))∧Below w.heap.size w w':=by
 have hI:=zy (zJf A c b1 q es w hl hR hq)
 clear hR
 go_enter Tryz.func233,Tryz.ntmps233
 go_wp2_with fail
 refine hI.out.mono ?_
 rintro e w1 ⟨i,rfl,hi,hi1,hB⟩
 have H:=zy hi
 clear hi
 go_wp2
 go_ret
 exact ⟨zRC (by rw [Bool.eq_iff_iff,←H.out];simp),hB⟩
theorem zE2 (A:Option Addr) (c:Nat) (q:Int) (es:List Ent) (w:World) (hl:es.length≤140737488351232) (hR:RdE w w.heap.size A es):
  Calls Tryz.prog 215 #[.slice A es.length c, .int .u64 q] w fun e w'=>e= .returned (.bool (es.any (fun x=>x.p == q)))∧Below w.heap.size w w':=by
 have hB:=(Below.refl w.heap.size w).alloc (Nat.le_refl _) (.cells #[.int .u64 q] 22)
 have hI:=zy (zEC A c w.heap.size q es (w.alloc (.cells #[.int .u64 q] 22)) hl ((hR.below hB).mono (by simp)) (World.cell?_alloc_at _ _ _ _ rfl))
 clear hR
 go_enter Tryz.func215,Tryz.ntmps215
 go_wp2_with fail
 refine hI.out.mono ?_
 rintro e w1 ⟨rfl,hB1⟩
 go_wp2
 go_ret
 exact ⟨rfl,hB.trans (hB1.mono (by simp))⟩
end

section
open Go.RowKit
def zPg:List (Int×Int)→Int
 | []=>1
 | x :: t=>x.1^x.2.toNat*zPg t
theorem zPh (a b:List (Int×Int)):zPg (a ++ b)=zPg a*zPg b:=by
 induction a with
 | nil=>simp [zPg]
 | cons x t ih=>simp [zPg,ih,Int.mul_assoc]
theorem zPj {a:List (Int×Int)} (h: ∀x ∈ a,1≤x.1):1≤zPg a:=by
 induction a with
 | nil=>simp [zPg]
 | cons x t ih=>
  have h1:0<x.1^x.2.toNat:=Int.pow_pos (by have:=h x (by simp);omega)
  have h2:=ih fun y hy=>h y (by simp [hy])
  have:1*1≤x.1^x.2.toNat*zPg t:=Int.mul_le_mul (by omega) h2 (by omega) (by omega)
  simpa [zPg] using this
structure zAS (ahead:List Ent) (e:Ent):Prop where
 len1:1≤e.fs.length
 len2:e.fs.length≤16
 two:(e.fs.getD 0 (0,0)).1=2
 each: ∀k,k<e.fs.length→1≤(e.fs.getD k (0,0)).2∧(e.fs.getD k (0,0)).2≤62
 rise: ∀k,k+1<e.fs.length→(e.fs.getD k (0,0)).1<(e.fs.getD (k+1) (0,0)).1∧ahead.any (fun x=>x.p == (e.fs.getD (k+1) (0,0)).1)=true
 prod:zPg e.fs=e.p-1
theorem zAS.two_le {ahead:List Ent} {e:Ent} (h:zAS ahead e) (k:Nat) (hk:k<e.fs.length):2≤(e.fs.getD k (0,0)).1:=by
 induction k with
 | zero=>rw [h.two];omega
 | succ k ih=>have:=ih (by omega);have:=(h.rise k hk).1;omega
theorem zAS.pos {ahead:List Ent} {e:Ent} (h:zAS ahead e): ∀x ∈ e.fs,1≤x.1:=by
 intro x hx
 obtain ⟨k,hk,rfl⟩:=List.getElem_of_mem hx
 have:=h.two_le k hk
 simp only [List.getD_eq_getElem?_getD,List.getElem?_eq_getElem hk,Option.getD_some] at this
 omega
theorem zAS.part {ahead:List Ent} {e:Ent} (h:zAS ahead e) (k i:Nat) (hk:k<e.fs.length) (hi:(i:Int)≤(e.fs.getD k (0,0)).2):
  zPg (e.fs.take k)*(e.fs.getD k (0,0)).1^i≤e.p-1:=by
 rw [←h.prod]
 have hs:e.fs=e.fs.take k ++ (e.fs.getD k (0,0) :: e.fs.drop (k+1)):=by
  have:e.fs.getD k (0,0)=e.fs[k]:=by simp [List.getD_eq_getElem?_getD,List.getElem?_eq_getElem hk]
  rw [this,←List.drop_eq_getElem_cons hk,List.take_append_drop]
 have h1:1≤zPg (e.fs.take k):=zPj fun x hx=>h.pos x (List.mem_of_mem_take hx)
 have h2:1≤zPg (e.fs.drop (k+1)):=zPj fun x hx=>h.pos x (List.mem_of_mem_drop hx)
 have hq:=h.two_le k hk
 generalize e.fs.getD k (0,0)=x at *
 conv=>rhs;rw [hs]
 rw [zPh,zPg]
 have h3:x.1^x.2.toNat=x.1^i*x.1^(x.2.toNat-i):=by rw [←Int.pow_add];congr 1;omega
 have h4:0<x.1^(x.2.toNat-i):=Int.pow_pos (by omega)
 have h5:0<x.1^i:=Int.pow_pos (by omega)
 rw [h3]
 have h6:1*1≤x.1^(x.2.toNat-i)*zPg (e.fs.drop (k+1)):=Int.mul_le_mul (by omega) h2 (by omega) (by omega)
 have h7:(zPg (e.fs.take k)*x.1^i)*1≤(zPg (e.fs.take k)*x.1^i)*(x.1^(x.2.toNat-i)*zPg (e.fs.drop (k+1))):=
  Int.mul_le_mul_of_nonneg_left (by omega) (Int.mul_nonneg (by omega) (by omega))
 have h8:(zPg (e.fs.take k)*x.1^i)*(x.1^(x.2.toNat-i)*zPg (e.fs.drop (k+1)))=zPg (e.fs.take k)*(x.1^i*x.1^(x.2.toNat-i)*zPg (e.fs.drop (k+1))):=by grind
 omega
theorem zPk {fs:List (Int×Int)} {k:Nat} (hk:k<fs.length):zPg (fs.take (k+1))=zPg (fs.take k)*(fs.getD k (0,0)).1^(fs.getD k (0,0)).2.toNat:=by
 rw [List.take_succ_eq_append_getElem hk,zPh]
 simp [zPg,List.getD_eq_getElem?_getD,List.getElem?_eq_getElem hk]
theorem zW4 (A AF:Option Addr) (c cF:Nat) (ahead:List Ent) (e:Ent) (w:World) (hl:ahead.length≤40) (hR:RdE w w.heap.size A ahead) (hE:zAm e) (hp3:3≤e.p) (hF:RdPI w w.heap.size AF e.fs):
  Calls Tryz.prog 196 #[.slice A ahead.length c, .agg #[.int .u64 e.p, .int .u64 e.g, .slice AF e.fs.length cF]] w fun r w'=> ∃b,r= .returned (.bool b)∧(b=true↔zAS ahead e)∧Below w.heap.size w w':=by
 have hp0:=hE.p0
 have hp1:=hE.p1
 have hfl:=hE.len
 by_cases hl0:e.fs.length=0
 ·have t:((e.fs.length:Int) == 0)=true:=by simp [hl0]
  have hno:Hid (¬zAS ahead e):=zy (fun h=>by have:=h.len1;omega)
  clear hl0
  go_enter Tryz.func196,Tryz.ntmps196
  go_wp2
  go_ret
  exact ⟨false,rfl,by simp [hno.out],(Below.refl _ _).alloc (Nat.le_refl _) _⟩
 ·have t1:((e.fs.length:Int) == 0)=false:=beq_eq_false_iff_ne.2 (by omega)
  obtain ⟨bF,oF,rfl,hbF,hc⟩:=hF (by omega)
  by_cases hl2:16<e.fs.length
  ·have hno:Hid (¬zAS ahead e):=zy (fun h=>by have:=h.len2;omega)
   have t2:decide ((16:Int)<e.fs.length)=true:=by simp;omega
   clear hc hF
   go_enter Tryz.func196,Tryz.ntmps196
   go_wp2
   go_ret
   exact ⟨false,rfl,by simp [hno.out],(Below.refl _ _).alloc (Nat.le_refl _) _⟩
  ·have t2:decide ((16:Int)<e.fs.length)=false:=by simp;omega
   have hc0:=(hc 0 (by omega)).1
   rw [Nat.zero_mul,Nat.add_zero] at hc0
   obtain ⟨x0,hx0⟩: ∃x,x=(e.fs.getD 0 (0,0)).1:=⟨_,rfl⟩
   rw [←hx0] at hc0
   have HX0:=zy hx0
   clear hx0
   by_cases h2:x0=2
   ·have t3:(x0 != 2)=false:=by simp [h2]
    have H2:=zy h2
    clear h2 hF
    go_enter Tryz.func196,Tryz.ntmps196
    go_wp2
    have hB0:=(Below.refl w.heap.size w).alloc (Nat.le_refl _) (.cells #[.int .u64 e.p, .int .u64 e.g, .slice (some ⟨bF,oF,none⟩) e.fs.length cF] 115)
    have k0:(w.alloc (.cells #[.int .u64 e.p, .int .u64 e.g, .slice (some ⟨bF,oF,none⟩) e.fs.length cF] 115)).cell? ⟨w.heap.size,0,none⟩=some (.int .u64 e.p):=World.cell?_alloc_at _ _ _ _ rfl
    have k2:(w.alloc (.cells #[.int .u64 e.p, .int .u64 e.g, .slice (some ⟨bF,oF,none⟩) e.fs.length cF] 115)).cell? ⟨w.heap.size,2,none⟩=some (.slice (some ⟨bF,oF,none⟩) e.fs.length cF):=World.cell?_alloc_at _ _ _ _ rfl
    have hs0:w.heap.size+1≤(w.alloc (.cells #[.int .u64 e.p, .int .u64 e.g, .slice (some ⟨bF,oF,none⟩) e.fs.length cF] 115)).heap.size:=by simp
    generalize w.alloc (.cells #[.int .u64 e.p, .int .u64 e.g, .slice (some ⟨bF,oF,none⟩) e.fs.length cF] 115)=w1 at *
    have hR1:=(hR.below hB0).mono (show w.heap.size≤w1.heap.size by omega)
    have hc1: ∀j,j<e.fs.length→w1.cell? ⟨bF,oF+j*2,none⟩=some (.int .u64 (e.fs.getD j (0,0)).1)∧w1.cell? ⟨bF,oF+j*2+1,none⟩=some (.int .i64 (e.fs.getD j (0,0)).2):=fun j hj=>⟨zDs hB0 hbF (hc j hj).1,zDs hB0 hbF (hc j hj).2⟩
    have hbF1:bF<w1.heap.size:=by omega
    clear hR hc
    go_loopw [5,31] (fun N K wr=> ∃k:Nat,∃n:Int,N= .int .u64 n∧K= .int .i64 k∧k≤e.fs.length∧0≤n∧n≤18446744073709551615∧Hid (n=zPg (e.fs.take k))∧
      Hid (∀j,j<k→(1≤(e.fs.getD j (0,0)).2∧(e.fs.getD j (0,0)).2≤62)∧(0<j→(e.fs.getD (j-1) (0,0)).1<(e.fs.getD j (0,0)).1∧ahead.any (fun x=>x.p == (e.fs.getD j (0,0)).1)=true))∧Below w1.heap.size w1 wr)
     (fun _ K _=>e.fs.length-(intOf K).toNat)
    case atStart=>exact ⟨0,1,rfl,rfl,by omega,by omega,by omega,zy (by simp [zPg]),zy (fun j hj=>by omega),Below.refl _ _⟩
    case round=>
     obtain ⟨k,n,rfl,rfl,hk,hn0,hn1,hn,hok,hB⟩:=hrel
     have k0':=zDs hB (by omega) k0
     have k2':=zDs hB (by omega) k2
     by_cases hlt:k<e.fs.length
     ·obtain ⟨x,hx⟩: ∃x,x=e.fs.getD k (0,0):=⟨_,rfl⟩
      have hxm:x ∈ e.fs:=by rw [hx,List.getD_eq_getElem?_getD,List.getElem?_eq_getElem hlt];exact List.getElem_mem hlt
      obtain ⟨q0,q1,e0,e1⟩:=hE.q x hxm
      have d0:=zDs hB hbF1 (hc1 k hlt).1
      have d1:=zDs hB hbF1 (hc1 k hlt).2
      rw [←hx] at d0 d1
      have HX:=zy hx
      clear hx
      by_cases hE1:1≤x.2∧x.2≤62
      ·obtain ⟨hE1,hE2⟩:=hE1
       go_upto_region 9 with fail
       have hB1:=hB.alloc hB.size (.cells #[.int .u64 x.1, .int .i64 x.2] 153)
       have l0:(wr.alloc (.cells #[.int .u64 x.1, .int .i64 x.2] 153)).cell? ⟨wr.heap.size,0,none⟩=some (.int .u64 x.1):=World.cell?_alloc_at _ _ _ _ rfl
       have l1:(wr.alloc (.cells #[.int .u64 x.1, .int .i64 x.2] 153)).cell? ⟨wr.heap.size,1,none⟩=some (.int .i64 x.2):=World.cell?_alloc_at _ _ _ _ rfl
       have hsz:wr.heap.size+1≤(wr.alloc (.cells #[.int .u64 x.1, .int .i64 x.2] 153)).heap.size:=by simp
       generalize wr.alloc (.cells #[.int .u64 x.1, .int .i64 x.2] 153)=w2 at *
       have hsw:=hB.size
       have k0x:=zDs hB1 (by omega) k0
       have k2x:=zDs hB1 (by omega) k2
       clear k0' k2' d0 d1
       obtain ⟨bad,hbad⟩: ∃bad:Bool,bad=(decide (0<k) && (decide (x.1≤(e.fs.getD (k-1) (0,0)).1) || !(ahead.any (fun z=>z.p == x.1)))):=⟨_,rfl⟩
       go_cut [64] (fun v wx=>v= .bool bad∧Below w2.heap.size w2 wx)
       case first=>
        by_cases hk0:k=0
        ·have t5:decide ((0:Int)<k)=false:=by simp;omega
         have t5':decide (0<k)=false:=by simp;omega
         have HB:Hid (bad=false):=zy (by rw [hbad,hk0];rfl)
         clear hbad hk0
         go_quiet (fail)
         go_wp2_with fail
         go_meet
         exact ⟨by rw [HB.out],below_drewN (Below.refl _ _) _⟩
        ·have t5:decide ((0:Int)<k)=true:=by simp;omega
         have t5':decide (0<k)=true:=by simp;omega
         have dy:=zDs hB1 hbF1 (hc1 (k-1) (by omega)).1
         have ek:((k:Int)-1)=((k-1:Nat):Int):=by omega
         obtain ⟨y,hy⟩: ∃y,y=(e.fs.getD (k-1) (0,0)).1:=⟨_,rfl⟩
         rw [←hy] at dy hbad
         have hkl:k-1<e.fs.length:=by omega
         have hR2:=zy ((hR1.below hB1).mono hB1.size)
         clear hy hc1 hR1
         by_cases hxy:x.1≤y
         ·have t6:decide (x.1≤y)=true:=by simpa using hxy
          have HB:Hid (bad=true):=zy (by rw [hbad,t6];simp;omega)
          clear hbad hxy
          go_quiet (fail)
          go_wp2_with fail
          go_meet
          exact ⟨by rw [HB.out],below_drewN (Below.refl _ _) _⟩
         ·have t6:decide (x.1≤y)=false:=by simpa using hxy
          have HB:Hid (bad= !(ahead.any (fun z=>z.p == x.1))):=zy (by rw [hbad,t6];simp;omega)
          clear hbad hxy
          obtain ⟨an,han⟩: ∃an,an=ahead.any (fun z=>z.p == x.1):=⟨_,rfl⟩
          have hCl:Hid (∀W,Below w2.heap.size w2 W→Calls Tryz.prog 215 #[.slice A ahead.length c, .int .u64 x.1] W fun e w'=>e= .returned (.bool an)∧Below W.heap.size W w'):=zy (fun W hW=>by
           rw [han]
           exact zE2 A c x.1 ahead W (by omega) ((hR2.out.below hW).mono hW.size))
          rw [←han] at HB
          clear han ek
          have s1:IntKind.i64.wrap ((k:Int)-1)=(k:Int)-1:=IntWalk.i64_in _ (by omega)
          have s2:0≤(k:Int)-1:=by omega
          have s3:((k:Int)-1).toNat=k-1:=by omega
          have s4:(k:Int)-1<e.fs.length:=by omega
          have s5:1≤(k:Int):=by omega
          have s6:1≤k:=by omega
          go_region_with (go_at_call 215;refine (hCl.out _ (below_drewN (Below.refl _ _) _)).mono ?_;rintro e w' ⟨rfl,hBc⟩)
          all_goals go_wp2_with fail
          all_goals go_meet
          all_goals refine ⟨by rw [HB.out],?_⟩
          all_goals first
           | exact (below_drewN (Below.refl _ _) _).trans (hBc.mono (Nat.le_refl _))
           | exact below_drewN ((below_drewN (Below.refl _ _) _).trans (hBc.mono (Nat.le_refl _))) _
       case rest=>
        obtain ⟨rfl,hBc⟩:=hcut
        have m0:=zDs hBc (show wr.heap.size<w2.heap.size by omega) l0
        have m1:=zDs hBc (show wr.heap.size<w2.heap.size by omega) l1
        have hB2:Below w1.heap.size w1 wc:=hB1.trans (hBc.mono hB1.size)
        have hsc:=hBc.size
        have HBAD:=zy hbad
        clear k0x k2x l0 l1 hBc hB1 hbad hc1 hR1 hB
        cases bad with
        | true=>
         have hno:Hid (¬zAS ahead e):=zy (fun h=>by
          have hb:=HBAD.out
          rcases Nat.eq_zero_or_pos k with h0|h0
          ·subst h0;simp at hb
          ·have h1:=h.rise (k-1) (by omega)
           rw [show k-1+1=k by omega,←HX.out] at h1
           have hd:decide (x.1≤(e.fs.getD (k-1) (0,0)).1)=false:=decide_eq_false_iff_not.2 (by omega)
           rw [h1.2,hd] at hb
           simp at hb)
         go_wp2
         go_ret
         exact ⟨false,rfl,by simp [hno.out],hB0.trans (hB2.mono (by omega))⟩
        | false=>
         have hok2:Hid (∀j,j<k+1→(1≤(e.fs.getD j (0,0)).2∧(e.fs.getD j (0,0)).2≤62)∧(0<j→(e.fs.getD (j-1) (0,0)).1<(e.fs.getD j (0,0)).1∧ahead.any (fun x=>x.p == (e.fs.getD j (0,0)).1)=true)):=zy (fun j hj=>by
          by_cases hjk:j=k
          ·subst hjk
           rw [←HX.out]
           refine ⟨⟨hE1,hE2⟩,fun h0=>?_⟩
           have hb:=HBAD.out
           have hd:decide (0<j)=true:=by simpa using h0
           rw [hd] at hb
           simp only [Bool.true_and] at hb
           have hb':=(Bool.or_eq_false_iff.1 hb.symm)
           refine ⟨?_,?_⟩
           ·exact Int.not_le.1 (decide_eq_false_iff_not.1 hb'.1)
           ·have:=hb'.2
            cases h:ahead.any (fun z=>z.p == x.1) with
            | true=>rfl
            | false=>rw [h] at this;simp at this
          ·exact hok.out j (by omega))
         obtain ⟨wq,rfl⟩: ∃wq:World,wq=wc:=⟨_,rfl⟩
         clear HBAD
         go_wp2
         go_loopw [5,67] (fun N I wi=> ∃i:Nat,∃n':Int,N= .int .u64 n'∧I= .int .i64 i∧(i:Int)≤x.2∧0≤n'∧n'≤18446744073709551615∧Hid (n'=zPg (e.fs.take k)*x.1^i)∧wi=wq) (fun _ I _=>63-(intOf I).toNat)
         case atStart=>exact ⟨0,n,rfl,rfl,by omega,hn0,hn1,zy (by rw [hn.out];simp),rfl⟩
         case round=>
          obtain ⟨i,n',rfl,rfl,hi,hn'0,hn'1,hn',rfl⟩:=hrel
          by_cases hil:(i:Int)<x.2
          ·have hm0:0≤n'*x.1:=Int.mul_nonneg hn'0 q0
           have hm1:n'*x.1≤18446744073709551615*18446744073709551615:=Int.mul_le_mul hn'1 q1 q0 (by omega)
           have hnx:Hid (n'*x.1=zPg (e.fs.take k)*x.1^(i+1)):=zy (by rw [hn'.out,Int.pow_succ,Int.mul_assoc])
           have hMu:=zy (zMc n' x.1 wr hn'0 hn'1 q0 q1)
           by_cases hbig:18446744073709551616≤n'*x.1
           ·have hh:0<n'*x.1/18446744073709551616:=by omega
            have hno:Hid (¬zAS ahead e):=zy (fun h=>by
             have:=h.part k (i+1) hlt (by rw [←HX.out];omega)
             rw [←HX.out,←hnx.out] at this
             omega)
            obtain ⟨hi64,hhi⟩: ∃v,v=n'*x.1/18446744073709551616:=⟨_,rfl⟩
            rw [←hhi] at hMu hh
            clear hhi
            go_wp2_with fail
            refine hMu.out.mono ?_
            rintro r w' ⟨rfl,rfl⟩
            go_wp2
            go_ret
            exact ⟨false,rfl,by simp [hno.out],hB0.trans (hB2.mono (by omega))⟩
           ·have hh:n'*x.1/18446744073709551616=0:=by omega
            have hlo:n'*x.1%18446744073709551616=n'*x.1:=by omega
            obtain ⟨v,hv⟩: ∃v,v=n'*x.1:=⟨_,rfl⟩
            rw [hh,hlo,←hv] at hMu
            rw [←hv] at hnx hm0 hbig
            clear hh hlo hm1 hv
            go_wp2_with fail
            refine hMu.out.mono ?_
            rintro r w' ⟨rfl,rfl⟩
            go_wp2
            go_roundw
            case rel=>exact ⟨i+1,v,by first|rfl|go_num,by go_num,by omega,hm0,by omega,hnx,by first|rfl|trivial⟩
            case measure=>simp [intOf];omega
          ·have hiE:(i:Int)=x.2:=by omega
           have hfin:Hid (n'=zPg (e.fs.take (k+1))):=zy (by
            rw [hn'.out,zPk hlt,←HX.out]
            congr 2
            omega)
           clear hiE
           go_wp2
           go_roundw
           case rel=>exact ⟨k+1,n',by first|rfl|go_num,by go_num,by omega,hn'0,hn'1,hfin,hok2,hB2⟩
           case measure=>simp [intOf];omega
      ·have hno:Hid (¬zAS ahead e):=zy (fun h=>hE1 (by rw [HX.out];exact h.each k hlt))
       have t4:decide (x.2<1)=true∨(decide (x.2<1)=false∧decide (62<x.2)=true):=by
        by_cases h:x.2<1
        ·exact .inl (by simpa using h)
        ·exact .inr ⟨by simpa using h,by simp;omega⟩
       clear hE1 hc1 hR1 k0 k2
       rcases t4 with t4|⟨t4,t5⟩
       all_goals
        go_wp2
        go_ret
        exact ⟨false,rfl,by simp [hno.out],hB0.trans ((hB.alloc hB.size _).mono (by omega))⟩
     ·obtain rfl:k=e.fs.length:=by omega
      have hn2:=hn.out
      rw [List.take_length] at hn2
      have hiff:Hid ((n == e.p-1)=true↔zAS ahead e):=zy (by
       rw [beq_iff_eq]
       constructor
       ·intro h
        refine ⟨by omega,by omega,by rw [←HX0.out];exact H2.out,fun j hj=>(hok.out j hj).1,fun j hj=>?_,by rw [←hn2];exact h⟩
        have:=(hok.out (j+1) hj).2 (by omega)
        simpa using this
       ·intro h
        rw [hn2];exact h.prod)
      clear hn2 hc1 hR1
      go_wp2
      go_ret
      exact ⟨_,rfl,hiff.out,hB0.trans (hB.mono (by omega))⟩
   ·have t3:(x0 != 2)=true:=by simp [h2]
    have hno:Hid (¬zAS ahead e):=zy (fun h=>h2 (by rw [HX0.out];exact h.two))
    clear h2 hc hF
    go_enter Tryz.func196,Tryz.ntmps196
    go_wp2
    go_ret
    exact ⟨false,rfl,by simp [hno.out],(Below.refl _ _).alloc (Nat.le_refl _) _⟩
end

section
open Go.RowKit
theorem zK4 {m a:Int} (hm:1<m) (ho:m%2=1):lft m a=lft m 1↔a%m=1:=by
 constructor
 ·intro h
  have h1:=zK3 (a:=a) (y:=1) hm ho
  rw [h,zK3 hm ho,Int.mul_one,Int.mul_one] at h1
  rw [←h1,Int.emod_eq_of_lt (by omega) hm]
 ·intro h
  exact zK1 (by rw [h,Int.emod_eq_of_lt (by omega) hm])
structure zAr (e:Ent):Prop where
 one:e.g^(e.p-1).toNat%e.p=1
 no: ∀x ∈ e.fs,e.g^((e.p-1)/x.1).toNat%e.p≠1
theorem zHP (AF:Option Addr) (cF:Nat) (e:Ent) (w:World) (hE:zAm e) (hp3:3≤e.p) (hpm:e.p<9223372036854775808) (hpo:e.p%2=1) (hq2: ∀x ∈ e.fs,2≤x.1) (hF:RdPI w w.heap.size AF e.fs):
  Calls Tryz.prog 197 #[.agg #[.int .u64 e.p, .int .u64 e.g, .slice AF e.fs.length cF]] w fun r w'=> ∃b,r= .returned (.bool b)∧(b=true↔zAr e)∧Below w.heap.size w w':=by
 have hg0:=hE.g0
 have hg1:=hE.g1
 have hfl:=hE.len
 have hB0:=(Below.refl w.heap.size w).alloc (Nat.le_refl _) (.cells #[.int .u64 e.p, .int .u64 e.g, .slice AF e.fs.length cF] 115)
 have HO:=zy hpo
 clear hpo
 go_enter Tryz.func197,Tryz.ntmps197
 go_wp2_with fail
 refine (new_any e.p _ hp3 hpm HO.out).mono ?_
 rintro r w1 ⟨cx,t,o,s,rfl,hC,hcx,hB1⟩
 have k0:(w.alloc (.cells #[.int .u64 e.p, .int .u64 e.g, .slice AF e.fs.length cF] 115)).cell? ⟨w.heap.size,0,none⟩=some (.int .u64 e.p):=World.cell?_alloc_at _ _ _ _ rfl
 have k1:(w.alloc (.cells #[.int .u64 e.p, .int .u64 e.g, .slice AF e.fs.length cF] 115)).cell? ⟨w.heap.size,1,none⟩=some (.int .u64 e.g):=World.cell?_alloc_at _ _ _ _ rfl
 have k2:(w.alloc (.cells #[.int .u64 e.p, .int .u64 e.g, .slice AF e.fs.length cF] 115)).cell? ⟨w.heap.size,2,none⟩=some (.slice AF e.fs.length cF):=World.cell?_alloc_at _ _ _ _ rfl
 have hs0:w.heap.size+1≤(w.alloc (.cells #[.int .u64 e.p, .int .u64 e.g, .slice AF e.fs.length cF] 115)).heap.size:=by simp
 have hs1:=hB1.size
 have k0:=zDs hB1 (by omega) k0
 have k1:=zDs hB1 (by omega) k1
 have k2:=zDs hB1 (by omega) k2
 have hB:Below w.heap.size w w1:=hB0.trans (hB1.mono (by omega))
 have hF1:=hF.below hB
 have hcl:=hC.lt
 have hsz:w.heap.size+1≤w1.heap.size:=by omega
 clear hB0 hB1 hF hs0 hs1 hcx
 go_wp2_with fail
 refine (zJd hC e.g hg0 hg1).mono ?_
 rintro r w2 ⟨rfl,n1,rfl⟩
 obtain ⟨L,hL⟩: ∃L,L=lft e.p e.g:=⟨_,rfl⟩
 rw [←hL]
 have HL:=zy hL
 clear hL
 go_wp2_with fail
 rw [HL.out]
 refine (zLU (hC.drewN n1) e.g (e.p-1) (by omega) (by omega)).mono ?_
 rintro r w2 ⟨rfl,n2,rfl⟩
 rw [←HL.out]
 obtain ⟨y,hy⟩: ∃y,y=lft e.p (e.g^(e.p-1).toNat):=⟨_,rfl⟩
 rw [←hy]
 have HY:=zy hy
 clear hy
 go_wp2_with fail
 refine (one_any (hC.drewN _)).mono ?_
 rintro r w2 ⟨rfl,n3,rfl⟩
 obtain ⟨u,hu⟩: ∃u,u=lft e.p 1:=⟨_,rfl⟩
 rw [←hu]
 have HU:=zy hu
 clear hu
 by_cases h1:e.g^(e.p-1).toNat%e.p=1
 ·have t1:(y != u)=false:=by rw [HY.out,HU.out,(zK4 (by omega) HO.out).2 h1];simp
  have H1:=zy h1
  clear h1
  go_wp2
  go_loopw [30] (fun I wr=> ∃k:Nat,I= .int .i64 k∧k≤e.fs.length∧Hid (∀x ∈ e.fs.take k,e.g^((e.p-1)/x.1).toNat%e.p≠1)∧Below w1.heap.size w1 wr) (fun I _=>e.fs.length-(intOf I).toNat)
  case atStart=>exact ⟨0,rfl,by omega,zy (by simp),by first|exact below_drewN (Below.refl _ _) _|exact below_drewN (below_drewN (Below.refl _ _) _) _⟩
  case round=>
   clear t1
   obtain ⟨k,rfl,hk,hno,hBr⟩:=hrel
   have hCr:=hC.below hBr hcl
   have j0:=zDs hBr (by omega) k0
   have hlt2:w.heap.size<wr.heap.size:=by have:=hBr.size;omega
   have j0x:(wr.alloc (.cells #[.int .u64 (e.fs.getD k (0,0)).1, .int .i64 (e.fs.getD k (0,0)).2] 153)).cell? ⟨w.heap.size,0,none⟩=some (.int .u64 e.p):=(World.cell?_alloc_past _ _ _ hlt2).trans j0
   have hF2:=(hF1.mono (show w.heap.size≤w1.heap.size by omega)).below hBr
   by_cases hlt:k<e.fs.length
   ·obtain ⟨b,o',rfl,hb,hc⟩:=hF2 (by omega)
    have d0:=(hc k hlt).1
    have d1:=(hc k hlt).2
    obtain ⟨x,hx⟩: ∃x,x=e.fs.getD k (0,0):=⟨_,rfl⟩
    rw [←hx] at d0 d1 j0x
    have hxm:x ∈ e.fs:=by rw [hx,List.getD_eq_getElem?_getD,List.getElem?_eq_getElem hlt];exact List.getElem_mem hlt
    have hx2:=hq2 x hxm
    have htk:Hid (e.fs.take (k+1)=e.fs.take k ++ [x]):=zy (by
     rw [List.take_succ_eq_append_getElem hlt,hx,List.getD_eq_getElem?_getD,List.getElem?_eq_getElem hlt];rfl)
    have hd0:0≤(e.p-1)/x.1:=Int.ediv_nonneg (by omega) (by omega)
    have hd1:(e.p-1)/x.1≤e.p-1:=Int.ediv_le_self _ (by omega)
    have hz:(x.1 == 0)=false:=beq_eq_false_iff_ne.2 (by omega)
    have hBx:=hBr.alloc hBr.size (.cells #[.int .u64 x.1, .int .i64 x.2] 153)
    have hCx:=hC.below hBx hcl
    clear hc hF2 hF1 hx
    go_wp2_with fail
    rw [HL.out]
    refine (zLU hCx e.g ((e.p-1)/x.1) hd0 (by omega)).mono ?_
    rintro r w3 ⟨rfl,n4,rfl⟩
    rw [←HL.out]
    obtain ⟨v,hv⟩: ∃v,v=lft e.p (e.g^((e.p-1)/x.1).toNat):=⟨_,rfl⟩
    rw [←hv]
    have HV:=zy hv
    clear hv
    go_wp2_with fail
    refine (one_any (hCx.drewN _)).mono ?_
    rintro r w3 ⟨rfl,n5,rfl⟩
    rw [←HU.out]
    by_cases h2:e.g^((e.p-1)/x.1).toNat%e.p=1
    ·have t2:(v == u)=true:=by rw [HV.out,HU.out,(zK4 (by omega) HO.out).2 h2];simp
     have hnf:Hid (¬zAr e):=zy (fun h=>h.no x hxm h2)
     clear h2
     go_wp2
     go_ret
     refine ⟨false,rfl,by simp [hnf.out],hB.trans (Below.mono ?_ (show w.heap.size≤w1.heap.size by omega))⟩
     first|exact below_drewN hBx _|exact below_drewN (below_drewN hBx _) _
    ·have t2:(v == u)=false:=by
      rw [beq_eq_false_iff_ne,HV.out,HU.out];exact fun h=>h2 ((zK4 (by omega) HO.out).1 h)
     have hn2:Hid (∀z ∈ e.fs.take (k+1),e.g^((e.p-1)/z.1).toNat%e.p≠1):=zy (by
      rw [htk.out]
      intro z hz
      rcases List.mem_append.1 hz with hz|hz
      ·exact hno.out z hz
      ·simp only [List.mem_singleton] at hz;subst hz;exact h2)
     clear h2
     go_wp2
     go_roundw
     case rel=>exact ⟨k+1,by go_num,by omega,hn2,by first|exact below_drewN hBx _|exact below_drewN (below_drewN hBx _) _⟩
     case measure=>simp [intOf];omega
   ·obtain rfl:k=e.fs.length:=by omega
    have hall:Hid (zAr e):=zy ⟨H1.out,by have:=hno.out;rw [List.take_length] at this;exact this⟩
    go_wp2
    go_ret
    exact ⟨true,rfl,by simp [hall.out],hB.trans (hBr.mono (by omega))⟩
 ·have t1:(y != u)=true:=by
   rw [bne_iff_ne,HY.out,HU.out];exact fun h=>h1 ((zK4 (by omega) HO.out).1 h)
  have hno:Hid (¬zAr e):=zy (fun h=>h1 h.one)
  clear h1
  go_wp2
  go_ret
  exact ⟨false,rfl,by simp [hno.out],below_drewN hB _⟩
end

section
open Go.RowKit
structure zAG (ahead:List Ent) (e:Ent):Prop where
 odd:e.p%2=1
 p3:3≤e.p
 pm:e.p<9223372036854775808
 g2:2≤e.g
 gp:e.g<e.p
 asc:0<ahead.length→(ahead.getD (ahead.length-1) Ent.none).p<e.p
 whole:zAS ahead e
 full:zAr e
def zAd (P:Prop) (w:World) (r:Ending) (w':World):Prop:= ∃b,r= .returned (.bool b)∧(b=true↔P)∧Below w.heap.size w w'
theorem zAd.no {P:Prop} {w w':World} (h: ¬P) (hB:Below w.heap.size w w'):zAd P w (.returned (.bool false)) w':=⟨false,rfl,by simp [h],hB⟩
theorem zAd.iff {P:Prop} {w w':World} {b:Bool} (h:b=true↔P) (hB:Below w.heap.size w w'):zAd P w (.returned (.bool b)) w':=⟨b,rfl,h,hB⟩
theorem zRW (A AF:Option Addr) (c cF:Nat) (ahead:List Ent) (e:Ent) (w:World) (hl:ahead.length≤40) (hR:RdE w w.heap.size A ahead) (hE:zAm e) (hF:RdPI w w.heap.size AF e.fs):
  Calls Tryz.prog 161 #[.slice A ahead.length c, .agg #[.int .u64 e.p, .int .u64 e.g, .slice AF e.fs.length cF]] w (zAd (zAG ahead e) w):=by
 have hp0:=hE.p0
 have hp1:=hE.p1
 have hg0:=hE.g0
 have hg1:=hE.g1
 have ea:=and_one e.p hp0 hp1
 have hBx:=(Below.refl w.heap.size w).alloc (Nat.le_refl _) (.cells #[.int .u64 e.p, .int .u64 e.g, .slice AF e.fs.length cF] 115)
 by_cases ho:e.p%2=1
 ·have t1:(bits .and .u64 e.p 1 == 0)=false:=by rw [ea,ho];rfl
  have HO:=zy ho
  clear ea ho
  by_cases h5:3≤e.p∧e.p<9223372036854775808∧2≤e.g∧e.g<e.p
  ·obtain ⟨p3,pm,g2,gp⟩:=h5
   go_enter Tryz.func161,Tryz.ntmps161
   go_upto_region 4 with fail
   have hs0:w.heap.size+1≤(w.alloc (.cells #[.int .u64 e.p, .int .u64 e.g, .slice AF e.fs.length cF] 115)).heap.size:=by simp
   have k0:(w.alloc (.cells #[.int .u64 e.p, .int .u64 e.g, .slice AF e.fs.length cF] 115)).cell? ⟨w.heap.size,0,none⟩=some (.int .u64 e.p):=World.cell?_alloc_at _ _ _ _ rfl
   have k1:(w.alloc (.cells #[.int .u64 e.p, .int .u64 e.g, .slice AF e.fs.length cF] 115)).cell? ⟨w.heap.size,1,none⟩=some (.int .u64 e.g):=World.cell?_alloc_at _ _ _ _ rfl
   have k2:(w.alloc (.cells #[.int .u64 e.p, .int .u64 e.g, .slice AF e.fs.length cF] 115)).cell? ⟨w.heap.size,2,none⟩=some (.slice AF e.fs.length cF):=World.cell?_alloc_at _ _ _ _ rfl
   generalize w.alloc (.cells #[.int .u64 e.p, .int .u64 e.g, .slice AF e.fs.length cF] 115)=w1 at *
   have hR1:=(hR.below hBx).mono (show w.heap.size≤w1.heap.size by omega)
   have hF1:=zy ((hF.below hBx).mono (show w.heap.size≤w1.heap.size by omega))
   clear hR hF
   obtain ⟨bad,hbad⟩: ∃bad:Bool,bad=(decide (0<ahead.length) && decide (e.p≤(ahead.getD (ahead.length-1) Ent.none).p)):=⟨_,rfl⟩
   go_cut [46] (fun v wx=>v= .bool bad∧Below w1.heap.size w1 wx)
   case first=>
    by_cases hn:ahead.length=0
    ·have t5:decide ((0:Int)<ahead.length)=false:=decide_eq_false_iff_not.2 (by omega)
     have t5':decide (0<ahead.length)=false:=decide_eq_false_iff_not.2 (by omega)
     have HB:Hid (bad=false):=zy (by rw [hbad,t5'];rfl)
     clear hbad hn
     go_quiet (fail)
     go_wp2_with fail
     go_meet
     exact ⟨by rw [HB.out],below_drewN (Below.refl _ _) _⟩
    ·have t5:decide ((0:Int)<ahead.length)=true:=decide_eq_true_iff.2 (by omega)
     have t5':decide (0<ahead.length)=true:=decide_eq_true_iff.2 (by omega)
     obtain ⟨b,o,rfl,hb,hc⟩:=hR1 (by omega)
     obtain ⟨A',c',hEl⟩:=hc (ahead.length-1) (by omega)
     have d0:=hEl.c0
     obtain ⟨y,hy⟩: ∃y,y=(ahead.getD (ahead.length-1) Ent.none).p:=⟨_,rfl⟩
     rw [←hy] at d0 hbad
     have HB:Hid (bad=decide (e.p≤y)):=zy (by rw [hbad,t5'];rfl)
     have ek:((ahead.length:Int)-1)=((ahead.length-1:Nat):Int):=by omega
     have hkl:ahead.length-1<ahead.length:=by omega
     clear hbad hy hc hEl hR1
     generalize ahead.length=n at *
     go_quiet (fail)
     go_wp2_with fail
     go_meet
     exact ⟨by rw [HB.out],below_drewN (Below.refl _ _) _⟩
   case rest=>
    obtain ⟨rfl,hBc⟩:=hcut
    have HBAD:=zy hbad
    clear hbad
    cases bad with
    | true=>
     have hno:Hid (¬zAG ahead e):=zy (fun h=>by
      have hb:=HBAD.out
      rcases Nat.eq_zero_or_pos ahead.length with h0|h0
      ·rw [h0] at hb;simp at hb
      ·have h1:=h.asc h0
       have hd:decide (e.p≤(ahead.getD (ahead.length-1) Ent.none).p)=false:=decide_eq_false_iff_not.2 (by omega)
       rw [hd] at hb
       simp at hb)
     go_wp2
     go_ret
     exact zAd.no hno.out (hBx.trans (hBc.mono (by omega)))
    | false=>
     have hasc:Hid (0<ahead.length→(ahead.getD (ahead.length-1) Ent.none).p<e.p):=zy (fun h0=>by
      have hb:=HBAD.out
      rw [show decide (0<ahead.length)=true by simpa using h0] at hb
      exact Int.not_le.1 (decide_eq_false_iff_not.1 hb.symm))
     have j0:=zDs hBc (by omega) k0
     have j1:=zDs hBc (by omega) k1
     have j2:=zDs hBc (by omega) k2
     have hR2:=(hR1.below hBc).mono hBc.size
     have hF2:=(hF1.out.below hBc).mono hBc.size
     have hBw:=hBx.trans (hBc.mono (show w.heap.size≤w1.heap.size by omega))
     have hsz:w.heap.size+1≤wc.heap.size:=by have:=hBc.size;omega
     clear k0 k1 k2 hR1 hBc hBx hF1 HBAD
     go_wp2_with fail
     refine (zW4 A AF c cF ahead e _ hl hR2 hE p3 hF2).mono ?_
     rintro r w2 ⟨b,rfl,hb,hB2⟩
     have i0:=zDs hB2 (by omega) j0
     have i1:=zDs hB2 (by omega) j1
     have i2:=zDs hB2 (by omega) j2
     have hF3:=(hF2.below hB2).mono hB2.size
     have hBv:=hBw.trans (hB2.mono (show w.heap.size≤wc.heap.size by omega))
     have HBW:=zy hb
     clear hb j0 j1 j2 hR2 hF2 hB2 hBw
     cases b with
     | false=>
      have hno:Hid (¬zAG ahead e):=zy (fun h=>by have:=HBW.out.2 h.whole;cases this)
      go_wp2
      go_ret
      exact zAd.no hno.out hBv
     | true=>
      have hW:=zy (HBW.out.1 rfl)
      have hq2: ∀x ∈ e.fs,2≤x.1:=fun x hx=>by
       obtain ⟨k,hk,rfl⟩:=List.getElem_of_mem hx
       have:=hW.out.two_le k hk
       simpa only [List.getD_eq_getElem?_getD,List.getElem?_eq_getElem hk,Option.getD_some] using this
      have HQ:=zy hq2
      clear hq2
      go_wp2_with fail
      refine (zHP AF cF e _ hE p3 pm HO.out HQ.out hF3).mono ?_
      rintro r w3 ⟨b,rfl,hb,hB3⟩
      have HBF:=zy hb
      clear hb
      go_wp2
      go_ret
      refine zAd.iff ?_ (hBv.trans (hB3.mono (by have:=hBv.size;omega)))
      rw [HBF.out]
      exact ⟨fun h=>⟨HO.out,p3,pm,g2,gp,hasc.out,hW.out,h⟩,fun h=>h.full⟩
  ·have hno:Hid (¬zAG ahead e):=zy (fun h=>h5 ⟨h.p3,h.pm,h.g2,h.gp⟩)
   have t5:e.p<3∨(¬e.p<3∧9223372036854775808≤e.p)∨(¬e.p<3∧ ¬9223372036854775808≤e.p∧e.g<2)∨(¬e.p<3∧ ¬9223372036854775808≤e.p∧ ¬e.g<2∧e.p≤e.g):=by omega
   clear h5
   rcases t5 with a1|⟨a1,a2⟩|⟨a1,a2,a3⟩|⟨a1,a2,a3,a4⟩
   all_goals
    go_enter Tryz.func161,Tryz.ntmps161
    go_wp2
    go_ret
    exact zAd.no hno.out hBx
 ·have hno:Hid (¬zAG ahead e):=zy (fun h=>ho h.odd)
  have t1:(bits .and .u64 e.p 1 == 0)=true:=by rw [ea,beq_iff_eq];omega
  clear ea ho
  go_enter Tryz.func161,Tryz.ntmps161
  go_wp2
  go_ret
  exact zAd.no hno.out hBx
def zAi (es:List Ent) (i er:Int):Prop:=
 (32<es.length∧i=0∧er=13)∨(es.length≤32∧ ∃k:Nat,k<es.length∧i=k∧er=3∧(∀j,j<k→zAG (es.take j) (es.getD j Ent.none))∧ ¬zAG (es.take k) (es.getD k Ent.none))∨
 (es.length≤32∧i=0∧er=0∧ ∀j,j<es.length→zAG (es.take j) (es.getD j Ent.none))
theorem zAi.unique {es:List Ent} {i er i' er':Int} (h:zAi es i er) (h':zAi es i' er'):i=i'∧er=er':=by
 rcases h with ⟨a,b,c⟩|⟨a,k,hk,b,c,d,f⟩|⟨a,b,c,d⟩ <;> rcases h' with ⟨a',b',c'⟩|⟨a',k',hk',b',c',d',f'⟩|⟨a',b',c',d'⟩
 ·omega
 ·omega
 ·omega
 ·omega
 ·have:k=k':=by
   rcases Nat.lt_trichotomy k k' with h|h|h
   ·exact absurd (d' k h) f
   ·exact h
   ·exact absurd (d k' h) f'
  omega
 ·exact absurd (d' k hk) f
 ·omega
 ·exact absurd (d k' hk') f'
 ·omega
def zAh (es:List Ent) (w:World) (r:Ending) (w':World):Prop:= ∃i er,r= .returned (.tuple #[.int .i64 i, .int .i64 er])∧zAi es i er∧Below w.heap.size w w'
theorem check_any (A:Option Addr) (c:Nat) (es:List Ent) (w:World) (hl:es.length≤140737488351232) (hlc:es.length≤c) (hR:RdE w w.heap.size A es) (hE: ∀e ∈ es,zAm e):
  Calls Tryz.prog 99 #[.slice A es.length c] w (zAh es w):=by
 by_cases h32:32<es.length
 ·have t1:decide ((32:Int)<es.length)=true:=by simp;omega
  have HC:Hid (zAi es 0 13):=zy (.inl ⟨h32,rfl,rfl⟩)
  clear h32
  go_enter Tryz.func99,Tryz.ntmps99
  go_wp2
  go_ret2
  exact ⟨0,13,rfl,HC.out,Below.refl _ _⟩
 ·have t1:decide ((32:Int)<es.length)=false:=by simp;omega
  go_enter Tryz.func99,Tryz.ntmps99
  go_wp2
  go_loopw [11] (fun I wr=> ∃k:Nat,I= .int .i64 k∧k≤es.length∧Hid (∀j,j<k→zAG (es.take j) (es.getD j Ent.none))∧Below w.heap.size w wr) (fun I _=>es.length-(intOf I).toNat)
  case atStart=>exact ⟨0,rfl,by omega,zy (fun j hj=>by omega),Below.refl _ _⟩
  case round=>
   obtain ⟨k,rfl,hk,hok,hB⟩:=hrel
   by_cases hlt:k<es.length
   ·obtain ⟨b,o,rfl,hb,hc⟩:=(hR.below hB) (by omega)
    obtain ⟨A',c',hEl⟩:=hc k hlt
    have d0:=hEl.c0
    have d1:=hEl.c1
    have d2:=hEl.c2
    have dr:=hEl.rd
    obtain ⟨x,hx⟩: ∃x,x=es.getD k Ent.none:=⟨_,rfl⟩
    rw [←hx] at d0 d1 d2 dr
    have hxm:x ∈ es:=by rw [hx,List.getD_eq_getElem?_getD,List.getElem?_eq_getElem hlt];exact List.getElem_mem hlt
    have hxo:=hE x hxm
    have HX:=zy hx
    have hRt:=(hR.take k).below hB
    have hlk:(es.take k).length=k:=by rw [List.length_take];omega
    have HLK:=zy hlk
    clear hx hEl hlk hc
    go_upto_region 6 with fail
    have hBx:=hB.alloc hB.size (.cells #[.int .u64 x.p, .int .u64 x.g, .slice A' x.fs.length c'] 115)
    have hBr:=(Below.refl wr.heap.size wr).alloc (Nat.le_refl _) (.cells #[.int .u64 x.p, .int .u64 x.g, .slice A' x.fs.length c'] 115)
    have k0:(wr.alloc (.cells #[.int .u64 x.p, .int .u64 x.g, .slice A' x.fs.length c'] 115)).cell? ⟨wr.heap.size,0,none⟩=some (.int .u64 x.p):=World.cell?_alloc_at _ _ _ _ rfl
    have k1:(wr.alloc (.cells #[.int .u64 x.p, .int .u64 x.g, .slice A' x.fs.length c'] 115)).cell? ⟨wr.heap.size,1,none⟩=some (.int .u64 x.g):=World.cell?_alloc_at _ _ _ _ rfl
    have k2:(wr.alloc (.cells #[.int .u64 x.p, .int .u64 x.g, .slice A' x.fs.length c'] 115)).cell? ⟨wr.heap.size,2,none⟩=some (.slice A' x.fs.length c'):=World.cell?_alloc_at _ _ _ _ rfl
    have hsz:wr.heap.size+1≤(wr.alloc (.cells #[.int .u64 x.p, .int .u64 x.g, .slice A' x.fs.length c'] 115)).heap.size:=by simp
    generalize wr.alloc (.cells #[.int .u64 x.p, .int .u64 x.g, .slice A' x.fs.length c'] 115)=w1 at *
    have hws:=hB.size
    have hCl:Hid (∀W,Below w1.heap.size w1 W→Calls Tryz.prog 161 #[.slice (some ⟨b,o,none⟩) k c, .agg #[.int .u64 x.p, .int .u64 x.g, .slice A' x.fs.length c']] W (zAd (zAG (es.take k) x) W)):=zy (fun W hW=>by
     have h1:=zRW (some ⟨b,o,none⟩) A' c c' (es.take k) x W (by rw [HLK.out];omega) (((hRt.mono (show w.heap.size≤wr.heap.size by omega)).below hBr |>.mono (show wr.heap.size≤w1.heap.size by omega)).below hW |>.mono hW.size) hxo (((dr.mono (show w.heap.size≤wr.heap.size by omega)).below hBr |>.mono (show wr.heap.size≤w1.heap.size by omega)).below hW |>.mono hW.size)
     rw [HLK.out] at h1
     exact h1)
    clear hRt dr d0 d1 d2
    have s1:(k:Int)≤c:=by omega
    have s2:k≤c:=by omega
    go_cut [21] (fun v wx=> ∃bb:Bool,v= .bool (!bb)∧Hid (bb=true↔zAG (es.take k) x)∧Below w1.heap.size w1 wx)
    case first=>
     go_region_with (go_at_call 161;refine (hCl.out _ (below_drewN (Below.refl _ _) _)).mono ?_;rintro r w' ⟨bb,rfl,hbb,hBc⟩)
     all_goals go_wp2_with fail
     all_goals go_meet
     all_goals refine ⟨bb,rfl,zy hbb,?_⟩
     all_goals first
      | exact (below_drewN (Below.refl _ _) _).trans (hBc.mono (Nat.le_refl _))
      | exact below_drewN ((below_drewN (Below.refl _ _) _).trans (hBc.mono (Nat.le_refl _))) _
    case rest=>
     obtain ⟨bb,rfl,hbb,hBc⟩:=hcut
     have hB2:Below w.heap.size w wc:=hBx.trans (hBc.mono (by omega))
     clear hBc hBr k0 k1 k2 hBx hCl
     cases bb with
     | true=>
      have HR:=zy (hbb.out.1 rfl)
      go_wp2
      go_roundw
      case rel=>
       refine ⟨k+1,by go_num,by omega,zy (fun j hj=>?_),hB2⟩
       by_cases e:j=k
       ·subst e;rw [←HX.out];exact HR.out
       ·exact hok.out j (by omega)
      case measure=>simp [intOf];omega
     | false=>
      have hno:Hid (¬zAG (es.take k) x):=zy (fun h=>by have:=hbb.out.2 h;cases this)
      go_wp2
      go_ret2
      exact ⟨k,3,rfl, .inr (.inl ⟨by omega,k,hlt,rfl,rfl,hok.out,by rw [←HX.out];exact hno.out⟩),hB2⟩
   ·obtain rfl:k=es.length:=by omega
    go_wp2
    go_ret2
    exact ⟨0,0,rfl, .inr (.inr ⟨by omega,rfl,rfl,hok.out⟩),hB⟩
end

section
def powm:Nat→Nat→Nat→Nat→Nat
 | 0,_,_,m=>1%m
 | f+1,a,e,m=>if e=0 then 1%m else (if e%2=1 then a*powm f (a*a%m) (e/2) m%m else powm f (a*a%m) (e/2) m)
theorem zOL (f:Nat): ∀a e m:Nat,e<2^f→powm f a e m=a^e%m:=by
 induction f with
 | zero=>
  intro a e m h
  have:e=0:=by simpa using h
  subst this;simp [powm]
 | succ f ih=>
  intro a e m h
  have hm: ∀k:Nat,(a*a%m)^k%m=(a*a)^k%m:=fun k=>(Nat.pow_mod (a*a) k m).symm ▸ rfl
  unfold powm
  by_cases he:e=0
  ·rw [if_pos he,he];simp
  ·rw [if_neg he,ih _ _ _ (by rw [Nat.pow_succ] at h;omega),hm]
   have hs:a^e=(a*a)^(e/2)*a^(e%2):=by
    conv=>lhs;rw [←Nat.div_add_mod e 2]
    rw [Nat.pow_add,Nat.pow_mul,Nat.pow_two]
   by_cases ho:e%2=1
   ·rw [if_pos ho,hs,ho,Nat.pow_one,Nat.mul_mod,Nat.mod_mod,←Nat.mul_mod,Nat.mul_comm]
   ·rw [if_neg ho,hs,show e%2=0 by omega];simp
theorem zOM {g p:Int} (k:Nat) (hg:0≤g) (hp:0≤p) (hk:k<2^64):g^k%p=((powm 64 g.toNat k p.toNat:Nat):Int):=by
 rw [zOL 64 _ _ _ hk]
 obtain ⟨a,rfl⟩:=Int.eq_ofNat_of_zero_le hg
 obtain ⟨b,rfl⟩:=Int.eq_ofNat_of_zero_le hp
 simp
def zW2 (ahead:List Ent) (e:Ent):Bool:=
 decide (1≤e.fs.length) && decide (e.fs.length≤16) && decide ((e.fs.getD 0 (0,0)).1=2) &&
 (List.range e.fs.length).all (fun k=>decide (1≤(e.fs.getD k (0,0)).2) && decide ((e.fs.getD k (0,0)).2≤62)) &&
 (List.range (e.fs.length-1)).all (fun k=>decide ((e.fs.getD k (0,0)).1<(e.fs.getD (k+1) (0,0)).1) && ahead.any (fun x=>x.p == (e.fs.getD (k+1) (0,0)).1)) &&
 decide (zPg e.fs=e.p-1)
theorem zW3 {ahead:List Ent} {e:Ent} (h:zW2 ahead e=true):zAS ahead e:=by
 simp only [zW2,Bool.and_eq_true,decide_eq_true_eq,List.all_eq_true,List.mem_range] at h
 obtain ⟨⟨⟨⟨⟨a,b⟩,c⟩,d⟩,f⟩,g⟩:=h
 exact ⟨a,b,c,d,fun k hk=>f k (by omega),g⟩
def zHN (e:Ent):Bool:=
 decide (powm 64 e.g.toNat (e.p-1).toNat e.p.toNat=1) && e.fs.all (fun x=>decide (powm 64 e.g.toNat ((e.p-1)/x.1).toNat e.p.toNat≠1) && decide (1≤x.1))
theorem zHO {e:Ent} (hp:3≤e.p) (hpm:e.p<9223372036854775808) (hg:0≤e.g) (h:zHN e=true):zAr e:=by
 simp only [zHN,Bool.and_eq_true,decide_eq_true_eq,List.all_eq_true] at h
 refine ⟨?_,fun x hx=>?_⟩
 ·rw [zOM _ hg (by omega) (by omega),h.1];rfl
 ·have:=h.2 x hx
  have h1:(e.p-1)/x.1≤e.p-1:=Int.ediv_le_self _ (by omega)
  rw [zOM _ hg (by omega) (by omega)]
  intro h2
  exact this.1 (by omega)
def zRU (ahead:List Ent) (e:Ent):Bool:=
 decide (e.p%2=1) && decide (3≤e.p) && decide (e.p<9223372036854775808) && decide (2≤e.g) && decide (e.g<e.p) &&
 (decide (ahead.length=0) || decide ((ahead.getD (ahead.length-1) Ent.none).p<e.p)) && zW2 ahead e && zHN e
theorem zRV {ahead:List Ent} {e:Ent} (h:zRU ahead e=true):zAG ahead e:=by
 simp only [zRU,Bool.and_eq_true,Bool.or_eq_true,decide_eq_true_eq] at h
 obtain ⟨⟨⟨⟨⟨⟨⟨a,b⟩,c⟩,d⟩,f⟩,g⟩,i⟩,j⟩:=h
 exact ⟨a,b,c,d,f,fun h0=>by rcases g with g|g <;> omega,zW3 i,zHO b c (by omega) j⟩
def allB (es:List Ent):Bool:=decide (es.length≤32) && (List.range es.length).all (fun j=>zRU (es.take j) (es.getD j Ent.none))
theorem zBw {es:List Ent} (h:allB es=true):es.length≤32∧ ∀j,j<es.length→zAG (es.take j) (es.getD j Ent.none):=by
 simp only [allB,Bool.and_eq_true,decide_eq_true_eq,List.all_eq_true,List.mem_range] at h
 exact ⟨h.1,fun j hj=>zRV (h.2 j hj)⟩
def e3:Ent:=⟨3,2,[(2,1)]⟩
def e5:Ent:=⟨5,2,[(2,2)]⟩
def e7:Ent:=⟨7,3,[(2,1),(3,1)]⟩
def e29:Ent:=⟨29,2,[(2,2),(7,1)]⟩
def k0:Ent:=⟨4179340454199820289,3,[(2,57),(29,1)]⟩
def k1:Ent:=⟨1945555039024054273,5,[(2,56),(3,3)]⟩
def k2:Ent:=⟨180143985094819841,6,[(2,55),(5,1)]⟩
def k3:Ent:=⟨754974721,11,[(2,24),(3,2),(5,1)]⟩
def k4:Ent:=⟨469762049,3,[(2,26),(7,1)]⟩
def k5:Ent:=⟨167772161,3,[(2,25),(5,1)]⟩
def zKa (i:Int):List Ent:=
 if i=0 then [e3,e7,e29,k0] else if i=1 then [e3,k1] else if i=2 then [e5,k2] else if i=3 then [e3,e5,k3] else if i=4 then [e3,e7,k4] else if i=5 then [e5,k5] else []
theorem zRO:allB [e3,e7,e29,k0]=true:=by decide +kernel
theorem zRP:allB [e3,k1]=true:=by decide +kernel
theorem zRQ:allB [e5,k2]=true:=by decide +kernel
theorem zRR:allB [e3,e5,k3]=true:=by decide +kernel
theorem zRS:allB [e3,e7,k4]=true:=by decide +kernel
theorem zRT:allB [e5,k5]=true:=by decide +kernel
end

section
open Go.RowKit
theorem zQ1 (A:Option Addr) (c:Nat) (q:Int) (es:List Ent) (w:World) (hl:es.length≤140737488351232) (hR:RdE w w.heap.size A es):
  Calls Tryz.prog 194 #[.slice A es.length c, .int .u64 q] w fun e w'=>e= .returned (.bool (es.any (fun x=>x.p == q)))∧Below w.heap.size w w':=by
 go_enter Tryz.func194,Tryz.ntmps194
 go_wp2
 go_loopw [9] (fun i wr=> ∃k:Nat,i= .int .i64 k∧k≤es.length∧Hid ((es.take k).any (fun x=>x.p == q)=false)∧Below w.heap.size w wr) (fun i _=>es.length-(intOf i).toNat)
 case atStart=>exact ⟨0,rfl,by omega,zy (by simp),Below.refl _ _⟩
 case round=>
  obtain ⟨k,rfl,hk,hn,hB⟩:=hrel
  by_cases hlt:k<es.length
  ·obtain ⟨b,o,rfl,hbl,hc⟩:=hR (by omega)
   obtain ⟨A',c',hE⟩:=hc k hlt
   have g0:wr.cell? ⟨b,o+k*3,none⟩=some (.int .u64 (es.getD k Ent.none).p):=zDs hB hbl hE.c0
   have g1:wr.cell? ⟨b,o+k*3+1,none⟩=some (.int .u64 (es.getD k Ent.none).g):=zDs hB hbl hE.c1
   have g2:wr.cell? ⟨b,o+k*3+2,none⟩=some (.slice A' (es.getD k Ent.none).fs.length c'):=zDs hB hbl hE.c2
   obtain ⟨x,hx⟩: ∃x,x=es.getD k Ent.none:=⟨_,rfl⟩
   rw [←hx] at g0 g1 g2
   have htk:Hid ((es.take (k+1)).any (fun x=>x.p == q)=(x.p == q)):=zy (by
    rw [List.take_succ_eq_append_getElem hlt,List.any_append,hn.out,hx,List.getD_eq_getElem?_getD,List.getElem?_eq_getElem hlt];simp)
   have hxm:Hid (x ∈ es):=zy (by
    rw [hx,List.getD_eq_getElem?_getD,List.getElem?_eq_getElem hlt]
    exact List.getElem_mem hlt)
   have hws:w.heap.size≤wr.heap.size:=hB.size
   clear hx hc hR hE
   cases hpx:(x.p == q) with
   | true=>
    have HA:Hid (es.any (fun x=>x.p == q)=true):=zy (List.any_eq_true.2 ⟨x,hxm.out,hpx⟩)
    go_wp2
    go_ret
    exact ⟨by rw [HA.out];first|rfl|simp,hB.alloc hws _⟩
   | false=>
    have HT:Hid ((es.take (k+1)).any (fun x=>x.p == q)=false):=zy (by rw [htk.out,hpx])
    clear htk
    go_wp2
    go_roundw
    case rel=>exact ⟨k+1,by go_num,by omega,HT,hB.alloc hws _⟩
    case measure=>simp [intOf];omega
  ·obtain rfl:k=es.length:=by omega
   have hz:=hn.out
   rw [List.take_length] at hz
   have HZ:=zy hz
   clear hz hn
   go_wp2
   go_ret
   exact ⟨by rw [HZ.out];first|rfl|simp,hB⟩
structure zAC (fs:List (Int×Int)) (most:Int):Prop where
 each: ∀k,k<fs.length→2≤(fs.getD k (0,0)).1∧1≤(fs.getD k (0,0)).2∧(fs.getD k (0,0)).2≤62
 le:zPg fs≤most
theorem zAC.part {fs:List (Int×Int)} {most:Int} (h:zAC fs most) (k i:Nat) (hk:k<fs.length) (hi:(i:Int)≤(fs.getD k (0,0)).2):
  zPg (fs.take k)*(fs.getD k (0,0)).1^i≤most:=by
 have hp: ∀x ∈ fs,1≤x.1:=fun x hx=>by
  obtain ⟨j,hj,rfl⟩:=List.getElem_of_mem hx
  have:=(h.each j hj).1
  simp only [List.getD_eq_getElem?_getD,List.getElem?_eq_getElem hj,Option.getD_some] at this
  omega
 refine Int.le_trans ?_ h.le
 have hs:fs=fs.take k ++ (fs.getD k (0,0) :: fs.drop (k+1)):=by
  have:fs.getD k (0,0)=fs[k]:=by simp [List.getD_eq_getElem?_getD,List.getElem?_eq_getElem hk]
  rw [this,←List.drop_eq_getElem_cons hk,List.take_append_drop]
 have h1:1≤zPg (fs.take k):=zPj fun x hx=>hp x (List.mem_of_mem_take hx)
 have h2:1≤zPg (fs.drop (k+1)):=zPj fun x hx=>hp x (List.mem_of_mem_drop hx)
 have hq:=(h.each k hk).1
 generalize fs.getD k (0,0)=x at *
 conv=>rhs;rw [hs]
 rw [zPh,zPg]
 have h3:x.1^x.2.toNat=x.1^i*x.1^(x.2.toNat-i):=by rw [←Int.pow_add];congr 1;omega
 have h4:0<x.1^(x.2.toNat-i):=Int.pow_pos (by omega)
 have h5:0<x.1^i:=Int.pow_pos (by omega)
 rw [h3]
 have h6:1*1≤x.1^(x.2.toNat-i)*zPg (fs.drop (k+1)):=Int.mul_le_mul (by omega) h2 (by omega) (by omega)
 have h7:(zPg (fs.take k)*x.1^i)*1≤(zPg (fs.take k)*x.1^i)*(x.1^(x.2.toNat-i)*zPg (fs.drop (k+1))):=
  Int.mul_le_mul_of_nonneg_left (by omega) (Int.mul_nonneg (by omega) (by omega))
 have h8:(zPg (fs.take k)*x.1^i)*(x.1^(x.2.toNat-i)*zPg (fs.drop (k+1)))=zPg (fs.take k)*(x.1^i*x.1^(x.2.toNat-i)*zPg (fs.drop (k+1))):=by grind
 omega
def zAD (fs:List (Int×Int)) (most:Int) (w:World) (r:Ending) (w':World):Prop:=
 Below w.heap.size w w'∧((zAC fs most∧r= .returned (.tuple #[.int .u64 (zPg fs), .bool true]))∨(¬zAC fs most∧r= .returned (.tuple #[.int .u64 0, .bool false])))
theorem zQ2 (A:Option Addr) (c:Nat) (most:Int) (fs:List (Int×Int)) (w:World) (hl:fs.length≤140737488351232) (hm0:1≤most) (hm1:most≤18446744073709551615) (hF:RdPI w w.heap.size A fs)
  (hE: ∀x ∈ fs,0≤x.1∧x.1≤18446744073709551615∧ -9223372036854775808≤x.2∧x.2≤9223372036854775807):
  Calls Tryz.prog 195 #[.slice A fs.length c, .int .u64 most] w (zAD fs most w):=by
 have HE:=zy hE
 clear hE
 go_enter Tryz.func195,Tryz.ntmps195
 go_wp2
 go_loopw [6,12] (fun N I wr=> ∃(k:Nat) (n:Int),N= .int .u64 n∧I= .int .i64 k∧k≤fs.length∧1≤n∧n≤most∧Hid (n=zPg (fs.take k))∧Hid (∀j,j<k→2≤(fs.getD j (0,0)).1∧1≤(fs.getD j (0,0)).2∧(fs.getD j (0,0)).2≤62)∧Below w.heap.size w wr) (fun _ I _=>fs.length-(intOf I).toNat)
 case atStart=>exact ⟨0,1,rfl,rfl,by omega,by omega,hm0,zy rfl,zy (fun j hj=>by omega),Below.refl _ _⟩
 case round=>
  obtain ⟨k,n,rfl,rfl,hk,n0,n1,hn,hok,hB⟩:=hrel
  by_cases hlt:k<fs.length
  ·obtain ⟨b,o,rfl,hbl,hc⟩:=hF (by omega)
   obtain ⟨x,hx⟩: ∃x,x=fs.getD k (0,0):=⟨_,rfl⟩
   have g0:wr.cell? ⟨b,o+k*2,none⟩=some (.int .u64 x.1):=by rw [hx];exact zDs hB hbl (hc k hlt).1
   have g1:wr.cell? ⟨b,o+k*2+1,none⟩=some (.int .i64 x.2):=by rw [hx];exact zDs hB hbl (hc k hlt).2
   obtain ⟨q0,q1,e0,e1⟩:=HE.out x (by rw [hx,List.getD_eq_getElem?_getD,List.getElem?_eq_getElem hlt];exact List.getElem_mem hlt)
   have HX:=zy hx
   have hws:w.heap.size≤wr.heap.size:=hB.size
   clear hx hc hF
   by_cases hgood:1≤x.2∧x.2≤62∧2≤x.1
   ·obtain ⟨a1,a2,a3⟩:=hgood
    have t1:decide (x.2<1)=false:=by simp;omega
    have t2:decide (62<x.2)=false:=by simp;omega
    have t3:decide (x.1<2)=false:=by simp;omega
    go_wp2
    have hBa:=hB.alloc hws (.cells #[.int .u64 x.1, .int .i64 x.2] 152)
    have l0:(wr.alloc (.cells #[.int .u64 x.1, .int .i64 x.2] 152)).cell? ⟨wr.heap.size,0,none⟩=some (.int .u64 x.1):=World.cell?_alloc_at _ _ _ _ rfl
    have l1:(wr.alloc (.cells #[.int .u64 x.1, .int .i64 x.2] 152)).cell? ⟨wr.heap.size,1,none⟩=some (.int .i64 x.2):=World.cell?_alloc_at _ _ _ _ rfl
    generalize wr.alloc (.cells #[.int .u64 x.1, .int .i64 x.2] 152)=wa at *
    generalize wr.heap.size=Bx at *
    clear g0 g1 hB hws
    go_loopw [6,9] (fun N I wi=> ∃(i:Nat) (n':Int),N= .int .u64 n'∧I= .int .i64 i∧(i:Int)≤x.2∧1≤n'∧n'≤most∧Hid (n'=zPg (fs.take k)*x.1^i)∧wi=wa) (fun _ I _=>63-(intOf I).toNat)
    case atStart=>exact ⟨0,n,rfl,rfl,by omega,n0,n1,zy (by rw [hn.out];simp),rfl⟩
    case round=>
     obtain ⟨i,n',rfl,rfl,hi,m0,m1,hn',rfl⟩:=hrel
     by_cases hil:(i:Int)<x.2
     ·obtain ⟨v,hv⟩: ∃v,most/x.1=v:=⟨_,rfl⟩
      have tx:(x.1 == 0)=false:=by simp;omega
      by_cases hbig:v<n'
      ·have tb:decide (v<n')=true:=by simp [hbig]
       have hno:Hid (¬zAC fs most):=zy (fun h=>by
        have h1:=h.part k (i+1) hlt (by rw [←HX.out];omega)
        rw [←HX.out,Int.pow_succ,←Int.mul_assoc,←hn'.out] at h1
        have h2:=(Int.le_ediv_iff_mul_le (show 0<x.1 by omega)).2 h1
        omega)
       have HV:=zy hbig
       clear hbig
       go_wp2
       go_ret2
       exact ⟨hBa, .inr ⟨hno.out,rfl⟩⟩
      ·have tb:decide (v<n')=false:=by simp;omega
       have h3:n'*x.1≤most:=(Int.le_ediv_iff_mul_le (show 0<x.1 by omega)).1 (by omega)
       have h4:1*1≤n'*x.1:=Int.mul_le_mul m0 (by omega) (by omega) (by omega)
       have hnx:Hid (n'*x.1=zPg (fs.take k)*x.1^(i+1)):=zy (by rw [hn'.out,Int.pow_succ,Int.mul_assoc])
       obtain ⟨y,hy⟩: ∃y,n'*x.1=y:=⟨_,rfl⟩
       rw [hy] at h3 h4 hnx
       go_wp2
       go_roundw
       case rel=>exact ⟨i+1,y,by first|rfl|rw [hy],by go_num,by omega,by omega,h3,hnx,by trivial⟩
       case measure=>simp [intOf];omega
     ·have hiE:(i:Int)=x.2:=by omega
      have hfin:Hid (n'=zPg (fs.take (k+1))):=zy (by
       rw [hn'.out,zPk hlt,←HX.out]
       congr 2
       omega)
      have hok2:Hid (∀j,j<k+1→2≤(fs.getD j (0,0)).1∧1≤(fs.getD j (0,0)).2∧(fs.getD j (0,0)).2≤62):=zy (fun j hj=>by
       by_cases e:j=k
       ·rw [e,←HX.out];omega
       ·exact hok.out j (by omega))
      clear hiE
      go_wp2
      go_roundw
      case rel=>exact ⟨k+1,n',by first|rfl|go_num,by go_num,by omega,m0,m1,hfin,hok2,hBa⟩
      case measure=>simp [intOf];omega
   ·have hno:Hid (¬zAC fs most):=zy (fun h=>by have:=h.each k hlt;rw [←HX.out] at this;omega)
    have t4:decide (x.2<1)=true∨(decide (x.2<1)=false∧decide (62<x.2)=true)∨(decide (x.2<1)=false∧decide (62<x.2)=false∧decide (x.1<2)=true):=by
     by_cases h:x.2<1
     ·exact .inl (by simpa using h)
     ·by_cases h2:62<x.2
      ·exact .inr (.inl ⟨by simpa using h,by simpa using h2⟩)
      ·exact .inr (.inr ⟨by simpa using h,by simpa using h2,by simp;omega⟩)
    clear hgood
    rcases t4 with t4|⟨t4,t5⟩|⟨t4,t5,t6⟩
    all_goals
     go_wp2
     go_ret2
     exact ⟨hB.alloc hws _, .inr ⟨hno.out,rfl⟩⟩
  ·obtain rfl:k=fs.length:=by omega
   have hn2:=hn.out
   rw [List.take_length] at hn2
   have HY:Hid (zAC fs most):=zy ⟨hok.out,by omega⟩
   have HN:=zy hn2
   clear hn2 hF
   go_wp2
   go_ret2
   exact ⟨hB, .inl ⟨HY.out,by rw [←HN.out];rfl⟩⟩
end

section
open Go.RowKit
theorem zLF (a b m:Int) (w:World) (ha0:0≤a) (ha:a≤18446744073709551615) (hb0:0≤b) (hb:b≤18446744073709551615) (hm0:0<m) (hm:m≤18446744073709551615):
  Calls Tryz.prog 235 #[.int .u64 a, .int .u64 b, .int .u64 m] w fun e w'=>e= .returned (.int .u64 ((a+b)%m))∧ ∃n,w'=w.drewN n:=by
 have h0:(m == 0)=false:=beq_eq_false_iff_ne.2 (by omega)
 have x0:=Int.emod_nonneg a (show m≠0 by omega)
 have x1:=Int.emod_lt_of_pos a hm0
 have y0:=Int.emod_nonneg b (show m≠0 by omega)
 have y1:=Int.emod_lt_of_pos b hm0
 have fin:Hid ((a%m+b%m)%m=(a+b)%m):=zy (by rw [←Int.add_emod])
 have e1:=zAV (a%m) (b%m) 0 x0 (by omega) y0 (by omega) (by omega) (by omega)
 rw [Int.add_zero] at e1
 obtain ⟨u,hu⟩: ∃u,a%m=u:=⟨_,rfl⟩
 obtain ⟨v,hv⟩: ∃v,b%m=v:=⟨_,rfl⟩
 rw [hu,hv] at e1 fin
 rw [hu] at x0 x1
 rw [hv] at y0 y1
 obtain ⟨l,hl⟩: ∃l,(u+v)%18446744073709551616=l:=⟨_,rfl⟩
 obtain ⟨h,hh⟩: ∃h,(u+v)/18446744073709551616=h:=⟨_,rfl⟩
 have e2:Hid (h*18446744073709551616+l=u+v):=zy (by omega)
 have l0:0≤l:=by omega
 have l1:l≤18446744073709551615:=by omega
 have g0:0≤h:=by omega
 have g1:h≤1:=by omega
 rw [hl,hh] at e1
 clear hl hh
 go_enter Tryz.func235,Tryz.ntmps235
 go_wp2_with fail
 go_quiet (fail)
 go_wp2_with fail
 refine (zR0 h l m _ g0 (by omega) hm0 l0 l1 hm).mono ?_
 rintro e w1 ⟨rfl,n,rfl⟩
 go_wp2
 go_ret
 exact ⟨zRD (by rw [e2.out,fin.out]),_,rfl⟩
theorem zLG (a m:Int) (w:World) (ha0:0≤a) (ha:a≤18446744073709551615) (hm0:0<m) (hm:m≤18446744073709551615):
  Calls Tryz.prog 236 #[.int .u64 a, .int .u64 m] w fun e w'=>e= .returned (.int .u64 ((-a)%m))∧w=w':=by
 have h0:(m == 0)=false:=beq_eq_false_iff_ne.2 (by omega)
 have x0:=Int.emod_nonneg a (show m≠0 by omega)
 have x1:=Int.emod_lt_of_pos a hm0
 have e1:(-a)%m=(- (a%m))%m:=by
  rw [←Int.zero_sub,←Int.zero_sub,Int.sub_emod,Int.sub_emod 0 (a%m),Int.emod_emod]
 by_cases hz:a%m=0
 ·have tz:(a%m == 0)=true:=by simp [hz]
  have fin:Hid ((-a)%m=0):=zy (by rw [e1,hz];simp)
  clear hz e1
  go_enter Tryz.func236,Tryz.ntmps236
  go_wp2
  go_ret
  exact ⟨zRD fin.out.symm,rfl⟩
 ·have tz:(a%m == 0)=false:=by simp [hz]
  have fin:Hid (m-a%m=(-a)%m):=zy (by
   rw [e1,show -(a%m)=(m-a%m)+m*(-1) by omega,Int.add_mul_emod_self_left,show (m-a%m)%m=m-a%m from Int.emod_eq_of_lt (by omega) (by omega)])
  clear hz e1
  go_enter Tryz.func236,Tryz.ntmps236
  go_wp2
  go_ret
  exact ⟨zRD fin.out,rfl⟩
theorem zLH (a b m:Int) (w:World) (ha0:0≤a) (ha:a≤18446744073709551615) (hb0:0≤b) (hb:b≤18446744073709551615) (hm0:0<m) (hm:m≤18446744073709551615):
  Calls Tryz.prog 220 #[.int .u64 a, .int .u64 b, .int .u64 m] w fun e w'=>e= .returned (.int .u64 ((a-b)%m))∧ ∃n,w'=w.drewN n:=by
 have x0:=Int.emod_nonneg (-b) (show m≠0 by omega)
 have x1:=Int.emod_lt_of_pos (-b) hm0
 have fin:Hid ((a+(-b)%m)%m=(a-b)%m):=zy (by rw [Int.add_emod_emod,Int.sub_eq_add_neg])
 have hN:=zy (zLG b m w hb0 hb hm0 hm)
 have hA:=zy (zLF a ((-b)%m) m w ha0 ha x0 (by omega) hm0 hm)
 obtain ⟨q,hq⟩: ∃q,q=(-b)%m:=⟨_,rfl⟩
 rw [←hq] at fin hN hA x0 x1
 clear hq
 go_enter Tryz.func220,Tryz.ntmps220
 go_wp2_with fail
 refine hN.out.mono ?_
 rintro e w1 ⟨rfl,rfl⟩
 go_wp2_with fail
 refine hA.out.mono ?_
 rintro e w1 ⟨rfl,n2,rfl⟩
 go_wp2
 go_ret
 exact ⟨zRD fin.out,_,rfl⟩
def InvP (a m:Int) (w:World) (r:Ending) (w':World):Prop:=
 (∃n,w'=w.drewN n)∧((Nat.gcd m.toNat (a%m).toNat=1∧ ∃t,r= .returned (.tuple #[.int .u64 t, .bool true])∧0≤t∧t<m∧t*a%m=1)∨(Nat.gcd m.toNat (a%m).toNat≠1∧r= .returned (.tuple #[.int .u64 0, .bool false])))
theorem zJE {a m t s r x q:Int} (h1:(t*a-r)%m=0) (h2:(s*a-x)%m=0):(((t-q*s%m)%m)*a-(r-q*x))%m=0:=by
 obtain ⟨c1,e1⟩:=Int.dvd_of_emod_eq_zero h1
 obtain ⟨c2,e2⟩:=Int.dvd_of_emod_eq_zero h2
 have d1:=Int.emod_def (q*s) m
 have d2:=Int.emod_def (t-q*s%m) m
 apply Int.emod_eq_zero_of_dvd
 rw [d2,d1]
 refine ⟨c1-q*c2+(q*s/m)*a-((t-(q*s-m*(q*s/m)))/m)*a,?_⟩
 generalize (t-(q*s-m*(q*s/m)))/m=z
 generalize q*s/m=y
 grind
theorem zLK (a m:Int) (w:World) (ha0:0≤a) (ha:a≤18446744073709551615) (hm0:2≤m) (hm:m≤18446744073709551615):
  Calls Tryz.prog 205 #[.int .u64 a, .int .u64 m] w (InvP a m w):=by
 have t0:decide (m<2)=false:=by simp;omega
 have tz:(m == 0)=false:=beq_eq_false_iff_ne.2 (by omega)
 have x0:=Int.emod_nonneg a (show m≠0 by omega)
 have x1:=Int.emod_lt_of_pos a (show 0<m by omega)
 have hs:Hid ((1*a-a%m)%m=0):=zy (by rw [Int.one_mul];exact Int.emod_eq_zero_of_dvd ⟨a/m,by have:=Int.emod_def a m;omega⟩)
 have hs0:Hid ((0*a-m)%m=0):=zy (by rw [Int.zero_mul,Int.zero_sub];simp)
 obtain ⟨x,hx⟩: ∃x,x=a%m:=⟨_,rfl⟩
 have HX:=zy hx
 rw [←hx] at x0 x1 hs
 have hxe:a%m=x:=hx.symm
 clear hx
 go_enter Tryz.func205,Tryz.ntmps205
 go_wp2_with fail
 go_quiet (fail)
 clear hxe
 go_wp2_with fail
 go_loopw [6,7,8,9,10] (fun R N T S _ wr=> ∃(r x' t s:Int) (n:Nat),R= .int .u64 r∧N= .int .u64 x'∧T= .int .u64 t∧S= .int .u64 s∧wr=w.drewN n∧0≤x'∧x'<r∧r≤m∧0≤t∧t<m∧0≤s∧s<m∧Hid ((t*a-r)%m=0)∧Hid ((s*a-x')%m=0)∧Hid (Nat.gcd r.toNat x'.toNat=Nat.gcd m.toNat x.toNat)) (fun _ N _ _ _ _=>(intOf N).toNat)
 case atStart=>exact ⟨m,x,0,1,_,rfl,by rw [HX.out],rfl,rfl,rfl,x0,x1,by omega,by omega,by omega,by omega,by omega,hs0,hs,zy rfl⟩
 case round=>
  obtain ⟨r,y,t,s,n,rfl,rfl,rfl,rfl,rfl,y0,y1,hr,t1,t2,s1,s2,ht,hs',hg⟩:=hrel
  by_cases hy:0<y
  ·have ty:(y == 0)=false:=beq_eq_false_iff_ne.2 (by omega)
   have ty2:decide (0<y)=true:=by simpa using hy
   obtain ⟨q,hq⟩: ∃q,r/y=q:=⟨_,rfl⟩
   have q0:0≤q:=by rw [←hq];exact Int.ediv_nonneg (by omega) y0
   have q1:q≤r:=by rw [←hq];exact Int.ediv_le_self _ (by omega)
   have hm1:=Int.emod_nonneg r (show y≠0 by omega)
   have hm2:=Int.emod_lt_of_pos r hy
   have hd:r%y=r-q*y:=by rw [←hq,Int.emod_def,Int.mul_comm]
   have hz0:0≤q*y:=Int.mul_nonneg q0 y0
   obtain ⟨z,hz⟩: ∃z,q*y=z:=⟨_,rfl⟩
   rw [hd,hz] at hm1 hm2
   rw [hz] at hz0 hd
   have hst:=zJE (q:=q) ht.out hs'.out
   have hgc:Hid (Nat.gcd y.toNat (r-z).toNat=Nat.gcd m.toNat x.toNat):=zy (by
    rw [←hg.out,←hd,Nat.gcd_comm r.toNat,Nat.gcd_rec y.toNat r.toNat,Nat.gcd_comm (r.toNat%y.toNat)]
    congr 1
    rw [Int.toNat_emod (by omega) (by omega)])
   rw [hz] at hst
   have hMul:=zy (fun w=>zLL q s m w q0 (by omega) s1 (by omega) (by omega) hm)
   obtain ⟨v,hv⟩: ∃v,q*s%m=v:=⟨_,rfl⟩
   have v0:0≤v:=by rw [←hv];exact Int.emod_nonneg _ (by omega)
   have v1:v<m:=by rw [←hv];exact Int.emod_lt_of_pos _ (by omega)
   rw [hv] at hMul hst
   have hSub:=zy (fun w=>zLH t v m w t1 (by omega) v0 (by omega) (by omega) hm)
   obtain ⟨u,hu⟩: ∃u,(t-v)%m=u:=⟨_,rfl⟩
   have u0:0≤u:=by rw [←hu];exact Int.emod_nonneg _ (by omega)
   have u1:u<m:=by rw [←hu];exact Int.emod_lt_of_pos _ (by omega)
   rw [hu] at hSub hst
   have HST:Hid ((u*a-(r-z))%m=0):=zy hst
   have ez:IntKind.u64.wrap (q*y)=z:=by rw [hz];exact IntWalk.u64_in _ (by omega)
   have ez2:IntKind.u64.wrap (r-z)=r-z:=IntWalk.u64_in _ (by omega)
   clear hst hu hv hd
   go_wp2_with fail
   refine (hMul.out _).mono ?_
   rintro e w1 ⟨rfl,n1,rfl⟩
   go_wp2_with fail
   refine (hSub.out _).mono ?_
   rintro e w1 ⟨rfl,n2,rfl⟩
   go_wp2
   go_roundw
   case rel=>exact ⟨y,r-z,s,u,_,rfl,rfl,rfl,rfl,rfl,hm1,hm2,by omega,s1,s2,u0,u1,hs',HST,hgc⟩
   case measure=>simp only [intOf];omega
  ·obtain rfl:y=0:=by omega
   have ty2:decide ((0:Int)<0)=false:=by simp
   have hgr:r.toNat=Nat.gcd m.toNat x.toNat:=by rw [←hg.out];simp
   by_cases h1:r=1
   ·subst h1
    have HT:Hid (t*a%m=1):=zy (by
     obtain ⟨c,hc⟩:=Int.dvd_of_emod_eq_zero ht.out
     rw [show t*a=1+m*c by omega,Int.add_mul_emod_self_left,Int.emod_eq_of_lt (by omega) (by omega)])
    have HG:Hid (Nat.gcd m.toNat x.toNat=1):=zy (by rw [←hgr];rfl)
    clear hgr
    go_wp2
    go_ret2
    exact ⟨⟨_,rfl⟩, .inl ⟨by rw [←HX.out];exact HG.out,t,rfl,t1,t2,HT.out⟩⟩
   ·have tr:(r != 1)=true:=by simp [h1]
    have HG:Hid (Nat.gcd m.toNat x.toNat≠1):=zy (by rw [←hgr];omega)
    clear hgr h1
    go_wp2
    go_ret2
    exact ⟨⟨_,rfl⟩, .inr ⟨by rw [←HX.out];exact HG.out,rfl⟩⟩
end
end Go.Proofs.YtmalmijdjhkklaaGreat
