/- math/bits: Mul64, Len64, LeadingZeros64. -/
import Derived.Test.YtmalmijdjhkklaaGreatProg
import Derived.WalkKit
import Derived.WalkSpells
import Derived.WalkLawsBesides
import Derived.Deep.QuietTactic
import Derived.BigQuiet
import Derived.Lib.Hide
import Derived.Deep.Draws
import Derived.KernelRfl
import Derived.Lib.Strings
import Derived.Lib.Slices
import Derived.Lib.Small
import Derived.Lib.Walk
import Derived.Lib.BitFns
set_option linter.unusedVariables false
set_option linter.unusedSimpArgs false
set_option maxRecDepth 100000
set_option maxHeartbeats 16000000
namespace Go.Proofs.YtmalmijdjhkklaaGreat
open Go.RowKit
section
theorem zy {p:Prop} (h:p):Go.RowKit.Hid p:=h
theorem zRD {k:IntKind} {a b:Int} (h:a=b):Ending.returned (.int k a)= .returned (.int k b):=by rw [h]
theorem zRE {k l:IntKind} {a b c d:Int} (h:a=b) (h':c=d):Ending.returned (.tuple #[.int k a, .int l c])= .returned (.tuple #[.int k b, .int l d]):=by rw [h,h']
theorem zRC {a b:Bool} (h:a=b):Ending.returned (.bool a)= .returned (.bool b):=by rw [h]
theorem zMc (x y:Int) (w:World) (hx0:0≤x) (hx:x≤18446744073709551615) (hy0:0≤y) (hy:y≤18446744073709551615):
  Calls Tryz.prog 142 #[.int .u64 x, .int .u64 y] w fun e w'=>e= .returned (.tuple #[.int .u64 (x*y/18446744073709551616), .int .u64 (x*y%18446744073709551616)])∧w=w':=by
 have a1:=Lib.hid (and_low32 x hx0 (by omega))
 have a2:=Lib.hid (and_low32 y hy0 (by omega))
 go_enter Tryz.func142,Tryz.ntmps142
 go_wp2
 go_ret2
 refine ⟨zRE ?_ ?_,rfl⟩
 ·rw [and_low32 (IntKind.u64.wrap _) (by rw [IntKind.wrap_u64];omega) (by rw [IntKind.wrap_u64];omega),a1.out,a2.out]
  simp only [IntKind.wrap_u64]
  exact mul64_arith x y hx0 (by omega) hy0 (by omega)
 ·rw [IntKind.wrap_u64]
theorem zKw (b:Int) (h0:0≤b) (h1:b≤255) (h:b.toNat<Lib.len8tab.size):(((Lib.len8tab[b.toNat]'h).toNat:Nat):Int)=(Lib.bitLen b.toNat:Int):=by
 have e:=Lib.len8_of b h0 h1
 unfold Lib.len8 at e
 rw [ByteArray.getElem?_lt' _ _ h] at e
 exact e
theorem zWN {k:Int} {A B n:Nat} (l:A≤8) (s:B=n+A) (hk:k=n:=by rfl) (hn:n≤64:=by omega):wrap64 (k+wrap64 (A:Int))=(B:Int):=by
 unfold wrap64;omega
theorem zWO {A:Nat} (l:A≤8):wrap64 (A:Int)=(A:Int):=by
 unfold wrap64;omega
theorem zKv (x:Int) (w:World) (h0:0≤x) (h1:x≤18446744073709551615):
  Calls Tryz.prog 201 #[.int .u64 x] w fun e w'=>e= .returned (.int .i64 (Lib.bitLen x.toNat))∧w=w':=by
 go_enter Tryz.func201,Tryz.ntmps201
 go_wp2
 all_goals first
  | (exfalso;have hsz:=Lib.len8tab_size;have:= ‹¬(_∧_<((Lib.len8tab.size:Nat):Int))›;omega)
  | (go_ret;refine ⟨zRD ?_,rfl⟩)
 ·generalize hb:x/4294967296/65536/256=b at *
  have s:=Lib.bitLen_shift56 x.toNat (by omega) (by omega)
  have e:x.toNat/72057594037927936=b.toNat:=by omega
  have l:=Lib.bitLen_le8' b (by omega) (by omega)
  rw [zKw b (by omega) (by omega)]
  rw [e] at s
  exact zWN l s
 ·generalize hb:x/4294967296/65536=b at *
  have s:=Lib.bitLen_shift48 x.toNat (by omega) (by omega)
  have e:x.toNat/281474976710656=b.toNat:=by omega
  have l:=Lib.bitLen_le8' b (by omega) (by omega)
  rw [zKw b (by omega) (by omega)]
  rw [e] at s
  exact zWN l s
 ·generalize hb:x/4294967296/256=b at *
  have s:=Lib.bitLen_shift40 x.toNat (by omega) (by omega)
  have e:x.toNat/1099511627776=b.toNat:=by omega
  have l:=Lib.bitLen_le8' b (by omega) (by omega)
  rw [zKw b (by omega) (by omega)]
  rw [e] at s
  exact zWN l s
 ·generalize hb:x/4294967296=b at *
  have s:=Lib.bitLen_shift32 x.toNat (by omega) (by omega)
  have e:x.toNat/4294967296=b.toNat:=by omega
  have l:=Lib.bitLen_le8' b (by omega) (by omega)
  rw [zKw b (by omega) (by omega)]
  rw [e] at s
  exact zWN l s
 ·generalize hb:x/65536/256=b at *
  have s:=Lib.bitLen_shift24 x.toNat (by omega) (by omega)
  have e:x.toNat/16777216=b.toNat:=by omega
  have l:=Lib.bitLen_le8' b (by omega) (by omega)
  rw [zKw b (by omega) (by omega)]
  rw [e] at s
  exact zWN l s
 ·generalize hb:x/65536=b at *
  have s:=Lib.bitLen_shift16 x.toNat (by omega) (by omega)
  have e:x.toNat/65536=b.toNat:=by omega
  have l:=Lib.bitLen_le8' b (by omega) (by omega)
  rw [zKw b (by omega) (by omega)]
  rw [e] at s
  exact zWN l s
 ·generalize hb:x/256=b at *
  have s:=Lib.bitLen_shift8 x.toNat (by omega) (by omega)
  have e:x.toNat/256=b.toNat:=by omega
  have l:=Lib.bitLen_le8' b (by omega) (by omega)
  rw [zKw b (by omega) (by omega)]
  rw [e] at s
  exact zWN l s
 ·have l:=Lib.bitLen_le8' x (by omega) (by omega)
  rw [zKw x (by omega) (by omega)]
  exact (congrArg wrap64 (zWO l)).trans (zWO l)
theorem bitLen_le64 (x:Int) (h0:0≤x) (h1:x≤18446744073709551615):Lib.bitLen x.toNat≤64:=Lib.bitLen_le x.toNat 64 (by omega) (by omega)
theorem zLj (x:Int) (w:World) (h0:0≤x) (h1:x≤18446744073709551615):
  Calls Tryz.prog 218 #[.int .u64 x] w fun e w'=>e= .returned (.int .i64 (64-(Lib.bitLen x.toNat:Int)))∧w=w':=by
 have l:=bitLen_le64 x h0 h1
 go_enter Tryz.func218,Tryz.ntmps218
 go_wp2_with (go_at_call 201;refine (zKv x _ h0 h1).mono ?_;rintro e w' ⟨rfl,rfl⟩)
 go_ret
 refine ⟨zRD ?_,rfl⟩
 exact Eq.refl _
end

section
theorem zQt (a b m:Int) (w:World) (ha0:0≤a) (ha:a≤18446744073709551615) (hb0:0≤b) (hb:b≤18446744073709551615) (hm0:0<m) (hm:m≤18446744073709551615):
  Calls Tryz.prog 40 #[.int .u64 a, .int .u64 b, .int .u64 m] w fun e w'=>e= .returned (.int .u64 ((a+b)%m))∧ ∃n,w'=w.drewN n:=by
 obtain ⟨x,hx⟩: ∃x,a%m=x:=⟨_,rfl⟩
 obtain ⟨y,hy⟩: ∃y,b%m=y:=⟨_,rfl⟩
 have x0:0≤x:=by rw [←hx];exact Int.emod_nonneg _ (by omega)
 have x1:x<m:=by rw [←hx];exact Int.emod_lt_of_pos _ hm0
 have y0:0≤y:=by rw [←hy];exact Int.emod_nonneg _ (by omega)
 have y1:y<m:=by rw [←hy];exact Int.emod_lt_of_pos _ hm0
 have hz:Hid ((a+b)%m=if m≤x+y then x+y-m else x+y):=zy (by
  rw [Int.add_emod,hx,hy]
  split
  ·rw [←Int.sub_emod_right,Int.emod_eq_of_lt (by omega) (by omega)]
  ·rw [Int.emod_eq_of_lt (by omega) (by omega)])
 have tm:(m == 0)=false:=by simp;omega
 by_cases h:m≤x+y
 ·have t:decide (m-y≤x)=true:=by simp;omega
  have hz2:Hid ((a+b)%m=x-(m-y)):=zy (by rw [hz.out,if_pos h];omega)
  go_enter Tryz.func40,Tryz.ntmps40
  go_wp2
  go_ret
  exact ⟨by rw [hz2.out];first|rfl|simp,0,rfl⟩
 ·have t:decide (m-y≤x)=false:=by simp;omega
  have hz2:Hid ((a+b)%m=x+y):=zy (by rw [hz.out,if_neg h])
  go_enter Tryz.func40,Tryz.ntmps40
  go_wp2
  go_ret
  exact ⟨by rw [hz2.out];first|rfl|simp,0,rfl⟩
theorem modl (a b m:Int):a%m*b%m=a*b%m:=by rw [Int.mul_emod,Int.emod_emod,←Int.mul_emod]
theorem zAY (a b k m:Int):(a%m+b%m*k)%m=(a+b*k)%m:=by rw [Int.add_emod,Int.emod_emod,modl,←Int.add_emod]
theorem zAZ (a b k m:Int):(a+b%m*k)%m=(a+b*k)%m:=by rw [Int.add_emod,modl,←Int.add_emod]
theorem zQw (a b m:Int) (w:World) (ha0:0≤a) (ha:a≤18446744073709551615) (hb0:0≤b) (hb:b≤18446744073709551615) (hm0:0<m) (hm:m≤18446744073709551615):
  Calls Tryz.prog 73 #[.int .u64 a, .int .u64 b, .int .u64 m] w fun e w'=>e= .returned (.int .u64 (a*b%m))∧ ∃n,w'=w.drewN n:=by
 have tm:(m == 0)=false:=by simp;omega
 obtain ⟨x,hx⟩: ∃x,a%m=x:=⟨_,rfl⟩
 have x0:0≤x:=by rw [←hx];exact Int.emod_nonneg _ (by omega)
 have x1:x<m:=by rw [←hx];exact Int.emod_lt_of_pos _ hm0
 go_enter Tryz.func73,Tryz.ntmps73
 go_wp2
 go_loopw [0,1,7] (fun A E O wr=> ∃(u y z:Int) (n:Nat),A= .int .u64 u∧E= .int .u64 y∧O= .int .u64 z∧0≤u∧u<m∧0≤y∧y≤18446744073709551615∧0≤z∧z<m∧Hid ((z+u*y)%m=a*b%m)∧wr=w.drewN n) (fun _ E _ _=>(intOf E).toNat)
 case atStart=>exact ⟨x,b,0,0,by first|rfl|rw [hx],rfl,rfl,x0,x1,hb0,hb,by omega,by omega,zy (by rw [Int.zero_add,←hx,modl]),rfl⟩
 case round=>
  clear hx
  obtain ⟨u,y,z,n,rfl,rfl,rfl,u0,u1,y0,y1,z0,z1,hI,rfl⟩:=hrel
  by_cases hy:0<y
  ·have ty:decide (0<y)=true:=by simp [hy]
   obtain ⟨v,hv⟩: ∃v,(u+u)%m=v:=⟨_,rfl⟩
   have v0:0≤v:=by rw [←hv];exact Int.emod_nonneg _ (by omega)
   have v1:v<m:=by rw [←hv];exact Int.emod_lt_of_pos _ hm0
   by_cases ho:y%2=1
   ·have to:(y%2 == 1)=true:=by simp [ho]
    obtain ⟨s,hs⟩: ∃s,(z+u)%m=s:=⟨_,rfl⟩
    have s0:0≤s:=by rw [←hs];exact Int.emod_nonneg _ (by omega)
    have s1:s<m:=by rw [←hs];exact Int.emod_lt_of_pos _ hm0
    have HN:Hid ((s+v*(y/2))%m=a*b%m):=zy (by
     rw [←hI.out,←hs,←hv,zAY]
     have h2:y=2*(y/2)+1:=by omega
     have h3:z+u+(u+u)*(y/2)=z+u*(2*(y/2)+1):=by grind
     rw [h3,←h2])
    have hA:=fun w=>zQt z u m w z0 (by omega) u0 (by omega) hm0 hm
    have hD:=fun w=>zQt u u m w u0 (by omega) u0 (by omega) hm0 hm
    rw [hs] at hA
    rw [hv] at hD
    clear hs hv
    go_wp2_with fail
    refine (hA _).mono ?_
    rintro e w1 ⟨rfl,q,rfl⟩
    go_wp2_with fail
    refine (hD _).mono ?_
    rintro e w1 ⟨rfl,q',rfl⟩
    go_wp2
    go_roundw
    case rel=>exact ⟨v,y/2,s,n+q+q',rfl,by go_num,rfl,v0,v1,by omega,by omega,s0,s1,HN,by simp [Nat.add_assoc]⟩
    case measure=>simp [intOf];omega
   ·have to:(y%2 == 1)=false:=by simp [ho]
    have HN:Hid ((z+v*(y/2))%m=a*b%m):=zy (by
     rw [←hI.out,←hv,zAZ]
     have h2:y=2*(y/2):=by omega
     have h3:z+(u+u)*(y/2)=z+u*(2*(y/2)):=by grind
     rw [h3,←h2])
    have hD:=fun w=>zQt u u m w u0 (by omega) u0 (by omega) hm0 hm
    rw [hv] at hD
    clear hv
    go_wp2_with fail
    refine (hD _).mono ?_
    rintro e w1 ⟨rfl,q',rfl⟩
    go_wp2
    go_roundw
    case rel=>exact ⟨v,y/2,z,n+q',rfl,by go_num,rfl,v0,v1,by omega,by omega,z0,z1,HN,by simp⟩
    case measure=>simp [intOf];omega
  ·obtain rfl:y=0:=by omega
   have HZ:Hid (a*b%m=z):=zy (by rw [←hI.out,Int.mul_zero,Int.add_zero,Int.emod_eq_of_lt z0 z1])
   go_wp2
   go_ret
   exact ⟨by rw [HZ.out];first|rfl|simp,_,rfl⟩
theorem zQz (N:Nat): ∀(e:Nat) (a m:Int) (w:World),e<N→(e:Int)≤18446744073709551615→0≤a→a≤18446744073709551615→0<m→m≤18446744073709551615→
  Calls Tryz.prog 136 #[.int .u64 a, .int .u64 e, .int .u64 m] w fun r w'=>r= .returned (.int .u64 (a^e%m))∧ ∃n,w'=w.drewN n:=by
 induction N with
 | zero=>intro e a m w h;omega
 | succ N ih=>
  intro e a m w hN he ha0 ha hm0 hm
  have tm:(m == 0)=false:=by simp;omega
  by_cases h0:e=0
  ·subst h0
   go_enter Tryz.func136,Tryz.ntmps136
   go_wp2
   go_ret
   exact ⟨by simp,0,rfl⟩
  ·have te:((e:Int) == 0)=false:=by simp;omega
   obtain ⟨k,hk⟩: ∃k:Nat,k=e/2:=⟨_,rfl⟩
   have ek:(e:Int)/2=(k:Int):=by omega
   have IH:=fun w=>ih k a m w (by omega) (by omega) ha0 ha hm0 hm
   obtain ⟨h,hh⟩: ∃h,a^k%m=h:=⟨_,rfl⟩
   have g0:0≤h:=by rw [←hh];exact Int.emod_nonneg _ (by omega)
   have g1:h<m:=by rw [←hh];exact Int.emod_lt_of_pos _ hm0
   rw [hh] at IH
   have hM:=fun w=>zQw h h m w g0 (by omega) g0 (by omega) hm0 hm
   obtain ⟨q,hq⟩: ∃q,h*h%m=q:=⟨_,rfl⟩
   have q0:0≤q:=by rw [←hq];exact Int.emod_nonneg _ (by omega)
   have q1:q<m:=by rw [←hq];exact Int.emod_lt_of_pos _ hm0
   rw [hq] at hM
   have hs:q=a^(k+k)%m:=by rw [←hq,←hh,←Int.mul_emod,←Int.pow_add]
   by_cases ho:(e:Int)%2=1
   ·have to:((e:Int)%2 == 1)=true:=by simp [ho]
    have hM2:=fun w=>zQw q a m w q0 (by omega) ha0 ha hm0 hm
    obtain ⟨z,hz⟩: ∃z,q*a%m=z:=⟨_,rfl⟩
    rw [hz] at hM2
    have HZ:Hid (a^e%m=z):=zy (by rw [←hz,hs,modl,show e=k+k+1 by omega,Int.pow_succ])
    have HM:=zy hM
    have HM2:=zy hM2
    have HH:=zy IH
    clear hM hM2 IH hz hs hq hh ih hk
    go_enter Tryz.func136,Tryz.ntmps136
    go_wp2_with fail
    refine (HH.out _).mono ?_
    rintro r w1 ⟨rfl,n1,rfl⟩
    go_wp2_with fail
    refine (HM.out _).mono ?_
    rintro r w1 ⟨rfl,n2,rfl⟩
    go_wp2_with fail
    refine (HM2.out _).mono ?_
    rintro r w1 ⟨rfl,n3,rfl⟩
    go_wp2
    go_ret
    exact ⟨by rw [HZ.out];first|rfl|simp,_,rfl⟩
   ·have to:((e:Int)%2 == 1)=false:=by simp [ho]
    have HZ:Hid (a^e%m=q):=zy (by rw [hs,show e=k+k by omega])
    have HM:=zy hM
    have HH:=zy IH
    clear hM IH hs hq hh ih hk
    go_enter Tryz.func136,Tryz.ntmps136
    go_wp2_with fail
    refine (HH.out _).mono ?_
    rintro r w1 ⟨rfl,n1,rfl⟩
    go_wp2_with fail
    refine (HM.out _).mono ?_
    rintro r w1 ⟨rfl,n2,rfl⟩
    go_wp2
    go_ret
    exact ⟨by rw [HZ.out];first|rfl|simp,_,rfl⟩
end

section
def rev:Nat→Nat→Nat
 | 0,_=>0
 | k+1,i=>(i%2)*2^k+rev k (i/2)
theorem zRG (k i:Nat):rev k i<2^k:=by
 induction k generalizing i with
 | zero=>simp [rev]
 | succ k ih=>
  have:=ih (i/2)
  rw [rev,Nat.pow_succ]
  rcases (show i%2=0∨i%2=1 by omega) with h|h <;> rw [h] <;> omega
theorem zRF (k b:Nat):rev (k+1) (2*b)=rev k b:=by
 rw [rev,show 2*b%2=0 by omega,show 2*b/2=b by omega];omega
theorem zRH (k b:Nat):rev (k+1) (2*b+1)=2^k+rev k b:=by
 rw [rev,show (2*b+1)%2=1 by omega,show (2*b+1)/2=b by omega];omega
theorem zRJ (k e i:Nat) (he:e<2) (hi:i<2^k):rev (k+1) (e*2^k+i)=2*rev k i+e:=by
 induction k generalizing i with
 | zero=>
  have h0:i=0:=by simpa using hi
  subst h0
  rcases (show e=0∨e=1 by omega) with h|h <;> subst h <;> rfl
 | succ k ih=>
  obtain ⟨c,hc⟩: ∃c,c=e*2^k:=⟨_,rfl⟩
  have h1:e*2^(k+1)=2*c:=by rw [hc,Nat.pow_succ];rcases (show e=0∨e=1 by omega) with h|h <;> subst h <;> omega
  have hi2:i/2<2^k:=by rw [Nat.pow_succ] at hi;omega
  have ih1:=ih (i/2) hi2
  rw [←hc] at ih1
  rw [rev,h1,show (2*c+i)%2=i%2 by omega,show (2*c+i)/2=c+i/2 by omega,ih1,rev,Nat.pow_succ]
  rcases (show i%2=0∨i%2=1 by omega) with h|h <;> rw [h] <;> omega
theorem zRI (k i:Nat) (hi:i<2^k):rev k (rev k i)=i:=by
 induction k generalizing i with
 | zero=>
  have h0:i=0:=by simpa using hi
  subst h0;rfl
 | succ k ih=>
  have hi2:i/2<2^k:=by rw [Nat.pow_succ] at hi;omega
  show rev (k+1) (i%2*2^k+rev k (i/2))=i
  rw [zRJ k (i%2) (rev k (i/2)) (Nat.mod_lt _ (by omega)) (zRG _ _),ih _ hi2];omega
def sw (m s x:Int):Int:=bits .or .u64 (bits .and .u64 (x/s) m) (IntKind.u64.wrap (bits .and .u64 x m*s))
def rb64 (x:Int):Int:=bits .or .u64 (sw 281470681808895 65536 (sw 71777214294589695 256 x)/4294967296) (IntKind.u64.wrap (sw 281470681808895 65536 (sw 71777214294589695 256 x)*4294967296))
def r64 (x:Int):Int:=rb64 (sw 1085102592571150095 16 (sw 3689348814741910323 4 (sw 6148914691236517205 2 x)))
theorem zVK (x:Int):0≤IntKind.u64.wrap x∧IntKind.u64.wrap x≤18446744073709551615:=by rw [IntKind.wrap_u64];omega
theorem zU0 (m s x:Int):0≤sw m s x∧sw m s x≤18446744073709551615:=zVK _
theorem zRp (x:Int):0≤rb64 x∧rb64 x≤18446744073709551615:=zVK _
theorem zRo (x:Int) (w:World) (h0:0≤x) (h1:x≤18446744073709551615):
  Calls Tryz.prog 219 #[.int .u64 x] w fun e w'=>e= .returned (.int .u64 (rb64 x))∧w=w':=by
 go_enter Tryz.func219,Tryz.ntmps219
 go_wp2
 go_ret
 exact ⟨zRD rfl,rfl⟩
theorem zQ7 (x:Int) (w:World) (h0:0≤x) (h1:x≤18446744073709551615):
  Calls Tryz.prog 203 #[.int .u64 x] w fun e w'=>e= .returned (.int .u64 (r64 x))∧w=w':=by
 have hR:=zy (zRo (sw 1085102592571150095 16 (sw 3689348814741910323 4 (sw 6148914691236517205 2 x))) w (zU0 _ _ _).1 (zU0 _ _ _).2)
 go_enter Tryz.func203,Tryz.ntmps203
 go_wp2_with fail
 refine hR.out.mono ?_
 rintro e w1 ⟨rfl,rfl⟩
 have HR:Hid (rb64 (sw 1085102592571150095 16 (sw 3689348814741910323 4 (sw 6148914691236517205 2 x)))=r64 x):=zy rfl
 obtain ⟨z,hz⟩: ∃z,z=rb64 (sw 1085102592571150095 16 (sw 3689348814741910323 4 (sw 6148914691236517205 2 x))):=⟨_,rfl⟩
 rw [←hz] at HR ⊢
 clear hz hR
 go_wp2
 go_ret
 exact ⟨zRD HR.out,rfl⟩
theorem len_any (x:Int) (w:World) (h0:0≤x) (h1:x≤18446744073709551615):
  Calls Tryz.prog 167 #[.int .u64 x] w fun e w'=>e= .returned (.int .i64 (Lib.bitLen x.toNat))∧w=w':=by
 have hL:=zy (zKv x w h0 h1)
 obtain ⟨z,hz⟩: ∃z,z=Lib.bitLen x.toNat:=⟨_,rfl⟩
 rw [←hz] at hL ⊢
 clear hz
 go_enter Tryz.func167,Tryz.ntmps167
 go_wp2_with fail
 refine hL.out.mono ?_
 rintro e w1 ⟨rfl,rfl⟩
 go_wp2
 go_ret
 exact ⟨rfl,rfl⟩
theorem zQ9:((List.range 13).all fun k=>k == 0 || (List.range (2^k)).all fun i=>r64 (i:Int)/2^(64-k) == (rev k i:Int))=true:=by decide +kernel
theorem zQ8 (k i:Nat) (h0:1≤k) (h1:k≤12) (hi:i<2^k):r64 (i:Int)/2^(64-k)=(rev k i:Int):=by
 have h:=List.all_eq_true.1 zQ9 k (List.mem_range.2 (by omega))
 simp only [Bool.or_eq_true,beq_iff_eq] at h
 rcases h with h|h
 ·omega
 ·exact beq_iff_eq.1 (List.all_eq_true.1 h i (List.mem_range.2 hi))
theorem zO1 {k:Nat} (h:k≤12):2^k≤4096:=Nat.le_trans (Nat.pow_le_pow_right (by omega) h) (by decide)
theorem zCz (i k:Nat) (w:World) (h1:k≤12) (hi:i<2^k):
  Calls Tryz.prog 170 #[.int .i64 i, .int .i64 k] w fun e w'=>e= .returned (.int .i64 (rev k i))∧w=w':=by
 have hi2:i<4096:=Nat.lt_of_lt_of_le hi (zO1 h1)
 rcases Nat.eq_zero_or_pos k with h0|h0
 ·subst h0
  have t1:decide (((0:Nat):Int)<1)=true:=by decide
  go_enter Tryz.func170,Tryz.ntmps170
  go_wp2
  go_ret
  exact ⟨rfl,rfl⟩
 ·have hR:=zy (zQ7 i w (by omega) (by omega))
  have hr:0≤r64 i∧r64 i≤18446744073709551615:=zRp _
  have hv:Hid (r64 i/2^(64-k)=(rev k i:Int)):=zy (zQ8 k i h0 h1 hi)
  have hl:rev k i<4096:=Nat.lt_of_lt_of_le (zRG k i) (zO1 h1)
  obtain ⟨z,hz⟩: ∃z,z=r64 i:=⟨_,rfl⟩
  rw [←hz] at hR hr hv
  clear hz hi
  obtain ⟨r0,r1⟩:=hr
  have t1:decide ((k:Int)<1)=false:=by simp;omega
  have t2:decide ((62:Int)<k)=false:=by simp;omega
  go_enter Tryz.func170,Tryz.ntmps170
  go_wp2_with fail
  refine hR.out.mono ?_
  rintro e w1 ⟨rfl,rfl⟩
  go_wp2
  go_ret
  refine ⟨zRD ?_,rfl⟩
  show wrap64 (z/2^(64-k))=_
  rw [hv.out]
  unfold wrap64;omega
end
end Go.Proofs.YtmalmijdjhkklaaGreat
