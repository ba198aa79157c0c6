/- plan: what plans cost that are not of parts; and the document's. -/
import Derived.Test.YtmalmijdjhkklaaGreatW83
import Derived.Test.YtmalmijdjhkklaaGreatW1
import Derived.IntWalk
set_option linter.unusedVariables false
set_option linter.unusedSimpArgs false
set_option maxRecDepth 100000
set_option maxHeartbeats 16000000
namespace Go.Proofs.YtmalmijdjhkklaaGreat
open Go.RowKit
theorem mulb {a b A B:Int} (a0:0≤a) (a1:a≤A) (b0:0≤b) (b1:b≤B):0≤a*b∧a*b≤A*B:=
 ⟨Int.mul_nonneg a0 b0,Int.mul_le_mul a1 b1 b0 (by omega)⟩
theorem zC6:((List.range 4097).all fun n=>n == 0 || (Lib.bitLen n == Nat.log2 n+1 && decide (Nat.log2 n≤12)))=true:=by decide +kernel
theorem zC5 {n:Nat} (h:1≤n∧n≤4096):Lib.bitLen n=Nat.log2 n+1∧Nat.log2 n≤12:=by
 have h1:=List.all_eq_true.1 zC6 n (List.mem_range.2 (by omega))
 simp only [Bool.or_eq_true,Bool.and_eq_true,beq_iff_eq,decide_eq_true_eq] at h1
 omega
theorem zK8 {n:Int} (h:1≤n∧n≤4096):0≤lg n∧lg n≤12:=by
 unfold lg
 have:=(zC5 (n:=n.toNat) (by omega)).2
 omega
theorem zK7 {m:Nat} (h:2≤m):Nat.log2 m=Nat.log2 (m/2)+1:=by
 rw [Nat.log2_def,if_pos h]
theorem zQO: ∀(n:Nat) (L:List Nat),rad n=some L→ ∀x ∈ L,x≤8:=fun n=>by
 induction n using Nat.strongRecOn with
 | ind n ih=>
  intro L h x hx
  rw [rad] at h
  split at h
  ·cases h;cases hx
  ·split at h
   ·cases h
   ·rename_i h1 h2
    cases hr:rad (n/ldiv n) with
    | none=>rw [hr] at h;cases h
    | some M=>
     rw [hr] at h
     injection h with h
     subst h
     rcases List.mem_cons.1 hx with rfl|hx
     ·exact (zKt n).2
     ·exact ih _ (Nat.div_lt_self (by omega) (by have:=zKt n;omega)) M hr x hx
theorem zH6 (L:List Nat) (a:Nat):L.foldl (· + ·) a=a+L.foldl (· + ·) 0:=by
 induction L generalizing a with
 | nil=>simp
 | cons y r ih=>rw [List.foldl_cons,List.foldl_cons,ih (a+y),ih (0+y)];omega
theorem zUv {L:List Nat} {k:Nat} (h:k<L.length):sumN (L.take (k+1))=sumN (L.take k)+L.getD k 0:=by
 unfold sumN
 rw [List.take_succ_eq_append_getElem h,List.foldl_append,List.getD_eq_getElem?_getD,List.getElem?_eq_getElem h]
 rfl
theorem zUu {L:List Nat} (h: ∀x ∈ L,x≤8):sumN L≤8*L.length:=by
 unfold sumN
 induction L with
 | nil=>simp
 | cons y r ih=>
  rw [List.foldl_cons,zH6,List.length_cons]
  have h1:=ih (fun x hx=>h x (List.mem_cons_of_mem _ hx))
  have h2:=h y List.mem_cons_self
  omega
theorem zDn (L:List Nat) (k:Nat):(zDm L).getD k 0=((L.getD k 0:Nat):Int):=by
 simp only [zDm,List.getD_eq_getElem?_getD,List.getElem?_map]
 cases L[k]? <;> rfl
theorem zU4 {L:List Nat} (h: ∀x ∈ L,x≤8) (k:Nat): ∀x ∈ L.take k,x≤8:=fun x hx=>h x (List.mem_of_mem_take hx)
theorem zIP (n:Int) (h:1≤n∧n≤4096) (w:World):
  Calls Tryz.prog 166 #[.int .i64 n] w fun e w'=>e= .returned (.int .i64 (halI n))∧w=w':=by
 have hb:=zC5 (n:=n.toNat) (by omega)
 have hl:=zK8 h
 have HL:Hid (∀W,Calls Tryz.prog 167 #[.int .u64 n] W fun e w'=>e= .returned (.int .i64 (lg n+1))∧W=w'):=zy (fun W=>by
  have h1:=len_any n W (by omega) (by omega)
  rw [hb.1] at h1
  have e:((Nat.log2 n.toNat+1:Nat):Int)=lg n+1:=by unfold lg;omega
  rw [e] at h1
  exact h1)
 have HH:Hid (halI n=n*3*lg n+n):=zy rfl
 obtain ⟨l,hle⟩: ∃l,l=lg n:=⟨_,rfl⟩
 rw [←hle] at HL HH hl
 clear hb hle
 have tw:IntKind.u64.wrap n=n:=by rw [IntKind.wrap_u64];omega
 obtain ⟨x,hx⟩: ∃x:Int,x=n*3*l:=⟨_,rfl⟩
 have bdx:0≤x∧x≤1000000:=by rw [hx];exact by have:=mulb (by omega:(0:Int)≤n*3) (by omega:n*3≤12288) (by omega:(0:Int)≤l) (by omega:l≤12);omega
 have ex:n*3*l=x:=hx.symm
 have wx:IntKind.i64.wrap x=x:=IntWalk.i64_in _ (by omega)
 have Hx:=zy hx
 clear hx
 go_enter Tryz.func166,Tryz.ntmps166
 go_wp2_with fail
 refine (HL.out _).mono ?_
 rintro e w1 ⟨rfl,rfl⟩
 go_wp2
 go_ret
 exact ⟨by rw [HH.out,←Hx.out];rfl,rfl⟩
theorem zPP (n:Int) (h:1≤n∧n≤4096) (w:World):
  Calls Tryz.prog 58 #[.int .i64 n] w fun e w'=>e= .returned (.int .i64 (lg n))∧w=w':=by
 obtain ⟨m,rfl⟩:=Int.eq_ofNat_of_zero_le (show 0≤n by omega)
 have hb:=(zC5 (n:=m) (by omega)).2
 obtain ⟨l,hle⟩: ∃l,l=Nat.log2 m:=⟨_,rfl⟩
 have HL:Hid (lg (m:Int)=(l:Int)):=zy (by unfold lg;rw [hle];rfl)
 have HS:Hid (Nat.log2 m=l):=zy hle.symm
 rw [←hle] at hb
 clear hle
 go_enter Tryz.func58,Tryz.ntmps58
 go_wp2
 go_loop [0,3] (fun X K=> ∃m k:Nat,X= .int .i64 m∧K= .int .i64 k∧1≤m∧m≤4096∧k≤l∧Hid (Nat.log2 m+k=l)) (fun X _=>(intOf X).toNat)
 case atStart=>exact ⟨m,0,rfl,rfl,by omega,by omega,by omega,zy (by rw [HS.out];rfl)⟩
 case round=>
  clear HS
  obtain ⟨m,k,rfl,rfl,hm1,hm2,hk,H⟩:=hrel
  by_cases h1:1<m
  ·have t:decide (1<m)=true:=decide_eq_true h1
   have q1:(m:Int)/2=((m/2:Nat):Int):=by omega
   have q2:(m:Int).tdiv 2=((m/2:Nat):Int):=by rw [Int.tdiv_eq_ediv_of_nonneg (by omega)];exact q1
   have H2:Hid (Nat.log2 (m/2)+(k+1)=l∧k+1≤l):=zy (by have:=H.out;rw [zK7 (by omega)] at this;omega)
   have hk2:=H2.out.2
   have hq:1≤m/2∧m/2<m:=by omega
   obtain ⟨q,hqe⟩: ∃q,q=m/2:=⟨_,rfl⟩
   rw [←hqe] at q1 q2 H2 hq
   clear hqe H
   go_wp2
   go_round
   case rel=>exact ⟨q,k+1,rfl,by go_num,by omega,by omega,hk2,zy H2.out.1⟩
   case measure=>simp [intOf];omega
  ·have t:decide (1<m)=false:=decide_eq_false h1
   have H2:Hid (k=l):=zy (by
    have:=H.out
    rw [show m=1 by omega] at this
    have h0:Nat.log2 1=0:=by decide
    omega)
   clear H
   go_wp2
   go_ret
   exact ⟨by rw [HL.out,←H2.out];rfl,rfl⟩
theorem zDe {K N A:Int} (h:canB K N A=true):1≤N∧N≤1024:=by
 unfold canB at h
 rw [Bool.and_eq_true,decide_eq_true_eq] at h
 exact h.1
theorem zDd {K N A:Int} (h:canB K N A=true):0≤K∧K≤6:=by
 unfold canB at h
 rw [Bool.and_eq_true,decide_eq_true_eq] at h
 obtain ⟨hN,h⟩:=h
 split at h
 ·omega
 ·split at h
  ·omega
  ·split at h
   ·omega
   ·split at h
    ·omega
    ·split at h
     ·omega
     ·split at h
      ·omega
      ·cases h
theorem zDi {N A:Int} (h:canB 3 N A=true):zQD N=true:=by
 rw [zDg (zDe h)] at h
 simp only [show ((3:Int)=0)=False by decide,show ((3:Int)=1∨(3:Int)=2)=False by decide,if_false,if_true,Bool.and_eq_true] at h
 exact h.2
theorem zRv (mv:Value) (K N A:Int) (k0: -9223372036854775808≤K) (k1:K≤9223372036854775807) (n0: -9223372036854775808≤N) (n1:N≤9223372036854775807) (a0: -9223372036854775808≤A) (a1:A≤9223372036854775807) (hc:canB K N A=true) (hK4:K≠4) (w:World):
  Calls Tryz.prog 108 #[mv, .agg #[.int .i64 K, .int .i64 N, .int .i64 A]] w fun e w'=>e= .returned (.int .i64 (zEK K N A))∧Below w.heap.size w w':=by
 have hN:=zDe hc
 have hKr:=zDd hc
 by_cases h0:K=0
 ·subst h0
  obtain ⟨x,hx⟩: ∃x:Int,x=N*N:=⟨_,rfl⟩
  have bdx:0≤x∧x≤1048576:=by rw [hx];exact by have:=mulb (by omega:(0:Int)≤N) (by omega:N≤1024) (by omega:(0:Int)≤N) (by omega:N≤1024);omega
  have ex:N*N=x:=hx.symm
  have wx:IntKind.i64.wrap x=x:=IntWalk.i64_in _ (by omega)
  have Hx:=zy hx
  clear hx
  have HR:Hid (zEK 0 N A=x):=zy (by rw [Hx.out];rfl)
  have R1:=zy (lay1 w 36 #[.int .i64 0, .int .i64 N, .int .i64 A])
  obtain ⟨W1,hW1⟩: ∃W,W=w.alloc (.cells #[.int .i64 0, .int .i64 N, .int .i64 A] 36):=⟨_,rfl⟩
  rw [←hW1] at R1
  have d0:=R1.out.1.cell (i:=0) (v:= .int .i64 0) rfl
  have d1:=R1.out.1.cell (i:=1) (v:= .int .i64 N) rfl
  have d2:=R1.out.1.cell (i:=2) (v:= .int .i64 A) rfl
  rw [hW1] at d0 d1 d2
  have HW1:=zy hW1
  clear hW1
  go_enter Tryz.func108,Tryz.ntmps108
  go_wp2
  go_ret
  exact ⟨by rw [HR.out];rfl,(by have:=R1.out.2;rw [HW1.out] at this;exact this)⟩
 by_cases h1:K=1
 ·subst h1
  have HF:=zy (fun W=>zIP N (by omega) W)
  have HR:Hid (zEK 1 N A=halI N):=zy rfl
  obtain ⟨y,hy⟩: ∃y,y=halI N:=⟨_,rfl⟩
  rw [←hy] at HF HR
  clear hy
  have R1:=zy (lay1 w 36 #[.int .i64 1, .int .i64 N, .int .i64 A])
  obtain ⟨W1,hW1⟩: ∃W,W=w.alloc (.cells #[.int .i64 1, .int .i64 N, .int .i64 A] 36):=⟨_,rfl⟩
  rw [←hW1] at R1
  have d0:=R1.out.1.cell (i:=0) (v:= .int .i64 1) rfl
  have d1:=R1.out.1.cell (i:=1) (v:= .int .i64 N) rfl
  have d2:=R1.out.1.cell (i:=2) (v:= .int .i64 A) rfl
  rw [hW1] at d0 d1 d2
  have HW1:=zy hW1
  clear hW1
  go_enter Tryz.func108,Tryz.ntmps108
  go_wp2_with fail
  refine (HF.out _).mono ?_
  rintro e w2 ⟨rfl,rfl⟩
  go_wp2
  go_ret
  exact ⟨by rw [HR.out];rfl,(by have:=R1.out.2;rw [HW1.out] at this;exact this)⟩
 by_cases h2:K=2
 ·subst h2
  have hl:=zK8 (n:=N) (by omega)
  have HLg:Hid (∀W,Calls Tryz.prog 167 #[.int .u64 N] W fun e w2=>e= .returned (.int .i64 (lg N+1))∧ ∃n,w2=W.drewN n):=zy (fun W=>by
   have h1:=len_any N W (by omega) (by omega)
   rw [(zC5 (n:=N.toNat) (by omega)).1,show ((Nat.log2 N.toNat+1:Nat):Int)=lg N+1 by unfold lg;omega] at h1
   exact h1.mono fun e w2 h=>⟨h.1,0,h.2.symm⟩)
  have HR0:Hid (zEK 2 N A=N*2*lg N+2*N):=zy rfl
  obtain ⟨l,hle⟩: ∃l,l=lg N:=⟨_,rfl⟩
  rw [←hle] at HLg HR0 hl
  clear hle
  obtain ⟨m,hm⟩: ∃m:Int,m=l+1:=⟨_,rfl⟩
  have bdm:0≤m∧m≤13:=by rw [hm];exact (by omega)
  have em:l+1=m:=hm.symm
  have wm:IntKind.i64.wrap m=m:=IntWalk.i64_in _ (by omega)
  have Hm:=zy hm
  clear hm
  have elm:l+1-1=l:=by omega
  have eml:m-1=l:=by omega
  have wl:IntKind.i64.wrap l=l:=IntWalk.i64_in _ (by omega)
  have tw:IntKind.u64.wrap N=N:=by rw [IntKind.wrap_u64];omega
  obtain ⟨x,hx⟩: ∃x:Int,x=N*2:=⟨_,rfl⟩
  have bdx:0≤x∧x≤2048:=by rw [hx];exact (by omega)
  have ex:N*2=x:=hx.symm
  have wx:IntKind.i64.wrap x=x:=IntWalk.i64_in _ (by omega)
  have Hx:=zy hx
  clear hx
  obtain ⟨y,hy⟩: ∃y:Int,y=x*l:=⟨_,rfl⟩
  have bdy:0≤y∧y≤24576:=by rw [hy];exact by have:=mulb (by omega:(0:Int)≤x) (by omega:x≤2048) (by omega:(0:Int)≤l) (by omega:l≤12);omega
  have ey:x*l=y:=hy.symm
  have wy:IntKind.i64.wrap y=y:=IntWalk.i64_in _ (by omega)
  have Hy:=zy hy
  clear hy
  obtain ⟨z,hz⟩: ∃z:Int,z=2*N:=⟨_,rfl⟩
  have bdz:0≤z∧z≤2048:=by rw [hz];exact (by omega)
  have ez:2*N=z:=hz.symm
  have wz:IntKind.i64.wrap z=z:=IntWalk.i64_in _ (by omega)
  have Hz:=zy hz
  clear hz
  obtain ⟨u,hu⟩: ∃u:Int,u=y+z:=⟨_,rfl⟩
  have bdu:0≤u∧u≤30000:=by rw [hu];exact (by omega)
  have eu:y+z=u:=hu.symm
  have wu:IntKind.i64.wrap u=u:=IntWalk.i64_in _ (by omega)
  have Hu:=zy hu
  clear hu
  have HR:Hid (zEK 2 N A=u):=zy (by rw [HR0.out,Hu.out,Hy.out,Hz.out,Hx.out])
  rw [em] at HLg
  have R1:=zy (lay1 w 36 #[.int .i64 2, .int .i64 N, .int .i64 A])
  obtain ⟨W1,hW1⟩: ∃W,W=w.alloc (.cells #[.int .i64 2, .int .i64 N, .int .i64 A] 36):=⟨_,rfl⟩
  rw [←hW1] at R1
  have d0:=R1.out.1.cell (i:=0) (v:= .int .i64 2) rfl
  have d1:=R1.out.1.cell (i:=1) (v:= .int .i64 N) rfl
  have d2:=R1.out.1.cell (i:=2) (v:= .int .i64 A) rfl
  rw [hW1] at d0 d1 d2
  have HW1:=zy hW1
  clear hW1
  go_enter Tryz.func108,Tryz.ntmps108
  go_wp2_with fail
  go_quiet ((go_at_call 167;exact Calls.quiet_of (HLg.out _)))
  go_wp2
  go_ret
  exact ⟨by rw [HR.out];rfl,below_drewN (by have:=R1.out.2;rw [HW1.out] at this;exact this) _⟩
 by_cases h3:K=3
 ·subst h3
  have hrk:=zDi hc
  have HF:=zy (fun W=>zLV N n0 n1 W)
  have R1:=zy (lay1 w 36 #[.int .i64 3, .int .i64 N, .int .i64 A])
  obtain ⟨W1,hW1⟩: ∃W,W=w.alloc (.cells #[.int .i64 3, .int .i64 N, .int .i64 A] 36):=⟨_,rfl⟩
  rw [←hW1] at R1
  have d0:=R1.out.1.cell (i:=0) (v:= .int .i64 3) rfl
  have d1:=R1.out.1.cell (i:=1) (v:= .int .i64 N) rfl
  have d2:=R1.out.1.cell (i:=2) (v:= .int .i64 A) rfl
  rw [hW1] at d0 d1 d2
  have HW1:=zy hW1
  clear hW1
  go_enter Tryz.func108,Tryz.ntmps108
  go_wp2_with fail
  rw [←HW1.out]
  refine (HF.out _).mono ?_
  rintro e w3 ⟨⟨L,V,_,hL,hLl,rfl,hown⟩|⟨ho,rfl⟩,hB3⟩
  case inr=>rw [hrk] at ho;cases ho
  have R3:=zy (And.intro (R1.out.1.keep hB3) (R1.out.2.trans (hB3.mono R1.out.2.size)))
  have e1:=R3.out.1.cell (i:=1) (v:= .int .i64 N) rfl
  obtain ⟨xL,cL,hVe,hRd⟩:=RdI.of_own (xs:=zDm L) (by rw [zDo];exact hown)
  rw [zDo] at hVe
  subst hVe
  have HRd:=zy hRd
  have h8:=zQO _ _ hL
  have HS:Hid (radS N=((sumN L:Nat):Int)):=zy (by unfold radS;rw [hL];rfl)
  have hsl:=zUu h8
  have HSn:=zy (fun k (hk:k<L.length)=>zUv hk)
  have HSl:=zy (fun k=>zUu (zU4 h8 k))
  have HGt:=zy (zDn L)
  have hcl:=zDo L
  have HR0:Hid (zEK 3 N A=2*N*radS N+N):=zy rfl
  clear hB3 hown hRd h8 hL d0 d1 d2
  go_wp2
  go_loop [5,50] (fun S I=> ∃k s:Nat,S= .int .i64 s∧I= .int .i64 k∧k≤L.length∧Hid (s=sumN (L.take k))) (fun _ I=>L.length-(intOf I).toNat)
  case atStart=>exact ⟨0,0,rfl,rfl,by omega,zy rfl⟩
  case round=>
   obtain ⟨k,s,rfl,rfl,hk,hs⟩:=hrel
   have hs80:s≤80:=by
    have h1:=HSl.out k
    have h2:=List.length_take_le k L
    have h3:=hs.out
    omega
   by_cases hlt:k<L.length
   ·obtain ⟨b,o,hbe,hb,hcl2⟩:=HRd.out (by omega)
    have c0:=hcl2 k (by omega)
    rw [HGt.out] at c0
    have hsn:Hid (s+L.getD k 0=sumN (L.take (k+1))):=zy (by rw [HSn.out k hlt,hs.out])
    have hsb:s+L.getD k 0≤80:=by
     have h1:=HSl.out (k+1)
     have h2:=List.length_take_le (k+1) L
     have h3:=hsn.out
     omega
    obtain ⟨x,hx⟩: ∃x,x=L.getD k 0:=⟨_,rfl⟩
    rw [←hx] at c0 hsn hsb
    subst hbe
    clear hx hcl2 hs
    go_wp2
    go_round
    case rel=>exact ⟨k+1,s+x,by go_num,by go_num,by omega,hsn⟩
    case measure=>simp [intOf];omega
   ·obtain rfl:k=L.length:=by omega
    have HR1:Hid (zEK 3 N A=2*N*(s:Int)+N):=zy (by rw [HR0.out,HS.out,hs.out,List.take_length])
    obtain ⟨x,hx⟩: ∃x:Int,x=2*N:=⟨_,rfl⟩
    have bdx:0≤x∧x≤2048:=by rw [hx];exact (by omega)
    have ex:2*N=x:=hx.symm
    have wx:IntKind.i64.wrap x=x:=IntWalk.i64_in _ (by omega)
    have Hx:=zy hx
    clear hx
    obtain ⟨y,hy⟩: ∃y:Int,y=x*(s:Int):=⟨_,rfl⟩
    have bdy:0≤y∧y≤163840:=by rw [hy];exact by have:=mulb (by omega:(0:Int)≤x) (by omega:x≤2048) (by omega:(0:Int)≤(s:Int)) (by omega:(s:Int)≤80);omega
    have ey:x*(s:Int)=y:=hy.symm
    have wy:IntKind.i64.wrap y=y:=IntWalk.i64_in _ (by omega)
    have Hy:=zy hy
    clear hy
    obtain ⟨u,hu⟩: ∃u:Int,u=y+N:=⟨_,rfl⟩
    have bdu:0≤u∧u≤200000:=by rw [hu];exact (by omega)
    have eu:y+N=u:=hu.symm
    have wu:IntKind.i64.wrap u=u:=IntWalk.i64_in _ (by omega)
    have Hu:=zy hu
    clear hu
    have HR:Hid (zEK 3 N A=u):=zy (by rw [HR1.out,Hu.out,Hy.out,Hx.out])
    clear hs hlt hk
    go_wp2
    go_ret
    exact ⟨by rw [HR.out];rfl,R3.out.2⟩
 by_cases h5:K=5
 ·subst h5
  have hA:=zDh hc (by omega)
  have HR0:Hid (zEK 5 N A=3*halI A+4*N):=zy rfl
  have hl:=zK8 (n:=A) (by omega)
  have hh0:=mulb (by omega:(0:Int)≤A*3) (by omega:A*3≤12288) hl.1 hl.2
  have hh:0≤halI A∧halI A≤200000:=by unfold halI;omega
  have HF:=zy (fun W=>(zIP A (by omega) W).mono (fun e w2 (h:e= .returned (.int .i64 (halI A))∧W=w2)=>(⟨h.1,0,h.2.symm⟩:e= .returned (.int .i64 (halI A))∧ ∃n,w2=W.drewN n)))
  obtain ⟨y,hy⟩: ∃y,y=halI A:=⟨_,rfl⟩
  rw [←hy] at HF HR0 hh
  clear hy hh0 hl
  obtain ⟨x,hx⟩: ∃x:Int,x=3*y:=⟨_,rfl⟩
  have bdx:0≤x∧x≤600000:=by rw [hx];exact (by omega)
  have ex:3*y=x:=hx.symm
  have wx:IntKind.i64.wrap x=x:=IntWalk.i64_in _ (by omega)
  have Hx:=zy hx
  clear hx
  obtain ⟨z,hz⟩: ∃z:Int,z=4*N:=⟨_,rfl⟩
  have bdz:0≤z∧z≤6144:=by rw [hz];exact (by omega)
  have ez:4*N=z:=hz.symm
  have wz:IntKind.i64.wrap z=z:=IntWalk.i64_in _ (by omega)
  have Hz:=zy hz
  clear hz
  obtain ⟨u,hu⟩: ∃u:Int,u=x+z:=⟨_,rfl⟩
  have bdu:0≤u∧u≤700000:=by rw [hu];exact (by omega)
  have eu:x+z=u:=hu.symm
  have wu:IntKind.i64.wrap u=u:=IntWalk.i64_in _ (by omega)
  have Hu:=zy hu
  clear hu
  have HR:Hid (zEK 5 N A=u):=zy (by rw [HR0.out,Hu.out,Hx.out,Hz.out])
  have R1:=zy (lay1 w 36 #[.int .i64 5, .int .i64 N, .int .i64 A])
  obtain ⟨W1,hW1⟩: ∃W,W=w.alloc (.cells #[.int .i64 5, .int .i64 N, .int .i64 A] 36):=⟨_,rfl⟩
  rw [←hW1] at R1
  have d0:=R1.out.1.cell (i:=0) (v:= .int .i64 5) rfl
  have d1:=R1.out.1.cell (i:=1) (v:= .int .i64 N) rfl
  have d2:=R1.out.1.cell (i:=2) (v:= .int .i64 A) rfl
  rw [hW1] at d0 d1 d2
  have HW1:=zy hW1
  clear hW1
  go_enter Tryz.func108,Tryz.ntmps108
  go_wp2_with fail
  go_quiet ((go_at_call 166;exact Calls.quiet_of (HF.out _)))
  go_wp2
  go_ret
  exact ⟨by rw [HR.out];rfl,below_drewN (by have:=R1.out.2;rw [HW1.out] at this;exact this) _⟩
 by_cases h6:K=6
 ·subst h6
  have hA:=zDh hc (by omega)
  have HR0:Hid (zEK 6 N A=3*halI A+6*N):=zy rfl
  have hl:=zK8 (n:=A) (by omega)
  have hh0:=mulb (by omega:(0:Int)≤A*3) (by omega:A*3≤12288) hl.1 hl.2
  have hh:0≤halI A∧halI A≤200000:=by unfold halI;omega
  have HF:=zy (fun W=>(zIP A (by omega) W).mono (fun e w2 (h:e= .returned (.int .i64 (halI A))∧W=w2)=>(⟨h.1,0,h.2.symm⟩:e= .returned (.int .i64 (halI A))∧ ∃n,w2=W.drewN n)))
  obtain ⟨y,hy⟩: ∃y,y=halI A:=⟨_,rfl⟩
  rw [←hy] at HF HR0 hh
  clear hy hh0 hl
  obtain ⟨x,hx⟩: ∃x:Int,x=3*y:=⟨_,rfl⟩
  have bdx:0≤x∧x≤600000:=by rw [hx];exact (by omega)
  have ex:3*y=x:=hx.symm
  have wx:IntKind.i64.wrap x=x:=IntWalk.i64_in _ (by omega)
  have Hx:=zy hx
  clear hx
  obtain ⟨z,hz⟩: ∃z:Int,z=6*N:=⟨_,rfl⟩
  have bdz:0≤z∧z≤6144:=by rw [hz];exact (by omega)
  have ez:6*N=z:=hz.symm
  have wz:IntKind.i64.wrap z=z:=IntWalk.i64_in _ (by omega)
  have Hz:=zy hz
  clear hz
  obtain ⟨u,hu⟩: ∃u:Int,u=x+z:=⟨_,rfl⟩
  have bdu:0≤u∧u≤700000:=by rw [hu];exact (by omega)
  have eu:x+z=u:=hu.symm
  have wu:IntKind.i64.wrap u=u:=IntWalk.i64_in _ (by omega)
  have Hu:=zy hu
  clear hu
  have HR:Hid (zEK 6 N A=u):=zy (by rw [HR0.out,Hu.out,Hx.out,Hz.out])
  have R1:=zy (lay1 w 36 #[.int .i64 6, .int .i64 N, .int .i64 A])
  obtain ⟨W1,hW1⟩: ∃W,W=w.alloc (.cells #[.int .i64 6, .int .i64 N, .int .i64 A] 36):=⟨_,rfl⟩
  rw [←hW1] at R1
  have d0:=R1.out.1.cell (i:=0) (v:= .int .i64 6) rfl
  have d1:=R1.out.1.cell (i:=1) (v:= .int .i64 N) rfl
  have d2:=R1.out.1.cell (i:=2) (v:= .int .i64 A) rfl
  rw [hW1] at d0 d1 d2
  have HW1:=zy hW1
  clear hW1
  go_enter Tryz.func108,Tryz.ntmps108
  go_wp2_with fail
  go_quiet ((go_at_call 166;exact Calls.quiet_of (HF.out _)))
  go_wp2
  go_ret
  exact ⟨by rw [HR.out];rfl,below_drewN (by have:=R1.out.2;rw [HW1.out] at this;exact this) _⟩
 omega
theorem zPL (K N A:Int) (k0: -9223372036854775808≤K) (k1:K≤9223372036854775807) (n0: -9223372036854775808≤N) (n1:N≤9223372036854775807) (a0: -9223372036854775808≤A) (a1:A≤9223372036854775807) (hc:canB K N A=true) (hK4:K≠4) (w:World):
  Calls Tryz.prog 19 #[.agg #[.int .i64 K, .int .i64 N, .int .i64 A]] w fun e w'=>e= .returned (.int .i64 (zEK K N A))∧Below w.heap.size w w':=by
 have hN:=zDe hc
 have hKr:=zDd hc
 have HCan:=zy (fun W=>zPJ K N A k0 k1 n0 n1 a0 a1 W)
 rw [hc] at HCan
 by_cases h0:K=0
 ·subst h0
  obtain ⟨x,hx⟩: ∃x:Int,x=N*N:=⟨_,rfl⟩
  have bdx:0≤x∧x≤1048576:=by rw [hx];exact by have:=mulb (by omega:(0:Int)≤N) (by omega:N≤1024) (by omega:(0:Int)≤N) (by omega:N≤1024);omega
  have ex:N*N=x:=hx.symm
  have wx:IntKind.i64.wrap x=x:=IntWalk.i64_in _ (by omega)
  have Hx:=zy hx
  clear hx
  have HR:Hid (zEK 0 N A=x):=zy (by rw [Hx.out];rfl)
  have R1:=zy (lay1 w 27 #[.int .i64 0, .int .i64 N, .int .i64 A])
  obtain ⟨W1,hW1⟩: ∃W,W=w.alloc (.cells #[.int .i64 0, .int .i64 N, .int .i64 A] 27):=⟨_,rfl⟩
  rw [←hW1] at R1
  have d0:=R1.out.1.cell (i:=0) (v:= .int .i64 0) rfl
  have d1:=R1.out.1.cell (i:=1) (v:= .int .i64 N) rfl
  have d2:=R1.out.1.cell (i:=2) (v:= .int .i64 A) rfl
  rw [hW1] at d0 d1 d2
  have HW1:=zy hW1
  clear hW1
  go_enter Tryz.func19,Tryz.ntmps19
  go_wp2_with (refine wpList_load_row rfl _ _ rfl _ rfl _ _ _ _ (by rw [←HW1.out];exact R1.out.1) Tryz.underlying27 rfl (by exact zT6) ?_)
  rw [←HW1.out]
  refine (HCan.out _).mono ?_
  rintro e w2 ⟨rfl,hB2⟩
  have R2:=zy (And.intro (R1.out.1.keep hB2) (R1.out.2.trans (hB2.mono R1.out.2.size)))
  clear hB2 d0 d1 d2
  have d0:=R2.out.1.cell (i:=0) (v:= .int .i64 0) rfl
  have d1:=R2.out.1.cell (i:=1) (v:= .int .i64 N) rfl
  have d2:=R2.out.1.cell (i:=2) (v:= .int .i64 A) rfl
  go_wp2
  go_ret
  exact ⟨by rw [HR.out];rfl,R2.out.2⟩
 by_cases h1:K=1
 ·subst h1
  have hl:=zK8 (n:=N) (by omega)
  have HLg:Hid (∀W,Calls Tryz.prog 58 #[.int .i64 N] W fun e w2=>e= .returned (.int .i64 (lg N))∧ ∃n,w2=W.drewN n):=zy (fun W=>by
   have h1:=zPP N (by omega) W
   skip
   exact h1.mono fun e w2 h=>⟨h.1,0,h.2.symm⟩)
  have HR0:Hid (zEK 1 N A=N*3*lg N+N):=zy rfl
  obtain ⟨l,hle⟩: ∃l,l=lg N:=⟨_,rfl⟩
  rw [←hle] at HLg HR0 hl
  clear hle
  obtain ⟨x,hx⟩: ∃x:Int,x=3*N:=⟨_,rfl⟩
  have bdx:0≤x∧x≤3072:=by rw [hx];exact (by omega)
  have ex:3*N=x:=hx.symm
  have wx:IntKind.i64.wrap x=x:=IntWalk.i64_in _ (by omega)
  have Hx:=zy hx
  clear hx
  obtain ⟨y,hy⟩: ∃y:Int,y=x*l:=⟨_,rfl⟩
  have bdy:0≤y∧y≤36864:=by rw [hy];exact by have:=mulb (by omega:(0:Int)≤x) (by omega:x≤3072) (by omega:(0:Int)≤l) (by omega:l≤12);omega
  have ey:x*l=y:=hy.symm
  have wy:IntKind.i64.wrap y=y:=IntWalk.i64_in _ (by omega)
  have Hy:=zy hy
  clear hy
  obtain ⟨u,hu⟩: ∃u:Int,u=y+N:=⟨_,rfl⟩
  have bdu:0≤u∧u≤40000:=by rw [hu];exact (by omega)
  have eu:y+N=u:=hu.symm
  have wu:IntKind.i64.wrap u=u:=IntWalk.i64_in _ (by omega)
  have Hu:=zy hu
  clear hu
  have HR:Hid (zEK 1 N A=u):=zy (by rw [HR0.out,Hu.out,Hy.out,Hx.out,Int.mul_comm N 3])
  have R1:=zy (lay1 w 27 #[.int .i64 1, .int .i64 N, .int .i64 A])
  obtain ⟨W1,hW1⟩: ∃W,W=w.alloc (.cells #[.int .i64 1, .int .i64 N, .int .i64 A] 27):=⟨_,rfl⟩
  rw [←hW1] at R1
  have d0:=R1.out.1.cell (i:=0) (v:= .int .i64 1) rfl
  have d1:=R1.out.1.cell (i:=1) (v:= .int .i64 N) rfl
  have d2:=R1.out.1.cell (i:=2) (v:= .int .i64 A) rfl
  rw [hW1] at d0 d1 d2
  have HW1:=zy hW1
  clear hW1
  go_enter Tryz.func19,Tryz.ntmps19
  go_wp2_with (refine wpList_load_row rfl _ _ rfl _ rfl _ _ _ _ (by rw [←HW1.out];exact R1.out.1) Tryz.underlying27 rfl (by exact zT6) ?_)
  rw [←HW1.out]
  refine (HCan.out _).mono ?_
  rintro e w2 ⟨rfl,hB2⟩
  have R2:=zy (And.intro (R1.out.1.keep hB2) (R1.out.2.trans (hB2.mono R1.out.2.size)))
  clear hB2 d0 d1 d2
  have d0:=R2.out.1.cell (i:=0) (v:= .int .i64 1) rfl
  have d1:=R2.out.1.cell (i:=1) (v:= .int .i64 N) rfl
  have d2:=R2.out.1.cell (i:=2) (v:= .int .i64 A) rfl
  go_wp2_with fail
  go_quiet ((go_at_call 58;exact Calls.quiet_of (HLg.out _)))
  go_wp2
  go_ret
  exact ⟨by rw [HR.out];rfl,below_drewN R2.out.2 _⟩
 by_cases h2:K=2
 ·subst h2
  have hl:=zK8 (n:=N) (by omega)
  have HLg:Hid (∀W,Calls Tryz.prog 58 #[.int .i64 N] W fun e w2=>e= .returned (.int .i64 (lg N))∧ ∃n,w2=W.drewN n):=zy (fun W=>by
   have h1:=zPP N (by omega) W
   skip
   exact h1.mono fun e w2 h=>⟨h.1,0,h.2.symm⟩)
  have HR0:Hid (zEK 2 N A=N*2*lg N+2*N):=zy rfl
  obtain ⟨l,hle⟩: ∃l,l=lg N:=⟨_,rfl⟩
  rw [←hle] at HLg HR0 hl
  clear hle
  obtain ⟨x,hx⟩: ∃x:Int,x=2*N:=⟨_,rfl⟩
  have bdx:0≤x∧x≤3072:=by rw [hx];exact (by omega)
  have ex:2*N=x:=hx.symm
  have wx:IntKind.i64.wrap x=x:=IntWalk.i64_in _ (by omega)
  have Hx:=zy hx
  clear hx
  obtain ⟨y,hy⟩: ∃y:Int,y=x*l:=⟨_,rfl⟩
  have bdy:0≤y∧y≤36864:=by rw [hy];exact by have:=mulb (by omega:(0:Int)≤x) (by omega:x≤3072) (by omega:(0:Int)≤l) (by omega:l≤12);omega
  have ey:x*l=y:=hy.symm
  have wy:IntKind.i64.wrap y=y:=IntWalk.i64_in _ (by omega)
  have Hy:=zy hy
  clear hy
  obtain ⟨u,hu⟩: ∃u:Int,u=y+x:=⟨_,rfl⟩
  have bdu:0≤u∧u≤40000:=by rw [hu];exact (by omega)
  have eu:y+x=u:=hu.symm
  have wu:IntKind.i64.wrap u=u:=IntWalk.i64_in _ (by omega)
  have Hu:=zy hu
  clear hu
  have HR:Hid (zEK 2 N A=u):=zy (by rw [HR0.out,Hu.out,Hy.out,Hx.out,Int.mul_comm N 2])
  have R1:=zy (lay1 w 27 #[.int .i64 2, .int .i64 N, .int .i64 A])
  obtain ⟨W1,hW1⟩: ∃W,W=w.alloc (.cells #[.int .i64 2, .int .i64 N, .int .i64 A] 27):=⟨_,rfl⟩
  rw [←hW1] at R1
  have d0:=R1.out.1.cell (i:=0) (v:= .int .i64 2) rfl
  have d1:=R1.out.1.cell (i:=1) (v:= .int .i64 N) rfl
  have d2:=R1.out.1.cell (i:=2) (v:= .int .i64 A) rfl
  rw [hW1] at d0 d1 d2
  have HW1:=zy hW1
  clear hW1
  go_enter Tryz.func19,Tryz.ntmps19
  go_wp2_with (refine wpList_load_row rfl _ _ rfl _ rfl _ _ _ _ (by rw [←HW1.out];exact R1.out.1) Tryz.underlying27 rfl (by exact zT6) ?_)
  rw [←HW1.out]
  refine (HCan.out _).mono ?_
  rintro e w2 ⟨rfl,hB2⟩
  have R2:=zy (And.intro (R1.out.1.keep hB2) (R1.out.2.trans (hB2.mono R1.out.2.size)))
  clear hB2 d0 d1 d2
  have d0:=R2.out.1.cell (i:=0) (v:= .int .i64 2) rfl
  have d1:=R2.out.1.cell (i:=1) (v:= .int .i64 N) rfl
  have d2:=R2.out.1.cell (i:=2) (v:= .int .i64 A) rfl
  go_wp2_with fail
  go_quiet ((go_at_call 58;exact Calls.quiet_of (HLg.out _)))
  go_wp2
  go_ret
  exact ⟨by rw [HR.out];rfl,below_drewN R2.out.2 _⟩
 by_cases h3:K=3
 ·subst h3
  have hrk:=zDi hc
  have HF:=zy (fun W=>zPE N n0 n1 W)
  have R1:=zy (lay1 w 27 #[.int .i64 3, .int .i64 N, .int .i64 A])
  obtain ⟨W1,hW1⟩: ∃W,W=w.alloc (.cells #[.int .i64 3, .int .i64 N, .int .i64 A] 27):=⟨_,rfl⟩
  rw [←hW1] at R1
  have d0:=R1.out.1.cell (i:=0) (v:= .int .i64 3) rfl
  have d1:=R1.out.1.cell (i:=1) (v:= .int .i64 N) rfl
  have d2:=R1.out.1.cell (i:=2) (v:= .int .i64 A) rfl
  rw [hW1] at d0 d1 d2
  have HW1:=zy hW1
  clear hW1
  go_enter Tryz.func19,Tryz.ntmps19
  go_wp2_with (refine wpList_load_row rfl _ _ rfl _ rfl _ _ _ _ (by rw [←HW1.out];exact R1.out.1) Tryz.underlying27 rfl (by exact zT6) ?_)
  rw [←HW1.out]
  refine (HCan.out _).mono ?_
  rintro e w2 ⟨rfl,hB2⟩
  have R2:=zy (And.intro (R1.out.1.keep hB2) (R1.out.2.trans (hB2.mono R1.out.2.size)))
  clear hB2 d0 d1 d2
  have d0:=R2.out.1.cell (i:=0) (v:= .int .i64 3) rfl
  have d1:=R2.out.1.cell (i:=1) (v:= .int .i64 N) rfl
  have d2:=R2.out.1.cell (i:=2) (v:= .int .i64 A) rfl
  go_wp2_with fail
  skip
  refine (HF.out _).mono ?_
  rintro e w3 ⟨⟨L,V,_,hL,hLl,rfl,hown⟩|⟨ho,rfl⟩,hB3⟩
  case inr=>rw [hrk] at ho;cases ho
  have R3:=zy (And.intro (R2.out.1.keep hB3) (R2.out.2.trans (hB3.mono R2.out.2.size)))
  have e1:=R3.out.1.cell (i:=1) (v:= .int .i64 N) rfl
  obtain ⟨xL,cL,hVe,hRd⟩:=RdI.of_own (xs:=zDm L) (by rw [zDo];exact hown)
  rw [zDo] at hVe
  subst hVe
  have HRd:=zy hRd
  have h8:=zQO _ _ hL
  have HS:Hid (radS N=((sumN L:Nat):Int)):=zy (by unfold radS;rw [hL];rfl)
  have hsl:=zUu h8
  have HSn:=zy (fun k (hk:k<L.length)=>zUv hk)
  have HSl:=zy (fun k=>zUu (zU4 h8 k))
  have HGt:=zy (zDn L)
  have hcl:=zDo L
  have HR0:Hid (zEK 3 N A=2*N*radS N+N):=zy rfl
  clear hB3 hown hRd h8 hL d0 d1 d2
  go_wp2
  go_loop [5,55] (fun S I=> ∃k s:Nat,S= .int .i64 s∧I= .int .i64 k∧k≤L.length∧Hid (s=sumN (L.take k))) (fun _ I=>L.length-(intOf I).toNat)
  case atStart=>exact ⟨0,0,rfl,rfl,by omega,zy rfl⟩
  case round=>
   obtain ⟨k,s,rfl,rfl,hk,hs⟩:=hrel
   have hs80:s≤80:=by
    have h1:=HSl.out k
    have h2:=List.length_take_le k L
    have h3:=hs.out
    omega
   by_cases hlt:k<L.length
   ·obtain ⟨b,o,hbe,hb,hcl2⟩:=HRd.out (by omega)
    have c0:=hcl2 k (by omega)
    rw [HGt.out] at c0
    have hsn:Hid (s+L.getD k 0=sumN (L.take (k+1))):=zy (by rw [HSn.out k hlt,hs.out])
    have hsb:s+L.getD k 0≤80:=by
     have h1:=HSl.out (k+1)
     have h2:=List.length_take_le (k+1) L
     have h3:=hsn.out
     omega
    obtain ⟨x,hx⟩: ∃x,x=L.getD k 0:=⟨_,rfl⟩
    rw [←hx] at c0 hsn hsb
    subst hbe
    clear hx hcl2 hs
    go_wp2
    go_round
    case rel=>exact ⟨k+1,s+x,by go_num,by go_num,by omega,hsn⟩
    case measure=>simp [intOf];omega
   ·obtain rfl:k=L.length:=by omega
    have HR1:Hid (zEK 3 N A=2*N*(s:Int)+N):=zy (by rw [HR0.out,HS.out,hs.out,List.take_length])
    obtain ⟨x,hx⟩: ∃x:Int,x=2*N:=⟨_,rfl⟩
    have bdx:0≤x∧x≤2048:=by rw [hx];exact (by omega)
    have ex:2*N=x:=hx.symm
    have wx:IntKind.i64.wrap x=x:=IntWalk.i64_in _ (by omega)
    have Hx:=zy hx
    clear hx
    obtain ⟨y,hy⟩: ∃y:Int,y=x*(s:Int):=⟨_,rfl⟩
    have bdy:0≤y∧y≤163840:=by rw [hy];exact by have:=mulb (by omega:(0:Int)≤x) (by omega:x≤2048) (by omega:(0:Int)≤(s:Int)) (by omega:(s:Int)≤80);omega
    have ey:x*(s:Int)=y:=hy.symm
    have wy:IntKind.i64.wrap y=y:=IntWalk.i64_in _ (by omega)
    have Hy:=zy hy
    clear hy
    obtain ⟨u,hu⟩: ∃u:Int,u=y+N:=⟨_,rfl⟩
    have bdu:0≤u∧u≤200000:=by rw [hu];exact (by omega)
    have eu:y+N=u:=hu.symm
    have wu:IntKind.i64.wrap u=u:=IntWalk.i64_in _ (by omega)
    have Hu:=zy hu
    clear hu
    have HR:Hid (zEK 3 N A=u):=zy (by rw [HR1.out,Hu.out,Hy.out,Hx.out])
    clear hs hlt hk
    go_wp2
    go_ret
    exact ⟨by rw [HR.out];rfl,R3.out.2⟩
 by_cases h5:K=5
 ·subst h5
  have hA:=zDh hc (by omega)
  have HR0:Hid (zEK 5 N A=3*halI A+4*N):=zy rfl
  have hl:=zK8 (n:=A) (by omega)
  have hh0:=mulb (by omega:(0:Int)≤A*3) (by omega:A*3≤12288) hl.1 hl.2
  have HF:=zy (fun W=>(zPP A (by omega) W).mono (fun e w2 (h:e= .returned (.int .i64 (lg A))∧W=w2)=>(⟨h.1,0,h.2.symm⟩:e= .returned (.int .i64 (lg A))∧ ∃n,w2=W.drewN n)))
  have HH:Hid (halI A=A*3*lg A+A):=zy rfl
  obtain ⟨l,hle⟩: ∃l,l=lg A:=⟨_,rfl⟩
  rw [←hle] at HF HH hl
  clear hle hh0
  obtain ⟨x,hx⟩: ∃x:Int,x=3*A:=⟨_,rfl⟩
  have bdx:0≤x∧x≤12288:=by rw [hx];exact (by omega)
  have ex:3*A=x:=hx.symm
  have wx:IntKind.i64.wrap x=x:=IntWalk.i64_in _ (by omega)
  have Hx:=zy hx
  clear hx
  obtain ⟨y,hy⟩: ∃y:Int,y=x*l:=⟨_,rfl⟩
  have bdy:0≤y∧y≤147456:=by rw [hy];exact by have:=mulb (by omega:(0:Int)≤x) (by omega:x≤12288) (by omega:(0:Int)≤l) (by omega:l≤12);omega
  have ey:x*l=y:=hy.symm
  have wy:IntKind.i64.wrap y=y:=IntWalk.i64_in _ (by omega)
  have Hy:=zy hy
  clear hy
  obtain ⟨z,hz⟩: ∃z:Int,z=y+A:=⟨_,rfl⟩
  have bdz:0≤z∧z≤160000:=by rw [hz];exact (by omega)
  have ez:y+A=z:=hz.symm
  have wz:IntKind.i64.wrap z=z:=IntWalk.i64_in _ (by omega)
  have Hz:=zy hz
  clear hz
  obtain ⟨u,hu⟩: ∃u:Int,u=3*z:=⟨_,rfl⟩
  have bdu:0≤u∧u≤480000:=by rw [hu];exact (by omega)
  have eu:3*z=u:=hu.symm
  have wu:IntKind.i64.wrap u=u:=IntWalk.i64_in _ (by omega)
  have Hu:=zy hu
  clear hu
  obtain ⟨t,ht⟩: ∃t:Int,t=4*N:=⟨_,rfl⟩
  have bdt:0≤t∧t≤6144:=by rw [ht];exact (by omega)
  have et:4*N=t:=ht.symm
  have wt:IntKind.i64.wrap t=t:=IntWalk.i64_in _ (by omega)
  have Ht:=zy ht
  clear ht
  obtain ⟨v,hv⟩: ∃v:Int,v=u+t:=⟨_,rfl⟩
  have bdv:0≤v∧v≤500000:=by rw [hv];exact (by omega)
  have ev:u+t=v:=hv.symm
  have wv:IntKind.i64.wrap v=v:=IntWalk.i64_in _ (by omega)
  have Hv:=zy hv
  clear hv
  have HR:Hid (zEK 5 N A=v):=zy (by rw [HR0.out,HH.out,Hv.out,Hu.out,Ht.out,Hz.out,Hy.out,Hx.out,Int.mul_comm A 3])
  have R1:=zy (lay1 w 27 #[.int .i64 5, .int .i64 N, .int .i64 A])
  obtain ⟨W1,hW1⟩: ∃W,W=w.alloc (.cells #[.int .i64 5, .int .i64 N, .int .i64 A] 27):=⟨_,rfl⟩
  rw [←hW1] at R1
  have d0:=R1.out.1.cell (i:=0) (v:= .int .i64 5) rfl
  have d1:=R1.out.1.cell (i:=1) (v:= .int .i64 N) rfl
  have d2:=R1.out.1.cell (i:=2) (v:= .int .i64 A) rfl
  rw [hW1] at d0 d1 d2
  have HW1:=zy hW1
  clear hW1
  go_enter Tryz.func19,Tryz.ntmps19
  go_wp2_with (refine wpList_load_row rfl _ _ rfl _ rfl _ _ _ _ (by rw [←HW1.out];exact R1.out.1) Tryz.underlying27 rfl (by exact zT6) ?_)
  rw [←HW1.out]
  refine (HCan.out _).mono ?_
  rintro e w2 ⟨rfl,hB2⟩
  have R2:=zy (And.intro (R1.out.1.keep hB2) (R1.out.2.trans (hB2.mono R1.out.2.size)))
  clear hB2 d0 d1 d2
  have d0:=R2.out.1.cell (i:=0) (v:= .int .i64 5) rfl
  have d1:=R2.out.1.cell (i:=1) (v:= .int .i64 N) rfl
  have d2:=R2.out.1.cell (i:=2) (v:= .int .i64 A) rfl
  go_wp2_with fail
  go_quiet ((go_at_call 58;exact Calls.quiet_of (HF.out _)))
  go_wp2
  go_ret
  exact ⟨by rw [HR.out];rfl,below_drewN R2.out.2 _⟩
 by_cases h6:K=6
 ·subst h6
  have hA:=zDh hc (by omega)
  have HR0:Hid (zEK 6 N A=3*halI A+6*N):=zy rfl
  have hl:=zK8 (n:=A) (by omega)
  have hh0:=mulb (by omega:(0:Int)≤A*3) (by omega:A*3≤12288) hl.1 hl.2
  have HF:=zy (fun W=>(zPP A (by omega) W).mono (fun e w2 (h:e= .returned (.int .i64 (lg A))∧W=w2)=>(⟨h.1,0,h.2.symm⟩:e= .returned (.int .i64 (lg A))∧ ∃n,w2=W.drewN n)))
  have HH:Hid (halI A=A*3*lg A+A):=zy rfl
  obtain ⟨l,hle⟩: ∃l,l=lg A:=⟨_,rfl⟩
  rw [←hle] at HF HH hl
  clear hle hh0
  obtain ⟨x,hx⟩: ∃x:Int,x=3*A:=⟨_,rfl⟩
  have bdx:0≤x∧x≤12288:=by rw [hx];exact (by omega)
  have ex:3*A=x:=hx.symm
  have wx:IntKind.i64.wrap x=x:=IntWalk.i64_in _ (by omega)
  have Hx:=zy hx
  clear hx
  obtain ⟨y,hy⟩: ∃y:Int,y=x*l:=⟨_,rfl⟩
  have bdy:0≤y∧y≤147456:=by rw [hy];exact by have:=mulb (by omega:(0:Int)≤x) (by omega:x≤12288) (by omega:(0:Int)≤l) (by omega:l≤12);omega
  have ey:x*l=y:=hy.symm
  have wy:IntKind.i64.wrap y=y:=IntWalk.i64_in _ (by omega)
  have Hy:=zy hy
  clear hy
  obtain ⟨z,hz⟩: ∃z:Int,z=y+A:=⟨_,rfl⟩
  have bdz:0≤z∧z≤160000:=by rw [hz];exact (by omega)
  have ez:y+A=z:=hz.symm
  have wz:IntKind.i64.wrap z=z:=IntWalk.i64_in _ (by omega)
  have Hz:=zy hz
  clear hz
  obtain ⟨u,hu⟩: ∃u:Int,u=3*z:=⟨_,rfl⟩
  have bdu:0≤u∧u≤480000:=by rw [hu];exact (by omega)
  have eu:3*z=u:=hu.symm
  have wu:IntKind.i64.wrap u=u:=IntWalk.i64_in _ (by omega)
  have Hu:=zy hu
  clear hu
  obtain ⟨t,ht⟩: ∃t:Int,t=6*N:=⟨_,rfl⟩
  have bdt:0≤t∧t≤6144:=by rw [ht];exact (by omega)
  have et:6*N=t:=ht.symm
  have wt:IntKind.i64.wrap t=t:=IntWalk.i64_in _ (by omega)
  have Ht:=zy ht
  clear ht
  obtain ⟨v,hv⟩: ∃v:Int,v=u+t:=⟨_,rfl⟩
  have bdv:0≤v∧v≤500000:=by rw [hv];exact (by omega)
  have ev:u+t=v:=hv.symm
  have wv:IntKind.i64.wrap v=v:=IntWalk.i64_in _ (by omega)
  have Hv:=zy hv
  clear hv
  have HR:Hid (zEK 6 N A=v):=zy (by rw [HR0.out,HH.out,Hv.out,Hu.out,Ht.out,Hz.out,Hy.out,Hx.out,Int.mul_comm A 3])
  have R1:=zy (lay1 w 27 #[.int .i64 6, .int .i64 N, .int .i64 A])
  obtain ⟨W1,hW1⟩: ∃W,W=w.alloc (.cells #[.int .i64 6, .int .i64 N, .int .i64 A] 27):=⟨_,rfl⟩
  rw [←hW1] at R1
  have d0:=R1.out.1.cell (i:=0) (v:= .int .i64 6) rfl
  have d1:=R1.out.1.cell (i:=1) (v:= .int .i64 N) rfl
  have d2:=R1.out.1.cell (i:=2) (v:= .int .i64 A) rfl
  rw [hW1] at d0 d1 d2
  have HW1:=zy hW1
  clear hW1
  go_enter Tryz.func19,Tryz.ntmps19
  go_wp2_with (refine wpList_load_row rfl _ _ rfl _ rfl _ _ _ _ (by rw [←HW1.out];exact R1.out.1) Tryz.underlying27 rfl (by exact zT6) ?_)
  rw [←HW1.out]
  refine (HCan.out _).mono ?_
  rintro e w2 ⟨rfl,hB2⟩
  have R2:=zy (And.intro (R1.out.1.keep hB2) (R1.out.2.trans (hB2.mono R1.out.2.size)))
  clear hB2 d0 d1 d2
  have d0:=R2.out.1.cell (i:=0) (v:= .int .i64 6) rfl
  have d1:=R2.out.1.cell (i:=1) (v:= .int .i64 N) rfl
  have d2:=R2.out.1.cell (i:=2) (v:= .int .i64 A) rfl
  go_wp2_with fail
  go_quiet ((go_at_call 58;exact Calls.quiet_of (HF.out _)))
  go_wp2
  go_ret
  exact ⟨by rw [HR.out];rfl,below_drewN R2.out.2 _⟩
 omega
end Go.Proofs.YtmalmijdjhkklaaGreat