/- plan's parts: the greatest common divisor, coprime.Fits, small factors; and the document's. -/
import Derived.Test.YtmalmijdjhkklaaGreatW51
import Derived.Laws.AppendOwn
import Derived.Deep.QuietTactic
import Derived.BigQuiet
set_option linter.unusedVariables false
set_option linter.unusedSimpArgs false
set_option maxRecDepth 100000
set_option maxHeartbeats 16000000
namespace Go.Proofs.YtmalmijdjhkklaaGreat
open Go.RowKit
theorem zIi (a b:Nat) (ha:a<18446744073709551616) (hb:b<18446744073709551616) (w:World):
  Calls Tryz.prog 199 #[.int .u64 (a:Int), .int .u64 (b:Int)] w fun e w'=>e= .returned (.int .u64 ((Nat.gcd a b:Nat):Int))∧ ∃n,w'=w.drewN n:=by
 obtain ⟨g,hg⟩: ∃g,g=Nat.gcd a b:=⟨_,rfl⟩
 have HG:=zy hg
 rw [←hg]
 clear hg
 go_enter Tryz.func199,Tryz.ntmps199
 go_wp2
 go_loopw [0,1] (fun X Y wr=> ∃x y n:Nat,X= .int .u64 x∧Y= .int .u64 y∧wr=w.drewN n∧x<18446744073709551616∧y<18446744073709551616∧Hid (Nat.gcd x y=g)) (fun _ Y _=>(intOf Y).toNat)
 case atStart=>exact ⟨a,b,0,rfl,rfl,rfl,ha,hb,zy HG.out.symm⟩
 case round=>
  obtain ⟨x,y,n,rfl,rfl,rfl,hx,hy,H⟩:=hrel
  by_cases h0:0<y
  ·have t1:decide ((y:Int)>0)=true:=by simp;omega
   have t2:((y:Int) == 0)=false:=by simp;omega
   have hz:(x:Int)%(y:Int)=((x%y:Nat):Int):=by omega
   have hz':(x:Int).tmod (y:Int)=((x%y:Nat):Int):=by rw [Int.tmod_eq_emod_of_nonneg (by omega)];omega
   have hlt:x%y<y:=Nat.mod_lt _ h0
   have H2:Hid (Nat.gcd y (x%y)=g):=zy (by rw [←H.out,Nat.gcd_comm x y,Nat.gcd_rec y x,Nat.gcd_comm])
   obtain ⟨z,hzz⟩: ∃z,z=x%y:=⟨_,rfl⟩
   rw [←hzz] at hz hz' H2 hlt
   clear hzz H
   go_wp2
   go_quiet (fail)
   go_wp2
   go_roundw
   case rel=>exact ⟨y,z,_,rfl,rfl,World.drewN_drewN _ _ _,hy,by omega,H2⟩
   case measure=>simp [intOf];omega
  ·have t1:decide (0<y)=false:=decide_eq_false h0
   have H2:Hid (x=g):=zy (by rw [←H.out,show y=0 by omega,Nat.gcd_zero_right])
   clear H
   go_wp2
   go_ret
   exact ⟨by rw [H2.out];rfl,_,rfl⟩
theorem zL3 (a b:Nat) (ha:a<18446744073709551616) (hb:b<18446744073709551616) (w:World):
  Calls Tryz.prog 164 #[.int .u64 (a:Int), .int .u64 (b:Int)] w fun e w'=>e= .returned (.bool (Nat.gcd a b == 1))∧ ∃n,w'=w.drewN n:=by
 have H:=zy (fun W=>zIi a b ha hb W)
 obtain ⟨g,hg⟩: ∃g,g=Nat.gcd a b:=⟨_,rfl⟩
 rw [←hg] at H ⊢
 clear hg
 have tt:((g:Int) == 1)=(g == 1):=by rw [Bool.eq_iff_iff];simp;omega
 go_enter Tryz.func164,Tryz.ntmps164
 go_wp2_with fail
 refine (H.out _).mono ?_
 rintro e w1 ⟨rfl,n,rfl⟩
 go_wp2
 go_ret
 exact ⟨by rfl,_,rfl⟩
theorem zDD (n a:Int) (n0: -9223372036854775808≤n) (n1:n≤9223372036854775807) (a0: -9223372036854775808≤a) (a1:a≤9223372036854775807) (w:World):
  Calls Tryz.prog 105 #[.int .i64 n, .int .i64 a] w fun e w'=>e= .returned (.bool (copB n a))∧ ∃q,w'=w.drewN q:=by
 by_cases hn:1<n
 ·have t0:decide (n>1)=true:=decide_eq_true hn
  by_cases ha:1<a
  ·have t1:decide (a>1)=true:=decide_eq_true ha
   by_cases hl:a<n
   ·have t2:decide (a<n)=true:=decide_eq_true hl
    obtain ⟨m,rfl⟩:=Int.eq_ofNat_of_zero_le (show 0≤n by omega)
    obtain ⟨b,rfl⟩:=Int.eq_ofNat_of_zero_le (show 0≤a by omega)
    have t3:((b:Int) == 0)=false:=by simp;omega
    have hz:(m:Int)%(b:Int)=((m%b:Nat):Int):=by omega
    have hz':(m:Int).tmod (b:Int)=((m%b:Nat):Int):=by rw [Int.tmod_eq_emod_of_nonneg (by omega)];omega
    by_cases hd:m%b=0
    ·rw [hd] at hz hz'
     have hqe:(m:Int)/(b:Int)=((m/b:Nat):Int):=by omega
     have hqt:(m:Int).tdiv (b:Int)=((m/b:Nat):Int):=by rw [Int.tdiv_eq_ediv_of_nonneg (by omega)];omega
     have hql:m/b≤m:=Nat.div_le_self _ _
     have HR:Hid (copB (m:Int) (b:Int)=(Nat.gcd b (m/b) == 1)):=zy (by
      unfold copB
      rw [hqe,Int.toNat_natCast,Int.toNat_natCast,Bool.eq_iff_iff,decide_eq_true_eq,beq_iff_eq]
      exact ⟨fun h=>h.2.2.2,fun h=>⟨ha,hl,hz,h⟩⟩)
     have HC:=zy (fun W=>zL3 b (m/b) (by omega) (by omega) W)
     obtain ⟨q,hq⟩: ∃q,q=m/b:=⟨_,rfl⟩
     rw [←hq] at hqe hqt hql HC HR
     have tw1:IntKind.u64.wrap (b:Int)=(b:Int):=by rw [IntKind.wrap_u64];omega
     have tw2:IntKind.u64.wrap (q:Int)=(q:Int):=by rw [IntKind.wrap_u64];omega
     clear hq hd
     go_enter Tryz.func105,Tryz.ntmps105
     go_wp2_with fail
     refine (HC.out _).mono ?_
     rintro e w1 ⟨rfl,k,rfl⟩
     go_wp2
     go_ret
     exact ⟨by rw [HR.out];rfl,_,rfl⟩
    ·have HR:Hid (copB (m:Int) (b:Int)=false):=zy (by unfold copB;rw [decide_eq_false_iff_not];rintro ⟨_,_,h,_⟩;omega)
     obtain ⟨z,hzz⟩: ∃z,z=m%b:=⟨_,rfl⟩
     rw [←hzz] at hz hz' hd
     have t4:((z:Int) == 0)=false:=by simp;omega
     clear hzz hd
     go_enter Tryz.func105,Tryz.ntmps105
     go_wp2
     go_ret
     exact ⟨by rw [HR.out];rfl,0,rfl⟩
   ·have t2:decide (a<n)=false:=decide_eq_false hl
    have HR:Hid (copB n a=false):=zy (by unfold copB;rw [decide_eq_false_iff_not];rintro ⟨_,h,_⟩;omega)
    go_enter Tryz.func105,Tryz.ntmps105
    go_wp2
    go_ret
    exact ⟨by rw [HR.out];rfl,0,rfl⟩
  ·have t1:decide (a>1)=false:=decide_eq_false ha
   have HR:Hid (copB n a=false):=zy (by unfold copB;rw [decide_eq_false_iff_not];rintro ⟨h,_⟩;omega)
   go_enter Tryz.func105,Tryz.ntmps105
   go_wp2
   go_ret
   exact ⟨by rw [HR.out];rfl,0,rfl⟩
 ·have t0:decide (n>1)=false:=decide_eq_false hn
  have HR:Hid (copB n a=false):=zy (by unfold copB;rw [decide_eq_false_iff_not];rintro ⟨h,h2,_⟩;omega)
  go_enter Tryz.func105,Tryz.ntmps105
  go_wp2
  go_ret
  exact ⟨by rw [HR.out];rfl,0,rfl⟩
theorem zPF (n a:Int) (n0: -9223372036854775808≤n) (n1:n≤9223372036854775807) (a0: -9223372036854775808≤a) (a1:a≤9223372036854775807) (w:World):
  Calls Tryz.prog 110 #[.int .i64 n, .int .i64 a] w fun e w'=>e= .returned (.bool (copB n a))∧w=w':=by
 by_cases ha:a≤1
 ·have t1:decide (a≤1)=true:=decide_eq_true ha
  have HR:Hid (copB n a=false):=zy (by unfold copB;rw [decide_eq_false_iff_not];rintro ⟨h,_⟩;omega)
  go_enter Tryz.func110,Tryz.ntmps110
  go_wp2
  go_ret
  exact ⟨by rw [HR.out];rfl,rfl⟩
 ·have t1:decide (a≤1)=false:=decide_eq_false ha
  by_cases hl:n≤a
  ·have t2:decide (a≥n)=true:=decide_eq_true hl
   have HR:Hid (copB n a=false):=zy (by unfold copB;rw [decide_eq_false_iff_not];rintro ⟨_,h,_⟩;omega)
   go_enter Tryz.func110,Tryz.ntmps110
   go_wp2
   go_ret
   exact ⟨by rw [HR.out];rfl,rfl⟩
  ·have t2:decide (a≥n)=false:=decide_eq_false hl
   obtain ⟨m,rfl⟩:=Int.eq_ofNat_of_zero_le (show 0≤n by omega)
   obtain ⟨b,rfl⟩:=Int.eq_ofNat_of_zero_le (show 0≤a by omega)
   have t3:((b:Int) == 0)=false:=by simp;omega
   have hz:(m:Int)%(b:Int)=((m%b:Nat):Int):=by omega
   have hz':(m:Int).tmod (b:Int)=((m%b:Nat):Int):=by rw [Int.tmod_eq_emod_of_nonneg (by omega)];omega
   by_cases hd:m%b=0
   ·rw [hd] at hz hz'
    have hqe:(m:Int)/(b:Int)=((m/b:Nat):Int):=by omega
    have hqt:(m:Int).tdiv (b:Int)=((m/b:Nat):Int):=by rw [Int.tdiv_eq_ediv_of_nonneg (by omega)];omega
    have HR:Hid (copB (m:Int) (b:Int)=(Nat.gcd b (m/b) == 1)):=zy (by
     unfold copB
     rw [hqe,Int.toNat_natCast,Int.toNat_natCast,Bool.eq_iff_iff,decide_eq_true_eq,beq_iff_eq]
     exact ⟨fun h=>h.2.2.2,fun h=>⟨by omega,by omega,hz,h⟩⟩)
    have HG:=zy (zIj (a:=b) (b:=m/b) (by omega))
    have hql:m/b≤m:=Nat.div_le_self _ _
    obtain ⟨q,hq⟩: ∃q,q=m/b:=⟨_,rfl⟩
    rw [←hq] at hqe hqt HG HR hql
    clear hq hd
    go_enter Tryz.func110,Tryz.ntmps110
    go_wp2
    go_loopw [5] (fun D wr=> ∃d:Nat,D= .int .i64 d∧2≤d∧d≤b+1∧Hid (∀c,2≤c→c<d→ ¬(b%c=0∧q%c=0))∧w=wr) (fun D _=>b+1-(intOf D).toNat)
    case atStart=>exact ⟨2,rfl,by omega,by omega,zy (fun c h1 h2=>by omega),rfl⟩
    case round=>
     obtain ⟨d,rfl,d2,db,H,rfl⟩:=hrel
     by_cases hdb:d≤b
     ·have t5:decide ((d:Int)≤(b:Int))=true:=decide_eq_true (by omega)
      have t5':decide (d≤b)=true:=decide_eq_true hdb
      have t6:((d:Int) == 0)=false:=by simp;omega
      have u1:(b:Int)%(d:Int)=((b%d:Nat):Int):=by omega
      have u1':(b:Int).tmod (d:Int)=((b%d:Nat):Int):=by rw [Int.tmod_eq_emod_of_nonneg (by omega)];omega
      have u2:(q:Int)%(d:Int)=((q%d:Nat):Int):=by omega
      have u2':(q:Int).tmod (d:Int)=((q%d:Nat):Int):=by rw [Int.tmod_eq_emod_of_nonneg (by omega)];omega
      obtain ⟨x,hx⟩: ∃x,x=b%d:=⟨_,rfl⟩
      obtain ⟨y,hy⟩: ∃y,y=q%d:=⟨_,rfl⟩
      rw [←hx] at u1 u1'
      rw [←hy] at u2 u2'
      have HXY:=zy (And.intro hx hy)
      clear hx hy
      by_cases hxy:x=0∧y=0
      ·have v1:(b:Int)%(d:Int)=0:=by rw [u1,hxy.1];rfl
       have v2:(b:Int).tmod (d:Int)=0:=by rw [u1',hxy.1];rfl
       have v3:(q:Int)%(d:Int)=0:=by rw [u2,hxy.2];rfl
       have v4:(q:Int).tmod (d:Int)=0:=by rw [u2',hxy.2];rfl
       have HZ:=zy hxy
       clear u1 u1' u2 u2' hxy
       have HF:Hid (copB (m:Int) (b:Int)=false):=zy (by
        rw [HR.out,beq_eq_false_iff_ne,Ne,HG.out]
        exact fun h=>h d d2 hdb ⟨HXY.out.1.symm.trans HZ.out.1,HXY.out.2.symm.trans HZ.out.2⟩)
       clear H
       go_wp2
       go_ret
       exact ⟨by rw [HF.out];rfl,rfl⟩
      ·have H2:Hid (∀c,2≤c→c<d+1→ ¬(b%c=0∧q%c=0)):=zy (fun c h1 h2=>by
        rcases Nat.lt_or_ge c d with h3|h3
        ·exact H.out c h1 h3
        ·obtain rfl:c=d:=by omega
         rw [←HXY.out.1,←HXY.out.2];exact hxy)
       by_cases hx0:x=0
       ·have t7:((y:Int) == 0)=false:=by simp;omega
        have v1:(b:Int)%(d:Int)=0:=by rw [u1,hx0];rfl
        have v2:(b:Int).tmod (d:Int)=0:=by rw [u1',hx0];rfl
        clear H hxy hx0 u1 u1'
        go_wp2
        go_roundw
        case rel=>exact ⟨d+1,by go_num,by omega,by omega,H2,by first|rfl|trivial⟩
        case measure=>simp [intOf];omega
       ·have t7:((x:Int) == 0)=false:=by simp;omega
        clear H hxy hx0
        go_wp2
        go_roundw
        case rel=>exact ⟨d+1,by go_num,by omega,by omega,H2,by first|rfl|trivial⟩
        case measure=>simp [intOf];omega
     ·obtain rfl:d=b+1:=by omega
      have t5:decide (((b+1:Nat):Int)≤(b:Int))=false:=decide_eq_false (by omega)
      have t5':decide (b+1≤b)=false:=decide_eq_false (by omega)
      have HF:Hid (copB (m:Int) (b:Int)=true):=zy (by
       rw [HR.out,beq_iff_eq,HG.out]
       exact fun c h1 h2=>H.out c h1 (by omega))
      clear H
      go_wp2
      go_ret
      exact ⟨by rw [HF.out];rfl,rfl⟩
   ·have HR:Hid (copB (m:Int) (b:Int)=false):=zy (by unfold copB;rw [decide_eq_false_iff_not];rintro ⟨_,_,h,_⟩;omega)
    obtain ⟨z,hzz⟩: ∃z,z=m%b:=⟨_,rfl⟩
    rw [←hzz] at hz hz' hd
    have t4:((z:Int) != 0)=true:=by simp;omega
    clear hzz hd
    go_enter Tryz.func110,Tryz.ntmps110
    go_wp2
    go_ret
    exact ⟨by rw [HR.out];rfl,rfl⟩
end Go.Proofs.YtmalmijdjhkklaaGreat