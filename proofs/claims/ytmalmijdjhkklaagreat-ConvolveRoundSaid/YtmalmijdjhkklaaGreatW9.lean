/- sieve.Prime, sieve.odd, radix2.Pad, rader.Pad, and the references' Prime, Pad, Odd. -/
import Derived.Test.YtmalmijdjhkklaaGreatW3
import Derived.Deep.AppendLies
set_option linter.unusedVariables false
set_option linter.unusedSimpArgs false
set_option maxRecDepth 100000
set_option maxHeartbeats 16000000
namespace Go.Proofs.YtmalmijdjhkklaaGreat
open Go.RowKit
section
open Alg (FacI IsFac Prime)
noncomputable def isP (n:Nat):Bool:= @decide (Prime n) (Classical.propDecidable _)
theorem zJL {n:Nat}:isP n=true↔Prime n:=by simp [isP]
theorem zJK {n:Nat}:isP n=false↔ ¬Prime n:=by simp [isP]
theorem zPe (n:Nat) (w:World) (h1:2≤n) (h2:n≤4294967296):
  Calls Tryz.prog 165 #[.int .u64 n] w fun e w'=>e= .returned (.bool (isP n))∧Below w.heap.size w w':=by
 go_enter Tryz.func165,Tryz.ntmps165
 go_wp2_with fail
 refine (zG8 n _ h1 h2).mono ?_
 rintro e w1 ⟨v,fs,rfl,hF,hown,hB⟩
 have hP:=hF.prime_iff h1
 match fs,hF,hown,hP with
 | [],hF,hown,hP=>
  have hf:Hid (isP n=false):=zy (zJK.2 (fun h=>by have:=(hP.1 h).1;simp at this))
  obtain ⟨A,c,rfl⟩: ∃A c,v= .slice A 0 c:=by
   rcases hown.2 with ⟨rfl,_⟩|⟨g,cap,cur,rfl,_⟩
   ·exact ⟨none,0,rfl⟩
   ·exact ⟨_,cap,rfl⟩
  clear hF hP hown
  go_wp2
  go_ret
  exact ⟨zRC (by rw [hf.out]),hB⟩
 | [x],hF,hown,hP=>
  obtain ⟨q,e⟩:=x
  obtain ⟨g,cap,rfl,_,_⟩:=hown.form (by simp)
  have hc:=hown.cells (g:=g) rfl 1 (.int .i64 e) (by simp [zO3])
  have hc':w1.cell? ⟨g,1,none⟩=some (.int .i64 e):=hc
  clear hc hown
  by_cases he:e=1
  ·have hf:Hid (isP n=true):=zy (zJL.2 (hP.2 (by simp [he])))
   subst he
   clear hF hP
   go_wp2
   go_ret
   exact ⟨zRC (by rw [hf.out]),hB⟩
  ·have hf:Hid (isP n=false):=zy (zJK.2 (fun h=>he (by simpa using (hP.1 h).2)))
   have he':((e:Int) == 1)=false:=beq_eq_false_iff_ne.2 (by omega)
   clear hF hP
   go_wp2
   go_ret
   exact ⟨zRC (by rw [hf.out]),hB⟩
 | x :: y :: t,hF,hown,hP=>
  have hf:Hid (isP n=false):=zy (zJK.2 (fun h=>by have:=(hP.1 h).1;simp at this))
  obtain ⟨g,cap,rfl,_,_⟩:=hown.form (by simp)
  have hl:(((x :: y :: t).length:Int) == 1)=false:=beq_eq_false_iff_ne.2 (by simp;omega)
  generalize (x :: y :: t).length=k at *
  clear hF hP hown
  go_wp2
  go_ret
  exact ⟨zRC (by rw [hf.out]),hB⟩
theorem zMA (n:Int) (w:World) (h1:0≤n) (h2:n≤18446744073709551615):
  Calls Tryz.prog 154 #[.int .u64 n] w fun e w'=>e= .returned (.bool (decide (2<n) && decide (n≤65536) && isP n.toNat))∧Below w.heap.size w w':=by
 by_cases a:2<n
 ·by_cases b:n≤65536
  ·obtain ⟨k,rfl⟩:=Int.eq_ofNat_of_zero_le h1
   go_enter Tryz.func154,Tryz.ntmps154
   go_wp2_with (go_at_call 165;refine (zPe k _ (by omega) (by omega)).mono ?_;rintro e w1 ⟨rfl,hB⟩)
   go_ret
   exact ⟨zRC (by simp;omega),hB⟩
  ·go_enter Tryz.func154,Tryz.ntmps154
   go_wp2
   go_ret
   exact ⟨zRC (by simp;omega),Below.refl _ _⟩
 ·go_enter Tryz.func154,Tryz.ntmps154
  go_wp2
  go_ret
  exact ⟨zRC (by simp;omega),Below.refl _ _⟩
def pd (n:Int):Int:=
 if 4096<n then 0 else if n≤1 then 1 else if n≤2 then 2 else if n≤4 then 4 else if n≤8 then 8 else if n≤16 then 16 else if n≤32 then 32 else if n≤64 then 64 else if n≤128 then 128
 else if n≤256 then 256 else if n≤512 then 512 else if n≤1024 then 1024 else if n≤2048 then 2048 else 4096
def zA6 (n r:Int):Prop:=r=1∨((r=2∨r=4∨r=8∨r=16∨r=32∨r=64∨r=128∨r=256∨r=512∨r=1024∨r=2048∨r=4096)∧r<2*n)
theorem zA6.done {n r:Int} (h:zA6 n r) (hn:n≤4096) (hr:n≤r):r=pd n:=by
 unfold zA6 at h
 unfold pd
 rcases h with rfl|⟨rfl|rfl|rfl|rfl|rfl|rfl|rfl|rfl|rfl|rfl|rfl|rfl,h⟩
 all_goals (repeat rw [if_neg (by omega)])
 all_goals first|rfl|(rw [if_pos (by omega)])
theorem zA6.next {n r:Int} (h:zA6 n r) (hn:n≤4096) (hr:r<n):zA6 n (r*2)∧r≤2048∧1≤r:=by
 unfold zA6 at *
 omega
theorem zNF (n:Int) (w:World) (h0: -9223372036854775808≤n) (h1:n≤9223372036854775807):
  Calls Tryz.prog 86 #[.int .i64 n] w fun e w'=>e= .returned (.int .i64 (pd n))∧w=w':=by
 by_cases hb:4096<n
 ·go_enter Tryz.func86,Tryz.ntmps86
  go_wp2
  go_ret
  exact ⟨zRD (by unfold pd;rw [if_pos hb]),rfl⟩
 ·go_enter Tryz.func86,Tryz.ntmps86
  go_wp2
  go_loop [3] (fun R=> ∃r:Int,R= .int .i64 r∧zA6 n r) (fun R=>(8192-intOf R).toNat)
  case atStart=>exact ⟨1,rfl, .inl rfl⟩
  case round=>
   obtain ⟨r,rfl,hr⟩:=hrel
   by_cases hlt:r<n
   ·obtain ⟨h2,h3,h4⟩:=hr.next (by omega) hlt
    have H:=zy h2
    clear hr h2
    go_wp2
    go_round
    case rel=>exact ⟨r*2,rfl,H.out⟩
    case measure=>simp [intOf];omega
   ·have H:=zy (hr.done (by omega) (by omega))
    clear hr
    go_wp2
    go_ret
    exact ⟨zRD H.out,rfl⟩
end

section
open Alg (FacI IsFac Prime)
noncomputable def rpad (n:Int):Int:=if 3≤n∧n≤1024∧isP n.toNat=true then pd (2*n-3) else 0
theorem zSr (n:Int) (w:World) (h0: -9223372036854775808≤n) (h1:n≤9223372036854775807):
  Calls Tryz.prog 106 #[.int .i64 n] w fun e w'=>e= .returned (.int .i64 (rpad n))∧Below w.heap.size w w':=by
 by_cases a:3≤n
 ·by_cases b:n≤1024
  ·obtain ⟨k,rfl⟩:=Int.eq_ofNat_of_zero_le (show 0≤n by omega)
   by_cases hp:Prime k
   ·have hf:Hid (isP k=true):=zy (zJL.2 hp)
    have hr:Hid (pd (2*(k:Int)-3)=rpad k):=zy (by unfold rpad;rw [if_pos ⟨a,b,by simpa using hf.out⟩])
    go_enter Tryz.func106,Tryz.ntmps106
    go_wp2_with (first|(go_at_call 165;refine (zPe k _ (by omega) (by omega)).mono ?_;rintro e w1 ⟨rfl,hB⟩;rw [hf.out])|(go_at_call 86;refine (zNF _ _ (by omega) (by omega)).mono ?_;rintro e w2 ⟨rfl,rfl⟩))
    go_ret
    exact ⟨zRD hr.out,hB⟩
   ·have hf:Hid (isP k=false):=zy (zJK.2 hp)
    have hr:Hid (rpad k=0):=zy (by unfold rpad;rw [if_neg (fun h=>hp (zJL.1 (by simpa using h.2.2)))])
    go_enter Tryz.func106,Tryz.ntmps106
    go_wp2_with (go_at_call 165;refine (zPe k _ (by omega) (by omega)).mono ?_;rintro e w1 ⟨rfl,hB⟩;rw [hf.out])
    go_ret
    exact ⟨zRD hr.out.symm,hB⟩
  ·have hr:Hid (rpad n=0):=zy (by unfold rpad;rw [if_neg (fun h=>b h.2.1)])
   go_enter Tryz.func106,Tryz.ntmps106
   go_wp2
   go_ret
   exact ⟨zRD hr.out.symm,Below.refl _ _⟩
 ·have hr:Hid (rpad n=0):=zy (by unfold rpad;rw [if_neg (fun h=>a h.1)])
  go_enter Tryz.func106,Tryz.ntmps106
  go_wp2
  go_ret
  exact ⟨zRD hr.out.symm,Below.refl _ _⟩
end
end Go.Proofs.YtmalmijdjhkklaaGreat
