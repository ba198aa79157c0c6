/- Powers of two as lengths: radix2.Fits, the document's Fits; the document's Fault of layer 13. -/
import Derived.Test.YtmalmijdjhkklaaGreatW25
import Derived.Laws.BitsAllLaws
import Derived.Laws.BitsLemmas
import Derived.Test.YtmalmijdjhkklaaGreatW1
import Derived.Test.YtmalmijdjhkklaaGreatW9
import Derived.Test.YtmalmijdjhkklaaGreatW10
set_option linter.unusedVariables false
set_option linter.unusedSimpArgs false
set_option linter.unusedSectionVars false
set_option maxRecDepth 100000
set_option maxHeartbeats 16000000
namespace Go.Proofs.YtmalmijdjhkklaaGreat
section
open Go.RowKit
theorem zMN (a:Nat) (ha:a<9223372036854775808):(BitVec.ofInt 64 (a:Int)).toNat=a:=by
 rw [BitVec.ofInt_natCast,BitVec.toNat_ofNat];exact Nat.mod_eq_of_lt (by omega)
theorem zB8 (a b:Nat) (ha:a<9223372036854775808) (hb:b<9223372036854775808):bits .and .i64 (a:Int) (b:Int)=((a &&& b:Nat):Int):=by
 have hx:a &&& b<2^63:=Nat.and_lt_two_pow _ (by omega)
 show IntKind.i64.wrap ((BitVec.ofInt 64 (a:Int) &&& BitVec.ofInt 64 (b:Int)).toNat:Int)=_
 rw [BitVec.toNat_and,zMN a ha,zMN b hb,IntKind.wrap_i64]
 omega
def p2 (n:Int):Bool:=n == 1 || n == 2 || n == 4 || n == 8 || n == 16 || n == 32 || n == 64 || n == 128 || n == 256 || n == 512 || n == 1024 || n == 2048 || n == 4096
def p2N (n:Nat):Bool:=n == 1 || n == 2 || n == 4 || n == 8 || n == 16 || n == 32 || n == 64 || n == 128 || n == 256 || n == 512 || n == 1024 || n == 2048 || n == 4096
theorem zNB (n:Nat):p2 (n:Int)=p2N n:=by
 unfold p2 p2N
 rw [Bool.eq_iff_iff]
 simp only [Bool.or_eq_true,beq_iff_eq]
 omega
theorem zNE:((List.range 4097).all fun n=>decide (n=0) || ((n &&& (n-1)) == 0) == p2N n)=true:=by decide +kernel
theorem zNA (n:Nat) (h1:1≤n) (h2:n≤4096):((n &&& (n-1)) == 0)=p2N n:=by
 have h:=List.all_eq_true.1 zNE n (List.mem_range.2 (by omega))
 simp only [Bool.or_eq_true,decide_eq_true_eq,beq_iff_eq] at h
 rcases h with h|h
 ·omega
 ·exact h
theorem zND {n:Int} (h:p2 n=true):1≤n∧n≤4096:=by
 unfold p2 at h
 simp only [Bool.or_eq_true,beq_iff_eq] at h
 omega
theorem zHm (n:Int) (w:World) (h0: -9223372036854775808≤n) (h1:n≤9223372036854775807):
  Calls Tryz.prog 103 #[.int .i64 n] w fun e w'=>e= .returned (.bool (p2 n))∧w=w':=by
 by_cases hr:1≤n∧n≤4096
 ·obtain ⟨m,rfl⟩:=Int.eq_ofNat_of_zero_le (show 0≤n by omega)
  have e1:(m:Int)-1=((m-1:Nat):Int):=by omega
  have hb:(bits .and .i64 (m:Int) ((m:Int)-1) == 0)=p2 m:=by
   rw [e1,zB8 m (m-1) (by omega) (by omega),zNB,←zNA m (by omega) (by omega)]
   rw [Bool.eq_iff_iff];simp only [beq_iff_eq];omega
  have HB:=zy hb
  obtain ⟨z,hz⟩: ∃z,z=bits .and .i64 (m:Int) ((m:Int)-1):=⟨_,rfl⟩
  have hze:bits .and .i64 (m:Int) ((m:Int)-1)=z:=hz.symm
  have HB2:Hid ((z == 0)=p2 m):=zy (by rw [hz];exact hb)
  clear hb e1 hz
  go_enter Tryz.func103,Tryz.ntmps103
  go_wp2
  go_ret
  exact ⟨by rw [←HB2.out];first|rfl|(rw [hze]),rfl⟩
 ·have hz:Hid (p2 n=false):=zy (by
   rw [Bool.eq_false_iff];intro h;exact hr (zND h))
  have t:decide (0<n)=false∨(decide (0<n)=true∧decide (n≤4096)=false):=by
   by_cases a:0<n
   ·exact .inr ⟨by simpa using a,by simp;omega⟩
   ·exact .inl (by simpa using a)
  clear hr
  rcases t with t|⟨t,t'⟩
  all_goals
   go_enter Tryz.func103,Tryz.ntmps103
   go_wp2
   go_ret
   exact ⟨by rw [hz.out];first|rfl|simp,rfl⟩
def p2b (n k:Int):Bool:=p2 n && decide (n<k)
theorem zPC (n:Int) (w:World) (h0: -9223372036854775808≤n) (h1:n≤9223372036854775807):
  Calls Tryz.prog 109 #[.int .i64 n] w fun e w'=>e= .returned (.bool (p2 n))∧w=w':=by
 go_enter Tryz.func109,Tryz.ntmps109
 go_wp2
 go_loopw [3] (fun K wr=> ∃k:Int,K= .int .i64 k∧Hid (p2 k=true∨k=8192)∧1≤k∧k≤8192∧Hid (p2b n k=false)∧wr=w) (fun K _=>(8192-intOf K).toNat)
 case atStart=>exact ⟨1,rfl,zy (.inl (by decide)),by omega,by omega,zy (by
  unfold p2b
  rw [Bool.eq_false_iff];intro h
  simp only [Bool.and_eq_true,decide_eq_true_eq] at h
  have:=zND h.1
  omega),rfl⟩
 case round=>
  obtain ⟨k,rfl,hk2,hk1,hk8,hb,rfl⟩:=hrel
  by_cases hlt:k≤4096
  ·by_cases he:n=k
   ·have t:(n == k)=true:=by simp [he]
    have HP:Hid (p2 n=true):=zy (by
     rcases hk2.out with h|h
     ·rw [he];exact h
     ·omega)
    clear he
    go_wp2
    go_ret
    exact ⟨by rw [HP.out];first|rfl|simp,rfl⟩
   ·have t:(n == k)=false:=by simp [he]
    have hk3:Hid (p2 (2*k)=true∨2*k=8192):=zy (by
     rcases hk2.out with h|h
     ·unfold p2 at h ⊢
      simp only [Bool.or_eq_true,beq_iff_eq] at h ⊢
      omega
     ·omega)
    have hb3:Hid (p2b n (2*k)=false):=zy (by
     have h2:=hb.out
     have h3:=hk2.out
     rw [Bool.eq_false_iff] at h2 ⊢
     intro h4
     apply h2
     unfold p2b p2 at *
     simp only [Bool.and_eq_true,Bool.or_eq_true,beq_iff_eq,decide_eq_true_eq] at *
     refine ⟨h4.1,?_⟩
     omega)
    clear he
    go_wp2
    go_roundw
    case rel=>exact ⟨2*k,by first|rfl|go_num,hk3,by omega,by omega,hb3,by trivial⟩
    case measure=>simp [intOf];omega
  ·have HP:Hid (p2 n=false):=zy (by
    have h2:=hb.out
    rw [Bool.eq_false_iff] at h2 ⊢
    intro h4
    apply h2
    have:=zND h4
    unfold p2b
    rw [h4];simp;omega)
   go_wp2
   go_ret
   exact ⟨by rw [HP.out];first|rfl|simp,rfl⟩
def zGD (p:Int) (L:List Int):Int:=if chk p L.length 4096≠0 then chk p L.length 4096 else if p2 L.length=false then 11 else if zI1 p L=false then 9 else 0
end

section
open Go.RowKit
open Alg
theorem zQu {p:Nat} {w:World} {v:Value} {g:Int} (h:Fd w w.heap.size v p g) (A:Option Addr) (c:Nat) (L:List Int) (hl:L.length≤140737488351232) (hU:U64s L) (hR:RdI w w.heap.size .u64 A L):
  Calls Tryz.prog 114 #[v, .slice A L.length c] w fun e w'=>e= .returned (.int .i64 (zGD p L))∧w=w':=by
 have hC:=zy (fun m=>zDT h L.length m (by omega) (by omega))
 have hG:=zy (zI6 h A c w.heap.size L hl hU hR)
 have hF:=zy (fun w=>zHm L.length w (by omega) (by omega))
 have HV:Hid (zGD p L=if chk p L.length 4096≠0 then chk p L.length 4096 else if p2 L.length=false then 11 else if zI1 p L=false then 9 else 0):=zy rfl
 clear h hU hR
 by_cases c1:chk p L.length 4096=0
 ·have hC2:=zy (hC.out 4096)
  rw [c1] at hC2
  by_cases c2:p2 L.length=false
  ·have HV2:Hid (zGD p L=11):=zy (by rw [HV.out,if_neg (by simp [c1]),if_pos c2])
   rw [c2] at hF
   clear c1 c2 hC
   go_enter Tryz.func114,Tryz.ntmps114
   go_wp2_with fail
   refine hC2.out.mono ?_
   rintro e w1 ⟨rfl,rfl⟩
   go_wp2_with fail
   refine (hF.out _).mono ?_
   rintro e w1 ⟨rfl,rfl⟩
   go_wp2
   go_ret
   exact ⟨by rw [HV2.out];first|rfl|simp,rfl⟩
  ·have c2':p2 L.length=true:=by simpa using c2
   rw [c2'] at hF
   obtain ⟨b,hb⟩: ∃b,b=zI1 p L:=⟨_,rfl⟩
   rw [←hb] at hG
   have HV2:Hid (zGD p L=if b=false then 9 else 0):=zy (by rw [HV.out,if_neg (by simp [c1]),if_neg c2,hb])
   clear c1 c2 c2' hC hb HV
   go_enter Tryz.func114,Tryz.ntmps114
   go_wp2_with fail
   refine hC2.out.mono ?_
   rintro e w1 ⟨rfl,rfl⟩
   go_wp2_with fail
   refine (hF.out _).mono ?_
   rintro e w1 ⟨rfl,rfl⟩
   go_wp2_with fail
   refine hG.out.mono ?_
   rintro e w1 ⟨rfl,rfl⟩
   cases b
   ·go_wp2
    go_ret
    exact ⟨by rw [HV2.out];first|rfl|simp,rfl⟩
   ·go_wp2
    go_ret
    exact ⟨by rw [HV2.out];first|rfl|simp,rfl⟩
 ·have HV2:Hid (zGD p L=chk p L.length 4096):=zy (by rw [HV.out,if_pos c1])
  have hC2:=zy (hC.out 4096)
  obtain ⟨z,hz⟩: ∃z,z=chk p L.length 4096:=⟨_,rfl⟩
  rw [←hz] at hC2 HV2 c1
  have t:(z != 0)=true:=by simp [c1]
  clear hz c1 hC
  go_enter Tryz.func114,Tryz.ntmps114
  go_wp2_with fail
  refine hC2.out.mono ?_
  rintro e w1 ⟨rfl,rfl⟩
  go_wp2
  go_ret
  exact ⟨by rw [HV2.out];first|rfl|simp,rfl⟩
theorem zCv {k:Nat} (h:k≤12):Lib.bitLen (2^k)=k+1:=by
 have:((List.range 13).all fun k=>Lib.bitLen (2^k) == k+1)=true:=by decide +kernel
 exact beq_iff_eq.1 (List.all_eq_true.1 this k (List.mem_range.2 (by omega)))
theorem zVF (k:Nat) (A:Option Addr) (c:Nat) (L:List Int) (w:World) (hk:k≤12) (hl:L.length=2^k) (hU:U64s L) (hR:RdI w w.heap.size .u64 A L):
  Calls Tryz.prog 119 #[.slice A L.length c] w fun r w'=> ∃V,r= .returned V∧OwnU w' w.heap.size V L.length (full L.length fun j=>L.getD (rev k j) 0)∧Below w.heap.size w w':=by
 obtain ⟨i0,hi,hz0,hz1,hz2⟩:=info_parts zJt
 have hl2:L.length≤4096:=by rw [hl];exact zO1 hk
 have hl1:1≤L.length:=by rw [hl];exact Nat.pow_pos (by omega)
 have hbl:Lib.bitLen L.length=k+1:=by rw [hl];exact zCv hk
 have hLn:=zy (fun w=>len_any L.length w (by omega) (by omega))
 rw [Int.toNat_natCast,hbl] at hLn
 have HL:=zy hl
 have hz:List.replicate L.length 0=trow k L 0:=by rw [zV1,hl]
 have hf:(full L.length fun j=>L.getD (rev k j) 0)=trow k L L.length:=by rw [hl,zVy]
 rw [hf]
 have HZ:=zy hz
 have HT:Hid (∀i,i<L.length→(trow k L i).set (rev k i) (L.getD i 0)=trow k L (i+1)):=zy (fun i hi=>zV0 (by rw [←HL.out];exact hi))
 have HB:Hid (∀(i:Nat) (w:World),i<L.length→Calls Tryz.prog 170 #[.int .i64 i, .int .i64 k] w fun e w'=>e= .returned (.int .i64 (rev k i))∧w=w'):=zy (fun i w hi=>zCz i k w hk (by rw [←HL.out];exact hi))
 have HRv:Hid (∀i,rev k i<L.length):=zy (fun i=>by rw [HL.out];exact zRG k i)
 have ek:IntKind.i64.wrap (((k+1:Nat):Int)-1)=(k:Int):=by rw [show (((k+1:Nat):Int)-1)=(k:Int) by omega];exact IntWalk.i64_in _ (by omega)
 have EK:=zy ek
 clear hl hbl hf hz ek hU
 go_enter Tryz.func119,Tryz.ntmps119
 go_wp2_with fail
 refine (hLn.out _).mono ?_
 rintro e w1 ⟨rfl,rfl⟩
 have e1:((k+1:Nat):Int)-1=(k:Int):=by omega
 go_wp2_with (at_make;refine wpList_make_full _ rfl _ _ 54 rfl w.heap.size 22 i0 (.int .u64 0) 1 Tryz.underlying54 hi hz0 hz1 _ _ _ _ L.length rfl rfl ?l1 ?l2 ?b2 ?b3 (Nat.le_refl _) ?_)
 case l1=>omega
 case l2=>omega
 case b2=>rw [hz2];omega
 case b3=>unfold maxLen;omega
 intro w3 hown hgrow
 have hown0:OwnU w3 w.heap.size (.slice (some ⟨w.heap.size,0,none⟩) L.length L.length) L.length (trow k L 0):=by
  unfold OwnU
  rw [←HZ.out,zJC,←toList_madeCells_one];exact hown
 have hB3:Below w.heap.size w w3:=(Below.refl _ _).grown hgrow (Nat.le_refl _) (fun k h=>by cases h)
 obtain ⟨G,hG⟩: ∃G,G=w.heap.size:=⟨_,rfl⟩
 rw [←hG] at hown0
 have hGb:w.heap.size≤G:=by omega
 rw [←hG]
 have hown1:=hown0.mono (show G≤G by omega)
 clear hown hgrow hown0 e1 hG
 go_wp2
 go_loopw [17] (fun I wr=> ∃i:Nat,I= .int .i64 i∧i≤L.length∧OwnU wr G (.slice (some ⟨G,0,none⟩) L.length L.length) L.length (trow k L i)∧Below w.heap.size w wr) (fun I _=>L.length-(intOf I).toNat)
 case atStart=>exact ⟨0,rfl,by omega,hown1,hB3⟩
 case round=>
  clear hown1 hB3
  obtain ⟨i,rfl,hil,hown,hB⟩:=hrel
  by_cases hlt:i<L.length
  ·obtain ⟨b,o',rfl,hbl,hcell⟩:=hR (by omega)
   have d:=zDs hB hbl (hcell i hlt)
   obtain ⟨x,hx⟩: ∃x,x=L.getD i 0:=⟨_,rfl⟩
   rw [←hx] at d
   have hst:=HT.out i hlt
   rw [←hx] at hst
   have hrl:=HRv.out i
   have hBi:=zy (HB.out i)
   obtain ⟨j,hj⟩: ∃j,j=rev k i:=⟨_,rfl⟩
   rw [←hj] at hst hrl hBi
   obtain ⟨hset,hce,hfr,_⟩:=hown.set j hrl x
   rw [hst] at hset
   have HS:=zy hset
   clear hst hset hx hj hcell hown hR
   go_wp2_with fail
   refine (hBi.out _ hlt).mono ?_
   rintro e w4 ⟨rfl,rfl⟩
   go_wp2
   go_roundw
   case rel=>exact ⟨i+1,by go_num,by omega,HS.out,hB.setCell hGb _⟩
   case measure=>simp [intOf];omega
  ·obtain rfl:i=L.length:=by omega
   have HO:=zy (hown.mono hGb)
   clear hown
   go_wp2
   go_ret
   exact ⟨_,rfl,HO.out,hB⟩
theorem zGf (v:Value) (A:Option Addr) (c n:Nat) (w:World):Calls Tryz.prog 118 #[v, .slice A n c, .bool false] w fun e w'=>e= .returned (.slice A n c)∧w=w':=by
 go_enter Tryz.func118,Tryz.ntmps118
 go_wp2
 go_ret
 exact ⟨rfl,rfl⟩
theorem zGe {p:Nat} [NeZero p] {w:World} {v:Value} {g:Int} (hp:Prime p) (h:Fd w w.heap.size v p g) (V:Value) (B n:Nat) (F:Nat→Fin p) (inv:Bool) (hd:n∣p-1) (hn0:0<n) (hn:n≤4096) (hO:OwnU w B V n (lst n F)) (hB:B≤w.heap.size):
  Calls Tryz.prog 118 #[v,V, .bool inv] w fun r w'=> ∃V',r= .returned V'∧OwnU w' B V' n (lst n fun i=>sc p n inv*F i)∧Below w.heap.size w w':=by
 obtain ⟨A,c,rfl,hR⟩:=hO.rd
 cases inv with
 | false=>
  refine (zGf v A c n w).mono ?_
  rintro e w' ⟨rfl,rfl⟩
  refine ⟨_,rfl,?_,Below.refl _ _⟩
  have:(lst n fun i=>sc p n false*F i)=lst n F:=zKW fun i _=>by show (1:Fin p)*_=_;grind
  rw [this];exact hO
 | true=>
  have pm:=h.pmx
  have hS:=zTa h A c (lst n F) (by rw [zLb];omega) (zLd pm _ _) hR
  rw [zLb] at hS
  have HS:=zy hS
  have he:Hid (∀t,zAw p n t→(full n fun i=>t*(lst n F).getD i 0%(p:Int))=lst n fun i=>sc p n true*F i):=zy (fun t ht=>zHQ fun i hi=>by
   rw [zKY hi,zGv,zt_of_val,zSY hp hd hn0 ht])
  clear hS hR hO
  go_enter Tryz.func118,Tryz.ntmps118
  go_wp2_with fail
  refine HS.out.mono ?_
  rintro e w1 ⟨V,t,rfl,ht,hO,hB1⟩
  rw [he.out t ht] at hO
  have HO:=zy (hO.mono hB)
  clear hO ht
  go_wp2
  go_ret
  exact ⟨_,rfl,HO.out,hB1⟩
end

section
open Alg
section
variable {p:Nat} [NeZero p]
theorem zVi {G:Fin p} {n:Nat} {inv:Bool} {F F':Nat→Fin p} (h: ∀j,j<n→F j=F' j) (i:Nat):tr G n inv F i=tr G n inv F' i:=by
 show _*dft _ n F i=_*dft _ n F' i
 rw [dft_congr h]
theorem zVn (G:Fin p) (n:Nat) (inv:Bool) (F:Nat→Fin p) (i:Nat):tr G n inv (rz p (lst n F)) i=tr G n inv F i:=zVi (fun j hj=>zSG hj) i
theorem zEm {q n a b:Int} (h:chk q n a=0) (hab:a≤b):chk q n b=0:=by
 obtain ⟨h1,h2,h3⟩:=zEq h
 unfold chk
 rw [if_neg (by omega),if_neg (by omega),if_pos h3]
theorem zGG {q:Int} {L:List Int} (h1:chk q L.length 4096=0) (h2:p2 L.length=true) (h3:zI1 q L=true):zGD q L=0:=by
 unfold zGD
 rw [if_neg (by simp [h1]),if_neg (by simp [h2]),if_neg (by simp [h3])]
theorem zGF {n:Nat} (F:Nat→Fin p) (h1:chk p n 4096=0) (h2:p2 (n:Int)=true):zGD p (lst n F)=0:=zGG (by rw [zLb];exact h1) (by rw [zLb];exact h2) (zKZ _ _)
end
end

section
open Go.RowKit
open Alg
def fitR (r p:Int):Bool:=decide (0<r) && ((p-1)%r == 0)
def zGP (r p:Int) (L:List Int):Int:=if chk p L.length 1024≠0 then chk p L.length 1024 else if fitR r p=false then 11 else if zI1 p L=false then 9 else 0
theorem zGR {r p:Int} {L:List Int} (h:zGP r p L=0):chk p L.length 1024=0∧fitR r p=true∧zI1 p L=true:=by
 unfold zGP at h
 split at h
 ·rename_i h1;exact absurd h h1
 ·rename_i h1
  split at h
  ·omega
  ·rename_i h2
   split at h
   ·omega
   ·rename_i h3
    exact ⟨by simpa using h1,by simpa using h2,by simpa using h3⟩
theorem zOc {m:Int} (h:m≤4096):p2 (pd m)=true∧m≤pd m∧1≤pd m∧pd m≤4096:=by
 rcases (show m≤1∨(1<m∧m≤2)∨(2<m∧m≤4)∨(4<m∧m≤8)∨(8<m∧m≤16)∨(16<m∧m≤32)∨(32<m∧m≤64)∨(64<m∧m≤128)∨(128<m∧m≤256)∨(256<m∧m≤512)∨(512<m∧m≤1024)∨(1024<m∧m≤2048)∨(2048<m∧m≤4096) by omega) with h|h|h|h|h|h|h|h|h|h|h|h|h
 all_goals (unfold pd;(repeat rw [if_neg (by omega)]);(try rw [if_pos (by omega)]);exact ⟨by decide,by omega,by omega,by omega⟩)
theorem zHd {r p:Int} (h:fitR r p=true) (h1:r≤4096):chk p r 4096=0:=by
 unfold fitR at h
 simp only [Bool.and_eq_true,decide_eq_true_eq,beq_iff_eq] at h
 unfold chk
 rw [if_neg (by omega),if_neg (by omega),if_pos h.2]
end

section
open Go.RowKit
open Alg
def cpad (n:Int):Int:=if 1≤n∧n≤1024 then pd (2*n-1) else 0
theorem zET (n:Int):0≤cpad n∧cpad n≤4096:=by
 unfold cpad
 split
 ·rename_i h
  have:=zOc (show 2*n-1≤4096 by omega)
  omega
 ·omega
theorem zES (n:Int) (w:World) (h0: -9223372036854775808≤n) (h1:n≤9223372036854775807):
  Calls Tryz.prog 107 #[.int .i64 n] w fun e w'=>e= .returned (.int .i64 (cpad n))∧w=w':=by
 by_cases a:1≤n
 ·by_cases b:n≤1024
  ·have HV:Hid (pd (2*n-1)=cpad n):=zy (by unfold cpad;rw [if_pos ⟨a,b⟩])
   have hP:=zy (fun w=>zNF (2*n-1) w (by omega) (by omega))
   obtain ⟨z,hz⟩: ∃z,z=pd (2*n-1):=⟨_,rfl⟩
   rw [←hz] at hP HV
   have t1:decide (n<1)=false:=by simp;omega
   have t2:decide (1024<n)=false:=by simp;omega
   clear hz
   go_enter Tryz.func107,Tryz.ntmps107
   go_wp2_with fail
   refine (hP.out _).mono ?_
   rintro e w1 ⟨rfl,rfl⟩
   go_wp2
   go_ret
   exact ⟨zRD HV.out,rfl⟩
  ·have HV:Hid (cpad n=0):=zy (by unfold cpad;rw [if_neg (by omega)])
   have t1:decide (n<1)=false:=by simp;omega
   have t2:decide (1024<n)=true:=by simp;omega
   go_enter Tryz.func107,Tryz.ntmps107
   go_wp2
   go_ret
   exact ⟨zRD HV.out.symm,rfl⟩
 ·have HV:Hid (cpad n=0):=zy (by unfold cpad;rw [if_neg (by omega)])
  have t1:decide (n<1)=true:=by simp;omega
  go_enter Tryz.func107,Tryz.ntmps107
  go_wp2
  go_ret
  exact ⟨zRD HV.out.symm,rfl⟩
theorem zRs (n:Int) (w:World) (h0: -9223372036854775808≤n) (h1:n≤9223372036854775807):
  Calls Tryz.prog 112 #[.int .i64 n] w fun e w'=>e= .returned (.int .i64 (cpad n))∧w=w':=by
 by_cases a:1≤n
 ·by_cases b:n≤1024
  ·have HV:Hid (pd (2*n-1)=cpad n):=zy (by unfold cpad;rw [if_pos ⟨a,b⟩])
   have hP:=zy (fun w=>zSp (2*n-1) w (by omega) (by omega))
   obtain ⟨z,hz⟩: ∃z,z=pd (2*n-1):=⟨_,rfl⟩
   rw [←hz] at hP HV
   have t1:decide (n<1)=false:=by simp;omega
   have t2:decide (1024<n)=false:=by simp;omega
   clear hz
   go_enter Tryz.func112,Tryz.ntmps112
   go_wp2_with fail
   refine (hP.out _).mono ?_
   rintro e w1 ⟨rfl,rfl⟩
   go_wp2
   go_ret
   exact ⟨zRD HV.out,rfl⟩
  ·have HV:Hid (cpad n=0):=zy (by unfold cpad;rw [if_neg (by omega)])
   have t1:decide (n<1)=false:=by simp;omega
   have t2:decide (1024<n)=true:=by simp;omega
   go_enter Tryz.func112,Tryz.ntmps112
   go_wp2
   go_ret
   exact ⟨zRD HV.out.symm,rfl⟩
 ·have HV:Hid (cpad n=0):=zy (by unfold cpad;rw [if_neg (by omega)])
  have t1:decide (n<1)=true:=by simp;omega
  go_enter Tryz.func112,Tryz.ntmps112
  go_wp2
  go_ret
  exact ⟨zRD HV.out.symm,rfl⟩
theorem zDE {w:World} {B:Nat} {v:Value} {p g:Int} (h:Fd w B v p g) (n:Int) (h0: -9223372036854775808≤n) (h1:n≤9223372036854775807):
  Calls Tryz.prog 132 #[v, .int .i64 n] w fun e w'=>e= .returned (.bool (fitR (cpad n) p))∧w=w':=by
 obtain ⟨r0,r1⟩:=zET n
 have hD:Hid (Calls Tryz.prog 55 #[v, .int .i64 (cpad n)] w fun e w'=>e= .returned (.bool (fitR (cpad n) p))∧w=w'):=zy (zFG h (cpad n) (by omega) (by omega))
 have hP:=zy (zES n w h0 h1)
 obtain ⟨b,hb⟩: ∃b,b=fitR (cpad n) p:=⟨_,rfl⟩
 obtain ⟨z,hz⟩: ∃z,z=cpad n:=⟨_,rfl⟩
 rw [←hb,←hz] at hD
 rw [←hz] at hP
 rw [←hb]
 clear hb hz h
 go_enter Tryz.func132,Tryz.ntmps132
 go_wp2_with fail
 refine hP.out.mono ?_
 rintro e w1 ⟨rfl,rfl⟩
 go_wp2_with fail
 refine hD.out.mono ?_
 rintro e w2 ⟨rfl,rfl⟩
 go_wp2
 go_ret
 exact ⟨rfl,rfl⟩
def chf (k n:Int):Int:=if 1≤n∧n≤1024∧0≤k∧k≤2048 then ((tri k.toNat%n.toNat:Nat):Int) else 0
theorem zEa {k n:Nat} (h1:1≤n) (h2:n≤1024) (h3:k≤2048):chf k n=((tri k%n:Nat):Int):=by
 unfold chf
 rw [if_pos ⟨by omega,by omega,by omega,by omega⟩,Int.toNat_natCast,Int.toNat_natCast]
theorem zDP (k n:Int) (w:World) (k0: -9223372036854775808≤k) (k1:k≤9223372036854775807) (h0: -9223372036854775808≤n) (h1:n≤9223372036854775807):
  Calls Tryz.prog 133 #[.int .i64 k, .int .i64 n] w fun e w'=>e= .returned (.int .i64 (chf k n))∧w=w':=by
 by_cases hc:1≤n∧n≤1024∧0≤k∧k≤2048
 ·obtain ⟨c1,c2,c3,c4⟩:=hc
  obtain ⟨m,rfl⟩:=Int.eq_ofNat_of_zero_le (show 0≤n by omega)
  obtain ⟨j,rfl⟩:=Int.eq_ofNat_of_zero_le c3
  have hb:j*(j-1)≤2048*2048:=Nat.mul_le_mul (by omega) (by omega)
  have e1:(j:Int)*((j:Int)-1)=((j*(j-1):Nat):Int):=by
   rcases Nat.eq_zero_or_pos j with h|h
   ·subst h;rfl
   ·rw [Int.natCast_mul,show ((j-1:Nat):Int)=(j:Int)-1 by omega]
  have HV:Hid (((j*(j-1):Nat):Int)/2%(m:Int)=chf j m):=zy (by
   rw [zEa (by omega) (by omega) (by omega),←zVr,Int.natCast_emod,Int.natCast_ediv];rfl)
  obtain ⟨z,hz⟩: ∃z,z=j*(j-1):=⟨_,rfl⟩
  rw [←hz] at e1 HV hb
  have t1:decide ((m:Int)<1)=false:=by simp;omega
  have t2:decide ((1024:Int)<m)=false:=by simp;omega
  have t3:decide ((j:Int)<0)=false:=decide_eq_false (by omega)
  have t4:decide ((2048:Int)<j)=false:=by simp;omega
  have t5:((m:Int) == 0)=false:=by simp;omega
  clear hz
  go_enter Tryz.func133,Tryz.ntmps133
  go_wp2
  go_ret
  exact ⟨zRD HV.out,rfl⟩
 ·have HV:Hid (chf k n=0):=zy (by unfold chf;rw [if_neg hc])
  by_cases c1:n<1
  ·have t1:decide (n<1)=true:=by simp;omega
   clear hc
   go_enter Tryz.func133,Tryz.ntmps133
   go_wp2
   go_ret
   exact ⟨zRD HV.out.symm,rfl⟩
  ·have t1:decide (n<1)=false:=by simp;omega
   by_cases c2:1024<n
   ·have t2:decide (1024<n)=true:=by simp;omega
    clear hc
    go_enter Tryz.func133,Tryz.ntmps133
    go_wp2
    go_ret
    exact ⟨zRD HV.out.symm,rfl⟩
   ·have t2:decide (1024<n)=false:=by simp;omega
    by_cases c3:k<0
    ·have t3:decide (k<0)=true:=by simp;omega
     clear hc
     go_enter Tryz.func133,Tryz.ntmps133
     go_wp2
     go_ret
     exact ⟨zRD HV.out.symm,rfl⟩
    ·have t3:decide (k<0)=false:=by simp;omega
     have t4:decide (2048<k)=true:=by simp;omega
     clear hc
     go_enter Tryz.func133,Tryz.ntmps133
     go_wp2
     go_ret
     exact ⟨zRD HV.out.symm,rfl⟩
end

section
open Go.RowKit
def ldiv (n:Nat):Nat:=if n%2=0 then 2 else if n%3=0 then 3 else if n%5=0 then 5 else if n%7=0 then 7 else 8
theorem zKt (n:Nat):2≤ldiv n∧ldiv n≤8:=by
 unfold ldiv
 split; · omega
 split; · omega
 split; · omega
 split <;> omega
def rad (n:Nat):Option (List Nat):=if n≤1 then some [] else if ldiv n=8 then none else (rad (n/ldiv n)).map (ldiv n :: ·)
termination_by n
decreasing_by exact Nat.div_lt_self (by omega) (by have:=zKt n;omega)
theorem zQR {n:Nat} (h:n≤1):rad n=some []:=by rw [rad,if_pos h]
theorem zQQ {n:Nat} (h:1<n) (h8:ldiv n=8):rad n=none:=by rw [rad,if_neg (by omega),if_pos h8]
theorem zQT {n r:Nat} (h:1<n) (hr:ldiv n=r) (h8:r≠8):rad n=(rad (n/r)).map (r :: ·):=by
 rw [rad,if_neg (by omega),if_neg (by rw [hr];exact h8),hr]
def prK (i:Nat):Nat:=if i=0 then 2 else if i=1 then 3 else if i=2 then 5 else 7
theorem zOO (i:Nat):2≤prK i∧prK i≤7:=by
 unfold prK
 split; · omega
 split; · omega
 split <;> omega
theorem zON (i:Nat) (h:i<4):(#[Value.int .i64 2, .int .i64 3, .int .i64 5, .int .i64 7]:Array Value)[i]? =some (.int .i64 ((prK i:Nat):Int)):=by
 match i,h with
 | 0,_=>rfl
 | 1,_=>rfl
 | 2,_=>rfl
 | 3,_=>rfl
def zA4 (n i:Nat):Prop:= ∀j,j<i→n%prK j≠0
theorem zKn {n i:Nat} (hi:i<4) (hn:zA4 n i) (hd:n%prK i=0):ldiv n=prK i:=by
 unfold ldiv
 match i,hi with
 | 0,_=>rw [if_pos (show n%2=0 from hd)];rfl
 | 1,_=>rw [if_neg (show ¬n%2=0 from hn 0 (by omega)),if_pos (show n%3=0 from hd)];rfl
 | 2,_=>rw [if_neg (show ¬n%2=0 from hn 0 (by omega)),if_neg (show ¬n%3=0 from hn 1 (by omega)),if_pos (show n%5=0 from hd)];rfl
 | 3,_=>rw [if_neg (show ¬n%2=0 from hn 0 (by omega)),if_neg (show ¬n%3=0 from hn 1 (by omega)),if_neg (show ¬n%5=0 from hn 2 (by omega)),if_pos (show n%7=0 from hd)];rfl
theorem zKs {n:Nat} (hn:zA4 n 4):ldiv n=8:=by
 unfold ldiv
 rw [if_neg (show ¬n%2=0 from hn 0 (by omega)),if_neg (show ¬n%3=0 from hn 1 (by omega)),if_neg (show ¬n%5=0 from hn 2 (by omega)),if_neg (show ¬n%7=0 from hn 3 (by omega))]
theorem zMv {n i r:Nat} (hn:zA4 n i) (hd:n%r=0):zA4 (n/r) i:=fun j hj h=>by
 refine hn j hj (Nat.mod_eq_zero_of_dvd ?_)
 have h1:prK j∣n/r:=Nat.dvd_of_mod_eq_zero h
 have h2:n=r*(n/r):=by have:=Nat.div_add_mod n r;omega
 rw [h2]
 exact Nat.dvd_trans h1 (Nat.dvd_mul_left _ _)
theorem zMw {n i:Nat} (hn:zA4 n i) (hd:n%prK i≠0):zA4 n (i+1):=fun j hj=>by
 rcases Nat.lt_or_ge j i with h|h
 ·exact hn j h
 ·obtain rfl:j=i:=by omega
  exact hd
def RadW (n m:Nat) (L:List Nat):Prop:=rad n=(rad m).map (L ++ ·)∧1≤m∧m*2^L.length≤n
theorem zQM {n:Nat} (h:1≤n):RadW n n []:=⟨by cases rad n <;> simp,h,by simp⟩
theorem zQN {n m r:Nat} {L:List Nat} (h:RadW n m L) (hr:ldiv m=r) (h8:r≠8) (h1:1<m) (hd:m%r=0):RadW n (m/r) (L ++ [r]):=by
 obtain ⟨h2,h3,h4⟩:=h
 have hr2:=(zKt m).1
 rw [hr] at hr2
 have hm:m=r*(m/r):=by have:=Nat.div_add_mod m r;omega
 refine ⟨?_,Nat.div_pos (Nat.le_of_dvd (by omega) (Nat.dvd_of_mod_eq_zero hd)) (by omega),?_⟩
 ·rw [h2,zQT h1 hr h8,Option.map_map]
  congr 1
  funext x
  simp
 ·rw [List.length_append,List.length_singleton,Nat.pow_succ]
  have h5:m/r*(2^L.length*2)≤m*2^L.length:=by
   rw [Nat.mul_comm (2^L.length) 2,←Nat.mul_assoc]
   refine Nat.mul_le_mul_right _ ?_
   have:=Nat.mul_le_mul_right (m/r) hr2
   rw [Nat.mul_comm] at this
   omega
  omega
theorem zQK {n m:Nat} {L:List Nat} (h:RadW n m L) (hn:n≤1024):L.length≤10:=by
 obtain ⟨_,h3,h4⟩:=h
 rcases Nat.lt_or_ge 10 L.length with h1|h1
 ·have h5:2^11≤2^L.length:=Nat.pow_le_pow_right (by omega) h1
  have h6:1*2^L.length≤m*2^L.length:=Nat.mul_le_mul_right _ h3
  omega
 ·exact h1
theorem zQJ {n m:Nat} {L:List Nat} (h:RadW n m L):m≤n:=by
 obtain ⟨_,h3,h4⟩:=h
 have:=Nat.le_mul_of_pos_right m (Nat.two_pow_pos L.length)
 omega
theorem zQI {n:Nat} {L:List Nat} (h:RadW n 1 L):rad n=some L:=by rw [h.1,zQR (Nat.le_refl _)];simp
theorem zQL {n m:Nat} {L:List Nat} (h:RadW n m L) (h1:1<m) (h8:ldiv m=8):rad n=none:=by rw [h.1,zQQ h1 h8];rfl
def copB (n a:Int):Bool:=decide (1<a∧a<n∧n%a=0∧Nat.gcd a.toNat (n/a).toNat=1)
theorem zIj {a b:Nat} (ha:0<a):Nat.gcd a b=1↔ ∀d,2≤d→d≤a→ ¬(a%d=0∧b%d=0):=by
 constructor
 ·intro h d h2 _ ⟨ha',hb'⟩
  have:=Nat.dvd_gcd (Nat.dvd_of_mod_eq_zero ha') (Nat.dvd_of_mod_eq_zero hb')
  rw [h] at this
  have:=Nat.le_of_dvd (by omega) this
  omega
 ·intro h
  have h1:=Nat.gcd_dvd_left a b
  have h2:=Nat.gcd_dvd_right a b
  have h3:=Nat.gcd_pos_of_pos_left b ha
  rcases Nat.lt_or_ge (Nat.gcd a b) 2 with h4|h4
  ·omega
  ·exact absurd ⟨Nat.mod_eq_zero_of_dvd h1,Nat.mod_eq_zero_of_dvd h2⟩ (h _ h4 (Nat.le_of_dvd ha h1))
def zQD (n:Int):Bool:=decide (1≤n∧n≤1024) && (rad n.toNat).isSome
noncomputable def canB (K N A:Int):Bool:=
 decide (1≤N∧N≤1024) && (if K=0 then A == 0 else if K=1∨K=2 then A == 0 && p2 N else if K=3 then A == 0 && zQD N else if K=4 then copB N A
  else if K=5 then decide (0<A) && A == rpad N else if K=6 then A == cpad N else false)
def lg (n:Int):Int:=((Nat.log2 n.toNat:Nat):Int)
def halI (n:Int):Int:=n*3*lg n+n
def sumN (L:List Nat):Nat:=L.foldl (· + ·) 0
def radS (n:Int):Int:=((sumN ((rad n.toNat).getD []):Nat):Int)
noncomputable def zEK (K N A:Int):Int:=
 if K=0 then N*N else if K=1 then halI N else if K=2 then N*2*lg N+2*N else if K=3 then 2*N*radS N+N
  else if K=5 then 3*halI A+4*N else 3*halI A+6*N
noncomputable def zNO (n:Int):Int:=if zQD n then zEK 3 n 0 else n*n
noncomputable def zEO (K N A:Int):Int:=if K=4 then A*zNO (N/A)+N/A*zNO A+N else zEK K N A
end

section
open Alg
def prN (R:List Nat):Nat:=R.foldr (· * ·) 1
theorem zOS:prN []=1:=rfl
theorem zOQ (r:Nat) (R:List Nat):prN (r :: R)=r*prN R:=rfl
theorem zOP (P S:List Nat):prN (P ++ S)=prN P*prN S:=by
 induction P with
 | nil=>rw [List.nil_append,zOS,Nat.one_mul]
 | cons r P ih=>rw [List.cons_append,zOQ,zOQ,ih,Nat.mul_assoc]
theorem zOU (P:List Nat) (r:Nat):prN (P ++ [r])=prN P*r:=by rw [zOP,zOQ,zOS,Nat.mul_one]
def Two (R:List Nat):Prop:= ∀r ∈ R,2≤r∧r≤7
theorem Two.left {P S:List Nat} (h:Two (P ++ S)):Two P:=fun r hr=>h r (List.mem_append.2 (.inl hr))
theorem Two.right {P S:List Nat} (h:Two (P ++ S)):Two S:=fun r hr=>h r (List.mem_append.2 (.inr hr))
theorem Two.tail {r:Nat} {S:List Nat} (h:Two (r :: S)):Two S:=fun q hq=>h q (List.mem_cons_of_mem _ hq)
theorem Two.head {r:Nat} {S:List Nat} (h:Two (r :: S)):2≤r∧r≤7:=h r List.mem_cons_self
theorem zOT {R:List Nat} (h:Two R):0<prN R:=by
 induction R with
 | nil=>rw [zOS];omega
 | cons r R ih=>rw [zOQ];exact Nat.mul_pos (by have:=h.head;omega) (ih h.tail)
theorem zKr {n:Nat} (h8:ldiv n≠8):n%ldiv n=0∧ldiv n≤7:=by
 unfold ldiv at h8 ⊢
 split
 ·exact ⟨by assumption,by omega⟩
 ·rename_i h2
  rw [if_neg h2] at h8
  split
  ·exact ⟨by assumption,by omega⟩
  ·rename_i h3
   rw [if_neg h3] at h8
   split
   ·exact ⟨by assumption,by omega⟩
   ·rename_i h5
    rw [if_neg h5] at h8
    split
    ·exact ⟨by assumption,by omega⟩
    ·rename_i h7
     rw [if_neg h7] at h8
     exact absurd rfl h8
theorem zQS (n:Nat): ∀R,1≤n→rad n=some R→prN R=n∧Two R:=by
 induction n using Nat.strongRecOn with
 | _ n ih=>
  intro R h1 h
  by_cases hn:n≤1
  ·rw [zQR hn] at h
   obtain rfl: []=R:=Option.some.inj h
   exact ⟨by rw [zOS];omega,fun r hr=>by cases hr⟩
  ·by_cases h8:ldiv n=8
   ·rw [zQQ (by omega) h8] at h;cases h
   ·rw [zQT (by omega) rfl h8] at h
    cases hq:rad (n/ldiv n) with
    | none=>rw [hq] at h;cases h
    | some Q=>
     rw [hq] at h
     obtain rfl:ldiv n :: Q=R:=Option.some.inj h
     obtain ⟨hd,h7⟩:=zKr h8
     have h2:=zKt n
     obtain ⟨e1,e2⟩:=ih (n/ldiv n) (Nat.div_lt_self (by omega) (by omega)) Q (Nat.div_pos (Nat.le_of_dvd (by omega) (Nat.dvd_of_mod_eq_zero hd)) (by omega)) hq
     refine ⟨?_,fun r hr=>?_⟩
     ·rw [zOQ,e1];exact Nat.mul_div_cancel' (Nat.dvd_of_mod_eq_zero hd)
     ·rcases List.mem_cons.1 hr with rfl|hr
      ·exact ⟨h2.1,h7⟩
      ·exact e2 r hr
def zV4:List Nat→Nat→Nat
 | [],_=>0
 | r :: R,x=>x%r*prN R+zV4 R (x/r)
theorem zVE (r:Nat): ∀(P:List Nat) (x:Nat),zV4 (P ++ [r]) x=zV4 P x*r+x/prN P%r
 | [],x=>by simp [zV4,prN]
 | s :: P,x=>by
  show x%s*prN (P ++ [r])+zV4 (P ++ [r]) (x/s)=(x%s*prN P+zV4 P (x/s))*r+x/(s*prN P)%r
  rw [zVE r P,zOU,Nat.add_mul,Nat.mul_assoc,Nat.div_div_eq_div_mul];omega
theorem zVB: ∀(R:List Nat) (x:Nat),Two R→zV4 R x<prN R
 | [],x,_=>by rw [zV4,zOS];omega
 | r :: R,x,h=>by
  have h1:=zVB R (x/r) h.tail
  have h2:x%r<r:=Nat.mod_lt _ (by have:=h.head;omega)
  have h3:(x%r+1)*prN R≤r*prN R:=Nat.mul_le_mul_right _ h2
  rw [Nat.add_mul,Nat.one_mul] at h3
  rw [zV4,zOQ];omega
theorem zV9: ∀(R:List Nat) (x y:Nat),Two R→x<prN R→y<prN R→zV4 R x=zV4 R y→x=y
 | [],x,y,_,hx,hy,_=>by rw [zOS] at hx hy;omega
 | r :: R,x,y,h,hx,hy,he=>by
  rw [zV4,zV4] at he
  rw [zOQ] at hx hy
  have l1:=zVB R (x/r) h.tail
  have l2:=zVB R (y/r) h.tail
  have hr:0<r:=by have:=h.head;omega
  have key: ∀a b c d m:Nat,c<m→d<m→a*m+c=b*m+d→a=b∧c=d:=fun a b c d m hc hd e=>by
   have h1:(a*m+c)/m=a:=by rw [Nat.mul_comm,Nat.mul_add_div (by omega),Nat.div_eq_of_lt hc];rfl
   have h2:(b*m+d)/m=b:=by rw [Nat.mul_comm,Nat.mul_add_div (by omega),Nat.div_eq_of_lt hd];rfl
   have:a=b:=by rw [←h1,e,h2]
   subst this
   exact ⟨rfl,by omega⟩
  obtain ⟨e1,e2⟩:=key _ _ _ _ _ l1 l2 he
  have e3:=zV9 R (x/r) (y/r) h.tail (by rw [Nat.div_lt_iff_lt_mul hr,Nat.mul_comm];exact hx) (by rw [Nat.div_lt_iff_lt_mul hr,Nat.mul_comm];exact hy) e2
  rw [←Nat.div_add_mod x r,←Nat.div_add_mod y r,e1,e3]
theorem zVC: ∀(P:List Nat) (x q:Nat),Two P→zV4 P (x+prN P*q)=zV4 P x
 | [],x,q,_=>rfl
 | r :: P,x,q,h=>by
  have hr:0<r:=by have:=h.head;omega
  rw [zV4,zV4,zOQ,Nat.mul_assoc,Nat.add_mul_mod_self_left,Nat.add_mul_div_left _ _ hr,zVC P _ _ h.tail]
theorem zVD {P:List Nat} {r x q:Nat} (h:Two P) (hx:x<prN P) (hq:q<r):zV4 (P ++ [r]) (x+prN P*q)=zV4 P x*r+q:=by
 rw [zVE,zVC P x q h,Nat.add_mul_div_left _ _ (zOT h),Nat.div_eq_of_lt hx,Nat.zero_add,Nat.mod_eq_of_lt hq]
section
variable {p:Nat} [NeZero p]
theorem zTQ (r:Nat) (f:Nat→Fin p): ∀m,sm (r*m) f=sm r fun q=>sm m fun j=>f (q+r*j)
 | 0=>by
  rw [Nat.mul_zero,sm_zero]
  exact (sm_const0 r).symm
 | m+1=>by
  rw [Nat.mul_add,Nat.mul_one,sm_split,zTQ r f m,←sm_add]
  exact sm_congr fun q _=>by rw [sm_succ,Nat.add_comm (r*m) q]
theorem zTU (b:Nat) (f:Nat→Fin p): ∀a,sm (a*b) f=sm a fun i=>sm b fun j=>f (i*b+j)
 | 0=>by rw [Nat.zero_mul,sm_zero,sm_zero]
 | a+1=>by rw [Nat.add_mul,Nat.one_mul,sm_split,zTU b f a,sm_succ]
theorem zPv {u:Fin p} {m:Nat} (h:pw u m=1) (i j:Nat):pw u (i*j)=pw u (i%m*j):=by
 have:i*j=i%m*j+m*(i/m*j):=by
  have h1:=Nat.div_add_mod i m
  calc i*j=(m*(i/m)+i%m)*j:=by rw [h1]
   _=i%m*j+m*(i/m*j):=by rw [Nat.add_mul,Nat.mul_assoc];omega
 rw [this,pw_add,pw_mul u m,h,one_pw];grind
theorem zF4 {w:Fin p} {r m:Nat} (h:pw w (r*m)=1) (a:Nat→Fin p) (i:Nat):dft w (r*m) a i=sm r fun q=>pw w (q*i)*dft (pw w r) m (fun j=>a (q+r*j)) (i%m):=by
 unfold dft
 rw [zTQ]
 refine sm_congr fun q _=>?_
 rw [←sm_mul]
 refine sm_congr fun j _=>?_
 have h2:pw (pw w r) m=1:=by rw [←pw_mul];exact h
 rw [Nat.mul_add,pw_add,Nat.mul_comm i q,show i*(r*j)=r*(i*j) by rw [Nat.mul_left_comm],pw_mul w r (i*j),zPv h2 i j];grind
def stg (w:Fin p) (st r m:Nat) (F:Nat→Fin p) (i:Nat):Fin p:=sm r fun q=>pw w (q*(i%(r*m))*st)*F (i/(r*m)*(r*m)+q*m+i%m)
def mixU (w:Fin p) (F0:Nat→Fin p) (n:Nat):List Nat→Nat→Fin p
 | []=>F0
 | r :: S=>stg w (n/(r*prN S)) r (prN S) (mixU w F0 n S)
theorem zL6 {w:Fin p} {R:List Nat} (hR:Two R) (hw:pw w (prN R)=1) {F0 a:Nat→Fin p} (h0: ∀x,x<prN R→F0 (zV4 R x)=a x): ∀S P,P ++ S=R→ ∀x i,x<prN P→i<prN S→
  mixU w F0 (prN R) S (zV4 P x*prN S+i)=dft (pw w (prN P)) (prN S) (fun j=>a (x+prN P*j)) i:=by
 intro S
 induction S with
 | nil=>
  intro P hP x i hx hi
  rw [List.append_nil] at hP
  subst hP
  rw [zOS] at hi ⊢
  obtain rfl:i=0:=by omega
  rw [dft_one,Nat.mul_one,Nat.add_zero,Nat.mul_zero,Nat.add_zero]
  exact h0 x hx
 | cons r S ih=>
  intro P hP x i hx hi
  have hP2:Two P:=by subst hP;exact hR.left
  have hS2:Two (r :: S):=by subst hP;exact hR.right
  have hm:=zOT hS2.tail
  have hr:=hS2.head
  have hPr:(P ++ [r]) ++ S=R:=by rw [←hP];simp
  have hn:prN R=prN P*(r*prN S):=by rw [←hP,zOP,zOQ]
  have hrm:0<r*prN S:=Nat.mul_pos (by omega) hm
  rw [zOQ] at hi ⊢
  have e1:prN R/(r*prN S)=prN P:=by rw [hn];exact Nat.mul_div_cancel _ hrm
  have e2:(zV4 P x*(r*prN S)+i)%(r*prN S)=i:=by rw [Nat.add_comm,Nat.add_mul_mod_self_right,Nat.mod_eq_of_lt hi]
  have e3:(zV4 P x*(r*prN S)+i)/(r*prN S)=zV4 P x:=by rw [Nat.mul_comm,Nat.mul_add_div hrm,Nat.div_eq_of_lt hi];rfl
  have e4:(zV4 P x*(r*prN S)+i)%prN S=i%prN S:=by rw [←Nat.mul_assoc,Nat.add_comm,Nat.add_mul_mod_self_right]
  show stg w (prN R/(r*prN S)) r (prN S) (mixU w F0 (prN R) S) (zV4 P x*(r*prN S)+i)=_
  unfold stg
  rw [e1,e2,e3,e4]
  have hg:pw (pw w (prN P)) (r*prN S)=1:=by rw [←pw_mul,←hn];exact hw
  rw [zF4 hg]
  refine sm_congr fun q hq=>?_
  have h1:=ih (P ++ [r]) hPr (x+prN P*q) (i%prN S) (by
   rw [zOU]
   have:prN P*(q+1)≤prN P*r:=Nat.mul_le_mul_left _ hq
   rw [Nat.mul_add,Nat.mul_one] at this
   omega) (Nat.mod_lt _ hm)
  rw [zVD hP2 hx hq,zOU,pw_mul w (prN P) r] at h1
  rw [show zV4 P x*(r*prN S)+q*prN S+i%prN S=(zV4 P x*r+q)*prN S+i%prN S by rw [Nat.add_mul,Nat.mul_assoc],h1]
  congr 1
  ·rw [←pw_mul];congr 1;rw [Nat.mul_comm]
  ·congr 1
   funext j
   rw [Nat.mul_add,Nat.add_assoc,Nat.mul_assoc]
theorem zL5 {w:Fin p} {R:List Nat} (hR:Two R) (hw:pw w (prN R)=1) {F0 a:Nat→Fin p} (h0: ∀x,x<prN R→F0 (zV4 R x)=a x) (i:Nat) (hi:i<prN R):mixU w F0 (prN R) R i=dft w (prN R) a i:=by
 have h:=zL6 hR hw h0 R [] rfl 0 i (by rw [zOS];omega) hi
 rw [show zV4 [] 0=0 from rfl,Nat.zero_mul,Nat.zero_add,zOS,pw_one] at h
 rw [h]
 exact dft_congr (fun j _=>by rw [Nat.one_mul,Nat.zero_add]) i
def inP (a b t:Nat):Nat:=(b*(t/b)+a*(t%b))%(a*b)
theorem zEE {a b i j:Nat} (hg:Nat.gcd a b=1) (hi:i<a) (hj:j<a) (h:b*i%a=b*j%a):i=j:=by
 have key: ∀i j,i≤j→j<a→b*i%a=b*j%a→i=j:=fun i j hij hj h=>by
  have h1:=Nat.sub_mod_eq_zero_of_mod_eq h.symm
  rw [←Nat.mul_sub] at h1
  have h2:=Nat.Coprime.dvd_of_dvd_mul_left (show Nat.Coprime a b from hg) (Nat.dvd_of_mod_eq_zero h1)
  rcases Nat.eq_zero_or_pos (j-i) with e|e
  ·omega
  ·have:=Nat.le_of_dvd e h2
   omega
 rcases Nat.le_total i j with hij|hij
 ·exact key i j hij hj h
 ·exact (key j i hij hi h.symm).symm
theorem zJc {a b s t:Nat} (hg:Nat.gcd a b=1) (hs:s<a*b) (ht:t<a*b) (h:inP a b s=inP a b t):s=t:=by
 have hb:0<b:=by
  rcases Nat.eq_zero_or_pos b with e|e
  ·subst e;omega
  ·exact e
 unfold inP at h
 have s1:s/b<a:=by rw [Nat.div_lt_iff_lt_mul hb];exact hs
 have t1:t/b<a:=by rw [Nat.div_lt_iff_lt_mul hb];exact ht
 have h1:=congrArg (· %a) h
 have h2:=congrArg (· %b) h
 simp only [Nat.mod_mul_right_mod,Nat.mod_mul_left_mod,Nat.add_mul_mod_self_left] at h1 h2
 rw [Nat.add_comm,Nat.add_mul_mod_self_left,Nat.add_comm (b*(t/b)),Nat.add_mul_mod_self_left] at h2
 have e1:=zEE hg s1 t1 h1
 have e2:=zEE (by rw [Nat.gcd_comm];exact hg) (Nat.mod_lt _ hb) (Nat.mod_lt _ hb) h2
 rw [←Nat.div_add_mod s b,←Nat.div_add_mod t b,e1,e2]
def zSl (w:Fin p) (b:Nat) (c:Fin p) (T:Nat→Fin p) (t:Nat):Fin p:=c*dft w b (fun j=>T (t/b*b+j)) (t%b)
def zEB (w:Fin p) (a b:Nat) (c:Fin p) (T:Nat→Fin p) (t:Nat):Fin p:=c*dft w a (fun i=>T (i*b+t%b)) (t/b)
theorem zEF {w:Fin p} {a b:Nat} (hg:Nat.gcd a b=1) (ha:0<a) (hb:0<b) (hw:pw w (a*b)=1) (ca cb:Fin p) (x:Nat→Fin p) (k:Nat):
  zEB (pw w b) a b ca (zSl (pw w a) b cb fun t=>x (inP a b t)) (k%a*b+k%b)=ca*cb*dft w (a*b) x k:=by
 have kb:k%b<b:=Nat.mod_lt _ hb
 have at1: ∀i j,j<b→(i*b+j)/b=i:=fun i j hj=>by rw [Nat.mul_comm,Nat.mul_add_div hb,Nat.div_eq_of_lt hj];rfl
 have at2: ∀i j,j<b→(i*b+j)%b=j:=fun i j hj=>by rw [Nat.add_comm,Nat.add_mul_mod_self_right,Nat.mod_eq_of_lt hj]
 have w1:pw (pw w b) a=1:=by rw [←pw_mul,Nat.mul_comm];exact hw
 have w2:pw (pw w a) b=1:=by rw [←pw_mul];exact hw
 have w3:pw (pw w k) (a*b)=1:=by rw [←pw_mul,Nat.mul_comm,pw_mul,hw,one_pw]
 have h1:dft w (a*b) x k=sm a fun i=>sm b fun j=>pw (pw w b) (k%a*i)*(pw (pw w a) (k%b*j)*x (inP a b (i*b+j))):=by
  unfold dft
  rw [←sm_perm (a*b) (inP a b) (fun t=>pw w (k*t)*x t) (fun t ht=>Nat.mod_lt _ (Nat.mul_pos ha hb)) (fun s t hs ht h=>zJc hg hs ht h),zTU]
  refine sm_congr fun i _=>sm_congr fun j hj=>?_
  have:pw w (k*inP a b (i*b+j))=pw (pw w b) (k%a*i)*pw (pw w a) (k%b*j):=by
   unfold inP
   rw [pw_mul,←pw_mod w3,at1 i j hj,at2 i j hj,←pw_mul,Nat.mul_add,pw_add,←zPv w1,←zPv w2,←pw_mul,←pw_mul,Nat.mul_left_comm k b i,Nat.mul_left_comm k a j]
  rw [this];grind
 rw [h1]
 unfold zEB
 rw [at1 _ _ kb,at2 _ _ kb]
 have h2: ∀i,i<a→zSl (pw w a) b cb (fun t=>x (inP a b t)) (i*b+k%b)=cb*sm b fun j=>pw (pw w a) (k%b*j)*x (inP a b (i*b+j)):=fun i _=>by
  unfold zSl
  rw [at1 _ _ kb,at2 _ _ kb];rfl
 unfold dft
 rw [show sm a (fun j=>pw (pw w b) (k%a*j)*zSl (pw w a) b cb (fun t=>x (inP a b t)) (j*b+k%b))=sm a fun i=>cb*sm b fun j=>pw (pw w b) (k%a*i)*(pw (pw w a) (k%b*j)*x (inP a b (i*b+j))) from sm_congr fun i hi=>by
  rw [h2 i hi,sm_mul];grind,sm_mul]
 grind
theorem zS0 {g:Fin p} {a b:Nat} (hg:Ord g (p-1)) (hd:a*b∣p-1) (ha:0<a) (hb:0<b) (inv:Bool):pw (rt g (a*b) inv) b=rt g a inv:=by
 have e:pw (pw g ((p-1)/(a*b))) b=pw g ((p-1)/a):=by
  rw [←pw_mul]
  congr 1
  rw [←Nat.div_div_eq_div_mul]
  exact Nat.div_mul_cancel (by
   obtain ⟨c,hc⟩:=hd
   rw [hc,Nat.mul_assoc,Nat.mul_div_cancel_left _ ha]
   exact Nat.dvd_mul_right _ _)
 cases inv with
 | false=>exact e
 | true=>
  show pw (pw (pw g ((p-1)/(a*b))) (a*b-1)) b=pw (pw g ((p-1)/a)) (a-1)
  have ho:=zNw hg (Nat.dvd_trans (Nat.dvd_mul_right a b) hd) ha
  rw [←pw_mul,Nat.mul_comm (a*b-1) b,pw_mul,e]
  obtain ⟨c,rfl⟩: ∃c,b=c+1:=⟨b-1,by omega⟩
  rw [show a*(c+1)-1=(a-1)+a*c by rw [Nat.mul_add,Nat.mul_one];omega,pw_add,pw_mul _ a c,ho.2.1,one_pw];grind
theorem zSX (a b:Nat) (inv:Bool):sc p a inv*sc p b inv=sc p (a*b) inv:=by
 cases inv with
 | false=>show (1:Fin p)*1=1;grind
 | true=>
  show pw _ _*pw _ _=pw _ _
  rw [←mul_pw,←zt_mul,Int.natCast_mul]
end
end
end Go.Proofs.YtmalmijdjhkklaaGreat
