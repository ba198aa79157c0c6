/- chirp.Run. -/
import Derived.Test.YtmalmijdjhkklaaGreatW51
import Derived.Test.YtmalmijdjhkklaaGreatW59
import Derived.Test.YtmalmijdjhkklaaGreatW25
import Derived.Test.YtmalmijdjhkklaaGreatMakeN
import Derived.Test.YtmalmijdjhkklaaGreatQTail
import Derived.Test.YtmalmijdjhkklaaGreatRowsA
import Derived.OneCell
set_option linter.unusedVariables false
set_option linter.unusedSimpArgs false
set_option linter.unusedSectionVars false
set_option maxRecDepth 100000
set_option maxHeartbeats 16000000
namespace Go.Proofs.YtmalmijdjhkklaaGreat
open Go.RowKit
open Alg
theorem zEx {p:Nat} {w:World} {v:Value} {g:Int} (h:Fd w w.heap.size v p g) (A:Option Addr) (c:Nat) (L:List Int) (inv:Bool) (hl:L.length≤140737488351232) (hU:U64s L) (hR:RdI w w.heap.size .u64 A L) (hf:zGP (cpad L.length) p L≠0):
  Calls Tryz.prog 68 #[v, .slice A L.length c, .bool inv] w fun e w'=>e= .returned (.tuple #[.slice none 0 0, .int .i64 (zGP (cpad L.length) p L)])∧Below w.heap.size w w':=by
 have hC:=zy (zDT h L.length 1024 (by omega) (by omega))
 have hG:Hid (∀wz,Below w.heap.size w wz→Calls Tryz.prog 120 #[v, .slice A L.length c] wz fun e w'=>e= .returned (.bool (zI1 p L))∧wz=w'):=zy (fun wz hz=>zI6 (h.below hz) A c w.heap.size L hl hU (hR.below hz))
 have hF:Hid (∀wz,Below w.heap.size w wz→Calls Tryz.prog 132 #[v, .int .i64 L.length] wz fun e w'=>e= .returned (.bool (fitR (cpad L.length) p))∧wz=w'):=zy (fun wz hz=>zDE (h.below hz) L.length (by omega) (by omega))
 have HV:Hid (zGP (cpad L.length) p L=if chk p L.length 1024≠0 then chk p L.length 1024 else if fitR (cpad L.length) p=false then 11 else if zI1 p L=false then 9 else 0):=zy rfl
 have HFn:=zy hf
 clear h hU hR hf
 by_cases c1:chk p L.length 1024=0
 ·rw [c1] at hC
  by_cases c2:fitR (cpad L.length) p=false
  ·have HV2:Hid (zGP (cpad L.length) p L=11):=zy (by rw [HV.out,if_neg (by simp [c1]),if_pos c2])
   rw [c2] at hF
   clear c1 c2
   go_enter Tryz.func68,Tryz.ntmps68
   go_wp2_with fail
   refine hC.out.mono ?_
   rintro e w1 ⟨rfl,rfl⟩
   go_wp2_with fail
   refine (hF.out _ (Below.refl _ _)).mono ?_
   rintro e w1 ⟨rfl,rfl⟩
   have hB:=Below.refl w.heap.size w
   go_wp2
   go_ret2
   exact ⟨by rw [HV2.out];first|rfl|simp,hB⟩
  ·have c2':fitR (cpad L.length) p=true:=by simpa using c2
   rw [c2'] at hF
   have c3:zI1 p L=false:=by
    rcases hg:zI1 p L with _|_
    ·rfl
    ·exact absurd (by rw [HV.out,if_neg (by simp [c1]),if_neg c2,hg];simp) HFn.out
   have HV2:Hid (zGP (cpad L.length) p L=9):=zy (by rw [HV.out,if_neg (by simp [c1]),if_neg c2,if_pos c3])
   rw [c3] at hG
   clear c1 c2 c2' c3
   go_enter Tryz.func68,Tryz.ntmps68
   go_wp2_with fail
   refine hC.out.mono ?_
   rintro e w1 ⟨rfl,rfl⟩
   go_wp2_with fail
   refine (hF.out _ (Below.refl _ _)).mono ?_
   rintro e w1 ⟨rfl,rfl⟩
   have hB:=Below.refl w.heap.size w
   go_wp2_with fail
   refine (hG.out _ hB).mono ?_
   rintro e w2 ⟨rfl,rfl⟩
   go_wp2
   go_ret2
   exact ⟨by rw [HV2.out];first|rfl|simp,hB⟩
 ·have HV2:Hid (zGP (cpad L.length) p L=chk p L.length 1024):=zy (by rw [HV.out,if_pos c1])
  obtain ⟨z,hz⟩: ∃z,z=chk p L.length 1024:=⟨_,rfl⟩
  rw [←hz] at hC HV2 c1
  have t:(z != 0)=true:=by simp [c1]
  clear hz c1
  go_enter Tryz.func68,Tryz.ntmps68
  go_wp2_with fail
  refine hC.out.mono ?_
  rintro e w1 ⟨rfl,rfl⟩
  go_wp2
  go_ret2
  exact ⟨by rw [HV2.out];first|rfl|simp,Below.refl _ _⟩
theorem zEU {n:Int} {p:Int} (h:fitR (cpad n) p=true):1≤n∧n≤1024∧cpad n=pd (2*n-1):=by
 unfold fitR at h
 simp only [Bool.and_eq_true,decide_eq_true_eq] at h
 unfold cpad at *
 split at h
 ·rename_i hc
  exact ⟨hc.1,hc.2,by rw [if_pos hc]⟩
 ·omega
theorem zSx {p:Nat} [NeZero p] {G:Fin p} {n:Nat} (hg:Ord G (p-1)) (hd:n∣p-1) (h0:0<n) (inv:Bool):rt G n inv*rt G n (!inv)=1:=by
 have h:=zPu (zNw hg hd h0)
 cases inv with
 | false=>exact h
 | true=>exact (Fin.mul_comm _ _).trans h
section
variable {p:Nat} [NeZero p]
def chA (v:Fin p) (n:Nat) (x:Nat→Fin p) (i:Nat):Fin p:=if i<n then pw v (tri (n-1-i))*x (n-1-i) else 0
def chB (w:Fin p) (n:Nat) (i:Nat):Fin p:=if i<2*n-1 then pw w (tri i) else 0
def arow (v:Fin p) (n N:Nat) (x:Nat→Fin p) (j:Nat):List Int:=lst N fun i=>if n-1-i<j then chA v n x i else 0
def brw (w:Fin p) (n N:Nat) (j:Nat):List Int:=lst N fun i=>if i<j then chB w n i else 0
theorem zBI (v:Fin p) (n N:Nat) (x:Nat→Fin p):arow v n N x 0=List.replicate N 0:=by
 unfold arow lst full
 rw [List.map_congr_left (g:=fun _=>(0:Int)) (fun i _=>by simp)]
 simp [List.map_const']
theorem zCK (w:Fin p) (n N:Nat):brw w n N 0=List.replicate N 0:=by
 unfold brw lst full
 rw [List.map_congr_left (g:=fun _=>(0:Int)) (fun i _=>by simp)]
 simp [List.map_const']
theorem zBH {v:Fin p} {n N j:Nat} {x:Nat→Fin p} (hj:j<n):(arow v n N x j).set (n-1-j) (((pw v (tri j)*x j:Fin p).val:Nat):Int)=arow v n N x (j+1):=by
 unfold arow lst full
 apply List.ext_getElem
 ·simp
 ·intro i hi hi'
  simp at hi'
  simp only [List.getElem_set,List.getElem_map,List.getElem_range]
  by_cases e:n-1-j=i
  ·subst e
   rw [if_pos rfl,if_pos (by omega)]
   unfold chA
   rw [if_pos (by omega),show n-1-(n-1-j)=j by omega]
  ·rw [if_neg e]
   by_cases h:n-1-i<j
   ·rw [if_pos h,if_pos (by omega)]
   ·by_cases h2:n-1-i<j+1
    ·rw [if_neg h,if_pos h2]
     unfold chA
     rw [if_neg (by omega)]
    ·rw [if_neg h,if_neg h2]
theorem zBG {v:Fin p} {n N:Nat} {x:Nat→Fin p} (hn:0<n):arow v n N x n=lst N (chA v n x):=zKW fun i _=>by rw [if_pos (by omega)]
theorem zCJ {w:Fin p} {n N j:Nat} (hj:j<2*n-1):(brw w n N j).set j (((pw w (tri j):Fin p).val:Nat):Int)=brw w n N (j+1):=by
 unfold brw lst full
 apply List.ext_getElem
 ·simp
 ·intro i hi hi'
  simp at hi'
  simp only [List.getElem_set,List.getElem_map,List.getElem_range]
  by_cases e:j=i
  ·subst e
   rw [if_pos rfl,if_pos (by omega)]
   unfold chB
   rw [if_pos hj]
  ·rw [if_neg e]
   by_cases h:i<j
   ·rw [if_pos h,if_pos (by omega)]
   ·rw [if_neg h,if_neg (by omega)]
theorem zCI {w:Fin p} {n N:Nat}:brw w n N (2*n-1)=lst N (chB w n):=zKW fun i _=>by
 by_cases h:i<2*n-1
 ·rw [if_pos h]
 ·rw [if_neg h];unfold chB;rw [if_neg h]
theorem zEg {w v:Fin p} {n N:Nat} (hv:w*v=1) (x:Nat→Fin p) (hN:2*n-1≤N) (k:Nat) (hk:k<n):pw v (tri k)*cyc N (chA v n x) (chB w n) (n-1+k)=dft w n x k:=by
 rw [zFv (la:=n) (lb:=2*n-1) (by omega) (fun j h=>by unfold chA;rw [if_neg (by omega)]) (fun j h=>by unfold chB;rw [if_neg (by omega)]) (by omega)]
 exact zEf hv x (fun i hi=>by unfold chA;rw [if_pos hi]) (fun i hi=>by unfold chA;rw [if_neg (by omega)]) (fun i hi=>by unfold chB;rw [if_pos hi]) k hk
end
theorem zEy {p:Nat} [NeZero p] {w:World} {v:Value} {g:Int} (hp:Prime p) (hg:Ord (zt p g) (p-1)) (g0:0≤g) (g1:g<p) (h:Fd w w.heap.size v p g) (A:Option Addr) (c:Nat) (L:List Int) (inv:Bool) (hU:U64s L) (hR:RdI w w.heap.size .u64 A L) (hf:zGP (cpad L.length) p L=0):
  Calls Tryz.prog 68 #[v, .slice A L.length c, .bool inv] w fun e w'=> ∃V,e= .returned (.tuple #[V, .int .i64 0])∧OwnU w' w.heap.size V L.length (lst L.length (tr (zt p g) L.length inv (rz p L)))∧Below w.heap.size w w':=by
 obtain ⟨i0,hi,hz0,hz1,hz2⟩:=info_parts zJt
 obtain ⟨hc,hft,hgd⟩:=zGR hf
 obtain ⟨n3,n1,hrp⟩:=zEU hft
 have hc4:=zEm hc (show (1024:Int)≤4096 by omega)
 have HPM:=zy (And.intro h.p3 h.pmx)
 obtain ⟨hdv,hn0⟩:=zEl (by have:=hp.1;omega) hc4
 obtain ⟨hq2,hq3,hq4,hq5⟩:=zOc (show 2*(L.length:Int)-1≤4096 by omega)
 have hNc:=zHd hft (by rw [hrp];omega)
 have hC:=zy (zDT h L.length 1024 (by omega) (by omega))
 rw [hc] at hC
 have hG:=zy (zI6 h A c w.heap.size L (by omega) hU hR)
 rw [hgd] at hG
 have hF:=zy (zDE h L.length (by omega) (by omega))
 rw [hft] at hF
 have hPd:=zy (fun wz=>zES L.length wz (by omega) (by omega))
 rw [hrp] at hPd hNc
 obtain ⟨N,hN⟩: ∃N:Nat,(N:Int)=pd (2*(L.length:Int)-1):=⟨(pd (2*(L.length:Int)-1)).toNat,by omega⟩
 rw [←hN] at hPd hNc hq2 hq3 hq4 hq5
 obtain ⟨hdN,hN0⟩:=zEl (by have:=hp.1;omega) hNc
 have HFd:=zy h
 have HL:Hid (∀i,i<L.length→L.getD i 0=((rz p L i).val:Int)):=zy (fun i hi=>by
  have h1:=zKY (f:=rz p L) hi
  rw [zLc hgd hU] at h1
  exact h1)
 obtain ⟨ω,hω⟩: ∃ω,ω=rt (zt p g) L.length inv:=⟨_,rfl⟩
 obtain ⟨ν,hν⟩: ∃ν,ν=rt (zt p g) L.length (!inv):=⟨_,rfl⟩
 have hων:ω*ν=1:=by rw [hω,hν];exact zSx hg hdv hn0 inv
 have hOω:pw ω L.length=1:=by rw [hω];exact (zSz hg hdv hn0 inv).2.1
 have hOν:pw ν L.length=1:=by rw [hν];exact (zSz hg hdv hn0 (!inv)).2.1
 have HRω:Hid (∀W,zAH p g L.length inv W→ ∀k,pw (zt p W) (tri k%L.length)=pw ω (tri k)):=zy (fun W hW k=>by rw [zAH.zt hp hg hdv hn0 hW,←hω,←pw_mod hOω])
 have HRν:Hid (∀W,zAH p g L.length (!inv) W→ ∀k,pw (zt p W) (tri k%L.length)=pw ν (tri k)):=zy (fun W hW k=>by rw [zAH.zt hp hg hdv hn0 hW,←hν,←pw_mod hOν])
 have HT:Hid (∀b wz,Below w.heap.size w wz→Calls Tryz.prog 115 #[v, .int .i64 L.length, .bool b] wz fun e w'=> ∃V W,e= .returned (.tuple #[V, .int .i64 0])∧zAH p g L.length b W∧OwnU w' wz.heap.size V L.length (full L.length fun i=>lft p (W^i))∧Below wz.heap.size wz w'):=zy (fun b wz hz=>zKA ((h.below hz).mono hz.size) L.length b hc4 g0 g1)
 have HH:Hid (∀k wz,k≤2048→Calls Tryz.prog 133 #[.int .i64 (k:Nat), .int .i64 L.length] wz fun e w'=>e= .returned (.int .i64 ((tri k%L.length:Nat):Int))∧wz=w'):=zy (fun k wz hk=>by
  have h1:=zDP k L.length wz (by omega) (by omega) (by omega) (by omega)
  rw [zEa (by omega) (by omega) hk] at h1
  exact h1)
 have hff: ∀F:Nat→Fin p,zGD p (lst N F)=0:=fun F=>zGF F hNc hq2
 have HDn:Hid (∀(F:Nat→Fin p) wz (V:Value) (B:Nat),Below w.heap.size w wz→B≤wz.heap.size→OwnU wz B V N (lst N F)→Calls Tryz.prog 63 #[v,V, .bool false] wz fun e w'=> ∃V,e= .returned (.tuple #[V, .int .i64 0])∧OwnU w' wz.heap.size V N (lst N (tr (zt p g) N false F))∧Below wz.heap.size wz w'):=zy (fun F wz V B hz hB hV=>by
  obtain ⟨X,cx,rfl,hR⟩:=hV.rd
  have h1:=zFT hp hg g0 g1 ((HFd.out.below hz).mono hz.size) X cx (lst N F) false (zLd HPM.out.2 _ _) hR (hff F)
  have h2:lst N (tr (zt p g) N false (rz p (lst N F)))=lst N (tr (zt p g) N false F):=zKW fun i _=>zVn _ _ _ _ _
  rw [zLb,h2] at h1
  exact h1)
 have HUp:Hid (∀(F:Nat→Fin p) wz (V:Value) (B:Nat),Below w.heap.size w wz→B≤wz.heap.size→OwnU wz B V N (lst N F)→Calls Tryz.prog 87 #[v,V, .bool true] wz fun e w'=> ∃V,e= .returned (.tuple #[V, .int .i64 0])∧OwnU w' wz.heap.size V N (lst N (tr (zt p g) N true F))∧Below wz.heap.size wz w'):=zy (fun F wz V B hz hB hV=>by
  obtain ⟨X,cx,rfl,hR⟩:=hV.rd
  have h1:=zWg hp hg g0 g1 ((HFd.out.below hz).mono hz.size) X cx (lst N F) true (zLd HPM.out.2 _ _) hR (hff F)
  have h2:lst N (tr (zt p g) N true (rz p (lst N F)))=lst N (tr (zt p g) N true F):=zKW fun i _=>zVn _ _ _ _ _
  rw [zLb,h2] at h1
  exact h1)
 obtain ⟨x,hx⟩: ∃x,x=rz p L:=⟨_,rfl⟩
 obtain ⟨X,hX⟩: ∃X,X=tr (zt p g) N false (chA ν L.length x):=⟨_,rfl⟩
 obtain ⟨Y,hY⟩: ∃Y,Y=tr (zt p g) N false (chB ω L.length):=⟨_,rfl⟩
 have HU1:=zy (HDn.out (chA ν L.length x))
 have HU2:=zy (HDn.out (chB ω L.length))
 have HU3:=zy (HUp.out (fun j=>X j*Y j))
 have hcy:lst N (tr (zt p g) N true (fun j=>X j*Y j))=lst N (cyc N (chA ν L.length x) (chB ω L.length)):=zKW fun i hi=>by rw [hX,hY];exact zVk hp hg hdN hN0 _ _ i hi
 rw [←hX] at HU1
 rw [←hY] at HU2
 rw [hcy] at HU3
 obtain ⟨C,hCe⟩: ∃C,C=cyc N (chA ν L.length x) (chB ω L.length):=⟨_,rfl⟩
 have HD:Hid (∀k,k<L.length→pw ν (tri k)*C (L.length-1+k)=dft ω L.length x k):=zy (fun k hk=>by rw [hCe];exact zEg hων x (by omega) k hk)
 rw [←hCe] at HU3
 have HSc:Hid (∀wz (V:Value) (B:Nat),Below w.heap.size w wz→B≤wz.heap.size→OwnU wz B V L.length (lst L.length (dft ω L.length x))→Calls Tryz.prog 122 #[v,V] wz fun e w'=> ∃V,e= .returned V∧OwnU w' wz.heap.size V L.length (lst L.length fun i=>sc p L.length true*dft ω L.length x i)∧Below wz.heap.size wz w'):=zy (fun wz V B hz hB hV=>by
  obtain ⟨A3,c3,rfl,hR3⟩:=hV.rd
  have hS:=zTa ((HFd.out.below hz).mono hz.size) A3 c3 (lst L.length (dft ω L.length x)) (by rw [zLb];omega) (zLd HPM.out.2 _ _) hR3
  rw [zLb] at hS
  exact hS.mono fun e w' ⟨V3,t,he,ht,hO3,hB3⟩=>⟨V3,he,by
   have h1:(full L.length fun i=>t*(lst L.length (dft ω L.length x)).getD i 0%(p:Int))=lst L.length fun i=>sc p L.length true*dft ω L.length x i:=zHQ fun i hi=>by
    rw [zKY hi,zGv,zt_of_val,zSY hp hdv hn0 ht]
   rw [←h1];exact hO3,hB3⟩)
 have HTr:Hid (lst L.length (tr (zt p g) L.length inv (rz p L))=lst L.length fun i=>sc p L.length inv*dft ω L.length x i):=zy (by rw [hω,hx];rfl)
 rw [HTr.out]
 rw [←hx] at HL
 obtain ⟨D,hDe⟩: ∃D,D=dft ω L.length x:=⟨_,rfl⟩
 rw [←hDe] at HD HSc ⊢
 have HR:=zy hR
 have hnl:L.length≤1024:=by omega
 have hN2:2*L.length≤N+1:=by omega
 have hN4:N≤4096:=by omega
 obtain ⟨n,hne⟩: ∃n,n=L.length:=⟨_,rfl⟩
 have hmk:=zLr N (by omega)
 clear h hR hU hf hc hft hgd hrp hc4 hdv hq2 hq3 hq4 hq5 hNc hN hω hν hων hOω hOν hDe HTr hg hx hX hY hcy hCe hff hdN HDn HUp hp n3 n1
 go_enter Tryz.func68,Tryz.ntmps68
 go_wp2_with fail
 refine hC.out.mono ?_
 rintro e w1 ⟨rfl,rfl⟩
 go_wp2_with fail
 refine hF.out.mono ?_
 rintro e w1 ⟨rfl,rfl⟩
 go_wp2_with fail
 refine hG.out.mono ?_
 rintro e w1 ⟨rfl,rfl⟩
 go_wp2_with fail
 refine (hPd.out _).mono ?_
 rintro e w1 ⟨rfl,rfl⟩
 go_wp2_with fail
 refine (HT.out inv w (Below.refl _ _)).mono ?_
 rintro e w2 ⟨VT,W1,rfl,hW1,hOT,hB2⟩
 obtain ⟨AT,cT,rfl,hRT⟩:=hOT.rd
 obtain ⟨bT,oT,rfl,hbT,hcT⟩:=hRT (by rw [zHS];omega)
 have HcT:Hid (∀i,i<L.length→w2.cell? ⟨bT,oT+i,none⟩=some (.int .u64 (lft p (W1^i)))):=zy (fun i hi=>by
  have h1:=hcT i (by rw [zHS];exact hi)
  rw [zHR hi] at h1
  exact h1)
 have HW1:=zy (HRω.out W1 hW1)
 clear hOT hRT hcT hW1
 go_wp2_with fail
 refine (HT.out (!inv) w2 hB2).mono ?_
 rintro e w3 ⟨VS,W2,rfl,hW2,hOS,hB3⟩
 obtain ⟨AS,cS,rfl,hRS⟩:=hOS.rd
 obtain ⟨bS,oS,rfl,hbS,hcS⟩:=hRS (by rw [zHS];omega)
 have HcS:Hid (∀i,i<L.length→w3.cell? ⟨bS,oS+i,none⟩=some (.int .u64 (lft p (W2^i)))):=zy (fun i hi=>by
  have h1:=hcS i (by rw [zHS];exact hi)
  rw [zHR hi] at h1
  exact h1)
 have HW2:=zy (HRν.out W2 hW2)
 have HcT3:Hid (∀i,i<L.length→w3.cell? ⟨bT,oT+i,none⟩=some (.int .u64 (lft p (W1^i)))):=zy (fun i hi=>zDs hB3 hbT (HcT.out i hi))
 have hbT3:=Nat.lt_of_lt_of_le hbT hB3.size
 have hBz:=hB2.trans (hB3.mono hB2.size)
 obtain ⟨bL,oL,rfl,hbL,hcL⟩:=HR.out (by omega)
 have HcL:Hid (∀i,i<L.length→w3.cell? ⟨bL,oL+i,none⟩=some (.int .u64 ((x i).val:Int))):=zy (fun i hi=>by
  have h1:=zDs hBz hbL (hcL i hi)
  rw [HL.out i hi] at h1
  exact h1)
 have hws3:=hBz.size
 have hbL3:bL<w3.heap.size:=by omega
 have HBz:=zy hBz
 clear hOS hRS hcS hW2 hB2 hB3 HcT hbT hcL HR hBz hne
 go_upto_region 12 with fail
 go_cut [15,16] (fun Va Vb wx=> ∃Ga Gb,Va= .slice (some ⟨Ga,0,none⟩) N N∧Vb= .slice (some ⟨Gb,0,none⟩) N N∧Ga≠Gb∧w3.heap.size≤Ga∧w3.heap.size≤Gb∧Hid (OwnU wx w3.heap.size (.slice (some ⟨Ga,0,none⟩) N N) N (arow ν L.length N x 0))∧Hid (OwnU wx w3.heap.size (.slice (some ⟨Gb,0,none⟩) N N) N (brw ω L.length N 0))∧Hid (Below w3.heap.size w3 wx))
 case first=>
  have v1:IntKind.i64.wrap (N:Int)=(N:Int):=IntWalk.i64_in _ (by omega)
  obtain ⟨z1,z2,z3⟩:=zVG w3 N (List.replicate N 0) (List.replicate N 0) (by simp) (by simp) (by omega)
  have Z1:=zy z1
  have Z2:=zy z2
  have Z3:=zy z3
  clear z1 z2 z3
  go_region
  ·go_wp2
   go_meet
   exact ⟨_,_,rfl,rfl,by omega,by omega,by omega,zy (by rw [zBI];exact Z1.out),zy (by rw [zCK];exact Z2.out),Z3⟩
  ·go_wp2
   go_meet
   exact ⟨_,_,rfl,rfl,by omega,by omega,by omega,zy (by rw [zBI];exact Z2.out),zy (by rw [zCK];exact Z1.out),Z3⟩
 case rest=>
  obtain ⟨Ga,Gb,rfl,rfl,hne,hGa,hGb,hOa,hOb,hBc⟩:=hcut
  have hcz:=hBc.out.size
  have hne':Gb≠Ga:=Ne.symm hne
  clear hmk
  go_wp2
  go_loopw [65] (fun I wr=> ∃i:Nat,I= .int .i64 i∧i≤L.length∧Hid (OwnU wr w3.heap.size (.slice (some ⟨Ga,0,none⟩) N N) N (arow ν L.length N x i))∧Hid (OwnU wr w3.heap.size (.slice (some ⟨Gb,0,none⟩) N N) N (brw ω L.length N 0))∧Hid (Below w3.heap.size w3 wr)) (fun I _=>L.length-(intOf I).toNat)
  case atStart=>exact ⟨0,rfl,by omega,hOa,hOb,hBc⟩
  case round=>
   clear hOa hOb hBc
   obtain ⟨i,rfl,hil,hOa,hOb,hBr⟩:=hrel
   by_cases hlt:i<L.length
   ·have c1:=zDs hBr.out hbL3 (HcL.out i hlt)
    have htn:tri i%L.length<L.length:=Nat.mod_lt _ hn0
    have c2:=zDs hBr.out hbS (HcS.out _ htn)
    have hw2:=HW2.out i
    have hHf:=zy (HH.out i wr (by omega))
    have hst:=zBH (v:=ν) (N:=N) (x:=x) hlt
    obtain ⟨t,ht⟩: ∃t,t=tri i%L.length:=⟨_,rfl⟩
    rw [←ht] at htn c2 hw2 hHf
    obtain ⟨o,ho⟩: ∃o,o=L.length-1-i:=⟨_,rfl⟩
    rw [←ho] at hst
    have hoN:o<N:=by omega
    have eo:(L.length:Int)-1-(i:Int)=(o:Int):=by omega
    obtain ⟨y0,hy0⟩: ∃y0,y0=x i:=⟨_,rfl⟩
    rw [←hy0] at c1 hst
    have hF1:Fd wr w.heap.size v p g:=HFd.out.below (HBz.out.trans (hBr.out.mono hws3))
    have hlp: ∀x:Fin p,0≤((x.val:Nat):Int)∧((x.val:Nat):Int)≤18446744073709551615:=fun x=>by have:=x.isLt;have:=HPM.out.2;omega
    have HTm:Hid (Calls Tryz.prog 81 #[v, .int .u64 (lft p (W2^t)), .int .u64 (y0.val:Int)] wr fun e w'=>e= .returned (.int .u64 ((pw ν (tri i)*y0).val:Int))∧ ∃k,w'=wr.drewN k):=zy (by
     have h1:=zHM hF1 (W2^t) (y0.val:Int) (hlp y0).1 (hlp y0).2
     rw [zGv,zt_of_val,zt_pow,hw2] at h1
     exact h1)
    obtain ⟨lq,hlq⟩: ∃lq,lq=lft p (W2^t):=⟨_,rfl⟩
    rw [←hlq] at c2 HTm
    obtain ⟨z0,hz0'⟩: ∃z0,z0=pw ν (tri i)*y0:=⟨_,rfl⟩
    rw [←hz0'] at HTm hst
    have HST:=zy hst
    obtain ⟨g1',f1,hG1⟩:=zN9 hOa.out o hoN
    clear ht ho hy0 hlq hz0' hst hF1 hlp hw2
    go_wp2_with fail
    refine hHf.out.mono ?_
    rintro e w4 ⟨rfl,rfl⟩
    go_wp2_with fail
    refine HTm.out.mono ?_
    rintro e w4 ⟨rfl,nq,rfl⟩
    have hO1:=((hOa.out.drewN nq).set o hoN (z0.val:Int)).1
    rw [HST.out] at hO1
    have HO1:=zy hO1
    have HO2:Hid (OwnU ((wr.drewN nq).setCell ⟨Ga,o,none⟩ (.int .u64 (z0.val:Int))) w3.heap.size (.slice (some ⟨Gb,0,none⟩) N N) N (brw ω L.length N 0)):=zy (zN7 (hOb.out.drewN nq) hne' _)
    have HB1:Hid (Below w3.heap.size w3 ((wr.drewN nq).setCell ⟨Ga,o,none⟩ (.int .u64 (z0.val:Int)))):=zy ((below_drewN hBr.out nq).setCell hGa _)
    clear hO1 hOa hOb hBr
    go_wp2
    go_roundw
    case rel=>exact ⟨i+1,by go_num,by omega,HO1,HO2,HB1⟩
    case measure=>simp [intOf];omega
   ·have hie:i=L.length:=by omega
    have hOa1:=hOa.out
    rw [hie,zBG hn0] at hOa1
    have HOa:=zy hOa1
    have t2:(2:Int)*(L.length:Int)-1=((2*L.length-1:Nat):Int):=by omega
    obtain ⟨M,hM⟩: ∃M,M=2*L.length-1:=⟨_,rfl⟩
    have hMN:M≤N:=by omega
    have hM2:M≤2047:=by omega
    have HM:=zy hM
    rw [←hM] at t2
    clear hie hOa1 hOa hM
    go_wp2
    go_loopw [89] (fun I wr=> ∃i:Nat,I= .int .i64 i∧i≤M∧Hid (OwnU wr w3.heap.size (.slice (some ⟨Ga,0,none⟩) N N) N (lst N (chA ν L.length x)))∧Hid (OwnU wr w3.heap.size (.slice (some ⟨Gb,0,none⟩) N N) N (brw ω L.length N i))∧Hid (Below w3.heap.size w3 wr)) (fun I _=>M-(intOf I).toNat)
    case atStart=>exact ⟨0,rfl,by omega,HOa,hOb,hBr⟩
    case round=>
     clear HOa hOb hBr
     obtain ⟨i,rfl,him,hOa,hOb,hBr⟩:=hrel
     by_cases hlt2:i<M
     ·have htn:tri i%L.length<L.length:=Nat.mod_lt _ hn0
      have c2:=zDs hBr.out hbT3 (HcT3.out _ htn)
      have hw1:=HW1.out i
      have hHf:=zy (HH.out i wr (by omega))
      have hst:=zCJ (w:=ω) (n:=L.length) (N:=N) (j:=i) (by rw [←HM.out];exact hlt2)
      obtain ⟨t,ht⟩: ∃t,t=tri i%L.length:=⟨_,rfl⟩
      rw [←ht] at htn c2 hw1 hHf
      have hF1:Fd wr w.heap.size v p g:=HFd.out.below (HBz.out.trans (hBr.out.mono hws3))
      have HTm:Hid (Calls Tryz.prog 81 #[v, .int .u64 (lft p (W1^t)), .int .u64 1] wr fun e w'=>e= .returned (.int .u64 ((pw ω (tri i)).val:Int))∧ ∃k,w'=wr.drewN k):=zy (by
       have h1:=zHM hF1 (W1^t) 1 (by omega) (by omega)
       rw [zGv,zt_one,zt_pow,hw1] at h1
       have h2:pw ω (tri i)*1=pw ω (tri i):=by grind
       rw [h2] at h1
       exact h1)
      obtain ⟨lq,hlq⟩: ∃lq,lq=lft p (W1^t):=⟨_,rfl⟩
      rw [←hlq] at c2 HTm
      obtain ⟨z0,hz0'⟩: ∃z0,z0=pw ω (tri i):=⟨_,rfl⟩
      rw [←hz0'] at HTm hst
      have HST:=zy hst
      have hiN:i<N:=by omega
      obtain ⟨g1',f1,hG1⟩:=zN9 hOb.out i hiN
      clear ht hlq hz0' hst hF1 hw1
      go_wp2_with fail
      refine hHf.out.mono ?_
      rintro e w4 ⟨rfl,rfl⟩
      go_wp2_with fail
      refine HTm.out.mono ?_
      rintro e w4 ⟨rfl,nq,rfl⟩
      have hO1:=((hOb.out.drewN nq).set i hiN (z0.val:Int)).1
      rw [HST.out] at hO1
      have HO1:=zy hO1
      have HO2:Hid (OwnU ((wr.drewN nq).setCell ⟨Gb,i,none⟩ (.int .u64 (z0.val:Int))) w3.heap.size (.slice (some ⟨Ga,0,none⟩) N N) N (lst N (chA ν L.length x))):=zy (zN7 (hOa.out.drewN nq) hne _)
      have HB1:Hid (Below w3.heap.size w3 ((wr.drewN nq).setCell ⟨Gb,i,none⟩ (.int .u64 (z0.val:Int)))):=zy ((below_drewN hBr.out nq).setCell hGb _)
      clear hO1 hOa hOb hBr
      go_wp2
      go_roundw
      case rel=>exact ⟨i+1,by go_num,by omega,HO2,HO1,HB1⟩
      case measure=>simp [intOf];omega
     ·have hie:i=M:=by omega
      have hOb1:=hOb.out
      rw [hie,HM.out,zCI] at hOb1
      have HOb:=zy hOb1
      have hBw:=HBz.out.trans (hBr.out.mono hws3)
      have hU:=zy (HU1.out wr _ _ hBw hBr.out.size hOa.out)
      have HBw:=zy hBw
      clear hie hOb1 hOa hOb hBw
      go_wp2_with fail
      refine hU.out.mono ?_
      rintro e w5 ⟨v5,rfl,hO5,hB5⟩
      have hBx:=HBw.out.trans (hB5.mono HBw.out.size)
      have hU2:=zy (HU2.out w5 _ _ hBx (show w3.heap.size≤w5.heap.size by have:=hBr.out.size;have:=hB5.size;omega) (HOb.out.below hB5))
      have HO5:=zy hO5
      have hs5:=hB5.size
      have HB35:=zy (hBr.out.trans (hB5.mono hBr.out.size))
      have hws4:=hBr.out.size
      have HBx:=zy hBx
      clear hO5 hU HOb hBx hB5 hBr
      go_wp2_with fail
      refine hU2.out.mono ?_
      rintro e w6 ⟨v6,rfl,hO6,hB6⟩
      have hBy:=HBx.out.trans (hB6.mono HBx.out.size)
      have hB36:=HB35.out.trans (hB6.mono HB35.out.size)
      have hO56:=HO5.out.below hB6
      obtain ⟨G5,c5,rfl,hG5⟩:=zN2 hO56 hN0
      obtain ⟨G6,c6,rfl,hG6⟩:=zN2 hO6 hN0
      have hG5w:G5<w5.heap.size:=by
       obtain ⟨G5',c5',he,_⟩:=zN2 HO5.out hN0
       injection he with he _ _
       injection he with he
       injection he with he _ _
       subst he
       exact (World.ownsRow.lt HO5.out _ rfl).2
      have hne6:G6≠G5:=by omega
      have hne6':G5≠G6:=by omega
      have HY6:Hid (∀j,j<N→w6.cell? ⟨G6,j,none⟩=some (.int .u64 ((Y j).val:Int))):=zy (fun j hj=>by
       have h1:=(zN9 hO6 j hj).1
       rw [zKY hj] at h1
       exact h1)
      rw [zMa N X Y] at hO56
      obtain ⟨B5,hB5e⟩: ∃B5,B5=wr.heap.size:=⟨_,rfl⟩
      rw [←hB5e] at hO56 hws4
      have HO6:=zy hO56
      have HB36:=zy hB36
      clear hO6 hO56 HO5 HBx hB6 hBy HB35 hU2 HBw hB5e
      go_wp2
      go_loopw [118] (fun I wr=> ∃i:Nat,I= .int .i64 i∧i≤N∧Hid (OwnU wr B5 (.slice (some ⟨G5,0,none⟩) N c5) N (mrow N X Y i))∧Hid (∀j,j<N→wr.cell? ⟨G6,j,none⟩=some (.int .u64 ((Y j).val:Int)))∧Hid (Below w3.heap.size w3 wr)) (fun I _=>N-(intOf I).toNat)
      case atStart=>exact ⟨0,rfl,by omega,HO6,HY6,HB36⟩
      case round=>
       clear HO6 HY6 HB36
       obtain ⟨i,rfl,hiN,hO,hY,hBr⟩:=hrel
       by_cases hlt3:i<N
       ·obtain ⟨c0,f0,hGb5⟩:=zN9 hO.out i hlt3
        rw [zLW hlt3] at c0
        have c1:=hY.out i hlt3
        have hF1:Fd wr w.heap.size v p g:=HFd.out.below (HBz.out.trans (hBr.out.mono hws3))
        have hlp: ∀x:Fin p,0≤((x.val:Nat):Int)∧((x.val:Nat):Int)≤18446744073709551615:=fun x=>by have:=x.isLt;have:=HPM.out.2;omega
        have hst:=zLZ (X:=X) (Y:=Y) hlt3
        obtain ⟨x0,hx0⟩: ∃x0,x0=X i:=⟨_,rfl⟩
        obtain ⟨y0,hy0⟩: ∃y0,y0=Y i:=⟨_,rfl⟩
        rw [←hx0] at c0 hst
        rw [←hy0] at c1 hst
        have HMu:Hid (∀n,Calls Tryz.prog 38 #[v, .int .u64 (x0.val:Int), .int .u64 (y0.val:Int)] (wr.drewN n) fun e w'=>e= .returned (.int .u64 ((x0*y0).val:Int))∧ ∃k,w'=(wr.drewN n).drewN k):=zy (fun n=>by
         have h1:=zHw (hF1.drewN n) (x0.val:Int) (y0.val:Int) (hlp x0).1 (hlp x0).2 (hlp y0).1 (hlp y0).2
         rw [zGv,zt_of_val,zt_of_val] at h1
         exact h1)
        obtain ⟨z0,hz0'⟩: ∃z0,z0=x0*y0:=⟨_,rfl⟩
        rw [←hz0'] at HMu hst
        have HST:=zy hst
        have i1:(0:Int)≤(i:Int):=by omega
        have i2:(i:Int)<(N:Int):=by omega
        clear hx0 hy0 hst hz0' hlp hF1
        go_upto_region 28 with fail
        refine zWM 12 (by kernel_rfl) (by kernel_rfl) ?_
        simp only [List.take_succ_cons,List.take_zero,List.drop_succ_cons,List.drop_zero]
        repeat (go_big_quiet_step ((first|(go_at_call 38;exact Calls.quiet_of (HMu.out _)))))
        refine wpQuiet_nil ?_
        intro _ hw'
        obtain ⟨nq,hw''⟩:=hw'
        subst hw''
        have hO1:=((hO.out.drewN nq).set i hlt3 (z0.val:Int)).1
        rw [HST.out] at hO1
        have HO1:=zy hO1
        have HY1:Hid (∀j,j<N→((wr.drewN nq).setCell ⟨G5,i,none⟩ (.int .u64 (z0.val:Int))).cell? ⟨G6,j,none⟩=some (.int .u64 ((Y j).val:Int))):=zy (fun j hj=>by
         rw [World.cell?_setCell_other _ _ _ _ (fun hh=>hne6' (by injection hh with hh _ _))]
         exact hY.out j hj)
        have HB1:Hid (Below w3.heap.size w3 ((wr.drewN nq).setCell ⟨G5,i,none⟩ (.int .u64 (z0.val:Int)))):=zy ((below_drewN hBr.out nq).setCell (show w3.heap.size≤G5 from Nat.le_trans hws4 hGb5) _)
        clear hO1 hO hY hBr
        go_wp2
        go_roundw
        case rel=>exact ⟨i+1,by go_num,by omega,HO1,HY1,HB1⟩
        case measure=>simp [intOf];omega
       ·have hie:i=N:=by omega
        have hO1:=hO.out
        rw [hie,zLX] at hO1
        have hBw:=HBz.out.trans (hBr.out.mono hws3)
        have hlt5:=World.ownsRow.lt hO1 _ rfl
        have hU:=zy (HU3.out wr _ _ hBw (show B5≤wr.heap.size by omega) hO1)
        have HBw:=zy hBw
        clear hie hO1 hO hY hBw hlt5
        go_wp2_with fail
        refine hU.out.mono ?_
        rintro r w7 ⟨v7,rfl,hO7,hB7⟩
        have hB07:=HBw.out.trans (hB7.mono HBw.out.size)
        have hB37:=hBr.out.trans (hB7.mono hBr.out.size)
        obtain ⟨G7,c7,rfl,hG7b⟩:=zN2 hO7 hN0
        have hG7:G7<w7.heap.size:=(World.ownsRow.lt hO7 G7 rfl).2
        have HC7:Hid (∀j,j<N→w7.cell? ⟨G7,j,none⟩=some (.int .u64 ((C j).val:Int))):=zy (fun j hj=>by
         have h1:=(zN9 hO7 j hj).1
         rw [zKY hj] at h1
         exact h1)
        have HcS7:Hid (∀i,i<L.length→w7.cell? ⟨bS,oS+i,none⟩=some (.int .u64 (lft p (W2^i)))):=zy (fun i hi=>zDs hB37 hbS (HcS.out i hi))
        have hbS7:=Nat.lt_of_lt_of_le hbS hB37.size
        have HB07:=zy hB07
        have hs7:=hB07.size
        clear hO7 hB7 hB07 hB37 hBr hU HcS HcT3 HBw hbS
        go_wp2_with (at_make;refine wpList_make_full _ rfl _ _ 54 rfl w7.heap.size 22 i0 (.int .u64 0) 1 Tryz.underlying54 hi hz0 hz1 _ _ _ _ L.length rfl rfl ?l1 ?l2 ?b2 ?b3 (Nat.le_refl _) ?_)
        case l1=>omega
        case l2=>omega
        case b2=>rw [hz2];omega
        case b3=>unfold maxLen;omega
        intro w8 hown hgrow
        have hown0:OwnU w8 w7.heap.size (.slice (some ⟨w7.heap.size,0,none⟩) L.length L.length) L.length (part L.length (fun j=>((D j).val:Int)) 0):=by
         unfold OwnU
         rw [zNW,zJC,←toList_madeCells_one];exact hown
        have hB8:Below w7.heap.size w7 w8:=(Below.refl _ _).grown hgrow (Nat.le_refl _) (fun k h=>by cases h)
        obtain ⟨G,hG⟩: ∃G,G=w7.heap.size:=⟨_,rfl⟩
        rw [←hG]
        have hGe:w7.heap.size≤G:=by omega
        have nSG:bS≠G:=by omega
        have nCG:G7≠G:=by omega
        have nSG':G≠bS:=by omega
        have nCG':G≠G7:=by omega
        rw [show (⟨w7.heap.size,0,none⟩:Addr)=⟨G,0,none⟩ by rw [hG]] at hown0
        have HO8:=zy hown0
        have HB8:=zy hB8
        clear hown hgrow hown0 hB8 hG
        go_wp2
        go_loopw [145] (fun I wr=> ∃i:Nat,I= .int .i64 i∧i≤L.length∧Hid (OwnU wr w7.heap.size (.slice (some ⟨G,0,none⟩) L.length L.length) L.length (part L.length (fun j=>((D j).val:Int)) i))∧Hid (Below w7.heap.size w7 wr)) (fun I _=>L.length-(intOf I).toNat)
        case atStart=>exact ⟨0,rfl,by omega,HO8,HB8⟩
        case round=>
         clear HO8 HB8
         obtain ⟨i,rfl,hil2,hO,hBr⟩:=hrel
         by_cases hlt4:i<L.length
         ·have htn:tri i%L.length<L.length:=Nat.mod_lt _ hn0
          have c1:=zDs hBr.out hbS7 (HcS7.out _ htn)
          have hw2:=HW2.out i
          have hHf:=zy (fun wz=>HH.out i wz (by omega))
          obtain ⟨o,ho⟩: ∃o,o=L.length-1+i:=⟨_,rfl⟩
          have hoN:o<N:=by omega
          have c2:=zDs hBr.out hG7 (HC7.out o hoN)
          have hd:=HD.out i hlt4
          rw [←ho] at hd
          obtain ⟨t,ht⟩: ∃t,t=tri i%L.length:=⟨_,rfl⟩
          rw [←ht] at htn c1 hw2 hHf
          obtain ⟨y0,hy0⟩: ∃y0,y0=C o:=⟨_,rfl⟩
          rw [←hy0] at c2 hd
          have hF1:Fd wr w.heap.size v p g:=HFd.out.below (HB07.out.trans (hBr.out.mono hs7))
          have hlp: ∀x:Fin p,0≤((x.val:Nat):Int)∧((x.val:Nat):Int)≤18446744073709551615:=fun x=>by have:=x.isLt;have:=HPM.out.2;omega
          have HTm:Hid (∀n,Calls Tryz.prog 81 #[v, .int .u64 (lft p (W2^t)), .int .u64 (y0.val:Int)] (wr.drewN n) fun e w'=>e= .returned (.int .u64 ((D i).val:Int))∧ ∃k,w'=(wr.drewN n).drewN k):=zy (fun n=>by
           have h1:=zHM (hF1.drewN n) (W2^t) (y0.val:Int) (hlp y0).1 (hlp y0).2
           rw [zGv,zt_of_val,zt_pow,hw2,hd] at h1
           exact h1)
          have HHq:Hid (∀n,Calls Tryz.prog 133 #[.int .i64 (i:Nat), .int .i64 L.length] (wr.drewN n) fun e w'=>e= .returned (.int .i64 (t:Int))∧ ∃k,w'=(wr.drewN n).drewN k):=zy (fun n=>(hHf.out _).mono fun e w' ⟨he,hw⟩=>⟨he,0,hw ▸ rfl⟩)
          obtain ⟨lq,hlq⟩: ∃lq,lq=lft p (W2^t):=⟨_,rfl⟩
          rw [←hlq] at c1 HTm
          have hst:(part L.length (fun j=>((D j).val:Int)) i).set i ((D i).val:Int)=part L.length (fun j=>((D j).val:Int)) (i+1):=zNV
          obtain ⟨z0,hz0'⟩: ∃z0,z0=D i:=⟨_,rfl⟩
          rw [←hz0'] at HTm hst
          have HST:=zy hst
          obtain ⟨g1',f1,_⟩:=zN9 hO.out i hlt4
          have i1:(0:Int)≤(i:Int):=by omega
          have i2:(i:Int)<(L.length:Int):=by omega
          have i3:(0:Int)≤(o:Int):=by omega
          have i4:(o:Int)<(N:Int):=by omega
          have i5:(0:Int)≤(t:Int):=by omega
          have i6:(t:Int)<(L.length:Int):=by omega
          have e1:(L.length:Int)-1+(i:Int)=(o:Int):=by omega
          have v1:IntKind.i64.wrap ((L.length:Int)-1)=(L.length:Int)-1:=IntWalk.i64_in _ (by omega)
          have v2:IntKind.i64.wrap (o:Int)=(o:Int):=IntWalk.i64_in _ (by omega)
          clear ht ho hy0 hlq hz0' hst hF1 hlp hw2 hd hHf
          go_upto_region 35 with fail
          refine zWM 17 (by kernel_rfl) (by kernel_rfl) ?_
          simp only [List.take_succ_cons,List.take_zero,List.drop_succ_cons,List.drop_zero]
          repeat (go_big_quiet_step ((first|(go_at_call 133;exact Calls.quiet_of (HHq.out _))|(go_at_call 81;exact Calls.quiet_of (HTm.out _)))))
          refine wpQuiet_nil ?_
          intro _ hw'
          obtain ⟨nq,hw''⟩:=hw'
          subst hw''
          have hO1:=((hO.out.drewN nq).set i hlt4 (z0.val:Int)).1
          rw [HST.out] at hO1
          have HO1:=zy hO1
          have HB1:Hid (Below w7.heap.size w7 ((wr.drewN nq).setCell ⟨G,i,none⟩ (.int .u64 (z0.val:Int)))):=zy ((below_drewN hBr.out nq).setCell hGe _)
          clear hO1 hO hBr v1 v2 e1
          go_wp2
          go_roundw
          case rel=>exact ⟨i+1,by go_num,by omega,HO1,HB1⟩
          case measure=>simp [intOf];omega
         ·have hie:i=L.length:=by omega
          have hO1:=hO.out
          have hpf:part L.length (fun j=>((D j).val:Int)) L.length=lst L.length D:=zNT _ _
          rw [hie,hpf] at hO1
          have hBf:=HB07.out.trans (hBr.out.mono hs7)
          cases inv with
          | false=>
           have he:lst L.length D=lst L.length fun i=>sc p L.length false*D i:=zKW fun i _=>by show _=(1:Fin p)*_;grind
           rw [he] at hO1
           have HO1:=zy (hO1.mono hs7)
           have HBf:=zy hBf
           clear he hie hO1 hO hBr hBf hpf
           go_wp2
           go_ret2
           exact ⟨_,rfl,HO1.out,HBf.out⟩
          | true=>
           have HSs:=zy (HSc.out wr _ w.heap.size hBf hBf.size (hO1.mono hs7))
           have HBf:=zy hBf
           clear hie hO1 hO hBr hBf hpf
           go_wp2_with fail
           refine HSs.out.mono ?_
           rintro e w9 ⟨V9,rfl,hO9,hB9⟩
           have HO9:=zy (hO9.mono HBf.out.size)
           have hB09:=HBf.out.trans (hB9.mono HBf.out.size)
           clear hO9
           go_wp2
           go_ret2
           exact ⟨_,rfl,HO9.out,hB09⟩
end Go.Proofs.YtmalmijdjhkklaaGreat