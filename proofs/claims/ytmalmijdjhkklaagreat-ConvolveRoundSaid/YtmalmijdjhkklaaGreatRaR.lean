/- rader.Run. -/
import Derived.Test.YtmalmijdjhkklaaGreatW9
import Derived.Test.YtmalmijdjhkklaaGreatRaF
import Derived.Test.YtmalmijdjhkklaaGreatW25
import Derived.Test.YtmalmijdjhkklaaGreatW51
import Derived.Test.YtmalmijdjhkklaaGreatMakeN
import Derived.Test.YtmalmijdjhkklaaGreatW10
import Derived.Test.YtmalmijdjhkklaaGreatW39
import Derived.OneCell
import Derived.Test.YtmalmijdjhkklaaGreatRowsA
import Derived.Deep.RegionHeld3
import Derived.Deep.DrawnRows
set_option linter.unusedVariables false
set_option linter.unusedSimpArgs false
set_option maxRecDepth 100000
set_option maxHeartbeats 16000000
namespace Go.Proofs.YtmalmijdjhkklaaGreat
open Go.RowKit
open Alg
theorem zRm {p:Nat} {w:World} {v:Value} {g:Int} (h:Fd w w.heap.size v p g) (A:Option Addr) (c:Nat) (L:List Int) (inv:Bool) (hl:L.length≤140737488351232) (hU:U64s L) (hR:RdI w w.heap.size .u64 A L) (hf:zGP (rpad L.length) p L≠0):
  Calls Tryz.prog 67 #[v, .slice A L.length c, .bool inv] w fun e w'=>e= .returned (.tuple #[.slice none 0 0, .int .i64 (zGP (rpad L.length) p L)])∧Below w.heap.size w w':=by
 have hC:=zy (zDT h L.length 1024 (by omega) (by omega))
 have hG:Hid (∀wz,Below w.heap.size w wz→Calls Tryz.prog 120 #[v, .slice A L.length c] wz fun e w'=>e= .returned (.bool (zI1 p L))∧wz=w'):=zy (fun wz hz=>zI6 (h.below hz) A c w.heap.size L hl hU (hR.below hz))
 have hF:Hid (∀wz,Below w.heap.size w wz→Calls Tryz.prog 128 #[v, .int .i64 L.length] wz fun e w'=>e= .returned (.bool (fitR (rpad L.length) p))∧Below wz.heap.size wz w'):=zy (fun wz hz=>zHq ((h.below hz).mono hz.size) L.length (by omega) (by omega))
 have HV:Hid (zGP (rpad L.length) p L=if chk p L.length 1024≠0 then chk p L.length 1024 else if fitR (rpad L.length) p=false then 11 else if zI1 p L=false then 9 else 0):=zy rfl
 have HFn:=zy hf
 clear h hU hR hf
 by_cases c1:chk p L.length 1024=0
 ·rw [c1] at hC
  by_cases c2:fitR (rpad L.length) p=false
  ·have HV2:Hid (zGP (rpad L.length) p L=11):=zy (by rw [HV.out,if_neg (by simp [c1]),if_pos c2])
   rw [c2] at hF
   clear c1 c2
   go_enter Tryz.func67,Tryz.ntmps67
   go_wp2_with fail
   refine hC.out.mono ?_
   rintro e w1 ⟨rfl,rfl⟩
   go_wp2_with fail
   refine (hF.out _ (Below.refl _ _)).mono ?_
   rintro e w1 ⟨rfl,hB⟩
   go_wp2
   go_ret2
   exact ⟨by rw [HV2.out];first|rfl|simp,hB⟩
  ·have c2':fitR (rpad L.length) p=true:=by simpa using c2
   rw [c2'] at hF
   have c3:zI1 p L=false:=by
    rcases hg:zI1 p L with _|_
    ·rfl
    ·exact absurd (by rw [HV.out,if_neg (by simp [c1]),if_neg c2,hg];simp) HFn.out
   have HV2:Hid (zGP (rpad L.length) p L=9):=zy (by rw [HV.out,if_neg (by simp [c1]),if_neg c2,if_pos c3])
   rw [c3] at hG
   clear c1 c2 c2' c3
   go_enter Tryz.func67,Tryz.ntmps67
   go_wp2_with fail
   refine hC.out.mono ?_
   rintro e w1 ⟨rfl,rfl⟩
   go_wp2_with fail
   refine (hF.out _ (Below.refl _ _)).mono ?_
   rintro e w1 ⟨rfl,hB⟩
   go_wp2_with fail
   refine (hG.out _ hB).mono ?_
   rintro e w2 ⟨rfl,rfl⟩
   go_wp2
   go_ret2
   exact ⟨by rw [HV2.out];first|rfl|simp,hB⟩
 ·have HV2:Hid (zGP (rpad L.length) p L=chk p L.length 1024):=zy (by rw [HV.out,if_pos c1])
  obtain ⟨z,hz⟩: ∃z,z=chk p L.length 1024:=⟨_,rfl⟩
  rw [←hz] at hC HV2 c1
  have t:(z != 0)=true:=by simp [c1]
  clear hz c1
  go_enter Tryz.func67,Tryz.ntmps67
  go_wp2_with fail
  refine hC.out.mono ?_
  rintro e w1 ⟨rfl,rfl⟩
  go_wp2
  go_ret2
  exact ⟨by rw [HV2.out];first|rfl|simp,Below.refl _ _⟩
theorem zSt {n:Int} {p:Int} (h:fitR (rpad n) p=true):3≤n∧n≤1024∧Prime n.toNat∧rpad n=pd (2*n-3):=by
 unfold fitR at h
 simp only [Bool.and_eq_true,decide_eq_true_eq] at h
 unfold rpad at *
 split at h
 ·rename_i hc
  exact ⟨hc.1,hc.2.1,zJL.1 hc.2.2,by rw [if_pos hc]⟩
 ·omega
def zrow {p:Nat} [NeZero p] (n:Nat) (x:Nat→Fin p) (i:Nat):List Int:=lst n fun j=>if j=0 then sm i x else 0
def orow {p:Nat} [NeZero p] (n:Nat) (K:Nat→Nat) (D:Nat→Fin p) (i:Nat):List Int:=lst n fun j=>if (j == 0 || (List.range i).any fun m=>K m == j)=true then D j else 0
theorem zXo {p:Nat} [NeZero p] (n:Nat) (x:Nat→Fin p):zrow n x 0=List.replicate n 0:=by
 unfold zrow lst full
 rw [List.map_congr_left (g:=fun _=>(0:Int)) (fun i _=>by rw [sm_zero];simp)]
 simp [List.map_const']
theorem zXn {p:Nat} [NeZero p] {n:Nat} {x:Nat→Fin p} (i:Nat):(zrow n x i).set 0 (((sm i x+x i:Fin p).val:Nat):Int)=zrow n x (i+1):=by
 unfold zrow lst full
 apply List.ext_getElem
 ·simp
 ·intro j hj hj'
  simp at hj'
  simp only [List.getElem_set,List.getElem_map,List.getElem_range]
  by_cases e:0=j
  ·subst e;rw [if_pos rfl,if_pos rfl,sm_succ]
  ·rw [if_neg e,if_neg (Ne.symm e),if_neg (Ne.symm e)]
theorem zXm {p:Nat} [NeZero p] {n:Nat} (w:Fin p) (x:Nat→Fin p) (K:Nat→Nat):zrow n x n=orow n K (dft w n x) 0:=zKW fun j hj=>by
 by_cases e:j=0
 ·subst e;rw [if_pos rfl,if_pos (by simp),zRa]
 ·rw [if_neg e,if_neg (by simpa using e)]
theorem zNz {p:Nat} [NeZero p] {n:Nat} {K:Nat→Nat} {D:Nat→Fin p} (i:Nat):(orow n K D i).set (K i) (((D (K i)).val:Nat):Int)=orow n K D (i+1):=by
 unfold orow lst full
 apply List.ext_getElem
 ·simp
 ·intro j hj hj'
  simp at hj'
  simp only [List.getElem_set,List.getElem_map,List.getElem_range,List.range_succ,List.any_append,List.any_cons,List.any_nil,Bool.or_false]
  by_cases e:K i=j
  ·subst e;rw [if_pos rfl,if_pos (by simp)]
  ·rw [if_neg e]
   have h1:(K i == j)=false:=beq_eq_false_iff_ne.2 e
   simp only [h1,Bool.or_false]
theorem zNy {p:Nat} [NeZero p] {n M:Nat} {K:Nat→Nat} {D:Nat→Fin p} (h: ∀j,0<j→j<n→ ∃m,m<M∧K m=j):orow n K D M=lst n D:=zKW fun j hj=>by
 rw [if_pos]
 rcases Nat.eq_zero_or_pos j with h0|h0
 ·subst h0;simp
 ·obtain ⟨m,hm,he⟩:=h j h0 hj
  simp only [Bool.or_eq_true]
  exact .inr (List.any_eq_true.2 ⟨m,List.mem_range.2 hm,by simp [he]⟩)
attribute [local go_sem ↓] Go.wp_at_zero Go.wp_at_succ
theorem zRn {p:Nat} [NeZero p] {w:World} {v:Value} {g:Int} (hp:Prime p) (hg:Ord (zt p g) (p-1)) (g0:0≤g) (g1:g<p) (h:Fd w w.heap.size v p g) (A:Option Addr) (c:Nat) (L:List Int) (inv:Bool) (hU:U64s L) (hR:RdI w w.heap.size .u64 A L) (hf:zGP (rpad L.length) p L=0):
  Calls Tryz.prog 67 #[v, .slice A L.length c, .bool inv] w fun e w'=> ∃V,e= .returned (.tuple #[V, .int .i64 0])∧OwnU w' w.heap.size V L.length (lst L.length (tr (zt p g) L.length inv (rz p L)))∧Below w.heap.size w w':=by
 obtain ⟨i0,hi,hz0,hz1,hz2⟩:=info_parts zJt
 obtain ⟨hc,hft,hgd⟩:=zGR hf
 obtain ⟨n3,n1,hpr,hrp⟩:=zSt hft
 have hc4:=zEm hc (show (1024:Int)≤4096 by omega)
 have HPM:=zy (And.intro h.p3 h.pmx)
 obtain ⟨hdv,hn0⟩:=zEl (by have:=hp.1;omega) hc4
 obtain ⟨hq2,hq3,hq4,hq5⟩:=zOc (show 2*(L.length:Int)-3≤4096 by omega)
 have hNc:=zHd hft (by rw [hrp];omega)
 have hC:=zy (zDT h L.length 1024 (by omega) (by omega))
 rw [hc] at hC
 have hG:Hid (∀wz,Below w.heap.size w wz→Calls Tryz.prog 120 #[v, .slice A L.length c] wz fun e w'=>e= .returned (.bool true)∧wz=w'):=zy (fun wz hz=>by
  have h1:=zI6 (h.below hz) A c w.heap.size L (by omega) hU (hR.below hz)
  rw [hgd] at h1;exact h1)
 have hF:Hid (∀wz,Below w.heap.size w wz→Calls Tryz.prog 128 #[v, .int .i64 L.length] wz fun e w'=>e= .returned (.bool true)∧Below wz.heap.size wz w'):=zy (fun wz hz=>by
  have h1:=zHq ((h.below hz).mono hz.size) L.length (by omega) (by omega)
  rw [show (decide (0<rpad L.length) && (((p:Int)-1)%rpad L.length == 0))=true from hft] at h1
  exact h1)
 have hPd:=zy (fun wz=>zSr L.length wz (by omega) (by omega))
 rw [hrp] at hPd hNc
 obtain ⟨N,hN⟩: ∃N:Nat,(N:Int)=pd (2*(L.length:Int)-3):=⟨(pd (2*(L.length:Int)-3)).toNat,by omega⟩
 rw [←hN] at hPd hNc hq2 hq3 hq4 hq5
 rw [Int.toNat_natCast] at hpr
 haveI:NeZero L.length:=⟨by omega⟩
 have HFd:=zy h
 have HL:Hid (∀i,i<L.length→L.getD i 0=((rz p L i).val:Int)):=zy (fun i hi=>by
  have h1:=zKY (f:=rz p L) hi
  rw [zLc hgd hU] at h1
  exact h1)
 obtain ⟨ω,hω⟩: ∃ω,ω=rt (zt p g) L.length inv:=⟨_,rfl⟩
 have hRt:Hid (∀W,zAH p g L.length inv W→zt p W=ω):=zy (fun W hW=>by rw [hω];exact zAH.zt hp hg hdv hn0 hW)
 have hOω:pw ω L.length=1:=by rw [hω];exact (zSz hg hdv hn0 inv).2.1
 have HTb:Hid (∀wz,Below w.heap.size w wz→Calls Tryz.prog 129 #[v, .int .i64 L.length, .bool inv] wz fun e w'=> ∃V,e= .returned (.tuple #[V, .int .i64 0])∧OwnU w' wz.heap.size V L.length (lst L.length (pw ω))∧Below wz.heap.size wz w'):=zy (fun wz hz=>
  (zU2 ((h.below hz).mono hz.size) L.length inv hc4 g0 g1).mono fun e w' ⟨V,W,he,hW,hO,hB⟩=>⟨V,he,by
   have h1:(full L.length fun i=>W^i%(p:Int))=lst L.length (pw ω):=zHQ fun i hi=>by rw [←hRt.out W hW,←zt_pow,zt_val]
   rw [←h1];exact hO,hB⟩)
 obtain ⟨γ,hγ⟩:=zJI hpr (by omega)
 have hog:=hγ.ord hpr (by omega)
 have HWk:Hid (∀b wz,Calls Tryz.prog 130 #[.int .i64 L.length, .bool b] wz fun e w'=> ∃AW cW,e= .returned (.slice AW (L.length-1:Nat) cW)∧RdI w' w'.heap.size .i64 AW (full (L.length-1) fun i=>((gp L.length γ (wex L.length b i):Nat):Int))∧Below wz.heap.size wz w'):=zy (fun b wz=>
  (zWt L.length b wz (by omega) (by omega) hpr).mono fun e w' ⟨V,g',he,hg',hO,hB⟩=>by
   obtain rfl:g'=γ:=hg'.unique hγ
   have h1:wk L.length g' b=full (L.length-1) fun i=>((gp L.length g' (wex L.length b i):Nat):Int):=by
    unfold wk full
    exact List.map_congr_left fun i _=>by rw [zI8]
   obtain ⟨AW,cW,hV,hR⟩:=RdI.of_own (xs:=wk L.length g' b) (by rw [zWA];exact hO)
   rw [zWA] at hV
   rw [h1] at hR
   exact ⟨AW,cW,by rw [he,hV],hR,hB⟩)
 have hE: ∀m,m<L.length-1→pw (zt L.length (γ:Int)) (wex L.length true m)*pw (zt L.length (γ:Int)) m=1:=fun m hm=>by
  have h1:=zWq hpr (show 3≤L.length by omega) hγ hm
  rw [←zt_pow,←zt_pow,←zt_mul,←zt_one,zt_eq]
  rw [Int.mul_emod,Int.mul_comm,h1,Int.emod_eq_of_lt (by omega) (by omega)]
 obtain ⟨K,hK⟩: ∃K:Nat→Nat,K=fun m=>gp L.length γ (wex L.length true m):=⟨_,rfl⟩
 obtain ⟨T,hT⟩: ∃T:Nat→Nat,T=fun m=>gp L.length γ (wex L.length false m):=⟨_,rfl⟩
 have HW0:=zy (HWk.out false)
 have HW1:=zy (HWk.out true)
 have h0:(full (L.length-1) fun i=>((gp L.length γ (wex L.length false i):Nat):Int))=full (L.length-1) fun i=>((T i:Nat):Int):=by rw [hT]
 have h1:(full (L.length-1) fun i=>((gp L.length γ (wex L.length true i):Nat):Int))=full (L.length-1) fun i=>((K i:Nat):Int):=by rw [hK]
 rw [h0] at HW0
 rw [h1] at HW1
 clear h0 h1 HWk
 have HKl:Hid (∀m,K m<L.length):=zy (fun m=>by rw [hK];exact zI9 _ _ _)
 have HTl:Hid (∀m,T m<L.length):=zy (fun m=>by rw [hT];exact zI9 _ _ _)
 obtain ⟨α,hα⟩: ∃α:Nat→Fin p,α=fun q=>rz p L (T q):=⟨_,rfl⟩
 obtain ⟨β,hβ⟩: ∃β:Nat→Fin p,β=fun q=>pw ω (K q):=⟨_,rfl⟩
 have Hα:Hid (∀q,α q=rz p L (T q)):=zy (fun q=>by rw [hα])
 have Hβ:Hid (∀q,β q=pw ω (K q)):=zy (fun q=>by rw [hβ])
 have HD:Hid (∀m,m<L.length-1→rz p L 0+cyc (L.length-1) α β m=dft ω L.length (rz p L) (K m)):=zy (fun m hm=>by
  rw [hK]
  exact zQZ hpr (by omega) hog hOω (rz p L) hE (fun q hq=>by rw [hα,hT];rfl) (fun q hq=>by rw [hβ,hK]) m hm)
 have HAll:Hid (orow L.length K (dft ω L.length (rz p L)) (L.length-1)=lst L.length (dft ω L.length (rz p L))):=zy (zNy fun j h0 hj=>by
  rw [hK];exact zQY hpr hog hE j h0 hj)
 have HFo:Hid (∀wz (AA AB:Option Addr) (cA cB:Nat),Below w.heap.size w wz→RdI wz wz.heap.size .u64 AA (lst (L.length-1) α)→RdI wz wz.heap.size .u64 AB (lst (L.length-1) β)→
   Calls Tryz.prog 131 #[v, .slice AA (L.length-1:Nat) cA, .slice AB (L.length-1:Nat) cB, .int .i64 N] wz fun r w'=> ∃V,r= .returned V∧OwnU w' wz.heap.size V (L.length-1) (lst (L.length-1) (cyc (L.length-1) α β))∧Below wz.heap.size wz w'):=zy (fun wz AA AB cA cB hz hA hB=>
  zH5 hp hg g0 g1 ((HFd.out.below hz).mono hz.size) (L.length-1) N AA AB cA cB α β (by omega) (by omega) (by omega) hNc hq2 hA hB)
 have HSc:Hid (∀wz (V:Value) (B:Nat),Below w.heap.size w wz→B≤wz.heap.size→OwnU wz B V L.length (lst L.length (dft ω L.length (rz p L)))→Calls Tryz.prog 122 #[v,V] wz fun e w'=> ∃V,e= .returned V∧OwnU w' wz.heap.size V L.length (lst L.length fun i=>sc p L.length true*dft ω L.length (rz p L) i)∧Below wz.heap.size wz w'):=zy (fun wz V B hz hB hV=>by
  obtain ⟨A3,c3,rfl,hR3⟩:=hV.rd
  have hS:=zTa ((HFd.out.below hz).mono hz.size) A3 c3 (lst L.length (dft ω L.length (rz p L))) (by rw [zLb];omega) (zLd HPM.out.2 _ _) hR3
  rw [zLb] at hS
  exact hS.mono fun e w' ⟨V3,t,he,ht,hO3,hB3⟩=>⟨V3,he,by
   have h1:(full L.length fun i=>t*(lst L.length (dft ω L.length (rz p L))).getD i 0%(p:Int))=lst L.length fun i=>sc p L.length true*dft ω L.length (rz p L) i:=zHQ fun i hi=>by
    rw [zKY hi,zGv,zt_of_val,zSY hp hdv hn0 ht]
   rw [←h1];exact hO3,hB3⟩)
 have HTr:Hid (lst L.length (tr (zt p g) L.length inv (rz p L))=lst L.length fun i=>sc p L.length inv*dft ω L.length (rz p L) i):=zy (by rw [hω];rfl)
 rw [HTr.out]
 obtain ⟨D,hDe⟩: ∃D,D=dft ω L.length (rz p L):=⟨_,rfl⟩
 have HZf:Hid (zrow L.length (rz p L) L.length=orow L.length K D 0):=zy (by rw [hDe];exact zXm ω _ K)
 rw [←hDe] at HD HAll HSc ⊢
 have HR:=zy hR
 have e1:(L.length:Int)-1=((L.length-1:Nat):Int):=by omega
 obtain ⟨m,hm⟩: ∃m,m=L.length-1:=⟨_,rfl⟩
 rw [←hm] at e1 HD HAll HFo HW0 HW1
 have hm1:m+1=L.length:=by omega
 have HM1:=zy hm1
 have hmk:=zLr m (by omega)
 have hnl:(L.length:Int)≤1024:=n1
 have hml:m≤1023:=by omega
 have hm2:2≤m:=by omega
 obtain ⟨x,hx⟩: ∃x,x=rz p L:=⟨_,rfl⟩
 rw [←hx] at HL Hα HD HZf
 have HPp:=zy hp
 clear h hR hU hf hc hft hgd hpr hrp hc4 hdv hq2 hq3 hq4 hq5 hNc hN hω hOω hγ hog hE hK hT hα hβ hDe hm hm1 HTr hg hRt hx hp n3
 go_enter Tryz.func67,Tryz.ntmps67
 go_wp2_with fail
 refine hC.out.mono ?_
 rintro e w1 ⟨rfl,rfl⟩
 go_wp2_with fail
 refine (hF.out _ (Below.refl _ _)).mono ?_
 rintro e w1 ⟨rfl,hB1⟩
 go_wp2_with fail
 refine (hG.out _ hB1).mono ?_
 rintro e w2 ⟨rfl,rfl⟩
 go_wp2_with fail
 refine (HTb.out _ hB1).mono ?_
 rintro e w2 ⟨VT,rfl,hOT,hB2⟩
 obtain ⟨AT,cT,rfl,hRT⟩:=hOT.rd
 obtain ⟨bT,oT,rfl,hbT,hcT⟩:=hRT (by rw [zLb];omega)
 have HcT:Hid (∀i,i<L.length→w2.cell? ⟨bT,oT+i,none⟩=some (.int .u64 ((pw ω i).val:Int))):=zy (fun i hi=>by
  have h1:=hcT i (by rw [zLb];exact hi)
  rw [zKY hi] at h1
  exact h1)
 have hBx:=hB1.trans (hB2.mono hB1.size)
 clear hOT hRT hcT hB1 hB2
 go_wp2_with fail
 refine (HW0.out w2).mono ?_
 rintro e w3 ⟨AW,cW,rfl,hRW,hB3⟩
 obtain ⟨bW,oW,rfl,hbW,hcW⟩:=hRW (by rw [zHS];omega)
 have HcW:Hid (∀i,i<m→w3.cell? ⟨bW,oW+i,none⟩=some (.int .i64 ((T i:Nat):Int))):=zy (fun i hi=>by
  have h1:=hcW i (by rw [zHS];exact hi)
  rw [zHR hi] at h1
  exact h1)
 have hBy:=hBx.trans (hB3.mono hBx.size)
 have HcT3:Hid (∀i,i<L.length→w3.cell? ⟨bT,oT+i,none⟩=some (.int .u64 ((pw ω i).val:Int))):=zy (fun i hi=>zDs hB3 hbT (HcT.out i hi))
 have hbT3:=Nat.lt_of_lt_of_le hbT hB3.size
 clear hRW hcW hBx hB3 HcT hbT
 go_wp2_with fail
 refine (HW1.out w3).mono ?_
 rintro e w4 ⟨AK,cK,rfl,hRK,hB4⟩
 obtain ⟨bK,oK,rfl,hbK,hcK⟩:=hRK (by rw [zHS];omega)
 have HcK:Hid (∀i,i<m→w4.cell? ⟨bK,oK+i,none⟩=some (.int .i64 ((K i:Nat):Int))):=zy (fun i hi=>by
  have h1:=hcK i (by rw [zHS];exact hi)
  rw [zHR hi] at h1
  exact h1)
 have hBz:=hBy.trans (hB4.mono hBy.size)
 have HcT4:Hid (∀i,i<L.length→w4.cell? ⟨bT,oT+i,none⟩=some (.int .u64 ((pw ω i).val:Int))):=zy (fun i hi=>zDs hB4 hbT3 (HcT3.out i hi))
 have HcW4:Hid (∀i,i<m→w4.cell? ⟨bW,oW+i,none⟩=some (.int .i64 ((T i:Nat):Int))):=zy (fun i hi=>zDs hB4 hbW (HcW.out i hi))
 have hbT4:=Nat.lt_of_lt_of_le hbT3 hB4.size
 have hbW4:=Nat.lt_of_lt_of_le hbW hB4.size
 have hws4:=hBz.size
 clear hRK hcK hBy hB4 HcT3 hbT3 HcW hbW
 obtain ⟨bL,oL,rfl,hbL,hcL⟩:=HR.out (by omega)
 have HcL:Hid (∀i,i<L.length→w4.cell? ⟨bL,oL+i,none⟩=some (.int .u64 ((x i).val:Int))):=zy (fun i hi=>by
  have h1:=zDs hBz hbL (hcL i hi)
  rw [HL.out i hi] at h1
  exact h1)
 have hbL4:bL<w4.heap.size:=by omega
 have HBz:=zy hBz
 clear hcL HR hBz
 go_upto_region 11 with fail
 go_cut [14,15] (fun Va Vb wx=> ∃Ga Gb,Va= .slice (some ⟨Ga,0,none⟩) m m∧Vb= .slice (some ⟨Gb,0,none⟩) m m∧Ga≠Gb∧w4.heap.size≤Ga∧w4.heap.size≤Gb∧Hid (OwnU wx w4.heap.size (.slice (some ⟨Ga,0,none⟩) m m) m (part m (fun j=>((α j).val:Int)) 0))∧Hid (OwnU wx w4.heap.size (.slice (some ⟨Gb,0,none⟩) m m) m (part m (fun j=>((β j).val:Int)) 0))∧Hid (Below w4.heap.size w4 wx))
 case first=>
  have v1:IntKind.i64.wrap (m:Int)=(m:Int):=IntWalk.i64_in _ (by omega)
  obtain ⟨z1,z2,z3⟩:=zVG w4 m (List.replicate m 0) (List.replicate m 0) (by simp) (by simp) (by omega)
  have Z1:=zy z1
  have Z2:=zy z2
  have Z3:=zy z3
  clear z1 z2 z3
  go_region
  ·go_wp2
   go_meet
   exact ⟨_,_,rfl,rfl,by omega,by omega,by omega,zy (by rw [zNW];exact Z1.out),zy (by rw [zNW];exact Z2.out),Z3⟩
  ·go_wp2
   go_meet
   exact ⟨_,_,rfl,rfl,by omega,by omega,by omega,zy (by rw [zNW];exact Z2.out),zy (by rw [zNW];exact Z1.out),Z3⟩
 case rest=>
  obtain ⟨Ga,Gb,rfl,rfl,hne,hGa,hGb,hOa,hOb,hBc⟩:=hcut
  have hcz:=hBc.out.size
  clear hmk
  go_wp2
  go_loopw [61] (fun I wr=> ∃i:Nat,I= .int .i64 i∧i≤m∧Hid (OwnU wr w4.heap.size (.slice (some ⟨Ga,0,none⟩) m m) m (part m (fun j=>((α j).val:Int)) i))∧Hid (OwnU wr w4.heap.size (.slice (some ⟨Gb,0,none⟩) m m) m (part m (fun j=>((β j).val:Int)) i))∧Hid (Below w4.heap.size w4 wr)) (fun I _=>m-(intOf I).toNat)
  case atStart=>exact ⟨0,rfl,by omega,hOa,hOb,hBc⟩
  case round=>
   clear hOa hOb hBc
   obtain ⟨i,rfl,him,hOa,hOb,hBr⟩:=hrel
   by_cases hlt:i<m
   ·have ti:=HTl.out i
    have ki:=HKl.out i
    have c1:=zDs hBr.out hbW4 (HcW4.out i hlt)
    have c2:=zDs hBr.out hbK (HcK.out i hlt)
    have c3:=zDs hBr.out hbL4 (HcL.out (T i) ti)
    have c4:=zDs hBr.out hbT4 (HcT4.out (K i) ki)
    rw [←Hα.out i] at c3
    rw [←Hβ.out i] at c4
    obtain ⟨g1',f1,_⟩:=zN9 hOa.out i hlt
    obtain ⟨g2',f2,_⟩:=zN9 hOb.out i hlt
    obtain ⟨t,ht⟩: ∃t,t=T i:=⟨_,rfl⟩
    obtain ⟨k,hk⟩: ∃k,k=K i:=⟨_,rfl⟩
    rw [←ht] at c1 c3 ti
    rw [←hk] at c2 c4 ki
    have hs1:(part m (fun j=>((α j).val:Int)) i).set i ((α i).val:Int)=part m (fun j=>((α j).val:Int)) (i+1):=zNV
    have hs2:(part m (fun j=>((β j).val:Int)) i).set i ((β i).val:Int)=part m (fun j=>((β j).val:Int)) (i+1):=zNV
    obtain ⟨X,hX⟩: ∃X:Int,X=((α i).val:Int):=⟨_,rfl⟩
    obtain ⟨Y,hY⟩: ∃Y:Int,Y=((β i).val:Int):=⟨_,rfl⟩
    rw [←hX] at c3 hs1
    rw [←hY] at c4 hs2
    have HS1:=zy hs1
    have HS2:=zy hs2
    have i1:(0:Int)≤(i:Int):=by omega
    have i2:(i:Int)<(m:Int):=by omega
    have i3:(0:Int)≤(t:Int):=by omega
    have i4:(t:Int)<(L.length:Int):=by omega
    have i5:(0:Int)≤(k:Int):=by omega
    have i6:(k:Int)<(L.length:Int):=by omega
    have nWa:bW≠Ga:=by omega
    have nKa:bK≠Ga:=by omega
    have nLa:bL≠Ga:=by omega
    have nTa:bT≠Ga:=by omega
    have nWb:bW≠Gb:=by omega
    have nKb:bK≠Gb:=by omega
    have nLb:bL≠Gb:=by omega
    have nTb:bT≠Gb:=by omega
    have nWa':Ga≠bW:=by omega
    have nWb':Gb≠bW:=by omega
    have nKa':Ga≠bK:=by omega
    have nKb':Gb≠bK:=by omega
    have nLa':Ga≠bL:=by omega
    have nLb':Gb≠bL:=by omega
    have nTa':Ga≠bT:=by omega
    have nTb':Gb≠bT:=by omega
    have nab:Gb≠Ga:=Ne.symm hne
    clear ht hk hs1 hs2 hX hY
    go_upto_region 15 with fail
    go_region_held3 (fun wz=>wz.cell? ⟨bW,oW+i,none⟩=some (.int .i64 (t:Int))∧wz.cell? ⟨bK,oK+i,none⟩=some (.int .i64 (k:Int))∧wz.cell? ⟨bL,oL+t,none⟩=some (.int .u64 X)∧wz.cell? ⟨bT,oT+k,none⟩=some (.int .u64 Y))
     (first|go_keep|(refine ⟨?_,?_,?_,?_⟩ <;> first|assumption|go_keep))
     (fail)
    have HOa:Hid (OwnU ((wr.setCell ⟨Ga,i,none⟩ (.int .u64 X)).setCell ⟨Gb,i,none⟩ (.int .u64 Y)).drew w4.heap.size (.slice (some ⟨Ga,0,none⟩) m m) m (part m (fun j=>((α j).val:Int)) (i+1))):=zy (by
     have h1:=(hOa.out.set i hlt X).1
     rw [HS1.out] at h1
     exact OwnU.drewN (zN7 h1 hne _) 1)
    have HOb:Hid (OwnU ((wr.setCell ⟨Ga,i,none⟩ (.int .u64 X)).setCell ⟨Gb,i,none⟩ (.int .u64 Y)).drew w4.heap.size (.slice (some ⟨Gb,0,none⟩) m m) m (part m (fun j=>((β j).val:Int)) (i+1))):=zy (by
     have h1:=(OwnU.set (zN7 (o:=i) hOb.out nab (.int .u64 X)) i hlt Y).1
     rw [HS2.out] at h1
     exact OwnU.drewN h1 1)
    have HB1:Hid (Below w4.heap.size w4 ((wr.setCell ⟨Ga,i,none⟩ (.int .u64 X)).setCell ⟨Gb,i,none⟩ (.int .u64 Y)).drew):=zy (below_drewN ((hBr.out.setCell hGa _).setCell hGb _) 1)
    clear hOa hOb hBr c1 c2 c3 c4 g1' g2' f1 f2
    go_wp2
    go_roundw
    case rel=>exact ⟨i+1,by go_num,by omega,HOa,HOb,HB1⟩
    case measure=>simp [intOf];omega
   ·obtain rfl:m=i:=by omega
    have ha:part m (fun j=>((α j).val:Int)) m=lst m α:=zNT _ _
    have hb:part m (fun j=>((β j).val:Int)) m=lst m β:=zNT _ _
    have hBw:=HBz.out.trans (hBr.out.mono hws4)
    rw [ha] at hOa
    rw [hb] at hOb
    have HBw:=zy hBw
    have hsw:=hBr.out.size
    clear ha hb hBw
    go_wp2_with fail
    refine (hPd.out _).mono ?_
    rintro e w6 ⟨rfl,hB6⟩
    have hB06:=HBw.out.trans (hB6.mono HBw.out.size)
    have hB46:=hBr.out.trans (hB6.mono hsw)
    have hOa6:=hOa.out.below hB6
    have hOb6:=hOb.out.below hB6
    obtain ⟨Aa,ca,hae,hRa⟩:=hOa6.rd
    obtain ⟨Ab,cb,hbe,hRb⟩:=hOb6.rd
    injection hae with ha1 ha2 ha3
    injection hbe with hb1 hb2 hb3
    subst ha1 ha3 hb1 hb3
    have HFc:=zy (HFo.out w6 (some ⟨Ga,0,none⟩) (some ⟨Gb,0,none⟩) m m hB06 hRa hRb)
    have HB06:=zy hB06
    have HB46:=zy hB46
    clear hOa6 hOb6 hRa hRb hOa hOb hB6 hBr hB06 hB46 ha2 hb2
    go_wp2_with fail
    refine HFc.out.mono ?_
    rintro e w7 ⟨Vc,rfl,hOc,hB7⟩
    have hB07:=HB06.out.trans (hB7.mono HB06.out.size)
    have hB47:=HB46.out.trans (hB7.mono HB46.out.size)
    obtain ⟨Gc,cc,rfl,hGc⟩:=zN2 hOc (show 0<m by omega)
    have hGc7:Gc<w7.heap.size:=(World.ownsRow.lt hOc Gc rfl).2
    have HcC:Hid (∀i,i<m→w7.cell? ⟨Gc,i,none⟩=some (.int .u64 ((cyc m α β i).val:Int))):=zy (fun i hi=>by
     have h1:=(zN9 hOc i hi).1
     rw [zKY hi] at h1
     exact h1)
    have HcL7:Hid (∀i,i<L.length→w7.cell? ⟨bL,oL+i,none⟩=some (.int .u64 ((x i).val:Int))):=zy (fun i hi=>zDs hB47 hbL4 (HcL.out i hi))
    have HcK7:Hid (∀i,i<m→w7.cell? ⟨bK,oK+i,none⟩=some (.int .i64 ((K i:Nat):Int))):=zy (fun i hi=>zDs hB47 hbK (HcK.out i hi))
    have hbL7:=Nat.lt_of_lt_of_le hbL4 hB47.size
    have hbK7:=Nat.lt_of_lt_of_le hbK hB47.size
    have HB07:=zy hB07
    have hs7:=hB07.size
    clear hOc hB7 hB07 hB47 HB06 HB46 HFc HcL HcK HcT4 HcW4
    go_wp2_with (at_make;refine wpList_make_full _ rfl _ _ 54 rfl w7.heap.size 22 i0 (.int .u64 0) 1 Tryz.underlying54 hi hz0 hz1 _ _ _ _ L.length rfl rfl ?l1 ?l2 ?b2 ?b3 (Nat.le_refl _) ?_)
    case l1=>omega
    case l2=>omega
    case b2=>rw [hz2];omega
    case b3=>unfold maxLen;omega
    intro w8 hown hgrow
    have hown0:OwnU w8 w7.heap.size (.slice (some ⟨w7.heap.size,0,none⟩) L.length L.length) L.length (zrow L.length x 0):=by
     unfold OwnU
     rw [zXo,zJC,←toList_madeCells_one];exact hown
    have hB8:Below w7.heap.size w7 w8:=(Below.refl _ _).grown hgrow (Nat.le_refl _) (fun k h=>by cases h)
    obtain ⟨G,hG⟩: ∃G,G=w7.heap.size:=⟨_,rfl⟩
    rw [←hG]
    have hGe:w7.heap.size≤G:=by omega
    have nLG:bL≠G:=by omega
    have nKG:bK≠G:=by omega
    have nCG:Gc≠G:=by omega
    have nLG':G≠bL:=by omega
    have nKG':G≠bK:=by omega
    have nCG':G≠Gc:=by omega
    rw [show (⟨w7.heap.size,0,none⟩:Addr)=⟨G,0,none⟩ by rw [hG]] at hown0
    have HO8:=zy hown0
    have HB8:=zy hB8
    clear hown hgrow hown0 hB8 hG
    go_wp2
    go_loopw [95] (fun I wr=> ∃i:Nat,I= .int .i64 i∧i≤L.length∧Hid (OwnU wr w7.heap.size (.slice (some ⟨G,0,none⟩) L.length L.length) L.length (zrow L.length x i))∧Hid (Below w7.heap.size w7 wr)) (fun I _=>L.length-(intOf I).toNat)
    case atStart=>exact ⟨0,rfl,by omega,HO8,HB8⟩
    case round=>
     clear HO8 HB8
     obtain ⟨i,rfl,hil,hO,hBr⟩:=hrel
     by_cases hlt:i<L.length
     ·have c1:=zDs hBr.out hbL7 (HcL7.out i hlt)
      obtain ⟨c2,f2,_⟩:=zN9 hO.out 0 hn0
      have hz:(zrow L.length x i).getD 0 0=((sm i x:Fin p).val:Int):=by unfold zrow;rw [zKY hn0,if_pos rfl]
      rw [hz] at c2
      have hst:=zXn (n:=L.length) (x:=x) i
      obtain ⟨x0,hx0⟩: ∃x0:Fin p,x0=sm i x:=⟨_,rfl⟩
      obtain ⟨y0,hy0⟩: ∃y0,y0=x i:=⟨_,rfl⟩
      rw [←hx0] at c2 hst
      rw [←hy0] at c1 hst
      have hF1:Fd wr w.heap.size v p g:=HFd.out.below (HB07.out.trans (hBr.out.mono hs7))
      have hlp: ∀x:Fin p,0≤((x.val:Nat):Int)∧((x.val:Nat):Int)≤18446744073709551615:=fun x=>by have:=x.isLt;have:=HPM.out.2;omega
      have HAd:Hid (Calls Tryz.prog 80 #[v, .int .u64 (x0.val:Int), .int .u64 (y0.val:Int)] wr fun e w'=>e= .returned (.int .u64 ((x0+y0).val:Int))∧ ∃k,w'=wr.drewN k):=zy (by
       have h1:=zG9 hF1 (x0.val:Int) (y0.val:Int) (hlp x0).1 (hlp x0).2 (hlp y0).1 (hlp y0).2
       rw [zGt,zt_of_val,zt_of_val] at h1
       exact h1)
      obtain ⟨z0,hz0'⟩: ∃z0,z0=x0+y0:=⟨_,rfl⟩
      rw [←hz0'] at HAd hst
      have HST:=zy hst
      clear hz hx0 hy0 hst hz0' hlp hF1
      go_wp2_with fail
      refine HAd.out.mono ?_
      rintro e w9 ⟨rfl,nq,rfl⟩
      have hO1:=((hO.out.drewN nq).set 0 hn0 (z0.val:Int)).1
      rw [HST.out] at hO1
      have HO1:=zy hO1
      have HB1:Hid (Below w7.heap.size w7 ((wr.drewN nq).setCell ⟨G,0,none⟩ (.int .u64 (z0.val:Int)))):=zy ((below_drewN hBr.out nq).setCell hGe _)
      clear hO1 hO hBr
      go_wp2
      go_roundw
      case rel=>exact ⟨i+1,by go_num,by omega,HO1,HB1⟩
      case measure=>simp [intOf];omega
     ·have hie:i=L.length:=by omega
      have hO1:=hO.out
      rw [hie,HZf.out] at hO1
      have HO1:=zy hO1
      clear hie hO1 hO
      go_wp2
      go_loopw [110] (fun I wr=> ∃i:Nat,I= .int .i64 i∧i≤m∧Hid (OwnU wr w7.heap.size (.slice (some ⟨G,0,none⟩) L.length L.length) L.length (orow L.length K D i))∧Hid (Below w7.heap.size w7 wr)) (fun I _=>m-(intOf I).toNat)
      case atStart=>exact ⟨0,rfl,by omega,HO1,hBr⟩
      case round=>
       clear HO1 hBr
       obtain ⟨i,rfl,him2,hO,hBr⟩:=hrel
       by_cases hlt2:i<m
       ·have c1:=zDs hBr.out hbL7 (HcL7.out 0 hn0)
        have c2:=zDs hBr.out hbK7 (HcK7.out i hlt2)
        have c3:=zDs hBr.out hGc7 (HcC.out i hlt2)
        have ki:=HKl.out i
        obtain ⟨c4,f4,_⟩:=zN9 hO.out (K i) ki
        have hst:=zNz (n:=L.length) (K:=K) (D:=D) i
        rw [←HD.out i hlt2] at hst
        obtain ⟨k,hk⟩: ∃k,k=K i:=⟨_,rfl⟩
        rw [←hk] at c2 c4 f4 ki hst
        obtain ⟨x0,hx0⟩: ∃x0:Fin p,x0=x 0:=⟨_,rfl⟩
        obtain ⟨y0,hy0⟩: ∃y0,y0=cyc m α β i:=⟨_,rfl⟩
        rw [←hx0] at c1 hst
        rw [←hy0] at c3 hst
        rw [Nat.add_zero] at c1
        have hF1:Fd wr w.heap.size v p g:=HFd.out.below (HB07.out.trans (hBr.out.mono hs7))
        have hlp: ∀x:Fin p,0≤((x.val:Nat):Int)∧((x.val:Nat):Int)≤18446744073709551615:=fun x=>by have:=x.isLt;have:=HPM.out.2;omega
        have HAd:Hid (∀n,Calls Tryz.prog 80 #[v, .int .u64 (x0.val:Int), .int .u64 (y0.val:Int)] (wr.drewN n) fun e w'=>e= .returned (.int .u64 ((x0+y0).val:Int))∧ ∃k,w'=(wr.drewN n).drewN k):=zy (fun n=>by
         have h1:=zG9 (hF1.drewN n) (x0.val:Int) (y0.val:Int) (hlp x0).1 (hlp x0).2 (hlp y0).1 (hlp y0).2
         rw [zGt,zt_of_val,zt_of_val] at h1
         exact h1)
        obtain ⟨z0,hz0'⟩: ∃z0,z0=x0+y0:=⟨_,rfl⟩
        rw [←hz0'] at HAd hst
        have HST:=zy hst
        have i1:(0:Int)≤(i:Int):=by omega
        have i2:(i:Int)<(m:Int):=by omega
        have i3:(0:Int)≤(k:Int):=by omega
        have i4:(k:Int)<(L.length:Int):=by omega
        have i5:(0:Int)<(L.length:Int):=by omega
        clear hk hx0 hy0 hst hz0' hlp hF1
        go_upto_region 27 with fail
        refine zWM 11 (by kernel_rfl) (by kernel_rfl) ?_
        simp only [List.take_succ_cons,List.take_zero,List.drop_succ_cons,List.drop_zero]
        repeat (go_big_quiet_step ((first|(go_at_call 80;exact Calls.quiet_of (HAd.out _)))))
        refine wpQuiet_nil ?_
        intro _ hw'
        obtain ⟨nq,hw''⟩:=hw'
        subst hw''
        have hO1:=((hO.out.drewN nq).set k ki (z0.val:Int)).1
        rw [HST.out] at hO1
        have HO1:=zy hO1
        have HB1:Hid (Below w7.heap.size w7 ((wr.drewN nq).setCell ⟨G,k,none⟩ (.int .u64 (z0.val:Int)))):=zy ((below_drewN hBr.out nq).setCell hGe _)
        clear hO1 hO hBr
        go_wp2
        go_roundw
        case rel=>exact ⟨i+1,by go_num,by omega,HO1,HB1⟩
        case measure=>simp [intOf];omega
       ·have hie:i=m:=by omega
        have hO1:=hO.out
        rw [hie,HAll.out] at hO1
        have hBf:=HB07.out.trans (hBr.out.mono hs7)
        cases inv with
        | false=>
         have he:lst L.length D=lst L.length fun i=>sc p L.length false*D i:=zKW fun i _=>by show _=(1:Fin p)*_;grind
         rw [he] at hO1
         have HO1:=zy (hO1.mono hs7)
         have HBf:=zy hBf
         clear he hie hO1 hO hBr hBf
         go_wp2
         go_ret2
         exact ⟨_,rfl,HO1.out,HBf.out⟩
        | true=>
         have HSs:=zy (HSc.out wr _ w.heap.size hBf hBf.size (hO1.mono hs7))
         have HBf:=zy hBf
         clear hie hO1 hO hBr hBf
         go_wp2_with fail
         refine HSs.out.mono ?_
         rintro e w9 ⟨V9,rfl,hO9,hB9⟩
         have HO9:=zy (hO9.mono HBf.out.size)
         have hB09:=HBf.out.trans (hB9.mono HBf.out.size)
         clear hO9
         go_wp2
         go_ret2
         exact ⟨_,rfl,HO9.out,hB09⟩
end Go.Proofs.YtmalmijdjhkklaaGreat