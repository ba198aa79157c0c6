/- radix4.Run. -/
import Derived.Test.YtmalmijdjhkklaaGreatW125
import Derived.Test.YtmalmijdjhkklaaGreatW51
set_option linter.unusedVariables false
set_option linter.unusedSimpArgs false
set_option maxRecDepth 100000
set_option maxHeartbeats 16000000
namespace Go.Proofs.YtmalmijdjhkklaaGreat
open Go.RowKit
open Alg
theorem zNC {n:Nat} (h:p2 (n:Int)=true):Pow2 n:=by
 rw [zNB] at h
 unfold p2N at h
 simp only [Bool.or_eq_true,beq_iff_eq] at h
 rcases h with (((((((((((h|h)|h)|h)|h)|h)|h)|h)|h)|h)|h)|h)|h
 ·exact ⟨0,h⟩
 ·exact ⟨1,h⟩
 ·exact ⟨2,h⟩
 ·exact ⟨3,h⟩
 ·exact ⟨4,h⟩
 ·exact ⟨5,h⟩
 ·exact ⟨6,h⟩
 ·exact ⟨7,h⟩
 ·exact ⟨8,h⟩
 ·exact ⟨9,h⟩
 ·exact ⟨10,h⟩
 ·exact ⟨11,h⟩
 ·exact ⟨12,h⟩
theorem zGJ {p:Int} {L:List Int} (h:zGD p L=0):chk p L.length 4096=0∧p2 L.length=true∧zI1 p L=true:=by
 unfold zGD at h
 split at h
 ·rename_i h1;exact absurd h h1
 ·rename_i h1
  split at h
  ·omega
  ·rename_i h2
   split at h
   ·omega
   ·rename_i h3
    exact ⟨by simpa using h1,by simpa using h2,by simpa using h3⟩
theorem zQ5 {p:Nat} {w:World} {v:Value} {g:Int} (h:Fd w w.heap.size v p g) (A:Option Addr) (c:Nat) (L:List Int) (inv:Bool) (hl:L.length≤140737488351232) (hU:U64s L) (hR:RdI w w.heap.size .u64 A L) (hf:zGD p L≠0):
  Calls Tryz.prog 64 #[v, .slice A L.length c, .bool inv] w fun e w'=>e= .returned (.tuple #[.slice none 0 0, .int .i64 (zGD p L)])∧w=w':=by
 have hC:=zy (fun m=>zDT h L.length m (by omega) (by omega))
 have hG:=zy (zI6 h A c w.heap.size L hl hU hR)
 have hF:=zy (fun w=>zHm L.length w (by omega) (by omega))
 have HV:Hid (zGD p L=if chk p L.length 4096≠0 then chk p L.length 4096 else if p2 L.length=false then 11 else if zI1 p L=false then 9 else 0):=zy rfl
 have HFn:=zy hf
 clear h hU hR hf
 by_cases c1:chk p L.length 4096=0
 ·have hC2:=zy (hC.out 4096)
  rw [c1] at hC2
  by_cases c2:p2 L.length=false
  ·have HV2:Hid (zGD p L=11):=zy (by rw [HV.out,if_neg (by simp [c1]),if_pos c2])
   rw [c2] at hF
   clear c1 c2 hC
   go_enter Tryz.func64,Tryz.ntmps64
   go_wp2_with fail
   refine hC2.out.mono ?_
   rintro e w1 ⟨rfl,rfl⟩
   go_wp2_with fail
   refine (hF.out _).mono ?_
   rintro e w1 ⟨rfl,rfl⟩
   go_wp2
   go_ret2
   exact ⟨by rw [HV2.out];first|rfl|simp,rfl⟩
  ·have c2':p2 L.length=true:=by simpa using c2
   rw [c2'] at hF
   by_cases c3:zI1 p L=false
   ·have HV2:Hid (zGD p L=9):=zy (by rw [HV.out,if_neg (by simp [c1]),if_neg c2,if_pos c3])
    rw [c3] at hG
    clear c1 c2 c2' c3 hC
    go_enter Tryz.func64,Tryz.ntmps64
    go_wp2_with fail
    refine hC2.out.mono ?_
    rintro e w1 ⟨rfl,rfl⟩
    go_wp2_with fail
    refine (hF.out _).mono ?_
    rintro e w1 ⟨rfl,rfl⟩
    go_wp2_with fail
    refine hG.out.mono ?_
    rintro e w1 ⟨rfl,rfl⟩
    go_wp2
    go_ret2
    exact ⟨by rw [HV2.out];first|rfl|simp,rfl⟩
   ·exact absurd (by rw [HV.out,if_neg (by simp [c1]),if_neg c2,if_neg c3]) HFn.out
 ·have HV2:Hid (zGD p L=chk p L.length 4096):=zy (by rw [HV.out,if_pos c1])
  have hC2:=zy (hC.out 4096)
  obtain ⟨z,hz⟩: ∃z,z=chk p L.length 4096:=⟨_,rfl⟩
  rw [←hz] at hC2 HV2 c1
  have t:(z != 0)=true:=by simp [c1]
  clear hz c1 hC
  go_enter Tryz.func64,Tryz.ntmps64
  go_wp2_with fail
  refine hC2.out.mono ?_
  rintro e w1 ⟨rfl,rfl⟩
  go_wp2
  go_ret2
  exact ⟨by rw [HV2.out];first|rfl|simp,rfl⟩
theorem zQ6 {p:Nat} [NeZero p] {w:World} {v:Value} {g:Int} (hp:Prime p) (hg:Ord (zt p g) (p-1)) (g0:0≤g) (g1:g<p) (h:Fd w w.heap.size v p g) (A:Option Addr) (c:Nat) (L:List Int) (inv:Bool) (hU:U64s L) (hR:RdI w w.heap.size .u64 A L) (hf:zGD p L=0):
  Calls Tryz.prog 64 #[v, .slice A L.length c, .bool inv] w fun e w'=> ∃V,e= .returned (.tuple #[V, .int .i64 0])∧OwnU w' w.heap.size V L.length (lst L.length (tr (zt p g) L.length inv (rz p L)))∧Below w.heap.size w w':=by
 obtain ⟨fb,rfl⟩: ∃fb,v= .pointer (some ⟨fb,0,none⟩):=by
  obtain ⟨b,c,t,o,s,sv,hv,_⟩:=h
  exact ⟨b,hv⟩
 obtain ⟨hc,h2,hgd⟩:=zGJ hf
 obtain ⟨n1,n2,_⟩:=zEq hc
 have HPM:=zy (And.intro h.p3 h.pmx)
 obtain ⟨hdv,hn0⟩:=zEl (by have:=hp.1;omega) hc
 have hC:=zy (zDT h L.length 4096 (by omega) (by omega))
 rw [hc] at hC
 have hG:=zy (zI6 h A c w.heap.size L (by omega) hU hR)
 rw [hgd] at hG
 have hF:=zy (fun w=>zHm L.length w (by omega) (by omega))
 rw [h2] at hF
 have hT:=zy (zKA h L.length inv hc g0 g1)
 have HL:Hid (lst L.length (rz p L)=L):=zy (zLc hgd hU)
 have HP2:=zy (zNC h2)
 have HFd:=zy h
 have HR:=zy hR
 have hRt:Hid (∀W,zAH p g L.length inv W→zt p W=rt (zt p g) L.length inv):=zy (fun W hW=>zAH.zt hp hg hdv hn0 hW)
 have HO:Hid (Ord (rt (zt p g) L.length inv) L.length):=zy (zSz hg hdv hn0 inv)
 have HSc:Hid (∀t,zAw p L.length t→zt p t=sc p L.length true):=zy (fun t ht=>zSY hp hdv hn0 ht)
 have hn96:L.length≤4096:=by omega
 clear h hR hU hf hc h2 hgd n1 n2 hdv hn0
 have key: ∀w1 V W,Below w.heap.size w w1→zAH p g L.length inv W→OwnU w1 w.heap.size V L.length (full L.length fun i=>lft p (W^i))→ ∃AT cT,V= .slice AT L.length cT∧
   Calls Tryz.prog 121 #[.agg #[.pointer (some ⟨fb,0,none⟩), .slice AT L.length cT], .slice A L.length c, .int .i64 1] w1 fun r w'=> ∃V2,r= .returned V2∧OwnU w' w1.heap.size V2 L.length (lst L.length (dft (rt (zt p g) L.length inv) L.length (rz p L)))∧Below w1.heap.size w1 w':=fun w1 V W hB hW hV=>by
  obtain ⟨AT,cT,rfl,hRT⟩:=hV.rd
  refine ⟨AT,cT,rfl,?_⟩
  have hz:=hRt.out W hW
  have h1:=zSw L.length cT AT hp (by rw [hz];exact HO.out) hn96 (L.length+1) L.length 1 (rz p L) A c w1 (by omega) HP2.out (by omega) ((HFd.out.below hB).mono hB.size) hRT (by rw [HL.out];exact (HR.out.below hB).mono hB.size)
  rw [hz,pw_one] at h1
  exact h1
 have KEY:=zy key
 clear key
 cases inv with
 | false=>
  go_enter Tryz.func64,Tryz.ntmps64
  go_wp2_with fail
  refine hC.out.mono ?_
  rintro e w1 ⟨rfl,rfl⟩
  go_wp2_with fail
  refine (hF.out _).mono ?_
  rintro e w1 ⟨rfl,rfl⟩
  go_wp2_with fail
  refine hG.out.mono ?_
  rintro e w1 ⟨rfl,rfl⟩
  go_wp2_with fail
  refine hT.out.mono ?_
  rintro e w1 ⟨V,W,rfl,hW,hown,hB1⟩
  obtain ⟨AT,cT,rfl,hrun⟩:=KEY.out w1 V W hB1 hW hown
  have HRn:=zy hrun
  clear hW hown hrun
  go_wp2_with fail
  refine HRn.out.mono ?_
  rintro e w2 ⟨V2,rfl,hO2,hB2⟩
  have he:lst L.length (dft (rt (zt p g) L.length false) L.length (rz p L))=lst L.length (tr (zt p g) L.length false (rz p L)):=zKW fun i hi=>by
   show _=(1:Fin p)*_;grind
  rw [he] at hO2
  have HO2:=zy (hO2.mono hB1.size)
  have HB2:=zy (hB1.trans (hB2.mono hB1.size))
  clear he hO2
  go_wp2
  go_ret2
  exact ⟨_,rfl,HO2.out,HB2.out⟩
 | true=>
  go_enter Tryz.func64,Tryz.ntmps64
  go_wp2_with fail
  refine hC.out.mono ?_
  rintro e w1 ⟨rfl,rfl⟩
  go_wp2_with fail
  refine (hF.out _).mono ?_
  rintro e w1 ⟨rfl,rfl⟩
  go_wp2_with fail
  refine hG.out.mono ?_
  rintro e w1 ⟨rfl,rfl⟩
  go_wp2_with fail
  refine hT.out.mono ?_
  rintro e w1 ⟨V,W,rfl,hW,hown,hB1⟩
  obtain ⟨AT,cT,rfl,hrun⟩:=KEY.out w1 V W hB1 hW hown
  have HRn:=zy hrun
  clear hW hown hrun
  go_wp2_with fail
  refine HRn.out.mono ?_
  rintro e w2 ⟨V2,rfl,hO2,hB2⟩
  have hB12:=hB1.trans (hB2.mono hB1.size)
  obtain ⟨A3,c3,rfl,hR3⟩:=hO2.rd
  have hS:=zTa ((HFd.out.below hB12).mono hB12.size) A3 c3 (lst L.length (dft (rt (zt p g) L.length true) L.length (rz p L))) (by rw [zLb];omega) (zLd HPM.out.2 _ _) hR3
  rw [zLb] at hS
  have HS:=zy hS
  clear hO2 hR3 hS
  go_wp2_with fail
  refine HS.out.mono ?_
  rintro e w3 ⟨V3,t,rfl,ht,hO3,hB3⟩
  have he:(full L.length fun i=>t*(lst L.length (dft (rt (zt p g) L.length true) L.length (rz p L))).getD i 0%(p:Int))=lst L.length (tr (zt p g) L.length true (rz p L)):=zHQ fun i hi=>by
   rw [zKY hi,zGv,zt_of_val,HSc.out t ht];rfl
  rw [he] at hO3
  have HO3:=zy (hO3.mono hB12.size)
  have HB3:=zy (hB12.trans (hB3.mono hB12.size))
  clear he hO3 ht
  go_wp2
  go_ret2
  exact ⟨_,rfl,HO3.out,HB3.out⟩
end Go.Proofs.YtmalmijdjhkklaaGreat