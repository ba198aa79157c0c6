/- The law ConvolveLaws. -/
import Derived.Test.YtmalmijdjhkklaaGreatWPlUToCvG
import Derived.Test.YtmalmijdjhkklaaGreatWRef06ToMs21
import Derived.Test.YtmalmijdjhkklaaGreatWLinToLinN
import Derived.Test.YtmalmijdjhkklaaGreatWOpenOpenU
import Derived.Test.YtmalmijdjhkklaaGreatMakeW
set_option linter.unusedVariables false
set_option linter.unusedSimpArgs false
set_option linter.unusedSectionVars false
namespace Go.Proofs.YtmalmijdjhkklaaGreat
open Go.RowKit
open Alg
set_option maxHeartbeats 16000000 in
set_option maxRecDepth 100000 in
theorem zJT (w:World) (A0:Option Addr) (c0:Nat) (kind0 kk0 pp0:Int) (es0:List Ent) (A1:Option Addr) (c1:Nat) (L1:List Int) (A2:Option Addr) (c2:Nat) (L2:List Int) (A3:Option Addr) (c3:Nat) (L3:List Int) (x4:Int) (hs0:SrcA w A0 c0 kind0 kk0 pp0 es0) (hl1:LstA w A1 c1 L1) (hl2:LstA w A2 c2 L2) (hl3:LstA w A3 c3 L3) (h04: -9223372036854775808≤x4) (h14:x4≤9223372036854775807):
  Calls Tryz.prog 8 #[.agg #[.int .i64 kind0, .int .i64 kk0, .int .u64 pp0, .slice A0 es0.length c0], .slice A1 L1.length c1, .slice A2 L2.length c2, .slice A3 L3.length c3, .int .i64 x4] w fun e w'=>e= .returned (.bool true)∧Below w.heap.size w w':=by
 have R0:Hid (zAI (w.alloc (.cells #[.int .i64 kind0, .int .i64 kk0, .int .u64 pp0, .slice A0 es0.length c0] 25)) w.heap.size 25 #[.int .i64 kind0, .int .i64 kk0, .int .u64 pp0, .slice A0 es0.length c0]∧Below w.heap.size w (w.alloc (.cells #[.int .i64 kind0, .int .i64 kk0, .int .u64 pp0, .slice A0 es0.length c0] 25))):=Lib.hid (lay1 w 25 #[.int .i64 kind0, .int .i64 kk0, .int .u64 pp0, .slice A0 es0.length c0])
 have HS:=Lib.hid hs0
 have HL1:=Lib.hid hl1
 have hLl1:=hl1.hl
 have HU1:=Lib.hid hl1.hU
 have HL2:=Lib.hid hl2
 have hLl2:=hl2.hl
 have HU2:=Lib.hid hl2.hU
 have HL3:=Lib.hid hl3
 have hLl3:=hl3.hl
 have HU3:=Lib.hid hl3.hU
 have KP:Hid (∀W W',(zAI W w.heap.size 25 #[.int .i64 kind0, .int .i64 kk0, .int .u64 pp0, .slice A0 es0.length c0]∧Below w.heap.size w W)→Below W.heap.size W W'→(zAI W' w.heap.size 25 #[.int .i64 kind0, .int .i64 kk0, .int .u64 pp0, .slice A0 es0.length c0]∧Below w.heap.size w W')):=Lib.hid (fun W W' h hB=>⟨h.1.keep hB,h.2.trans (hB.mono h.2.size)⟩)
 clear hs0 hl1 hl2 hl3
 obtain ⟨i0,hi,hz0,hz1,hz2⟩:=info_parts zJt
 go_enter Tryz.func8,Tryz.ntmps8
 go_wp2_with fail
 generalize (w.alloc (.cells #[.int .i64 kind0, .int .i64 kk0, .int .u64 pp0, .slice A0 es0.length c0] 25))=w1 at *
 refine (zBx w1).mono ?_
 rintro e w2 ⟨rfl,hB2⟩
 have R2:=Lib.hid (KP.out _ _ R0.out hB2)
 clear hB2 R0
 go_wp2_with (refine wpList_load_row rfl _ _ rfl _ rfl _ _ _ _ (R2.out.1) Tryz.underlying25 rfl (by exact zTA) ?_)
 refine (zLp (HS.out.below R2.out.2)).mono ?_
 rintro e w3 ⟨v,p,g,rfl,hM,hB3⟩
 have R3:=Lib.hid (KP.out _ _ R2.out hB3)
 have HM:=Lib.hid hM
 clear hB3 R2 hM HS
 rcases HM.out with ⟨rfl,rfl,rfl⟩|⟨p3,hC,hF⟩
 ·clear HM
  go_wp2
  go_ret
  exact ⟨by first|rfl|simp,R3.out.2⟩
 obtain ⟨q,rfl⟩:=Int.eq_ofNat_of_zero_le (show 0≤p by omega)
 have pm:=hF.pmx
 haveI:NeZero q:=⟨by omega⟩
 obtain ⟨hp,hord⟩:=hC.nat
 have hg:=hC.gr
 have tp:((q:Int) == 0)=false:=by simp;omega
 have HPM:=Lib.hid (And.intro p3 pm)
 have HPr:=Lib.hid (And.intro hp (And.intro hord hg))
 have HFd:=Lib.hid hF
 clear HM hC hF hp hord hg p3 pm
 have HR1:Hid (∀W,Below w3.heap.size w3 W→RdI W W.heap.size .u64 A1 L1):=Lib.hid (fun W hW=>(HL1.out.below (R3.out.2.trans (hW.mono R3.out.2.size))).hR)
 have HR2:Hid (∀W,Below w3.heap.size w3 W→RdI W W.heap.size .u64 A2 L2):=Lib.hid (fun W hW=>(HL2.out.below (R3.out.2.trans (hW.mono R3.out.2.size))).hR)
 have HR3:Hid (∀W,Below w3.heap.size w3 W→RdI W W.heap.size .u64 A3 L3):=Lib.hid (fun W hW=>(HL3.out.below (R3.out.2.trans (hW.mono R3.out.2.size))).hR)
 have HFq:Hid (∀W,Below w3.heap.size w3 W→Fd W W.heap.size v (q:Int) g):=Lib.hid (fun W hW=>(HFd.out.below hW).mono hW.size)
 have HE1:=Lib.hid (zUr A1 A2 c1 c2 q L1 L2 w3 hLl1 hLl2 (HR1.out w3 (Below.refl _ _)) (HR2.out w3 (Below.refl _ _)))
 have HE2:=Lib.hid (zUr A2 A3 c2 c3 q L2 L3 w3 hLl2 hLl3 (HR2.out w3 (Below.refl _ _)) (HR3.out w3 (Below.refl _ _)))
 by_cases g1:40<L1.length
 ·have tt_g1:decide ((L1.length:Int)>40)=true:=decide_eq_true (by omega)
  clear g1
  go_wp2
  go_ret
  exact ⟨by first|rfl|simp,R3.out.2⟩
 have tt_g1:decide ((L1.length:Int)>40)=false:=decide_eq_false (by omega)
 by_cases g2:40<L2.length
 ·have tt_g2:decide ((L2.length:Int)>40)=true:=decide_eq_true (by omega)
  clear g2
  go_wp2
  go_ret
  exact ⟨by first|rfl|simp,R3.out.2⟩
 have tt_g2:decide ((L2.length:Int)>40)=false:=decide_eq_false (by omega)
 by_cases g3:40<L3.length
 ·have tt_g3:decide ((L3.length:Int)>40)=true:=decide_eq_true (by omega)
  clear g3
  go_wp2
  go_ret
  exact ⟨by first|rfl|simp,R3.out.2⟩
 have tt_g3:decide ((L3.length:Int)>40)=false:=decide_eq_false (by omega)
 by_cases g4:x4<0
 ·have tt_g4:decide (x4<0)=true:=decide_eq_true (by omega)
  clear g4
  go_wp2
  go_ret
  exact ⟨by first|rfl|simp,R3.out.2⟩
 have tt_g4:decide (x4<0)=false:=decide_eq_false (by omega)
 by_cases g5:40<x4
 ·have tt_g5:decide (x4>40)=true:=decide_eq_true (by omega)
  clear g5
  go_wp2
  go_ret
  exact ⟨by first|rfl|simp,R3.out.2⟩
 have tt_g5:decide (x4>40)=false:=decide_eq_false (by omega)
 by_cases e0:dirf q L1 L2=0
 case neg=>
  obtain ⟨z,hz⟩: ∃z,z=dirf q L1 L2:=⟨_,rfl⟩
  rw [←hz] at HE1 e0
  have tz:(z != 0)=true:=by simpa using e0
  clear hz e0
  go_wp2_with fail
  refine HE1.out.mono ?_
  rintro e w4 ⟨rfl,rfl⟩
  go_wp2
  go_ret
  exact ⟨by first|rfl|simp,R3.out.2⟩
 by_cases e1:dirf q L2 L3=0
 case neg=>
  obtain ⟨z,hz⟩: ∃z,z=dirf q L2 L3:=⟨_,rfl⟩
  rw [←hz] at HE2 e1
  have tz:(z != 0)=true:=by simpa using e1
  clear hz e1
  rw [e0] at HE1
  clear e0
  go_wp2_with fail
  refine HE1.out.mono ?_
  rintro e w4 ⟨rfl,rfl⟩
  go_wp2_with fail
  refine HE2.out.mono ?_
  rintro e w4 ⟨rfl,rfl⟩
  go_wp2
  go_ret
  exact ⟨by first|rfl|simp,R3.out.2⟩
 rw [e0] at HE1
 rw [e1] at HE2
 obtain ⟨l1,l2,n12,ga,gb⟩:=zFA e0
 obtain ⟨_,l3,n23,_,gc⟩:=zFA e1
 obtain ⟨k,rfl⟩:=Int.eq_ofNat_of_zero_le (show 0≤x4 by omega)
 have HDir:Hid (∀(X Y:List Int) AX AY cX cY W,0<X.length→0<Y.length→X.length+Y.length-1≤1024→U64s X→U64s Y→Below w3.heap.size w3 W→RdI W W.heap.size .u64 AX X→RdI W W.heap.size .u64 AY Y→zI1 q X=true→zI1 q Y=true→
   Calls Tryz.prog 34 #[v, .slice AX X.length cX, .slice AY Y.length cY] W fun e w'=> ∃V,e= .returned (.tuple #[V, .int .i64 0])∧OwnU w' W.heap.size V (X.length+Y.length-1) (lst (X.length+Y.length-1) (drc q X Y))∧Below W.heap.size W w'):=Lib.hid
  (fun X Y AX AY cX cY W h1 h2 h3 h4 h5 h6 h7 h8 h9 h10=>zF9 (HFq.out W h6) AX AY cX cY X Y h1 h2 h3 h4 h5 h7 h8 h9 h10)
 obtain ⟨Z12,hZ12⟩: ∃Z,Z=lst (L1.length+L2.length-1) (drc q L1 L2):=⟨_,rfl⟩
 obtain ⟨Z23,hZ23⟩: ∃Z,Z=lst (L2.length+L3.length-1) (drc q L2 L3):=⟨_,rfl⟩
 have hl12:Z12.length=L1.length+L2.length-1:=by rw [hZ12];exact zLb _ _
 have hl23:Z23.length=L2.length+L3.length-1:=by rw [hZ23];exact zLb _ _
 obtain ⟨Z,hZ⟩: ∃Z,Z=lst (Z12.length+L3.length-1) (drc q Z12 L3):=⟨_,rfl⟩
 have hlZ:Z.length=L1.length+L2.length+L3.length-2:=by rw [hZ,zLb,hl12];omega
 obtain ⟨U,hU⟩: ∃U:List Int,U=(List.replicate (k+1) 0).set k 1:=⟨_,rfl⟩
 have hlU:U.length=k+1:=by rw [hU];simp
 have hUk: ∀i,U.getD i 0=if i=k then 1 else 0:=fun i=>by
  rw [hU,List.getD_eq_getElem?_getD,List.getElem?_set]
  by_cases h:k=i
  ·rw [if_pos h,if_pos (by simp),if_pos h.symm];rfl
  ·rw [if_neg h,if_neg (fun e=>h e.symm),List.getElem?_replicate]
   split <;> rfl
 have hUm: ∀x ∈ U,x=0∨x=1:=fun x hx=>by
  rw [hU] at hx
  rcases List.mem_or_eq_of_mem_set hx with h|h
  ·exact .inl (List.eq_of_mem_replicate h)
  ·exact .inr h
 have hUU:U64s U:=fun x hx=>by rcases hUm x hx with rfl|rfl <;> omega
 have hUg:zI1 q U=true:=by
  unfold zI1
  refine List.all_eq_true.2 fun x hx=>?_
  have:=HPM.out.1
  rcases hUm x hx with rfl|rfl <;> simp <;> omega
 obtain ⟨ZU,hZU⟩: ∃Z,Z=lst (U.length+L1.length-1) (drc q U L1):=⟨_,rfl⟩
 have hlZU:ZU.length=k+L1.length:=by rw [hZU,zLb,hlU];omega
 have hZUv:ZU=List.replicate k 0 ++ L1:=by
  have hb: ∀i,i<k+L1.length→(drc q U L1 i).val=((if i<k then 0 else rz q L1 (i-k):Fin q)).val:=fun i hi=>by
   rw [zFX U L1 k hlU (fun i hi=>by show zt q (U.getD i 0)=0;rw [hUk,if_neg (by omega)];exact zt_zero) (by show zt q (U.getD k 0)=1;rw [hUk,if_pos rfl];exact zt_one) hi]
  have hr:=zLc ga HU1.out
  rw [hZU,hlU,show k+1+L1.length-1=k+L1.length by omega]
  apply List.ext_getElem
  ·simp [lst,full]
  ·intro i h1 h2
   simp only [lst,full,List.length_map,List.length_range] at h1
   simp only [lst,full,List.getElem_map,List.getElem_range]
   rw [hb i h1,List.getElem_append]
   by_cases h:i<k
   ·rw [if_pos h,dif_pos (by simpa using h)];simp
   ·rw [if_neg h,dif_neg (by simpa using h)]
    have h3:(lst L1.length (rz q L1)).getD (i-k) 0=L1.getD (i-k) 0:=by rw [hr]
    rw [zKY (by omega)] at h3
    rw [h3,List.getD_eq_getElem?_getD,List.getElem?_eq_getElem (by omega)]
    simp
 have hDR: ∀(X Y R:List Int) AX AY cX cY W,lst (X.length+Y.length-1) (drc q X Y)=R→0<X.length→0<Y.length→X.length+Y.length-1≤1024→U64s X→U64s Y→Below w3.heap.size w3 W→RdI W W.heap.size .u64 AX X→RdI W W.heap.size .u64 AY Y→zI1 q X=true→zI1 q Y=true→
   Calls Tryz.prog 34 #[v, .slice AX X.length cX, .slice AY Y.length cY] W fun e w'=> ∃V,e= .returned (.tuple #[V, .int .i64 0])∧OwnU w' W.heap.size V R.length R∧Below W.heap.size W w':=fun X Y R AX AY cX cY W hR h1 h2 h3 h4 h5 h6 h7 h8 h9 h10=>by
  have h:=HDir.out X Y AX AY cX cY W h1 h2 h3 h4 h5 h6 h7 h8 h9 h10
  rw [hR] at h
  have hl:X.length+Y.length-1=R.length:=by rw [←hR,zLb]
  rw [hl] at h
  exact h
 have ulst: ∀n (F:Nat→Fin q),U64s (lst n F):=fun n F=>zLd HPM.out.2 _ _
 have hba:lst (L2.length+L1.length-1) (drc q L2 L1)=Z12:=by
  rw [hZ12,show L2.length+L1.length-1=L1.length+L2.length-1 by omega]
  exact zKW fun i _=>zFV _ _ _
 have hy:lst (L1.length+Z23.length-1) (drc q L1 Z23)=Z:=by
  rw [hZ,hl12,hl23,show L1.length+(L2.length+L3.length-1)-1=L1.length+L2.length-1+L3.length-1 by omega]
  exact zKW fun i _=>by rw [hZ12,hZ23];exact (zFU L1 L2 L3 l1 l2 l3 i).symm
 have H1:=Lib.hid (fun W hW=>hDR L1 L2 Z12 A1 A2 c1 c2 W hZ12.symm l1 l2 n12 HU1.out HU2.out hW (HR1.out W hW) (HR2.out W hW) ga gb)
 have H2:=Lib.hid (fun W hW=>hDR L2 L1 Z12 A2 A1 c2 c1 W hba l2 l1 (by omega) HU2.out HU1.out hW (HR2.out W hW) (HR1.out W hW) gb ga)
 have H3:=Lib.hid (fun W hW=>hDR L2 L3 Z23 A2 A3 c2 c3 W hZ23.symm l2 l3 n23 HU2.out HU3.out hW (HR2.out W hW) (HR3.out W hW) gb gc)
 have H4:=Lib.hid (fun AX cX W hW hX=>hDR Z12 L3 Z AX A3 cX c3 W hZ.symm (by omega) l3 (by omega) (by rw [hZ12];exact ulst _ _) HU3.out hW hX (HR3.out W hW) (by rw [hZ12];exact zKZ _ _) gc)
 have H5:=Lib.hid (fun AY cY W hW hY=>hDR L1 Z23 Z A1 AY c1 cY W hy l1 (by omega) (by omega) HU1.out (by rw [hZ23];exact ulst _ _) hW (HR1.out W hW) hY ga (by rw [hZ23];exact zKZ _ _))
 have H6:=Lib.hid (fun AX cX W hW hX=>hDR U L1 ZU AX A1 cX c1 W hZU.symm (by omega) l1 (by omega) hUU HU1.out hW hX (HR1.out W hW) hUg ga)
 have HSm:Hid (∀(X:List Int) AX AY cX cY W,X.length≤140737488351232→RdI W W.heap.size .u64 AX X→RdI W W.heap.size .u64 AY X→Calls Tryz.prog 35 #[.slice AX X.length cX, .slice AY X.length cY] W fun e w'=>e= .returned (.bool true)∧Below W.heap.size W w'):=Lib.hid (fun X AX AY cX cY W hl h1 h2=>by
  have h:=zSV AX AY cX cY W.heap.size X X W hl hl h1 h2
  rw [show decide (X=X)=true by simp] at h
  exact h)
 have b12:Z12.length≤140737488351232:=by omega
 have bZ:Z.length≤140737488351232:=by omega
 have HUl:=Lib.hid hU
 have HZv:=Lib.hid hZUv
 obtain ⟨m,hm⟩: ∃m,m=k+1:=⟨_,rfl⟩
 have em:(k:Int)+1=((m:Nat):Int):=by omega
 rw [←hm] at HUl hlU
 have hkm:k<m:=by omega
 have hm1:m≤41:=by omega
 have ez:((L1.length:Nat):Int)+(k:Int)=((ZU.length:Nat):Int):=by omega
 have tzz:(((ZU.length:Nat):Int) != ((ZU.length:Nat):Int))=false:=by simp
 have HlZU:=Lib.hid hlZU
 have HlU:=Lib.hid hlU
 have HL1p:=Lib.hid l1
 have hk40:k≤40:=by omega
 clear hDR hba hy hZ hZ12 hZ23 hU hZU hZUv hUm hUU hUg hUk ulst hl12 hl23 hlZ HDir HFd HFq HR2 HR3 l1 l2 l3 n12 n23 e0 e1 ga gb gc hlU hlZU hm
 go_wp2_with fail
 refine HE1.out.mono ?_
 rintro e w4 ⟨rfl,rfl⟩
 go_wp2_with fail
 refine HE2.out.mono ?_
 rintro e w4 ⟨rfl,rfl⟩
 go_wp2_with fail
 refine (H1.out w3 (Below.refl _ _)).mono ?_
 rintro e wa ⟨Vwa,rfl,hOwa,hBwa⟩
 obtain ⟨Awa,cwa,rfl,hRwa⟩:=hOwa.rd
 have Rwa:=Lib.hid (KP.out _ _ R3.out hBwa)
 have HBwa:=Lib.hid ((Below.refl w3.heap.size w3).trans (hBwa.mono ((Below.refl w3.heap.size w3)).size))
 have HRwa:Hid (∀W,Below wa.heap.size wa W→RdI W W.heap.size .u64 Awa Z12):=Lib.hid (fun W hW=>(hRwa.below hW).mono hW.size)
 clear hOwa hBwa hRwa
 go_wp2_with fail
 refine (H2.out wa HBwa.out).mono ?_
 rintro e wb ⟨Vwb,rfl,hOwb,hBwb⟩
 obtain ⟨Awb,cwb,rfl,hRwb⟩:=hOwb.rd
 have Rwb:=Lib.hid (KP.out _ _ Rwa.out hBwb)
 have HBwb:=Lib.hid (HBwa.out.trans (hBwb.mono (HBwa.out).size))
 have HRwb:Hid (∀W,Below wb.heap.size wb W→RdI W W.heap.size .u64 Awb Z12):=Lib.hid (fun W hW=>(hRwb.below hW).mono hW.size)
 have G1b:=Lib.hid hBwb
 clear hOwb hBwb hRwb
 go_wp2_with fail
 refine (H3.out wb HBwb.out).mono ?_
 rintro e wc ⟨Vwc,rfl,hOwc,hBwc⟩
 obtain ⟨Awc,cwc,rfl,hRwc⟩:=hOwc.rd
 have Rwc:=Lib.hid (KP.out _ _ Rwb.out hBwc)
 have HBwc:=Lib.hid (HBwb.out.trans (hBwc.mono (HBwb.out).size))
 have HRwc:Hid (∀W,Below wc.heap.size wc W→RdI W W.heap.size .u64 Awc Z23):=Lib.hid (fun W hW=>(hRwc.below hW).mono hW.size)
 have G1c:=Lib.hid (G1b.out.trans (hBwc.mono G1b.out.size))
 have G0c:=Lib.hid hBwc
 clear hOwc hBwc hRwc
 go_wp2_with fail
 refine (H4.out Awa cwa wc HBwc.out (HRwa.out wc G1c.out)).mono ?_
 rintro e wd ⟨Vwd,rfl,hOwd,hBwd⟩
 obtain ⟨Awd,cwd,rfl,hRwd⟩:=hOwd.rd
 have Rwd:=Lib.hid (KP.out _ _ Rwc.out hBwd)
 have HBwd:=Lib.hid (HBwc.out.trans (hBwd.mono (HBwc.out).size))
 have HRwd:Hid (∀W,Below wd.heap.size wd W→RdI W W.heap.size .u64 Awd Z):=Lib.hid (fun W hW=>(hRwd.below hW).mono hW.size)
 have G1d:=Lib.hid (G1c.out.trans (hBwd.mono G1c.out.size))
 have G0d:=Lib.hid (G0c.out.trans (hBwd.mono G0c.out.size))
 have G3d:=Lib.hid hBwd
 clear hOwd hBwd hRwd
 go_wp2_with fail
 refine (H5.out Awc cwc wd HBwd.out (HRwc.out wd G3d.out)).mono ?_
 rintro e we ⟨Vwe,rfl,hOwe,hBwe⟩
 obtain ⟨Awe,cwe,rfl,hRwe⟩:=hOwe.rd
 have Rwe:=Lib.hid (KP.out _ _ Rwd.out hBwe)
 have HBwe:=Lib.hid (HBwd.out.trans (hBwe.mono (HBwd.out).size))
 have HRwe:Hid (∀W,Below we.heap.size we W→RdI W W.heap.size .u64 Awe Z):=Lib.hid (fun W hW=>(hRwe.below hW).mono hW.size)
 have G1e:=Lib.hid (G1d.out.trans (hBwe.mono G1d.out.size))
 have G0e:=Lib.hid (G0d.out.trans (hBwe.mono G0d.out.size))
 have G4e:=Lib.hid hBwe
 clear hOwe hBwe hRwe
 go_wp2_with (at_make;refine wpList_make_full _ rfl _ _ 54 rfl we.heap.size 22 i0 (.int .u64 0) 1 Tryz.underlying54 hi hz0 hz1 _ _ _ _ m rfl rfl ?l1 ?l2 ?b2 ?b3 (Nat.le_refl _) ?_)
 case l1=>omega
 case l2=>omega
 case b2=>rw [hz2];omega
 case b3=>unfold maxLen;omega
 intro w8 hown hgrow
 have hown0:OwnU w8 we.heap.size (.slice (some ⟨we.heap.size,0,none⟩) m m) m (List.replicate m 0):=by
  unfold OwnU
  rw [zJC,←toList_madeCells_one];exact hown
 have hB8:Below we.heap.size we w8:=(Below.refl _ _).grown hgrow (Nat.le_refl _) (fun k h=>by cases h)
 obtain ⟨G,hG⟩: ∃G,G=we.heap.size:=⟨_,rfl⟩
 rw [←hG]
 rw [show (⟨we.heap.size,0,none⟩:Addr)=⟨G,0,none⟩ by rw [hG]] at hown0
 obtain ⟨cU,fU,hGe⟩:=zN9 hown0 k hkm
 have hOU:=(hown0.set k hkm 1).1
 rw [←HUl.out] at hOU
 have hB9:Below we.heap.size we (w8.setCell ⟨G,k,none⟩ (.int .u64 1)):=hB8.setCell hGe _
 have HOU:=Lib.hid hOU
 have HB9:=Lib.hid hB9
 have i1:(0:Int)≤(k:Int):=by omega
 have i2:(k:Int)<(m:Int):=by omega
 clear hown hgrow hown0 hB8 hOU hB9 hG
 go_wp2_with fail
 obtain ⟨w9,hw9⟩: ∃w9,w9=w8.setCell ⟨G,k,none⟩ (.int .u64 1):=⟨_,rfl⟩
 rw [←hw9] at HOU HB9 ⊢
 clear hw9 cU fU
 have R9:=Lib.hid (KP.out _ _ Rwe.out HB9.out)
 have HB39:=Lib.hid (HBwe.out.trans (HB9.out.mono HBwe.out.size))
 obtain ⟨AU,cU,hVU,hRU⟩:=HOU.out.rd
 obtain ⟨rfl,rfl⟩:AU=some ⟨G,0,none⟩∧m=cU:=by injection hVU with a b c;exact ⟨a.symm,c⟩
 have H6':=Lib.hid (H6.out (some ⟨G,0,none⟩) m w9 HB39.out hRU)
 rw [HlU.out] at H6'
 clear hVU hRU H6
 refine H6'.out.mono ?_
 rintro e wf ⟨Vf,rfl,hOf,hBf⟩
 obtain ⟨Gz,cz,rfl,hcz,hRz⟩: ∃Gz cz,Vf= .slice (some ⟨Gz,0,none⟩) ZU.length cz∧ZU.length≤cz∧RdI wf wf.heap.size .u64 (some ⟨Gz,0,none⟩) ZU:=by
  obtain ⟨A,c,rfl,hR⟩:=hOf.rd
  rcases hOf.2 with ⟨_,hz⟩|⟨gz,cap,cur,e,_,_,r1,_⟩
  ·have:=HlZU.out;have:=HL1p.out;omega
  ·injection e with a b c
   subst a c
   exact ⟨gz,_,rfl,r1,hR⟩
 have Rf:=Lib.hid (KP.out _ _ R9.out hBf)
 have HBef:=Lib.hid (HB9.out.trans (hBf.mono HB9.out.size))
 have G1f:=Lib.hid (G1e.out.trans (HBef.out.mono G1e.out.size))
 have G0f:=Lib.hid (G0e.out.trans (HBef.out.mono G0e.out.size))
 have G4f:=Lib.hid (G4e.out.trans (HBef.out.mono G4e.out.size))
 have HB3f:=Lib.hid (HBwe.out.trans (HBef.out.mono HBwe.out.size))
 have HRz:=Lib.hid hRz
 clear hOf hBf hRz HOU HB9 HB39 H6' R9
 have hzl:ZU.length=k+L1.length:=HlZU.out
 have hl1p:=HL1p.out
 obtain ⟨b,o,he,hb,hc⟩:=HRz.out (by omega)
 obtain ⟨rfl,rfl⟩:b=Gz∧o=0:=by injection he with he;injection he with a b;exact ⟨a.symm,b.symm⟩
 have HZt:Hid (∀W,Below wf.heap.size wf W→RdI W W.heap.size .u64 (some ⟨b,k,none⟩) L1):=Lib.hid (fun W hW _=>⟨b,k,rfl,Nat.lt_of_lt_of_le hb hW.size,fun j hj=>by
  have h1:=zDs hW hb (hc (k+j) (by omega))
  rw [Nat.zero_add,HZv.out,List.getD_eq_getElem?_getD,List.getElem?_append_right (by simp),List.length_replicate,Nat.add_sub_cancel_left,←List.getD_eq_getElem?_getD] at h1
  exact h1⟩)
 have HZh:Hid (∀W,Below wf.heap.size wf W→RdI W W.heap.size .u64 (some ⟨b,0,none⟩) (List.replicate k 0)):=Lib.hid (fun W hW _=>⟨b,0,rfl,Nat.lt_of_lt_of_le hb hW.size,fun j hj=>by
  rw [List.length_replicate] at hj
  have h1:=zDs hW hb (hc j (by omega))
  rw [HZv.out,List.getD_eq_getElem?_getD,List.getElem?_append_left (by simpa using hj),←List.getD_eq_getElem?_getD] at h1
  exact h1⟩)
 have hk1:k≤ZU.length:=by omega
 have hk2: ¬cz=k:=by omega
 have hk3:k≤cz:=by omega
 have hk4:ZU.length-k=L1.length:=by omega
 have HR1f:Hid (∀W,Below wf.heap.size wf W→RdI W W.heap.size .u64 A1 L1):=Lib.hid (fun W hW=>HR1.out W (HB3f.out.trans (hW.mono HB3f.out.size)))
 have HSm4:Hid (∀W AY cY,RdI W W.heap.size .u64 (some ⟨b,0,none⟩) (List.replicate k 0)→RdI W W.heap.size .u64 AY (List.replicate k 0)→Calls Tryz.prog 35 #[.slice (some ⟨b,0,none⟩) k cz, .slice AY k cY] W fun e w'=>e= .returned (.bool true)∧Below W.heap.size W w'):=Lib.hid (fun W AY cY h1 h2=>by
  have h:=HSm.out (List.replicate k 0) (some ⟨b,0,none⟩) AY cz cY W (by simp;omega) h1 h2
  rw [List.length_replicate] at h
  exact h)
 clear hc hb hzl
 go_wp2_with fail
 have z0:=Lib.hid (below_drewN (Below.refl wf.heap.size wf) 1)
 refine wp_region_held_drew (S:=fun _=>True) (by kernel_rfl) (trivial) (fun hHeld=>?_)
 refine wpAnyH_take (i:=0) (v:=?_) rfl (by kernel_rfl) (by kernel_rfl) (by kernel_rfl) (fun _ _ _ h=>h) (Or.inl ⟨by rfl,?_⟩) trivial ?_
 rotate_left
 ·intro w hSw;(try dsimp only at hSw);go_simp;try with_reducible rfl
 try simp only [Act.put,zKx]
 refine wpAnyH_take (i:=1) (v:=?_) rfl (by kernel_rfl) (by kernel_rfl) (by kernel_rfl) (fun _ _ _ h=>h) (Or.inl ⟨by rfl,?_⟩) trivial ?_
 rotate_left
 ·intro w hSw;(try dsimp only at hSw);go_simp;try with_reducible rfl
 try simp only [Act.put,zKx]
 refine wpAnyH_ready (rs:= [2]) (by kernel_rfl) (by simp) ?_
 refine AllReadyH.cons rfl (fun K hK=>?_) AllReadyH.nil
 try simp only [zKx]
 rw [if_pos (by rfl)]
 go_wp2_with (go_at_call 35;refine (HSm.out Z12 _ _ _ _ _ b12 (HRwa.out _ (G1f.out.trans (z0.out.mono G1f.out.size))) (HRwb.out _ (G0f.out.trans (z0.out.mono G0f.out.size)))).mono ?_;rintro e y1 ⟨rfl,hY⟩)
 have z1:=Lib.hid (z0.out.trans (hY.mono z0.out.size))
 clear hY
 refine hK.out _ _ (trivial) (fun _=>?_)
 clear hK K
 try simp only [Act.put,zKx]
 refine wpAnyH_take (i:=3) (v:=?_) rfl (by kernel_rfl) (by kernel_rfl) (by kernel_rfl) (fun _ _ _ h=>h) (Or.inl ⟨by rfl,?_⟩) trivial ?_
 rotate_left
 ·intro w hSw;(try dsimp only at hSw);go_simp;try with_reducible rfl
 try simp only [Act.put,zKx]
 refine wpAnyH_take (i:=4) (v:=?_) rfl (by kernel_rfl) (by kernel_rfl) (by kernel_rfl) (fun _ _ _ h=>h) (Or.inl ⟨by rfl,?_⟩) trivial ?_
 rotate_left
 ·intro w hSw;(try dsimp only at hSw);go_simp;try with_reducible rfl
 try simp only [Act.put,zKx]
 refine wpAnyH_take (i:=5) (v:=?_) rfl (by kernel_rfl) (by kernel_rfl) (by kernel_rfl) (fun _ _ _ h=>h) (Or.inl ⟨by rfl,?_⟩) trivial ?_
 rotate_left
 ·intro w hSw;(try dsimp only at hSw);go_simp;try with_reducible rfl
 try simp only [Act.put,zKx]
 refine wpAnyH_ready (rs:= [6]) (by kernel_rfl) (by simp) ?_
 refine AllReadyH.cons rfl (fun K hK=>?_) AllReadyH.nil
 try simp only [zKx]
 rw [if_pos (by rfl)]
 go_wp2_with (go_at_call 35;refine (HSm.out Z _ _ _ _ _ bZ (HRwd.out _ (G4f.out.trans (z1.out.mono G4f.out.size))) (HRwe.out _ (HBef.out.trans (z1.out.mono HBef.out.size)))).mono ?_;rintro e y2 ⟨rfl,hY⟩)
 have z2:=Lib.hid (z1.out.trans (hY.mono z1.out.size))
 clear hY
 refine hK.out _ _ (trivial) (fun _=>?_)
 clear hK K
 try simp only [Act.put,zKx]
 refine wpAnyH_take (i:=7) (v:=?_) rfl (by kernel_rfl) (by kernel_rfl) (by kernel_rfl) (fun _ _ _ h=>h) (Or.inl ⟨by rfl,?_⟩) trivial ?_
 rotate_left
 ·intro w hSw;(try dsimp only at hSw);go_simp;try with_reducible rfl
 try simp only [Act.put,zKx]
 refine wpAnyH_take (i:=8) (v:=?_) rfl (by kernel_rfl) (by kernel_rfl) (by kernel_rfl) (fun _ _ _ h=>h) (Or.inl ⟨by rfl,?_⟩) trivial ?_
 rotate_left
 ·intro w hSw;(try dsimp only at hSw);go_simp;try with_reducible rfl
 try simp only [Act.put,zKx]
 refine wpAnyH_take (i:=9) (v:=?_) rfl (by kernel_rfl) (by kernel_rfl) (by kernel_rfl) (fun _ _ _ h=>h) (Or.inl ⟨by rfl,?_⟩) trivial ?_
 rotate_left
 ·intro w hSw;(try dsimp only at hSw);go_simp;try with_reducible rfl
 try simp only [Act.put,zKx]
 refine wpAnyH_take (i:=10) (v:=?_) rfl (by kernel_rfl) (by kernel_rfl) (by kernel_rfl) (fun _ _ _ h=>h) (Or.inl ⟨by rfl,?_⟩) trivial ?_
 rotate_left
 ·intro w hSw;(try dsimp only at hSw);go_simp;try with_reducible rfl
 try simp only [Act.put,zKx]
 refine wpAnyH_take (i:=11) (v:= .slice (some ⟨b,k,none⟩) L1.length (cz-k)) rfl (by kernel_rfl) (by kernel_rfl) (by kernel_rfl) (fun _ _ _ h=>h) (Or.inl ⟨by rfl,?_⟩) trivial ?_
 ·intro w hSw;(try dsimp only at hSw);go_simp;try (rw [if_pos hk1,if_neg hk2,hk4])
 try simp only [Act.put,zKx]
 refine wpAnyH_take (i:=12) (v:=?_) rfl (by kernel_rfl) (by kernel_rfl) (by kernel_rfl) (fun _ _ _ h=>h) (Or.inl ⟨by rfl,?_⟩) trivial ?_
 rotate_left
 ·intro w hSw;(try dsimp only at hSw);go_simp;try with_reducible rfl
 try simp only [Act.put,zKx]
 refine wpAnyH_ready (rs:= [13]) (by kernel_rfl) (by simp) ?_
 refine AllReadyH.cons rfl (fun K hK=>?_) AllReadyH.nil
 try simp only [zKx]
 rw [if_pos (by rfl)]
 go_wp2_with (go_at_call 35;refine (HSm.out L1 _ _ _ _ _ hLl1 (HZt.out _ z2.out) (HR1f.out _ z2.out)).mono ?_;rintro e y3 ⟨rfl,hY⟩)
 have z3:=Lib.hid (z2.out.trans (hY.mono z2.out.size))
 clear hY
 refine hK.out _ _ (trivial) (fun _=>?_)
 clear hK K
 try simp only [Act.put,zKx]
 refine wpAnyH_take (i:=14) (v:=?_) rfl (by kernel_rfl) (by kernel_rfl) (by kernel_rfl) (fun _ _ _ h=>h) (Or.inl ⟨by rfl,?_⟩) trivial ?_
 rotate_left
 ·intro w hSw;(try dsimp only at hSw);go_simp;try with_reducible rfl
 try simp only [Act.put,zKx]
 refine wpAnyH_take (i:=15) (v:=?_) rfl (by kernel_rfl) (by kernel_rfl) (by kernel_rfl) (fun _ _ _ h=>h) (Or.inl ⟨by rfl,?_⟩) trivial ?_
 rotate_left
 ·intro w hSw;(try dsimp only at hSw);go_simp;try with_reducible rfl
 try simp only [Act.put,zKx]
 refine wpAnyH_take (i:=16) (v:=?_) rfl (by kernel_rfl) (by kernel_rfl) (by kernel_rfl) (fun _ _ _ h=>h) (Or.inl ⟨by rfl,?_⟩) trivial ?_
 rotate_left
 ·intro w hSw;(try dsimp only at hSw);go_simp;try with_reducible rfl
 try simp only [Act.put,zKx]
 refine wpAnyH_take (i:=17) (v:=?_) rfl (by kernel_rfl) (by kernel_rfl) (by kernel_rfl) (fun _ _ _ h=>h) (Or.inl ⟨by rfl,?_⟩) trivial ?_
 rotate_left
 ·intro w hSw;(try dsimp only at hSw);go_simp;try with_reducible rfl
 try simp only [Act.put,zKx]
 refine wpAnyH_take (i:=18) (v:= .slice (some ⟨b,0,none⟩) k cz) rfl (by kernel_rfl) (by kernel_rfl) (by kernel_rfl) (fun _ _ _ h=>h) (Or.inl ⟨by rfl,?_⟩) trivial ?_
 ·intro w hSw;(try dsimp only at hSw);go_simp;try (first|rfl|(rw [if_pos hk3];done)|(rw [if_pos hk3];rfl))
 try simp only [Act.put,zKx]
 refine wpAnyH_take (i:=19) (v:=?_) rfl (by kernel_rfl) (by kernel_rfl) (by kernel_rfl) (fun _ _ _ h=>h) (Or.inl ⟨by rfl,?_⟩) trivial ?_
 rotate_left
 ·intro w hSw;(try dsimp only at hSw);go_simp;try with_reducible rfl
 try simp only [Act.put,zKx]
 refine wpAnyH_ready (rs:= [20]) (by kernel_rfl) (by simp) ?_
 refine AllReadyH.cons rfl (fun K hK=>?_) AllReadyH.nil
 try simp only [zKx]
 rw [if_pos (by rfl)]
 refine zWL _ _ 54 rfl y3.heap.size 22 i0 (.int .u64 0) 1 Tryz.underlying54 hi hz0 hz1 _ _ _ _ k rfl rfl rfl rfl (by rw [hz2];omega) (by unfold maxLen;omega) (Nat.le_refl _) ?_
 intro y4 ho4 hg4
 have hBm:Below y3.heap.size y3 y4:=(Below.refl _ _).grown hg4 (Nat.le_refl _) (fun k h=>by cases h)
 have hO4:OwnU y4 y3.heap.size (.slice (some ⟨y3.heap.size,0,none⟩) k k) k (List.replicate k 0):=by
  unfold OwnU
  rw [Nat.mul_one] at ho4
  rw [zJC,←toList_madeCells_one];exact ho4
 obtain ⟨A4,c4,hV4,hR4⟩:=hO4.rd
 obtain ⟨rfl,rfl⟩:A4=some ⟨y3.heap.size,0,none⟩∧k=c4:=by injection hV4 with a b c;exact ⟨a.symm,c⟩
 have z4:=Lib.hid (z3.out.trans (hBm.mono z3.out.size))
 have HR4:=Lib.hid hR4
 clear ho4 hg4 hBm hO4 hV4 hR4
 refine hK.out _ _ (trivial) (fun _=>?_)
 clear hK K
 try simp only [Act.put,zKx]
 refine wpAnyH_ready (rs:= [21]) (by kernel_rfl) (by simp) ?_
 refine AllReadyH.cons rfl (fun K hK=>?_) AllReadyH.nil
 try simp only [zKx]
 rw [if_pos (by rfl)]
 go_wp2_with (go_at_call 35;refine (HSm4.out _ _ _ (HZh.out _ z4.out) HR4.out).mono ?_;rintro e y5 ⟨rfl,hY⟩)
 have z5:=Lib.hid (z4.out.trans (hY.mono z4.out.size))
 clear hY
 refine hK.out _ _ (trivial) (fun _=>?_)
 clear hK K
 try simp only [Act.put,zKx]
 refine wpAnyH_take (i:=22) (v:=?_) rfl (by kernel_rfl) (by kernel_rfl) (by kernel_rfl) (fun _ _ _ h=>h) (Or.inl ⟨by rfl,?_⟩) trivial ?_
 rotate_left
 ·intro w hSw;(try dsimp only at hSw);go_simp;try with_reducible rfl
 try simp only [Act.put,zKx]
 refine wpAnyH_take (i:=23) (v:=?_) rfl (by kernel_rfl) (by kernel_rfl) (by kernel_rfl) (fun _ _ _ h=>h) (Or.inl ⟨by rfl,?_⟩) trivial ?_
 rotate_left
 ·intro w hSw;(try dsimp only at hSw);go_simp;try with_reducible rfl
 try simp only [Act.put,zKx]
 refine wpAnyH_done (by kernel_rfl) ?_ _
 go_wp2
 go_ret
 exact ⟨by first|rfl|simp,Rf.out.2.trans (z5.out.mono Rf.out.2.size)⟩
end Go.Proofs.YtmalmijdjhkklaaGreat