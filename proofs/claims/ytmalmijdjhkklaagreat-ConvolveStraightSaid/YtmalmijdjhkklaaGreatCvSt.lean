/- The law ConvolveStraight. -/
import Derived.Test.YtmalmijdjhkklaaGreatWPlUToCvG
import Derived.Test.YtmalmijdjhkklaaGreatWRef06ToMs21
import Derived.Test.YtmalmijdjhkklaaGreatWLinToLinN
import Derived.Test.YtmalmijdjhkklaaGreatWOpenOpenU
import Derived.Test.YtmalmijdjhkklaaGreatClone2
set_option linter.unusedVariables false
set_option linter.unusedSimpArgs false
set_option linter.unusedSectionVars false
namespace Go.Proofs.YtmalmijdjhkklaaGreat
open Go.RowKit
open Alg
theorem zDS {p:Int} {L M:List Int} (h:linf p L M=0):dirf p L M=0:=by
 obtain ⟨l1,l2,l3,_,g1,g2⟩:=zKI h
 unfold dirf
 rw [if_neg (by omega),if_neg (by omega),g1,g2];rfl
set_option maxHeartbeats 16000000 in
set_option maxRecDepth 100000 in
theorem zCo (w:World) (A0:Option Addr) (c0:Nat) (kind0 kk0 pp0:Int) (es0:List Ent) (A1:Option Addr) (c1:Nat) (L1:List Int) (A2:Option Addr) (c2:Nat) (L2:List Int) (hs0:SrcA w A0 c0 kind0 kk0 pp0 es0) (hl1:LstA w A1 c1 L1) (hl2:LstA w A2 c2 L2):
  Calls Tryz.prog 12 #[.agg #[.int .i64 kind0, .int .i64 kk0, .int .u64 pp0, .slice A0 es0.length c0], .slice A1 L1.length c1, .slice A2 L2.length c2] w fun e w'=>e= .returned (.bool true)∧Below w.heap.size w w':=by
 have R0:Hid (zAI (w.alloc (.cells #[.int .i64 kind0, .int .i64 kk0, .int .u64 pp0, .slice A0 es0.length c0] 25)) w.heap.size 25 #[.int .i64 kind0, .int .i64 kk0, .int .u64 pp0, .slice A0 es0.length c0]∧Below w.heap.size w (w.alloc (.cells #[.int .i64 kind0, .int .i64 kk0, .int .u64 pp0, .slice A0 es0.length c0] 25))):=Lib.hid (lay1 w 25 #[.int .i64 kind0, .int .i64 kk0, .int .u64 pp0, .slice A0 es0.length c0])
 have HS:=Lib.hid hs0
 have HL1:=Lib.hid hl1
 have hLl1:=hl1.hl
 have HU1:=Lib.hid hl1.hU
 have HL2:=Lib.hid hl2
 have hLl2:=hl2.hl
 have HU2:=Lib.hid hl2.hU
 have KP:Hid (∀W W',(zAI W w.heap.size 25 #[.int .i64 kind0, .int .i64 kk0, .int .u64 pp0, .slice A0 es0.length c0]∧Below w.heap.size w W)→Below W.heap.size W W'→(zAI W' w.heap.size 25 #[.int .i64 kind0, .int .i64 kk0, .int .u64 pp0, .slice A0 es0.length c0]∧Below w.heap.size w W')):=Lib.hid (fun W W' h hB=>⟨h.1.keep hB,h.2.trans (hB.mono h.2.size)⟩)
 clear hs0 hl1 hl2
 go_enter Tryz.func12,Tryz.ntmps12
 go_wp2_with fail
 generalize (w.alloc (.cells #[.int .i64 kind0, .int .i64 kk0, .int .u64 pp0, .slice A0 es0.length c0] 25))=w1 at *
 refine (zBx w1).mono ?_
 rintro e w2 ⟨rfl,hB2⟩
 have R2:=Lib.hid (KP.out _ _ R0.out hB2)
 clear hB2 R0
 by_cases hl1:1100<L1.length
 ·have t1:decide ((L1.length:Int)>1100)=true:=decide_eq_true (by omega)
  have t1b:decide (1100<L1.length)=true:=decide_eq_true hl1
  clear hl1
  go_wp2
  go_ret
  exact ⟨by first|rfl|simp,R2.out.2⟩
 have t1:decide ((L1.length:Int)>1100)=false:=decide_eq_false (by omega)
 have t1b:decide (1100<L1.length)=false:=decide_eq_false hl1
 by_cases hl2:1100<L2.length
 ·have t2:decide ((L2.length:Int)>1100)=true:=decide_eq_true (by omega)
  have t2b:decide (1100<L2.length)=true:=decide_eq_true hl2
  clear hl1 hl2
  go_wp2
  go_ret
  exact ⟨by first|rfl|simp,R2.out.2⟩
 have t2:decide ((L2.length:Int)>1100)=false:=decide_eq_false (by omega)
 have t2b:decide (1100<L2.length)=false:=decide_eq_false hl2
 go_wp2_with (refine wpList_load_row rfl _ _ rfl _ rfl _ _ _ _ (R2.out.1) Tryz.underlying25 rfl (by exact zTA) ?_)
 refine (zLp (HS.out.below R2.out.2)).mono ?_
 rintro e w3 ⟨v,p,g,rfl,hM,hB3⟩
 have R3:=Lib.hid (KP.out _ _ R2.out hB3)
 have HM:=Lib.hid hM
 clear hB3 R2 hM HS
 have hB4:=(Below.refl w3.heap.size w3).alloc (Nat.le_refl _) (.cells #[] 22)
 have hown:(w3.alloc (.cells #[] 22)).ownsRow w3.heap.size 22 1 (.slice (some ⟨w3.heap.size,0,none⟩) 0 0) 0 []:=World.ownsRow_lit w3 #[] 0 (Nat.le_refl _) (by unfold maxLen;omega) rfl
 go_wp2_with (at_builtin;refine zWK rfl _ _ rfl w3.heap.size hB4.size _ rfl hown A1 c1 L1 rfl ((HL1.out.below R3.out.2).below hB4) (by omega) ?_)
 intro V4 w4 hO4 hB4'
 have HBV4:=Lib.hid (hB4.trans hB4')
 have HOV4:=Lib.hid hO4
 clear hown hB4' hO4 hB4
 have R4:=Lib.hid (KP.out _ _ R3.out HBV4.out)
 have hB4:=(Below.refl w4.heap.size w4).alloc (Nat.le_refl _) (.cells #[] 22)
 have hown:(w4.alloc (.cells #[] 22)).ownsRow w4.heap.size 22 1 (.slice (some ⟨w4.heap.size,0,none⟩) 0 0) 0 []:=World.ownsRow_lit w4 #[] 0 (Nat.le_refl _) (by unfold maxLen;omega) rfl
 go_wp2_with (at_builtin;refine zWK rfl _ _ rfl w4.heap.size hB4.size _ rfl hown A2 c2 L2 rfl ((HL2.out.below R4.out.2).below hB4) (by omega) ?_)
 intro V5 w5 hO4 hB4'
 have HBV5:=Lib.hid (hB4.trans hB4')
 have HOV5:=Lib.hid hO4
 clear hown hB4' hO4 hB4
 have R5:=Lib.hid (KP.out _ _ R4.out HBV5.out)
 obtain ⟨AU,cU,hVU,hRU⟩:=(HOV4.out.below HBV5.out).rd
 obtain ⟨AV,cV,hVV,hRV⟩:=HOV5.out.rd
 subst hVU
 subst hVV
 have HRU:Hid (∀W,Below w5.heap.size w5 W→RdI W W.heap.size .u64 AU L1):=Lib.hid (fun W hW=>(hRU.below hW).mono hW.size)
 have HRV:Hid (∀W,Below w5.heap.size w5 W→RdI W W.heap.size .u64 AV L2):=Lib.hid (fun W hW=>(hRV.below hW).mono hW.size)
 have HB35:=Lib.hid (HBV4.out.trans (HBV5.out.mono HBV4.out.size))
 clear hRU hRV HOV4 HOV5 HBV4 HBV5 R3 R4
 have HR1:Hid (∀W,Below w5.heap.size w5 W→RdI W W.heap.size .u64 A1 L1):=Lib.hid (fun W hW=>(HL1.out.below (R5.out.2.trans (hW.mono R5.out.2.size))).hR)
 have HR2:Hid (∀W,Below w5.heap.size w5 W→RdI W W.heap.size .u64 A2 L2):=Lib.hid (fun W hW=>(HL2.out.below (R5.out.2.trans (hW.mono R5.out.2.size))).hR)
 have HS1:Hid (∀W,Below w5.heap.size w5 W→Calls Tryz.prog 35 #[.slice AU L1.length cU, .slice A1 L1.length c1] W fun e w'=>e= .returned (.bool true)∧Below W.heap.size W w'):=Lib.hid (fun W hW=>by
  have h1:=zSV AU A1 cU c1 W.heap.size L1 L1 W hLl1 hLl1 (HRU.out W hW) (HR1.out W hW)
  rw [show decide (L1=L1)=true by simp] at h1
  exact h1)
 have HS2:Hid (∀W,Below w5.heap.size w5 W→Calls Tryz.prog 35 #[.slice AV L2.length cV, .slice A2 L2.length c2] W fun e w'=>e= .returned (.bool true)∧Below W.heap.size W w'):=Lib.hid (fun W hW=>by
  have h1:=zSV AV A2 cV c2 W.heap.size L2 L2 W hLl2 hLl2 (HRV.out W hW) (HR2.out W hW)
  rw [show decide (L2=L2)=true by simp] at h1
  exact h1)
 rcases HM.out with ⟨rfl,rfl,rfl⟩|⟨p3,hC,hF⟩
 ·clear HM
  go_wp2_with fail
  refine (zF7 _ _ _).mono ?_
  rintro e w6 ⟨rfl,rfl⟩
  go_wp2_with fail
  refine (zKC _ _ _ _ _ _ _ hLl1 hLl2).mono ?_
  rintro e w6 ⟨rfl,rfl⟩
  go_wp2_with fail
  refine (HS1.out w5 (Below.refl w5.heap.size w5)).mono ?_
  rintro e wa ⟨rfl,hBa⟩
  have Ra:=Lib.hid (KP.out _ _ R5.out hBa)
  have HBa:=Lib.hid (((Below.refl w5.heap.size w5)).trans (hBa.mono ((Below.refl w5.heap.size w5)).size))
  clear hBa
  go_wp2_with fail
  refine (HS2.out wa HBa.out).mono ?_
  rintro e wb ⟨rfl,hBb⟩
  have Rb:=Lib.hid (KP.out _ _ Ra.out hBb)
  have HBb:=Lib.hid (HBa.out.trans (hBb.mono HBa.out.size))
  clear hBb Ra HBa
  go_wp2
  go_ret
  exact ⟨by first|rfl|simp,Rb.out.2⟩
 obtain ⟨q,rfl⟩:=Int.eq_ofNat_of_zero_le (show 0≤p by omega)
 have pm:=hF.pmx
 haveI:NeZero q:=⟨by omega⟩
 obtain ⟨hp,hord⟩:=hC.nat
 have hg:=hC.gr
 have tp:((q:Int) == 0)=false:=by simp;omega
 have HPM:=Lib.hid (And.intro p3 pm)
 have HPr:=Lib.hid (And.intro hp (And.intro hord hg))
 have HFd:=Lib.hid hF
 clear HM hC hF hp hord hg p3 pm
 have HFq:Hid (∀W,Below w5.heap.size w5 W→Fd W W.heap.size v (q:Int) g):=Lib.hid (fun W hW=>(HFd.out.below (HB35.out.trans (hW.mono HB35.out.size))).mono (HB35.out.trans (hW.mono HB35.out.size)).size)
 have HE1:Hid (∀W,Below w5.heap.size w5 W→Calls Tryz.prog 33 #[.int .u64 (q:Int), .slice A1 L1.length c1, .slice A2 L2.length c2, .bool false] W fun e w'=>e= .returned (.int .i64 (dirf q L1 L2))∧W=w'):=Lib.hid (fun W hW=>
  zUr A1 A2 c1 c2 q L1 L2 W hLl1 hLl2 (HR1.out W hW) (HR2.out W hW))
 have HE2:Hid (∀W,Below w5.heap.size w5 W→Calls Tryz.prog 33 #[.int .u64 (q:Int), .slice A1 L1.length c1, .slice A2 L2.length c2, .bool true] W fun e w'=>e= .returned (.int .i64 (linf q L1 L2))∧W=w'):=Lib.hid (fun W hW=>
  zUq A1 A2 c1 c2 q HPM.out.1 HPM.out.2 L1 L2 W hLl1 hLl2 (HR1.out W hW) (HR2.out W hW))
 by_cases hd:dirf q L1 L2=0
 ·by_cases hl:linf q L1 L2=0
  ·have HLn:Hid (∀W,Below w5.heap.size w5 W→Calls Tryz.prog 43 #[v, .slice AU L1.length cU, .slice AV L2.length cV] W fun e w'=> ∃G,e= .returned (.tuple #[.slice (some ⟨G,0,none⟩) (L1.length+L2.length-1:Nat) (L1.length+L2.length-1:Nat), .int .i64 0])∧RdI w' w'.heap.size .u64 (some ⟨G,0,none⟩) (lst (L1.length+L2.length-1) (drc q L1 L2))∧Below W.heap.size W w'):=Lib.hid (fun W hW=>by
    refine (zKF HPr.out.1 HPr.out.2.1 (by have:=HPr.out.2.2;omega) HPr.out.2.2.2 (HFq.out W hW) AU AV cU cV L1 L2 HU1.out HU2.out (HRU.out W hW) (HRV.out W hW) hl).mono ?_
    rintro e w' ⟨G,he,h1,h2,hc,hb⟩
    refine ⟨G,he,fun _=>⟨G,0,rfl,h2,fun j hj=>?_⟩,hb⟩
    rw [zLb] at hj
    rw [Nat.zero_add,hc j hj,zKY hj,zFW])
   obtain ⟨n1,n2,n3,g1,g2⟩:=zFA hd
   have HDn:Hid (Calls Tryz.prog 34 #[v, .slice AU L1.length cU, .slice AV L2.length cV] w5 fun e w'=> ∃V,e= .returned (.tuple #[V, .int .i64 0])∧OwnU w' w5.heap.size V (L1.length+L2.length-1) (lst (L1.length+L2.length-1) (drc q L1 L2))∧Below w5.heap.size w5 w'):=Lib.hid
    (zF9 (HFq.out w5 (Below.refl _ _)) AU AV cU cV L1 L2 n1 n2 n3 HU1.out HU2.out (HRU.out w5 (Below.refl _ _)) (HRV.out w5 (Below.refl _ _)) g1 g2)
   have HSt:Hid (∀W,Below w5.heap.size w5 W→Calls Tryz.prog 44 #[.int .u64 (q:Int), .slice A1 L1.length c1, .slice A2 L2.length c2] W fun e w'=> ∃V,e= .returned V∧OwnU w' W.heap.size V (L1.length+L2.length-1) (lst (L1.length+L2.length-1) (drc q L1 L2))∧Below W.heap.size W w'):=Lib.hid (fun W hW=>
    zQd W A1 A2 c1 c2 L1 L2 HPM.out.1 HPM.out.2 n1 n2 n3 HU1.out HU2.out (HR1.out W hW) (HR2.out W hW))
   rw [hd] at HE1
   rw [hl] at HE2
   obtain ⟨n,hn⟩: ∃n,n=L1.length+L2.length-1:=⟨_,rfl⟩
   obtain ⟨Z,hZ⟩: ∃Z,Z=lst n (drc q L1 L2):=⟨_,rfl⟩
   have HZl:Hid (Z.length=n):=Lib.hid (by rw [hZ];exact zLb _ _)
   rw [←hn] at HDn HSt
   rw [←hZ] at HDn HSt
   rw [←hn] at HLn
   rw [←hZ] at HLn
   have hnn:n≤1024:=by omega
   clear hl hd n1 n2 n3 g1 g2 hn hZ
   go_wp2_with fail
   refine HDn.out.mono ?_
   rintro e w6 ⟨V6,rfl,hO6,hB6⟩
   obtain ⟨A6,c6,rfl,hR6⟩:=hO6.rd
   have R6:=Lib.hid (KP.out _ _ R5.out hB6)
   have HB6:=Lib.hid hB6
   have HX:Hid (∀W,Below w6.heap.size w6 W→RdI W W.heap.size .u64 A6 Z):=Lib.hid (fun W hW=>(hR6.below hW).mono hW.size)
   clear hO6 hB6 hR6
   go_wp2_with fail
   refine (HLn.out _ HB6.out).mono ?_
   rintro e w7 ⟨G7,rfl,hR7,hB7⟩
   have R7:=Lib.hid (KP.out _ _ R6.out hB7)
   have HB67:=Lib.hid hB7
   have HB7:=Lib.hid (HB6.out.trans (hB7.mono HB6.out.size))
   have HY:Hid (∀W,Below w7.heap.size w7 W→RdI W W.heap.size .u64 (some ⟨G7,0,none⟩) Z):=Lib.hid (fun W hW=>(hR7.below hW).mono hW.size)
   clear hB7 hR7
   go_wp2_with fail
   refine (HS1.out w7 HB7.out).mono ?_
   rintro e wa ⟨rfl,hBa⟩
   have Ra:=Lib.hid (KP.out _ _ R7.out hBa)
   have HBa:=Lib.hid ((HB7.out).trans (hBa.mono (HB7.out).size))
   have HB7a:=Lib.hid hBa
   clear hBa
   go_wp2_with fail
   refine (HS2.out wa HBa.out).mono ?_
   rintro e wb ⟨rfl,hBb⟩
   have Rb:=Lib.hid (KP.out _ _ Ra.out hBb)
   have HBb:=Lib.hid (HBa.out.trans (hBb.mono HBa.out.size))
   have HB7b:=Lib.hid (HB7a.out.trans (hBb.mono HB7a.out.size))
   have HB6b:=Lib.hid (HB67.out.trans (HB7b.out.mono HB67.out.size))
   clear hBb Ra HBa
   go_wp2_with fail
   refine (HE1.out _ HBb.out).mono ?_
   rintro e wc ⟨rfl,rfl⟩
   go_wp2_with fail
   refine (HE2.out _ HBb.out).mono ?_
   rintro e wc ⟨rfl,rfl⟩
   by_cases h81:81<L1.length+L2.length
   ·have t3:decide (((L1.length:Nat):Int)+((L2.length:Nat):Int)>81)=true:=decide_eq_true (by omega)
    clear h81
    go_wp2
    go_ret
    exact ⟨by first|rfl|simp,Rb.out.2⟩
   have t3:decide (((L1.length:Nat):Int)+((L2.length:Nat):Int)>81)=false:=decide_eq_false (by omega)
   go_wp2_with fail
   refine (HSt.out wb HBb.out).mono ?_
   rintro e wd ⟨Vd,rfl,hOd,hBd⟩
   obtain ⟨Ad,cd,rfl,hRd⟩:=hOd.rd
   have Rd:=Lib.hid (KP.out _ _ Rb.out hBd)
   have HBd:=Lib.hid (HB6b.out.trans (hBd.mono HB6b.out.size))
   have HRd:=Lib.hid hRd
   have HBbd:=Lib.hid hBd
   clear hOd hBd hRd
   have HS3:Hid (Calls Tryz.prog 35 #[.slice A6 n c6, .slice Ad n cd] wd fun e w'=>e= .returned (.bool true)∧Below wd.heap.size wd w'):=Lib.hid (by
    have h1:=zSV A6 Ad c6 cd wd.heap.size Z Z wd (by rw [HZl.out];omega) (by rw [HZl.out];omega) (HX.out wd HBd.out) HRd.out
    rw [HZl.out,show decide (Z=Z)=true by simp] at h1
    exact h1)
   go_wp2_with fail
   refine HS3.out.mono ?_
   rintro e we ⟨rfl,hBe⟩
   have Re:=Lib.hid (KP.out _ _ Rd.out hBe)
   have HB7e:=Lib.hid (HB7b.out.trans (HBbd.out.trans (hBe.mono HBbd.out.size) |>.mono HB7b.out.size))
   have HS4:Hid (Calls Tryz.prog 35 #[.slice (some ⟨G7,0,none⟩) n n, .slice Ad n cd] we fun e w'=>e= .returned (.bool true)∧Below we.heap.size we w'):=Lib.hid (by
    have h1:=zSV (some ⟨G7,0,none⟩) Ad n cd we.heap.size Z Z we (by rw [HZl.out];omega) (by rw [HZl.out];omega) (HY.out we HB7e.out) ((HRd.out.below hBe).mono hBe.size)
    rw [HZl.out,show decide (Z=Z)=true by simp] at h1
    exact h1)
   clear hBe
   go_wp2_with fail
   refine HS4.out.mono ?_
   rintro e wf ⟨rfl,hBf⟩
   have Rf:=Lib.hid (KP.out _ _ Re.out hBf)
   clear hBf
   go_wp2
   go_ret
   exact ⟨by first|rfl|simp,Rf.out.2⟩
  ·have HLn:Hid (∀W,Below w5.heap.size w5 W→Calls Tryz.prog 43 #[v, .slice AU L1.length cU, .slice AV L2.length cV] W fun e w'=>e= .returned (.tuple #[.slice none 0 0, .int .i64 (linf q L1 L2)])∧W=w'):=Lib.hid (fun W hW=>
    zKD (HFq.out W hW) AU AV cU cV L1 L2 hLl1 hLl2 HU1.out HU2.out (HRU.out W hW) (HRV.out W hW) hl)
   obtain ⟨z,hz⟩: ∃z,z=linf q L1 L2:=⟨_,rfl⟩
   rw [←hz] at HLn HE2 hl
   have tz:(z != z)=false:=by simp
   have tz0:(z != 0)=true:=by simpa using hl
   obtain ⟨n1,n2,n3,g1,g2⟩:=zFA hd
   have HDn:Hid (Calls Tryz.prog 34 #[v, .slice AU L1.length cU, .slice AV L2.length cV] w5 fun e w'=> ∃V,e= .returned (.tuple #[V, .int .i64 0])∧OwnU w' w5.heap.size V (L1.length+L2.length-1) (lst (L1.length+L2.length-1) (drc q L1 L2))∧Below w5.heap.size w5 w'):=Lib.hid
    (zF9 (HFq.out w5 (Below.refl _ _)) AU AV cU cV L1 L2 n1 n2 n3 HU1.out HU2.out (HRU.out w5 (Below.refl _ _)) (HRV.out w5 (Below.refl _ _)) g1 g2)
   have HSt:Hid (∀W,Below w5.heap.size w5 W→Calls Tryz.prog 44 #[.int .u64 (q:Int), .slice A1 L1.length c1, .slice A2 L2.length c2] W fun e w'=> ∃V,e= .returned V∧OwnU w' W.heap.size V (L1.length+L2.length-1) (lst (L1.length+L2.length-1) (drc q L1 L2))∧Below W.heap.size W w'):=Lib.hid (fun W hW=>
    zQd W A1 A2 c1 c2 L1 L2 HPM.out.1 HPM.out.2 n1 n2 n3 HU1.out HU2.out (HR1.out W hW) (HR2.out W hW))
   rw [hd] at HE1
   obtain ⟨n,hn⟩: ∃n,n=L1.length+L2.length-1:=⟨_,rfl⟩
   obtain ⟨Z,hZ⟩: ∃Z,Z=lst n (drc q L1 L2):=⟨_,rfl⟩
   have HZl:Hid (Z.length=n):=Lib.hid (by rw [hZ];exact zLb _ _)
   rw [←hn] at HDn HSt
   rw [←hZ] at HDn HSt
   have hnn:n≤1024:=by omega
   clear hz hl hd n1 n2 n3 g1 g2 hn hZ
   go_wp2_with fail
   refine HDn.out.mono ?_
   rintro e w6 ⟨V6,rfl,hO6,hB6⟩
   obtain ⟨A6,c6,rfl,hR6⟩:=hO6.rd
   have R6:=Lib.hid (KP.out _ _ R5.out hB6)
   have HB6:=Lib.hid hB6
   have HX:Hid (∀W,Below w6.heap.size w6 W→RdI W W.heap.size .u64 A6 Z):=Lib.hid (fun W hW=>(hR6.below hW).mono hW.size)
   clear hO6 hB6 hR6
   go_wp2_with fail
   refine (HLn.out _ HB6.out).mono ?_
   rintro e w7 ⟨rfl,rfl⟩
   go_wp2_with fail
   refine (HS1.out w6 HB6.out).mono ?_
   rintro e wa ⟨rfl,hBa⟩
   have Ra:=Lib.hid (KP.out _ _ R6.out hBa)
   have HBa:=Lib.hid ((HB6.out).trans (hBa.mono (HB6.out).size))
   have HB6a:=Lib.hid hBa
   clear hBa
   go_wp2_with fail
   refine (HS2.out wa HBa.out).mono ?_
   rintro e wb ⟨rfl,hBb⟩
   have Rb:=Lib.hid (KP.out _ _ Ra.out hBb)
   have HBb:=Lib.hid (HBa.out.trans (hBb.mono HBa.out.size))
   have HB6b:=Lib.hid (HB6a.out.trans (hBb.mono HB6a.out.size))
   clear hBb Ra HBa
   go_wp2_with fail
   refine (HE1.out _ HBb.out).mono ?_
   rintro e wc ⟨rfl,rfl⟩
   go_wp2_with fail
   refine (HE2.out _ HBb.out).mono ?_
   rintro e wc ⟨rfl,rfl⟩
   by_cases h81:81<L1.length+L2.length
   ·have t3:decide (((L1.length:Nat):Int)+((L2.length:Nat):Int)>81)=true:=decide_eq_true (by omega)
    clear h81
    go_wp2
    go_ret
    exact ⟨by first|rfl|simp,Rb.out.2⟩
   have t3:decide (((L1.length:Nat):Int)+((L2.length:Nat):Int)>81)=false:=decide_eq_false (by omega)
   go_wp2_with fail
   refine (HSt.out wb HBb.out).mono ?_
   rintro e wd ⟨Vd,rfl,hOd,hBd⟩
   obtain ⟨Ad,cd,rfl,hRd⟩:=hOd.rd
   have Rd:=Lib.hid (KP.out _ _ Rb.out hBd)
   have HBd:=Lib.hid (HB6b.out.trans (hBd.mono HB6b.out.size))
   have HRd:=Lib.hid hRd
   clear hOd hBd hRd
   have HS3:Hid (Calls Tryz.prog 35 #[.slice A6 n c6, .slice Ad n cd] wd fun e w'=>e= .returned (.bool true)∧Below wd.heap.size wd w'):=Lib.hid (by
    have h1:=zSV A6 Ad c6 cd wd.heap.size Z Z wd (by rw [HZl.out];omega) (by rw [HZl.out];omega) (HX.out wd HBd.out) HRd.out
    rw [HZl.out,show decide (Z=Z)=true by simp] at h1
    exact h1)
   go_wp2_with fail
   refine HS3.out.mono ?_
   rintro e we ⟨rfl,hBe⟩
   have Re:=Lib.hid (KP.out _ _ Rd.out hBe)
   clear hBe
   go_wp2
   go_ret
   exact ⟨by first|rfl|simp,Re.out.2⟩
 ·have hl:linf q L1 L2≠0:=fun h=>hd (zDS h)
  have HLn:Hid (∀W,Below w5.heap.size w5 W→Calls Tryz.prog 43 #[v, .slice AU L1.length cU, .slice AV L2.length cV] W fun e w'=>e= .returned (.tuple #[.slice none 0 0, .int .i64 (linf q L1 L2)])∧W=w'):=Lib.hid (fun W hW=>
   zKD (HFq.out W hW) AU AV cU cV L1 L2 hLl1 hLl2 HU1.out HU2.out (HRU.out W hW) (HRV.out W hW) hl)
  have HDn:Hid (Calls Tryz.prog 34 #[v, .slice AU L1.length cU, .slice AV L2.length cV] w5 fun e w'=>e= .returned (.tuple #[.slice none 0 0, .int .i64 (dirf q L1 L2)])∧w5=w'):=Lib.hid
   (zF8 (HFq.out w5 (Below.refl _ _)) AU AV cU cV L1 L2 hLl1 hLl2 HU1.out HU2.out (HRU.out w5 (Below.refl _ _)) (HRV.out w5 (Below.refl _ _)) hd)
  obtain ⟨z,hz⟩: ∃z,z=linf q L1 L2:=⟨_,rfl⟩
  rw [←hz] at HLn HE2 hl
  have tz:(z != z)=false:=by simp
  have tz0:(z != 0)=true:=by simpa using hl
  obtain ⟨y,hy⟩: ∃y,y=dirf q L1 L2:=⟨_,rfl⟩
  rw [←hy] at HDn HE1 hd
  have ty:(y != y)=false:=by simp
  have ty0:(y != 0)=true:=by simpa using hd
  clear hz hy hd hl
  go_wp2_with fail
  refine HDn.out.mono ?_
  rintro e w6 ⟨rfl,rfl⟩
  go_wp2_with fail
  refine (HLn.out _ (Below.refl _ _)).mono ?_
  rintro e w6 ⟨rfl,rfl⟩
  go_wp2_with fail
  refine (HS1.out w5 (Below.refl w5.heap.size w5)).mono ?_
  rintro e wa ⟨rfl,hBa⟩
  have Ra:=Lib.hid (KP.out _ _ R5.out hBa)
  have HBa:=Lib.hid (((Below.refl w5.heap.size w5)).trans (hBa.mono ((Below.refl w5.heap.size w5)).size))
  clear hBa
  go_wp2_with fail
  refine (HS2.out wa HBa.out).mono ?_
  rintro e wb ⟨rfl,hBb⟩
  have Rb:=Lib.hid (KP.out _ _ Ra.out hBb)
  have HBb:=Lib.hid (HBa.out.trans (hBb.mono HBa.out.size))
  clear hBb Ra HBa
  go_wp2_with fail
  refine (HE1.out _ HBb.out).mono ?_
  rintro e wc ⟨rfl,rfl⟩
  go_wp2_with fail
  refine (HE2.out _ HBb.out).mono ?_
  rintro e wc ⟨rfl,rfl⟩
  go_wp2
  go_ret
  exact ⟨by first|rfl|simp,Rb.out.2⟩
end Go.Proofs.YtmalmijdjhkklaaGreat