/- The law PlanSame. -/
import Derived.Test.YtmalmijdjhkklaaGreatAl18
import Derived.Test.YtmalmijdjhkklaaGreatWPlOToOf18
import Derived.Test.YtmalmijdjhkklaaGreatWRef06ToMs18
import Derived.Test.YtmalmijdjhkklaaGreatWOpenOpenPOpenU
import Derived.Test.YtmalmijdjhkklaaGreatPlU
import Derived.Test.YtmalmijdjhkklaaGreatPlFi
import Derived.Test.YtmalmijdjhkklaaGreatWContToSame18
set_option linter.unusedVariables false
set_option linter.unusedSimpArgs false
set_option linter.unusedSectionVars false
namespace Go.Proofs.YtmalmijdjhkklaaGreat
open Go.RowKit
open Alg
set_option maxHeartbeats 16000000 in
set_option maxRecDepth 100000 in
theorem zOp (w:World) (A0:Option Addr) (c0:Nat) (kind0 kk0 pp0:Int) (es0:List Ent) (K1 N1 M1:Int) (K2 N2 M2:Int) (A3:Option Addr) (c3:Nat) (L3:List Int) (b4:Bool) (hs0:SrcA w A0 c0 kind0 kk0 pp0 es0) (hp1:zAB K1 N1 M1) (hp2:zAB K2 N2 M2) (hl3:LstA w A3 c3 L3):
  Calls Tryz.prog 7 #[.agg #[.int .i64 kind0, .int .i64 kk0, .int .u64 pp0, .slice A0 es0.length c0], .agg #[.int .i64 K1, .int .i64 N1, .int .i64 M1], .agg #[.int .i64 K2, .int .i64 N2, .int .i64 M2], .slice A3 L3.length c3, .bool b4] w fun e w'=>e= .returned (.bool true)∧Below w.heap.size w w':=by
 have R0:Hid (zAI (((w.alloc (.cells #[.int .i64 kind0, .int .i64 kk0, .int .u64 pp0, .slice A0 es0.length c0] 25)).alloc (.cells #[.int .i64 K1, .int .i64 N1, .int .i64 M1] 27)).alloc (.cells #[.int .i64 K2, .int .i64 N2, .int .i64 M2] 27)) w.heap.size 25 #[.int .i64 kind0, .int .i64 kk0, .int .u64 pp0, .slice A0 es0.length c0]∧zAI (((w.alloc (.cells #[.int .i64 kind0, .int .i64 kk0, .int .u64 pp0, .slice A0 es0.length c0] 25)).alloc (.cells #[.int .i64 K1, .int .i64 N1, .int .i64 M1] 27)).alloc (.cells #[.int .i64 K2, .int .i64 N2, .int .i64 M2] 27)) (w.heap.size+1) 27 #[.int .i64 K1, .int .i64 N1, .int .i64 M1]∧zAI (((w.alloc (.cells #[.int .i64 kind0, .int .i64 kk0, .int .u64 pp0, .slice A0 es0.length c0] 25)).alloc (.cells #[.int .i64 K1, .int .i64 N1, .int .i64 M1] 27)).alloc (.cells #[.int .i64 K2, .int .i64 N2, .int .i64 M2] 27)) (w.heap.size+1+1) 27 #[.int .i64 K2, .int .i64 N2, .int .i64 M2]∧Below w.heap.size w (((w.alloc (.cells #[.int .i64 kind0, .int .i64 kk0, .int .u64 pp0, .slice A0 es0.length c0] 25)).alloc (.cells #[.int .i64 K1, .int .i64 N1, .int .i64 M1] 27)).alloc (.cells #[.int .i64 K2, .int .i64 N2, .int .i64 M2] 27))):=Lib.hid (lay3 w 25 27 27 #[.int .i64 kind0, .int .i64 kk0, .int .u64 pp0, .slice A0 es0.length c0] #[.int .i64 K1, .int .i64 N1, .int .i64 M1] #[.int .i64 K2, .int .i64 N2, .int .i64 M2])
 have HS:=Lib.hid hs0
 have HP:=Lib.hid hp1
 have HP2:=Lib.hid hp2
 have HL:=Lib.hid hl3
 have hLl:=hl3.hl
 have HU:=Lib.hid hl3.hU
 have HO1:=Lib.hid (fun W=>zMB K1 N1 M1 hp1.k0 hp1.k1 W)
 have HO2:=Lib.hid (fun W=>zMB K2 N2 M2 hp2.k0 hp2.k1 W)
 have KP:Hid (∀W W',(zAI W w.heap.size 25 #[.int .i64 kind0, .int .i64 kk0, .int .u64 pp0, .slice A0 es0.length c0]∧zAI W (w.heap.size+1) 27 #[.int .i64 K1, .int .i64 N1, .int .i64 M1]∧zAI W (w.heap.size+1+1) 27 #[.int .i64 K2, .int .i64 N2, .int .i64 M2]∧Below w.heap.size w W)→Below W.heap.size W W'→(zAI W' w.heap.size 25 #[.int .i64 kind0, .int .i64 kk0, .int .u64 pp0, .slice A0 es0.length c0]∧zAI W' (w.heap.size+1) 27 #[.int .i64 K1, .int .i64 N1, .int .i64 M1]∧zAI W' (w.heap.size+1+1) 27 #[.int .i64 K2, .int .i64 N2, .int .i64 M2]∧Below w.heap.size w W')):=Lib.hid (fun W W' h hB=>⟨h.1.keep hB,h.2.1.keep hB,h.2.2.1.keep hB,h.2.2.2.trans (hB.mono h.2.2.2.size)⟩)
 clear hs0 hp1 hp2 hl3
 go_enter Tryz.func7,Tryz.ntmps7
 go_wp2_with fail
 generalize (((w.alloc (.cells #[.int .i64 kind0, .int .i64 kk0, .int .u64 pp0, .slice A0 es0.length c0] 25)).alloc (.cells #[.int .i64 K1, .int .i64 N1, .int .i64 M1] 27)).alloc (.cells #[.int .i64 K2, .int .i64 N2, .int .i64 M2] 27))=w1 at *
 refine (zBj w1).mono ?_
 rintro e w2 ⟨rfl,hB2⟩
 have R2:=Lib.hid (KP.out _ _ R0.out hB2)
 clear hB2 R0
 go_wp2_with (refine wpList_load_row rfl _ _ rfl _ rfl _ _ _ _ (R2.out.1) Tryz.underlying25 rfl (by exact zTA) ?_)
 refine (zLp (HS.out.below R2.out.2.2.2)).mono ?_
 rintro e w3 ⟨v,p,g,rfl,hM,hB3⟩
 have R4:=Lib.hid (KP.out _ _ R2.out hB3)
 have HM:=Lib.hid hM
 clear hB3 R2 hM HS
 rcases HM.out with ⟨rfl,rfl,rfl⟩|⟨p3,hC,hF⟩
 ·clear HM
  go_wp2
  go_ret
  exact ⟨by first|rfl|simp,R4.out.2.2.2⟩
 obtain ⟨q,rfl⟩:=Int.eq_ofNat_of_zero_le (show 0≤p by omega)
 have pm:=hF.pmx
 haveI:NeZero q:=⟨by omega⟩
 obtain ⟨hp,hord⟩:=hC.nat
 have hg:=hC.gr
 have tp:((q:Int) == 0)=false:=by simp;omega
 have HPM:=Lib.hid (And.intro p3 pm)
 have HPr:=Lib.hid (And.intro hp (And.intro hord hg))
 have HFd:=Lib.hid hF
 have HG1:=Lib.hid (fun W=>zPO (q:Int) K1 N1 M1 p3 pm HP.out.k0 HP.out.k1 HP.out.n0 HP.out.n1 HP.out.a0 HP.out.a1 W)
 have HG2:=Lib.hid (fun W=>zPO (q:Int) K2 N2 M2 p3 pm HP2.out.k0 HP2.out.k1 HP2.out.n0 HP2.out.n1 HP2.out.a0 HP2.out.a1 W)
 have HGd:Hid (∀W,Below w.heap.size w W→Calls Tryz.prog 29 #[.int .u64 (q:Int), .slice A3 L3.length c3] W fun e w'=>e= .returned (.bool (zI1 (q:Int) L3))∧W=w'):=Lib.hid (fun W hW=>zP9 A3 c3 W.heap.size (q:Int) L3 W hLl (HL.out.below hW).hR)
 have HCk:=Lib.hid (fun h=>zHg (p:=(q:Int)) (K:=K1) (N:=N1) (M:=M1) h)
 obtain ⟨f1,hf1⟩: ∃f1,f1=fitI (q:Int) K1 N1 M1:=⟨_,rfl⟩
 obtain ⟨f2,hf2⟩: ∃f2,f2=fitI (q:Int) K2 N2 M2:=⟨_,rfl⟩
 obtain ⟨gd,hgd⟩: ∃gd,gd=zI1 (q:Int) L3:=⟨_,rfl⟩
 rw [←hf1] at HG1 HCk
 rw [←hf2] at HG2
 rw [←hgd] at HGd
 have Hf1:=Lib.hid hf1
 have Hf2:=Lib.hid hf2
 have Hgd:=Lib.hid hgd
 have d1:=R4.out.2.1.cell (i:=1) (v:= .int .i64 N1) rfl
 have d2:=R4.out.2.2.1.cell (i:=1) (v:= .int .i64 N2) rfl
 clear HM hC hF hp hord hg p3 pm hf1 hf2 hgd
 by_cases h120:120<L3.length
 ·have t1:decide ((L3.length:Int)>120)=true:=decide_eq_true (by omega)
  have t1b:decide (120<L3.length)=true:=decide_eq_true h120
  clear h120
  go_wp2
  go_ret
  exact ⟨by first|rfl|simp,R4.out.2.2.2⟩
 have t1:decide ((L3.length:Int)>120)=false:=decide_eq_false (by omega)
 have t1b:decide (120<L3.length)=false:=decide_eq_false h120
 by_cases hN1:N1=(L3.length:Int)
 case neg=>
  have t2:(N1 != (L3.length:Int))=true:=by simpa using hN1
  clear hN1 h120
  go_wp2
  go_ret
  exact ⟨by first|rfl|simp,R4.out.2.2.2⟩
 have t2:(N1 != (L3.length:Int))=false:=by simpa using hN1
 have HN1:=Lib.hid hN1
 clear hN1
 by_cases hN2:N2=(L3.length:Int)
 case neg=>
  have t3:(N2 != (L3.length:Int))=true:=by simpa using hN2
  clear hN2 h120
  go_wp2
  go_ret
  exact ⟨by first|rfl|simp,R4.out.2.2.2⟩
 have t3:(N2 != (L3.length:Int))=false:=by simpa using hN2
 have HN2:=Lib.hid hN2
 clear hN2
 have d10:=R4.out.2.1.cell (i:=0) (v:= .int .i64 K1) rfl
 have d12:=R4.out.2.1.cell (i:=2) (v:= .int .i64 M1) rfl
 go_wp2_with fail
 refine (HG1.out _).mono ?_
 rintro e w5 ⟨rfl,hB5⟩
 have R5:=Lib.hid (KP.out _ _ R4.out hB5)
 have HB5:=Lib.hid hB5
 clear hB5 d1 d2 d10 d12
 by_cases hf1:f1=0
 case neg=>
  have t4:(f1 != 0)=true:=by simpa using hf1
  clear hf1 h120
  go_wp2
  go_ret
  exact ⟨by first|rfl|simp,R5.out.2.2.2⟩
 have hc1:=HCk.out hf1
 have HFit1:Hid (fitI (q:Int) K1 N1 M1=0):=Lib.hid (by rw [←Hf1.out];exact hf1)
 have HC1:=Lib.hid hc1
 clear hc1
 subst hf1
 have d20:=R5.out.2.2.1.cell (i:=0) (v:= .int .i64 K2) rfl
 have d21:=R5.out.2.2.1.cell (i:=1) (v:= .int .i64 N2) rfl
 have d22:=R5.out.2.2.1.cell (i:=2) (v:= .int .i64 M2) rfl
 go_wp2_with fail
 refine (HG2.out _).mono ?_
 rintro e w6 ⟨rfl,hB6⟩
 have R6:=Lib.hid (KP.out _ _ R5.out hB6)
 have HB6:=Lib.hid (HB5.out.trans (hB6.mono HB5.out.size))
 clear hB6 d20 d21 d22
 by_cases hf2:f2=0
 case neg=>
  have t4:(f2 != 0)=true:=by simpa using hf2
  clear hf2 h120
  go_wp2
  go_ret
  exact ⟨by first|rfl|simp,R6.out.2.2.2⟩
 have HFit2:Hid (fitI (q:Int) K2 N2 M2=0):=Lib.hid (by rw [←Hf2.out];exact hf2)
 subst hf2
 go_wp2_with fail
 refine (HGd.out w6 R6.out.2.2.2).mono ?_
 rintro e w7 ⟨rfl,rfl⟩
 by_cases hgd:gd=true
 case neg=>
  have hgd':gd=false:=by simpa using hgd
  subst hgd'
  clear hgd h120
  go_wp2
  go_ret
  exact ⟨by first|rfl|simp,R6.out.2.2.2⟩
 have HGood:Hid (zI1 (q:Int) L3=true):=Lib.hid (by rw [←Hgd.out];exact hgd)
 subst hgd
 have hchk:chk (q:Int) (L3.length:Int) 1024=0:=by rw [←HN1.out];exact HC1.out
 have HRunA:Hid (∀(K N M:Int) (L:List Int) (A:Option Addr) (c:Nat) (b:Bool) (W:World),zAB K N M→N=(L.length:Int)→fitI (q:Int) K N M=0→zI1 (q:Int) L=true→U64s L→L.length≤140737488351232→Below w3.heap.size w3 W→RdI W W.heap.size .u64 A L→
   Calls Tryz.prog 27 #[v, .agg #[.int .i64 K, .int .i64 N, .int .i64 M], .slice A L.length c, .bool b] W fun e w'=> ∃V,e= .returned (.tuple #[V, .int .i64 0])∧OwnU w' W.heap.size V L.length (lst L.length (tr (zt q g) L.length b (rz q L)))∧Below W.heap.size W w'):=Lib.hid (fun K N M L A c b W hP hN hf hg hU hl hW hR=>by
  have hch:=zHg hf
  have hz:=zEq hch
  have he:errP (q:Int) K N M L=0:=by unfold errP zI4;rw [if_neg (by omega),if_neg (by simp [hf]),if_neg (by simp [hg])]
  have h1:=zPr HPr.out.1 HPr.out.2.1 (by have:=HPr.out.2.2;omega) HPr.out.2.2.2 ((HFd.out.below hW).mono hW.size) A c L b hU hR K N M hP.k0 hP.k1 hP.n0 hP.n1 hP.a0 hP.a1 hl
  rw [he] at h1
  refine h1.mono ?_
  rintro e w' ⟨V,he',hQ,hb⟩
  rcases hQ with ⟨_,ho⟩|⟨hne,_⟩
  ·exact ⟨V,he',ho,hb⟩
  ·exact absurd rfl hne)
 obtain ⟨n,hn⟩: ∃n,n=L3.length:=⟨_,rfl⟩
 obtain ⟨Y,hY⟩: ∃Y,Y=lst L3.length (tr (zt q g) L3.length b4 (rz q L3)):=⟨_,rfl⟩
 have hYl:Y.length=L3.length:=by rw [hY];exact zLb _ _
 have HA1:Hid (∀W,Below w3.heap.size w3 W→Calls Tryz.prog 27 #[v, .agg #[.int .i64 K1, .int .i64 N1, .int .i64 M1], .slice A3 L3.length c3, .bool b4] W fun e w'=> ∃V,e= .returned (.tuple #[V, .int .i64 0])∧OwnU w' W.heap.size V L3.length Y∧Below W.heap.size W w'):=Lib.hid (fun W hW=>by
  rw [hY]
  exact HRunA.out K1 N1 M1 L3 A3 c3 b4 W HP.out HN1.out HFit1.out HGood.out HU.out hLl hW (HL.out.below (R4.out.2.2.2.trans (hW.mono R4.out.2.2.2.size))).hR)
 have HA2:Hid (∀W,Below w3.heap.size w3 W→Calls Tryz.prog 27 #[v, .agg #[.int .i64 K2, .int .i64 N2, .int .i64 M2], .slice A3 L3.length c3, .bool b4] W fun e w'=> ∃V,e= .returned (.tuple #[V, .int .i64 0])∧OwnU w' W.heap.size V L3.length Y∧Below W.heap.size W w'):=Lib.hid (fun W hW=>by
  rw [hY]
  exact HRunA.out K2 N2 M2 L3 A3 c3 b4 W HP2.out HN2.out HFit2.out HGood.out HU.out hLl hW (HL.out.below (R4.out.2.2.2.trans (hW.mono R4.out.2.2.2.size))).hR)
 have HA3:Hid (∀(A:Option Addr) (c:Nat) W,Below w3.heap.size w3 W→RdI W W.heap.size .u64 A Y→Calls Tryz.prog 27 #[v, .agg #[.int .i64 K2, .int .i64 N2, .int .i64 M2], .slice A L3.length c, .bool (!b4)] W fun e w'=> ∃V,e= .returned (.tuple #[V, .int .i64 0])∧OwnU w' W.heap.size V L3.length L3∧Below W.heap.size W w'):=Lib.hid (fun A c W hW hA=>by
  have h1:=HRunA.out K2 N2 M2 Y A c (!b4) W HP2.out (by rw [hYl];exact HN2.out) HFit2.out (by rw [hY];exact zKZ _ _) (by rw [hY];exact zLd HPM.out.2 _ _) (by rw [hYl];exact hLl) hW hA
  rw [hYl] at h1
  have hd:=zEl (by have:=HPM.out.1;omega) hchk
  have e1:lst L3.length (tr (zt q g) L3.length (!b4) (rz q Y))=L3:=by
   rw [hY,zKW (g:=rz q L3) (fun i hi=>by
    rw [zVj (b:=tr (zt q g) L3.length b4 (rz q L3)) (fun j hj=>zSG hj) i]
    exact zVh HPr.out.1 HPr.out.2.1 hd.1 hd.2 b4 _ i hi)]
   exact zLc HGood.out HU.out
  rw [e1] at h1
  exact h1)
 have HLr:Hid (∀W,Below w.heap.size w W→RdI W W.heap.size .u64 A3 L3):=Lib.hid (fun W hW=>(HL.out.below hW).hR)
 have HYl:=Lib.hid hYl
 clear hY hchk hYl hn n h120
 go_wp2_with (refine wpList_load_row rfl _ _ rfl _ rfl _ _ _ _ (R6.out.2.1) Tryz.underlying27 rfl (by exact zT6) ?_)
 refine (HO1.out _).mono ?_
 rintro e w8 ⟨rfl,hB8⟩
 have R8:=Lib.hid (KP.out _ _ R6.out hB8)
 have HB8:=Lib.hid (HB6.out.trans (hB8.mono HB6.out.size))
 clear hB8
 go_wp2_with fail
 refine (HA1.out w8 HB8.out).mono ?_
 rintro e w9 ⟨V9,rfl,hO9,hB9⟩
 obtain ⟨A9,c9,rfl,hR9⟩:=hO9.rd
 have R9:=Lib.hid (KP.out _ _ R8.out hB9)
 have HB9:=Lib.hid (HB8.out.trans (hB9.mono HB8.out.size))
 have HR9:Hid (∀W,Below w9.heap.size w9 W→RdI W W.heap.size .u64 A9 Y):=Lib.hid (fun W hW=>(hR9.below hW).mono hW.size)
 clear hB9 hO9 hR9
 go_wp2_with (refine wpList_load_row rfl _ _ rfl _ rfl _ _ _ _ (R9.out.2.2.1) Tryz.underlying27 rfl (by exact zT6) ?_)
 refine (HO2.out _).mono ?_
 rintro e w10 ⟨rfl,hB10⟩
 have R10:=Lib.hid (KP.out _ _ R9.out hB10)
 have HB10:=Lib.hid (HB9.out.trans (hB10.mono HB9.out.size))
 have H910:=Lib.hid hB10
 clear hB10
 go_wp2_with fail
 refine (HA2.out w10 HB10.out).mono ?_
 rintro e w11 ⟨V11,rfl,hO11,hB11⟩
 obtain ⟨A11,c11,rfl,hR11⟩:=hO11.rd
 have R11:=Lib.hid (KP.out _ _ R10.out hB11)
 have HB11:=Lib.hid (HB10.out.trans (hB11.mono HB10.out.size))
 have H911:=Lib.hid (H910.out.trans (hB11.mono H910.out.size))
 have HR11:Hid (∀W,Below w11.heap.size w11 W→RdI W W.heap.size .u64 A11 Y):=Lib.hid (fun W hW=>(hR11.below hW).mono hW.size)
 clear hB11 hO11 hR11
 go_wp2_with (refine wpList_load_row rfl _ _ rfl _ rfl _ _ _ _ (R11.out.2.2.1) Tryz.underlying27 rfl (by exact zT6) ?_)
 refine (HO2.out _).mono ?_
 rintro e w12 ⟨rfl,hB12⟩
 have R12:=Lib.hid (KP.out _ _ R11.out hB12)
 have HB12:=Lib.hid (HB11.out.trans (hB12.mono HB11.out.size))
 have H912:=Lib.hid (H911.out.trans (hB12.mono H911.out.size))
 have H1112:=Lib.hid hB12
 have HA4:=Lib.hid (HA3.out A9 c9 w12 HB12.out (HR9.out w12 H912.out))
 clear hB12
 go_wp2_with fail
 refine HA4.out.mono ?_
 rintro e w13 ⟨V13,rfl,hO13,hB13⟩
 obtain ⟨A13,c13,rfl,hR13⟩:=hO13.rd
 have R13:=Lib.hid (KP.out _ _ R12.out hB13)
 have H913:=Lib.hid (H912.out.trans (hB13.mono H912.out.size))
 have H1113:=Lib.hid (H1112.out.trans (hB13.mono H1112.out.size))
 have HS1:Hid (Calls Tryz.prog 28 #[.slice A9 L3.length c9, .slice A11 L3.length c11] w13 fun e w'=>e= .returned (.bool true)∧Below w13.heap.size w13 w'):=Lib.hid (by
  have h1:=zSV A9 A11 c9 c11 w13.heap.size Y Y w13 (by rw [HYl.out];omega) (by rw [HYl.out];omega) (HR9.out w13 H913.out) (HR11.out w13 H1113.out)
  rw [HYl.out,show decide (Y=Y)=true by simp] at h1
  exact h1)
 have HS2:Hid (∀W,Below w13.heap.size w13 W→Calls Tryz.prog 28 #[.slice A13 L3.length c13, .slice A3 L3.length c3] W fun e w'=>e= .returned (.bool true)∧Below W.heap.size W w'):=Lib.hid (fun W hW=>by
  have h1:=zSV A13 A3 c13 c3 W.heap.size L3 L3 W hLl hLl ((hR13.below hW).mono hW.size) (HLr.out W (R13.out.2.2.2.trans (hW.mono R13.out.2.2.2.size)))
  rw [show decide (L3=L3)=true by simp] at h1
  exact h1)
 clear hB13 hO13 hR13
 go_wp2_with fail
 refine HS1.out.mono ?_
 rintro e w14 ⟨rfl,hB14⟩
 have HS3:=Lib.hid (HS2.out w14 hB14)
 have R14:=Lib.hid (KP.out _ _ R13.out hB14)
 clear hB14
 go_wp2_with fail
 refine HS3.out.mono ?_
 rintro e w15 ⟨rfl,hB15⟩
 go_wp2
 go_ret
 exact ⟨by first|rfl|simp,R14.out.2.2.2.trans (hB15.mono R14.out.2.2.2.size)⟩
end Go.Proofs.YtmalmijdjhkklaaGreat