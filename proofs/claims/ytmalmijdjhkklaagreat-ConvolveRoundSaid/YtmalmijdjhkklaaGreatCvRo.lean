/- The law ConvolveRound. -/
import Derived.Test.YtmalmijdjhkklaaGreatW128
import Derived.Test.YtmalmijdjhkklaaGreatW39
import Derived.Test.YtmalmijdjhkklaaGreatW153
import Derived.Test.YtmalmijdjhkklaaGreatW67
import Derived.Test.YtmalmijdjhkklaaGreatW155
set_option linter.unusedVariables false
set_option linter.unusedSimpArgs false
set_option maxRecDepth 100000
set_option maxHeartbeats 16000000
namespace Go.Proofs.YtmalmijdjhkklaaGreat
open Go.RowKit
open Alg
theorem zXY {p:Nat} [NeZero p] (n m:Nat) (D:Nat→Fin p) (t:Nat):fld n (rz p (lst m D)) m t=fld n D m t:=by
 rw [zHt,zHt]
 exact sm_congr fun j hj=>by rw [zSG hj]
theorem zXX (w:World) (A0:Option Addr) (c0:Nat) (kind0 kk0 pp0:Int) (es0:List Ent) (A1:Option Addr) (c1:Nat) (L1:List Int) (A2:Option Addr) (c2:Nat) (L2:List Int) (x3:Int) (x4:Int) (hs0:SrcA w A0 c0 kind0 kk0 pp0 es0) (hl1:LstA w A1 c1 L1) (hl2:LstA w A2 c2 L2) (h03: -9223372036854775808≤x3) (h13:x3≤9223372036854775807) (h04: -9223372036854775808≤x4) (h14:x4≤9223372036854775807):
  Calls Tryz.prog 11 #[.agg #[.int .i64 kind0, .int .i64 kk0, .int .u64 pp0, .slice A0 es0.length c0], .slice A1 L1.length c1, .slice A2 L2.length c2, .int .i64 x3, .int .i64 x4] w fun e w'=>e= .returned (.bool true)∧Below w.heap.size w w':=by
 have R0:Hid (zAI (w.alloc (.cells #[.int .i64 kind0, .int .i64 kk0, .int .u64 pp0, .slice A0 es0.length c0] 25)) w.heap.size 25 #[.int .i64 kind0, .int .i64 kk0, .int .u64 pp0, .slice A0 es0.length c0]∧Below w.heap.size w (w.alloc (.cells #[.int .i64 kind0, .int .i64 kk0, .int .u64 pp0, .slice A0 es0.length c0] 25))):=zy (lay1 w 25 #[.int .i64 kind0, .int .i64 kk0, .int .u64 pp0, .slice A0 es0.length c0])
 have HS:=zy hs0
 have HL1:=zy hl1
 have hLl1:=hl1.hl
 have HU1:=zy hl1.hU
 have HL2:=zy hl2
 have hLl2:=hl2.hl
 have HU2:=zy hl2.hU
 have KP:Hid (∀W W',(zAI W w.heap.size 25 #[.int .i64 kind0, .int .i64 kk0, .int .u64 pp0, .slice A0 es0.length c0]∧Below w.heap.size w W)→Below W.heap.size W W'→(zAI W' w.heap.size 25 #[.int .i64 kind0, .int .i64 kk0, .int .u64 pp0, .slice A0 es0.length c0]∧Below w.heap.size w W')):=zy (fun W W' h hB=>⟨h.1.keep hB,h.2.trans (hB.mono h.2.size)⟩)
 clear hs0 hl1 hl2
 go_enter Tryz.func11,Tryz.ntmps11
 go_wp2_with fail
 generalize (w.alloc (.cells #[.int .i64 kind0, .int .i64 kk0, .int .u64 pp0, .slice A0 es0.length c0] 25))=w1 at *
 refine (zBx w1).mono ?_
 rintro e w2 ⟨rfl,hB2⟩
 have R2:=zy (KP.out _ _ R0.out hB2)
 clear hB2 R0
 by_cases hg:(36<L1.length∧L1.length≤1024)∨1100<L1.length∨1100<L2.length
 ·by_cases g1:36<L1.length
  ·have a1:decide ((L1.length:Int)>36)=true:=decide_eq_true (by omega)
   have b1:decide (36<L1.length)=true:=decide_eq_true g1
   by_cases g2:L1.length≤1024
   ·have a2:decide ((L1.length:Int)≤1024)=true:=decide_eq_true (by omega)
    have b2:decide (L1.length≤1024)=true:=decide_eq_true g2
    clear hg g1 g2
    go_wp2
    go_ret
    exact ⟨by first|rfl|simp,R2.out.2⟩
   ·have a2:decide ((L1.length:Int)≤1024)=false:=decide_eq_false (by omega)
    have b2:decide (L1.length≤1024)=false:=decide_eq_false g2
    by_cases g3:1100<L1.length
    ·have a3:decide ((L1.length:Int)>1100)=true:=decide_eq_true (by omega)
     have b3:decide (1100<L1.length)=true:=decide_eq_true g3
     clear hg g1 g2 g3
     go_wp2
     go_ret
     exact ⟨by first|rfl|simp,R2.out.2⟩
    ·have a3:decide ((L1.length:Int)>1100)=false:=decide_eq_false (by omega)
     have b3:decide (1100<L1.length)=false:=decide_eq_false g3
     have a4:decide ((L2.length:Int)>1100)=true:=decide_eq_true (by omega)
     have b4:decide (1100<L2.length)=true:=decide_eq_true (by omega)
     clear hg g1 g2 g3
     go_wp2
     go_ret
     exact ⟨by first|rfl|simp,R2.out.2⟩
  ·have a1:decide ((L1.length:Int)>36)=false:=decide_eq_false (by omega)
   have b1:decide (36<L1.length)=false:=decide_eq_false g1
   have a3:decide ((L1.length:Int)>1100)=false:=decide_eq_false (by omega)
   have b3:decide (1100<L1.length)=false:=decide_eq_false (by omega)
   have a4:decide ((L2.length:Int)>1100)=true:=decide_eq_true (by omega)
   have b4:decide (1100<L2.length)=true:=decide_eq_true (by omega)
   clear hg g1
   go_wp2
   go_ret
   exact ⟨by first|rfl|simp,R2.out.2⟩
 go_upto_region 3 with fail
 go_cut [41] (fun v wx=>v= .bool false∧w2=wx)
 case first=>
  have a3:decide ((L1.length:Int)>1100)=false:=decide_eq_false (by omega)
  have b3:decide (1100<L1.length)=false:=decide_eq_false (by omega)
  have a4:decide ((L2.length:Int)>1100)=false:=decide_eq_false (by omega)
  have b4:decide (1100<L2.length)=false:=decide_eq_false (by omega)
  by_cases g1:36<L1.length
  ·have a1:decide ((L1.length:Int)>36)=true:=decide_eq_true (by omega)
   have b1:decide (36<L1.length)=true:=decide_eq_true g1
   have a2:decide ((L1.length:Int)≤1024)=false:=decide_eq_false (by omega)
   have b2:decide (L1.length≤1024)=false:=decide_eq_false (by omega)
   clear hg g1
   go_wp2
   go_meet
   exact ⟨rfl,rfl⟩
  ·have a1:decide ((L1.length:Int)>36)=false:=decide_eq_false (by omega)
   have b1:decide (36<L1.length)=false:=decide_eq_false g1
   clear hg g1
   go_wp2
   go_meet
   exact ⟨rfl,rfl⟩
 obtain ⟨rfl,rfl⟩:=hcut
 have HG:=zy hg
 clear hg
 go_wp2_with (refine wpList_load_row rfl _ _ rfl _ rfl _ _ _ _ (R2.out.1) Tryz.underlying25 rfl (by exact zTA) ?_)
 refine (zLp (HS.out.below R2.out.2)).mono ?_
 rintro e w3 ⟨v,p,g,rfl,hM,hB3⟩
 have R3:=zy (KP.out _ _ R2.out hB3)
 have HM:=zy hM
 clear hB3 R2 hM HS
 obtain ⟨room,hroom⟩: ∃room,room=mnI (mxI x4 0) 64:=⟨_,rfl⟩
 go_wp2_with fail
 refine (zXP x4 room w3 hroom).mono ?_
 rintro e w4 ⟨rfl,hC4,hB4⟩
 have R4:=zy (KP.out _ _ R3.out hB4)
 have HB4:=zy hB4
 have HC4:=zy hC4
 have KB:Hid (∀W,Below w3.heap.size w3 W→(zAI W w.heap.size 25 #[.int .i64 kind0, .int .i64 kk0, .int .u64 pp0, .slice A0 es0.length c0]∧Below w.heap.size w W)):=zy (fun W hW=>KP.out _ _ R3.out hW)
 have HRa:Hid (∀W,Below w3.heap.size w3 W→RdI W w3.heap.size .u64 A1 L1):=zy (fun W hW=>((HL1.out.below R3.out.2).hR).below hW)
 have HRb:Hid (∀W,Below w3.heap.size w3 W→RdI W w3.heap.size .u64 A2 L2):=zy (fun W hW=>((HL2.out.below R3.out.2).hR).below hW)
 have HR1:Hid (∀W,Below w3.heap.size w3 W→RdI W W.heap.size .u64 A1 L1):=zy (fun W hW=>(HRa.out W hW).mono hW.size)
 have HR2:Hid (∀W,Below w3.heap.size w3 W→RdI W W.heap.size .u64 A2 L2):=zy (fun W hW=>(HRb.out W hW).mono hW.size)
 have HSn:Hid (∀W,Calls Tryz.prog 35 #[.slice none 0 0, .slice none 0 0] W fun e w'=>e= .returned (.bool true)∧Below W.heap.size W w'):=zy (fun W=>by
  have h1:=zSV none none 0 0 W.heap.size [] [] W (by simp) (by simp) (fun h=>by simp at h) (fun h=>by simp at h)
  simpa using h1)
 clear hB4 hC4 hroom
 rcases HM.out with ⟨rfl,rfl,rfl⟩|⟨p3,hC,hF⟩
 ·clear HM
  have HN1:=zy (zXS HC4.out HB4.out.size A1 A2 c1 c2 L1.length L2.length hLl1 hLl2 x3)
  go_wp2_with fail
  refine HN1.out.mono ?_
  rintro e w5 ⟨rfl,hB5,hC5⟩
  have HB5:=zy (HB4.out.trans hB5)
  have HN2:=zy (zXS hC5 HB5.out.size A1 A2 c1 c2 L1.length L2.length hLl1 hLl2 x3)
  clear hB5 hC5 HN1 HC4
  go_wp2_with fail
  refine HN2.out.mono ?_
  rintro e w6 ⟨rfl,hB6,_⟩
  have HB6:=zy (HB5.out.trans hB6)
  clear hB6 HN2
  go_wp2_with fail
  refine (HSn.out _).mono ?_
  rintro e w7 ⟨rfl,hB7⟩
  have R7:=zy (KB.out _ (HB6.out.trans (hB7.mono HB6.out.size)))
  clear hB7
  go_wp2
  go_ret
  exact ⟨by first|rfl|simp,R7.out.2⟩
 obtain ⟨q,rfl⟩:=Int.eq_ofNat_of_zero_le (show 0≤p by omega)
 have pm:=hF.pmx
 haveI:NeZero q:=⟨by omega⟩
 obtain ⟨hp,hord⟩:=hC.nat
 have hg:=hC.gr
 have tp:((q:Int) == 0)=false:=by simp;omega
 have HPM:=zy (And.intro p3 pm)
 have HPr:=zy (And.intro hp (And.intro hord hg))
 have HFd:=zy hF
 clear HM hC hF hp hord hg p3 pm
 obtain ⟨pq,rfl⟩: ∃pq,v= .pointer pq:=by
  obtain ⟨b,_,_,_,_,_,e,_⟩:=HFd.out
  exact ⟨_,e⟩
 have HFq:Hid (∀W,Below w3.heap.size w3 W→Fd W W.heap.size (.pointer pq) (q:Int) g):=zy (fun W hW=>(HFd.out.below hW).mono hW.size)
 have HFb:Hid (∀W,Below w3.heap.size w3 W→Fd W w3.heap.size (.pointer pq) (q:Int) g):=zy (fun W hW=>HFd.out.below hW)
 have HQ4:Hid ((∃V ord,zXA w4 w3.heap.size (w3.heap.size+1) w3.heap.size V ord room)∧Fd w4 w3.heap.size (.pointer pq) (q:Int) g∧w3.heap.size≤w4.heap.size):=zy ⟨⟨_,_,HC4.out⟩,HFb.out _ HB4.out,HB4.out.size⟩
 have HRo:Hid (∀W,Below w3.heap.size w3 W→Calls Tryz.prog 36 #[.int .u64 (q:Int), .slice A1 L1.length c1, .slice A2 L2.length c2, .int .i64 x3] W fun e w'=>e= .returned (.int .i64 (rndf q x3 L1 L2))∧Below W.heap.size W w'):=zy (fun W hW=>
  zDU A1 A2 c1 c2 q x3 HPM.out.1 HPM.out.2 L1 L2 W hLl1 hLl2 (HR1.out W hW) (HR2.out W hW))
 have HChs:=zy (zXQ (q:=pq) (p:=(q:Int)) (g:=g) (room:=room) (w3.heap.size+1) w3.heap.size L1.length x3 hLl1 w3.heap.size)
 by_cases hrf:rndf q x3 L1 L2=0
 case neg=>
  have HNo:Hid (∀W,Below w3.heap.size w3 W→((∃V ord,zXA W w3.heap.size (w3.heap.size+1) w3.heap.size V ord room)∧Fd W w3.heap.size (.pointer pq) (q:Int) g∧w3.heap.size≤W.heap.size)→Calls Tryz.prog 37 #[.pointer pq, .pointer (some ⟨w3.heap.size+1,0,none⟩), .slice A1 L1.length c1, .slice A2 L2.length c2, .int .i64 x3] W fun e w'=>e= .returned (.tuple #[.slice none 0 0, .int .i64 (rndf q x3 L1 L2)])∧Below w3.heap.size W w'∧((∃V ord,zXA w' w3.heap.size (w3.heap.size+1) w3.heap.size V ord room)∧Fd w' w3.heap.size (.pointer pq) (q:Int) g∧w3.heap.size≤w'.heap.size)):=zy (fun W hW hQ=>
   zXT w3.heap.size hW.size (HFb.out W hW) A1 A2 c1 c2 L1 L2 x3 hLl1 hLl2 HU1.out HU2.out (HRa.out W hW) (HRb.out W hW) hrf _ _ zXR HChs.out hQ)
  obtain ⟨z,hz⟩: ∃z,z=rndf q x3 L1 L2:=⟨_,rfl⟩
  rw [←hz] at HNo HRo hrf
  have tz:(z != z)=false:=by simp
  have tze:(z == z)=true:=by simp
  have tz0:(z != 0)=true:=by simpa using hrf
  clear hz hrf
  go_wp2_with fail
  refine (HNo.out w4 HB4.out HQ4.out).mono ?_
  rintro e w5 ⟨rfl,hB5,hQ5⟩
  have HB5:=zy (HB4.out.trans hB5)
  have HN2:=zy (HNo.out w5 HB5.out hQ5)
  clear hB5 hQ5 HNo HQ4 HC4
  go_wp2_with fail
  refine HN2.out.mono ?_
  rintro e w6 ⟨rfl,hB6,_⟩
  have HB6:=zy (HB5.out.trans hB6)
  clear hB6 HN2
  go_wp2_with fail
  refine (HSn.out _).mono ?_
  rintro e w7 ⟨rfl,hB7⟩
  have R7:=zy (KB.out _ (HB6.out.trans (hB7.mono HB6.out.size)))
  have HB7:=zy (HB6.out.trans (hB7.mono HB6.out.size))
  clear hB7
  go_wp2_with fail
  refine (HRo.out _ HB7.out).mono ?_
  rintro e w8 ⟨rfl,hB8⟩
  have R8:=zy (KB.out _ (HB7.out.trans (hB8.mono HB7.out.size)))
  clear hB8
  go_wp2
  go_ret
  exact ⟨by first|rfl|simp,R8.out.2⟩
 obtain ⟨hlm,hce,hgL,hgM⟩:=zRZ hrf
 have hck:chk q L1.length 1024=0:=by
  obtain ⟨hf0,hN,_⟩:=zDI hce
  have:=zHg hf0
  rw [hN] at this;exact this
 have hrg:=zEo hck
 have hn36:L1.length≤36:=by have:=HG.out;omega
 have hn0:0<L1.length:=by omega
 have HYes:Hid (∀W,Below w3.heap.size w3 W→((∃V ord,zXA W w3.heap.size (w3.heap.size+1) w3.heap.size V ord room)∧Fd W w3.heap.size (.pointer pq) (q:Int) g∧w3.heap.size≤W.heap.size)→Calls Tryz.prog 37 #[.pointer pq, .pointer (some ⟨w3.heap.size+1,0,none⟩), .slice A1 L1.length c1, .slice A2 L2.length c2, .int .i64 x3] W fun e w'=> ∃V,e= .returned (.tuple #[V, .int .i64 0])∧OwnU w' W.heap.size V L1.length (lst L1.length (rnd q L1 L2))∧Below w3.heap.size W w'∧((∃V ord,zXA w' w3.heap.size (w3.heap.size+1) w3.heap.size V ord room)∧Fd w' w3.heap.size (.pointer pq) (q:Int) g∧w3.heap.size≤w'.heap.size)∧ ∃W1,((∃V ord,zXA W1 w3.heap.size (w3.heap.size+1) w3.heap.size V ord room)∧Fd W1 w3.heap.size (.pointer pq) (q:Int) g∧w3.heap.size≤W1.heap.size)∧Below W1.heap.size W1 w'∧OwnU w' W1.heap.size V L1.length (lst L1.length (rnd q L1 L2))):=zy (fun W hW hQ=>
  zBb HPr.out.1 HPr.out.2.1 (by have:=HPr.out.2.2;omega) HPr.out.2.2.2 w3.heap.size hW.size (HFb.out W hW) A1 A2 c1 c2 L1 L2 x3 HU1.out HU2.out (HRa.out W hW) (HRb.out W hW) hrf _ _ zXR HChs.out hQ)
 have HDn:Hid (∀W,Below w3.heap.size w3 W→Calls Tryz.prog 34 #[.pointer pq, .slice A1 L1.length c1, .slice A2 L2.length c2] W fun e w'=> ∃V,e= .returned (.tuple #[V, .int .i64 0])∧OwnU w' W.heap.size V (L1.length+L2.length-1) (lst (L1.length+L2.length-1) (drc q L1 L2))∧Below W.heap.size W w'):=zy (fun W hW=>
  zF9 (HFq.out W hW) A1 A2 c1 c2 L1 L2 hn0 (by omega) (by omega) HU1.out HU2.out (HR1.out W hW) (HR2.out W hW) hgL hgM)
 have HRn:Hid (∀W,Below w3.heap.size w3 W→Calls Tryz.prog 42 #[.int .u64 (q:Int), .slice A1 L1.length c1, .slice A2 L2.length c2] W fun e w'=> ∃V,e= .returned V∧OwnU w' W.heap.size V L1.length (lst L1.length (rnd q L1 L2))∧Below W.heap.size W w'):=zy (fun W hW=>
  zQc W A1 A2 c1 c2 L1 L2 HPM.out.1 HPM.out.2 hlm hn0 (by omega) HU1.out HU2.out (HR1.out W hW) (HR2.out W hW))
 have hfd:lst L1.length (fld L1.length (rz q (lst (L1.length+L2.length-1) (drc q L1 L2))) (lst (L1.length+L2.length-1) (drc q L1 L2)).length)=lst L1.length (rnd q L1 L2):=by
  rw [zLb]
  exact zKW fun t ht=>by rw [zXY];exact zHs L1 L2 hlm ht
 have HFo:Hid (∀A c W,Below w3.heap.size w3 W→RdI W W.heap.size .u64 A (lst (L1.length+L2.length-1) (drc q L1 L2))→Calls Tryz.prog 39 #[.pointer pq, .slice A (L1.length+L2.length-1:Nat) c, .int .i64 L1.length] W fun r w'=> ∃V,r= .returned V∧OwnU w' W.heap.size V L1.length (lst L1.length (rnd q L1 L2))∧Below W.heap.size W w'):=zy (fun A c W hW hA=>by
  have h1:=zH1 (HFq.out W hW) A c (lst (L1.length+L2.length-1) (drc q L1 L2)) L1.length hn0 (by omega) (by rw [zLb];omega) (zLd HPM.out.2 _ _) hA
  rw [hfd,zLb] at h1
  exact h1)
 rw [hrf] at HRo
 obtain ⟨Z,hZ⟩: ∃Z,Z=lst L1.length (rnd q L1 L2):=⟨_,rfl⟩
 obtain ⟨Y,hY⟩: ∃Y,Y=lst (L1.length+L2.length-1) (drc q L1 L2):=⟨_,rfl⟩
 have hZl:Z.length=L1.length:=by rw [hZ];exact zLb _ _
 have HYe2:Hid (∀b W,Below w3.heap.size w3 W→b≠w3.heap.size+1→b≠w3.heap.size→ ∀o,zXU pq (q:Int) g room (w3.heap.size+1) w3.heap.size b w3.heap.size o W→Calls Tryz.prog 37 #[.pointer pq, .pointer (some ⟨w3.heap.size+1,0,none⟩), .slice A1 L1.length c1, .slice A2 L2.length c2, .int .i64 x3] W fun e w'=> ∃V,e= .returned (.tuple #[V, .int .i64 0])∧OwnU w' W.heap.size V L1.length (lst L1.length (rnd q L1 L2))∧Below w3.heap.size W w'∧zXU pq (q:Int) g room (w3.heap.size+1) w3.heap.size b w3.heap.size o w'):=zy (fun b W hW h1 h2 o hQ=>
  (zBb HPr.out.1 HPr.out.2.1 (by have:=HPr.out.2.2;omega) HPr.out.2.2.2 w3.heap.size hW.size (HFb.out W hW) A1 A2 c1 c2 L1 L2 x3 HU1.out HU2.out (HRa.out W hW) (HRb.out W hW) hrf _ _ zXV (zXW _ _ b L1.length x3 hLl1 _ o h1 h2) hQ).mono fun e w' ⟨V,he,ho,hb,hq,_⟩=>⟨V,he,ho,hb,hq⟩)
 rw [←hZ] at HYes HYe2 HRn HFo
 rw [←hY] at HDn HFo
 have HSm:Hid (∀AX AY cX cY W,RdI W W.heap.size .u64 AX Z→RdI W W.heap.size .u64 AY Z→Calls Tryz.prog 35 #[.slice AX L1.length cX, .slice AY L1.length cY] W fun e w'=>e= .returned (.bool true)∧Below W.heap.size W w'):=zy (fun AX AY cX cY W h1 h2=>by
  have h:=zSV AX AY cX cY W.heap.size Z Z W (by omega) (by omega) h1 h2
  rw [hZl,show decide (Z=Z)=true by simp] at h
  exact h)
 obtain ⟨n2,hn2⟩: ∃n2,n2=L1.length+L2.length-1:=⟨_,rfl⟩
 rw [←hn2] at HDn HFo
 have hZl':=hZl
 clear hlm hce hck hrg hgL hgM hfd hZ hY hZl hrf hn2 HChs HFq HFd HG
 go_wp2_with fail
 refine (HYes.out w4 HB4.out HQ4.out).mono ?_
 rintro e w5 ⟨V5,rfl,_,hB5,_,W1,⟨⟨V,ord,hC1⟩,hF1,hBs1⟩,hM1,hO5⟩
 obtain ⟨A5,c5,rfl,hR5⟩:=hO5.rd
 obtain ⟨b5,o5,rfl,hb5,hc5⟩:=hR5 (by rw [hZl'];exact hn0)
 have hge:W1.heap.size≤b5:=(hO5.lt b5 rfl).1
 have HB5:=zy (HB4.out.trans hB5)
 have HQ5:Hid (zXU pq (q:Int) g room (w3.heap.size+1) w3.heap.size b5 w3.heap.size w5.heap[b5]? w5):=zy ⟨⟨V,ord,hC1.keep hM1,fun h=>by have:=(hC1.own.lt b5 h).2;omega⟩,HFb.out w5 HB5.out,HB5.out.size,rfl,hb5⟩
 have hne1:b5≠w3.heap.size+1:=by have:=(hC1.cf (w3.heap.size+1) (.inl rfl)).2;omega
 have hne2:b5≠w3.heap.size:=by have:=(hC1.cf w3.heap.size (.inr (.inl rfl))).2;omega
 have HX:Hid (∀W,W.heap[b5]? =w5.heap[b5]? →b5<W.heap.size→RdI W W.heap.size .u64 (some ⟨b5,o5,none⟩) Z):=zy (fun W hW hl _=>⟨b5,o5,rfl,hl,fun j hj=>(World.cell?_of_block hW).trans (hc5 j hj)⟩)
 have HY2:=zy (HYe2.out b5 w5 HB5.out hne1 hne2 _ HQ5.out)
 clear hB5 hC1 hF1 hBs1 hM1 hO5 hR5 hc5 hge HQ4 HC4 HYes HYe2 HFb hne1 hne2 HQ5
 go_wp2_with fail
 refine HY2.out.mono ?_
 rintro e w6 ⟨V6,rfl,hO6,hB6,hQ6⟩
 obtain ⟨A6,c6,rfl,hR6⟩:=hO6.rd
 have HB6:=zy (HB5.out.trans hB6)
 have HX6:Hid (∀W,Below w6.heap.size w6 W→RdI W W.heap.size .u64 (some ⟨b5,o5,none⟩) Z):=zy (fun W hW=>HX.out W ((hW.block b5 hQ6.2.2.2.2).trans hQ6.2.2.2.1) (Nat.lt_of_lt_of_le hQ6.2.2.2.2 hW.size))
 have HS1:=zy (HSm.out (some ⟨b5,o5,none⟩) A6 c5 c6 w6 (HX6.out w6 (Below.refl _ _)) hR6)
 clear hO6 hB6 hQ6 hR6 HY2 HX
 go_wp2_with fail
 refine HS1.out.mono ?_
 rintro e w7 ⟨rfl,hB7⟩
 have H67:=zy hB7
 have HB7:=zy (HB6.out.trans (hB7.mono HB6.out.size))
 clear hB7 HS1
 go_wp2_with fail
 refine (HRo.out _ HB7.out).mono ?_
 rintro e w8 ⟨rfl,hB8⟩
 have H68:=zy (H67.out.trans (hB8.mono H67.out.size))
 have HB8:=zy (HB7.out.trans (hB8.mono HB7.out.size))
 clear hB8 HRo H67
 go_wp2_with fail
 refine (HDn.out w8 HB8.out).mono ?_
 rintro e w9 ⟨V9,rfl,hO9,hB9⟩
 obtain ⟨A9,c9,rfl,hR9⟩:=hO9.rd
 have H69:=zy (H68.out.trans (hB9.mono H68.out.size))
 have HB9:=zy (HB8.out.trans (hB9.mono HB8.out.size))
 have HR9:Hid (∀W,Below w9.heap.size w9 W→RdI W W.heap.size .u64 A9 Y):=zy (fun W hW=>(hR9.below hW).mono hW.size)
 clear hO9 hB9 hR9 HDn H68
 go_wp2_with fail
 refine (HRn.out w9 HB9.out).mono ?_
 rintro e wa ⟨Va,rfl,hOa,hBa⟩
 obtain ⟨Aa,ca,rfl,hRa⟩:=hOa.rd
 have H6a:=zy (H69.out.trans (hBa.mono H69.out.size))
 have H9a:=zy hBa
 have HBa:=zy (HB9.out.trans (hBa.mono HB9.out.size))
 have HS2:=zy (HSm.out (some ⟨b5,o5,none⟩) Aa c5 ca wa (HX6.out wa H6a.out) hRa)
 clear hOa hBa hRa HRn H69
 go_wp2_with fail
 refine HS2.out.mono ?_
 rintro e wb ⟨rfl,hBb⟩
 have H6b:=zy (H6a.out.trans (hBb.mono H6a.out.size))
 have H9b:=zy (H9a.out.trans (hBb.mono H9a.out.size))
 have HBb:=zy (HBa.out.trans (hBb.mono HBa.out.size))
 have HFo2:=zy (HFo.out A9 c9 wb HBb.out (HR9.out wb H9b.out))
 clear hBb HS2 H6a H9a HFo
 go_wp2_with fail
 refine HFo2.out.mono ?_
 rintro e wc ⟨Vc,rfl,hOc,hBc⟩
 obtain ⟨Ac,cc,rfl,hRc⟩:=hOc.rd
 have H6c:=zy (H6b.out.trans (hBc.mono H6b.out.size))
 have HBc:=zy (HBb.out.trans (hBc.mono HBb.out.size))
 have HS3:=zy (HSm.out Ac (some ⟨b5,o5,none⟩) cc c5 wc hRc (HX6.out wc H6c.out))
 clear hOc hBc hRc HFo2 H6b
 go_wp2_with fail
 refine HS3.out.mono ?_
 rintro e wd ⟨rfl,hBd⟩
 have Rd:=zy (KB.out _ (HBc.out.trans (hBd.mono HBc.out.size)))
 clear hBd
 go_wp2
 go_ret
 exact ⟨by first|rfl|simp,Rd.out.2⟩
end Go.Proofs.YtmalmijdjhkklaaGreat