/- The law ConvolveFolds. -/
import Derived.Test.YtmalmijdjhkklaaGreatWPlUToCvG
import Derived.Test.YtmalmijdjhkklaaGreatWRef06ToMs21
import Derived.Test.YtmalmijdjhkklaaGreatWLinToLinN
import Derived.Test.YtmalmijdjhkklaaGreatWOpenOpenU
set_option linter.unusedVariables false
set_option linter.unusedSimpArgs false
set_option linter.unusedSectionVars false
namespace Go.Proofs.YtmalmijdjhkklaaGreat
open Go.RowKit
open Alg
set_option maxHeartbeats 16000000 in
set_option maxRecDepth 100000 in
theorem zCl (w:World) (A0:Option Addr) (c0:Nat) (kind0 kk0 pp0:Int) (es0:List Ent) (A1:Option Addr) (c1:Nat) (L1:List Int) (x2:Int) (hs0:SrcA w A0 c0 kind0 kk0 pp0 es0) (hl1:LstA w A1 c1 L1) (h02: -9223372036854775808≤x2) (h12:x2≤9223372036854775807):
  Calls Tryz.prog 10 #[.agg #[.int .i64 kind0, .int .i64 kk0, .int .u64 pp0, .slice A0 es0.length c0], .slice A1 L1.length c1, .int .i64 x2] w fun e w'=>e= .returned (.bool true)∧Below w.heap.size w w':=by
 have R0:Hid (zAI (w.alloc (.cells #[.int .i64 kind0, .int .i64 kk0, .int .u64 pp0, .slice A0 es0.length c0] 25)) w.heap.size 25 #[.int .i64 kind0, .int .i64 kk0, .int .u64 pp0, .slice A0 es0.length c0]∧Below w.heap.size w (w.alloc (.cells #[.int .i64 kind0, .int .i64 kk0, .int .u64 pp0, .slice A0 es0.length c0] 25))):=Lib.hid (lay1 w 25 #[.int .i64 kind0, .int .i64 kk0, .int .u64 pp0, .slice A0 es0.length c0])
 have HS:=Lib.hid hs0
 have HL1:=Lib.hid hl1
 have hLl1:=hl1.hl
 have HU1:=Lib.hid hl1.hU
 have KP:Hid (∀W W',(zAI W w.heap.size 25 #[.int .i64 kind0, .int .i64 kk0, .int .u64 pp0, .slice A0 es0.length c0]∧Below w.heap.size w W)→Below W.heap.size W W'→(zAI W' w.heap.size 25 #[.int .i64 kind0, .int .i64 kk0, .int .u64 pp0, .slice A0 es0.length c0]∧Below w.heap.size w W')):=Lib.hid (fun W W' h hB=>⟨h.1.keep hB,h.2.trans (hB.mono h.2.size)⟩)
 clear hs0 hl1
 obtain ⟨i0,hi,hz0,hz1,hz2⟩:=info_parts zJt
 go_enter Tryz.func10,Tryz.ntmps10
 go_wp2_with fail
 generalize (w.alloc (.cells #[.int .i64 kind0, .int .i64 kk0, .int .u64 pp0, .slice A0 es0.length c0] 25))=w1 at *
 refine (zBx w1).mono ?_
 rintro e w2 ⟨rfl,hB2⟩
 have R2:=Lib.hid (KP.out _ _ R0.out hB2)
 clear hB2 R0
 by_cases hl:300<L1.length
 ·have t1:decide ((L1.length:Int)>300)=true:=decide_eq_true (by omega)
  have t1b:decide (300<L1.length)=true:=decide_eq_true hl
  clear hl
  go_wp2
  go_ret
  exact ⟨by first|rfl|simp,R2.out.2⟩
 have t1:decide ((L1.length:Int)>300)=false:=decide_eq_false (by omega)
 have t1b:decide (300<L1.length)=false:=decide_eq_false hl
 have hl':L1.length≤300:=by omega
 clear hl
 go_wp2_with (refine wpList_load_row rfl _ _ rfl _ rfl _ _ _ _ (R2.out.1) Tryz.underlying25 rfl (by exact zTA) ?_)
 refine (zLp (HS.out.below R2.out.2)).mono ?_
 rintro e w3 ⟨v,p,g,rfl,hM,hB3⟩
 have R3:=Lib.hid (KP.out _ _ R2.out hB3)
 have HM:=Lib.hid hM
 clear hB3 R2 hM HS
 have HLR:Hid (∀W,Below w3.heap.size w3 W→RdI W W.heap.size .u64 A1 L1):=Lib.hid (fun W hW=>(HL1.out.below (R3.out.2.trans (hW.mono R3.out.2.size))).hR)
 by_cases hx:x2<1∨1024<x2
 ·have HN:=Lib.hid (zH3 v (.slice A1 L1.length c1) x2 w3 hx)
  go_wp2_with fail
  refine HN.out.mono ?_
  rintro e w4 ⟨rfl,rfl⟩
  clear HM HLR
  rcases hx with h|h
  ·have t2:decide (x2<1)=true:=decide_eq_true h
   clear h
   go_wp2
   go_ret
   exact ⟨by first|rfl|simp,R3.out.2⟩
  ·have t2:decide (x2<1)=false:=decide_eq_false (by omega)
   have t3:decide (x2>1024)=true:=decide_eq_true (by omega)
   have t3b:decide (1024<x2)=true:=decide_eq_true (by omega)
   clear h
   go_wp2
   go_ret
   exact ⟨by first|rfl|simp,R3.out.2⟩
 obtain ⟨n,rfl⟩:=Int.eq_ofNat_of_zero_le (show 0≤x2 by omega)
 have t2:decide ((n:Int)<1)=false:=decide_eq_false (by omega)
 have t3:decide ((n:Int)>1024)=false:=decide_eq_false (by omega)
 have hn0:0<n:=by omega
 have hn1:n≤1024:=by omega
 clear hx
 rcases HM.out with ⟨rfl,rfl,rfl⟩|⟨p3,hC,hF⟩
 ·clear HM
  have HN:=Lib.hid (zH2 A1 c1 L1 n hn0 hn1 hLl1 (HLR.out w3 (Below.refl _ _)))
  go_wp2_with fail
  refine HN.out.mono ?_
  rintro e w4 ⟨V4,rfl,hO4,hB4⟩
  have R4:=Lib.hid (KP.out _ _ R3.out hB4)
  have HLR4:=Lib.hid (HLR.out w4 hB4)
  have HO4:=Lib.hid hO4
  clear hB4 hO4 HN HLR
  go_wp2_with (at_make;refine wpList_make_full _ rfl _ _ 54 rfl w4.heap.size 22 i0 (.int .u64 0) 1 Tryz.underlying54 hi hz0 hz1 _ _ _ _ n rfl rfl ?l1 ?l2 ?b2 ?b3 (Nat.le_refl _) ?_)
  case l1=>omega
  case l2=>omega
  case b2=>rw [hz2];omega
  case b3=>unfold maxLen;omega
  intro w8 hown hgrow
  have hown0:OwnU w8 w4.heap.size (.slice (some ⟨w4.heap.size,0,none⟩) n n) n (List.replicate n 0):=by
   unfold OwnU
   rw [zJC,←toList_madeCells_one];exact hown
  have hB8:Below w4.heap.size w4 w8:=(Below.refl _ _).grown hgrow (Nat.le_refl _) (fun k h=>by cases h)
  have HO8:=Lib.hid hown0
  have HB8:=Lib.hid hB8
  clear hown hgrow hown0 hB8
  have HcA:Hid (∀i,i<L1.length→ ∃b o,A1=some ⟨b,o,none⟩∧b<w4.heap.size∧w4.cell? ⟨b,o+i,none⟩=some (.int .u64 (L1.getD i 0))):=Lib.hid fun i hi=>by
   obtain ⟨b,o,h1,h2,h3⟩:=HLR4.out (by omega)
   exact ⟨b,o,h1,h2,h3 i hi⟩
  clear HLR4
  go_wp2_with fail
  go_loopw [42] (fun I wr=> ∃i:Nat,I= .int .i64 i∧i≤L1.length∧wr=w8) (fun I _=>L1.length-(intOf I).toNat)
  case atStart=>exact ⟨0,rfl,by omega,by first|rfl|trivial⟩
  case round=>
   obtain ⟨i,rfl,hin,rfl⟩:=hrel
   by_cases hlt:i<L1.length
   ·obtain ⟨b,o,rfl,hb,hc⟩:=HcA.out i hlt
    have c0:=zDs HB8.out hb hc
    obtain ⟨y,hy⟩: ∃y,y=L1.getD i 0:=⟨_,rfl⟩
    rw [←hy] at c0
    have i1:(0:Int)≤(i:Int):=by omega
    have i2:(i:Int)<(L1.length:Int):=by omega
    clear hy hc
    go_wp2
    go_roundw
    case rel=>exact ⟨i+1,by go_num,by omega,by first|rfl|trivial⟩
    case measure=>simp [intOf];omega
   ·have ti:decide ((i:Int)<(L1.length:Int))=false:=decide_eq_false (by omega)
    obtain ⟨A4,c4,rfl,hR4⟩:=HO4.out.rd
    obtain ⟨A8,c8,h8,hR8⟩:=HO8.out.rd
    obtain ⟨rfl,rfl⟩:A8=some ⟨w4.heap.size,0,none⟩∧n=c8:=by injection h8 with a b c;exact ⟨a.symm,c⟩
    have HSm:Hid (Calls Tryz.prog 35 #[.slice A4 n c4, .slice (some ⟨w4.heap.size,0,none⟩) n n] wr fun e w'=>e= .returned (.bool true)∧Below wr.heap.size wr w'):=Lib.hid (by
     have h1:=zSV A4 (some ⟨w4.heap.size,0,none⟩) c4 n wr.heap.size (List.replicate n 0) (List.replicate n 0) wr (by simp;omega) (by simp;omega) ((hR4.below HB8.out).mono HB8.out.size) hR8
     rw [List.length_replicate,show decide (List.replicate n (0:Int)=List.replicate n 0)=true by simp] at h1
     exact h1)
    have R8:=Lib.hid (KP.out _ _ R4.out HB8.out)
    clear hin hR4 hR8 h8
    go_wp2_with fail
    refine HSm.out.mono ?_
    rintro e w9 ⟨rfl,hB9⟩
    have R9:=Lib.hid (KP.out _ _ R8.out hB9)
    clear hB9
    go_wp2
    go_ret
    exact ⟨by first|rfl|simp,R9.out.2⟩
 obtain ⟨q,rfl⟩:=Int.eq_ofNat_of_zero_le (show 0≤p by omega)
 have pm:=hF.pmx
 haveI:NeZero q:=⟨by omega⟩
 obtain ⟨hp,hord⟩:=hC.nat
 have hg:=hC.gr
 have tp:((q:Int) == 0)=false:=by simp;omega
 have HPM:=Lib.hid (And.intro p3 pm)
 have HPr:=Lib.hid (And.intro hp (And.intro hord hg))
 have HFd:=Lib.hid hF
 clear HM hC hF hp hord hg p3 pm
 have HN:=Lib.hid (zH1 (HFd.out) A1 c1 L1 n hn0 hn1 hLl1 HU1.out (HLR.out w3 (Below.refl _ _)))
 have HUA:Hid (∀i,i<L1.length→0≤L1.getD i 0∧L1.getD i 0≤18446744073709551615):=Lib.hid fun i hi=>HU1.out.at hi
 have HX0:Hid (∀i,zt q (L1.getD i 0)=rz q L1 i):=Lib.hid fun i=>rfl
 obtain ⟨X,hX⟩: ∃X,X=rz q L1:=⟨_,rfl⟩
 rw [←hX] at HN HX0
 have HFs:Hid (∀i,(lst n (fld n X i)).set (i%n) ((fld n X i (i%n)+X i:Fin q).val:Int)=lst n (fld n X (i+1))):=Lib.hid (fun i=>zLe _ _ _ _)
 have HZ:=Lib.hid (zHu n X n)
 go_wp2_with fail
 refine HN.out.mono ?_
 rintro e w4 ⟨V4,rfl,hO4,hB4⟩
 have R4:=Lib.hid (KP.out _ _ R3.out hB4)
 have HLR4:=Lib.hid (HLR.out w4 hB4)
 have HO4:=Lib.hid hO4
 clear hB4 hO4 HN HLR hX HFd
 go_wp2_with (at_make;refine wpList_make_full _ rfl _ _ 54 rfl w4.heap.size 22 i0 (.int .u64 0) 1 Tryz.underlying54 hi hz0 hz1 _ _ _ _ n rfl rfl ?l1 ?l2 ?b2 ?b3 (Nat.le_refl _) ?_)
 case l1=>omega
 case l2=>omega
 case b2=>rw [hz2];omega
 case b3=>unfold maxLen;omega
 intro w8 hown hgrow
 have hown0:OwnU w8 w4.heap.size (.slice (some ⟨w4.heap.size,0,none⟩) n n) n (List.replicate n 0):=by
  unfold OwnU
  rw [zJC,←toList_madeCells_one];exact hown
 have hB8:Below w4.heap.size w4 w8:=(Below.refl _ _).grown hgrow (Nat.le_refl _) (fun k h=>by cases h)
 rw [←HZ.out] at hown0
 obtain ⟨G,hG⟩: ∃G,G=w4.heap.size:=⟨_,rfl⟩
 rw [←hG]
 have hGe:w4.heap.size≤G:=by omega
 rw [show (⟨w4.heap.size,0,none⟩:Addr)=⟨G,0,none⟩ by rw [hG]] at hown0
 have HG:=Lib.hid hG
 have HO8:=Lib.hid hown0
 have HB8:=Lib.hid hB8
 clear hown hgrow hown0 hB8 hG
 have HcA:Hid (∀i,i<L1.length→ ∃b o,A1=some ⟨b,o,none⟩∧b<w4.heap.size∧w4.cell? ⟨b,o+i,none⟩=some (.int .u64 (L1.getD i 0))):=Lib.hid fun i hi=>by
  obtain ⟨b,o,h1,h2,h3⟩:=HLR4.out (by omega)
  exact ⟨b,o,h1,h2,h3 i hi⟩
 have tp2:decide ((q:Int)>0)=true:=decide_eq_true (by have:=HPM.out.1;omega)
 have tp3:decide (0<q)=true:=decide_eq_true (by have:=HPM.out.1;omega)
 obtain ⟨a,ha⟩: ∃a,a=L1.length:=⟨_,rfl⟩
 rw [←ha] at HcA HUA hLl1 hl' t1 t1b HO4 ⊢
 clear HLR4 ha
 go_wp2_with fail
 go_loopw [42] (fun I wr=> ∃i:Nat,I= .int .i64 i∧i≤a∧Hid (OwnU wr w4.heap.size (.slice (some ⟨G,0,none⟩) n n) n (lst n (fld n X i)))∧Hid (Below w4.heap.size w4 wr)) (fun I _=>a-(intOf I).toNat)
 case atStart=>exact ⟨0,rfl,by omega,HO8,HB8⟩
 case round=>
  clear HO8 HB8
  obtain ⟨i,rfl,hin,hO,hBr⟩:=hrel
  by_cases hlt:i<a
  ·obtain ⟨b,o,rfl,hb,hc⟩:=HcA.out i hlt
   have c0:=zDs hBr.out hb hc
   have nSG:b≠G:=by have:=HG.out;omega
   have nSG':G≠b:=by omega
   have uy:=HUA.out i hlt
   have ey:=HX0.out i
   obtain ⟨y,hy⟩: ∃y,y=L1.getD i 0:=⟨_,rfl⟩
   rw [←hy] at c0 uy ey
   have hst:=HFs.out i
   have hmn:i%n<n:=Nat.mod_lt _ hn0
   have e1:(i:Int)%(n:Int)=((i%n:Nat):Int):=by omega
   have e2:(i:Int).tmod (n:Int)=((i%n:Nat):Int):=by rw [Int.tmod_eq_emod_of_nonneg (by omega)];exact e1
   obtain ⟨t,ht⟩: ∃t,t=i%n:=⟨_,rfl⟩
   rw [←ht] at hst hmn e1 e2
   obtain ⟨c2,f2,_⟩:=zN9 hO.out t hmn
   rw [zKY hmn] at c2
   obtain ⟨s,hs⟩: ∃s,s=fld n X i t:=⟨_,rfl⟩
   rw [←hs] at c2 hst
   have HAd:Hid (∀k,Calls Tryz.prog 40 #[.int .u64 (s.val:Int), .int .u64 y, .int .u64 q] (wr.drewN k) fun e w'=>e= .returned (.int .u64 ((s+X i).val:Int))∧ ∃j,w'=(wr.drewN k).drewN j):=Lib.hid (fun k=>by
    have hs2:=s.isLt
    have h3:=HPM.out
    have h1:=zQt (s.val:Int) y q (wr.drewN k) (by omega) (by omega) uy.1 uy.2 (by omega) (by omega)
    rw [zGt,zt_of_val,ey] at h1
    exact h1)
   obtain ⟨z0,hz0'⟩: ∃z0,z0=s+X i:=⟨_,rfl⟩
   rw [←hz0'] at HAd hst
   have HST:=Lib.hid hst
   have i1:(0:Int)≤((t:Nat):Int):=by omega
   have i2:((t:Nat):Int)<(n:Int):=by omega
   have i3:((t:Nat):Int)≤9223372036854775807:=by omega
   have n0: ¬(n:Int)=0:=by omega
   clear ht hs hy hst hc hz0' ey uy
   go_upto_region 14 with fail
   refine zWM 13 (by kernel_rfl) (by kernel_rfl) ?_
   simp only [List.take_succ_cons,List.take_zero,List.drop_succ_cons,List.drop_zero]
   repeat (go_big_quiet_step ((first|(go_at_call 40;exact Calls.quiet_of (HAd.out _)))))
   refine wpQuiet_nil ?_
   intro _ hw'
   obtain ⟨nq,hw''⟩:=hw'
   subst hw''
   have hO1:=((hO.out.drewN nq).set t hmn (z0.val:Int)).1
   rw [HST.out] at hO1
   have HO1:=Lib.hid hO1
   have HB1:Hid (Below w4.heap.size w4 ((wr.drewN nq).setCell ⟨G,t,none⟩ (.int .u64 (z0.val:Int)))):=Lib.hid ((below_drewN hBr.out nq).setCell hGe _)
   clear hO1 hO hBr
   go_wp2
   go_roundw
   case rel=>exact ⟨i+1,by go_num,by omega,HO1,HB1⟩
   case measure=>simp [intOf];omega
  ·have hie:i=a:=by omega
   have hO1:=hO.out
   rw [hie] at hO1
   obtain ⟨Z,hZ⟩: ∃Z,Z=lst n (fld n X a):=⟨_,rfl⟩
   have hZl:Z.length=n:=by rw [hZ];exact zLb _ _
   have hO4:=HO4.out
   rw [←hZ] at hO1 hO4
   have hZ2:Z.length≤140737488351232:=by rw [hZl];exact Nat.le_trans hn1 (by decide)
   clear hZ
   obtain ⟨A4,c4,rfl,hR4⟩:=hO4.rd
   obtain ⟨A8,c8,h8,hR8⟩:=hO1.rd
   obtain ⟨rfl,rfl⟩:A8=some ⟨G,0,none⟩∧n=c8:=by injection h8 with a b c;exact ⟨a.symm,c⟩
   have HSm:Hid (Calls Tryz.prog 35 #[.slice A4 n c4, .slice (some ⟨G,0,none⟩) n n] wr fun e w'=>e= .returned (.bool true)∧Below wr.heap.size wr w'):=Lib.hid (by
    have h1:=zSV A4 (some ⟨G,0,none⟩) c4 n wr.heap.size Z Z wr hZ2 hZ2 ((hR4.below hBr.out).mono hBr.out.size) hR8
    rw [hZl,show decide (Z=Z)=true by simp] at h1
    exact h1)
   have R8:=Lib.hid (KP.out _ _ R4.out hBr.out)
   have ti:decide ((i:Int)<(a:Int))=false:=decide_eq_false (by omega)
   clear hin hR4 hR8 h8 hZ2 hZl hO4 hO1 hO hBr hie HO4
   go_wp2_with fail
   refine HSm.out.mono ?_
   rintro e w9 ⟨rfl,hB9⟩
   have R9:=Lib.hid (KP.out _ _ R8.out hB9)
   clear hB9
   go_wp2
   go_ret
   exact ⟨by first|rfl|simp,R9.out.2⟩
end Go.Proofs.YtmalmijdjhkklaaGreat