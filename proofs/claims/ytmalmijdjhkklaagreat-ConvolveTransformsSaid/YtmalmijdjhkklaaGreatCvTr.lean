/- The law ConvolveTransforms. -/
import Derived.Test.YtmalmijdjhkklaaGreatWPlUToCvG
import Derived.Test.YtmalmijdjhkklaaGreatWRef06ToMs21
import Derived.Test.YtmalmijdjhkklaaGreatWOpenOpenU
set_option linter.unusedVariables false
set_option linter.unusedSimpArgs false
set_option linter.unusedSectionVars false
namespace Go.Proofs.YtmalmijdjhkklaaGreat
open Go.RowKit
open Alg
theorem zFZ {p:Nat} [NeZero p] {g:Int} (hp:Prime p) (hg:Ord (zt p g) (p-1)) {L M:List Int} (hlm:L.length=M.length) (hck:chk p L.length 1024=0):
  lst L.length (tr (zt p g) L.length false (rz p (lst L.length (rnd p L M))))=lst L.length (fun i=>tr (zt p g) L.length false (rz p L) i*tr (zt p g) L.length false (rz p M) i):=by
 obtain ⟨hd,h0⟩:=zEl (by have:=hp.1;omega) hck
 have hw:pw (rt (zt p g) L.length false) L.length=1:=(zSz hg hd h0 false).2.1
 have h1: ∀C m,tr (zt p g) L.length false C m=dft (rt (zt p g) L.length false) L.length C m:=fun C m=>by show (1:Fin p)*_=_;grind
 refine zKW fun i hi=>?_
 rw [zVn,h1,h1,h1,dft_congr (fun j hj=>zRY L M hlm hj) i,zF3 hw]
set_option maxHeartbeats 16000000 in
set_option maxRecDepth 100000 in
theorem zCp (w:World) (A0:Option Addr) (c0:Nat) (kind0 kk0 pp0:Int) (es0:List Ent) (A1:Option Addr) (c1:Nat) (L1:List Int) (A2:Option Addr) (c2:Nat) (L2:List Int) (hs0:SrcA w A0 c0 kind0 kk0 pp0 es0) (hl1:LstA w A1 c1 L1) (hl2:LstA w A2 c2 L2):
  Calls Tryz.prog 9 #[.agg #[.int .i64 kind0, .int .i64 kk0, .int .u64 pp0, .slice A0 es0.length c0], .slice A1 L1.length c1, .slice A2 L2.length c2] w fun e w'=>e= .returned (.bool true)∧Below w.heap.size w w':=by
 have R0:Hid (zAI (w.alloc (.cells #[.int .i64 kind0, .int .i64 kk0, .int .u64 pp0, .slice A0 es0.length c0] 25)) w.heap.size 25 #[.int .i64 kind0, .int .i64 kk0, .int .u64 pp0, .slice A0 es0.length c0]∧Below w.heap.size w (w.alloc (.cells #[.int .i64 kind0, .int .i64 kk0, .int .u64 pp0, .slice A0 es0.length c0] 25))):=Lib.hid (lay1 w 25 #[.int .i64 kind0, .int .i64 kk0, .int .u64 pp0, .slice A0 es0.length c0])
 have HS:=Lib.hid hs0
 have HL1:=Lib.hid hl1
 have hLl1:=hl1.hl
 have HU1:=Lib.hid hl1.hU
 have HL2:=Lib.hid hl2
 have hLl2:=hl2.hl
 have HU2:=Lib.hid hl2.hU
 have KP:Hid (∀W W',(zAI W w.heap.size 25 #[.int .i64 kind0, .int .i64 kk0, .int .u64 pp0, .slice A0 es0.length c0]∧Below w.heap.size w W)→Below W.heap.size W W'→(zAI W' w.heap.size 25 #[.int .i64 kind0, .int .i64 kk0, .int .u64 pp0, .slice A0 es0.length c0]∧Below w.heap.size w W')):=Lib.hid (fun W W' h hB=>⟨h.1.keep hB,h.2.trans (hB.mono h.2.size)⟩)
 clear hs0 hl1 hl2
 go_enter Tryz.func9,Tryz.ntmps9
 go_wp2_with fail
 generalize (w.alloc (.cells #[.int .i64 kind0, .int .i64 kk0, .int .u64 pp0, .slice A0 es0.length c0] 25))=w1 at *
 refine (zBx w1).mono ?_
 rintro e w2 ⟨rfl,hB2⟩
 have R2:=Lib.hid (KP.out _ _ R0.out hB2)
 clear hB2 R0
 go_wp2_with (refine wpList_load_row rfl _ _ rfl _ rfl _ _ _ _ (R2.out.1) Tryz.underlying25 rfl (by exact zTA) ?_)
 refine (zLp (HS.out.below R2.out.2)).mono ?_
 rintro e w3 ⟨v,p,g,rfl,hM,hB3⟩
 have R3:=Lib.hid (KP.out _ _ R2.out hB3)
 have HM:=Lib.hid hM
 clear hB3 R2 hM HS
 rcases HM.out with ⟨rfl,rfl,rfl⟩|⟨p3,hC,hF⟩
 ·clear HM
  go_wp2
  go_ret
  exact ⟨by first|rfl|simp,R3.out.2⟩
 obtain ⟨q,rfl⟩:=Int.eq_ofNat_of_zero_le (show 0≤p by omega)
 have pm:=hF.pmx
 haveI:NeZero q:=⟨by omega⟩
 obtain ⟨hp,hord⟩:=hC.nat
 have hg:=hC.gr
 have tp:((q:Int) == 0)=false:=by simp;omega
 have HPM:=Lib.hid (And.intro p3 pm)
 have HPr:=Lib.hid (And.intro hp (And.intro hord hg))
 have HFd:=Lib.hid hF
 clear HM hC hF hp hord hg p3 pm
 by_cases h36:36<L1.length
 ·have t1:decide ((L1.length:Int)>36)=true:=decide_eq_true (by omega)
  have t1b:decide (36<L1.length)=true:=decide_eq_true h36
  clear h36
  go_wp2
  go_ret
  exact ⟨by first|rfl|simp,R3.out.2⟩
 have t1:decide ((L1.length:Int)>36)=false:=decide_eq_false (by omega)
 have t1b:decide (36<L1.length)=false:=decide_eq_false h36
 have HR1:Hid (∀W,Below w3.heap.size w3 W→RdI W W.heap.size .u64 A1 L1):=Lib.hid (fun W hW=>(HL1.out.below (R3.out.2.trans (hW.mono R3.out.2.size))).hR)
 have HR2:Hid (∀W,Below w3.heap.size w3 W→RdI W W.heap.size .u64 A2 L2):=Lib.hid (fun W hW=>(HL2.out.below (R3.out.2.trans (hW.mono R3.out.2.size))).hR)
 have HFq:Hid (∀W,Below w3.heap.size w3 W→Fd W W.heap.size v (q:Int) g):=Lib.hid (fun W hW=>(HFd.out.below hW).mono hW.size)
 have HRo:=Lib.hid (zDU A1 A2 c1 c2 q (-1) HPM.out.1 HPM.out.2 L1 L2 w3 hLl1 hLl2 (HR1.out w3 (Below.refl _ _)) (HR2.out w3 (Below.refl _ _)))
 by_cases hrf:rndf q (-1) L1 L2=0
 case neg=>
  obtain ⟨z,hz⟩: ∃z,z=rndf q (-1) L1 L2:=⟨_,rfl⟩
  rw [←hz] at HRo hrf
  have t2:(z != 0)=true:=by simpa using hrf
  clear hz hrf h36
  go_wp2_with fail
  refine HRo.out.mono ?_
  rintro e w4 ⟨rfl,hB4⟩
  have R4:=Lib.hid (KP.out _ _ R3.out hB4)
  clear hB4
  go_wp2
  go_ret
  exact ⟨by first|rfl|simp,R4.out.2⟩
 rw [hrf] at HRo
 obtain ⟨hlm,hce,hgL,hgM⟩:=zRZ hrf
 obtain ⟨hf0,hN,hA0,hA1⟩:=zDI hce
 have hck:chk q L1.length 1024=0:=by have:=zHg hf0;rw [hN] at this;exact this
 have hrg:=zEo hck
 have hK:=zDd (zHf hf0)
 obtain ⟨pq,rfl⟩: ∃pq,v= .pointer pq:=by
  obtain ⟨b,_,_,_,_,_,e,_⟩:=HFd.out
  exact ⟨_,e⟩
 have HCh:Hid (∀W,Below w3.heap.size w3 W→Calls Tryz.prog 25 #[.pointer pq, .int .i64 L1.length, .int .i64 (-1)] W fun e w'=>e= .returned (.tuple #[.agg (zD7 (chP q L1.length (-1))), .int .i64 (chE q L1.length (-1))])∧Below W.heap.size W w'):=Lib.hid (fun W hW=>
  zEr (HFq.out W hW) (L1.length:Int) (-1) (by omega) (by omega))
 rw [hce] at HCh
 obtain ⟨⟨K,N,A⟩,hx⟩: ∃x,x=chP q L1.length (-1):=⟨_,rfl⟩
 rw [←hx] at hf0 hN hA0 hA1 hK HCh
 have hN':N=(L1.length:Int):=hN
 replace hK:0≤K∧K≤6:=hK
 replace hA0:0≤A:=hA0
 replace hA1:A≤4096:=hA1
 subst hN'
 have HCy:Hid (∀W,Below w3.heap.size w3 W→Calls Tryz.prog 37 #[.pointer pq, .pointer none, .slice A1 L1.length c1, .slice A2 L2.length c2, .int .i64 (-1)] W fun e w'=> ∃V,e= .returned (.tuple #[V, .int .i64 0])∧OwnU w' W.heap.size V L1.length (lst L1.length (rnd q L1 L2))∧Below W.heap.size W w'):=Lib.hid (fun W hW=>
  (zBb HPr.out.1 HPr.out.2.1 (by have:=HPr.out.2.2;omega) HPr.out.2.2.2 W.heap.size (Nat.le_refl _) (HFq.out W hW) A1 A2 c1 c2 L1 L2 (-1) HU1.out HU2.out (HR1.out W hW) (HR2.out W hW) hrf (.pointer none) _ zCu (zBE L1.length (-1) (by omega) _) ⟨HFq.out W hW,Nat.le_refl _⟩).mono
   fun e w' ⟨V,he,ho,hb,_⟩=>⟨V,he,ho,hb⟩)
 have HRun:Hid (∀(X:List Int) (AX:Option Addr) (cX:Nat) W,X.length=L1.length→zI1 q X=true→U64s X→Below w3.heap.size w3 W→RdI W W.heap.size .u64 AX X→
   Calls Tryz.prog 27 #[.pointer pq, .agg #[.int .i64 K, .int .i64 L1.length, .int .i64 A], .slice AX L1.length cX, .bool false] W fun e w'=> ∃V,e= .returned (.tuple #[V, .int .i64 0])∧OwnU w' W.heap.size V L1.length (lst L1.length (tr (zt q g) L1.length false (rz q X)))∧Below W.heap.size W w'):=Lib.hid (fun X AX cX W hl hgX hUX hW hRX=>by
  have he:errP q K L1.length A X=0:=by unfold errP zI4;rw [if_neg (by omega),if_neg (by simp [hf0]),if_neg (by simp [hgX])]
  have h1:=zPr HPr.out.1 HPr.out.2.1 (by have:=HPr.out.2.2;omega) HPr.out.2.2.2 (HFq.out W hW) AX cX X false hUX hRX K L1.length A (by omega) (by omega) (by omega) (by omega) (by omega) (by omega) (by omega)
  rw [he,hl] at h1
  refine h1.mono ?_
  rintro e w' ⟨V,he',hQ,hb⟩
  rcases hQ with ⟨_,ho⟩|⟨hne,_⟩
  ·rw [hl] at ho;exact ⟨V,he',ho,hb⟩
  ·exact absurd rfl hne)
 have HA1:=Lib.hid (fun W hW=>HRun.out L1 A1 c1 W rfl hgL HU1.out hW (HR1.out W hW))
 have HA2:=Lib.hid (fun W hW=>HRun.out L2 A2 c2 W hlm.symm hgM HU2.out hW (HR2.out W hW))
 have HA3:=Lib.hid (fun AX cX W hW hX=>HRun.out (lst L1.length (rnd q L1 L2)) AX cX W (zLb _ _) (zKZ _ _) (zLd HPM.out.2 _ _) hW hX)
 rw [zFZ HPr.out.1 HPr.out.2.1 hlm hck] at HA3
 obtain ⟨n,hn⟩: ∃n,n=L1.length:=⟨_,rfl⟩
 have hm:L2.length=n:=by omega
 obtain ⟨X,hX⟩: ∃X,X=tr (zt q g) n false (rz q L1):=⟨_,rfl⟩
 obtain ⟨Y,hY⟩: ∃Y,Y=tr (zt q g) n false (rz q L2):=⟨_,rfl⟩
 obtain ⟨C,hC⟩: ∃C,C=lst n (rnd q L1 L2):=⟨_,rfl⟩
 rw [←hn] at HRo HCh HCy HA1 HA2 HA3 t1 t1b h36 hLl1 hck ⊢
 rw [hm] at HRo HCy hLl2 ⊢
 rw [←hX] at HA1 HA3
 rw [←hY] at HA2 HA3
 rw [←hC] at HCy HA3
 have HGd:Hid (∀(AX:Option Addr) (cX:Nat) W,RdI W W.heap.size .u64 AX (lst n fun i=>X i*Y i)→Calls Tryz.prog 29 #[.int .u64 (q:Int), .slice AX n cX] W fun e w'=>e= .returned (.bool true)∧W=w'):=Lib.hid (fun AX cX W hX=>by
  have h1:=zP9 AX cX W.heap.size (q:Int) (lst n fun i=>X i*Y i) W (by rw [zLb];exact hLl1) hX
  rw [zLb,zKZ] at h1
  exact h1)
 have HMu:Hid (∀(i:Nat) W,Below w3.heap.size w3 W→Calls Tryz.prog 38 #[.pointer pq, .int .u64 ((X i).val:Int), .int .u64 ((Y i).val:Int)] W fun e w'=>e= .returned (.int .u64 ((X i*Y i).val:Int))∧ ∃k,w'=W.drewN k):=Lib.hid (fun i W hW=>by
  have:=(X i).isLt
  have:=(Y i).isLt
  have:=HPM.out.2
  have h1:=zHw (HFq.out W hW) ((X i).val:Int) ((Y i).val:Int) (by omega) (by omega) (by omega) (by omega)
  rw [zGv,zt_of_val,zt_of_val] at h1
  exact h1)
 have hn0:0<n:=by omega
 clear HRun hf0 hN hA0 hA1 hK hce hx hck hrg hlm hgL hgM hn hm hX hY hC hrf HFd
 go_wp2_with fail
 refine HRo.out.mono ?_
 rintro e w4 ⟨rfl,hB4⟩
 have R4:=Lib.hid (KP.out _ _ R3.out hB4)
 have HB4:=Lib.hid hB4
 clear hB4 R3 HRo
 go_wp2_with fail
 refine (HCh.out w4 HB4.out).mono ?_
 rintro e w5 ⟨rfl,hB5⟩
 simp only [zD7]
 have R5:=Lib.hid (KP.out _ _ R4.out hB5)
 have HB5:=Lib.hid (HB4.out.trans (hB5.mono HB4.out.size))
 clear hB5 R4 HB4 HCh
 have L5:=Lib.hid (lay1 w5 36 #[.int .i64 0, .int .i64 0, .int .i64 0])
 have hBs:=below_setRow L5.out.2 (Nat.le_refl _) #[.int .i64 K, .int .i64 n, .int .i64 A]
 have P6:=Lib.hid (And.intro (KP.out _ _ R5.out hBs).1 (And.intro (KP.out _ _ R5.out hBs).2 (L5.out.1.setRow #[.int .i64 K, .int .i64 n, .int .i64 A])))
 have HB6:=Lib.hid (HB5.out.trans (hBs.mono HB5.out.size))
 clear hBs R5 HB5 KP
 go_wp2_with (refine wpList_store_row rfl _ _ _ rfl _ _ rfl rfl _ _ (L5.out.1) (by exact zT5) rfl (zOs _ _ _) ?_)
 obtain ⟨G,hG⟩: ∃G,G=w5.heap.size:=⟨_,rfl⟩
 obtain ⟨w6,hw6⟩: ∃w6,w6=(w5.alloc (.cells #[.int .i64 0, .int .i64 0, .int .i64 0] 36)).setRow w5.heap.size #[.int .i64 K, .int .i64 n, .int .i64 A]:=⟨_,rfl⟩
 rw [←hw6] at P6 HB6 ⊢
 rw [←hG] at P6 ⊢
 have KP:Hid (∀W W',(zAI W w.heap.size 25 #[.int .i64 kind0, .int .i64 kk0, .int .u64 pp0, .slice A0 es0.length c0]∧Below w.heap.size w W∧zAI W G 36 #[.int .i64 K, .int .i64 n, .int .i64 A])→Below W.heap.size W W'→(zAI W' w.heap.size 25 #[.int .i64 kind0, .int .i64 kk0, .int .u64 pp0, .slice A0 es0.length c0]∧Below w.heap.size w W'∧zAI W' G 36 #[.int .i64 K, .int .i64 n, .int .i64 A])):=Lib.hid (fun W W' h hB=>⟨h.1.keep hB,h.2.1.trans (hB.mono h.2.1.size),h.2.2.keep hB⟩)
 clear hw6 hG L5
 refine (HCy.out w6 HB6.out).mono ?_
 rintro e w7 ⟨V7,rfl,hO7,hB7⟩
 obtain ⟨A7,c7,rfl,hR7⟩:=hO7.rd
 have P7:=Lib.hid (KP.out _ _ P6.out hB7)
 have HB7:=Lib.hid (HB6.out.trans (hB7.mono HB6.out.size))
 have HC7:Hid (∀W,Below w7.heap.size w7 W→RdI W W.heap.size .u64 A7 C):=Lib.hid (fun W hW=>(hR7.below hW).mono hW.size)
 clear hO7 hB7 hR7 P6 HB6 HCy
 go_wp2_with (refine wpList_load_row rfl _ _ rfl _ rfl _ _ _ _ (P7.out.2.2) Tryz.underlying36 rfl (by exact zT5) ?_)
 refine (HA1.out w7 HB7.out).mono ?_
 rintro e w8 ⟨V8,rfl,hO8,hB8⟩
 obtain ⟨A8,c8,rfl,hR8⟩:=hO8.rd
 have P8:=Lib.hid (KP.out _ _ P7.out hB8)
 have HB8:=Lib.hid (HB7.out.trans (hB8.mono HB7.out.size))
 have H78:=Lib.hid hB8
 have HR8:=Lib.hid hR8
 clear hO8 hB8 hR8 P7 HB7 HA1
 go_wp2_with (refine wpList_load_row rfl _ _ rfl _ rfl _ _ _ _ (P8.out.2.2) Tryz.underlying36 rfl (by exact zT5) ?_)
 refine (HA2.out w8 HB8.out).mono ?_
 rintro e w9 ⟨V9,rfl,hO9,hB9⟩
 obtain ⟨A9,c9,rfl,hR9⟩:=hO9.rd
 have P9:=Lib.hid (KP.out _ _ P8.out hB9)
 have HB9:=Lib.hid (HB8.out.trans (hB9.mono HB8.out.size))
 have H79:=Lib.hid (H78.out.trans (hB9.mono H78.out.size))
 have HX9:=Lib.hid ((HR8.out.below hB9).mono hB9.size)
 have HY9:=Lib.hid hR9
 clear hO9 hB9 hR9 P8 HB8 HA2 HR8
 have HC9:=Lib.hid (HC7.out w9 H79.out)
 go_wp2_with (refine wpList_load_row rfl _ _ rfl _ rfl _ _ _ _ (P9.out.2.2) Tryz.underlying36 rfl (by exact zT5) ?_)
 refine (HA3.out A7 c7 w9 HB9.out HC9.out).mono ?_
 rintro e wa ⟨Va,rfl,hOa,hBa⟩
 obtain ⟨Aa,ca,rfl,hRa⟩:=hOa.rd
 have Pa:=Lib.hid (KP.out _ _ P9.out hBa)
 have HBa:=Lib.hid (HB9.out.trans (hBa.mono HB9.out.size))
 have hXa:=(HX9.out.below hBa).mono hBa.size
 have hYa:=(HY9.out.below hBa).mono hBa.size
 have HGa:=Lib.hid (fun W (hW:Below wa.heap.size wa W)=>HGd.out Aa ca W ((hRa.below hW).mono hW.size))
 obtain ⟨bx,ox,rfl,hbx,hcx⟩:=hXa (by rw [zLb];exact hn0)
 obtain ⟨b_,oy,rfl,hby,hcy⟩:=hYa (by rw [zLb];exact hn0)
 obtain ⟨bz,oz,rfl,hbz,hcz⟩:=hRa (by rw [zLb];exact hn0)
 rw [zLb] at hcx hcy hcz
 have HXc:Hid (∀i,i<n→wa.cell? ⟨bx,ox+i,none⟩=some (.int .u64 ((X i).val:Int))):=Lib.hid (fun i hi=>by rw [hcx i hi,zKY hi])
 have HYc:Hid (∀i,i<n→wa.cell? ⟨b_,oy+i,none⟩=some (.int .u64 ((Y i).val:Int))):=Lib.hid (fun i hi=>by rw [hcy i hi,zKY hi])
 have HZc:Hid (∀i,i<n→wa.cell? ⟨bz,oz+i,none⟩=some (.int .u64 ((X i*Y i).val:Int))):=Lib.hid (fun i hi=>by rw [hcz i hi,zKY hi])
 have tn:((n:Int) != (n:Int))=false:=by simp
 clear hOa hBa hRa hXa hYa hcx hcy hcz P9 HB9 HA3 HX9 HY9 HC9 HC7 H79 H78 HGd HR1 HR2
 go_wp2_with fail
 go_loopw [111] (fun I wr=> ∃i:Nat,I= .int .i64 i∧i≤n∧Hid (Below wa.heap.size wa wr)) (fun I _=>n-(intOf I).toNat)
 case atStart=>exact ⟨0,rfl,by omega,Lib.hid (Below.refl _ _)⟩
 case round=>
  obtain ⟨i,rfl,hin,hBr⟩:=hrel
  by_cases hlt:i<n
  ·have c0:=zDs hBr.out hbx (HXc.out i hlt)
   have c1':=zDs hBr.out hby (HYc.out i hlt)
   have c2':=zDs hBr.out hbz (HZc.out i hlt)
   have HMi:Hid (∀k,Calls Tryz.prog 38 #[.pointer pq, .int .u64 ((X i).val:Int), .int .u64 ((Y i).val:Int)] (wr.drewN k) fun e w'=>e= .returned (.int .u64 ((X i*Y i).val:Int))∧ ∃j,w'=(wr.drewN k).drewN j):=Lib.hid (fun k=>HMu.out i _ (below_drewN (HBa.out.trans (hBr.out.mono HBa.out.size)) k))
   obtain ⟨xi,hxi⟩: ∃xi,xi=((X i).val:Int):=⟨_,rfl⟩
   obtain ⟨yi,hyi⟩: ∃yi,yi=((Y i).val:Int):=⟨_,rfl⟩
   obtain ⟨zi,hzi⟩: ∃zi,zi=((X i*Y i).val:Int):=⟨_,rfl⟩
   rw [←hxi] at c0 HMi
   rw [←hyi] at c1' HMi
   rw [←hzi] at c2' HMi
   have tz:(zi != zi)=false:=by simp
   have i1:(0:Int)≤(i:Int):=by omega
   have i2:(i:Int)<(n:Int):=by omega
   have ti:decide ((i:Int)<(n:Int))=true:=decide_eq_true (by omega)
   clear hxi hyi hzi
   go_upto_region 16 with fail
   go_quiet ((go_at_call 38;exact Calls.quiet_of (HMi.out _)))
   go_wp2
   go_roundw
   case rel=>exact ⟨i+1,by go_num,by omega,Lib.hid (below_drewN hBr.out _)⟩
   case measure=>simp [intOf];omega
  ·have ti:decide ((i:Int)<(n:Int))=false:=decide_eq_false (by omega)
   have Pb:=Lib.hid (KP.out _ _ Pa.out hBr.out)
   clear hin
   go_wp2_with fail
   refine (HGa.out _ hBr.out).mono ?_
   rintro e wb ⟨rfl,rfl⟩
   go_wp2
   go_ret
   exact ⟨by first|rfl|simp,Pb.out.2.1⟩
end Go.Proofs.YtmalmijdjhkklaaGreat