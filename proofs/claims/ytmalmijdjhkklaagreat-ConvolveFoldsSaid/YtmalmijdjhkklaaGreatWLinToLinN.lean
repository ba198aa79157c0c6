/- convolve: good, times, Linear. -/
import Derived.Test.YtmalmijdjhkklaaGreatWR2UR2DDfR
import Derived.Test.YtmalmijdjhkklaaGreatWKnownToRaM
import Derived.Test.YtmalmijdjhkklaaGreatWP2ToMixM
import Derived.Test.YtmalmijdjhkklaaGreatApz
import Derived.Test.YtmalmijdjhkklaaGreatQTail
import Derived.Test.YtmalmijdjhkklaaGreatWContToSame21
set_option linter.unusedVariables false
set_option linter.unusedSimpArgs false
set_option linter.unusedSectionVars false
namespace Go.Proofs.YtmalmijdjhkklaaGreat
section
/- convolve: good, times, Linear. -/
open Go.RowKit
open Alg
theorem zDH {w:World} {v:Value} {p g:Int} (h:Fd w w.heap.size v p g) (A B:Option Addr) (c d:Nat) (L M:List Int) (hl:L.length≤140737488351232) (hm:M.length≤140737488351232) (hU:U64s L) (hU':U64s M) (hR:RdI w w.heap.size .u64 A L) (hS:RdI w w.heap.size .u64 B M):
  Calls Tryz.prog 78 #[v, .slice A L.length c, .slice B M.length d] w fun e w'=>e= .returned (.bool (zI1 p L && zI1 p M))∧w=w':=by
 have h1:=Lib.hid (zI6 h A c w.heap.size L hl hU hR)
 have h2:=Lib.hid (zI6 h B d w.heap.size M hm hU' hS)
 obtain ⟨a,ha⟩: ∃a,a=zI1 p L:=⟨_,rfl⟩
 obtain ⟨b,hb⟩: ∃b,b=zI1 p M:=⟨_,rfl⟩
 rw [←ha] at h1 ⊢
 rw [←hb] at h2 ⊢
 clear ha hb h hU hU' hR hS
 cases a
 ·go_enter Tryz.func78,Tryz.ntmps78
  go_wp2_with fail
  refine h1.out.mono ?_
  rintro e w1 ⟨rfl,rfl⟩
  go_wp2
  go_ret
  exact ⟨rfl,rfl⟩
 ·go_enter Tryz.func78,Tryz.ntmps78
  go_wp2_with fail
  refine h1.out.mono ?_
  rintro e w1 ⟨rfl,rfl⟩
  go_wp2_with fail
  refine h2.out.mono ?_
  rintro e w1 ⟨rfl,rfl⟩
  go_wp2
  go_ret
  exact ⟨by first|rfl|simp,rfl⟩
set_option maxHeartbeats 2000000 in
theorem zUU {p:Nat} [NeZero p] {w:World} {v:Value} {g:Int} (h:Fd w w.heap.size v p g) (N:Nat) (hN0:0<N) (hN:N≤4294967296) (A B:Option Addr) (c d:Nat) (X Y:Nat→Fin p) (hA:RdI w w.heap.size .u64 A (lst N X)) (hB:RdI w w.heap.size .u64 B (lst N Y)):
  Calls Tryz.prog 83 #[v, .slice A N c, .slice B N d] w fun r w'=> ∃V,r= .returned V∧OwnU w' w.heap.size V N (lst N fun j=>X j*Y j)∧Below w.heap.size w w':=by
 obtain ⟨i0,hi,hz0,hz1,hz2⟩:=info_parts zJt
 have HPM:=Lib.hid (And.intro h.p3 h.pmx)
 have HF:=Lib.hid h
 obtain ⟨bA,oA,rfl,hbA,hcA⟩:=hA (by rw [zLb];omega)
 obtain ⟨bB,oB,rfl,hbB,hcB⟩:=hB (by rw [zLb];omega)
 have HcA:Hid (∀i,i<N→w.cell? ⟨bA,oA+i,none⟩=some (.int .u64 ((X i).val:Int))):=Lib.hid (fun i hi=>by
  have h1:=hcA i (by rw [zLb];exact hi)
  rw [zKY hi] at h1
  exact h1)
 have HcB:Hid (∀i,i<N→w.cell? ⟨bB,oB+i,none⟩=some (.int .u64 ((Y i).val:Int))):=Lib.hid (fun i hi=>by
  have h1:=hcB i (by rw [zLb];exact hi)
  rw [zKY hi] at h1
  exact h1)
 clear h hA hB hcA hcB
 go_enter Tryz.func83,Tryz.ntmps83
 go_wp2_with (at_make;refine wpList_make_full _ rfl _ _ 54 rfl w.heap.size 22 i0 (.int .u64 0) 1 Tryz.underlying54 hi hz0 hz1 _ _ _ _ N rfl rfl ?l1 ?l2 ?b2 ?b3 (Nat.le_refl _) ?_)
 case l1=>omega
 case l2=>omega
 case b2=>rw [hz2];omega
 case b3=>unfold maxLen;omega
 intro w8 hown hgrow
 have hown0:OwnU w8 w.heap.size (.slice (some ⟨w.heap.size,0,none⟩) N N) N (part N (fun j=>((X j*Y j:Fin p).val:Int)) 0):=by
  unfold OwnU
  rw [zNW,zJC,←toList_madeCells_one];exact hown
 have hB8:Below w.heap.size w w8:=(Below.refl _ _).grown hgrow (Nat.le_refl _) (fun k h=>by cases h)
 obtain ⟨G,hG⟩: ∃G,G=w.heap.size:=⟨_,rfl⟩
 rw [←hG]
 have hGe:w.heap.size≤G:=by omega
 have nSG:bA≠G:=by omega
 have nCG:bB≠G:=by omega
 have nSG':G≠bA:=by omega
 have nCG':G≠bB:=by omega
 rw [show (⟨w.heap.size,0,none⟩:Addr)=⟨G,0,none⟩ by rw [hG]] at hown0
 have HO8:=Lib.hid hown0
 have HB8:=Lib.hid hB8
 clear hown hgrow hown0 hB8 hG
 go_wp2
 go_loopw [14] (fun I wr=> ∃i:Nat,I= .int .i64 i∧i≤N∧Hid (OwnU wr w.heap.size (.slice (some ⟨G,0,none⟩) N N) N (part N (fun j=>((X j*Y j:Fin p).val:Int)) i))∧Hid (Below w.heap.size w wr)) (fun I _=>N-(intOf I).toNat)
 case atStart=>exact ⟨0,rfl,by omega,HO8,HB8⟩
 case round=>
  clear HO8 HB8
  obtain ⟨i,rfl,hiN,hO,hBr⟩:=hrel
  by_cases hlt:i<N
  ·have c0:=zDs hBr.out hbA (HcA.out i hlt)
   have c1:=zDs hBr.out hbB (HcB.out i hlt)
   have hF1:=HF.out.below hBr.out
   have hlp: ∀x:Fin p,0≤((x.val:Nat):Int)∧((x.val:Nat):Int)≤18446744073709551615:=fun x=>by have:=x.isLt;have:=HPM.out.2;omega
   have hst:(part N (fun j=>((X j*Y j:Fin p).val:Int)) i).set i ((X i*Y i:Fin p).val:Int)=part N (fun j=>((X j*Y j:Fin p).val:Int)) (i+1):=zNV
   obtain ⟨x0,hx0⟩: ∃x0,x0=X i:=⟨_,rfl⟩
   obtain ⟨y0,hy0⟩: ∃y0,y0=Y i:=⟨_,rfl⟩
   rw [←hx0] at c0 hst
   rw [←hy0] at c1 hst
   have HMu:Hid (∀n,Calls Tryz.prog 38 #[v, .int .u64 (x0.val:Int), .int .u64 (y0.val:Int)] (wr.drewN n) fun e w'=>e= .returned (.int .u64 ((x0*y0).val:Int))∧ ∃k,w'=(wr.drewN n).drewN k):=Lib.hid (fun n=>by
    have h1:=zHw (hF1.drewN n) (x0.val:Int) (y0.val:Int) (hlp x0).1 (hlp x0).2 (hlp y0).1 (hlp y0).2
    rw [zGv,zt_of_val,zt_of_val] at h1
    exact h1)
   obtain ⟨z0,hz0'⟩: ∃z0,z0=x0*y0:=⟨_,rfl⟩
   rw [←hz0'] at HMu hst
   have HST:=Lib.hid hst
   obtain ⟨g0',f0,_⟩:=zN9 hO.out i hlt
   have i1:(0:Int)≤(i:Int):=by omega
   have i2:(i:Int)<(N:Int):=by omega
   clear hx0 hy0 hst hz0' hlp hF1
   go_upto_region 5 with fail
   refine zWM 12 (by kernel_rfl) (by kernel_rfl) ?_
   simp only [List.take_succ_cons,List.take_zero,List.drop_succ_cons,List.drop_zero]
   repeat (go_big_quiet_step ((first|(go_at_call 38;exact Calls.quiet_of (HMu.out _)))))
   refine wpQuiet_nil ?_
   intro _ hw'
   obtain ⟨nq,hw''⟩:=hw'
   subst hw''
   have hO1:=((hO.out.drewN nq).set i hlt (z0.val:Int)).1
   rw [HST.out] at hO1
   have HO1:=Lib.hid hO1
   have HB1:Hid (Below w.heap.size w ((wr.drewN nq).setCell ⟨G,i,none⟩ (.int .u64 (z0.val:Int)))):=Lib.hid ((below_drewN hBr.out nq).setCell hGe _)
   clear hO1 hO hBr
   go_wp2
   go_roundw
   case rel=>exact ⟨i+1,by go_num,by omega,HO1,HB1⟩
   case measure=>simp [intOf];omega
  ·have hie:i=N:=by omega
   have hO1:=hO.out
   have hpf:part N (fun j=>((X j*Y j:Fin p).val:Int)) N=lst N fun j=>X j*Y j:=zNT _ _
   rw [hie,hpf] at hO1
   have HO1:=Lib.hid hO1
   clear hie hO1 hO hpf
   go_wp2
   go_ret
   exact ⟨_,rfl,HO1.out,hBr.out⟩
def lcv (p:Nat) [NeZero p] (L M:List Int) (i:Nat):Fin p:=cv (padz L.length (rz p L)) (padz M.length (rz p M)) i
def linf (p:Int) (L M:List Int):Int:=
 if L.length=0∨M.length=0 then 1 else if 1024<(L.length:Int)+(M.length:Int)-1 then 13 else if fitR (pd ((L.length:Int)+(M.length:Int)-1)) p=false then 4 else if (zI1 p L && zI1 p M)=false then 9 else 0
theorem zKI {p:Int} {L M:List Int} (h:linf p L M=0):0<L.length∧0<M.length∧(L.length:Int)+(M.length:Int)-1≤1024∧fitR (pd ((L.length:Int)+(M.length:Int)-1)) p=true∧zI1 p L=true∧zI1 p M=true:=by
 unfold linf at h
 split at h
 ·omega
 ·rename_i h1
  split at h
  ·omega
  ·rename_i h2
   split at h
   ·omega
   ·rename_i h3
    split at h
    ·omega
    ·rename_i h4
     simp only [Bool.not_eq_false,Bool.and_eq_true] at h4
     exact ⟨by omega,by omega,by omega,by simpa using h3,h4.1,h4.2⟩
set_option maxHeartbeats 4000000 in
set_option maxRecDepth 100000 in
theorem zKF {p:Nat} [NeZero p] {w:World} {v:Value} {g:Int} (hp:Prime p) (hg:Ord (zt p g) (p-1)) (g0:0≤g) (g1:g<p) (h:Fd w w.heap.size v p g) (AA AB:Option Addr) (cA cB:Nat) (L M:List Int)
  (hU:U64s L) (hU':U64s M) (hA:RdI w w.heap.size .u64 AA L) (hB:RdI w w.heap.size .u64 AB M) (hf:linf p L M=0):
  Calls Tryz.prog 43 #[v, .slice AA L.length cA, .slice AB M.length cB] w fun r w'=> ∃G,r= .returned (.tuple #[.slice (some ⟨G,0,none⟩) (L.length+M.length-1:Nat) (L.length+M.length-1:Nat), .int .i64 0])∧w.heap.size≤G∧G<w'.heap.size∧
   (∀i,i<L.length+M.length-1→w'.cell? ⟨G,i,none⟩=some (.int .u64 ((lcv p L M i).val:Int)))∧Below w.heap.size w w':=by
 obtain ⟨fb,rfl⟩: ∃fb,v= .pointer (some ⟨fb,0,none⟩):=by
  obtain ⟨b,c,t,o,s,sv,hv,_⟩:=h
  exact ⟨b,hv⟩
 obtain ⟨i0,hi,hz0,hz1,hz2⟩:=info_parts zJt
 obtain ⟨l1,l2,l3,hft,hg1,hg2⟩:=zKI hf
 obtain ⟨hq2,hq3,hq4,hq5⟩:=zOc (show (L.length:Int)+(M.length:Int)-1≤4096 by omega)
 have hck:=zHd hft hq5
 have HPM:=Lib.hid (And.intro h.p3 h.pmx)
 have HF:=Lib.hid h
 have hPd:=Lib.hid (fun wz=>zNF ((L.length:Int)+(M.length:Int)-1) wz (by omega) (by omega))
 have hDv:Hid (Calls Tryz.prog 55 #[.pointer (some ⟨fb,0,none⟩), .int .i64 (pd ((L.length:Int)+(M.length:Int)-1))] w fun e w'=>e= .returned (.bool true)∧w=w'):=Lib.hid (by
  have h1:=zFG h (pd ((L.length:Int)+(M.length:Int)-1)) (by omega) (by omega)
  rw [show (decide (0<pd ((L.length:Int)+(M.length:Int)-1)) && (((p:Int)-1)%pd ((L.length:Int)+(M.length:Int)-1) == 0))=true from hft] at h1
  exact h1)
 have hGd:=Lib.hid (zDH h AA AB cA cB L M (by omega) (by omega) hU hU' hA hB)
 rw [hg1,hg2] at hGd
 obtain ⟨N,hN⟩: ∃N:Nat,(N:Int)=pd ((L.length:Int)+(M.length:Int)-1):=⟨(pd ((L.length:Int)+(M.length:Int)-1)).toNat,by omega⟩
 rw [←hN] at hq2 hq3 hq4 hq5 hck hPd hDv
 obtain ⟨hdv,hN0⟩:=zEl (by have:=hp.1;omega) hck
 obtain ⟨bA,oA,rfl,hbA,hcA⟩:=hA l1
 obtain ⟨bB,oB,rfl,hbB,hcB⟩:=hB l2
 have HcA:=Lib.hid (zRt hcA)
 have HcB:=Lib.hid (zRt hcB)
 have hLr:=zLc hg1 hU
 have hMr:=zLc hg2 hU'
 have HpA:Hid (L ++ List.replicate (N-L.length) 0=lst N (padz L.length (rz p L))):=Lib.hid (by
  have h1:=zNH (show L.length≤N by omega) (rz p L)
  rw [hLr] at h1;exact h1)
 have HpB:Hid (M ++ List.replicate (N-M.length) 0=lst N (padz M.length (rz p M))):=Lib.hid (by
  have h1:=zNH (show M.length≤N by omega) (rz p M)
  rw [hMr] at h1;exact h1)
 have HlA:Hid ((ints .u64 L).length=L.length*1):=Lib.hid (by rw [zJ3];omega)
 have HlB:Hid ((ints .u64 M).length=M.length*1):=Lib.hid (by rw [zJ3];omega)
 have hff: ∀F:Nat→Fin p,zGD p (lst N F)=0:=fun F=>zGF F hck hq2
 have HDn:Hid (∀(F:Nat→Fin p) wz (V:Value) (B:Nat),Below w.heap.size w wz→B≤wz.heap.size→OwnU wz B V N (lst N F)→Calls Tryz.prog 63 #[.pointer (some ⟨fb,0,none⟩),V, .bool false] wz fun e w'=> ∃V,e= .returned (.tuple #[V, .int .i64 0])∧OwnU w' wz.heap.size V N (lst N (tr (zt p g) N false F))∧Below wz.heap.size wz w'):=Lib.hid (fun F wz V B hz hB hV=>by
  obtain ⟨X,cx,rfl,hR⟩:=hV.rd
  have h1:=zFT hp hg g0 g1 ((HF.out.below hz).mono hz.size) X cx (lst N F) false (zLd HPM.out.2 _ _) hR (hff F)
  have h2:lst N (tr (zt p g) N false (rz p (lst N F)))=lst N (tr (zt p g) N false F):=zKW fun i _=>zVn _ _ _ _ _
  rw [zLb,h2] at h1
  exact h1)
 have HUp:Hid (∀(F:Nat→Fin p) wz (V:Value) (B:Nat),Below w.heap.size w wz→B≤wz.heap.size→OwnU wz B V N (lst N F)→Calls Tryz.prog 87 #[.pointer (some ⟨fb,0,none⟩),V, .bool true] wz fun e w'=> ∃V,e= .returned (.tuple #[V, .int .i64 0])∧OwnU w' wz.heap.size V N (lst N (tr (zt p g) N true F))∧Below wz.heap.size wz w'):=Lib.hid (fun F wz V B hz hB hV=>by
  obtain ⟨X,cx,rfl,hR⟩:=hV.rd
  have h1:=zWg hp hg g0 g1 ((HF.out.below hz).mono hz.size) X cx (lst N F) true (zLd HPM.out.2 _ _) hR (hff F)
  have h2:lst N (tr (zt p g) N true (rz p (lst N F)))=lst N (tr (zt p g) N true F):=zKW fun i _=>zVn _ _ _ _ _
  rw [zLb,h2] at h1
  exact h1)
 obtain ⟨X,hX⟩: ∃X,X=tr (zt p g) N false (padz L.length (rz p L)):=⟨_,rfl⟩
 obtain ⟨Y,hY⟩: ∃Y,Y=tr (zt p g) N false (padz M.length (rz p M)):=⟨_,rfl⟩
 have HU1:=Lib.hid (HDn.out (padz L.length (rz p L)))
 have HU2:=Lib.hid (HDn.out (padz M.length (rz p M)))
 have HU3:=Lib.hid (HUp.out (fun j=>X j*Y j))
 have HTm:Hid (∀wz (A B:Option Addr) (c d:Nat),Below w.heap.size w wz→RdI wz wz.heap.size .u64 A (lst N X)→RdI wz wz.heap.size .u64 B (lst N Y)→Calls Tryz.prog 83 #[.pointer (some ⟨fb,0,none⟩), .slice A N c, .slice B N d] wz fun r w'=> ∃V,r= .returned V∧OwnU w' wz.heap.size V N (lst N fun j=>X j*Y j)∧Below wz.heap.size wz w'):=Lib.hid (fun wz A B c d hz hA hB=>zUU ((HF.out.below hz).mono hz.size) N hN0 (by omega) A B c d X Y hA hB)
 have hcy:lst N (tr (zt p g) N true (fun j=>X j*Y j))=lst N (cyc N (padz L.length (rz p L)) (padz M.length (rz p M))):=zKW fun i hi=>by rw [hX,hY];exact zVk hp hg hdv hN0 _ _ i hi
 rw [←hX] at HU1
 rw [←hY] at HU2
 rw [hcy] at HU3
 obtain ⟨C,hC⟩: ∃C,C=cyc N (padz L.length (rz p L)) (padz M.length (rz p M)):=⟨_,rfl⟩
 have HCv:Hid (∀i,i<L.length+M.length-1→C i=lcv p L M i):=Lib.hid (fun i hi=>by
  rw [hC]
  exact zFv (by omega) (fun j h=>zNK h) (fun j h=>zNK h) (by omega))
 rw [←hC] at HU3
 have e1:(N:Int)-(L.length:Int)=((N-L.length:Nat):Int):=by omega
 have e2:(N:Int)-(M.length:Int)=((N-M.length:Nat):Int):=by omega
 have e3:(L.length:Int)+(M.length:Int)-1=((L.length+M.length-1:Nat):Int):=by omega
 rw [e3] at hPd
 obtain ⟨m1,hm1⟩: ∃m,m=N-L.length:=⟨_,rfl⟩
 obtain ⟨m2,hm2⟩: ∃m,m=N-M.length:=⟨_,rfl⟩
 obtain ⟨n,hn⟩: ∃n,n=L.length+M.length-1:=⟨_,rfl⟩
 rw [←hm1] at HpA e1
 rw [←hm2] at HpB e2
 rw [←hn] at e3 hPd HCv ⊢
 have HmA:Hid (L.length+m1=N):=Lib.hid (by omega)
 have HmB:Hid (M.length+m2=N):=Lib.hid (by omega)
 have hm1b:L.length+m1≤4096:=by omega
 have hm2b:M.length+m2≤4096:=by omega
 have hnN:n≤N:=by omega
 have hn4:n≤1024:=by omega
 have hN4:N≤4096:=by omega
 have t1:((L.length:Int) == 0)=false:=beq_eq_false_iff_ne.2 (by omega)
 have t2:((M.length:Int) == 0)=false:=beq_eq_false_iff_ne.2 (by omega)
 have t3:decide ((1024:Int)<(n:Int))=false:=by simp;omega
 have hU:=Tryz.underlying3
 clear h hA hB hcA hcB hff HUp HDn hcy hX hY hC hm1 hm2 hn hdv hck hq2 hq3 hq4 hq5 hN hg hp hLr hMr hf hft hg1 hg2 hU' l3
 go_enter Tryz.func43,Tryz.ntmps43
 go_wp2_with fail
 refine (hPd.out _).mono ?_
 rintro e w1 ⟨rfl,rfl⟩
 go_wp2_with fail
 refine hDv.out.mono ?_
 rintro e w1 ⟨rfl,rfl⟩
 go_wp2_with fail
 refine hGd.out.mono ?_
 rintro e w1 ⟨rfl,rfl⟩
 go_wp2_with fail
 refine (hPd.out _).mono ?_
 rintro e w1 ⟨rfl,rfl⟩
 go_wp2_with (at_builtin;refine wpList_append_own _ rfl _ _ 54 rfl w.heap.size 22 i0 (.int .u64 0) 1 8 Tryz.underlying54 hi hz0 hz1 hz2 rfl (by decide) _ 0 [] rfl (World.ownsRow_lit w #[] 0 (Nat.le_refl _) (by unfold maxLen;omega) rfl) ⟨bA,oA,none⟩ L.length cA (ints .u64 L) rfl HlA.out ?c1 (zJ4 _) ?c3 ?c4 ?c5 ?_)
 case c1=>
  intro j u hu
  exact ((Below.refl w.heap.size w).alloc (Nat.le_refl _) (.cells #[] 22)).cell (World.block_lt_of_cell? w _ (HcA.out j u hu)) |>.trans (HcA.out j u hu)
 case c3=>unfold maxLen;omega
 case c4=>omega
 case c5=>simp
 intro v1 w1 hown1 hg1 _
 have hB0:=(Below.refl w.heap.size w).alloc (Nat.le_refl _) (.cells #[] 22)
 have hB1:Below w.heap.size w w1:=hB0.grown hg1 (by simp) (fun k hk=>by simp [Value.ownBlock] at hk;omega)
 clear hg1 hB0
 go_wp2_with (at_builtin;refine zWJ rfl _ _ 54 3 rfl w.heap.size 22 .i64 i0 (.int .u64 0) Tryz.underlying54 hU hi hz0 hz1 hz2 rfl rfl v1 L.length (ints .u64 L) rfl hown1 m1 rfl ?d3 hB1.size ?_)
 case d3=>omega
 intro v2 w2 hown2 hg2
 have hB2:Below w.heap.size w w2:=hB1.grown hg2 hB1.size (fun k hk=>(World.ownsRow.lt hown1 k hk).1)
 have hO2:OwnU w2 w.heap.size v2 N (lst N (padz L.length (rz p L))):=by
  unfold OwnU
  rw [←HpA.out,zJ2,←zJ5,←HmA.out]
  exact hown2
 have HO2:=Lib.hid hO2
 have hs2:=hB2.size
 clear hown1 hown2 hg2 hB1 hO2
 go_wp2_with (at_builtin;refine wpList_append_own _ rfl _ _ 54 rfl w2.heap.size 22 i0 (.int .u64 0) 1 8 Tryz.underlying54 hi hz0 hz1 hz2 rfl (by decide) _ 0 [] rfl (World.ownsRow_lit w2 #[] 0 (Nat.le_refl _) (by unfold maxLen;omega) rfl) ⟨bB,oB,none⟩ M.length cB (ints .u64 M) rfl HlB.out ?e1 (zJ4 _) ?e3 ?e4 ?e5 ?_)
 case e1=>
  intro j u hu
  have h1:w2.cell? ((⟨bB,oB,none⟩:Addr).add j)=some u:=hB2.cell (World.block_lt_of_cell? w _ (HcB.out j u hu)) |>.trans (HcB.out j u hu)
  exact ((Below.refl w2.heap.size w2).alloc (Nat.le_refl _) (.cells #[] 22)).cell (World.block_lt_of_cell? w2 _ h1) |>.trans h1
 case e3=>unfold maxLen;omega
 case e4=>omega
 case e5=>simp
 intro v3 w3 hown3 hg3 _
 have hB3:Below w2.heap.size w2 w3:=((Below.refl w2.heap.size w2).alloc (Nat.le_refl _) (.cells #[] 22)).grown hg3 (by simp) (fun k hk=>by simp [Value.ownBlock] at hk;omega)
 clear hg3
 go_wp2_with (at_builtin;refine zWJ rfl _ _ 54 3 rfl w2.heap.size 22 .i64 i0 (.int .u64 0) Tryz.underlying54 hU hi hz0 hz1 hz2 rfl rfl v3 M.length (ints .u64 M) rfl hown3 m2 rfl ?f3 hB3.size ?_)
 case f3=>omega
 intro v4 w4 hown4 hg4
 have hB4:Below w2.heap.size w2 w4:=hB3.grown hg4 hB3.size (fun k hk=>(World.ownsRow.lt hown3 k hk).1)
 have hO4:OwnU w4 w2.heap.size v4 N (lst N (padz M.length (rz p M))):=by
  unfold OwnU
  rw [←HpB.out,zJ2,←zJ5,←HmB.out]
  exact hown4
 have hBw:=hB2.trans (hB4.mono hs2)
 have HO4:=Lib.hid hO4
 have HO24:=Lib.hid (HO2.out.below hB4)
 clear hown3 hown4 hg4 hB3 hO4 HO2
 go_wp2_with fail
 refine (HU1.out w4 _ _ hBw hBw.size HO24.out).mono ?_
 rintro r w5 ⟨v5,rfl,hO5,hB5⟩
 have hBx:=hBw.trans (hB5.mono hBw.size)
 have HO5:=Lib.hid hO5
 have HO45:=Lib.hid (HO4.out.below hB5)
 have hb45:w2.heap.size≤w5.heap.size:=by have:=hB4.size;have:=hB5.size;omega
 clear hO5 HO4 HO24 hB4 hBw hB5
 go_wp2_with fail
 refine (HU2.out w5 _ _ hBx hb45 HO45.out).mono ?_
 rintro r w6 ⟨v6,rfl,hO6,hB6⟩
 have hBy:=hBx.trans (hB6.mono hBx.size)
 obtain ⟨A5,c5,rfl,hR5⟩:=(HO5.out.below hB6).rd
 obtain ⟨A6,c6,rfl,hR6⟩:=hO6.rd
 have HTn:=Lib.hid (HTm.out w6 A5 A6 c5 c6 hBy hR5 hR6)
 have HBy:=Lib.hid hBy
 clear hO6 HO5 HO45 hBx hB6 hBy hR5 hR6 HTm
 go_wp2_with fail
 refine HTn.out.mono ?_
 rintro r w7 ⟨v7,rfl,hO7,hB7⟩
 have hBz:=HBy.out.trans (hB7.mono HBy.out.size)
 have hU3:=Lib.hid (HU3.out w7 _ _ hBz hB7.size hO7)
 have HBz:=Lib.hid hBz
 clear hO7 hBz hB7
 go_wp2_with fail
 refine hU3.out.mono ?_
 rintro r w8 ⟨v8,rfl,hO8,hB8⟩
 have hBf:=HBz.out.trans (hB8.mono HBz.out.size)
 have hcap: ∃G8 c8,v8= .slice (some ⟨G8,0,none⟩) N c8∧N≤c8∧w7.heap.size≤G8∧G8<w8.heap.size:=by
  rcases hO8.2 with ⟨_,h0⟩|⟨g',cap',cur',e,h1,h2,h3,_⟩
  ·omega
  ·exact ⟨g',cap',e,h3,h1,(World.ownsRow.lt hO8 g' (by rw [e];rfl)).2⟩
 obtain ⟨G8,c8,rfl,hc8,hG8,hG8'⟩:=hcap
 have HC8:Hid (∀j,j<n→w8.cell? ⟨G8,j,none⟩=some (.int .u64 ((lcv p L M j).val:Int))):=Lib.hid (fun j hj=>by
  have h1:=(zN9 hO8 j (by omega)).1
  rw [zKY (by omega),HCv.out j hj] at h1
  exact h1)
 have hGw:w.heap.size≤G8:=by have:=HBz.out.size;omega
 have HBf:=Lib.hid hBf
 clear hO8 hB8 hBf HBz HCv
 have hnc:n≤c8:=by omega
 go_wp2
 go_ret2
 exact ⟨G8,rfl,hGw,hG8',HC8.out,HBf.out⟩
end

section
/- convolve.Direct: sum by sum. -/
open Go.RowKit
open Alg
section
variable {p:Nat} [NeZero p]
def inn (pl:Nat→Nat) (x:Fin p) (Y F:Nat→Fin p):Nat→Nat→Fin p
 | 0=>F
 | k+1=>upd (inn pl x Y F k) (pl k) (inn pl x Y F k (pl k)+x*Y k)
def acc (pl:Nat→Nat→Nat) (X Y:Nat→Fin p) (m:Nat):Nat→Nat→Fin p
 | 0=>fun _=>0
 | i+1=>inn (pl i) (X i) Y (acc pl X Y m i) m
theorem zJx (n:Nat) (pl:Nat→Nat) (x:Fin p) (Y F:Nat→Fin p) (k:Nat):(lst n (inn pl x Y F k)).set (pl k) (((inn pl x Y F k (pl k)+x*Y k:Fin p).val:Nat):Int)=lst n (inn pl x Y F (k+1)):=zLe _ _ _ _
theorem zAU (n:Nat) (pl:Nat→Nat→Nat) (X Y:Nat→Fin p) (m:Nat):lst n (acc pl X Y m 0)=List.replicate n 0:=by
 show lst n (fun _=>(0:Fin p))=_
 unfold lst full
 apply List.ext_getElem <;> simp
def drc (p:Nat) [NeZero p] (L M:List Int):Nat→Fin p:=acc (fun i k=>i+k) (rz p L) (rz p M) M.length L.length
end
set_option maxHeartbeats 4000000 in
set_option maxRecDepth 100000 in
theorem zF9 {p:Nat} [NeZero p] {w:World} {v:Value} {g:Int} (h:Fd w w.heap.size v p g) (AA AB:Option Addr) (cA cB:Nat) (L M:List Int) (l1:0<L.length) (l2:0<M.length) (l3:L.length+M.length-1≤1024)
  (hU:U64s L) (hU':U64s M) (hA:RdI w w.heap.size .u64 AA L) (hB:RdI w w.heap.size .u64 AB M) (hg1:zI1 p L=true) (hg2:zI1 p M=true):
  Calls Tryz.prog 34 #[v, .slice AA L.length cA, .slice AB M.length cB] w fun r w'=> ∃V,r= .returned (.tuple #[V, .int .i64 0])∧OwnU w' w.heap.size V (L.length+M.length-1) (lst (L.length+M.length-1) (drc p L M))∧Below w.heap.size w w':=by
 obtain ⟨fb,rfl⟩: ∃fb,v= .pointer (some ⟨fb,0,none⟩):=by
  obtain ⟨b,c,t,o,s,sv,hv,_⟩:=h
  exact ⟨b,hv⟩
 obtain ⟨i0,hi,hz0,hz1,hz2⟩:=info_parts zJt
 have HPM:=Lib.hid (And.intro h.p3 h.pmx)
 have HF:=Lib.hid h
 have hGd:=Lib.hid (zDH h AA AB cA cB L M (by omega) (by omega) hU hU' hA hB)
 rw [hg1,hg2] at hGd
 obtain ⟨bA,oA,rfl,hbA,hcA⟩:=hA l1
 obtain ⟨bB,oB,rfl,hbB,hcB⟩:=hB l2
 have HcA:Hid (∀i,i<L.length→w.cell? ⟨bA,oA+i,none⟩=some (.int .u64 (L.getD i 0))):=Lib.hid hcA
 have HcB:Hid (∀i,i<M.length→w.cell? ⟨bB,oB+i,none⟩=some (.int .u64 (M.getD i 0))):=Lib.hid hcB
 have HUA:Hid (∀i,i<L.length→0≤L.getD i 0∧L.getD i 0≤18446744073709551615):=Lib.hid fun i hi=>hU.at hi
 have HUB:Hid (∀i,i<M.length→0≤M.getD i 0∧M.getD i 0≤18446744073709551615):=Lib.hid fun i hi=>hU'.at hi
 have HDd:Hid (drc p L M=acc (fun i k=>i+k) (rz p L) (rz p M) M.length L.length):=Lib.hid rfl
 have HX0:Hid (∀i,zt p (L.getD i 0)=rz p L i):=Lib.hid fun i=>rfl
 have HY0:Hid (∀i,zt p (M.getD i 0)=rz p M i):=Lib.hid fun i=>rfl
 obtain ⟨D,hD⟩: ∃D,D=drc p L M:=⟨_,rfl⟩
 rw [←hD] at HDd ⊢
 clear hD
 obtain ⟨X,hX⟩: ∃X,X=rz p L:=⟨_,rfl⟩
 obtain ⟨Y,hY⟩: ∃Y,Y=rz p M:=⟨_,rfl⟩
 rw [←hX] at HDd HX0
 rw [←hY] at HDd HY0
 clear hX hY
 obtain ⟨a,ha⟩: ∃a,a=L.length:=⟨_,rfl⟩
 obtain ⟨b,hb⟩: ∃b,b=M.length:=⟨_,rfl⟩
 rw [←ha] at HDd HcA HUA hGd l1 l3 ⊢
 rw [←hb] at HDd HcB HUB hGd l2 l3 ⊢
 clear h hA hB hcA hcB ha hb hU hU' hg1 hg2
 obtain ⟨n,hn⟩: ∃n,n=a+b-1:=⟨_,rfl⟩
 have hn':(a:Int)+(b:Int)-1=((n:Nat):Int):=by omega
 have hn0:n≤1024:=by omega
 have hab: ∀i k,i<a→k<b→i+k<n:=fun i k _ _=>by omega
 have Hab:=Lib.hid hab
 rw [←hn]
 have hla:a≤1024:=by omega
 have hlb:b≤1024:=by omega
 have HZ:=Lib.hid (zAU n (fun i k=>i+k) X Y b)
 have t1:((a:Int) == 0)=false:=by simp;omega
 have t2:((b:Int) == 0)=false:=by simp;omega
 have t3:decide (((n:Nat):Int)>1024)=false:=decide_eq_false (by omega)
 clear hn l3 hab
 go_enter Tryz.func34,Tryz.ntmps34
 go_wp2_with fail
 refine hGd.out.mono ?_
 rintro e w1 ⟨rfl,rfl⟩
 go_wp2_with (at_make;refine wpList_make_full _ rfl _ _ 54 rfl w.heap.size 22 i0 (.int .u64 0) 1 Tryz.underlying54 hi hz0 hz1 _ _ _ _ n rfl rfl ?l1 ?l2 ?b2 ?b3 (Nat.le_refl _) ?_)
 case l1=>omega
 case l2=>omega
 case b2=>rw [hz2];omega
 case b3=>unfold maxLen;omega
 intro w8 hown hgrow
 have hown0:OwnU w8 w.heap.size (.slice (some ⟨w.heap.size,0,none⟩) n n) n (lst n (acc (fun i k=>i+k) X Y b 0)):=by
  unfold OwnU
  rw [HZ.out,zJC,←toList_madeCells_one];exact hown
 have hB8:Below w.heap.size w w8:=(Below.refl _ _).grown hgrow (Nat.le_refl _) (fun k h=>by cases h)
 obtain ⟨G,hG⟩: ∃G,G=w.heap.size:=⟨_,rfl⟩
 rw [←hG]
 have hGe:w.heap.size≤G:=by omega
 have nSG:bA≠G:=by omega
 have nCG:bB≠G:=by omega
 have nSG':G≠bA:=by omega
 have nCG':G≠bB:=by omega
 rw [show (⟨w.heap.size,0,none⟩:Addr)=⟨G,0,none⟩ by rw [hG]] at hown0
 have HO8:=Lib.hid hown0
 have HB8:=Lib.hid hB8
 clear hown hgrow hown0 hB8 hG hGd
 go_wp2
 go_loopw [49] (fun I wr=> ∃i:Nat,I= .int .i64 i∧i≤a∧Hid (OwnU wr w.heap.size (.slice (some ⟨G,0,none⟩) n n) n (lst n (acc (fun i k=>i+k) X Y b i)))∧Hid (Below w.heap.size w wr)) (fun I _=>a-(intOf I).toNat)
 case atStart=>exact ⟨0,rfl,by omega,HO8,HB8⟩
 case round=>
  clear HO8 HB8
  obtain ⟨i,rfl,hin,hO,hBr⟩:=hrel
  by_cases hlt:i<a
  ·have c0:=zDs hBr.out hbA (HcA.out i hlt)
   have ux:=HUA.out i hlt
   have hF1:=HF.out.below hBr.out
   have ex:=HX0.out i
   obtain ⟨x,hx⟩: ∃x,x=L.getD i 0:=⟨_,rfl⟩
   rw [←hx] at c0 ux ex
   have HLi:=Lib.hid (zHv hF1 x ux.1 ux.2)
   obtain ⟨lx,hlx⟩: ∃lx,lx=lft p x:=⟨_,rfl⟩
   rw [←hlx] at HLi
   have HTi:Hid (∀y:Int,0≤y→y≤18446744073709551615→ ∀wz,Below w.heap.size w wz→Calls Tryz.prog 81 #[.pointer (some ⟨fb,0,none⟩), .int .u64 lx, .int .u64 y] wz fun e w'=>e= .returned (.int .u64 ((X i*zt p y).val:Int))∧ ∃k,w'=wz.drewN k):=Lib.hid (fun y h0 h1 wz hz=>by
    have h2:=zHM (HF.out.below hz) x y h0 h1
    rw [←hlx,zGv,ex] at h2
    exact h2)
   have hI:lst n (acc (fun i k=>i+k) X Y b i)=lst n (inn (fun k=>i+k) (X i) Y (acc (fun i k=>i+k) X Y b i) 0):=rfl
   rw [hI] at hO
   have HE:Hid (lst n (inn (fun k=>i+k) (X i) Y (acc (fun i k=>i+k) X Y b i) b)=lst n (acc (fun i k=>i+k) X Y b (i+1))):=Lib.hid rfl
   obtain ⟨F0,hF0⟩: ∃F0,F0=acc (fun i k=>i+k) X Y b i:=⟨_,rfl⟩
   rw [←hF0] at hO HE
   have HIS:=Lib.hid (fun k=>zJx n (fun k=>i+k) (X i) Y F0 k)
   obtain ⟨xi,hxi⟩: ∃xi,xi=X i:=⟨_,rfl⟩
   rw [←hxi] at hO HE HIS HTi
   clear hF0 hI ux ex hx hlx hF1 hxi
   go_wp2_with fail
   refine HLi.out.mono ?_
   rintro e w1 ⟨rfl,nq0,rfl⟩
   have HB0:=Lib.hid (below_drewN hBr.out nq0)
   have HO0:=Lib.hid (hO.out.drewN nq0)
   clear hBr hO HLi c0
   obtain ⟨w0,hw0⟩: ∃w0,w0=wr.drewN nq0:=⟨_,rfl⟩
   rw [←hw0] at HB0 HO0 ⊢
   clear hw0
   go_wp2
   go_loopw [59] (fun K wr=> ∃k:Nat,K= .int .i64 k∧k≤b∧Hid (OwnU wr w.heap.size (.slice (some ⟨G,0,none⟩) n n) n (lst n (inn (fun k=>i+k) xi Y F0 k)))∧Hid (Below w.heap.size w wr)) (fun K _=>b-(intOf K).toNat)
   case atStart=>exact ⟨0,rfl,by omega,HO0,HB0⟩
   case round=>
    clear HO0 HB0
    obtain ⟨k,rfl,hkb,hO,hBr⟩:=hrel
    by_cases hkl:k<b
    ·have c1:=zDs hBr.out hbB (HcB.out k hkl)
     have uy:=HUB.out k hkl
     have ey:=HY0.out k
     obtain ⟨y,hy⟩: ∃y,y=M.getD k 0:=⟨_,rfl⟩
     rw [←hy] at c1 uy ey
     have hik:=Hab.out i k hlt hkl
     have HT:Hid (∀q,Calls Tryz.prog 81 #[.pointer (some ⟨fb,0,none⟩), .int .u64 lx, .int .u64 y] (wr.drewN q) fun e w'=>e= .returned (.int .u64 ((xi*Y k).val:Int))∧ ∃k,w'=(wr.drewN q).drewN k):=Lib.hid (fun q=>by
      have h1:=HTi.out y uy.1 uy.2 (wr.drewN q) (below_drewN hBr.out q)
      rw [ey] at h1;exact h1)
     have hst:=HIS.out k
     obtain ⟨m,hm⟩: ∃m,m=xi*Y k:=⟨_,rfl⟩
     rw [←hm] at HT hst
     obtain ⟨o,ho⟩: ∃o,o=i+k:=⟨_,rfl⟩
     have e1:(i:Int)+(k:Int)=((o:Nat):Int):=by omega
     simp only [←ho] at hst hik
     obtain ⟨c2,f2,_⟩:=zN9 hO.out o hik
     rw [zKY hik] at c2
     obtain ⟨s,hs⟩: ∃s,s=inn (fun k=>i+k) xi Y F0 k o:=⟨_,rfl⟩
     rw [←hs] at c2 hst
     have hF1:=HF.out.below hBr.out
     have hpm: ∀z:Fin p,0≤((z.val:Nat):Int)∧((z.val:Nat):Int)≤18446744073709551615:=fun z=>by have:=z.isLt;have:=HPM.out.2;omega
     have HAd:Hid (∀q,Calls Tryz.prog 80 #[.pointer (some ⟨fb,0,none⟩), .int .u64 (s.val:Int), .int .u64 (m.val:Int)] (wr.drewN q) fun e w'=>e= .returned (.int .u64 ((s+m).val:Int))∧ ∃k,w'=(wr.drewN q).drewN k):=Lib.hid (fun q=>by
      have h1:=zG9 (hF1.drewN q) (s.val:Int) (m.val:Int) (hpm s).1 (hpm s).2 (hpm m).1 (hpm m).2
      rw [zGt,zt_of_val,zt_of_val] at h1
      exact h1)
     obtain ⟨z0,hz0'⟩: ∃z0,z0=s+m:=⟨_,rfl⟩
     rw [←hz0'] at HAd hst
     have HST:=Lib.hid hst
     have i1:(0:Int)≤((o:Nat):Int):=by omega
     have i2:((o:Nat):Int)<(n:Int):=by omega
     have i3:((o:Nat):Int)≤9223372036854775807:=by omega
     clear hs hm hst hz0' hF1 hpm uy ey hy ho
     go_upto_region 17 with fail
     refine zWM 16 (by kernel_rfl) (by kernel_rfl) ?_
     simp only [List.take_succ_cons,List.take_zero,List.drop_succ_cons,List.drop_zero]
     repeat (go_big_quiet_step ((first|(go_at_call 81;exact Calls.quiet_of (HT.out _))|(go_at_call 80;exact Calls.quiet_of (HAd.out _)))))
     refine wpQuiet_nil ?_
     intro _ hw'
     obtain ⟨nq,hw''⟩:=hw'
     subst hw''
     have hO1:=((hO.out.drewN nq).set o hik (z0.val:Int)).1
     rw [HST.out] at hO1
     have HO1:=Lib.hid hO1
     have HB1:Hid (Below w.heap.size w ((wr.drewN nq).setCell ⟨G,o,none⟩ (.int .u64 (z0.val:Int)))):=Lib.hid ((below_drewN hBr.out nq).setCell hGe _)
     clear hO1 hO hBr
     go_wp2
     go_roundw
     case rel=>exact ⟨k+1,by go_num,by omega,HO1,HB1⟩
     case measure=>simp [intOf];omega
    ·have hke:k=b:=by omega
     have hO1:=hO.out
     rw [hke,HE.out] at hO1
     have HO1:=Lib.hid hO1
     have tk:decide ((k:Int)<(b:Int))=false:=decide_eq_false (by omega)
     clear hO hO1 hke
     go_wp2
     go_roundw
     case rel=>exact ⟨i+1,by go_num,by omega,HO1,hBr⟩
     case measure=>simp [intOf];omega
  ·have hie:i=a:=by omega
   have hO1:=hO.out
   rw [hie,←HDd.out] at hO1
   have HO1:=Lib.hid hO1
   have ti:decide ((i:Int)<(a:Int))=false:=decide_eq_false (by omega)
   clear hie hO1 hO
   go_wp2
   go_ret2
   exact ⟨_,rfl,HO1.out,hBr.out⟩
def dirf (p:Int) (L M:List Int):Int:=
 if L.length=0∨M.length=0 then 1 else if 1024<(L.length:Int)+(M.length:Int)-1 then 13 else if (zI1 p L && zI1 p M)=false then 9 else 0
theorem zFA {p:Int} {L M:List Int} (h:dirf p L M=0):0<L.length∧0<M.length∧L.length+M.length-1≤1024∧zI1 p L=true∧zI1 p M=true:=by
 unfold dirf at h
 split at h
 ·omega
 ·split at h
  ·omega
  ·split at h
   ·omega
   ·rename_i h1 h2 h3
    simp only [Bool.not_eq_false,Bool.and_eq_true] at h3
    exact ⟨by omega,by omega,by omega,h3.1,h3.2⟩
theorem zF7 (w:World) (A B:Value):Calls Tryz.prog 34 #[.pointer none,A,B] w fun r w'=>r= .returned (.tuple #[.slice none 0 0, .int .i64 2])∧w=w':=by
 go_enter Tryz.func34,Tryz.ntmps34
 go_wp2
 go_ret2
 exact ⟨rfl,rfl⟩
set_option maxHeartbeats 2000000 in
theorem zF8 {w:World} {v:Value} {p g:Int} (h:Fd w w.heap.size v p g) (AA AB:Option Addr) (cA cB:Nat) (L M:List Int) (hl:L.length≤140737488351232) (hm:M.length≤140737488351232)
  (hU:U64s L) (hU':U64s M) (hA:RdI w w.heap.size .u64 AA L) (hB:RdI w w.heap.size .u64 AB M) (hf:dirf p L M≠0):
  Calls Tryz.prog 34 #[v, .slice AA L.length cA, .slice AB M.length cB] w fun r w'=>r= .returned (.tuple #[.slice none 0 0, .int .i64 (dirf p L M)])∧w=w':=by
 obtain ⟨fb,rfl⟩: ∃fb,v= .pointer (some ⟨fb,0,none⟩):=by
  obtain ⟨b,c,t,o,s,sv,hv,_⟩:=h
  exact ⟨b,hv⟩
 have hGd:=Lib.hid (zDH h AA AB cA cB L M hl hm hU hU' hA hB)
 obtain ⟨gd,hgd⟩: ∃gd,gd=(zI1 p L && zI1 p M):=⟨_,rfl⟩
 have hd:Hid (dirf p L M=if L.length=0∨M.length=0 then 1 else if 1024<(L.length:Int)+(M.length:Int)-1 then 13 else if gd=false then 9 else 0):=Lib.hid (by rw [hgd];rfl)
 rw [←hgd] at hGd
 obtain ⟨z,hz⟩: ∃z,z=dirf p L M:=⟨_,rfl⟩
 rw [←hz] at hd hf ⊢
 obtain ⟨a,ha⟩: ∃a,a=L.length:=⟨_,rfl⟩
 obtain ⟨b,hb⟩: ∃b,b=M.length:=⟨_,rfl⟩
 rw [←ha] at hd hGd hl ⊢
 rw [←hb] at hd hGd hm ⊢
 clear h hA hB hU hU' hgd hz ha hb
 by_cases ha0:a=0
 ·have hz1:Hid (z=1):=Lib.hid (by rw [hd.out,if_pos (Or.inl ha0)])
  have t1:((a:Int) == 0)=true:=by simp [ha0]
  clear hd hf ha0 hGd
  go_enter Tryz.func34,Tryz.ntmps34
  go_wp2
  go_ret2
  exact ⟨by rw [hz1.out];rfl,rfl⟩
 have t1:((a:Int) == 0)=false:=by simp [ha0]
 by_cases hb0:b=0
 ·have hz1:Hid (z=1):=Lib.hid (by rw [hd.out,if_pos (Or.inr hb0)])
  have t2:((b:Int) == 0)=true:=by simp [hb0]
  clear hd hf ha0 hb0 hGd
  go_enter Tryz.func34,Tryz.ntmps34
  go_wp2
  go_ret2
  exact ⟨by rw [hz1.out];rfl,rfl⟩
 have t2:((b:Int) == 0)=false:=by simp [hb0]
 obtain ⟨n,hn⟩: ∃n,n=a+b-1:=⟨_,rfl⟩
 have hn':(a:Int)+(b:Int)-1=((n:Nat):Int):=by omega
 have hd1:=hd.out
 rw [if_neg (by omega),hn'] at hd1
 by_cases hl0:1024<n
 ·have hz1:Hid (z=13):=Lib.hid (by rw [hd1,if_pos (by omega)])
  have t3:decide (((n:Nat):Int)>1024)=true:=decide_eq_true (by omega)
  clear hd hd1 hf ha0 hb0 hGd hn
  go_enter Tryz.func34,Tryz.ntmps34
  go_wp2
  go_ret2
  exact ⟨by rw [hz1.out];rfl,rfl⟩
 have t3:decide (((n:Nat):Int)>1024)=false:=decide_eq_false (by omega)
 rw [if_neg (by omega)] at hd1
 have hgf:gd=false:=by
  cases gd
  ·rfl
  ·exact absurd (hd1.trans (if_neg (by simp))) hf
 have hz1:Hid (z=9):=Lib.hid (by rw [hd1,if_pos hgf])
 subst hgf
 clear hd hd1 hf ha0 hb0 hn
 go_enter Tryz.func34,Tryz.ntmps34
 go_wp2_with fail
 refine hGd.out.mono ?_
 rintro e w1 ⟨rfl,rfl⟩
 go_wp2
 go_ret2
 exact ⟨by rw [hz1.out];rfl,rfl⟩
end

section
/- convolve.Fold: all that are so far apart, together. -/
open Go.RowKit
open Alg
theorem zH4 {w:World} (v:Value) (A:Option Addr) (c:Nat) (L:List Int) (n:Nat) (hn0:0<n) (hn:n≤1024) (hl:L.length≤140737488351232) (hA:RdI w w.heap.size .u64 A L)
  (R:Nat→List Int) (Z:Nat→Int) (hR0:R 0=List.replicate n 0) (hS: ∀i,i<L.length→(R i).set (i%n) (Z i)=R (i+1))
  (hC: ∀i,i<L.length→ ∀wz,Below w.heap.size w wz→Calls Tryz.prog 80 #[v, .int .u64 ((R i).getD (i%n) 0), .int .u64 (L.getD i 0)] wz fun e w'=>e= .returned (.int .u64 (Z i))∧ ∃k,w'=wz.drewN k):
  Calls Tryz.prog 39 #[v, .slice A L.length c, .int .i64 n] w fun r w'=> ∃V,r= .returned V∧OwnU w' w.heap.size V n (R L.length)∧Below w.heap.size w w':=by
 obtain ⟨i0,hi,hz0,hz1,hz2⟩:=info_parts zJt
 have HR:=Lib.hid hA
 have HC:=Lib.hid hC
 have HS:=Lib.hid hS
 have HZ:=Lib.hid hR0
 obtain ⟨a,ha⟩: ∃a,a=L.length:=⟨_,rfl⟩
 have HcA:Hid (∀i,i<a→ ∃b o,A=some ⟨b,o,none⟩∧b<w.heap.size∧w.cell? ⟨b,o+i,none⟩=some (.int .u64 (L.getD i 0))):=Lib.hid fun i hi=>by
  obtain ⟨b,o,h1,h2,h3⟩:=hA (by omega)
  exact ⟨b,o,h1,h2,h3 i (by omega)⟩
 rw [←ha] at HC HS hl ⊢
 clear ha hA hC hS hR0 HR
 have t1:decide ((n:Int)<1)=false:=decide_eq_false (by omega)
 have t2:decide ((n:Int)>1024)=false:=decide_eq_false (by omega)
 go_enter Tryz.func39,Tryz.ntmps39
 go_wp2_with (at_make;refine wpList_make_full _ rfl _ _ 54 rfl w.heap.size 22 i0 (.int .u64 0) 1 Tryz.underlying54 hi hz0 hz1 _ _ _ _ n rfl rfl ?l1 ?l2 ?b2 ?b3 (Nat.le_refl _) ?_)
 case l1=>omega
 case l2=>omega
 case b2=>rw [hz2];omega
 case b3=>unfold maxLen;omega
 intro w8 hown hgrow
 have hown0:OwnU w8 w.heap.size (.slice (some ⟨w.heap.size,0,none⟩) n n) n (R 0):=by
  unfold OwnU
  rw [HZ.out,zJC,←toList_madeCells_one];exact hown
 have hB8:Below w.heap.size w w8:=(Below.refl _ _).grown hgrow (Nat.le_refl _) (fun k h=>by cases h)
 obtain ⟨G,hG⟩: ∃G,G=w.heap.size:=⟨_,rfl⟩
 rw [←hG]
 have hGe:w.heap.size≤G:=by omega
 rw [show (⟨w.heap.size,0,none⟩:Addr)=⟨G,0,none⟩ by rw [hG]] at hown0
 have HG:=Lib.hid hG
 have HO8:=Lib.hid hown0
 have HB8:=Lib.hid hB8
 clear hown hgrow hown0 hB8 hG
 go_wp2
 go_loopw [20] (fun I wr=> ∃i:Nat,I= .int .i64 i∧i≤a∧Hid (OwnU wr w.heap.size (.slice (some ⟨G,0,none⟩) n n) n (R i))∧Hid (Below w.heap.size w wr)) (fun I _=>a-(intOf I).toNat)
 case atStart=>exact ⟨0,rfl,by omega,HO8,HB8⟩
 case round=>
  clear HO8 HB8
  obtain ⟨i,rfl,hin,hO,hBr⟩:=hrel
  by_cases hlt:i<a
  ·obtain ⟨b,o,rfl,hb,hc⟩:=HcA.out i hlt
   have c0:=zDs hBr.out hb hc
   have nSG:b≠G:=by have:=HG.out;omega
   have nSG':G≠b:=by omega
   have HA1:Hid (∀q,Calls Tryz.prog 80 #[v, .int .u64 ((R i).getD (i%n) 0), .int .u64 (L.getD i 0)] (wr.drewN q) fun e w'=>e= .returned (.int .u64 (Z i))∧ ∃k,w'=(wr.drewN q).drewN k):=Lib.hid fun q=>HC.out i hlt _ (below_drewN hBr.out q)
   have hst:=HS.out i hlt
   have hmn:i%n<n:=Nat.mod_lt _ hn0
   have e1:(i:Int)%(n:Int)=((i%n:Nat):Int):=by omega
   have e2:(i:Int).tmod (n:Int)=((i%n:Nat):Int):=by rw [Int.tmod_eq_emod_of_nonneg (by omega)];exact e1
   obtain ⟨q,hq⟩: ∃q,q=i%n:=⟨_,rfl⟩
   rw [←hq] at HA1 hst hmn e1 e2
   obtain ⟨c2,f2,_⟩:=zN9 hO.out q hmn
   obtain ⟨s,hs⟩: ∃s,s=(R i).getD q 0:=⟨_,rfl⟩
   rw [←hs] at c2 HA1
   obtain ⟨x,hx⟩: ∃x,x=L.getD i 0:=⟨_,rfl⟩
   rw [←hx] at c0 HA1
   obtain ⟨z,hz⟩: ∃z,z=Z i:=⟨_,rfl⟩
   rw [←hz] at hst HA1
   have HST:=Lib.hid hst
   have i1:(0:Int)≤((q:Nat):Int):=by omega
   have i2:((q:Nat):Int)<(n:Int):=by omega
   have i3:((q:Nat):Int)≤9223372036854775807:=by omega
   have n0: ¬(n:Int)=0:=by omega
   clear hq hs hx hz hst hc
   go_upto_region 7 with fail
   refine zWM 13 (by kernel_rfl) (by kernel_rfl) ?_
   simp only [List.take_succ_cons,List.take_zero,List.drop_succ_cons,List.drop_zero]
   repeat (go_big_quiet_step ((first|(go_at_call 80;exact Calls.quiet_of (HA1.out _)))))
   refine wpQuiet_nil ?_
   intro _ hw'
   obtain ⟨nq,hw''⟩:=hw'
   subst hw''
   have hO1:=((hO.out.drewN nq).set q hmn z).1
   rw [HST.out] at hO1
   have HO1:=Lib.hid hO1
   have HB1:Hid (Below w.heap.size w ((wr.drewN nq).setCell ⟨G,q,none⟩ (.int .u64 z))):=Lib.hid ((below_drewN hBr.out nq).setCell hGe _)
   clear hO1 hO hBr
   go_wp2
   go_roundw
   case rel=>exact ⟨i+1,by go_num,by omega,HO1,HB1⟩
   case measure=>simp [intOf];omega
  ·have hie:i=a:=by omega
   have hO1:=hO.out
   rw [hie] at hO1
   have HO1:=Lib.hid hO1
   have ti:decide ((i:Int)<(a:Int))=false:=decide_eq_false (by omega)
   clear hie hO1 hO
   go_wp2
   go_ret
   exact ⟨_,rfl,HO1.out,hBr.out⟩
theorem zH3 (v A:Value) (n:Int) (w:World) (hn:n<1∨1024<n):Calls Tryz.prog 39 #[v,A, .int .i64 n] w fun r w'=>r= .returned (.slice none 0 0)∧w=w':=by
 rcases hn with h|h
 ·have t1:decide (n<1)=true:=decide_eq_true h
  go_enter Tryz.func39,Tryz.ntmps39
  go_wp2
  go_ret
  exact ⟨rfl,rfl⟩
 ·have t1:decide (n<1)=false:=decide_eq_false (by omega)
  have t2:decide (n>1024)=true:=decide_eq_true (by omega)
  go_enter Tryz.func39,Tryz.ntmps39
  go_wp2
  go_ret
  exact ⟨rfl,rfl⟩
section
variable {p:Nat} [NeZero p]
def fld (n:Nat) (X:Nat→Fin p):Nat→Nat→Fin p
 | 0=>fun _=>0
 | i+1=>upd (fld n X i) (i%n) (fld n X i (i%n)+X i)
theorem zHu (n:Nat) (X:Nat→Fin p) (m:Nat):lst m (fld n X 0)=List.replicate m 0:=by
 show lst m (fun _=>(0:Fin p))=_
 unfold lst full
 apply List.ext_getElem <;> simp
theorem zH1 {w:World} {v:Value} {g:Int} (h:Fd w w.heap.size v p g) (A:Option Addr) (c:Nat) (L:List Int) (n:Nat) (hn0:0<n) (hn:n≤1024) (hl:L.length≤140737488351232) (hU:U64s L) (hA:RdI w w.heap.size .u64 A L):
  Calls Tryz.prog 39 #[v, .slice A L.length c, .int .i64 n] w fun r w'=> ∃V,r= .returned V∧OwnU w' w.heap.size V n (lst n (fld n (rz p L) L.length))∧Below w.heap.size w w':=by
 have h3:=h.p3
 have h4:=h.pmx
 refine zH4 v A c L n hn0 hn hl hA (fun i=>lst n (fld n (rz p L) i)) (fun i=>((fld n (rz p L) i (i%n)+rz p L i:Fin p).val:Int)) (zHu _ _ _) (fun i hi=>zLe _ _ _ _) (fun i hi wz hz=>?_)
 have hm:i%n<n:=Nat.mod_lt _ hn0
 show Calls _ _ #[v, .int .u64 ((lst n (fld n (rz p L) i)).getD (i%n) 0), .int .u64 (L.getD i 0)] wz _
 rw [zKY hm]
 have hu:=hU.at hi
 have hlt:=(fld n (rz p L) i (i%n)).isLt
 have h1:=zG9 (h.below hz) ((fld n (rz p L) i (i%n)).val:Int) (L.getD i 0) (by omega) (by omega) hu.1 hu.2
 rw [zGt,zt_of_val] at h1
 exact h1
end
theorem zCT (x y:Int) (w:World):Calls Tryz.prog 80 #[.pointer none, .int .u64 x, .int .u64 y] w fun e w'=>e= .returned (.int .u64 0)∧w=w':=by
 go_enter Tryz.func80,Tryz.ntmps80
 go_wp2
 go_ret
 exact ⟨rfl,rfl⟩
theorem zH2 {w:World} (A:Option Addr) (c:Nat) (L:List Int) (n:Nat) (hn0:0<n) (hn:n≤1024) (hl:L.length≤140737488351232) (hA:RdI w w.heap.size .u64 A L):
  Calls Tryz.prog 39 #[.pointer none, .slice A L.length c, .int .i64 n] w fun r w'=> ∃V,r= .returned V∧OwnU w' w.heap.size V n (List.replicate n 0)∧Below w.heap.size w w':=
 zH4 (.pointer none) A c L n hn0 hn hl hA (fun _=>List.replicate n 0) (fun _=>0) rfl (fun i hi=>by simp) (fun i hi wz hz=>(zCT _ _ _).mono fun e w' ⟨he,hw⟩=>⟨he,0,hw.symm⟩)
end

section
/- The document's products straight on, and round and round. -/
open Go.RowKit
open Alg
def rnd (p:Nat) [NeZero p] (L M:List Int):Nat→Fin p:=acc (fun i k=>(i+k)%L.length) (rz p L) (rz p M) M.length L.length
set_option maxHeartbeats 4000000 in
set_option maxRecDepth 100000 in
theorem zQd {p:Nat} [NeZero p] (w:World) (AA AB:Option Addr) (cA cB:Nat) (L M:List Int) (p1:3≤(p:Int)) (p2':(p:Int)<9223372036854775808) (l1:0<L.length) (l2:0<M.length) (l3:L.length+M.length-1≤1024)
  (hU:U64s L) (hU':U64s M) (hA:RdI w w.heap.size .u64 AA L) (hB:RdI w w.heap.size .u64 AB M):
  Calls Tryz.prog 44 #[.int .u64 p, .slice AA L.length cA, .slice AB M.length cB] w fun r w'=> ∃V,r= .returned V∧OwnU w' w.heap.size V (L.length+M.length-1) (lst (L.length+M.length-1) (drc p L M))∧Below w.heap.size w w':=by
 obtain ⟨i0,hi,hz0,hz1,hz2⟩:=info_parts zJt
 have HPM:=Lib.hid (And.intro p1 p2')
 obtain ⟨bA,oA,rfl,hbA,hcA⟩:=hA l1
 obtain ⟨bB,oB,rfl,hbB,hcB⟩:=hB l2
 have HcA:Hid (∀i,i<L.length→w.cell? ⟨bA,oA+i,none⟩=some (.int .u64 (L.getD i 0))):=Lib.hid hcA
 have HcB:Hid (∀i,i<M.length→w.cell? ⟨bB,oB+i,none⟩=some (.int .u64 (M.getD i 0))):=Lib.hid hcB
 have HUA:Hid (∀i,i<L.length→0≤L.getD i 0∧L.getD i 0≤18446744073709551615):=Lib.hid fun i hi=>hU.at hi
 have HUB:Hid (∀i,i<M.length→0≤M.getD i 0∧M.getD i 0≤18446744073709551615):=Lib.hid fun i hi=>hU'.at hi
 have HDd:Hid (drc p L M=acc (fun i k=>i+k) (rz p L) (rz p M) M.length L.length):=Lib.hid rfl
 have HX0:Hid (∀i,zt p (L.getD i 0)=rz p L i):=Lib.hid fun i=>rfl
 have HY0:Hid (∀i,zt p (M.getD i 0)=rz p M i):=Lib.hid fun i=>rfl
 obtain ⟨D,hD⟩: ∃D,D=drc p L M:=⟨_,rfl⟩
 rw [←hD] at HDd ⊢
 clear hD
 obtain ⟨X,hX⟩: ∃X,X=rz p L:=⟨_,rfl⟩
 obtain ⟨Y,hY⟩: ∃Y,Y=rz p M:=⟨_,rfl⟩
 rw [←hX] at HDd HX0
 rw [←hY] at HDd HY0
 clear hX hY
 obtain ⟨a,ha⟩: ∃a,a=L.length:=⟨_,rfl⟩
 obtain ⟨b,hb⟩: ∃b,b=M.length:=⟨_,rfl⟩
 rw [←ha] at HDd HcA HUA l1 l3 ⊢
 rw [←hb] at HDd HcB HUB l2 l3 ⊢
 clear hA hB hcA hcB ha hb hU hU' p1 p2'
 obtain ⟨n,hn⟩: ∃n,n=a+b-1:=⟨_,rfl⟩
 have hn':(a:Int)+(b:Int)-1=((n:Nat):Int):=by omega
 have hn0:n≤1024:=by omega
 have Hab:Hid (∀i k,i<a→k<b→i+k<n):=Lib.hid fun i k _ _=>by omega
 rw [←hn]
 have hla:a≤1024:=by omega
 have hlb:b≤1024:=by omega
 clear l3
 have HZ:=Lib.hid (zAU n (fun i k=>i+k) X Y b)
 clear hn
 go_enter Tryz.func44,Tryz.ntmps44
 go_wp2_with (at_make;refine wpList_make_full _ rfl _ _ 54 rfl w.heap.size 22 i0 (.int .u64 0) 1 Tryz.underlying54 hi hz0 hz1 _ _ _ _ n rfl rfl ?l1 ?l2 ?b2 ?b3 (Nat.le_refl _) ?_)
 case l1=>omega
 case l2=>omega
 case b2=>rw [hz2];omega
 case b3=>unfold maxLen;omega
 intro w8 hown hgrow
 have hown0:OwnU w8 w.heap.size (.slice (some ⟨w.heap.size,0,none⟩) n n) n (lst n (acc (fun i k=>i+k) X Y b 0)):=by
  unfold OwnU
  rw [HZ.out,zJC,←toList_madeCells_one];exact hown
 have hB8:Below w.heap.size w w8:=(Below.refl _ _).grown hgrow (Nat.le_refl _) (fun k h=>by cases h)
 obtain ⟨G,hG⟩: ∃G,G=w.heap.size:=⟨_,rfl⟩
 rw [←hG]
 have hGe:w.heap.size≤G:=by omega
 have nSG:bA≠G:=by omega
 have nCG:bB≠G:=by omega
 have nSG':G≠bA:=by omega
 have nCG':G≠bB:=by omega
 rw [show (⟨w.heap.size,0,none⟩:Addr)=⟨G,0,none⟩ by rw [hG]] at hown0
 have HO8:=Lib.hid hown0
 have HB8:=Lib.hid hB8
 clear hown hgrow hown0 hB8 hG
 go_wp2
 go_loopw [21] (fun I wr=> ∃i:Nat,I= .int .i64 i∧i≤a∧Hid (OwnU wr w.heap.size (.slice (some ⟨G,0,none⟩) n n) n (lst n (acc (fun i k=>i+k) X Y b i)))∧Hid (Below w.heap.size w wr)) (fun I _=>a-(intOf I).toNat)
 case atStart=>exact ⟨0,rfl,by omega,HO8,HB8⟩
 case round=>
  clear HO8 HB8
  obtain ⟨i,rfl,hin,hO,hBr⟩:=hrel
  by_cases hlt:i<a
  ·have c0:=zDs hBr.out hbA (HcA.out i hlt)
   have ux:=HUA.out i hlt
   have ex:=HX0.out i
   obtain ⟨x,hx⟩: ∃x,x=L.getD i 0:=⟨_,rfl⟩
   rw [←hx] at c0 ux ex
   have HTi:Hid (∀y:Int,0≤y→y≤18446744073709551615→ ∀wz,Calls Tryz.prog 73 #[.int .u64 x, .int .u64 y, .int .u64 p] wz fun e w'=>e= .returned (.int .u64 ((X i*zt p y).val:Int))∧ ∃k,w'=wz.drewN k):=Lib.hid (fun y h0 h1 wz=>by
    have:=HPM.out
    have h2:=zQw x y p wz ux.1 ux.2 h0 h1 (by omega) (by omega)
    rw [zGv,ex] at h2
    exact h2)
   have hI:lst n (acc (fun i k=>i+k) X Y b i)=lst n (inn (fun k=>i+k) (X i) Y (acc (fun i k=>i+k) X Y b i) 0):=rfl
   rw [hI] at hO
   have HE:Hid (lst n (inn (fun k=>i+k) (X i) Y (acc (fun i k=>i+k) X Y b i) b)=lst n (acc (fun i k=>i+k) X Y b (i+1))):=Lib.hid rfl
   obtain ⟨F0,hF0⟩: ∃F0,F0=acc (fun i k=>i+k) X Y b i:=⟨_,rfl⟩
   rw [←hF0] at hO HE
   have HIS:=Lib.hid (fun k=>zJx n (fun k=>i+k) (X i) Y F0 k)
   obtain ⟨xi,hxi⟩: ∃xi,xi=X i:=⟨_,rfl⟩
   rw [←hxi] at hO HE HIS HTi
   clear hF0 hI ux ex hx hxi
   go_wp2
   go_loopw [28] (fun K wr=> ∃k:Nat,K= .int .i64 k∧k≤b∧Hid (OwnU wr w.heap.size (.slice (some ⟨G,0,none⟩) n n) n (lst n (inn (fun k=>i+k) xi Y F0 k)))∧Hid (Below w.heap.size w wr)) (fun K _=>b-(intOf K).toNat)
   case atStart=>exact ⟨0,rfl,by omega,hO,hBr⟩
   case round=>
    clear hO hBr
    obtain ⟨k,rfl,hkb,hO,hBr⟩:=hrel
    by_cases hkl:k<b
    ·have c1:=zDs hBr.out hbB (HcB.out k hkl)
     have uy:=HUB.out k hkl
     have ey:=HY0.out k
     obtain ⟨y,hy⟩: ∃y,y=M.getD k 0:=⟨_,rfl⟩
     rw [←hy] at c1 uy ey
     have hik:=Hab.out i k hlt hkl
     have HT:Hid (∀q,Calls Tryz.prog 73 #[.int .u64 x, .int .u64 y, .int .u64 p] (wr.drewN q) fun e w'=>e= .returned (.int .u64 ((xi*Y k).val:Int))∧ ∃k,w'=(wr.drewN q).drewN k):=Lib.hid (fun q=>by
      have h1:=HTi.out y uy.1 uy.2 (wr.drewN q)
      rw [ey] at h1;exact h1)
     have hst:=HIS.out k
     obtain ⟨m,hm⟩: ∃m,m=xi*Y k:=⟨_,rfl⟩
     rw [←hm] at HT hst
     obtain ⟨o,ho⟩: ∃o,o=i+k:=⟨_,rfl⟩
     have e1:(i:Int)+(k:Int)=((o:Nat):Int):=by omega
     simp only [←ho] at hst hik
     obtain ⟨c2,f2,_⟩:=zN9 hO.out o hik
     rw [zKY hik] at c2
     obtain ⟨s,hs⟩: ∃s,s=inn (fun k=>i+k) xi Y F0 k o:=⟨_,rfl⟩
     rw [←hs] at c2 hst
     have hpm: ∀z:Fin p,0≤((z.val:Nat):Int)∧((z.val:Nat):Int)≤18446744073709551615:=fun z=>by have:=z.isLt;have:=HPM.out.2;omega
     have HAd:Hid (∀q,Calls Tryz.prog 40 #[.int .u64 (s.val:Int), .int .u64 (m.val:Int), .int .u64 p] (wr.drewN q) fun e w'=>e= .returned (.int .u64 ((s+m).val:Int))∧ ∃k,w'=(wr.drewN q).drewN k):=Lib.hid (fun q=>by
      have:=HPM.out
      have h1:=zQt (s.val:Int) (m.val:Int) p (wr.drewN q) (hpm s).1 (hpm s).2 (hpm m).1 (hpm m).2 (by omega) (by omega)
      rw [zGt,zt_of_val,zt_of_val] at h1
      exact h1)
     obtain ⟨z0,hz0'⟩: ∃z0,z0=s+m:=⟨_,rfl⟩
     rw [←hz0'] at HAd hst
     have HST:=Lib.hid hst
     have i1:(0:Int)≤((o:Nat):Int):=by omega
     have i2:((o:Nat):Int)<(n:Int):=by omega
     have i3:((o:Nat):Int)≤9223372036854775807:=by omega
     clear hs hm hst hz0' hpm uy ey hy ho
     go_upto_region 8 with fail
     refine zWM 16 (by kernel_rfl) (by kernel_rfl) ?_
     simp only [List.take_succ_cons,List.take_zero,List.drop_succ_cons,List.drop_zero]
     repeat (go_big_quiet_step ((first|(go_at_call 73;exact Calls.quiet_of (HT.out _))|(go_at_call 40;exact Calls.quiet_of (HAd.out _)))))
     refine wpQuiet_nil ?_
     intro _ hw'
     obtain ⟨nq,hw''⟩:=hw'
     subst hw''
     have hO1:=((hO.out.drewN nq).set o hik (z0.val:Int)).1
     rw [HST.out] at hO1
     have HO1:=Lib.hid hO1
     have HB1:Hid (Below w.heap.size w ((wr.drewN nq).setCell ⟨G,o,none⟩ (.int .u64 (z0.val:Int)))):=Lib.hid ((below_drewN hBr.out nq).setCell hGe _)
     clear hO1 hO hBr
     go_wp2
     go_roundw
     case rel=>exact ⟨k+1,by go_num,by omega,HO1,HB1⟩
     case measure=>simp [intOf];omega
    ·have hke:k=b:=by omega
     have hO1:=hO.out
     rw [hke,HE.out] at hO1
     have HO1:=Lib.hid hO1
     have tk:decide ((k:Int)<(b:Int))=false:=decide_eq_false (by omega)
     clear hO hO1 hke
     go_wp2
     go_roundw
     case rel=>exact ⟨i+1,by go_num,by omega,HO1,hBr⟩
     case measure=>simp [intOf];omega
  ·have hie:i=a:=by omega
   have hO1:=hO.out
   rw [hie,←HDd.out] at hO1
   have HO1:=Lib.hid hO1
   have ti:decide ((i:Int)<(a:Int))=false:=decide_eq_false (by omega)
   clear hie hO1 hO
   go_wp2
   go_ret
   exact ⟨_,rfl,HO1.out,hBr.out⟩
end

section
/- Products of lists as sums: straight on, round and round, folded. -/
open Alg
section
variable {p:Nat} [NeZero p]
theorem zTR {n:Nat} {f:Nat→Fin p} (h: ∀i,i<n→f i=0):sm n f=0:=(sm_congr h).trans (sm_const0 n)
theorem zJy (pl:Nat→Nat) (x:Fin p) (Y F:Nat→Fin p): ∀k t,inn pl x Y F k t=F t+sm k fun j=>if pl j=t then x*Y j else 0
 | 0,t=>by show F t=F t+0;grind
 | k+1,t=>by
  rw [sm_succ]
  show upd (inn pl x Y F k) (pl k) (inn pl x Y F k (pl k)+x*Y k) t=_
  by_cases h:pl k=t
  ·subst h
   rw [if_pos rfl,upd_same,zJy pl x Y F k (pl k)];grind
  ·rw [if_neg h,zWh (fun e=>h e.symm),zJy pl x Y F k t];grind
theorem zAT (pl:Nat→Nat→Nat) (X Y:Nat→Fin p) (m t:Nat): ∀i,acc pl X Y m i t=sm i fun j=>sm m fun k=>if pl j k=t then X j*Y k else 0
 | 0=>rfl
 | i+1=>by
  rw [sm_succ,←zAT pl X Y m t i]
  exact zJy (pl i) (X i) Y (acc pl X Y m i) m t
theorem zSh (b j t:Nat) (x:Fin p) (Y:Nat→Fin p):(sm b fun k=>if j+k=t then x*Y k else 0)=if j≤t then x*padz b Y (t-j) else 0:=by
 by_cases h:j≤t
 ·rw [if_pos h]
  by_cases h2:t-j<b
  ·rw [zNJ h2,sm_one (t-j) h2 fun i hi hn=>if_neg (by omega),if_pos (by omega)]
  ·rw [zNK (by omega),zTR fun k hk=>if_neg (by omega)];grind
 ·rw [if_neg h]
  exact zTR fun k hk=>if_neg (by omega)
theorem zFY (L M:List Int) (t:Nat):drc p L M t=sm L.length fun j=>sm M.length fun k=>if j+k=t then rz p L j*rz p M k else 0:=zAT _ _ _ _ _ _
theorem zFW (L M:List Int) (t:Nat):drc p L M t=lcv p L M t:=by
 rw [zFY]
 unfold lcv cv
 rw [sm_congr fun j _=>zSh M.length j t (rz p L j) (rz p M)]
 have h1:(sm L.length fun j=>if j≤t then rz p L j*padz M.length (rz p M) (t-j) else 0)=sm (L.length+(t+1)) fun j=>if j≤t then padz L.length (rz p L) j*padz M.length (rz p M) (t-j) else 0:=by
  rw [sm_split,zTR (n:=t+1) fun i _=>by rw [zNK (A:=rz p L) (by omega)];split <;> grind]
  have e:(sm L.length fun j=>if j≤t then rz p L j*padz M.length (rz p M) (t-j) else 0)=sm L.length fun j=>if j≤t then padz L.length (rz p L) j*padz M.length (rz p M) (t-j) else 0:=sm_congr fun j hj=>by rw [zNJ (A:=rz p L) hj]
  rw [e];grind
 have h2:(sm (t+1) fun j=>padz L.length (rz p L) j*padz M.length (rz p M) (t-j))=sm ((t+1)+L.length) fun j=>if j≤t then padz L.length (rz p L) j*padz M.length (rz p M) (t-j) else 0:=by
  have e:(sm (t+1) fun j=>padz L.length (rz p L) j*padz M.length (rz p M) (t-j))=sm (t+1) fun j=>if j≤t then padz L.length (rz p L) j*padz M.length (rz p M) (t-j) else 0:=sm_congr fun j hj=>(if_pos (by omega)).symm
  rw [sm_split (t+1) L.length,zTR (n:=L.length) fun i _=>if_neg (by omega),e];grind
 rw [h1,h2,Nat.add_comm]
theorem zRY (L M:List Int) (h:L.length=M.length) {t:Nat} (ht:t<L.length):rnd p L M t=cyc L.length (rz p L) (rz p M) t:=by
 show acc (fun i k=>(i+k)%L.length) (rz p L) (rz p M) M.length L.length t=_
 rw [zAT,←h]
 unfold cyc
 refine sm_congr fun j hj=>?_
 have hk:=Nat.mod_lt (t+(L.length-j)) (show 0<L.length by omega)
 have e1:(j+(t+(L.length-j))%L.length)%L.length=t:=by
  rw [Nat.add_mod,Nat.mod_mod,←Nat.add_mod,show j+(t+(L.length-j))=t+L.length by omega,Nat.add_mod_right,Nat.mod_eq_of_lt ht]
 rw [sm_one ((t+(L.length-j))%L.length) hk fun i hi hn=>if_neg fun e=>hn (zAW hi hk (j:=j) (by rw [Nat.add_comm i j,Nat.add_comm _ j,e,e1])),if_pos e1]
theorem zFV (L M:List Int) (t:Nat):drc p L M t=drc p M L t:=by
 rw [zFY,zFY,sm_swap]
 exact sm_congr fun j _=>sm_congr fun k _=>by
  rw [Nat.add_comm,show rz p L k*rz p M j=rz p M j*rz p L k by grind]
theorem drc3 (L M K:List Int) (hL:0<L.length) (hM:0<M.length) (t:Nat):
  drc p (lst (L.length+M.length-1) (drc p L M)) K t=sm L.length fun i=>sm M.length fun j=>sm K.length fun k=>if i+j+k=t then rz p L i*rz p M j*rz p K k else 0:=by
 rw [zFY,zLb]
 have h1:(sm (L.length+M.length-1) fun m=>sm K.length fun k=>if m+k=t then rz p (lst (L.length+M.length-1) (drc p L M)) m*rz p K k else 0) =
   sm (L.length+M.length-1) fun m=>sm L.length fun i=>sm M.length fun j=>sm K.length fun k=>if i+j=m then (if m+k=t then rz p L i*rz p M j*rz p K k else 0) else 0:=by
  refine sm_congr fun m hm=>?_
  have e: ∀k,(if m+k=t then rz p (lst (L.length+M.length-1) (drc p L M)) m*rz p K k else 0) =
    sm L.length fun i=>sm M.length fun j=>if i+j=m then (if m+k=t then rz p L i*rz p M j*rz p K k else 0) else 0:=fun k=>by
   rw [zSG hm,zFY]
   by_cases hk:m+k=t
   ·rw [if_pos hk,show ∀x y:Fin p,x*y=y*x by intros;grind,←sm_mul]
    refine sm_congr fun i _=>?_
    rw [←sm_mul]
    refine sm_congr fun j _=>?_
    by_cases h2:i+j=m
    ·rw [if_pos h2,if_pos h2,if_pos hk];grind
    ·rw [if_neg h2,if_neg h2];grind
   ·rw [if_neg hk]
    refine (zTR fun i _=>zTR fun j _=>?_).symm
    rw [if_neg hk];split <;> rfl
  rw [sm_congr fun k _=>e k,sm_swap]
  exact sm_congr fun i _=>by rw [sm_swap]
 rw [h1,sm_swap]
 refine sm_congr fun i hi=>?_
 rw [sm_swap]
 refine sm_congr fun j hj=>?_
 rw [sm_swap]
 refine sm_congr fun k hk=>?_
 rw [sm_one (i+j) (by omega) fun m hm hn=>if_neg fun e=>hn e.symm,if_pos rfl]
theorem zFU (L M K:List Int) (hL:0<L.length) (hM:0<M.length) (hK:0<K.length) (t:Nat):
  drc p (lst (L.length+M.length-1) (drc p L M)) K t=drc p L (lst (M.length+K.length-1) (drc p M K)) t:=by
 rw [zFV L,drc3 L M K hL hM,drc3 M K L hM hK,sm_swap]
 refine sm_congr fun j _=>?_
 rw [sm_swap]
 exact sm_congr fun k _=>sm_congr fun i _=>by
  rw [show i+j+k=j+k+i by omega,show rz p L i*rz p M j*rz p K k=rz p M j*rz p K k*rz p L i by grind]
theorem zFX (U M:List Int) (k:Nat) (hU:U.length=k+1) (h0: ∀i,i<k→rz p U i=0) (h1:rz p U k=1) {t:Nat} (ht:t<k+M.length):drc p U M t=if t<k then 0 else rz p M (t-k):=by
 rw [zFY,hU,sm_succ,h1,zTR (n:=k) fun j hj=>zTR fun i _=>by rw [h0 j hj];split <;> grind,zSh]
 by_cases h:t<k
 ·rw [if_pos h,if_neg (by omega)];grind
 ·rw [if_neg h,if_pos (by omega),zNJ (by omega)];grind
end
end

section
/- The document's errors of a product straight on. -/
open Go.RowKit
open Alg
theorem zQb (AA AB:Option Addr) (cA cB n:Nat) (p:Int) (L M:List Int) (w:World) (hl:L.length≤140737488351232) (hm:M.length≤140737488351232) (hA:RdI w n .u64 AA L) (hB:RdI w n .u64 AB M):
  Calls Tryz.prog 77 #[.int .u64 p, .slice AA L.length cA, .slice AB M.length cB] w fun e w'=>e= .returned (.bool (zI1 p L && zI1 p M))∧w=w':=by
 have h1:=Lib.hid (zP9 AA cA n p L w hl hA)
 have h2:=Lib.hid (zP9 AB cB n p M w hm hB)
 obtain ⟨a,ha⟩: ∃a,a=zI1 p L:=⟨_,rfl⟩
 obtain ⟨b,hb⟩: ∃b,b=zI1 p M:=⟨_,rfl⟩
 rw [←ha] at h1 ⊢
 rw [←hb] at h2 ⊢
 clear ha hb hA hB
 cases a
 ·go_enter Tryz.func77,Tryz.ntmps77
  go_wp2_with fail
  refine h1.out.mono ?_
  rintro e w1 ⟨rfl,rfl⟩
  go_wp2
  go_ret
  exact ⟨rfl,rfl⟩
 ·go_enter Tryz.func77,Tryz.ntmps77
  go_wp2_with fail
  refine h1.out.mono ?_
  rintro e w1 ⟨rfl,rfl⟩
  go_wp2_with fail
  refine h2.out.mono ?_
  rintro e w1 ⟨rfl,rfl⟩
  go_wp2
  go_ret
  exact ⟨by first|rfl|simp,rfl⟩
set_option maxHeartbeats 2000000 in
theorem zUr (AA AB:Option Addr) (cA cB:Nat) (p:Int) (L M:List Int) (w:World) (hl:L.length≤140737488351232) (hm:M.length≤140737488351232) (hA:RdI w w.heap.size .u64 AA L) (hB:RdI w w.heap.size .u64 AB M):
  Calls Tryz.prog 33 #[.int .u64 p, .slice AA L.length cA, .slice AB M.length cB, .bool false] w fun e w'=>e= .returned (.int .i64 (dirf p L M))∧w=w':=by
 have hGd:=Lib.hid (zQb AA AB cA cB w.heap.size p L M w hl hm hA hB)
 obtain ⟨gd,hgd⟩: ∃gd,gd=(zI1 p L && zI1 p M):=⟨_,rfl⟩
 have hd:Hid (dirf p L M=if L.length=0∨M.length=0 then 1 else if 1024<(L.length:Int)+(M.length:Int)-1 then 13 else if gd=false then 9 else 0):=Lib.hid (by rw [hgd];rfl)
 rw [←hgd] at hGd
 obtain ⟨z,hz⟩: ∃z,z=dirf p L M:=⟨_,rfl⟩
 rw [←hz] at hd ⊢
 obtain ⟨a,ha⟩: ∃a,a=L.length:=⟨_,rfl⟩
 obtain ⟨b,hb⟩: ∃b,b=M.length:=⟨_,rfl⟩
 rw [←ha] at hd hGd hl ⊢
 rw [←hb] at hd hGd hm ⊢
 clear hA hB hgd hz ha hb
 by_cases ha0:a=0
 ·have hz1:Hid (z=1):=Lib.hid (by rw [hd.out,if_pos (Or.inl ha0)])
  have t1:((a:Int) == 0)=true:=by simp [ha0]
  clear hd ha0 hGd
  go_enter Tryz.func33,Tryz.ntmps33
  go_wp2
  go_ret
  exact ⟨by rw [hz1.out];rfl,rfl⟩
 have t1:((a:Int) == 0)=false:=by simp [ha0]
 by_cases hb0:b=0
 ·have hz1:Hid (z=1):=Lib.hid (by rw [hd.out,if_pos (Or.inr hb0)])
  have t2:((b:Int) == 0)=true:=by simp [hb0]
  clear hd ha0 hb0 hGd
  go_enter Tryz.func33,Tryz.ntmps33
  go_wp2
  go_ret
  exact ⟨by rw [hz1.out];rfl,rfl⟩
 have t2:((b:Int) == 0)=false:=by simp [hb0]
 obtain ⟨n,hn⟩: ∃n,n=a+b-1:=⟨_,rfl⟩
 have hn':(a:Int)+(b:Int)-1=((n:Nat):Int):=by omega
 have hd1:=hd.out
 rw [if_neg (by omega),hn'] at hd1
 by_cases hl0:1024<n
 ·have hz1:Hid (z=13):=Lib.hid (by rw [hd1,if_pos (by omega)])
  have t3:decide (((n:Nat):Int)>1024)=true:=decide_eq_true (by omega)
  clear hd hd1 ha0 hb0 hGd hn
  go_enter Tryz.func33,Tryz.ntmps33
  go_wp2
  go_ret
  exact ⟨by rw [hz1.out];rfl,rfl⟩
 have t3:decide (((n:Nat):Int)>1024)=false:=decide_eq_false (by omega)
 rw [if_neg (by omega)] at hd1
 have HD:=Lib.hid hd1
 clear hd hd1 ha0 hb0 hn
 cases gd
 ·go_enter Tryz.func33,Tryz.ntmps33
  go_wp2_with fail
  refine hGd.out.mono ?_
  rintro e w1 ⟨rfl,rfl⟩
  go_wp2
  go_ret
  exact ⟨by rw [HD.out];rfl,rfl⟩
 ·go_enter Tryz.func33,Tryz.ntmps33
  go_wp2_with fail
  refine hGd.out.mono ?_
  rintro e w1 ⟨rfl,rfl⟩
  go_wp2
  go_ret
  exact ⟨by rw [HD.out];rfl,rfl⟩
end

section
/- The document's errors of a product straight on, by transforms. -/
open Go.RowKit
open Alg
set_option maxHeartbeats 2000000 in
theorem zUq (AA AB:Option Addr) (cA cB:Nat) (p:Int) (p1:3≤p) (p2':p<9223372036854775808) (L M:List Int) (w:World) (hl:L.length≤140737488351232) (hm:M.length≤140737488351232) (hA:RdI w w.heap.size .u64 AA L) (hB:RdI w w.heap.size .u64 AB M):
  Calls Tryz.prog 33 #[.int .u64 p, .slice AA L.length cA, .slice AB M.length cB, .bool true] w fun e w'=>e= .returned (.int .i64 (linf p L M))∧w=w':=by
 have hGd:=Lib.hid (zQb AA AB cA cB w.heap.size p L M w hl hm hA hB)
 obtain ⟨gd,hgd⟩: ∃gd,gd=(zI1 p L && zI1 p M):=⟨_,rfl⟩
 have hd:Hid (linf p L M=if L.length=0∨M.length=0 then 1 else if 1024<(L.length:Int)+(M.length:Int)-1 then 13 else if fitR (pd ((L.length:Int)+(M.length:Int)-1)) p=false then 4 else if gd=false then 9 else 0):=Lib.hid (by rw [hgd];rfl)
 rw [←hgd] at hGd
 obtain ⟨z,hz⟩: ∃z,z=linf p L M:=⟨_,rfl⟩
 rw [←hz] at hd ⊢
 obtain ⟨a,ha⟩: ∃a,a=L.length:=⟨_,rfl⟩
 obtain ⟨b,hb⟩: ∃b,b=M.length:=⟨_,rfl⟩
 rw [←ha] at hd hGd hl ⊢
 rw [←hb] at hd hGd hm ⊢
 clear hA hB hgd hz ha hb
 by_cases ha0:a=0
 ·have hz1:Hid (z=1):=Lib.hid (by rw [hd.out,if_pos (Or.inl ha0)])
  have t1:((a:Int) == 0)=true:=by simp [ha0]
  clear hd ha0 hGd
  go_enter Tryz.func33,Tryz.ntmps33
  go_wp2
  go_ret
  exact ⟨by rw [hz1.out];rfl,rfl⟩
 have t1:((a:Int) == 0)=false:=by simp [ha0]
 by_cases hb0:b=0
 ·have hz1:Hid (z=1):=Lib.hid (by rw [hd.out,if_pos (Or.inr hb0)])
  have t2:((b:Int) == 0)=true:=by simp [hb0]
  clear hd ha0 hb0 hGd
  go_enter Tryz.func33,Tryz.ntmps33
  go_wp2
  go_ret
  exact ⟨by rw [hz1.out];rfl,rfl⟩
 have t2:((b:Int) == 0)=false:=by simp [hb0]
 obtain ⟨n,hn⟩: ∃n,n=a+b-1:=⟨_,rfl⟩
 have hn':(a:Int)+(b:Int)-1=((n:Nat):Int):=by omega
 have hd1:=hd.out
 rw [if_neg (by omega),hn'] at hd1
 by_cases hl0:1024<n
 ·have hz1:Hid (z=13):=Lib.hid (by rw [hd1,if_pos (by omega)])
  have t3:decide (((n:Nat):Int)>1024)=true:=decide_eq_true (by omega)
  clear hd hd1 ha0 hb0 hGd hn
  go_enter Tryz.func33,Tryz.ntmps33
  go_wp2
  go_ret
  exact ⟨by rw [hz1.out];rfl,rfl⟩
 have t3:decide (((n:Nat):Int)>1024)=false:=decide_eq_false (by omega)
 rw [if_neg (by omega)] at hd1
 clear hd ha0 hb0 hn
 have HPd:=Lib.hid (fun wz=>zSp ((n:Nat):Int) wz (by omega) (by omega))
 obtain ⟨_,hq3,hq4,hq5⟩:=zOc (show ((n:Nat):Int)≤4096 by omega)
 obtain ⟨N,hN⟩: ∃N,N=pd ((n:Nat):Int):=⟨_,rfl⟩
 rw [←hN] at hd1 HPd hq3 hq4 hq5
 obtain ⟨f,hf⟩: ∃f,f=fitR N p:=⟨_,rfl⟩
 rw [←hf] at hd1
 have HD:=Lib.hid hd1
 have hfd:f=decide ((p-1)%N=0):=by
  rw [hf];unfold fitR
  rw [show decide (0<N)=true from decide_eq_true (by omega)]
  by_cases h:(p-1)%N=0 <;> simp [h]
 obtain ⟨r,hr⟩: ∃r,r=(p-1)%N:=⟨_,rfl⟩
 rw [←hr] at hfd
 have er:(p-1)%N=r:=hr.symm
 have er2:(p-1).tmod N=r:=by rw [Int.tmod_eq_emod_of_nonneg (by omega)];exact er
 have r0:0≤r:=by rw [hr];exact Int.emod_nonneg _ (by omega)
 have r1:r<N:=by rw [hr];exact Int.emod_lt_of_pos _ (by omega)
 have n0: ¬N=0:=by omega
 have wN:IntKind.u64.wrap N=N:=IntWalk.u64_in _ (by omega)
 have wr:IntKind.u64.wrap r=r:=IntWalk.u64_in _ (by omega)
 have wp:IntKind.u64.wrap (p-1)=p-1:=IntWalk.u64_in _ (by omega)
 clear hd1 hN hf hr
 by_cases hr0:r=0
 ·have hft:f=true:=by rw [hfd];exact decide_eq_true hr0
  have t4:(r == 0)=true:=by simp [hr0]
  rw [hft] at HD
  clear hfd hft hr0
  cases gd
  ·go_enter Tryz.func33,Tryz.ntmps33
   go_wp2_with fail
   refine (HPd.out _).mono ?_
   rintro e w1 ⟨rfl,rfl⟩
   go_wp2_with fail
   refine hGd.out.mono ?_
   rintro e w1 ⟨rfl,rfl⟩
   go_wp2
   go_ret
   exact ⟨by rw [HD.out];rfl,rfl⟩
  ·go_enter Tryz.func33,Tryz.ntmps33
   go_wp2_with fail
   refine (HPd.out _).mono ?_
   rintro e w1 ⟨rfl,rfl⟩
   go_wp2_with fail
   refine hGd.out.mono ?_
   rintro e w1 ⟨rfl,rfl⟩
   go_wp2
   go_ret
   exact ⟨by rw [HD.out];rfl,rfl⟩
 ·have hft:f=false:=by rw [hfd];exact decide_eq_false hr0
  have t4:(r == 0)=false:=by simp [hr0]
  rw [hft] at HD
  clear hfd hft hr0 hGd
  go_enter Tryz.func33,Tryz.ntmps33
  go_wp2_with fail
  refine (HPd.out _).mono ?_
  rintro e w1 ⟨rfl,rfl⟩
  go_wp2
  go_ret
  exact ⟨by rw [HD.out];rfl,rfl⟩
end

section
/- convolve.Linear: what can't be. -/
open Go.RowKit
open Alg
theorem zKC (w:World) (AA AB:Option Addr) (cA cB a b:Nat) (ha:a≤140737488351232) (hb:b≤140737488351232):Calls Tryz.prog 43 #[.pointer none, .slice AA a cA, .slice AB b cB] w fun r w'=>r= .returned (.tuple #[.slice none 0 0, .int .i64 2])∧w=w':=by
 go_enter Tryz.func43,Tryz.ntmps43
 go_wp2
 go_ret2
 exact ⟨rfl,rfl⟩
set_option maxHeartbeats 2000000 in
theorem zKD {w:World} {v:Value} {p g:Int} (h:Fd w w.heap.size v p g) (AA AB:Option Addr) (cA cB:Nat) (L M:List Int) (hl:L.length≤140737488351232) (hm:M.length≤140737488351232)
  (hU:U64s L) (hU':U64s M) (hA:RdI w w.heap.size .u64 AA L) (hB:RdI w w.heap.size .u64 AB M) (hf:linf p L M≠0):
  Calls Tryz.prog 43 #[v, .slice AA L.length cA, .slice AB M.length cB] w fun r w'=>r= .returned (.tuple #[.slice none 0 0, .int .i64 (linf p L M)])∧w=w':=by
 have HDv:=Lib.hid (fun n h0 h1=>zFG h n h0 h1)
 obtain ⟨fb,rfl⟩: ∃fb,v= .pointer (some ⟨fb,0,none⟩):=by
  obtain ⟨b,c,t,o,s,sv,hv,_⟩:=h
  exact ⟨b,hv⟩
 have hGd:=Lib.hid (zDH h AA AB cA cB L M hl hm hU hU' hA hB)
 obtain ⟨gd,hgd⟩: ∃gd,gd=(zI1 p L && zI1 p M):=⟨_,rfl⟩
 have hd:Hid (linf p L M=if L.length=0∨M.length=0 then 1 else if 1024<(L.length:Int)+(M.length:Int)-1 then 13 else if fitR (pd ((L.length:Int)+(M.length:Int)-1)) p=false then 4 else if gd=false then 9 else 0):=Lib.hid (by rw [hgd];rfl)
 rw [←hgd] at hGd
 obtain ⟨z,hz⟩: ∃z,z=linf p L M:=⟨_,rfl⟩
 rw [←hz] at hd hf ⊢
 obtain ⟨a,ha⟩: ∃a,a=L.length:=⟨_,rfl⟩
 obtain ⟨b,hb⟩: ∃b,b=M.length:=⟨_,rfl⟩
 rw [←ha] at hd hGd hl ⊢
 rw [←hb] at hd hGd hm ⊢
 clear h hA hB hU hU' hgd hz ha hb
 by_cases ha0:a=0
 ·have hz1:Hid (z=1):=Lib.hid (by rw [hd.out,if_pos (Or.inl ha0)])
  have t1:((a:Int) == 0)=true:=by simp [ha0]
  clear hd hf ha0 hGd HDv
  go_enter Tryz.func43,Tryz.ntmps43
  go_wp2
  go_ret2
  exact ⟨by rw [hz1.out];rfl,rfl⟩
 have t1:((a:Int) == 0)=false:=by simp [ha0]
 by_cases hb0:b=0
 ·have hz1:Hid (z=1):=Lib.hid (by rw [hd.out,if_pos (Or.inr hb0)])
  have t2:((b:Int) == 0)=true:=by simp [hb0]
  clear hd hf ha0 hb0 hGd HDv
  go_enter Tryz.func43,Tryz.ntmps43
  go_wp2
  go_ret2
  exact ⟨by rw [hz1.out];rfl,rfl⟩
 have t2:((b:Int) == 0)=false:=by simp [hb0]
 obtain ⟨n,hn⟩: ∃n,n=a+b-1:=⟨_,rfl⟩
 have hn':(a:Int)+(b:Int)-1=((n:Nat):Int):=by omega
 have hd1:=hd.out
 rw [if_neg (by omega),hn'] at hd1
 by_cases hl0:1024<n
 ·have hz1:Hid (z=13):=Lib.hid (by rw [hd1,if_pos (by omega)])
  have t3:decide (((n:Nat):Int)>1024)=true:=decide_eq_true (by omega)
  clear hd hd1 hf ha0 hb0 hGd hn HDv
  go_enter Tryz.func43,Tryz.ntmps43
  go_wp2
  go_ret2
  exact ⟨by rw [hz1.out];rfl,rfl⟩
 have t3:decide (((n:Nat):Int)>1024)=false:=decide_eq_false (by omega)
 rw [if_neg (by omega)] at hd1
 clear hd ha0 hb0 hn
 have HPd:=Lib.hid (fun wz=>zNF ((n:Nat):Int) wz (by omega) (by omega))
 obtain ⟨_,hq3,hq4,hq5⟩:=zOc (show ((n:Nat):Int)≤4096 by omega)
 obtain ⟨N,hN⟩: ∃N,N=pd ((n:Nat):Int):=⟨_,rfl⟩
 rw [←hN] at hd1 HPd hq3 hq4 hq5
 have hDv:=HDv.out N (by omega) (by omega)
 have hfr:(decide (0<N) && ((p-1)%N == 0))=fitR N p:=rfl
 rw [hfr] at hDv
 obtain ⟨f,hf'⟩: ∃f,f=fitR N p:=⟨_,rfl⟩
 rw [←hf'] at hd1 hDv
 have HDV:=Lib.hid hDv
 have HD:=Lib.hid hd1
 clear hd1 hN hf' hfr hDv HDv hq3 hq4 hq5
 cases f
 ·go_enter Tryz.func43,Tryz.ntmps43
  go_wp2_with fail
  refine (HPd.out _).mono ?_
  rintro e w1 ⟨rfl,rfl⟩
  go_wp2_with fail
  refine HDV.out.mono ?_
  rintro e w1 ⟨rfl,rfl⟩
  go_wp2
  go_ret2
  exact ⟨by rw [HD.out];rfl,rfl⟩
 ·cases gd
  ·go_enter Tryz.func43,Tryz.ntmps43
   go_wp2_with fail
   refine (HPd.out _).mono ?_
   rintro e w1 ⟨rfl,rfl⟩
   go_wp2_with fail
   refine HDV.out.mono ?_
   rintro e w1 ⟨rfl,rfl⟩
   go_wp2_with fail
   refine hGd.out.mono ?_
   rintro e w1 ⟨rfl,rfl⟩
   go_wp2
   go_ret2
   exact ⟨by rw [HD.out];rfl,rfl⟩
  ·exact absurd HD.out hf
end
end Go.Proofs.YtmalmijdjhkklaaGreat
