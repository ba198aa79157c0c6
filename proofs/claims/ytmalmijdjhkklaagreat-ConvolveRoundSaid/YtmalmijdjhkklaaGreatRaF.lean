/- rader.folded. -/
import Derived.Test.YtmalmijdjhkklaaGreatW59
import Derived.Test.YtmalmijdjhkklaaGreatW25
import Derived.Test.YtmalmijdjhkklaaGreatW51
import Derived.Test.YtmalmijdjhkklaaGreatApz
import Derived.Test.YtmalmijdjhkklaaGreatQTail
set_option linter.unusedVariables false
set_option linter.unusedSimpArgs false
set_option maxRecDepth 100000
set_option maxHeartbeats 16000000
namespace Go.Proofs.YtmalmijdjhkklaaGreat
open Go.RowKit
open Alg
theorem zH5 {p:Nat} [NeZero p] {w:World} {v:Value} {g:Int} (hp:Prime p) (hg:Ord (zt p g) (p-1)) (g0:0≤g) (g1:g<p) (h:Fd w w.heap.size v p g) (n N:Nat) (AA AB:Option Addr) (cA cB:Nat) (α β:Nat→Fin p)
  (hn:0<n) (hN:2*n≤N+1) (hN4:N≤4096) (hck:chk p N 4096=0) (hp2:p2 (N:Int)=true) (hA:RdI w w.heap.size .u64 AA (lst n α)) (hB:RdI w w.heap.size .u64 AB (lst n β)):
  Calls Tryz.prog 131 #[v, .slice AA n cA, .slice AB n cB, .int .i64 N] w fun r w'=> ∃V,r= .returned V∧OwnU w' w.heap.size V n (lst n (cyc n α β))∧Below w.heap.size w w':=by
 obtain ⟨i0,hi,hz0,hz1,hz2⟩:=info_parts zJt
 obtain ⟨hdv,hN0⟩:=zEl (by have:=hp.1;omega) hck
 have HPM:=zy (And.intro h.p3 h.pmx)
 have HF:=zy h
 have hlA:(lst n α).length=n:=zLb _ _
 have hlB:(lst n β).length=n:=zLb _ _
 obtain ⟨bA,oA,rfl,hbA,hcA⟩:=hA (by omega)
 obtain ⟨bB,oB,rfl,hbB,hcB⟩:=hB (by omega)
 have HcA:=zy (zRt hcA)
 have HcB:=zy (zRt hcB)
 have hnN:n≤N:=by omega
 have HpA:Hid (lst n α ++ List.replicate (N-n) 0=lst N (padz n α)):=zy (zNH hnN α)
 have HpB:Hid (lst n β ++ List.replicate (N-n) 0=lst N (padz n β)):=zy (zNH hnN β)
 have HlA:Hid ((ints .u64 (lst n α)).length=n*1):=zy (by rw [zJ3,zLb];omega)
 have HlB:Hid ((ints .u64 (lst n β)).length=n*1):=zy (by rw [zJ3,zLb];omega)
 have hff: ∀F:Nat→Fin p,zGD p (lst N F)=0:=fun F=>zGF F hck hp2
 have HUp:Hid (∀(inv:Bool) (F:Nat→Fin p) wz (V:Value) (B:Nat),Below w.heap.size w wz→B≤wz.heap.size→OwnU wz B V N (lst N F)→Calls Tryz.prog 87 #[v,V, .bool inv] wz fun e w'=> ∃V,e= .returned (.tuple #[V, .int .i64 0])∧OwnU w' wz.heap.size V N (lst N (tr (zt p g) N inv F))∧Below wz.heap.size wz w'):=zy (fun inv F wz V B hz hB hV=>by
  obtain ⟨X,cx,rfl,hR⟩:=hV.rd
  have h1:=zWg hp hg g0 g1 ((HF.out.below hz).mono hz.size) X cx (lst N F) inv (zLd HPM.out.2 _ _) hR (hff F)
  have h2:lst N (tr (zt p g) N inv (rz p (lst N F)))=lst N (tr (zt p g) N inv F):=zKW fun i _=>zVn _ _ _ _ _
  rw [zLb,h2] at h1
  exact h1)
 obtain ⟨X,hX⟩: ∃X,X=tr (zt p g) N false (padz n α):=⟨_,rfl⟩
 obtain ⟨Y,hY⟩: ∃Y,Y=tr (zt p g) N false (padz n β):=⟨_,rfl⟩
 have HU1:=zy (HUp.out false (padz n α))
 have HU2:=zy (HUp.out false (padz n β))
 have HU3:=zy (HUp.out true (fun j=>X j*Y j))
 have hcy:lst N (tr (zt p g) N true (fun j=>X j*Y j))=lst N (cyc N (padz n α) (padz n β)):=zKW fun i hi=>by rw [hX,hY];exact zVk hp hg hdv hN0 _ _ i hi
 rw [←hX] at HU1
 rw [←hY] at HU2
 rw [hcy] at HU3
 obtain ⟨C,hC⟩: ∃C,C=cyc N (padz n α) (padz n β):=⟨_,rfl⟩
 have HFf:Hid (frow n C (2*n-1)=lst n (cyc n α β)):=zy (by rw [hC];exact zHG hn hN α β)
 rw [←hC] at HU3
 have e1:(N:Int)-(n:Int)=((N-n:Nat):Int):=by omega
 obtain ⟨m,hm⟩: ∃m,m=N-n:=⟨_,rfl⟩
 rw [←hm] at HpA HpB e1
 have hmn:n+m≤4096:=by omega
 have HmN:Hid (n+m=N):=zy (by omega)
 have hU:Tryz.prog.underlying 3=some (.int .i64):=Tryz.underlying3
 clear h hA hB hcA hcB hff HUp hcy hX hY hC hm hlA hlB hdv hck hp2 hg
 go_enter Tryz.func131,Tryz.ntmps131
 go_wp2_with (at_builtin;refine wpList_append_own _ rfl _ _ 54 rfl w.heap.size 22 i0 (.int .u64 0) 1 8 Tryz.underlying54 hi hz0 hz1 hz2 rfl (by decide) _ 0 [] rfl (World.ownsRow_lit w #[] 0 (Nat.le_refl _) (by unfold maxLen;omega) rfl) ⟨bA,oA,none⟩ n cA (ints .u64 (lst n α)) rfl HlA.out ?c1 (zJ4 _) ?c3 ?c4 ?c5 ?_)
 case c1=>
  intro j u hu
  exact ((Below.refl w.heap.size w).alloc (Nat.le_refl _) (.cells #[] 22)).cell (World.block_lt_of_cell? w _ (HcA.out j u hu)) |>.trans (HcA.out j u hu)
 case c3=>unfold maxLen;omega
 case c4=>omega
 case c5=>simp
 intro v1 w1 hown1 hg1 _
 have hB0:=(Below.refl w.heap.size w).alloc (Nat.le_refl _) (.cells #[] 22)
 have hB1:Below w.heap.size w w1:=hB0.grown hg1 (by simp) (fun k hk=>by simp [Value.ownBlock] at hk;omega)
 clear hg1 hB0
 go_wp2_with (at_builtin;refine zWJ rfl _ _ 54 3 rfl w.heap.size 22 .i64 i0 (.int .u64 0) Tryz.underlying54 hU hi hz0 hz1 hz2 rfl rfl v1 n (ints .u64 (lst n α)) rfl hown1 m rfl ?d3 hB1.size ?_)
 case d3=>omega
 intro v2 w2 hown2 hg2
 have hB2:Below w.heap.size w w2:=hB1.grown hg2 hB1.size (fun k hk=>(World.ownsRow.lt hown1 k hk).1)
 have hO2:OwnU w2 w.heap.size v2 N (lst N (padz n α)):=by
  unfold OwnU
  rw [←HpA.out,zJ2,←zJ5,←HmN.out]
  exact hown2
 have HO2:=zy hO2
 have hs2:=hB2.size
 clear hown1 hown2 hg2 hB1 hO2
 go_wp2_with (at_builtin;refine wpList_append_own _ rfl _ _ 54 rfl w2.heap.size 22 i0 (.int .u64 0) 1 8 Tryz.underlying54 hi hz0 hz1 hz2 rfl (by decide) _ 0 [] rfl (World.ownsRow_lit w2 #[] 0 (Nat.le_refl _) (by unfold maxLen;omega) rfl) ⟨bB,oB,none⟩ n cB (ints .u64 (lst n β)) rfl HlB.out ?e1 (zJ4 _) ?e3 ?e4 ?e5 ?_)
 case e1=>
  intro j u hu
  have h1:w2.cell? ((⟨bB,oB,none⟩:Addr).add j)=some u:=hB2.cell (World.block_lt_of_cell? w _ (HcB.out j u hu)) |>.trans (HcB.out j u hu)
  exact ((Below.refl w2.heap.size w2).alloc (Nat.le_refl _) (.cells #[] 22)).cell (World.block_lt_of_cell? w2 _ h1) |>.trans h1
 case e3=>unfold maxLen;omega
 case e4=>omega
 case e5=>simp
 intro v3 w3 hown3 hg3 _
 have hB3:Below w2.heap.size w2 w3:=((Below.refl w2.heap.size w2).alloc (Nat.le_refl _) (.cells #[] 22)).grown hg3 (by simp) (fun k hk=>by simp [Value.ownBlock] at hk;omega)
 clear hg3
 go_wp2_with (at_builtin;refine zWJ rfl _ _ 54 3 rfl w2.heap.size 22 .i64 i0 (.int .u64 0) Tryz.underlying54 hU hi hz0 hz1 hz2 rfl rfl v3 n (ints .u64 (lst n β)) rfl hown3 m rfl ?f3 hB3.size ?_)
 case f3=>omega
 intro v4 w4 hown4 hg4
 have hB4:Below w2.heap.size w2 w4:=hB3.grown hg4 hB3.size (fun k hk=>(World.ownsRow.lt hown3 k hk).1)
 have hO4:OwnU w4 w2.heap.size v4 N (lst N (padz n β)):=by
  unfold OwnU
  rw [←HpB.out,zJ2,←zJ5,←HmN.out]
  exact hown4
 have hBw:=hB2.trans (hB4.mono hs2)
 have HO4:=zy hO4
 have HO24:=zy (HO2.out.below hB4)
 clear hown3 hown4 hg4 hB3 hO4 HO2
 go_wp2_with fail
 refine (HU1.out w4 _ _ hBw hBw.size HO24.out).mono ?_
 rintro r w5 ⟨v5,rfl,hO5,hB5⟩
 have hBx:=hBw.trans (hB5.mono hBw.size)
 have HO5:=zy hO5
 have HO45:=zy (HO4.out.below hB5)
 have hs45:=hB5.size
 have hws4:=hBw.size
 have hb45:w2.heap.size≤w5.heap.size:=by have:=hB4.size;omega
 clear hO5 HO4 HO24 hB4 hBw hB5
 go_wp2_with fail
 refine (HU2.out w5 _ _ hBx hb45 HO45.out).mono ?_
 rintro r w6 ⟨v6,rfl,hO6,hB6⟩
 have hBy:=hBx.trans (hB6.mono hBx.size)
 have hO56:=HO5.out.below hB6
 obtain ⟨G5,c5,rfl,hG5⟩:=zN2 hO56 hN0
 obtain ⟨G6,c6,rfl,hG6⟩:=zN2 hO6 hN0
 have hG5w:G5<w5.heap.size:=by
  obtain ⟨G5',c5',he,_⟩:=zN2 HO5.out hN0
  injection he with he _ _
  injection he with he
  injection he with he _ _
  subst he
  exact (World.ownsRow.lt HO5.out _ rfl).2
 have hne:G6≠G5:=by omega
 have hne':G5≠G6:=by omega
 have HY6:Hid (∀j,j<N→w6.cell? ⟨G6,j,none⟩=some (.int .u64 ((Y j).val:Int))):=zy (fun j hj=>by
  have h1:=(zN9 hO6 j hj).1
  rw [zKY hj] at h1
  exact h1)
 rw [zMa N X Y] at hO56
 have HO6:=zy hO56
 have HBy:=zy hBy
 clear hO6 hO56 HO5 HO45 hBx hB6 hBy
 go_wp2
 go_loopw [46] (fun I wr=> ∃i:Nat,I= .int .i64 i∧i≤N∧Hid (OwnU wr w4.heap.size (.slice (some ⟨G5,0,none⟩) N c5) N (mrow N X Y i))∧Hid (∀j,j<N→wr.cell? ⟨G6,j,none⟩=some (.int .u64 ((Y j).val:Int)))∧Hid (Below w.heap.size w wr)) (fun I _=>N-(intOf I).toNat)
 case atStart=>exact ⟨0,rfl,by omega,HO6,HY6,HBy⟩
 case round=>
  clear HO6 HY6 HBy
  obtain ⟨i,rfl,hiN,hO,hY,hBr⟩:=hrel
  by_cases hlt:i<N
  ·have c0:=(zN9 hO.out i hlt).1
   rw [zLW hlt] at c0
   have c1:=hY.out i hlt
   have hF1:=HF.out.below hBr.out
   have hlp: ∀x:Fin p,0≤((x.val:Nat):Int)∧((x.val:Nat):Int)≤18446744073709551615:=fun x=>by have:=x.isLt;have:=HPM.out.2;omega
   have hst:=zLZ (X:=X) (Y:=Y) hlt
   obtain ⟨x0,hx0⟩: ∃x0,x0=X i:=⟨_,rfl⟩
   obtain ⟨y0,hy0⟩: ∃y0,y0=Y i:=⟨_,rfl⟩
   rw [←hx0] at c0 hst
   rw [←hy0] at c1 hst
   have HMu:Hid (∀n,Calls Tryz.prog 38 #[v, .int .u64 (x0.val:Int), .int .u64 (y0.val:Int)] (wr.drewN n) fun e w'=>e= .returned (.int .u64 ((x0*y0).val:Int))∧ ∃k,w'=(wr.drewN n).drewN k):=zy (fun n=>by
    have h1:=zHw (hF1.drewN n) (x0.val:Int) (y0.val:Int) (hlp x0).1 (hlp x0).2 (hlp y0).1 (hlp y0).2
    rw [zGv,zt_of_val,zt_of_val] at h1
    exact h1)
   obtain ⟨z0,hz0'⟩: ∃z0,z0=x0*y0:=⟨_,rfl⟩
   rw [←hz0'] at HMu hst
   have HST:=zy hst
   have f0:=(zN9 hO.out i hlt).2.1
   have hGb:=(zN9 hO.out i hlt).2.2
   have i1:(0:Int)≤(i:Int):=by omega
   have i2:(i:Int)<(N:Int):=by omega
   clear hx0 hy0 hst hz0' hlp hF1
   go_upto_region 9 with fail
   refine zWM 12 (by kernel_rfl) (by kernel_rfl) ?_
   simp only [List.take_succ_cons,List.take_zero,List.drop_succ_cons,List.drop_zero]
   repeat (go_big_quiet_step ((first|(go_at_call 38;exact Calls.quiet_of (HMu.out _)))))
   refine wpQuiet_nil ?_
   intro _ hw'
   obtain ⟨nq,hw''⟩:=hw'
   subst hw''
   have hO1:=((hO.out.drewN nq).set i hlt (z0.val:Int)).1
   rw [HST.out] at hO1
   have HO1:=zy hO1
   have HY1:Hid (∀j,j<N→((wr.drewN nq).setCell ⟨G5,i,none⟩ (.int .u64 (z0.val:Int))).cell? ⟨G6,j,none⟩=some (.int .u64 ((Y j).val:Int))):=zy (fun j hj=>by
    rw [World.cell?_setCell_other _ _ _ _ (fun hh=>hne' (by injection hh with hh _ _))]
    exact hY.out j hj)
   have HB1:Hid (Below w.heap.size w ((wr.drewN nq).setCell ⟨G5,i,none⟩ (.int .u64 (z0.val:Int)))):=zy ((below_drewN hBr.out nq).setCell (show w.heap.size≤G5 from Nat.le_trans hws4 hGb) _)
   clear hO1 hO hY hBr
   go_wp2
   go_roundw
   case rel=>exact ⟨i+1,by go_num,by omega,HO1,HY1,HB1⟩
   case measure=>simp [intOf];omega
  ·obtain rfl:N=i:=by omega
   have hO1:=hO.out
   rw [zLX] at hO1
   have hU:=zy (HU3.out wr _ _ hBr.out (show w4.heap.size≤wr.heap.size by have:=(World.ownsRow.lt hO1 _ rfl).2;have:=(World.ownsRow.lt hO1 _ rfl).1;omega) hO1)
   clear hO1 hO hY
   go_wp2_with fail
   refine hU.out.mono ?_
   rintro r w7 ⟨v7,rfl,hO7,hB7⟩
   have hBz:=hBr.out.trans (hB7.mono hBr.out.size)
   have hcap: ∃G7 c7,v7= .slice (some ⟨G7,0,none⟩) N c7∧N≤c7∧G7<w7.heap.size:=by
    rcases hO7.2 with ⟨_,h0⟩|⟨g',cap',cur',e,h1,h2,h3,_⟩
    ·omega
    ·exact ⟨g',cap',e,h3,(World.ownsRow.lt hO7 g' (by rw [e];rfl)).2⟩
   obtain ⟨G7,c7,rfl,hc7,hG7⟩:=hcap
   have HC7:Hid (∀j,j<N→w7.cell? ⟨G7,j,none⟩=some (.int .u64 ((C j).val:Int))):=zy (fun j hj=>by
    have h1:=(zN9 hO7 j hj).1
    rw [zKY hj] at h1
    exact h1)
   have HBz:=zy hBz
   have hs7:=hBz.size
   clear hO7 hB7 hBr hBz hU
   go_wp2_with (at_make;refine wpList_make_full _ rfl _ _ 54 rfl w7.heap.size 22 i0 (.int .u64 0) 1 Tryz.underlying54 hi hz0 hz1 _ _ _ _ n rfl rfl ?l1 ?l2 ?b2 ?b3 (Nat.le_refl _) ?_)
   case l1=>omega
   case l2=>omega
   case b2=>rw [hz2];omega
   case b3=>unfold maxLen;omega
   intro w8 hown hgrow
   have hown0:OwnU w8 w7.heap.size (.slice (some ⟨w7.heap.size,0,none⟩) n n) n (frow n C 0):=by
    unfold OwnU
    rw [zHJ,zJC,←toList_madeCells_one];exact hown
   have hB8:Below w7.heap.size w7 w8:=(Below.refl _ _).grown hgrow (Nat.le_refl _) (fun k h=>by cases h)
   obtain ⟨G,hG⟩: ∃G,G=w7.heap.size:=⟨_,rfl⟩
   rw [←hG]
   have hGe:w7.heap.size≤G:=by omega
   have hGn:G7≠G:=by omega
   have hGn':G≠G7:=by omega
   rw [show (⟨w7.heap.size,0,none⟩:Addr)=⟨G,0,none⟩ by rw [hG]] at hown0
   have HO8:=zy hown0
   have HB8:=zy hB8
   have t2:(2:Int)*(n:Int)-1=((2*n-1:Nat):Int):=by omega
   obtain ⟨M,hM⟩: ∃M,M=2*n-1:=⟨_,rfl⟩
   rw [←hM] at t2
   have hMN:M≤N:=by omega
   have hM2:M<2*n:=by omega
   have hMc:M≤c7:=by omega
   rw [←hM] at HFf
   clear hown hgrow hown0 hB8 hG hM
   go_wp2
   go_loopw [77] (fun I wr=> ∃i:Nat,I= .int .i64 i∧i≤M∧Hid (OwnU wr w7.heap.size (.slice (some ⟨G,0,none⟩) n n) n (frow n C i))∧Hid (Below w7.heap.size w7 wr)) (fun I _=>M-(intOf I).toNat)
   case atStart=>exact ⟨0,rfl,by omega,HO8,HB8⟩
   case round=>
    clear HO8 HB8
    obtain ⟨i,rfl,hiM,hO,hBr⟩:=hrel
    by_cases hlt:i<M
    ·have c0:=zDs hBr.out hG7 (HC7.out i (by omega))
     have hjn:i%n<n:=Nat.mod_lt _ hn
     have c1:=(zN9 hO.out (i%n) hjn).1
     rw [zHF hn (by omega)] at c1
     have hst:=zHI (n:=n) (C:=C) hn (show i<2*n by omega)
     have f0:=(zN9 hO.out (i%n) hjn).2.1
     have ei:(i:Int)%(n:Int)=((i%n:Nat):Int):=by rw [Int.natCast_emod]
     have tn:((n:Int) == 0)=false:=by simp;omega
     have ei':(i:Int).tmod (n:Int)=((i%n:Nat):Int):=by rw [Int.tmod_eq_emod_of_nonneg (by omega),Int.natCast_emod]
     obtain ⟨j,hj⟩: ∃j,j=i%n:=⟨_,rfl⟩
     rw [←hj] at hjn c1 hst f0 ei ei'
     obtain ⟨x0,hx0⟩: ∃x0:Fin p,x0=if i<n then 0 else C (i-n):=⟨_,rfl⟩
     obtain ⟨y0,hy0⟩: ∃y0,y0=C i:=⟨_,rfl⟩
     rw [←hx0] at c1 hst
     rw [←hy0] at c0 hst
     have hF1:Fd wr w.heap.size v p g:=HF.out.below (HBz.out.trans (hBr.out.mono hs7))
     have hlp: ∀x:Fin p,0≤((x.val:Nat):Int)∧((x.val:Nat):Int)≤18446744073709551615:=fun x=>by have:=x.isLt;have:=HPM.out.2;omega
     have HAd:Hid (∀n,Calls Tryz.prog 80 #[v, .int .u64 (x0.val:Int), .int .u64 (y0.val:Int)] (wr.drewN n) fun e w'=>e= .returned (.int .u64 ((x0+y0).val:Int))∧ ∃k,w'=(wr.drewN n).drewN k):=zy (fun n=>by
      have h1:=zG9 (hF1.drewN n) (x0.val:Int) (y0.val:Int) (hlp x0).1 (hlp x0).2 (hlp y0).1 (hlp y0).2
      rw [zGt,zt_of_val,zt_of_val] at h1
      exact h1)
     obtain ⟨z0,hz0'⟩: ∃z0,z0=x0+y0:=⟨_,rfl⟩
     rw [←hz0'] at HAd hst
     have HST:=zy hst
     have i1:(0:Int)≤(i:Int):=by omega
     have i3:(0:Int)≤(j:Int):=by omega
     have i4:(j:Int)<(n:Int):=by omega
     clear hx0 hy0 hst hz0' hlp hF1 hj
     go_upto_region 16 with fail
     refine zWM 13 (by kernel_rfl) (by kernel_rfl) ?_
     simp only [List.take_succ_cons,List.take_zero,List.drop_succ_cons,List.drop_zero]
     repeat (go_big_quiet_step ((first|(go_at_call 80;exact Calls.quiet_of (HAd.out _)))))
     refine wpQuiet_nil ?_
     intro _ hw'
     obtain ⟨nq,hw''⟩:=hw'
     subst hw''
     have hO1:=((hO.out.drewN nq).set j hjn (z0.val:Int)).1
     rw [HST.out] at hO1
     have HO1:=zy hO1
     have HB1:Hid (Below w7.heap.size w7 ((wr.drewN nq).setCell ⟨G,j,none⟩ (.int .u64 (z0.val:Int)))):=zy ((below_drewN hBr.out nq).setCell hGe _)
     clear hO1 hO hBr
     go_wp2
     go_roundw
     case rel=>exact ⟨i+1,by go_num,by omega,HO1,HB1⟩
     case measure=>simp [intOf];omega
    ·obtain rfl:M=i:=by omega
     have hO1:=hO.out
     rw [HFf.out] at hO1
     have HO1:=zy (hO1.mono hs7)
     have HBf:=zy (HBz.out.trans (hBr.out.mono hs7))
     clear hO1 hO hBr
     go_wp2
     go_ret
     exact ⟨_,rfl,HO1.out,HBf.out⟩
end Go.Proofs.YtmalmijdjhkklaaGreat