/- radix2.Up. -/
import Derived.Test.YtmalmijdjhkklaaGreatW51
import Derived.Test.YtmalmijdjhkklaaGreatQTail
import Derived.Deep.RegionHeld3
import Derived.Deep.DrawnRows
import Derived.Test.YtmalmijdjhkklaaGreatW25
set_option linter.unusedVariables false
set_option linter.unusedSimpArgs false
set_option linter.unusedSectionVars false
set_option maxRecDepth 100000
set_option maxHeartbeats 16000000
namespace Go.Proofs.YtmalmijdjhkklaaGreat
open Go.RowKit
section
open Alg
theorem zO2 {n:Nat} (h:p2 (n:Int)=true): ∃k,k≤12∧n=2^k:=by
 rw [zNB] at h
 unfold p2N at h
 simp only [Bool.or_eq_true,beq_iff_eq] at h
 rcases h with (((((((((((h|h)|h)|h)|h)|h)|h)|h)|h)|h)|h)|h)|h
 ·exact ⟨0,by omega,h⟩
 ·exact ⟨1,by omega,h⟩
 ·exact ⟨2,by omega,h⟩
 ·exact ⟨3,by omega,h⟩
 ·exact ⟨4,by omega,h⟩
 ·exact ⟨5,by omega,h⟩
 ·exact ⟨6,by omega,h⟩
 ·exact ⟨7,by omega,h⟩
 ·exact ⟨8,by omega,h⟩
 ·exact ⟨9,by omega,h⟩
 ·exact ⟨10,by omega,h⟩
 ·exact ⟨11,by omega,h⟩
 ·exact ⟨12,by omega,h⟩
theorem zGH {p:Int} {L:List Int} (h:zGD p L=0):chk p L.length 4096=0∧p2 L.length=true∧zI1 p L=true:=by
 unfold zGD at h
 split at h
 ·rename_i h1;exact absurd h h1
 ·rename_i h1
  split at h
  ·omega
  ·rename_i h2
   split at h
   ·omega
   ·rename_i h3
    exact ⟨by simpa using h1,by simpa using h2,by simpa using h3⟩
theorem zN2 {w:World} {B:Nat} {V:Value} {n:Nat} {L:List Int} (h:OwnU w B V n L) (hn:0<n): ∃G c,V= .slice (some ⟨G,0,none⟩) n c∧B≤G:=by
 rcases h.2 with ⟨_,h0⟩|⟨g',cap',cur',e,h1,_⟩
 ·omega
 ·exact ⟨g',cap',e,h1⟩
def R2 (w1:World) (G n c:Nat) (L:List Int) (wz:World):Prop:=Below w1.heap.size w1 wz∧OwnU wz w1.heap.size (.slice (some ⟨G,0,none⟩) n c) n L
theorem R2.drewN {w1 wz:World} {G n c:Nat} {L:List Int} (h:R2 w1 G n c L wz) (k:Nat):R2 w1 G n c L (wz.drewN k):=⟨below_drewN h.1 k,h.2.drewN k⟩
theorem R2.cell {w1 wz:World} {G n c:Nat} {L:List Int} (h:R2 w1 G n c L wz) (o:Nat) (ho:o<n):wz.cell? ⟨G,o,none⟩=some (.int .u64 (L.getD o 0)):=(h.2.set o ho 0).2.1
theorem R2.fz {w1 wz:World} {G n c:Nat} {L:List Int} (h:R2 w1 G n c L wz) (o:Nat) (ho:o<n):wz.frozen? ⟨G,o,none⟩=false:=(h.2.set o ho 0).2.2.1
theorem R2.set2 {w1 wz:World} {G n c:Nat} {L:List Int} (h:R2 w1 G n c L wz) {o0 o1:Nat} (h0:o0<n) (h1:o1<n) (x0 x1:Int):
  R2 w1 G n c ((L.set o0 x0).set o1 x1) ((wz.setCell ⟨G,o0,none⟩ (.int .u64 x0)).setCell ⟨G,o1,none⟩ (.int .u64 x1)):=
 ⟨(h.1.setCell (h.2.set o0 h0 0).2.2.2 _).setCell (h.2.set o0 h0 0).2.2.2 _,((h.2.set o0 h0 x0).1.set o1 h1 x1).1⟩
theorem zWg {p:Nat} [NeZero p] {w:World} {v:Value} {g:Int} (hp:Prime p) (hg:Ord (zt p g) (p-1)) (g0:0≤g) (g1:g<p) (h:Fd w w.heap.size v p g) (A:Option Addr) (c:Nat) (L:List Int) (inv:Bool) (hU:U64s L) (hR:RdI w w.heap.size .u64 A L) (hf:zGD p L=0):
  Calls Tryz.prog 87 #[v, .slice A L.length c, .bool inv] w fun e w'=> ∃V,e= .returned (.tuple #[V, .int .i64 0])∧OwnU w' w.heap.size V L.length (lst L.length (tr (zt p g) L.length inv (rz p L)))∧Below w.heap.size w w':=by
 obtain ⟨hc,h2,hgd⟩:=zGH hf
 obtain ⟨n1,n2,_⟩:=zEq hc
 have HPM:=zy (And.intro h.p3 h.pmx)
 obtain ⟨hdv,hn0⟩:=zEl (by have:=hp.1;omega) hc
 have hC:=zy (zQu h A c L (by omega) hU hR)
 rw [hf] at hC
 have hT:=zy (zKA h L.length inv hc g0 g1)
 obtain ⟨k,hk,hlk⟩:=zO2 h2
 have HFd:=zy h
 have hO:=zSz hg hdv hn0 inv
 obtain ⟨ω,hω⟩: ∃ω,ω=rt (zt p g) L.length inv:=⟨_,rfl⟩
 have hRt:Hid (∀W,zAH p g L.length inv W→zt p W=ω):=zy (fun W hW=>by rw [hω];exact zAH.zt hp hg hdv hn0 hW)
 rw [←hω] at hO
 have HTR:Hid (lst L.length (tr (zt p g) L.length inv (rz p L))=lst L.length fun i=>sc p L.length inv*upN ω (rz p L) k k i):=zy (zKW fun i hi=>by
  rw [zWa hp (by rw [←hlk];exact hO) _ _ (by rw [←hlk];exact hi),←hlk,hω];rfl)
 rw [HTR.out]
 have HS0:Hid ((full L.length fun j=>L.getD (rev k j) 0)=lst L.length (upN ω (rz p L) k 0)):=zy (zHQ fun i hi=>by
  have hr:rev k i<L.length:=by rw [hlk];exact zRG k i
  have h1:=zKY (f:=rz p L) hr
  rw [zLc hgd hU] at h1
  exact h1)
 have HEn:Hid (∀(wz:World) (V:Value) (B:Nat),Below w.heap.size w wz→B≤wz.heap.size→OwnU wz B V L.length (lst L.length (upN ω (rz p L) k k))→Calls Tryz.prog 118 #[v,V, .bool inv] wz fun r w'=> ∃V',r= .returned V'∧OwnU w' B V' L.length (lst L.length fun i=>sc p L.length inv*upN ω (rz p L) k k i)∧Below wz.heap.size wz w'):=
  zy (fun wz V B hz hB hV=>zGe hp ((HFd.out.below hz).mono hz.size) V B L.length (upN ω (rz p L) k k) inv hdv hn0 (by omega) hV hB)
 have HU:=zy hU
 have HR:=zy hR
 have HLk:=zy hlk
 have HUp:Hid (∀s,s<k→upN ω (rz p L) k (s+1)=upF ω (2^s) (2^(k-(s+1))) (upN ω (rz p L) k s)):=zy (fun s _=>rfl)
 have HOn:Hid (pw ω L.length=1):=zy hO.2.1
 obtain ⟨U,hUe⟩: ∃U,U=upN ω (rz p L) k:=⟨_,rfl⟩
 have HTn:Hid (∀w2,Below w.heap.size w w2→Calls Tryz.prog 119 #[.slice A L.length c] w2 fun r w'=> ∃V,r= .returned V∧OwnU w' w2.heap.size V L.length (lst L.length (U 0))∧Below w2.heap.size w2 w'):=zy (fun w2 hB2=>by
  have h1:=zVF k A c L w2 hk hlk hU ((hR.below hB2).mono hB2.size)
  rw [HS0.out,←hUe] at h1
  exact h1)
 rw [←hUe] at HEn HUp ⊢
 clear h hR hU hf hc h2 hgd hdv hO hω hlk HS0 hUe HTR HR HU
 go_enter Tryz.func87,Tryz.ntmps87
 go_wp2_with fail
 refine hC.out.mono ?_
 rintro e w1 ⟨rfl,rfl⟩
 go_wp2_with fail
 refine hT.out.mono ?_
 rintro e w2 ⟨VT,W,rfl,hW,hown,hB2⟩
 obtain ⟨AT,cT,rfl,hRT⟩:=hown.rd
 have HWZ:=zy (hRt.out W hW)
 obtain ⟨bT,oT,rfl,hbT,hcT⟩:=hRT (by rw [zHS];omega)
 have HcT:Hid (∀i,i<L.length→w2.cell? ⟨bT,oT+i,none⟩=some (.int .u64 (lft p (W^i)))):=zy (fun i hi=>by
  have h1:=hcT i (by rw [zHS];exact hi)
  rw [zHR hi] at h1
  exact h1)
 clear hW hown hRT hcT
 go_wp2_with fail
 refine (HTn.out w2 hB2).mono ?_
 rintro e w3 ⟨V3,rfl,hO3,hB3⟩
 obtain ⟨G,cG,rfl,hGb⟩:=zN2 hO3 hn0
 have hR3:Hid (R2 w2 G L.length cG (lst L.length (U 0)) w3):=zy ⟨hB3,hO3⟩
 clear hO3 hB3
 go_wp2
 go_loopw [13] (fun I wr=> ∃(s z:Nat),I= .int .i64 z∧z≤8192∧Hid (z=2^(s+1))∧s≤k∧1≤z∧Hid (R2 w2 G L.length cG (lst L.length (U s)) wr)) (fun I _=>16384-(intOf I).toNat)
 case atStart=>exact ⟨0,2,rfl,by omega,zy rfl,by omega,by omega,hR3⟩
 case round=>
  clear hR3
  obtain ⟨s,z,rfl,hz8,hz,hsk,hz1,hR2⟩:=hrel
  by_cases hlt:z≤L.length
  ·have hs:s<k:=by
    rcases Nat.lt_or_ge s k with h|h
    ·exact h
    ·have h1:=hz.out
     have h2:2^(k+1)≤2^(s+1):=Nat.pow_le_pow_right (by omega) (by omega)
     rw [Nat.pow_succ] at h2
     have:=HLk.out
     omega
   obtain ⟨S,hS⟩: ∃S,S=2^s:=⟨_,rfl⟩
   obtain ⟨st,hst⟩: ∃st,st=2^(k-(s+1)):=⟨_,rfl⟩
   have hzS:z=2*S:=by rw [hz.out,hS,Nat.pow_succ];omega
   have hnz:L.length=st*z:=by
    rw [HLk.out,hz.out,hst,←Nat.pow_add,show k-(s+1)+(s+1)=k by omega]
   have hS0:0<S:=by rw [hS];exact Nat.pow_pos (by omega)
   have hst0:0<st:=by rw [hst];exact Nat.pow_pos (by omega)
   have hF':=HUp.out s hs
   rw [←hS,←hst] at hF'
   have hF0:Hid (lst L.length (U s)=brow (U s) (U (s+1)) S L.length (0*S)):=zy (by rw [Nat.zero_mul,zCH])
   have hF1:Hid (brow (U s) (U (s+1)) S L.length (st*S)=lst L.length (U (s+1))):=zy (by rw [hnz,hzS];exact zCC hS0)
   rw [hF0.out] at hR2
   obtain ⟨F,hFe⟩: ∃F,F=U s:=⟨_,rfl⟩
   obtain ⟨F',hFe'⟩: ∃F',F'=U (s+1):=⟨_,rfl⟩
   rw [←hFe] at hR2 hF' hF1
   rw [←hFe'] at hR2 hF' hF1
   have HF':=zy hF'
   have HFe':=zy hFe'
   have hSn:S≤2048:=by omega
   have hstn:st≤4096:=by
    have:st*1≤st*z:=Nat.mul_le_mul_left _ hz1
    omega
   have eS:(z:Int)/2=(S:Int):=by omega
   have eT:(L.length:Int)/(z:Int)=(st:Int):=by
    rw [hnz,←Int.natCast_ediv,Nat.mul_div_cancel _ (by omega)]
   have tz:((z:Int) == 0)=false:=by simp;omega
   have HzS:=zy hzS
   have Hnz:=zy hnz
   clear hS hst hF' hF0 hFe hFe' hzS hnz
   go_wp2
   go_quiet (fail)
   go_wp2
   go_loopw [16] (fun I wr=> ∃(b q:Nat),I= .int .i64 q∧Hid (q=b*z)∧q≤L.length∧b≤st∧Hid (R2 w2 G L.length cG (brow F F' S L.length (b*S)) wr)) (fun I _=>L.length-(intOf I).toNat)
   case atStart=>exact ⟨0,0,rfl,zy (by rw [Nat.zero_mul]),by omega,by omega,by first|exact hR2|exact zy (hR2.out.drewN _)⟩
   case round=>
    clear hR2
    obtain ⟨b,q,rfl,hq,hqn,hbst,hR2⟩:=hrel
    by_cases hlq:q<L.length
    ·have hb:b<st:=by
      rcases Nat.lt_or_ge b st with h|h
      ·exact h
      ·exfalso
       have h1:=hq.out
       have:b=st:=by omega
       rw [this,←Hnz.out] at h1
       omega
     have hqz:q+z≤L.length:=by
      have h1:(b+1)*z≤st*z:=Nat.mul_le_mul_right _ hb
      rw [←Hnz.out,Nat.add_mul,Nat.one_mul,←hq.out] at h1
      exact h1
     have hqS:Hid (q=b*(2*S)):=zy (by rw [hq.out,HzS.out])
     go_wp2
     go_loopw [54] (fun I wr=> ∃j:Nat,I= .int .i64 j∧j≤S∧Hid (R2 w2 G L.length cG (brow F F' S L.length (b*S+j)) wr)) (fun I _=>S-(intOf I).toNat)
     case atStart=>exact ⟨0,rfl,by omega,by rw [Nat.add_zero];exact hR2⟩
     case round=>
      clear hR2
      obtain ⟨j,rfl,hj,hR2⟩:=hrel
      by_cases hjS:j<S
      ·obtain ⟨o0,ho0⟩: ∃o0,o0=b*(2*S)+j:=⟨_,rfl⟩
       obtain ⟨o1,ho1⟩: ∃o1,o1=b*(2*S)+j+S:=⟨_,rfl⟩
       obtain ⟨t,ht⟩: ∃t,t=j*st:=⟨_,rfl⟩
       have l1:o1<L.length:=by rw [ho1,←hqS.out];have:=HzS.out;omega
       have l0:o0<L.length:=by omega
       have lt:t<L.length:=by
        have h1:j*st<S*st:=Nat.mul_lt_mul_of_pos_right hjS hst0
        have h2:st*(2*S)=2*(S*st):=by rw [Nat.mul_left_comm,Nat.mul_comm st S]
        rw [ht,Hnz.out,HzS.out,h2];omega
       have e0:(q:Int)+(j:Int)=(o0:Int):=by rw [ho0,←hqS.out];omega
       have e1:(o0:Int)+(S:Int)=(o1:Int):=by omega
       have et:(j:Int)*(st:Int)=(t:Int):=by rw [ht,Int.natCast_mul]
       have d:=zDs hR2.out.1 hbT (HcT.out t lt)
       have c0:=hR2.out.cell o0 l0
       have c1:=hR2.out.cell o1 l1
       rw [ho0,zCF hjS (by rw [←ho0];exact l0),←ho0] at c0
       rw [ho1,zCD hjS (by rw [←ho1];exact l1),←ho1] at c1
       have hst:=zCG (F:=F) (F':=F') (n:=L.length) (b:=b) hjS
       rw [←ho1,←ho0] at hst
       have hv0:F' o0=F o0+pw ω t*F o1:=by rw [HF'.out,ho0,zVZ hjS,←ho1,←ht]
       have hv1:F' o1=F o0-pw ω t*F o1:=by rw [HF'.out,ho1,zVY hjS,←ho1,←ho0,←ht]
       rw [hv0,hv1] at hst
       obtain ⟨x0,hx0⟩: ∃x0,x0=F o0:=⟨_,rfl⟩
       obtain ⟨x1,hx1⟩: ∃x1,x1=F o1:=⟨_,rfl⟩
       rw [←hx0] at c0 hst
       rw [←hx1] at c1 hst
       have hlp: ∀x:Fin p,0≤((x.val:Nat):Int)∧((x.val:Nat):Int)≤18446744073709551615:=fun x=>by have:=x.isLt;have:=HPM.out.2;omega
       have hFw:Fd wr w.heap.size v p g:=HFd.out.below (hB2.trans (hR2.out.1.mono hB2.size))
       have HTm:Hid (∀n,Calls Tryz.prog 81 #[v, .int .u64 (lft p (W^t)), .int .u64 (x1.val:Int)] (wr.drewN n) fun e w'=>e= .returned (.int .u64 ((pw ω t*x1).val:Int))∧ ∃k,w'=(wr.drewN n).drewN k):=zy (fun n=>by
        have h1:=zHM (hFw.drewN n) (W^t) (x1.val:Int) (hlp x1).1 (hlp x1).2
        rw [zGv,zt_of_val,zt_pow,HWZ.out] at h1
        exact h1)
       obtain ⟨y1,hy1⟩: ∃y1,y1=pw ω t*x1:=⟨_,rfl⟩
       obtain ⟨lq,hlq⟩: ∃lq,lq=lft p (W^t):=⟨_,rfl⟩
       rw [←hy1] at HTm hst
       rw [←hlq] at HTm d
       have HST:=zy hst
       have s0:IntKind.i64.wrap (o0:Int)=(o0:Int):=IntWalk.i64_in _ (by omega)
       have s1:IntKind.i64.wrap (o1:Int)=(o1:Int):=IntWalk.i64_in _ (by omega)
       have s2:IntKind.i64.wrap (t:Int)=(t:Int):=IntWalk.i64_in _ (by omega)
       have i0':(0:Int)≤(o0:Int):=by omega
       have i1':(o0:Int)<(L.length:Int):=by omega
       have i2':(0:Int)≤(o1:Int):=by omega
       have i3':(o1:Int)<(L.length:Int):=by omega
       have i4':(0:Int)≤(t:Int):=by omega
       have i5':(t:Int)<(L.length:Int):=by omega
       clear ho0 ho1 ht hx0 hx1 hv0 hv1 hst hy1 hlq
       go_upto_region 17 with fail
       go_quiet ((go_at_call 81;exact Calls.quiet_of (HTm.out _)))
       go_wp2_with fail
       have hRn:=fun n=>hR2.out.drewN n
       have hFz: ∀wz,R2 w2 G L.length cG (brow F F' S L.length (b*S+j)) wz→Fd wz w.heap.size v p g:=fun wz hz=>HFd.out.below (hB2.trans (hz.1.mono hB2.size))
       generalize hgw:World.drewN wr _=wq
       have hRq:R2 w2 G L.length cG (brow F F' S L.length (b*S+j)) wq:=hgw ▸ hRn _
       have hRq1:R2 w2 G L.length cG (brow F F' S L.length (b*S+j)) wq.drew:=hRq.drewN 1
       obtain ⟨Lk,hLk⟩: ∃Lk,Lk=brow F F' S L.length (b*S+j):=⟨_,rfl⟩
       rw [←hLk] at HST hRq hRq1 hFz
       have HA2:Hid (∀wz,R2 w2 G L.length cG Lk wz→Calls Tryz.prog 80 #[v, .int .u64 (x0.val:Int), .int .u64 (y1.val:Int)] wz fun e w'=>e= .returned (.int .u64 ((x0+y1).val:Int))∧R2 w2 G L.length cG Lk w'):=zy (fun wz hz=>by
        have h1:=zG9 (hFz wz hz) (x0.val:Int) (y1.val:Int) (hlp x0).1 (hlp x0).2 (hlp y1).1 (hlp y1).2
        rw [zGt,zt_of_val,zt_of_val] at h1
        exact h1.mono fun e w' ⟨he,n,hw⟩=>⟨he,hw ▸ hz.drewN n⟩)
       have HS2:Hid (∀wz,R2 w2 G L.length cG Lk wz→Calls Tryz.prog 117 #[v, .int .u64 (x0.val:Int), .int .u64 (y1.val:Int)] wz fun e w'=>e= .returned (.int .u64 ((x0-y1).val:Int))∧R2 w2 G L.length cG Lk w'):=zy (fun wz hz=>by
        have h1:=zHL (hFz wz hz) (x0.val:Int) (y1.val:Int) (hlp x0).1 (hlp x0).2 (hlp y1).1 (hlp y1).2
        rw [zGy,zt_of_val,zt_of_val] at h1
        exact h1.mono fun e w' ⟨he,n,hw⟩=>⟨he,hw ▸ hz.drewN n⟩)
       have d01:o0≠o1:=by omega
       obtain ⟨X0,hX0⟩: ∃X0:Int,X0=((x0+y1:Fin p).val:Int):=⟨_,rfl⟩
       obtain ⟨X1,hX1⟩: ∃X1:Int,X1=((x0-y1:Fin p).val:Int):=⟨_,rfl⟩
       rw [←hX0] at HA2 HST
       rw [←hX1] at HS2 HST
       clear c0 c1 d HTm hRn hFz hgw hLk hX0 hX1 hlp hFw
       go_wp2_with fail
       refine (HA2.out _ hRq).mono ?_
       rintro r w7 ⟨rfl,hR7⟩
       go_wp2_with fail
       refine (HS2.out _ hR7).mono ?_
       rintro r w8 ⟨rfl,hR8⟩
       have g0':=hR8.cell o0 l0
       have g1':=hR8.cell o1 l1
       have f0:=hR8.fz o0 l0
       have f1:=hR8.fz o1 l1
       have hRf:=hR8.set2 l0 l1 X0 X1
       rw [HST.out] at hRf
       have HRf:=zy hRf
       clear hRf
       go_wp2
       go_roundw
       case rel=>exact ⟨j+1,by go_num,by omega,HRf⟩
       case measure=>simp [intOf];omega
      ·obtain rfl:S=j:=by omega
       have hR2':Hid (R2 w2 G L.length cG (brow F F' S L.length ((b+1)*S)) wr):=zy (by rw [Nat.add_mul,Nat.one_mul];exact hR2.out)
       go_wp2
       go_roundw
       case rel=>exact ⟨b+1,q+z,by go_num,zy (by rw [Nat.add_mul,Nat.one_mul,hq.out]),hqz,by omega,hR2'⟩
       case measure=>simp [intOf];omega
    ·have hb:b=st:=by
      rcases Nat.lt_or_ge b st with h|h
      ·exfalso
       have h1:(b+1)*z≤st*z:=Nat.mul_le_mul_right _ h
       rw [←Hnz.out,Nat.add_mul,Nat.one_mul,←hq.out] at h1
       omega
      ·omega
     have hR2':Hid (R2 w2 G L.length cG (lst L.length (U (s+1))) wr):=zy (by rw [←HFe'.out,←hF1.out,←hb];exact hR2.out)
     clear hb
     go_wp2
     go_roundw
     case rel=>exact ⟨s+1,z*2,by go_num,by omega,zy (by rw [Nat.pow_succ,hz.out]),by omega,by omega,hR2'⟩
     case measure=>simp [intOf];omega
  ·have hs:s=k:=by
    rcases Nat.lt_or_ge s k with h|h
    ·exfalso
     have h1:=hz.out
     have h2:2^(s+1)≤2^k:=Nat.pow_le_pow_right (by omega) (by omega)
     have:=HLk.out
     omega
    ·omega
   have hB:=hR2.out.1
   have hO:=hR2.out.2
   rw [hs] at hO
   have hBw:=hB2.trans (hB.mono hB2.size)
   have hE:=zy (HEn.out wr _ w.heap.size hBw hBw.size (hO.mono hB2.size))
   have HBw:=zy hBw
   clear hs hB hO hBw
   go_wp2_with fail
   refine hE.out.mono ?_
   rintro e w4 ⟨V4,rfl,hO4,hB4⟩
   have HO4:=zy hO4
   have hBf:=HBw.out.trans (hB4.mono HBw.out.size)
   clear hO4
   go_wp2
   go_ret2
   exact ⟨_,rfl,HO4.out,hBf⟩
end

section
open Alg
theorem zFS {p:Nat} {w:World} {v:Value} {g:Int} (h:Fd w w.heap.size v p g) (A:Option Addr) (c:Nat) (L:List Int) (inv:Bool) (hl:L.length≤140737488351232) (hU:U64s L) (hR:RdI w w.heap.size .u64 A L) (hf:zGD p L≠0):
  Calls Tryz.prog 63 #[v, .slice A L.length c, .bool inv] w fun e w'=>e= .returned (.tuple #[.slice none 0 0, .int .i64 (zGD p L)])∧w=w':=by
 have hC:=zy (zQu h A c L hl hU hR)
 have t:(zGD p L != 0)=true:=by simp [hf]
 obtain ⟨z,hz⟩: ∃z,z=zGD p L:=⟨_,rfl⟩
 rw [←hz] at hC t ⊢
 clear hz hf h hU hR
 go_enter Tryz.func63,Tryz.ntmps63
 go_wp2_with fail
 refine hC.out.mono ?_
 rintro e w1 ⟨rfl,rfl⟩
 go_wp2
 go_ret2
 exact ⟨rfl,rfl⟩
attribute [local go_sem ↓] Go.wp_at_zero Go.wp_at_succ
theorem zFT {p:Nat} [NeZero p] {w:World} {v:Value} {g:Int} (hp:Prime p) (hg:Ord (zt p g) (p-1)) (g0:0≤g) (g1:g<p) (h:Fd w w.heap.size v p g) (A:Option Addr) (c:Nat) (L:List Int) (inv:Bool) (hU:U64s L) (hR:RdI w w.heap.size .u64 A L) (hf:zGD p L=0):
  Calls Tryz.prog 63 #[v, .slice A L.length c, .bool inv] w fun e w'=> ∃V,e= .returned (.tuple #[V, .int .i64 0])∧OwnU w' w.heap.size V L.length (lst L.length (tr (zt p g) L.length inv (rz p L)))∧Below w.heap.size w w':=by
 obtain ⟨hc,h2,hgd⟩:=zGH hf
 obtain ⟨n1,n2,_⟩:=zEq hc
 have HPM:=zy (And.intro h.p3 h.pmx)
 obtain ⟨hdv,hn0⟩:=zEl (by have:=hp.1;omega) hc
 have hC:=zy (zQu h A c L (by omega) hU hR)
 rw [hf] at hC
 have hT:=zy (zKA h L.length inv hc g0 g1)
 obtain ⟨k,hk,hlk⟩:=zO2 h2
 have HFd:=zy h
 have hO:=zSz hg hdv hn0 inv
 obtain ⟨ω,hω⟩: ∃ω,ω=rt (zt p g) L.length inv:=⟨_,rfl⟩
 have hRt:Hid (∀W,zAH p g L.length inv W→zt p W=ω):=zy (fun W hW=>by rw [hω];exact zAH.zt hp hg hdv hn0 hW)
 rw [←hω] at hO
 have HTR:Hid (lst L.length (tr (zt p g) L.length inv (rz p L))=lst L.length fun i=>sc p L.length inv*dnN ω (rz p L) k k (rev k i)):=zy (zKW fun i hi=>by
  rw [zFK hp (by rw [←hlk];exact hO) _ _ (zRG k i),zRI k i (by rw [←hlk];exact hi),←hlk,hω];rfl)
 rw [HTR.out]
 have HS0:Hid (L=lst L.length (dnN ω (rz p L) k 0)):=zy (zLc hgd hU).symm
 have HEn:Hid (∀(wz:World) (V:Value) (B:Nat),Below w.heap.size w wz→B≤wz.heap.size→OwnU wz B V L.length (lst L.length fun i=>dnN ω (rz p L) k k (rev k i))→Calls Tryz.prog 118 #[v,V, .bool inv] wz fun r w'=> ∃V',r= .returned V'∧OwnU w' B V' L.length (lst L.length fun i=>sc p L.length inv*dnN ω (rz p L) k k (rev k i))∧Below wz.heap.size wz w'):=
  zy (fun wz V B hz hB hV=>zGe hp ((HFd.out.below hz).mono hz.size) V B L.length (fun i=>dnN ω (rz p L) k k (rev k i)) inv hdv hn0 (by omega) hV hB)
 have HU:=zy hU
 have HR:=zy hR
 have HLk:=zy hlk
 have HUp:Hid (∀t,t<k→dnN ω (rz p L) k (t+1)=dnF ω (2^(k-(t+1))) (2^t) (dnN ω (rz p L) k t)):=zy (fun t _=>rfl)
 have HOn:Hid (pw ω L.length=1):=zy hO.2.1
 obtain ⟨U,hUe⟩: ∃U,U=dnN ω (rz p L) k:=⟨_,rfl⟩
 have HCl:Hid (∀w2,Below w.heap.size w w2→Calls Tryz.prog 116 #[.slice A L.length c] w2 fun r w'=> ∃V,r= .returned V∧OwnU w' w2.heap.size V L.length (lst L.length (U 0))∧Below w2.heap.size w2 w'):=zy (fun w2 hB2=>by
  have h1:=zE4 A c L w2 (by omega) ((hR.below hB2).mono hB2.size)
  rw [hUe,←HS0.out]
  exact h1)
 have HTn:Hid (∀(w2:World) (V:Value) (B:Nat),B≤w2.heap.size→OwnU w2 B V L.length (lst L.length (U k))→Calls Tryz.prog 119 #[V] w2 fun r w'=> ∃V,r= .returned V∧OwnU w' B V L.length (lst L.length fun i=>U k (rev k i))∧Below w2.heap.size w2 w'):=zy (fun w2 V B hB hV=>by
  obtain ⟨A2,c2,rfl,hR2⟩:=hV.rd
  have h1:=zVF k A2 c2 (lst L.length (U k)) w2 hk (by rw [zLb];exact hlk) (zLd HPM.out.2 _ _) hR2
  rw [zLb] at h1
  have h2:(full L.length fun j=>(lst L.length (U k)).getD (rev k j) 0)=lst L.length fun i=>U k (rev k i):=zHQ fun i hi=>zKY (by rw [hlk];exact zRG k i)
  rw [h2] at h1
  exact h1.mono fun r w' ⟨V,hr,hO,hb⟩=>⟨V,hr,hO.mono hB,hb⟩)
 rw [←hUe] at HEn HUp ⊢
 clear h hR hU hf hc h2 hgd hdv hO hω hlk HS0 hUe HTR HR HU
 go_enter Tryz.func63,Tryz.ntmps63
 go_wp2_with fail
 refine hC.out.mono ?_
 rintro e w1 ⟨rfl,rfl⟩
 go_wp2_with fail
 refine hT.out.mono ?_
 rintro e w2 ⟨VT,W,rfl,hW,hown,hB2⟩
 obtain ⟨AT,cT,rfl,hRT⟩:=hown.rd
 have HWZ:=zy (hRt.out W hW)
 obtain ⟨bT,oT,rfl,hbT,hcT⟩:=hRT (by rw [zHS];omega)
 have HcT:Hid (∀i,i<L.length→w2.cell? ⟨bT,oT+i,none⟩=some (.int .u64 (lft p (W^i)))):=zy (fun i hi=>by
  have h1:=hcT i (by rw [zHS];exact hi)
  rw [zHR hi] at h1
  exact h1)
 clear hW hown hRT hcT
 go_wp2_with fail
 refine (HCl.out w2 hB2).mono ?_
 rintro e w3 ⟨V3,rfl,hO3,hB3⟩
 obtain ⟨G,cG,rfl,hGb⟩:=zN2 hO3 hn0
 have hR3:Hid (R2 w2 G L.length cG (lst L.length (U 0)) w3):=zy ⟨hB3,hO3⟩
 clear hO3 hB3
 go_wp2
 have hz0k:Hid (L.length=2^(k-0)):=zy HLk.out
 go_loopw [13] (fun I wr=> ∃(s z:Nat),I= .int .i64 z∧z≤8192∧Hid (z=2^(k-s))∧s≤k∧1≤z∧Hid (R2 w2 G L.length cG (lst L.length (U s)) wr)) (fun I _=>(intOf I).toNat)
 case atStart=>exact ⟨0,L.length,rfl,by omega,hz0k,by omega,by omega,hR3⟩
 case round=>
  clear hR3 hz0k
  obtain ⟨s,z,rfl,hz8,hz,hsk,hz1,hR2⟩:=hrel
  by_cases hlt:2≤z
  ·have hs:s<k:=by
    rcases Nat.lt_or_ge s k with h|h
    ·exact h
    ·have h1:=hz.out
     rw [show k-s=0 by omega] at h1
     omega
   obtain ⟨S,hS⟩: ∃S,S=2^(k-(s+1)):=⟨_,rfl⟩
   obtain ⟨st,hst⟩: ∃st,st=2^s:=⟨_,rfl⟩
   have hzS:z=2*S:=by rw [hz.out,hS,show k-s=(k-(s+1))+1 by omega,Nat.pow_succ];omega
   have hnz:L.length=st*z:=by
    rw [HLk.out,hz.out,hst,←Nat.pow_add,show s+(k-s)=k by omega]
   have hS0:0<S:=by rw [hS];exact Nat.pow_pos (by omega)
   have hst0:0<st:=by rw [hst];exact Nat.pow_pos (by omega)
   have hF':=HUp.out s hs
   rw [←hS,←hst] at hF'
   have hF0:Hid (lst L.length (U s)=brow (U s) (U (s+1)) S L.length (0*S)):=zy (by rw [Nat.zero_mul,zCH])
   have hF1:Hid (brow (U s) (U (s+1)) S L.length (st*S)=lst L.length (U (s+1))):=zy (by rw [hnz,hzS];exact zCC hS0)
   have hSe:Hid (S=2^(k-(s+1))):=zy hS
   rw [hF0.out] at hR2
   obtain ⟨F,hFe⟩: ∃F,F=U s:=⟨_,rfl⟩
   obtain ⟨F',hFe'⟩: ∃F',F'=U (s+1):=⟨_,rfl⟩
   rw [←hFe] at hR2 hF' hF1
   rw [←hFe'] at hR2 hF' hF1
   have HF':=zy hF'
   have HFe':=zy hFe'
   have hzn:z≤L.length:=by rw [hnz];exact Nat.le_mul_of_pos_left _ hst0
   have hSn:S≤2048:=by omega
   have hstn:st≤4096:=by
    have:st*1≤st*z:=Nat.mul_le_mul_left _ hz1
    omega
   have tz2:decide ((2:Int)≤(z:Int))=true:=by simp;omega
   have eS:(z:Int)/2=(S:Int):=by omega
   have eT:(L.length:Int)/(z:Int)=(st:Int):=by
    rw [hnz,←Int.natCast_ediv,Nat.mul_div_cancel _ (by omega)]
   have tz:((z:Int) == 0)=false:=by simp;omega
   have HzS:=zy hzS
   have Hnz:=zy hnz
   clear hS hst hF' hF0 hFe hFe' hzS hnz
   go_wp2
   go_quiet (fail)
   go_wp2
   go_loopw [16] (fun I wr=> ∃(b q:Nat),I= .int .i64 q∧Hid (q=b*z)∧q≤L.length∧b≤st∧Hid (R2 w2 G L.length cG (brow F F' S L.length (b*S)) wr)) (fun I _=>L.length-(intOf I).toNat)
   case atStart=>exact ⟨0,0,rfl,zy (by rw [Nat.zero_mul]),by omega,by omega,by first|exact hR2|exact zy (hR2.out.drewN _)⟩
   case round=>
    clear hR2
    obtain ⟨b,q,rfl,hq,hqn,hbst,hR2⟩:=hrel
    by_cases hlq:q<L.length
    ·have hb:b<st:=by
      rcases Nat.lt_or_ge b st with h|h
      ·exact h
      ·exfalso
       have h1:=hq.out
       have:b=st:=by omega
       rw [this,←Hnz.out] at h1
       omega
     have hqz:q+z≤L.length:=by
      have h1:(b+1)*z≤st*z:=Nat.mul_le_mul_right _ hb
      rw [←Hnz.out,Nat.add_mul,Nat.one_mul,←hq.out] at h1
      exact h1
     have hqS:Hid (q=b*(2*S)):=zy (by rw [hq.out,HzS.out])
     go_wp2
     go_loopw [54] (fun I wr=> ∃j:Nat,I= .int .i64 j∧j≤S∧Hid (R2 w2 G L.length cG (brow F F' S L.length (b*S+j)) wr)) (fun I _=>S-(intOf I).toNat)
     case atStart=>exact ⟨0,rfl,by omega,by rw [Nat.add_zero];exact hR2⟩
     case round=>
      clear hR2
      obtain ⟨j,rfl,hj,hR2⟩:=hrel
      by_cases hjS:j<S
      ·obtain ⟨o0,ho0⟩: ∃o0,o0=b*(2*S)+j:=⟨_,rfl⟩
       obtain ⟨o1,ho1⟩: ∃o1,o1=b*(2*S)+j+S:=⟨_,rfl⟩
       obtain ⟨t,ht⟩: ∃t,t=j*st:=⟨_,rfl⟩
       have l1:o1<L.length:=by rw [ho1,←hqS.out];have:=HzS.out;omega
       have l0:o0<L.length:=by omega
       have lt:t<L.length:=by
        have h1:j*st<S*st:=Nat.mul_lt_mul_of_pos_right hjS hst0
        have h2:st*(2*S)=2*(S*st):=by rw [Nat.mul_left_comm,Nat.mul_comm st S]
        rw [ht,Hnz.out,HzS.out,h2];omega
       have e0:(q:Int)+(j:Int)=(o0:Int):=by rw [ho0,←hqS.out];omega
       have e1:(o0:Int)+(S:Int)=(o1:Int):=by omega
       have et:(j:Int)*(st:Int)=(t:Int):=by rw [ht,Int.natCast_mul]
       have d:=zDs hR2.out.1 hbT (HcT.out t lt)
       have c0:=hR2.out.cell o0 l0
       have c1:=hR2.out.cell o1 l1
       rw [ho0,zCF hjS (by rw [←ho0];exact l0),←ho0] at c0
       rw [ho1,zCD hjS (by rw [←ho1];exact l1),←ho1] at c1
       have hst:=zCG (F:=F) (F':=F') (n:=L.length) (b:=b) hjS
       rw [←ho1,←ho0] at hst
       have hv0:F' o0=F o0+F o1:=by rw [HF'.out,ho0,zFJ hjS,←ho1]
       have hv1:F' o1=pw ω t*(F o0-F o1):=by rw [HF'.out,ho1,zFI hjS,←ho1,←ho0,←ht]
       rw [hv0,hv1] at hst
       obtain ⟨x0,hx0⟩: ∃x0,x0=F o0:=⟨_,rfl⟩
       obtain ⟨x1,hx1⟩: ∃x1,x1=F o1:=⟨_,rfl⟩
       rw [←hx0] at c0 hst
       rw [←hx1] at c1 hst
       have hlp: ∀x:Fin p,0≤((x.val:Nat):Int)∧((x.val:Nat):Int)≤18446744073709551615:=fun x=>by have:=x.isLt;have:=HPM.out.2;omega
       obtain ⟨X0,hX0⟩: ∃X0,X0=x0+x1:=⟨_,rfl⟩
       obtain ⟨y1,hy1⟩: ∃y1,y1=x0-x1:=⟨_,rfl⟩
       rw [←hX0] at hst
       rw [←hy1] at hst
       obtain ⟨X1,hX1⟩: ∃X1,X1=pw ω t*y1:=⟨_,rfl⟩
       obtain ⟨lq,hlq⟩: ∃lq,lq=lft p (W^t):=⟨_,rfl⟩
       rw [←hX1] at hst
       rw [←hlq] at d
       have HST:=zy hst
       have s0:IntKind.i64.wrap (o0:Int)=(o0:Int):=IntWalk.i64_in _ (by omega)
       have s1:IntKind.i64.wrap (o1:Int)=(o1:Int):=IntWalk.i64_in _ (by omega)
       have s2:IntKind.i64.wrap (t:Int)=(t:Int):=IntWalk.i64_in _ (by omega)
       have i0':(0:Int)≤(o0:Int):=by omega
       have i1':(o0:Int)<(L.length:Int):=by omega
       have i2':(0:Int)≤(o1:Int):=by omega
       have i3':(o1:Int)<(L.length:Int):=by omega
       have i4':(0:Int)≤(t:Int):=by omega
       have i5':(t:Int)<(L.length:Int):=by omega
       have d01:o0≠o1:=by omega
       have HX0:=zy hX0
       have HX1:=zy hX1
       have HY1:=zy hy1
       have HLQ:=zy hlq
       clear ho0 ho1 ht hx0 hx1 hv0 hv1 hst hX0 hX1 hy1 hlq
       go_upto_region 17 with fail
       go_quiet (fail)
       go_upto_region 18 with fail
       have hRn:=fun n=>hR2.out.drewN n
       generalize hgw:World.drewN wr _=wq
       have hRq:R2 w2 G L.length cG (brow F F' S L.length (b*S+j)) wq:=hgw ▸ hRn _
       have d2:wq.cell? ⟨bT,oT+t,none⟩=some (.int .u64 lq):=by rw [←hgw];exact d
       obtain ⟨Lk,hLk⟩: ∃Lk,Lk=brow F F' S L.length (b*S+j):=⟨_,rfl⟩
       rw [←hLk] at HST hRq
       have hRq1:R2 w2 G L.length cG Lk wq.drew:=hRq.drewN 1
       have hFz: ∀wz,R2 w2 G L.length cG Lk wz→Fd wz w.heap.size v p g:=fun wz hz=>HFd.out.below (hB2.trans (hz.1.mono hB2.size))
       have HdT:Hid (∀wz,R2 w2 G L.length cG Lk wz→wz.cell? ⟨bT,oT+t,none⟩=some (.int .u64 lq)):=zy (fun wz hz=>by rw [HLQ.out];exact zDs hz.1 hbT (HcT.out t lt))
       have HAd:Hid (∀wz,R2 w2 G L.length cG Lk wz→Calls Tryz.prog 80 #[v, .int .u64 (x0.val:Int), .int .u64 (x1.val:Int)] wz fun e w'=>e= .returned (.int .u64 (X0.val:Int))∧R2 w2 G L.length cG Lk w'):=zy (fun wz hz=>by
        have h1:=zG9 (hFz wz hz) (x0.val:Int) (x1.val:Int) (hlp x0).1 (hlp x0).2 (hlp x1).1 (hlp x1).2
        rw [zGt,zt_of_val,zt_of_val,←HX0.out] at h1
        exact h1.mono fun e w' ⟨he,n,hw⟩=>⟨he,hw ▸ hz.drewN n⟩)
       have HSb:Hid (∀wz,R2 w2 G L.length cG Lk wz→Calls Tryz.prog 117 #[v, .int .u64 (x0.val:Int), .int .u64 (x1.val:Int)] wz fun e w'=>e= .returned (.int .u64 (y1.val:Int))∧R2 w2 G L.length cG Lk w'):=zy (fun wz hz=>by
        have h1:=zHL (hFz wz hz) (x0.val:Int) (x1.val:Int) (hlp x0).1 (hlp x0).2 (hlp x1).1 (hlp x1).2
        rw [zGy,zt_of_val,zt_of_val,←HY1.out] at h1
        exact h1.mono fun e w' ⟨he,n,hw⟩=>⟨he,hw ▸ hz.drewN n⟩)
       have HTm:Hid (∀wz,R2 w2 G L.length cG Lk wz→Calls Tryz.prog 81 #[v, .int .u64 lq, .int .u64 (y1.val:Int)] wz fun e w'=>e= .returned (.int .u64 (X1.val:Int))∧R2 w2 G L.length cG Lk w'):=zy (fun wz hz=>by
        have h1:=zHM (hFz wz hz) (W^t) (y1.val:Int) (hlp y1).1 (hlp y1).2
        rw [zGv,zt_of_val,zt_pow,HWZ.out,←HX1.out,←HLQ.out] at h1
        exact h1.mono fun e w' ⟨he,n,hw⟩=>⟨he,hw ▸ hz.drewN n⟩)
       have bG:bT≠G:=by omega
       have bG':G≠bT:=by omega
       clear hFz hlp hLk
       go_region_held3 (fun wz=>wz.cell? ⟨bT,oT+t,none⟩=some (.int .u64 lq))
        (first|go_keep|assumption)
        ((first
        | (go_at_call 80;refine (HAd.out _ (by first|assumption|exact hRq.drewN _)).mono ?_;rintro r w8 ⟨rfl,hR8⟩;have zb:=HdT.out _ hR8)
        | (go_at_call 117;refine (HSb.out _ (by assumption)).mono ?_;rintro r w8 ⟨rfl,hR8⟩;have zb:=HdT.out _ hR8)
        | (go_at_call 81;refine (HTm.out _ (by assumption)).mono ?_;rintro r w8 ⟨rfl,hR8⟩;have zb:=HdT.out _ hR8;have g0':=hR8.cell o0 l0;have g1':=hR8.cell o1 l1;have f0:=hR8.fz o0 l0;have f1:=hR8.fz o1 l1)))
       have hRf:=hR8.set2 l0 l1 (X0.val:Int) (X1.val:Int)
       rw [HST.out] at hRf
       have HRf:=zy hRf
       clear hRf s0 s1 s2 e0 e1 et g0' g1' f0 f1 zb d2
       go_wp2
       go_roundw
       case rel=>exact ⟨j+1,by go_num,by omega,HRf⟩
       case measure=>simp [intOf];omega
      ·obtain rfl:S=j:=by omega
       have hR2':Hid (R2 w2 G L.length cG (brow F F' S L.length ((b+1)*S)) wr):=zy (by rw [Nat.add_mul,Nat.one_mul];exact hR2.out)
       go_wp2
       go_roundw
       case rel=>exact ⟨b+1,q+z,by go_num,zy (by rw [Nat.add_mul,Nat.one_mul,hq.out]),hqz,by omega,hR2'⟩
       case measure=>simp [intOf];omega
    ·have hb:b=st:=by
      rcases Nat.lt_or_ge b st with h|h
      ·exfalso
       have h1:(b+1)*z≤st*z:=Nat.mul_le_mul_right _ h
       rw [←Hnz.out,Nat.add_mul,Nat.one_mul,←hq.out] at h1
       omega
      ·omega
     have hR2':Hid (R2 w2 G L.length cG (lst L.length (U (s+1))) wr):=zy (by rw [←HFe'.out,←hF1.out,←hb];exact hR2.out)
     clear hb
     go_wp2
     go_roundw
     case rel=>exact ⟨s+1,S,by go_num,by omega,hSe,by omega,hS0,hR2'⟩
     case measure=>simp [intOf];omega
  ·have hs:s=k:=by
    rcases Nat.lt_or_ge s k with h|h
    ·exfalso
     have h1:=hz.out
     rw [show k-s=(k-(s+1))+1 by omega,Nat.pow_succ] at h1
     have h2:0<2^(k-(s+1)):=Nat.pow_pos (by omega)
     clear hz
     omega
    ·omega
   have hB:=hR2.out.1
   have hO:=hR2.out.2
   rw [hs] at hO
   have hBw:=hB2.trans (hB.mono hB2.size)
   have hT2:=zy (HTn.out wr _ w.heap.size hBw.size (hO.mono hB2.size))
   have HBw:=zy hBw
   clear hs hB hO hBw
   go_wp2_with fail
   refine hT2.out.mono ?_
   rintro e w4 ⟨V4,rfl,hO4,hB4⟩
   have hBx:=HBw.out.trans (hB4.mono HBw.out.size)
   have hE:=zy (HEn.out w4 _ w.heap.size hBx hBx.size hO4)
   have HBx:=zy hBx
   clear hO4 hBx hB4
   go_wp2_with fail
   refine hE.out.mono ?_
   rintro e w5 ⟨V5,rfl,hO5,hB5⟩
   have HO5:=zy hO5
   have hBf:=HBx.out.trans (hB5.mono HBx.out.size)
   clear hO5
   go_wp2
   go_ret2
   exact ⟨_,rfl,HO5.out,hBf⟩
end

section
open Alg
section
variable {p:Nat} [NeZero p]
def upd (F:Nat→Fin p) (i:Nat) (v:Fin p) (j:Nat):Fin p:=if j=i then v else F j
theorem upd_same (F:Nat→Fin p) (i:Nat) (v:Fin p):upd F i v i=v:=if_pos rfl
theorem zWh {F:Nat→Fin p} {i j:Nat} {v:Fin p} (h:j≠i):upd F i v j=F j:=if_neg h
theorem zLe (n:Nat) (F:Nat→Fin p) (i:Nat) (v:Fin p):(lst n F).set i ((v.val:Nat):Int)=lst n (upd F i v):=by
 unfold lst full
 exact zLy _ _ _ _ _ (by rw [upd_same]) fun j _ hj=>by rw [zWh hj]
theorem zLf (n:Nat):lst n (fun _=>(0:Fin p))=List.replicate n 0:=by
 unfold lst full
 simp [List.map_const']
end
theorem zLs {p:Nat} [NeZero p] {w:World} {B n:Nat} {V:Value} (h:w.ownsRow B 22 1 V n (madeCells #[.int .u64 0] n).toList):OwnU w B V n (lst n (fun _=>(0:Fin p))):=by
 unfold OwnU
 rw [zLf,zJC,←toList_madeCells_one];exact h
attribute [local go_sem ↓] Go.wp_at_zero Go.wp_at_succ
theorem zUz {p:Nat} [NeZero p] {w:World} {v:Value} {g:Int} (hp:Prime p) (hg:Ord (zt p g) (p-1)) (g0:0≤g) (g1:g<p) (h:Fd w w.heap.size v p g) (A:Option Addr) (c:Nat) (L:List Int) (inv:Bool) (hU:U64s L) (hR:RdI w w.heap.size .u64 A L) (hc:chk p L.length 4096=0) (hgd:zI1 p L=true):
  Calls Tryz.prog 134 #[v, .slice A L.length c, .bool inv] w fun e w'=> ∃V,e= .returned V∧OwnU w' w.heap.size V L.length (lst L.length (dft (rt (zt p g) L.length inv) L.length (rz p L)))∧Below w.heap.size w w':=by
 obtain ⟨i0,hi,hz0,hz1,hz2⟩:=info_parts zJt
 obtain ⟨n1,n2,_⟩:=zEq hc
 have HPM:=zy (And.intro h.p3 h.pmx)
 obtain ⟨hdv,hn0⟩:=zEl (by have:=hp.1;omega) hc
 have hT:=zy (zKA h L.length inv hc g0 g1)
 have HFd:=zy h
 have hO:=zSz hg hdv hn0 inv
 obtain ⟨ω,hω⟩: ∃ω,ω=rt (zt p g) L.length inv:=⟨_,rfl⟩
 have hRt:Hid (∀W,zAH p g L.length inv W→zt p W=ω):=zy (fun W hW=>by rw [hω];exact zAH.zt hp hg hdv hn0 hW)
 rw [←hω] at hO ⊢
 have HOn:Hid (pw ω L.length=1):=zy hO.2.1
 obtain ⟨x,hx⟩: ∃x,x=rz p L:=⟨_,rfl⟩
 have HX:Hid (∀k,k<L.length→L.getD k 0=((x k).val:Int)):=zy (fun k hk=>by
  have h1:lst L.length x=L:=by rw [hx];exact zLc hgd hU
  have h2:=zKY (f:=x) hk
  rw [h1] at h2
  exact h2)
 rw [←hx]
 have HR:=zy hR
 obtain ⟨N,hN⟩: ∃N,N=L.length:=⟨_,rfl⟩
 rw [←hN] at hT hRt HOn HX n1 n2 hn0 ⊢
 have HN:=zy hN
 have hN4:N≤4096:=by omega
 have hz:((N:Int) == 0)=false:=by simp;omega
 obtain ⟨D,hD⟩: ∃D,D=dft ω N x:=⟨_,rfl⟩
 have HD:Hid (∀i,D i=sm N fun j=>pw ω (i*j)*x j):=zy (fun i=>by rw [hD];rfl)
 rw [←hD]
 clear h hR hU hc hgd hdv hO hω hx hN hD n1 n2
 go_enter Tryz.func134,Tryz.ntmps134
 go_wp2_with fail
 refine hT.out.mono ?_
 rintro e w2 ⟨VT,W,rfl,hW,hown,hB2⟩
 obtain ⟨AT,cT,rfl,hRT⟩:=hown.rd
 have HWZ:=zy (hRt.out W hW)
 obtain ⟨bT,oT,rfl,hbT,hcT⟩:=hRT (by rw [zHS];omega)
 have HcT:Hid (∀i,i<N→w2.cell? ⟨bT,oT+i,none⟩=some (.int .u64 (lft p (W^i)))):=zy (fun i hi=>by
  have h1:=hcT i (by rw [zHS];exact hi)
  rw [zHR hi] at h1
  exact h1)
 obtain ⟨bA,oA,rfl,hbA,hcA⟩:=(HR.out.below hB2) (by have:=HN.out;omega)
 have HcA:Hid (∀k,k<N→w2.cell? ⟨bA,oA+k,none⟩=some (.int .u64 ((x k).val:Int))):=zy (fun k hk=>by
  have h1:=hcA k (by rw [←HN.out];exact hk)
  rw [HX.out k hk] at h1
  exact h1)
 have hbA2:bA<w2.heap.size:=by have:=hB2.size;omega
 clear hW hown hRT hcT hcA hT hRt
 go_wp2_with (at_make;refine wpList_make_full _ rfl _ _ 54 rfl w2.heap.size 22 i0 (.int .u64 0) 1 Tryz.underlying54 hi hz0 hz1 _ _ _ _ N rfl rfl ?l1 ?l2 ?b2 ?b3 (Nat.le_refl _) ?_)
 case l1=>omega
 case l2=>omega
 case b2=>rw [hz2];omega
 case b3=>unfold maxLen;omega
 intro w8 hown hgrow
 have hown0:OwnU w8 w2.heap.size (.slice (some ⟨w2.heap.size,0,none⟩) N N) N (lst N (fun _=>(0:Fin p))):=zLs hown
 have hB8:Below w2.heap.size w2 w8:=(Below.refl _ _).grown hgrow (Nat.le_refl _) (fun k h=>by cases h)
 obtain ⟨G,hG⟩: ∃G,G=w2.heap.size:=⟨_,rfl⟩
 rw [←hG] at hown0 ⊢
 have hGe:w2.heap.size≤G:=by omega
 rw [show OwnU w8 G=OwnU w8 w2.heap.size by rw [hG]] at hown0
 have HQ8:Hid (R2 w2 G N N (lst N (fun _=>(0:Fin p))) w8):=zy ⟨hB8,hown0⟩
 clear hown hgrow hown0 hB8 hG
 go_wp2
 go_loopw [28] (fun I wr=> ∃(i:Nat) (F:Nat→Fin p),I= .int .i64 i∧i≤N∧Hid (∀j,j<i→F j=D j)∧Hid (∀j,i≤j→F j=0)∧Hid (R2 w2 G N N (lst N F) wr)) (fun I _=>N-(intOf I).toNat)
 case atStart=>exact ⟨0,_,rfl,by omega,zy (fun j hj=>by omega),zy (fun _ _=>rfl),HQ8⟩
 case round=>
  clear HQ8
  obtain ⟨i,F,rfl,hiN,hlo,hhi,hQ⟩:=hrel
  by_cases hlt:i<N
  ·have ti:decide ((i:Int)<(N:Int))=true:=decide_eq_true (by omega)
   have H0:Hid (F i=sm 0 fun j=>pw ω (i*j)*x j):=zy (hhi.out i (Nat.le_refl _))
   have Ha0:Hid (0=i*0%N):=zy (by simp)
   have Hh:Hid (∀j,i<j→F j=0):=zy (fun j hj=>hhi.out j (by omega))
   clear hhi
   go_wp2
   go_loopw [12,33] (fun T I wr=> ∃(k a:Nat) (F:Nat→Fin p),I= .int .i64 k∧T= .int .i64 a∧k≤N∧Hid (a=i*k%N)∧a<N∧Hid (F i=sm k fun j=>pw ω (i*j)*x j)∧Hid (∀j,j<i→F j=D j)∧Hid (∀j,i<j→F j=0)∧Hid (R2 w2 G N N (lst N F) wr)) (fun _ I _=>N-(intOf I).toNat)
   case atStart=>exact ⟨0,0,F,rfl,rfl,by omega,Ha0,by omega,H0,hlo,Hh,hQ⟩
   case round=>
    clear hQ H0 Ha0 Hh hlo F
    obtain ⟨k,a,F,rfl,rfl,hk,hak,haN,hFi,hlo,hhi,hQ⟩:=hrel
    by_cases hkN:k<N
    ·have tk:decide ((k:Int)<(L.length:Int))=true:=decide_eq_true (by have:=HN.out;omega)
     have c0:=zDs hQ.out.1 hbT (HcT.out a haN)
     have c1:=zDs hQ.out.1 hbA2 (HcA.out k hkN)
     have c2:=hQ.out.cell i hlt
     rw [zKY hlt] at c2
     have f2:=hQ.out.fz i hlt
     obtain ⟨lq,hlq⟩: ∃lq,lq=lft p (W^a):=⟨_,rfl⟩
     obtain ⟨xk,hxk⟩: ∃xk,xk=x k:=⟨_,rfl⟩
     obtain ⟨y,hy⟩: ∃y,y=F i:=⟨_,rfl⟩
     obtain ⟨X1,hX1⟩: ∃X1,X1=pw ω (i*k)*xk:=⟨_,rfl⟩
     obtain ⟨Y,hY⟩: ∃Y,Y=y+X1:=⟨_,rfl⟩
     rw [←hlq] at c0
     rw [←hxk] at c1
     rw [←hy] at c2
     have hF1: ∀n,Fd (wr.drewN n) w.heap.size v p g:=fun n=>(HFd.out.below (hB2.trans (hQ.out.1.mono hB2.size))).drewN n
     have hlp: ∀x:Fin p,0≤((x.val:Nat):Int)∧((x.val:Nat):Int)≤18446744073709551615:=fun x=>by have:=x.isLt;have:=HPM.out.2;omega
     have HTm:Hid (∀n,Calls Tryz.prog 81 #[v, .int .u64 lq, .int .u64 (xk.val:Int)] (wr.drewN n) fun e w'=>e= .returned (.int .u64 (X1.val:Int))∧ ∃k,w'=(wr.drewN n).drewN k):=zy (fun n=>by
      have h1:=zHM (hF1 n) (W^a) (xk.val:Int) (hlp xk).1 (hlp xk).2
      rw [zGv,zt_of_val,zt_pow,HWZ.out,hak.out,←pw_mod HOn.out,←hX1,←hak.out,←hlq] at h1
      exact h1)
     have HAd:Hid (∀n,Calls Tryz.prog 80 #[v, .int .u64 (y.val:Int), .int .u64 (X1.val:Int)] (wr.drewN n) fun e w'=>e= .returned (.int .u64 (Y.val:Int))∧ ∃k,w'=(wr.drewN n).drewN k):=zy (fun n=>by
      have h1:=zG9 (hF1 n) (y.val:Int) (X1.val:Int) (hlp y).1 (hlp y).2 (hlp X1).1 (hlp X1).2
      rw [zGt,zt_of_val,zt_of_val,←hY] at h1
      exact h1)
     have HS:Hid ((lst N F).set i (Y.val:Int)=lst N (upd F i Y)):=zy (zLe N F i Y)
     have H1:Hid (upd F i Y i=sm (k+1) fun j=>pw ω (i*j)*x j):=zy (by rw [upd_same,hY,hX1,hxk,hy,hFi.out];rfl)
     have H2:Hid (∀j,j<i→upd F i Y j=D j):=zy (fun j hj=>by rw [zWh (by omega)];exact hlo.out j hj)
     have H3:Hid (∀j,i<j→upd F i Y j=0):=zy (fun j hj=>by rw [zWh (by omega)];exact hhi.out j hj)
     obtain ⟨a',ha'⟩: ∃a',a'=(a+i)%N:=⟨_,rfl⟩
     have H4:Hid (a'=i*(k+1)%N):=zy (by rw [ha',hak.out,Nat.mod_add_mod,Nat.mul_add,Nat.mul_one])
     have ha'N:a'<N:=by rw [ha'];exact Nat.mod_lt _ (by omega)
     have e1:((a:Int)+(i:Int))%(N:Int)=(a':Int):=by rw [ha',Int.natCast_emod,Int.natCast_add]
     have e2:((a:Int)+(i:Int)).tmod (N:Int)=(a':Int):=by rw [Int.tmod_eq_emod_of_nonneg (by omega)];exact e1
     have i1:(0:Int)≤(i:Int):=by omega
     have i2:(i:Int)<(N:Int):=by omega
     have i3:(0:Int)≤(a:Int):=by omega
     have i4:(a:Int)<(N:Int):=by omega
     have nA:bA≠G:=by omega
     have nT:bT≠G:=by omega
     clear hlq hxk hy hX1 hY hF1 hlp hFi hlo hhi hak ha'
     go_upto_region 11 with fail
     refine zWM 15 (by kernel_rfl) (by kernel_rfl) ?_
     simp only [List.take_succ_cons,List.take_zero,List.drop_succ_cons,List.drop_zero]
     repeat (go_big_quiet_step ((first|(go_at_call 81;exact Calls.quiet_of (HTm.out _))|(go_at_call 80;exact Calls.quiet_of (HAd.out _)))))
     refine wpQuiet_nil ?_
     intro _ hw'
     obtain ⟨nq,hw''⟩:=hw'
     subst hw''
     have hO1:=((hQ.out.drewN nq).2.set i hlt (Y.val:Int)).1
     rw [HS.out] at hO1
     have HQ1:Hid (R2 w2 G N N (lst N (upd F i Y)) ((wr.drewN nq).setCell ⟨G,i,none⟩ (.int .u64 (Y.val:Int)))):=zy ⟨(below_drewN hQ.out.1 nq).setCell hGe _,hO1⟩
     clear hO1 hQ HS
     go_wp2
     go_roundw
     case rel=>exact ⟨k+1,a',upd F i Y,by go_num,rfl,by omega,H4,ha'N,H1,H2,H3,HQ1⟩
     case measure=>simp [intOf];omega
    ·obtain rfl:k=N:=by omega
     have tk:decide ((k:Int)<(L.length:Int))=false:=decide_eq_false (by have:=HN.out;omega)
     have H2:Hid (∀j,j<i+1→F j=D j):=zy (fun j hj=>by
      by_cases e:j=i
      ·subst e;rw [hFi.out,HD.out]
      ·exact hlo.out j (by omega))
     have H3:Hid (∀j,i+1≤j→F j=0):=zy (fun j hj=>hhi.out j (by omega))
     clear hFi hlo hhi hak
     go_wp2
     go_roundw
     case rel=>exact ⟨i+1,F,by go_num,by omega,H2,H3,hQ⟩
     case measure=>simp [intOf];omega
  ·obtain rfl:i=N:=by omega
   have ti:decide ((i:Int)<(i:Int))=false:=by simp
   have HO:Hid (OwnU wr w.heap.size (.slice (some ⟨G,0,none⟩) i i) i (lst i D)):=zy (by
    rw [←zKW (f:=F) (g:=D) (fun j hj=>hlo.out j hj)]
    exact hQ.out.2.mono hB2.size)
   have HB:=zy (hB2.trans (hQ.out.1.mono hB2.size))
   clear hlo hhi hQ
   go_wp2
   go_ret
   exact ⟨_,rfl,HO.out,HB.out⟩
def zGB (p:Int) (L:List Int):Int:=if chk p L.length 1024≠0 then chk p L.length 1024 else if zI1 p L=false then 9 else 0
theorem zEp {p n:Int} (h:chk p n 1024=0):chk p n 4096=0:=by
 unfold chk at h ⊢
 split at h
 ·omega
 ·split at h
  ·omega
  ·rw [if_neg (by assumption),if_neg (by omega)];exact h
theorem zGC {p:Int} {L:List Int} (h:zGB p L=0):chk p L.length 1024=0∧zI1 p L=true:=by
 unfold zGB at h
 split at h
 ·rename_i h1;exact absurd h h1
 ·rename_i h1
  split at h
  ·omega
  ·rename_i h2
   exact ⟨by simpa using h1,by simpa using h2⟩
theorem zF1 {p:Nat} {w:World} {v:Value} {g:Int} (h:Fd w w.heap.size v p g) (A:Option Addr) (c:Nat) (L:List Int) (inv:Bool) (hl:L.length≤140737488351232) (hU:U64s L) (hR:RdI w w.heap.size .u64 A L) (hf:zGB p L≠0):
  Calls Tryz.prog 69 #[v, .slice A L.length c, .bool inv] w fun e w'=>e= .returned (.tuple #[.slice none 0 0, .int .i64 (zGB p L)])∧w=w':=by
 have hC:=zy (fun m=>zDT h L.length m (by omega) (by omega))
 have hG:=zy (zI6 h A c w.heap.size L hl hU hR)
 have HV:Hid (zGB p L=if chk p L.length 1024≠0 then chk p L.length 1024 else if zI1 p L=false then 9 else 0):=zy rfl
 have HFn:=zy hf
 clear h hU hR hf
 by_cases c1:chk p L.length 1024=0
 ·have hC2:=zy (hC.out 1024)
  rw [c1] at hC2
  by_cases c3:zI1 p L=false
  ·have HV2:Hid (zGB p L=9):=zy (by rw [HV.out,if_neg (by simp [c1]),if_pos c3])
   rw [c3] at hG
   clear c1 c3 hC
   go_enter Tryz.func69,Tryz.ntmps69
   go_wp2_with fail
   refine hC2.out.mono ?_
   rintro e w1 ⟨rfl,rfl⟩
   go_wp2_with fail
   refine hG.out.mono ?_
   rintro e w1 ⟨rfl,rfl⟩
   go_wp2
   go_ret2
   exact ⟨by rw [HV2.out];first|rfl|simp,rfl⟩
  ·exact absurd (by rw [HV.out,if_neg (by simp [c1]),if_neg c3]) HFn.out
 ·have HV2:Hid (zGB p L=chk p L.length 1024):=zy (by rw [HV.out,if_pos c1])
  have hC2:=zy (hC.out 1024)
  obtain ⟨z,hz⟩: ∃z,z=chk p L.length 1024:=⟨_,rfl⟩
  rw [←hz] at hC2 HV2 c1
  have t:(z != 0)=true:=by simp [c1]
  clear hz c1 hC
  go_enter Tryz.func69,Tryz.ntmps69
  go_wp2_with fail
  refine hC2.out.mono ?_
  rintro e w1 ⟨rfl,rfl⟩
  go_wp2
  go_ret2
  exact ⟨by rw [HV2.out];first|rfl|simp,rfl⟩
theorem zTb {p:Nat} [NeZero p] {w:World} {v:Value} {g:Int} (hp:Prime p) (h:Fd w w.heap.size v p g) (V:Value) (B n:Nat) (F:Nat→Fin p) (hd:n∣p-1) (hn0:0<n) (hn:n≤4096) (hO:OwnU w B V n (lst n F)) (hB:B≤w.heap.size):
  Calls Tryz.prog 122 #[v,V] w fun r w'=> ∃V',r= .returned V'∧OwnU w' B V' n (lst n fun i=>sc p n true*F i)∧Below w.heap.size w w':=by
 obtain ⟨A,c,rfl,hR⟩:=hO.rd
 have hS:=zTa h A c (lst n F) (by rw [zLb];omega) (zLd h.pmx _ _) hR
 rw [zLb] at hS
 refine hS.mono ?_
 rintro r w' ⟨V',t,rfl,ht,hO',hb⟩
 have he:(full n fun i=>t*(lst n F).getD i 0%(p:Int))=lst n fun i=>sc p n true*F i:=zHQ fun i hi=>by
  rw [zKY hi,zGv,zt_of_val,zSY hp hd hn0 ht]
 rw [he] at hO'
 exact ⟨V',rfl,hO'.mono hB,hb⟩
theorem zF2 {p:Nat} [NeZero p] {w:World} {v:Value} {g:Int} (hp:Prime p) (hg:Ord (zt p g) (p-1)) (g0:0≤g) (g1:g<p) (h:Fd w w.heap.size v p g) (A:Option Addr) (c:Nat) (L:List Int) (inv:Bool) (hU:U64s L) (hR:RdI w w.heap.size .u64 A L) (hf:zGB p L=0):
  Calls Tryz.prog 69 #[v, .slice A L.length c, .bool inv] w fun e w'=> ∃V,e= .returned (.tuple #[V, .int .i64 0])∧OwnU w' w.heap.size V L.length (lst L.length (tr (zt p g) L.length inv (rz p L)))∧Below w.heap.size w w':=by
 obtain ⟨hc1,hgd⟩:=zGC hf
 have hc:=zEp hc1
 obtain ⟨n1,n2,_⟩:=zEq hc
 obtain ⟨hdv,hn0⟩:=zEl (by have:=hp.1;omega) hc
 have hC:=zy (zDT h L.length 1024 (by omega) (by omega))
 rw [hc1] at hC
 have hG:=zy (zI6 h A c w.heap.size L (by omega) hU hR)
 rw [hgd] at hG
 have hS:=zy (zUz hp hg g0 g1 h A c L inv hU hR hc hgd)
 have HSc:Hid (∀wz V,Below w.heap.size w wz→OwnU wz w.heap.size V L.length (lst L.length (dft (rt (zt p g) L.length inv) L.length (rz p L)))→Calls Tryz.prog 122 #[v,V] wz fun r w'=> ∃V',r= .returned V'∧OwnU w' w.heap.size V' L.length (lst L.length fun i=>sc p L.length true*dft (rt (zt p g) L.length inv) L.length (rz p L) i)∧Below wz.heap.size wz w'):=zy (fun wz V hz hV=>zTb hp ((h.below hz).mono hz.size) V w.heap.size L.length _ hdv hn0 (by omega) hV hz.size)
 clear h hR hU hf hc hc1 hgd n1 n2 hdv hn0
 cases inv with
 | false=>
  have he:lst L.length (dft (rt (zt p g) L.length false) L.length (rz p L))=lst L.length (tr (zt p g) L.length false (rz p L)):=zKW fun i hi=>by
   show _=(1:Fin p)*_;grind
  rw [he] at hS
  clear he HSc
  go_enter Tryz.func69,Tryz.ntmps69
  go_wp2_with fail
  refine hC.out.mono ?_
  rintro e w1 ⟨rfl,rfl⟩
  go_wp2_with fail
  refine hG.out.mono ?_
  rintro e w1 ⟨rfl,rfl⟩
  go_wp2_with fail
  refine hS.out.mono ?_
  rintro e w2 ⟨V,rfl,hO,hB⟩
  have HO:=zy hO
  clear hO
  go_wp2
  go_ret2
  exact ⟨_,rfl,HO.out,hB⟩
 | true=>
  go_enter Tryz.func69,Tryz.ntmps69
  go_wp2_with fail
  refine hC.out.mono ?_
  rintro e w1 ⟨rfl,rfl⟩
  go_wp2_with fail
  refine hG.out.mono ?_
  rintro e w1 ⟨rfl,rfl⟩
  go_wp2_with fail
  refine hS.out.mono ?_
  rintro e w2 ⟨V,rfl,hO,hB⟩
  have HS2:=zy (HSc.out w2 V hB hO)
  clear hO HSc
  go_wp2_with fail
  refine HS2.out.mono ?_
  rintro e w3 ⟨V3,rfl,hO3,hB3⟩
  have HO:=zy hO3
  have HB:=zy (hB.trans (hB3.mono hB.size))
  clear hO3 hB3
  go_wp2
  go_ret2
  exact ⟨_,rfl,HO.out,HB.out⟩
end
end Go.Proofs.YtmalmijdjhkklaaGreat
