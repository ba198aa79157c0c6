/- convolve: good, times, Linear. -/
import Derived.Test.YtmalmijdjhkklaaGreatW59
import Derived.Test.YtmalmijdjhkklaaGreatW25
import Derived.Test.YtmalmijdjhkklaaGreatW51
import Derived.Test.YtmalmijdjhkklaaGreatApz
import Derived.Test.YtmalmijdjhkklaaGreatQTail
import Derived.Test.YtmalmijdjhkklaaGreatW10
set_option linter.unusedVariables false
set_option linter.unusedSimpArgs false
set_option linter.unusedSectionVars false
set_option maxRecDepth 100000
set_option maxHeartbeats 16000000
namespace Go.Proofs.YtmalmijdjhkklaaGreat
section
open Go.RowKit
open Alg
theorem zDH {w:World} {v:Value} {p g:Int} (h:Fd w w.heap.size v p g) (A B:Option Addr) (c d:Nat) (L M:List Int) (hl:L.length≤140737488351232) (hm:M.length≤140737488351232) (hU:U64s L) (hU':U64s M) (hR:RdI w w.heap.size .u64 A L) (hS:RdI w w.heap.size .u64 B M):
  Calls Tryz.prog 78 #[v, .slice A L.length c, .slice B M.length d] w fun e w'=>e= .returned (.bool (zI1 p L && zI1 p M))∧w=w':=by
 have h1:=zy (zI6 h A c w.heap.size L hl hU hR)
 have h2:=zy (zI6 h B d w.heap.size M hm hU' hS)
 obtain ⟨a,ha⟩: ∃a,a=zI1 p L:=⟨_,rfl⟩
 obtain ⟨b,hb⟩: ∃b,b=zI1 p M:=⟨_,rfl⟩
 rw [←ha] at h1 ⊢
 rw [←hb] at h2 ⊢
 clear ha hb h hU hU' hR hS
 cases a
 ·go_enter Tryz.func78,Tryz.ntmps78
  go_wp2_with fail
  refine h1.out.mono ?_
  rintro e w1 ⟨rfl,rfl⟩
  go_wp2
  go_ret
  exact ⟨rfl,rfl⟩
 ·go_enter Tryz.func78,Tryz.ntmps78
  go_wp2_with fail
  refine h1.out.mono ?_
  rintro e w1 ⟨rfl,rfl⟩
  go_wp2_with fail
  refine h2.out.mono ?_
  rintro e w1 ⟨rfl,rfl⟩
  go_wp2
  go_ret
  exact ⟨by first|rfl|simp,rfl⟩
theorem zUU {p:Nat} [NeZero p] {w:World} {v:Value} {g:Int} (h:Fd w w.heap.size v p g) (N:Nat) (hN0:0<N) (hN:N≤4294967296) (A B:Option Addr) (c d:Nat) (X Y:Nat→Fin p) (hA:RdI w w.heap.size .u64 A (lst N X)) (hB:RdI w w.heap.size .u64 B (lst N Y)):
  Calls Tryz.prog 83 #[v, .slice A N c, .slice B N d] w fun r w'=> ∃V,r= .returned V∧OwnU w' w.heap.size V N (lst N fun j=>X j*Y j)∧Below w.heap.size w w':=by
 obtain ⟨i0,hi,hz0,hz1,hz2⟩:=info_parts zJt
 have HPM:=zy (And.intro h.p3 h.pmx)
 have HF:=zy h
 obtain ⟨bA,oA,rfl,hbA,hcA⟩:=hA (by rw [zLb];omega)
 obtain ⟨bB,oB,rfl,hbB,hcB⟩:=hB (by rw [zLb];omega)
 have HcA:Hid (∀i,i<N→w.cell? ⟨bA,oA+i,none⟩=some (.int .u64 ((X i).val:Int))):=zy (fun i hi=>by
  have h1:=hcA i (by rw [zLb];exact hi)
  rw [zKY hi] at h1
  exact h1)
 have HcB:Hid (∀i,i<N→w.cell? ⟨bB,oB+i,none⟩=some (.int .u64 ((Y i).val:Int))):=zy (fun i hi=>by
  have h1:=hcB i (by rw [zLb];exact hi)
  rw [zKY hi] at h1
  exact h1)
 clear h hA hB hcA hcB
 go_enter Tryz.func83,Tryz.ntmps83
 go_wp2_with (at_make;refine wpList_make_full _ rfl _ _ 54 rfl w.heap.size 22 i0 (.int .u64 0) 1 Tryz.underlying54 hi hz0 hz1 _ _ _ _ N rfl rfl ?l1 ?l2 ?b2 ?b3 (Nat.le_refl _) ?_)
 case l1=>omega
 case l2=>omega
 case b2=>rw [hz2];omega
 case b3=>unfold maxLen;omega
 intro w8 hown hgrow
 have hown0:OwnU w8 w.heap.size (.slice (some ⟨w.heap.size,0,none⟩) N N) N (part N (fun j=>((X j*Y j:Fin p).val:Int)) 0):=by
  unfold OwnU
  rw [zNW,zJC,←toList_madeCells_one];exact hown
 have hB8:Below w.heap.size w w8:=(Below.refl _ _).grown hgrow (Nat.le_refl _) (fun k h=>by cases h)
 obtain ⟨G,hG⟩: ∃G,G=w.heap.size:=⟨_,rfl⟩
 rw [←hG]
 have hGe:w.heap.size≤G:=by omega
 have nSG:bA≠G:=by omega
 have nCG:bB≠G:=by omega
 have nSG':G≠bA:=by omega
 have nCG':G≠bB:=by omega
 rw [show (⟨w.heap.size,0,none⟩:Addr)=⟨G,0,none⟩ by rw [hG]] at hown0
 have HO8:=zy hown0
 have HB8:=zy hB8
 clear hown hgrow hown0 hB8 hG
 go_wp2
 go_loopw [14] (fun I wr=> ∃i:Nat,I= .int .i64 i∧i≤N∧Hid (OwnU wr w.heap.size (.slice (some ⟨G,0,none⟩) N N) N (part N (fun j=>((X j*Y j:Fin p).val:Int)) i))∧Hid (Below w.heap.size w wr)) (fun I _=>N-(intOf I).toNat)
 case atStart=>exact ⟨0,rfl,by omega,HO8,HB8⟩
 case round=>
  clear HO8 HB8
  obtain ⟨i,rfl,hiN,hO,hBr⟩:=hrel
  by_cases hlt:i<N
  ·have c0:=zDs hBr.out hbA (HcA.out i hlt)
   have c1:=zDs hBr.out hbB (HcB.out i hlt)
   have hF1:=HF.out.below hBr.out
   have hlp: ∀x:Fin p,0≤((x.val:Nat):Int)∧((x.val:Nat):Int)≤18446744073709551615:=fun x=>by have:=x.isLt;have:=HPM.out.2;omega
   have hst:(part N (fun j=>((X j*Y j:Fin p).val:Int)) i).set i ((X i*Y i:Fin p).val:Int)=part N (fun j=>((X j*Y j:Fin p).val:Int)) (i+1):=zNV
   obtain ⟨x0,hx0⟩: ∃x0,x0=X i:=⟨_,rfl⟩
   obtain ⟨y0,hy0⟩: ∃y0,y0=Y i:=⟨_,rfl⟩
   rw [←hx0] at c0 hst
   rw [←hy0] at c1 hst
   have HMu:Hid (∀n,Calls Tryz.prog 38 #[v, .int .u64 (x0.val:Int), .int .u64 (y0.val:Int)] (wr.drewN n) fun e w'=>e= .returned (.int .u64 ((x0*y0).val:Int))∧ ∃k,w'=(wr.drewN n).drewN k):=zy (fun n=>by
    have h1:=zHw (hF1.drewN n) (x0.val:Int) (y0.val:Int) (hlp x0).1 (hlp x0).2 (hlp y0).1 (hlp y0).2
    rw [zGv,zt_of_val,zt_of_val] at h1
    exact h1)
   obtain ⟨z0,hz0'⟩: ∃z0,z0=x0*y0:=⟨_,rfl⟩
   rw [←hz0'] at HMu hst
   have HST:=zy hst
   obtain ⟨g0',f0,_⟩:=zN9 hO.out i hlt
   have i1:(0:Int)≤(i:Int):=by omega
   have i2:(i:Int)<(N:Int):=by omega
   clear hx0 hy0 hst hz0' hlp hF1
   go_upto_region 5 with fail
   refine zWM 12 (by kernel_rfl) (by kernel_rfl) ?_
   simp only [List.take_succ_cons,List.take_zero,List.drop_succ_cons,List.drop_zero]
   repeat (go_big_quiet_step ((first|(go_at_call 38;exact Calls.quiet_of (HMu.out _)))))
   refine wpQuiet_nil ?_
   intro _ hw'
   obtain ⟨nq,hw''⟩:=hw'
   subst hw''
   have hO1:=((hO.out.drewN nq).set i hlt (z0.val:Int)).1
   rw [HST.out] at hO1
   have HO1:=zy hO1
   have HB1:Hid (Below w.heap.size w ((wr.drewN nq).setCell ⟨G,i,none⟩ (.int .u64 (z0.val:Int)))):=zy ((below_drewN hBr.out nq).setCell hGe _)
   clear hO1 hO hBr
   go_wp2
   go_roundw
   case rel=>exact ⟨i+1,by go_num,by omega,HO1,HB1⟩
   case measure=>simp [intOf];omega
  ·have hie:i=N:=by omega
   have hO1:=hO.out
   have hpf:part N (fun j=>((X j*Y j:Fin p).val:Int)) N=lst N fun j=>X j*Y j:=zNT _ _
   rw [hie,hpf] at hO1
   have HO1:=zy hO1
   clear hie hO1 hO hpf
   go_wp2
   go_ret
   exact ⟨_,rfl,HO1.out,hBr.out⟩
def lcv (p:Nat) [NeZero p] (L M:List Int) (i:Nat):Fin p:=cv (padz L.length (rz p L)) (padz M.length (rz p M)) i
end

section
open Go.RowKit
open Alg
section
variable {p:Nat} [NeZero p]
def inn (pl:Nat→Nat) (x:Fin p) (Y F:Nat→Fin p):Nat→Nat→Fin p
 | 0=>F
 | k+1=>upd (inn pl x Y F k) (pl k) (inn pl x Y F k (pl k)+x*Y k)
def acc (pl:Nat→Nat→Nat) (X Y:Nat→Fin p) (m:Nat):Nat→Nat→Fin p
 | 0=>fun _=>0
 | i+1=>inn (pl i) (X i) Y (acc pl X Y m i) m
theorem zJx (n:Nat) (pl:Nat→Nat) (x:Fin p) (Y F:Nat→Fin p) (k:Nat):(lst n (inn pl x Y F k)).set (pl k) (((inn pl x Y F k (pl k)+x*Y k:Fin p).val:Nat):Int)=lst n (inn pl x Y F (k+1)):=zLe _ _ _ _
theorem zAU (n:Nat) (pl:Nat→Nat→Nat) (X Y:Nat→Fin p) (m:Nat):lst n (acc pl X Y m 0)=List.replicate n 0:=by
 show lst n (fun _=>(0:Fin p))=_
 unfold lst full
 apply List.ext_getElem <;> simp
def drc (p:Nat) [NeZero p] (L M:List Int):Nat→Fin p:=acc (fun i k=>i+k) (rz p L) (rz p M) M.length L.length
end
theorem zF9 {p:Nat} [NeZero p] {w:World} {v:Value} {g:Int} (h:Fd w w.heap.size v p g) (AA AB:Option Addr) (cA cB:Nat) (L M:List Int) (l1:0<L.length) (l2:0<M.length) (l3:L.length+M.length-1≤1024)
  (hU:U64s L) (hU':U64s M) (hA:RdI w w.heap.size .u64 AA L) (hB:RdI w w.heap.size .u64 AB M) (hg1:zI1 p L=true) (hg2:zI1 p M=true):
  Calls Tryz.prog 34 #[v, .slice AA L.length cA, .slice AB M.length cB] w fun r w'=> ∃V,r= .returned (.tuple #[V, .int .i64 0])∧OwnU w' w.heap.size V (L.length+M.length-1) (lst (L.length+M.length-1) (drc p L M))∧Below w.heap.size w w':=by
 obtain ⟨fb,rfl⟩: ∃fb,v= .pointer (some ⟨fb,0,none⟩):=by
  obtain ⟨b,c,t,o,s,sv,hv,_⟩:=h
  exact ⟨b,hv⟩
 obtain ⟨i0,hi,hz0,hz1,hz2⟩:=info_parts zJt
 have HPM:=zy (And.intro h.p3 h.pmx)
 have HF:=zy h
 have hGd:=zy (zDH h AA AB cA cB L M (by omega) (by omega) hU hU' hA hB)
 rw [hg1,hg2] at hGd
 obtain ⟨bA,oA,rfl,hbA,hcA⟩:=hA l1
 obtain ⟨bB,oB,rfl,hbB,hcB⟩:=hB l2
 have HcA:Hid (∀i,i<L.length→w.cell? ⟨bA,oA+i,none⟩=some (.int .u64 (L.getD i 0))):=zy hcA
 have HcB:Hid (∀i,i<M.length→w.cell? ⟨bB,oB+i,none⟩=some (.int .u64 (M.getD i 0))):=zy hcB
 have HUA:Hid (∀i,i<L.length→0≤L.getD i 0∧L.getD i 0≤18446744073709551615):=zy fun i hi=>hU.at hi
 have HUB:Hid (∀i,i<M.length→0≤M.getD i 0∧M.getD i 0≤18446744073709551615):=zy fun i hi=>hU'.at hi
 have HDd:Hid (drc p L M=acc (fun i k=>i+k) (rz p L) (rz p M) M.length L.length):=zy rfl
 have HX0:Hid (∀i,zt p (L.getD i 0)=rz p L i):=zy fun i=>rfl
 have HY0:Hid (∀i,zt p (M.getD i 0)=rz p M i):=zy fun i=>rfl
 obtain ⟨D,hD⟩: ∃D,D=drc p L M:=⟨_,rfl⟩
 rw [←hD] at HDd ⊢
 clear hD
 obtain ⟨X,hX⟩: ∃X,X=rz p L:=⟨_,rfl⟩
 obtain ⟨Y,hY⟩: ∃Y,Y=rz p M:=⟨_,rfl⟩
 rw [←hX] at HDd HX0
 rw [←hY] at HDd HY0
 clear hX hY
 obtain ⟨a,ha⟩: ∃a,a=L.length:=⟨_,rfl⟩
 obtain ⟨b,hb⟩: ∃b,b=M.length:=⟨_,rfl⟩
 rw [←ha] at HDd HcA HUA hGd l1 l3 ⊢
 rw [←hb] at HDd HcB HUB hGd l2 l3 ⊢
 clear h hA hB hcA hcB ha hb hU hU' hg1 hg2
 obtain ⟨n,hn⟩: ∃n,n=a+b-1:=⟨_,rfl⟩
 have hn':(a:Int)+(b:Int)-1=((n:Nat):Int):=by omega
 have hn0:n≤1024:=by omega
 have hab: ∀i k,i<a→k<b→i+k<n:=fun i k _ _=>by omega
 have Hab:=zy hab
 rw [←hn]
 have hla:a≤1024:=by omega
 have hlb:b≤1024:=by omega
 have HZ:=zy (zAU n (fun i k=>i+k) X Y b)
 have t1:((a:Int) == 0)=false:=by simp;omega
 have t2:((b:Int) == 0)=false:=by simp;omega
 have t3:decide (((n:Nat):Int)>1024)=false:=decide_eq_false (by omega)
 clear hn l3 hab
 go_enter Tryz.func34,Tryz.ntmps34
 go_wp2_with fail
 refine hGd.out.mono ?_
 rintro e w1 ⟨rfl,rfl⟩
 go_wp2_with (at_make;refine wpList_make_full _ rfl _ _ 54 rfl w.heap.size 22 i0 (.int .u64 0) 1 Tryz.underlying54 hi hz0 hz1 _ _ _ _ n rfl rfl ?l1 ?l2 ?b2 ?b3 (Nat.le_refl _) ?_)
 case l1=>omega
 case l2=>omega
 case b2=>rw [hz2];omega
 case b3=>unfold maxLen;omega
 intro w8 hown hgrow
 have hown0:OwnU w8 w.heap.size (.slice (some ⟨w.heap.size,0,none⟩) n n) n (lst n (acc (fun i k=>i+k) X Y b 0)):=by
  unfold OwnU
  rw [HZ.out,zJC,←toList_madeCells_one];exact hown
 have hB8:Below w.heap.size w w8:=(Below.refl _ _).grown hgrow (Nat.le_refl _) (fun k h=>by cases h)
 obtain ⟨G,hG⟩: ∃G,G=w.heap.size:=⟨_,rfl⟩
 rw [←hG]
 have hGe:w.heap.size≤G:=by omega
 have nSG:bA≠G:=by omega
 have nCG:bB≠G:=by omega
 have nSG':G≠bA:=by omega
 have nCG':G≠bB:=by omega
 rw [show (⟨w.heap.size,0,none⟩:Addr)=⟨G,0,none⟩ by rw [hG]] at hown0
 have HO8:=zy hown0
 have HB8:=zy hB8
 clear hown hgrow hown0 hB8 hG hGd
 go_wp2
 go_loopw [49] (fun I wr=> ∃i:Nat,I= .int .i64 i∧i≤a∧Hid (OwnU wr w.heap.size (.slice (some ⟨G,0,none⟩) n n) n (lst n (acc (fun i k=>i+k) X Y b i)))∧Hid (Below w.heap.size w wr)) (fun I _=>a-(intOf I).toNat)
 case atStart=>exact ⟨0,rfl,by omega,HO8,HB8⟩
 case round=>
  clear HO8 HB8
  obtain ⟨i,rfl,hin,hO,hBr⟩:=hrel
  by_cases hlt:i<a
  ·have c0:=zDs hBr.out hbA (HcA.out i hlt)
   have ux:=HUA.out i hlt
   have hF1:=HF.out.below hBr.out
   have ex:=HX0.out i
   obtain ⟨x,hx⟩: ∃x,x=L.getD i 0:=⟨_,rfl⟩
   rw [←hx] at c0 ux ex
   have HLi:=zy (zHv hF1 x ux.1 ux.2)
   obtain ⟨lx,hlx⟩: ∃lx,lx=lft p x:=⟨_,rfl⟩
   rw [←hlx] at HLi
   have HTi:Hid (∀y:Int,0≤y→y≤18446744073709551615→ ∀wz,Below w.heap.size w wz→Calls Tryz.prog 81 #[.pointer (some ⟨fb,0,none⟩), .int .u64 lx, .int .u64 y] wz fun e w'=>e= .returned (.int .u64 ((X i*zt p y).val:Int))∧ ∃k,w'=wz.drewN k):=zy (fun y h0 h1 wz hz=>by
    have h2:=zHM (HF.out.below hz) x y h0 h1
    rw [←hlx,zGv,ex] at h2
    exact h2)
   have hI:lst n (acc (fun i k=>i+k) X Y b i)=lst n (inn (fun k=>i+k) (X i) Y (acc (fun i k=>i+k) X Y b i) 0):=rfl
   rw [hI] at hO
   have HE:Hid (lst n (inn (fun k=>i+k) (X i) Y (acc (fun i k=>i+k) X Y b i) b)=lst n (acc (fun i k=>i+k) X Y b (i+1))):=zy rfl
   obtain ⟨F0,hF0⟩: ∃F0,F0=acc (fun i k=>i+k) X Y b i:=⟨_,rfl⟩
   rw [←hF0] at hO HE
   have HIS:=zy (fun k=>zJx n (fun k=>i+k) (X i) Y F0 k)
   obtain ⟨xi,hxi⟩: ∃xi,xi=X i:=⟨_,rfl⟩
   rw [←hxi] at hO HE HIS HTi
   clear hF0 hI ux ex hx hlx hF1 hxi
   go_wp2_with fail
   refine HLi.out.mono ?_
   rintro e w1 ⟨rfl,nq0,rfl⟩
   have HB0:=zy (below_drewN hBr.out nq0)
   have HO0:=zy (hO.out.drewN nq0)
   clear hBr hO HLi c0
   obtain ⟨w0,hw0⟩: ∃w0,w0=wr.drewN nq0:=⟨_,rfl⟩
   rw [←hw0] at HB0 HO0 ⊢
   clear hw0
   go_wp2
   go_loopw [59] (fun K wr=> ∃k:Nat,K= .int .i64 k∧k≤b∧Hid (OwnU wr w.heap.size (.slice (some ⟨G,0,none⟩) n n) n (lst n (inn (fun k=>i+k) xi Y F0 k)))∧Hid (Below w.heap.size w wr)) (fun K _=>b-(intOf K).toNat)
   case atStart=>exact ⟨0,rfl,by omega,HO0,HB0⟩
   case round=>
    clear HO0 HB0
    obtain ⟨k,rfl,hkb,hO,hBr⟩:=hrel
    by_cases hkl:k<b
    ·have c1:=zDs hBr.out hbB (HcB.out k hkl)
     have uy:=HUB.out k hkl
     have ey:=HY0.out k
     obtain ⟨y,hy⟩: ∃y,y=M.getD k 0:=⟨_,rfl⟩
     rw [←hy] at c1 uy ey
     have hik:=Hab.out i k hlt hkl
     have HT:Hid (∀q,Calls Tryz.prog 81 #[.pointer (some ⟨fb,0,none⟩), .int .u64 lx, .int .u64 y] (wr.drewN q) fun e w'=>e= .returned (.int .u64 ((xi*Y k).val:Int))∧ ∃k,w'=(wr.drewN q).drewN k):=zy (fun q=>by
      have h1:=HTi.out y uy.1 uy.2 (wr.drewN q) (below_drewN hBr.out q)
      rw [ey] at h1;exact h1)
     have hst:=HIS.out k
     obtain ⟨m,hm⟩: ∃m,m=xi*Y k:=⟨_,rfl⟩
     rw [←hm] at HT hst
     obtain ⟨o,ho⟩: ∃o,o=i+k:=⟨_,rfl⟩
     have e1:(i:Int)+(k:Int)=((o:Nat):Int):=by omega
     simp only [←ho] at hst hik
     obtain ⟨c2,f2,_⟩:=zN9 hO.out o hik
     rw [zKY hik] at c2
     obtain ⟨s,hs⟩: ∃s,s=inn (fun k=>i+k) xi Y F0 k o:=⟨_,rfl⟩
     rw [←hs] at c2 hst
     have hF1:=HF.out.below hBr.out
     have hpm: ∀z:Fin p,0≤((z.val:Nat):Int)∧((z.val:Nat):Int)≤18446744073709551615:=fun z=>by have:=z.isLt;have:=HPM.out.2;omega
     have HAd:Hid (∀q,Calls Tryz.prog 80 #[.pointer (some ⟨fb,0,none⟩), .int .u64 (s.val:Int), .int .u64 (m.val:Int)] (wr.drewN q) fun e w'=>e= .returned (.int .u64 ((s+m).val:Int))∧ ∃k,w'=(wr.drewN q).drewN k):=zy (fun q=>by
      have h1:=zG9 (hF1.drewN q) (s.val:Int) (m.val:Int) (hpm s).1 (hpm s).2 (hpm m).1 (hpm m).2
      rw [zGt,zt_of_val,zt_of_val] at h1
      exact h1)
     obtain ⟨z0,hz0'⟩: ∃z0,z0=s+m:=⟨_,rfl⟩
     rw [←hz0'] at HAd hst
     have HST:=zy hst
     have i1:(0:Int)≤((o:Nat):Int):=by omega
     have i2:((o:Nat):Int)<(n:Int):=by omega
     have i3:((o:Nat):Int)≤9223372036854775807:=by omega
     clear hs hm hst hz0' hF1 hpm uy ey hy ho
     go_upto_region 17 with fail
     refine zWM 16 (by kernel_rfl) (by kernel_rfl) ?_
     simp only [List.take_succ_cons,List.take_zero,List.drop_succ_cons,List.drop_zero]
     repeat (go_big_quiet_step ((first|(go_at_call 81;exact Calls.quiet_of (HT.out _))|(go_at_call 80;exact Calls.quiet_of (HAd.out _)))))
     refine wpQuiet_nil ?_
     intro _ hw'
     obtain ⟨nq,hw''⟩:=hw'
     subst hw''
     have hO1:=((hO.out.drewN nq).set o hik (z0.val:Int)).1
     rw [HST.out] at hO1
     have HO1:=zy hO1
     have HB1:Hid (Below w.heap.size w ((wr.drewN nq).setCell ⟨G,o,none⟩ (.int .u64 (z0.val:Int)))):=zy ((below_drewN hBr.out nq).setCell hGe _)
     clear hO1 hO hBr
     go_wp2
     go_roundw
     case rel=>exact ⟨k+1,by go_num,by omega,HO1,HB1⟩
     case measure=>simp [intOf];omega
    ·have hke:k=b:=by omega
     have hO1:=hO.out
     rw [hke,HE.out] at hO1
     have HO1:=zy hO1
     have tk:decide ((k:Int)<(b:Int))=false:=decide_eq_false (by omega)
     clear hO hO1 hke
     go_wp2
     go_roundw
     case rel=>exact ⟨i+1,by go_num,by omega,HO1,hBr⟩
     case measure=>simp [intOf];omega
  ·have hie:i=a:=by omega
   have hO1:=hO.out
   rw [hie,←HDd.out] at hO1
   have HO1:=zy hO1
   have ti:decide ((i:Int)<(a:Int))=false:=decide_eq_false (by omega)
   clear hie hO1 hO
   go_wp2
   go_ret2
   exact ⟨_,rfl,HO1.out,hBr.out⟩
end

section
open Go.RowKit
open Alg
theorem zH4 {w:World} (v:Value) (A:Option Addr) (c:Nat) (L:List Int) (n:Nat) (hn0:0<n) (hn:n≤1024) (hl:L.length≤140737488351232) (hA:RdI w w.heap.size .u64 A L)
  (R:Nat→List Int) (Z:Nat→Int) (hR0:R 0=List.replicate n 0) (hS: ∀i,i<L.length→(R i).set (i%n) (Z i)=R (i+1))
  (hC: ∀i,i<L.length→ ∀wz,Below w.heap.size w wz→Calls Tryz.prog 80 #[v, .int .u64 ((R i).getD (i%n) 0), .int .u64 (L.getD i 0)] wz fun e w'=>e= .returned (.int .u64 (Z i))∧ ∃k,w'=wz.drewN k):
  Calls Tryz.prog 39 #[v, .slice A L.length c, .int .i64 n] w fun r w'=> ∃V,r= .returned V∧OwnU w' w.heap.size V n (R L.length)∧Below w.heap.size w w':=by
 obtain ⟨i0,hi,hz0,hz1,hz2⟩:=info_parts zJt
 have HR:=zy hA
 have HC:=zy hC
 have HS:=zy hS
 have HZ:=zy hR0
 obtain ⟨a,ha⟩: ∃a,a=L.length:=⟨_,rfl⟩
 have HcA:Hid (∀i,i<a→ ∃b o,A=some ⟨b,o,none⟩∧b<w.heap.size∧w.cell? ⟨b,o+i,none⟩=some (.int .u64 (L.getD i 0))):=zy fun i hi=>by
  obtain ⟨b,o,h1,h2,h3⟩:=hA (by omega)
  exact ⟨b,o,h1,h2,h3 i (by omega)⟩
 rw [←ha] at HC HS hl ⊢
 clear ha hA hC hS hR0 HR
 have t1:decide ((n:Int)<1)=false:=decide_eq_false (by omega)
 have t2:decide ((n:Int)>1024)=false:=decide_eq_false (by omega)
 go_enter Tryz.func39,Tryz.ntmps39
 go_wp2_with (at_make;refine wpList_make_full _ rfl _ _ 54 rfl w.heap.size 22 i0 (.int .u64 0) 1 Tryz.underlying54 hi hz0 hz1 _ _ _ _ n rfl rfl ?l1 ?l2 ?b2 ?b3 (Nat.le_refl _) ?_)
 case l1=>omega
 case l2=>omega
 case b2=>rw [hz2];omega
 case b3=>unfold maxLen;omega
 intro w8 hown hgrow
 have hown0:OwnU w8 w.heap.size (.slice (some ⟨w.heap.size,0,none⟩) n n) n (R 0):=by
  unfold OwnU
  rw [HZ.out,zJC,←toList_madeCells_one];exact hown
 have hB8:Below w.heap.size w w8:=(Below.refl _ _).grown hgrow (Nat.le_refl _) (fun k h=>by cases h)
 obtain ⟨G,hG⟩: ∃G,G=w.heap.size:=⟨_,rfl⟩
 rw [←hG]
 have hGe:w.heap.size≤G:=by omega
 rw [show (⟨w.heap.size,0,none⟩:Addr)=⟨G,0,none⟩ by rw [hG]] at hown0
 have HG:=zy hG
 have HO8:=zy hown0
 have HB8:=zy hB8
 clear hown hgrow hown0 hB8 hG
 go_wp2
 go_loopw [20] (fun I wr=> ∃i:Nat,I= .int .i64 i∧i≤a∧Hid (OwnU wr w.heap.size (.slice (some ⟨G,0,none⟩) n n) n (R i))∧Hid (Below w.heap.size w wr)) (fun I _=>a-(intOf I).toNat)
 case atStart=>exact ⟨0,rfl,by omega,HO8,HB8⟩
 case round=>
  clear HO8 HB8
  obtain ⟨i,rfl,hin,hO,hBr⟩:=hrel
  by_cases hlt:i<a
  ·obtain ⟨b,o,rfl,hb,hc⟩:=HcA.out i hlt
   have c0:=zDs hBr.out hb hc
   have nSG:b≠G:=by have:=HG.out;omega
   have nSG':G≠b:=by omega
   have HA1:Hid (∀q,Calls Tryz.prog 80 #[v, .int .u64 ((R i).getD (i%n) 0), .int .u64 (L.getD i 0)] (wr.drewN q) fun e w'=>e= .returned (.int .u64 (Z i))∧ ∃k,w'=(wr.drewN q).drewN k):=zy fun q=>HC.out i hlt _ (below_drewN hBr.out q)
   have hst:=HS.out i hlt
   have hmn:i%n<n:=Nat.mod_lt _ hn0
   have e1:(i:Int)%(n:Int)=((i%n:Nat):Int):=by omega
   have e2:(i:Int).tmod (n:Int)=((i%n:Nat):Int):=by rw [Int.tmod_eq_emod_of_nonneg (by omega)];exact e1
   obtain ⟨q,hq⟩: ∃q,q=i%n:=⟨_,rfl⟩
   rw [←hq] at HA1 hst hmn e1 e2
   obtain ⟨c2,f2,_⟩:=zN9 hO.out q hmn
   obtain ⟨s,hs⟩: ∃s,s=(R i).getD q 0:=⟨_,rfl⟩
   rw [←hs] at c2 HA1
   obtain ⟨x,hx⟩: ∃x,x=L.getD i 0:=⟨_,rfl⟩
   rw [←hx] at c0 HA1
   obtain ⟨z,hz⟩: ∃z,z=Z i:=⟨_,rfl⟩
   rw [←hz] at hst HA1
   have HST:=zy hst
   have i1:(0:Int)≤((q:Nat):Int):=by omega
   have i2:((q:Nat):Int)<(n:Int):=by omega
   have i3:((q:Nat):Int)≤9223372036854775807:=by omega
   have n0: ¬(n:Int)=0:=by omega
   clear hq hs hx hz hst hc
   go_upto_region 7 with fail
   refine zWM 13 (by kernel_rfl) (by kernel_rfl) ?_
   simp only [List.take_succ_cons,List.take_zero,List.drop_succ_cons,List.drop_zero]
   repeat (go_big_quiet_step ((first|(go_at_call 80;exact Calls.quiet_of (HA1.out _)))))
   refine wpQuiet_nil ?_
   intro _ hw'
   obtain ⟨nq,hw''⟩:=hw'
   subst hw''
   have hO1:=((hO.out.drewN nq).set q hmn z).1
   rw [HST.out] at hO1
   have HO1:=zy hO1
   have HB1:Hid (Below w.heap.size w ((wr.drewN nq).setCell ⟨G,q,none⟩ (.int .u64 z))):=zy ((below_drewN hBr.out nq).setCell hGe _)
   clear hO1 hO hBr
   go_wp2
   go_roundw
   case rel=>exact ⟨i+1,by go_num,by omega,HO1,HB1⟩
   case measure=>simp [intOf];omega
  ·have hie:i=a:=by omega
   have hO1:=hO.out
   rw [hie] at hO1
   have HO1:=zy hO1
   have ti:decide ((i:Int)<(a:Int))=false:=decide_eq_false (by omega)
   clear hie hO1 hO
   go_wp2
   go_ret
   exact ⟨_,rfl,HO1.out,hBr.out⟩
section
variable {p:Nat} [NeZero p]
def fld (n:Nat) (X:Nat→Fin p):Nat→Nat→Fin p
 | 0=>fun _=>0
 | i+1=>upd (fld n X i) (i%n) (fld n X i (i%n)+X i)
theorem zHu (n:Nat) (X:Nat→Fin p) (m:Nat):lst m (fld n X 0)=List.replicate m 0:=by
 show lst m (fun _=>(0:Fin p))=_
 unfold lst full
 apply List.ext_getElem <;> simp
theorem zH1 {w:World} {v:Value} {g:Int} (h:Fd w w.heap.size v p g) (A:Option Addr) (c:Nat) (L:List Int) (n:Nat) (hn0:0<n) (hn:n≤1024) (hl:L.length≤140737488351232) (hU:U64s L) (hA:RdI w w.heap.size .u64 A L):
  Calls Tryz.prog 39 #[v, .slice A L.length c, .int .i64 n] w fun r w'=> ∃V,r= .returned V∧OwnU w' w.heap.size V n (lst n (fld n (rz p L) L.length))∧Below w.heap.size w w':=by
 have h3:=h.p3
 have h4:=h.pmx
 refine zH4 v A c L n hn0 hn hl hA (fun i=>lst n (fld n (rz p L) i)) (fun i=>((fld n (rz p L) i (i%n)+rz p L i:Fin p).val:Int)) (zHu _ _ _) (fun i hi=>zLe _ _ _ _) (fun i hi wz hz=>?_)
 have hm:i%n<n:=Nat.mod_lt _ hn0
 show Calls _ _ #[v, .int .u64 ((lst n (fld n (rz p L) i)).getD (i%n) 0), .int .u64 (L.getD i 0)] wz _
 rw [zKY hm]
 have hu:=hU.at hi
 have hlt:=(fld n (rz p L) i (i%n)).isLt
 have h1:=zG9 (h.below hz) ((fld n (rz p L) i (i%n)).val:Int) (L.getD i 0) (by omega) (by omega) hu.1 hu.2
 rw [zGt,zt_of_val] at h1
 exact h1
end
end

section
open Go.RowKit
open Alg
def rnd (p:Nat) [NeZero p] (L M:List Int):Nat→Fin p:=acc (fun i k=>(i+k)%L.length) (rz p L) (rz p M) M.length L.length
theorem zQc {p:Nat} [NeZero p] (w:World) (AA AB:Option Addr) (cA cB:Nat) (L M:List Int) (p1:3≤(p:Int)) (p2':(p:Int)<9223372036854775808) (hlm:L.length=M.length) (l1:0<L.length) (l3:L.length≤1024)
  (hU:U64s L) (hU':U64s M) (hA:RdI w w.heap.size .u64 AA L) (hB:RdI w w.heap.size .u64 AB M):
  Calls Tryz.prog 42 #[.int .u64 p, .slice AA L.length cA, .slice AB M.length cB] w fun r w'=> ∃V,r= .returned V∧OwnU w' w.heap.size V L.length (lst L.length (rnd p L M))∧Below w.heap.size w w':=by
 have l2:0<M.length:=by omega
 obtain ⟨i0,hi,hz0,hz1,hz2⟩:=info_parts zJt
 have HPM:=zy (And.intro p1 p2')
 obtain ⟨bA,oA,rfl,hbA,hcA⟩:=hA l1
 obtain ⟨bB,oB,rfl,hbB,hcB⟩:=hB l2
 have HcA:Hid (∀i,i<L.length→w.cell? ⟨bA,oA+i,none⟩=some (.int .u64 (L.getD i 0))):=zy hcA
 have HcB:Hid (∀i,i<M.length→w.cell? ⟨bB,oB+i,none⟩=some (.int .u64 (M.getD i 0))):=zy hcB
 have HUA:Hid (∀i,i<L.length→0≤L.getD i 0∧L.getD i 0≤18446744073709551615):=zy fun i hi=>hU.at hi
 have HUB:Hid (∀i,i<M.length→0≤M.getD i 0∧M.getD i 0≤18446744073709551615):=zy fun i hi=>hU'.at hi
 have HDd:Hid (rnd p L M=acc (fun i k=>(i+k)%L.length) (rz p L) (rz p M) M.length L.length):=zy rfl
 have HX0:Hid (∀i,zt p (L.getD i 0)=rz p L i):=zy fun i=>rfl
 have HY0:Hid (∀i,zt p (M.getD i 0)=rz p M i):=zy fun i=>rfl
 obtain ⟨D,hD⟩: ∃D,D=rnd p L M:=⟨_,rfl⟩
 rw [←hD] at HDd ⊢
 clear hD
 obtain ⟨X,hX⟩: ∃X,X=rz p L:=⟨_,rfl⟩
 obtain ⟨Y,hY⟩: ∃Y,Y=rz p M:=⟨_,rfl⟩
 rw [←hX] at HDd HX0
 rw [←hY] at HDd HY0
 clear hX hY
 obtain ⟨a,ha⟩: ∃a,a=L.length:=⟨_,rfl⟩
 obtain ⟨b,hb⟩: ∃b,b=M.length:=⟨_,rfl⟩
 rw [←ha] at HDd HcA HUA l1 l3 hlm ⊢
 rw [←hb] at HDd HcB HUB l2 hlm ⊢
 clear hA hB hcA hcB ha hb hU hU' p1 p2'
 obtain ⟨n,hn⟩: ∃n,n=a:=⟨_,rfl⟩
 rw [←hn] at HDd HcA HUA l1 l3 hlm ⊢
 have hn0:n≤1024:=by omega
 have hnn:0<n:=by omega
 have Hab:Hid (∀i k,(i+k)%n<n):=zy fun i k=>Nat.mod_lt _ hnn
 have hlb:b≤1024:=by omega
 have n0: ¬(n:Int)=0:=by omega
 clear hlm hn l3
 have HZ:=zy (zAU n (fun i k=>(i+k)%n) X Y b)
 go_enter Tryz.func42,Tryz.ntmps42
 go_wp2_with (at_make;refine wpList_make_full _ rfl _ _ 54 rfl w.heap.size 22 i0 (.int .u64 0) 1 Tryz.underlying54 hi hz0 hz1 _ _ _ _ n rfl rfl ?l1 ?l2 ?b2 ?b3 (Nat.le_refl _) ?_)
 case l1=>omega
 case l2=>omega
 case b2=>rw [hz2];omega
 case b3=>unfold maxLen;omega
 intro w8 hown hgrow
 have hown0:OwnU w8 w.heap.size (.slice (some ⟨w.heap.size,0,none⟩) n n) n (lst n (acc (fun i k=>(i+k)%n) X Y b 0)):=by
  unfold OwnU
  rw [HZ.out,zJC,←toList_madeCells_one];exact hown
 have hB8:Below w.heap.size w w8:=(Below.refl _ _).grown hgrow (Nat.le_refl _) (fun k h=>by cases h)
 obtain ⟨G,hG⟩: ∃G,G=w.heap.size:=⟨_,rfl⟩
 rw [←hG]
 have hGe:w.heap.size≤G:=by omega
 have nSG:bA≠G:=by omega
 have nCG:bB≠G:=by omega
 have nSG':G≠bA:=by omega
 have nCG':G≠bB:=by omega
 rw [show (⟨w.heap.size,0,none⟩:Addr)=⟨G,0,none⟩ by rw [hG]] at hown0
 have HO8:=zy hown0
 have HB8:=zy hB8
 clear hown hgrow hown0 hB8 hG
 go_wp2
 go_loopw [19] (fun I wr=> ∃i:Nat,I= .int .i64 i∧i≤n∧Hid (OwnU wr w.heap.size (.slice (some ⟨G,0,none⟩) n n) n (lst n (acc (fun i k=>(i+k)%n) X Y b i)))∧Hid (Below w.heap.size w wr)) (fun I _=>n-(intOf I).toNat)
 case atStart=>exact ⟨0,rfl,by omega,HO8,HB8⟩
 case round=>
  clear HO8 HB8
  obtain ⟨i,rfl,hin,hO,hBr⟩:=hrel
  by_cases hlt:i<n
  ·have c0:=zDs hBr.out hbA (HcA.out i hlt)
   have ux:=HUA.out i hlt
   have ex:=HX0.out i
   obtain ⟨x,hx⟩: ∃x,x=L.getD i 0:=⟨_,rfl⟩
   rw [←hx] at c0 ux ex
   have HTi:Hid (∀y:Int,0≤y→y≤18446744073709551615→ ∀wz,Calls Tryz.prog 73 #[.int .u64 x, .int .u64 y, .int .u64 p] wz fun e w'=>e= .returned (.int .u64 ((X i*zt p y).val:Int))∧ ∃k,w'=wz.drewN k):=zy (fun y h0 h1 wz=>by
    have:=HPM.out
    have h2:=zQw x y p wz ux.1 ux.2 h0 h1 (by omega) (by omega)
    rw [zGv,ex] at h2
    exact h2)
   have hI:lst n (acc (fun i k=>(i+k)%n) X Y b i)=lst n (inn (fun k=>(i+k)%n) (X i) Y (acc (fun i k=>(i+k)%n) X Y b i) 0):=rfl
   rw [hI] at hO
   have HE:Hid (lst n (inn (fun k=>(i+k)%n) (X i) Y (acc (fun i k=>(i+k)%n) X Y b i) b)=lst n (acc (fun i k=>(i+k)%n) X Y b (i+1))):=zy rfl
   obtain ⟨F0,hF0⟩: ∃F0,F0=acc (fun i k=>(i+k)%n) X Y b i:=⟨_,rfl⟩
   rw [←hF0] at hO HE
   have HIS:=zy (fun k=>zJx n (fun k=>(i+k)%n) (X i) Y F0 k)
   obtain ⟨xi,hxi⟩: ∃xi,xi=X i:=⟨_,rfl⟩
   rw [←hxi] at hO HE HIS HTi
   clear hF0 hI ux ex hx hxi
   go_wp2
   go_loopw [26] (fun K wr=> ∃k:Nat,K= .int .i64 k∧k≤b∧Hid (OwnU wr w.heap.size (.slice (some ⟨G,0,none⟩) n n) n (lst n (inn (fun k=>(i+k)%n) xi Y F0 k)))∧Hid (Below w.heap.size w wr)) (fun K _=>b-(intOf K).toNat)
   case atStart=>exact ⟨0,rfl,by omega,hO,hBr⟩
   case round=>
    clear hO hBr
    obtain ⟨k,rfl,hkb,hO,hBr⟩:=hrel
    by_cases hkl:k<b
    ·have c1:=zDs hBr.out hbB (HcB.out k hkl)
     have uy:=HUB.out k hkl
     have ey:=HY0.out k
     obtain ⟨y,hy⟩: ∃y,y=M.getD k 0:=⟨_,rfl⟩
     rw [←hy] at c1 uy ey
     have hik:=Hab.out i k
     have HT:Hid (∀q,Calls Tryz.prog 73 #[.int .u64 x, .int .u64 y, .int .u64 p] (wr.drewN q) fun e w'=>e= .returned (.int .u64 ((xi*Y k).val:Int))∧ ∃k,w'=(wr.drewN q).drewN k):=zy (fun q=>by
      have h1:=HTi.out y uy.1 uy.2 (wr.drewN q)
      rw [ey] at h1;exact h1)
     have hst:=HIS.out k
     obtain ⟨m,hm⟩: ∃m,m=xi*Y k:=⟨_,rfl⟩
     rw [←hm] at HT hst
     obtain ⟨o,ho⟩: ∃o,o=(i+k)%n:=⟨_,rfl⟩
     obtain ⟨u,hu⟩: ∃u,u=i+k:=⟨_,rfl⟩
     have e1:(i:Int)+(k:Int)=((u:Nat):Int):=by omega
     have hou:o=u%n:=by rw [hu];exact ho
     have e2:(u:Int)%(n:Int)=((o:Nat):Int):=by rw [hou];rfl
     have e3:(u:Int).tmod (n:Int)=((o:Nat):Int):=by rw [Int.tmod_eq_emod_of_nonneg (by omega)];exact e2
     have e4:((u:Nat):Int)≤4096:=by omega
     have e5:(0:Int)≤((u:Nat):Int):=by omega
     simp only [←ho] at hst hik
     obtain ⟨c2,f2,_⟩:=zN9 hO.out o hik
     rw [zKY hik] at c2
     obtain ⟨s,hs⟩: ∃s,s=inn (fun k=>(i+k)%n) xi Y F0 k o:=⟨_,rfl⟩
     rw [←hs] at c2 hst
     have hpm: ∀z:Fin p,0≤((z.val:Nat):Int)∧((z.val:Nat):Int)≤18446744073709551615:=fun z=>by have:=z.isLt;have:=HPM.out.2;omega
     have HAd:Hid (∀q,Calls Tryz.prog 40 #[.int .u64 (s.val:Int), .int .u64 (m.val:Int), .int .u64 p] (wr.drewN q) fun e w'=>e= .returned (.int .u64 ((s+m).val:Int))∧ ∃k,w'=(wr.drewN q).drewN k):=zy (fun q=>by
      have:=HPM.out
      have h1:=zQt (s.val:Int) (m.val:Int) p (wr.drewN q) (hpm s).1 (hpm s).2 (hpm m).1 (hpm m).2 (by omega) (by omega)
      rw [zGt,zt_of_val,zt_of_val] at h1
      exact h1)
     obtain ⟨z0,hz0'⟩: ∃z0,z0=s+m:=⟨_,rfl⟩
     rw [←hz0'] at HAd hst
     have HST:=zy hst
     have i1:(0:Int)≤((o:Nat):Int):=by omega
     have i2:((o:Nat):Int)<(n:Int):=by omega
     have i3:((o:Nat):Int)≤9223372036854775807:=by omega
     clear hs hm hst hz0' hpm uy ey hy ho hu hou
     go_upto_region 9 with fail
     refine zWM 20 (by kernel_rfl) (by kernel_rfl) ?_
     simp only [List.take_succ_cons,List.take_zero,List.drop_succ_cons,List.drop_zero]
     repeat (go_big_quiet_step ((first|(go_at_call 73;exact Calls.quiet_of (HT.out _))|(go_at_call 40;exact Calls.quiet_of (HAd.out _)))))
     refine wpQuiet_nil ?_
     intro _ hw'
     obtain ⟨nq,hw''⟩:=hw'
     subst hw''
     have hO1:=((hO.out.drewN nq).set o hik (z0.val:Int)).1
     rw [HST.out] at hO1
     have HO1:=zy hO1
     have HB1:Hid (Below w.heap.size w ((wr.drewN nq).setCell ⟨G,o,none⟩ (.int .u64 (z0.val:Int)))):=zy ((below_drewN hBr.out nq).setCell hGe _)
     clear hO1 hO hBr
     go_wp2
     go_roundw
     case rel=>exact ⟨k+1,by go_num,by omega,HO1,HB1⟩
     case measure=>simp [intOf];omega
    ·have hke:k=b:=by omega
     have hO1:=hO.out
     rw [hke,HE.out] at hO1
     have HO1:=zy hO1
     have tk:decide ((k:Int)<(b:Int))=false:=decide_eq_false (by omega)
     clear hO hO1 hke
     go_wp2
     go_roundw
     case rel=>exact ⟨i+1,by go_num,by omega,HO1,hBr⟩
     case measure=>simp [intOf];omega
  ·have hie:i=n:=by omega
   have hO1:=hO.out
   rw [hie,←HDd.out] at hO1
   have HO1:=zy hO1
   have ti:decide ((i:Int)<(n:Int))=false:=decide_eq_false (by omega)
   clear hie hO1 hO
   go_wp2
   go_ret
   exact ⟨_,rfl,HO1.out,hBr.out⟩
end

section
open Alg
section
variable {p:Nat} [NeZero p]
theorem zTR {n:Nat} {f:Nat→Fin p} (h: ∀i,i<n→f i=0):sm n f=0:=(sm_congr h).trans (sm_const0 n)
theorem zJy (pl:Nat→Nat) (x:Fin p) (Y F:Nat→Fin p): ∀k t,inn pl x Y F k t=F t+sm k fun j=>if pl j=t then x*Y j else 0
 | 0,t=>by show F t=F t+0;grind
 | k+1,t=>by
  rw [sm_succ]
  show upd (inn pl x Y F k) (pl k) (inn pl x Y F k (pl k)+x*Y k) t=_
  by_cases h:pl k=t
  ·subst h
   rw [if_pos rfl,upd_same,zJy pl x Y F k (pl k)];grind
  ·rw [if_neg h,zWh (fun e=>h e.symm),zJy pl x Y F k t];grind
theorem zAT (pl:Nat→Nat→Nat) (X Y:Nat→Fin p) (m t:Nat): ∀i,acc pl X Y m i t=sm i fun j=>sm m fun k=>if pl j k=t then X j*Y k else 0
 | 0=>rfl
 | i+1=>by
  rw [sm_succ,←zAT pl X Y m t i]
  exact zJy (pl i) (X i) Y (acc pl X Y m i) m t
theorem zHt (n:Nat) (X:Nat→Fin p) (t:Nat): ∀i,fld n X i t=sm i fun j=>if j%n=t then X j else 0
 | 0=>rfl
 | i+1=>by
  rw [sm_succ,←zHt n X t i]
  show upd (fld n X i) (i%n) (fld n X i (i%n)+X i) t=_
  by_cases h:i%n=t
  ·rw [if_pos h,←h,upd_same]
  ·rw [if_neg h,zWh (fun e=>h e.symm)];grind
theorem zSh (b j t:Nat) (x:Fin p) (Y:Nat→Fin p):(sm b fun k=>if j+k=t then x*Y k else 0)=if j≤t then x*padz b Y (t-j) else 0:=by
 by_cases h:j≤t
 ·rw [if_pos h]
  by_cases h2:t-j<b
  ·rw [zNJ h2,sm_one (t-j) h2 fun i hi hn=>if_neg (by omega),if_pos (by omega)]
  ·rw [zNK (by omega),zTR fun k hk=>if_neg (by omega)];grind
 ·rw [if_neg h]
  exact zTR fun k hk=>if_neg (by omega)
theorem zFY (L M:List Int) (t:Nat):drc p L M t=sm L.length fun j=>sm M.length fun k=>if j+k=t then rz p L j*rz p M k else 0:=zAT _ _ _ _ _ _
theorem zFW (L M:List Int) (t:Nat):drc p L M t=lcv p L M t:=by
 rw [zFY]
 unfold lcv cv
 rw [sm_congr fun j _=>zSh M.length j t (rz p L j) (rz p M)]
 have h1:(sm L.length fun j=>if j≤t then rz p L j*padz M.length (rz p M) (t-j) else 0)=sm (L.length+(t+1)) fun j=>if j≤t then padz L.length (rz p L) j*padz M.length (rz p M) (t-j) else 0:=by
  rw [sm_split,zTR (n:=t+1) fun i _=>by rw [zNK (A:=rz p L) (by omega)];split <;> grind]
  have e:(sm L.length fun j=>if j≤t then rz p L j*padz M.length (rz p M) (t-j) else 0)=sm L.length fun j=>if j≤t then padz L.length (rz p L) j*padz M.length (rz p M) (t-j) else 0:=sm_congr fun j hj=>by rw [zNJ (A:=rz p L) hj]
  rw [e];grind
 have h2:(sm (t+1) fun j=>padz L.length (rz p L) j*padz M.length (rz p M) (t-j))=sm ((t+1)+L.length) fun j=>if j≤t then padz L.length (rz p L) j*padz M.length (rz p M) (t-j) else 0:=by
  have e:(sm (t+1) fun j=>padz L.length (rz p L) j*padz M.length (rz p M) (t-j))=sm (t+1) fun j=>if j≤t then padz L.length (rz p L) j*padz M.length (rz p M) (t-j) else 0:=sm_congr fun j hj=>(if_pos (by omega)).symm
  rw [sm_split (t+1) L.length,zTR (n:=L.length) fun i _=>if_neg (by omega),e];grind
 rw [h1,h2,Nat.add_comm]
theorem zRY (L M:List Int) (h:L.length=M.length) {t:Nat} (ht:t<L.length):rnd p L M t=cyc L.length (rz p L) (rz p M) t:=by
 show acc (fun i k=>(i+k)%L.length) (rz p L) (rz p M) M.length L.length t=_
 rw [zAT,←h]
 unfold cyc
 refine sm_congr fun j hj=>?_
 have hk:=Nat.mod_lt (t+(L.length-j)) (show 0<L.length by omega)
 have e1:(j+(t+(L.length-j))%L.length)%L.length=t:=by
  rw [Nat.add_mod,Nat.mod_mod,←Nat.add_mod,show j+(t+(L.length-j))=t+L.length by omega,Nat.add_mod_right,Nat.mod_eq_of_lt ht]
 rw [sm_one ((t+(L.length-j))%L.length) hk fun i hi hn=>if_neg fun e=>hn (zAW hi hk (j:=j) (by rw [Nat.add_comm i j,Nat.add_comm _ j,e,e1])),if_pos e1]
theorem zHs (L M:List Int) (h:L.length=M.length) {t:Nat} (ht:t<L.length):fld L.length (drc p L M) (L.length+M.length-1) t=rnd p L M t:=by
 rw [zRY L M h ht,zFu ht,zHt,show L.length+M.length-1=L.length+(L.length-1) by omega,sm_split]
 have e1:(sm L.length fun j=>if j%L.length=t then drc p L M j else 0)=drc p L M t:=by
  rw [sm_one t ht fun i hi hn=>if_neg (by rw [Nat.mod_eq_of_lt hi];exact hn),if_pos (Nat.mod_eq_of_lt ht)]
 have e2:(sm (L.length-1) fun i=>if (L.length+i)%L.length=t then drc p L M (L.length+i) else 0)=drc p L M (t+L.length):=by
  by_cases h1:t<L.length-1
  ·rw [sm_one t h1 fun i hi hn=>if_neg (by rw [Nat.add_mod_left,Nat.mod_eq_of_lt (by omega)];exact hn),if_pos (by rw [Nat.add_mod_left,Nat.mod_eq_of_lt ht]),Nat.add_comm]
  ·rw [zTR fun i hi=>if_neg (by rw [Nat.add_mod_left,Nat.mod_eq_of_lt (by omega)];omega),zFY]
   exact (zTR fun j hj=>zTR fun k hk=>if_neg (by omega)).symm
 rw [e1,e2,zFW,zFW]
 show lcv p L M t+lcv p L M (t+L.length)=_
 unfold lcv
 rw [←h]
end
end

section
open Go.RowKit
open Alg
theorem zQb (AA AB:Option Addr) (cA cB n:Nat) (p:Int) (L M:List Int) (w:World) (hl:L.length≤140737488351232) (hm:M.length≤140737488351232) (hA:RdI w n .u64 AA L) (hB:RdI w n .u64 AB M):
  Calls Tryz.prog 77 #[.int .u64 p, .slice AA L.length cA, .slice AB M.length cB] w fun e w'=>e= .returned (.bool (zI1 p L && zI1 p M))∧w=w':=by
 have h1:=zy (zP9 AA cA n p L w hl hA)
 have h2:=zy (zP9 AB cB n p M w hm hB)
 obtain ⟨a,ha⟩: ∃a,a=zI1 p L:=⟨_,rfl⟩
 obtain ⟨b,hb⟩: ∃b,b=zI1 p M:=⟨_,rfl⟩
 rw [←ha] at h1 ⊢
 rw [←hb] at h2 ⊢
 clear ha hb hA hB
 cases a
 ·go_enter Tryz.func77,Tryz.ntmps77
  go_wp2_with fail
  refine h1.out.mono ?_
  rintro e w1 ⟨rfl,rfl⟩
  go_wp2
  go_ret
  exact ⟨rfl,rfl⟩
 ·go_enter Tryz.func77,Tryz.ntmps77
  go_wp2_with fail
  refine h1.out.mono ?_
  rintro e w1 ⟨rfl,rfl⟩
  go_wp2_with fail
  refine h2.out.mono ?_
  rintro e w1 ⟨rfl,rfl⟩
  go_wp2
  go_ret
  exact ⟨by first|rfl|simp,rfl⟩
end
end Go.Proofs.YtmalmijdjhkklaaGreat
