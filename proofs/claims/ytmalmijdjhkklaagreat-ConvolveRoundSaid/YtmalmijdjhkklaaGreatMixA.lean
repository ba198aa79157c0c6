/- digits: Size, turn, Order, of small factors. -/
import Derived.Test.YtmalmijdjhkklaaGreatW51
import Derived.Test.YtmalmijdjhkklaaGreatW59
import Derived.Test.YtmalmijdjhkklaaGreatPlE
set_option linter.unusedVariables false
set_option linter.unusedSimpArgs false
set_option maxRecDepth 100000
set_option maxHeartbeats 16000000
namespace Go.Proofs.YtmalmijdjhkklaaGreat
open Go.RowKit
open Alg
theorem take_snoc {R:List Nat} {k:Nat} (h:k<R.length):R.take (k+1)=R.take k ++ [R.getD k 0]:=by
 rw [List.take_add_one,List.getD_eq_getElem?_getD,List.getElem?_eq_getElem h];rfl
theorem zOV (R:List Nat) (k:Nat):prN (R.take k)*prN (R.drop k)=prN R:=by rw [←zOP,List.take_append_drop]
theorem zOW {R:List Nat} (h:Two R) (k:Nat):prN (R.take k)≤prN R∧1≤prN (R.take k):=by
 have h1:Two (R.take k):=fun r hr=>h r (List.mem_of_mem_take hr)
 have h2:Two (R.drop k):=fun r hr=>h r (List.mem_of_mem_drop hr)
 have h3:=zOT h1
 have h4:=zOT h2
 rw [←zOV R k]
 exact ⟨Nat.le_mul_of_pos_right _ h4,h3⟩
theorem zOR {R:List Nat} {k:Nat} (h:k<R.length):prN (R.take (k+1))=prN (R.take k)*R.getD k 0:=by rw [take_snoc h,zOU]
theorem Two.at {R:List Nat} (h:Two R) {k:Nat} (hk:k<R.length):2≤R.getD k 0∧R.getD k 0≤7:=by
 refine h _ ?_
 rw [List.getD_eq_getElem?_getD,List.getElem?_eq_getElem hk]
 exact List.getElem_mem hk
theorem zGa (A:Option Addr) (c m:Nat) (R:List Nat) (w:World) (hT:Two R) (hp:prN R≤4096) (hl:R.length≤12) (hR:RdI w m .i64 A (zDm R)):
  Calls Tryz.prog 174 #[.slice A R.length c] w fun e w'=>e= .returned (.tuple #[.int .i64 (prN R:Int), .int .i64 0])∧w=w':=by
 have tl:decide ((R.length:Int)>12)=false:=decide_eq_false (by omega)
 have tl2:decide (12<R.length)=false:=decide_eq_false (by omega)
 have HT:=zy hT
 have HP:=zy hp
 have H0:Hid (1=prN (R.take 0)):=zy (by simp [prN])
 clear hT hp
 go_enter Tryz.func174,Tryz.ntmps174
 go_wp2
 go_loopw [4,5,13] (fun N B I wr=> ∃(k n:Nat),I= .int .i64 k∧N= .int .i64 n∧B= .bool false∧k≤R.length∧Hid (n=prN (R.take k))∧w=wr) (fun _ _ I _=>R.length-(intOf I).toNat)
 case atStart=>exact ⟨0,1,rfl,rfl,rfl,by omega,H0,rfl⟩
 case round=>
  clear H0
  obtain ⟨k,n,rfl,rfl,rfl,hk,hn,rfl⟩:=hrel
  by_cases hlt:k<R.length
  ·obtain ⟨b,o,rfl,hb,hc⟩:=hR (by rw [zDo];omega)
   have d:=hc k (by rw [zDo];exact hlt)
   rw [zDn] at d
   have h2:=HT.out.at hlt
   have hnx:=zOR hlt
   have hle:=(zOW HT.out (k+1)).1
   have hle0:=zOW HT.out k
   have hpp:=HP.out
   rw [←hn.out] at hnx hle0
   have hn4:n*R.getD k 0≤4096:=by rw [←hnx];omega
   obtain ⟨r,hr⟩: ∃r,r=R.getD k 0:=⟨_,rfl⟩
   rw [←hr] at d h2 hnx hn4
   have hn2:Hid (n*r=prN (R.take (k+1))):=zy hnx.symm
   obtain ⟨q,hq⟩: ∃q,q=4096/n:=⟨_,rfl⟩
   have hrq:r≤q:=by rw [hq];exact (Nat.le_div_iff_mul_le (by omega)).2 (by rw [Nat.mul_comm];exact hn4)
   have q1:(4096:Int)/(n:Int)=(q:Int):=by rw [hq];rfl
   have q2:(4096:Int).tdiv (n:Int)=(q:Int):=by rw [Int.tdiv_eq_ediv_of_nonneg (by omega)];exact q1
   have hqb:q≤4096:=by rw [hq];exact Nat.div_le_self _ _
   obtain ⟨y,hy⟩: ∃y,y=n*r:=⟨_,rfl⟩
   have ey:(n:Int)*(r:Int)=(y:Int):=by rw [hy,Int.natCast_mul]
   rw [←hy] at hn2 hn4
   have tz:((n:Int) == 0)=false:=by simp;omega
   have t1:decide ((r:Int)<2)=false:=decide_eq_false (by omega)
   have t1b:decide (r<2)=false:=decide_eq_false (by omega)
   have hne: ¬n=0:=by omega
   have wq:IntKind.i64.wrap (q:Int)=(q:Int):=IntWalk.i64_in _ (by omega)
   have t2:decide ((r:Int)>(q:Int))=false:=decide_eq_false (by omega)
   have t2b:decide ((q:Int)<(r:Int))=false:=decide_eq_false (by omega)
   have t2c:decide (q<r)=false:=decide_eq_false (by omega)
   have tk:decide ((k:Int)<(R.length:Int))=true:=decide_eq_true (by omega)
   clear hc hnx hle hle0 hpp hr hq hy hn
   go_wp2
   go_roundw
   case rel=>exact ⟨k+1,y,by go_num,rfl,rfl,by omega,hn2,by first|rfl|trivial⟩
   case measure=>simp [intOf];omega
  ·obtain rfl:k=R.length:=by omega
   have tk:decide ((R.length:Int)<(R.length:Int))=false:=by simp
   have hn2:Hid (n=prN R):=zy (by rw [hn.out,List.take_length])
   clear hn
   go_wp2
   go_ret2
   exact ⟨by rw [hn2.out];rfl,rfl⟩
theorem zGb (A:Option Addr) (c m:Nat) (R:List Nat) (x:Nat) (w:World) (hT:Two R) (hp:prN R≤4096) (hl:R.length≤12) (hx:x<4096) (hR:RdI w m .i64 A (zDm R)):
  Calls Tryz.prog 175 #[.slice A R.length c, .int .i64 (x:Int)] w fun e w'=>e= .returned (.int .i64 (zV4 R x:Int))∧w=w':=by
 have HT:=zy hT
 have HP:=zy hp
 have H0:Hid (0=zV4 (R.take 0) x):=zy (by simp [zV4])
 have H1:Hid (x=x/prN (R.take 0)):=zy (by simp [prN])
 clear hT hp
 go_enter Tryz.func175,Tryz.ntmps175
 go_wp2
 go_loopw [1,5,10] (fun X O I wr=> ∃(k z y:Nat),I= .int .i64 k∧O= .int .i64 z∧X= .int .i64 y∧k≤R.length∧z≤4096∧y≤4096∧Hid (z=zV4 (R.take k) x)∧Hid (y=x/prN (R.take k))∧w=wr) (fun _ _ I _=>R.length-(intOf I).toNat)
 case atStart=>exact ⟨0,0,x,rfl,rfl,rfl,by omega,by omega,by omega,H0,H1,rfl⟩
 case round=>
  clear H0 H1
  obtain ⟨k,z,y,rfl,rfl,rfl,hk,hz4,hy4,hz,hy,rfl⟩:=hrel
  by_cases hlt:k<R.length
  ·obtain ⟨b,o,rfl,hb,hc⟩:=hR (by rw [zDo];omega)
   have d:=hc k (by rw [zDo];exact hlt)
   rw [zDn] at d
   have h2:=HT.out.at hlt
   have hts:=zVE (R.getD k 0) (R.take k) x
   rw [←take_snoc hlt,←hz.out,←hy.out] at hts
   have hpn:x/prN (R.take (k+1))=y/R.getD k 0:=by rw [zOR hlt,←Nat.div_div_eq_div_mul,←hy.out]
   have hlt4:zV4 (R.take (k+1)) x≤4096:=by
    have h1:=zVB (R.take (k+1)) x (fun r hr=>HT.out r (List.mem_of_mem_take hr))
    have h3:=(zOW HT.out (k+1)).1
    have:=HP.out
    omega
   obtain ⟨r,hr⟩: ∃r,r=R.getD k 0:=⟨_,rfl⟩
   rw [←hr] at d h2 hts hpn
   obtain ⟨u,hu⟩: ∃u,u=z*r:=⟨_,rfl⟩
   have eu:(z:Int)*(r:Int)=(u:Int):=by rw [hu,Int.natCast_mul]
   have hu7:u≤28672:=by rw [hu];exact Nat.mul_le_mul hz4 h2.2
   obtain ⟨s,hs⟩: ∃s,s=y%r:=⟨_,rfl⟩
   have hsr:s<r:=by rw [hs];exact Nat.mod_lt _ (by omega)
   have es:(y:Int)%(r:Int)=(s:Int):=by rw [hs];omega
   have es2:(y:Int).tmod (r:Int)=(s:Int):=by rw [Int.tmod_eq_emod_of_nonneg (by omega)];exact es
   obtain ⟨q,hq⟩: ∃q,q=y/r:=⟨_,rfl⟩
   have hq4:q≤4096:=by rw [hq];exact Nat.le_trans (Nat.div_le_self _ _) hy4
   have eq:(y:Int)/(r:Int)=(q:Int):=by rw [hq];omega
   have eq2:(y:Int).tdiv (r:Int)=(q:Int):=by rw [Int.tdiv_eq_ediv_of_nonneg (by omega)];exact eq
   rw [←hu,←hs] at hts
   have hz2:Hid (u+s=zV4 (R.take (k+1)) x):=zy hts.symm
   have hy2:Hid (q=x/prN (R.take (k+1))):=zy (by rw [hpn,hq])
   have hus:u+s≤4096:=by rw [hz2.out];exact hlt4
   have tz:((r:Int) == 0)=false:=by simp;omega
   have tk:decide ((k:Int)<(R.length:Int))=true:=decide_eq_true (by omega)
   clear hc hts hpn hlt4 hr hu hs hq hz hy
   go_wp2
   go_roundw
   case rel=>exact ⟨k+1,u+s,q,by go_num,by go_num,rfl,by omega,hus,hq4,hz2,hy2,by first|rfl|trivial⟩
   case measure=>simp [intOf];omega
  ·obtain rfl:k=R.length:=by omega
   have tk:decide ((R.length:Int)<(R.length:Int))=false:=by simp
   have hn2:Hid (z=zV4 R x):=zy (by rw [hz.out,List.take_length])
   clear hz hy
   go_wp2
   go_ret
   exact ⟨by rw [hn2.out];rfl,rfl⟩
theorem zFQ {p:Nat} [NeZero p] (hpm:(p:Int)<9223372036854775808) (A B:Option Addr) (c d m m':Nat) (L:List Int) (R:List Nat) (w:World) (hT:Two R) (hp:prN R=L.length) (hn:L.length≤1024) (hn0:0<L.length) (hl:R.length≤12) (hU:U64s L) (hg:zI1 p L=true)
  (hA:RdI w m .u64 A L) (hm:m≤w.heap.size) (hB:RdI w m' .i64 B (zDm R)) (hm':m'≤w.heap.size):
  Calls Tryz.prog 123 #[.slice A L.length c, .slice B R.length d] w fun e w'=> ∃V F,e= .returned (.tuple #[V, .int .i64 0])∧Hid (∀x,x<L.length→F (zV4 R x)=rz p L x)∧OwnU w' w.heap.size V L.length (lst L.length F)∧Below w.heap.size w w':=by
 obtain ⟨i0,hi,hz0,hz1,hz2⟩:=info_parts zJt
 have HT:=zy hT
 have hS:=zy (zGa B d m' R w hT (by omega) hl hB)
 have HTn:Hid (∀x:Nat,x<4096→ ∀W,Below w.heap.size w W→Calls Tryz.prog 175 #[.slice B R.length d, .int .i64 (x:Int)] W fun e w'=>e= .returned (.int .i64 (zV4 R x:Int))∧W=w'):=zy (fun x hx W hW=>zGb B d m' R x W hT (by omega) hl hx (hB.below (hW.mono hm')))
 have HL:Hid (∀k,k<L.length→L.getD k 0=((rz p L k).val:Int)):=zy (fun k hk=>by
  have h1:=zLc hg hU
  have h2:=zKY (f:=rz p L) hk
  rw [h1] at h2
  exact h2)
 have HTl:Hid (∀x,zV4 R x<L.length):=zy (fun x=>by rw [←hp];exact zVB R x hT)
 have HTi:Hid (∀x y,x<L.length→y<L.length→zV4 R x=zV4 R y→x=y):=zy (fun x y hx hy h=>zV9 R x y hT (by omega) (by omega) h)
 rw [hp] at hS
 obtain ⟨bA,oA,rfl,hbA,hcA⟩:=hA hn0
 have HcA:Hid (∀k,k<L.length→w.cell? ⟨bA,oA+k,none⟩=some (.int .u64 ((rz p L k).val:Int))):=zy (fun k hk=>by rw [←HL.out k hk];exact hcA k hk)
 obtain ⟨N,hN⟩: ∃N,N=L.length:=⟨_,rfl⟩
 obtain ⟨x,hx⟩: ∃x,x=rz p L:=⟨_,rfl⟩
 rw [←hx] at HcA ⊢
 rw [←hN] at hS hn hn0 HcA HTl HTi ⊢
 clear hT hp hU hg hB hcA hx hN HL
 go_enter Tryz.func123,Tryz.ntmps123
 go_wp2_with fail
 refine hS.out.mono ?_
 rintro e w1 ⟨rfl,rfl⟩
 have tN:((N:Int) != (N:Int))=false:=by simp
 go_wp2_with (at_make;refine wpList_make_full _ rfl _ _ 54 rfl w.heap.size 22 i0 (.int .u64 0) 1 Tryz.underlying54 hi hz0 hz1 _ _ _ _ N rfl rfl ?l1 ?l2 ?b2 ?b3 (Nat.le_refl _) ?_)
 case l1=>omega
 case l2=>omega
 case b2=>rw [hz2];omega
 case b3=>unfold maxLen;omega
 intro w8 hown hgrow
 have hown0:OwnU w8 w.heap.size (.slice (some ⟨w.heap.size,0,none⟩) N N) N (lst N (fun _=>(0:Fin p))):=zLs hown
 have hB8:Below w.heap.size w w8:=(Below.refl _ _).grown hgrow (Nat.le_refl _) (fun k h=>by cases h)
 obtain ⟨G,hG⟩: ∃G,G=w.heap.size:=⟨_,rfl⟩
 rw [←hG] at hown0 ⊢
 rw [show OwnU w8 G=OwnU w8 w.heap.size by rw [hG]] at hown0
 have HQ8:Hid (R2 w G N N (lst N (fun _=>(0:Fin p))) w8):=zy ⟨hB8,hown0⟩
 have hGe:w.heap.size≤G:=by omega
 have hbA2:bA<w.heap.size:=by omega
 clear hown hgrow hown0 hB8 hG
 go_wp2
 go_loopw [27] (fun I wr=> ∃(k:Nat) (F:Nat→Fin p),I= .int .i64 k∧k≤N∧Hid (∀y,y<k→F (zV4 R y)=x y)∧Hid (R2 w G N N (lst N F) wr)) (fun I _=>N-(intOf I).toNat)
 case atStart=>exact ⟨0,_,rfl,by omega,zy (fun y hy=>by omega),HQ8⟩
 case round=>
  clear HQ8
  obtain ⟨k,F,rfl,hk,hF,hQ⟩:=hrel
  by_cases hlt:k<N
  ·have tk:decide ((k:Int)<(N:Int))=true:=decide_eq_true (by omega)
   have c0:=zDs hQ.out.1 hbA2 (HcA.out k hlt)
   have HTk:=zy (HTn.out k (by omega) wr hQ.out.1)
   have htl:=HTl.out k
   have hF2:Hid (∀y,y<k+1→upd F (zV4 R k) (x k) (zV4 R y)=x y):=zy (fun y hy=>by
    by_cases e:y=k
    ·subst e;rw [upd_same]
    ·rw [zWh (fun h=>e (HTi.out y k (by omega) hlt h))]
     exact hF.out y (by omega))
   obtain ⟨t,ht⟩: ∃t,t=zV4 R k:=⟨_,rfl⟩
   obtain ⟨xk,hxk⟩: ∃xk,xk=x k:=⟨_,rfl⟩
   rw [←ht] at HTk htl hF2
   rw [←hxk] at c0 hF2
   have c2:=hQ.out.cell t htl
   have f2:=hQ.out.fz t htl
   have hO1:=(hQ.out.2.set t htl (xk.val:Int)).1
   rw [zLe] at hO1
   have HQ1:Hid (R2 w G N N (lst N (upd F t xk)) (wr.setCell ⟨G,t,none⟩ (.int .u64 (xk.val:Int)))):=zy ⟨hQ.out.1.setCell hGe _,hO1⟩
   have i1:(0:Int)≤(t:Int):=by omega
   have i2:(t:Int)<(N:Int):=by omega
   clear hO1 hQ hF ht hxk
   go_wp2_with fail
   refine HTk.out.mono ?_
   rintro e w3 ⟨rfl,rfl⟩
   go_wp2
   go_roundw
   case rel=>exact ⟨k+1,upd F t xk,by go_num,by omega,hF2,HQ1⟩
   case measure=>simp [intOf];omega
  ·obtain rfl:k=N:=by omega
   have tk:decide ((k:Int)<(k:Int))=false:=by simp
   have HB:=zy hQ.out.1
   have HO:=zy hQ.out.2
   clear hQ
   go_wp2
   go_ret2
   exact ⟨_,F,rfl,hF,HO.out,HB.out⟩
end Go.Proofs.YtmalmijdjhkklaaGreat