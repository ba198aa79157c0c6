/- mixed: a stage's one. -/
import Derived.Test.YtmalmijdjhkklaaGreatMixB
import Derived.Test.YtmalmijdjhkklaaGreatW20
import Derived.Test.YtmalmijdjhkklaaGreatW96
import Derived.Test.YtmalmijdjhkklaaGreatPlA
set_option linter.unusedVariables false
set_option linter.unusedSimpArgs false
set_option maxRecDepth 100000
set_option maxHeartbeats 16000000
namespace Go.Proofs.YtmalmijdjhkklaaGreat
open Go.RowKit
section
open Alg
structure OneI {p:Nat} [NeZero p] (w:World) (SV:Array Value) (G B n c r:Nat) (T F:Nat→Fin p) (wr:World):Prop where
 but:But G w wr
 box:zAI wr w.heap.size 168 SV
 t:OwnU wr w.heap.size (.slice (some ⟨w.heap.size+1,0,none⟩) r r) r (lst r T)
 own:OwnU wr B (.slice (some ⟨G,0,none⟩) n c) n (lst n F)
theorem OneI.keep {p:Nat} [NeZero p] {w:World} {SV:Array Value} {G B n c r:Nat} {T F:Nat→Fin p} {wr W':World} (h:OneI w SV G B n c r T F wr) (hb:Below wr.heap.size wr W'):OneI w SV G B n c r T F W':=
 ⟨h.but.trans (But.of_below hb),h.box.keep hb,h.t.below hb,h.own.below hb⟩
theorem OneI.setT {p:Nat} [NeZero p] {w:World} {SV:Array Value} {G B n c r:Nat} {T F:Nat→Fin p} {wr:World} (h:OneI w SV G B n c r T F wr) (hG:G<w.heap.size) (j:Nat) (hj:j<r) (x:Fin p):
  OneI w SV G B n c r (upd T j x) F (wr.setCell ⟨w.heap.size+1,j,none⟩ (.int .u64 ((x.val:Nat):Int))):=by
 have h1:=(h.t.set j hj ((x.val:Nat):Int)).1
 rw [zLe] at h1
 refine ⟨⟨h.but.os,h.but.tape,h.but.output,by have:=h.but.size;simpa using this,fun k hk hn=>?_⟩,h.box.setOther _ _ (by simp),h1,zN7 h.own (by omega) _⟩
 rw [heap_setCell_other _ _ _ _ (by simp;omega)]
 exact h.but.block k hk hn
theorem OneI.setF {p:Nat} [NeZero p] {w:World} {SV:Array Value} {G B n c r:Nat} {T F:Nat→Fin p} {wr:World} (h:OneI w SV G B n c r T F wr) (hG:G<w.heap.size) (j:Nat) (hj:j<n) (x:Fin p):
  OneI w SV G B n c r T (upd F j x) (wr.setCell ⟨G,j,none⟩ (.int .u64 ((x.val:Nat):Int))):=by
 have h1:=(h.own.set j hj ((x.val:Nat):Int)).1
 rw [zLe] at h1
 exact ⟨h.but.trans (But.setCell G j wr _),h.box.setOther _ _ (by simp;omega),zN7 h.t (by omega) _,h1⟩
theorem zLN {p:Nat} [NeZero p] {w:World} {g:Int} (v:Value) (bT oT n cT r m:Nat) (B0 B G c st b k:Nat) (W:Int) (ω:Fin p) (F:Nat→Fin p) (h:Fd w B0 v p g) (hW:zt p W=ω) (hω:pw ω n=1) (hst:n=st*(r*m)) (hn:n≤1024) (hn0:0<n) (hr:2≤r∧r≤7) (hk:k<m) (hbn:(b+1)*(r*m)≤n)
  (hB0:B0≤G) (hbT:bT<B0) (hG:G<w.heap.size) (hc: ∀i,i<n→w.cell? ⟨bT,oT+i,none⟩=some (.int .u64 (lft p (W^i)))) (hO:OwnU w B (.slice (some ⟨G,0,none⟩) n c) n (lst n F)):
  Calls Tryz.prog 176 #[.agg #[v, .slice (some ⟨bT,oT,none⟩) n cT, .int .i64 (r:Int), .int .i64 (m:Int)], .slice (some ⟨G,b*(r*m),none⟩) (r*m) (r*m), .int .i64 (k:Int)] w fun e w'=>(∃u,e= .returned u)∧ ∃F',OwnU w' B (.slice (some ⟨G,0,none⟩) n c) n (lst n F')∧But G w w'∧
   Hid (∀i,i<r→F' (b*(r*m)+i*m+k)=sm r fun q=>pw ω (q*(i*m+k)*st)*F (b*(r*m)+q*m+k))∧Hid (∀j,(∀i,i<r→j≠b*(r*m)+i*m+k)→F' j=F j):=by
 obtain ⟨i0,hi,hz0,hz1,hz2⟩:=info_parts zJt
 have HPM:=zy (And.intro h.p3 h.pmx)
 have HFd:=zy h
 have HO:=zy hO
 have HG:=zy hG
 have HLF:Hid (∀e:Nat,e≤1048576→ ∀wz,But G w wz→Calls Tryz.prog 206 #[.agg #[v, .slice (some ⟨bT,oT,none⟩) n cT, .int .i64 (r:Int), .int .i64 (m:Int)], .int .i64 (e:Int)] wz fun x w'=>x= .returned (.int .u64 (lft p (W^(e*st%n))))∧Below wz.heap.size wz w'):=zy (fun e he wz hz=>
  zK9 v bT oT n cT r m W st e wz hst hn hn0 he (fun i hi=>hz.cell (by omega) (by omega) (hc i hi)))
 have HTM:Hid (∀(e:Nat) (x:Fin p) wz,But G w wz→Calls Tryz.prog 81 #[v, .int .u64 (lft p (W^(e%n))), .int .u64 (x.val:Int)] wz fun y w'=>y= .returned (.int .u64 ((pw ω e*x:Fin p).val:Int))∧ ∃q,w'=wz.drewN q):=zy (fun e x wz hz=>by
  have h1:=zHM (h.below (hz.below (by omega) hB0)) (W^(e%n)) (x.val:Int) (by omega) (by have:=x.isLt;have:=HPM.out.2;omega)
  rw [zGv,zt_of_val,zt_pow,hW,←pw_mod hω] at h1
  exact h1)
 have HAD:Hid (∀(x y:Fin p) wz,But G w wz→Calls Tryz.prog 80 #[v, .int .u64 (x.val:Int), .int .u64 (y.val:Int)] wz fun z w'=>z= .returned (.int .u64 ((x+y:Fin p).val:Int))∧ ∃q,w'=wz.drewN q):=zy (fun x y wz hz=>by
  have hlp: ∀x:Fin p,0≤((x.val:Nat):Int)∧((x.val:Nat):Int)≤18446744073709551615:=fun x=>by have:=x.isLt;have:=HPM.out.2;omega
  have h1:=zG9 (h.below (hz.below (by omega) hB0)) (x.val:Int) (y.val:Int) (hlp x).1 (hlp x).2 (hlp y).1 (hlp y).2
  rw [zGt,zt_of_val,zt_of_val] at h1
  exact h1)
 have R1:=zy (lay1 w 168 #[v, .slice (some ⟨bT,oT,none⟩) n cT, .int .i64 (r:Int), .int .i64 (m:Int)])
 obtain ⟨z,hz⟩: ∃z,z=r*m:=⟨_,rfl⟩
 obtain ⟨s0,hs0⟩: ∃s,s=b*(r*m):=⟨_,rfl⟩
 rw [Nat.add_mul,Nat.one_mul,←hs0,←hz] at hbn
 have HIx:Hid (∀i,i<r→i*m+k<z):=zy (fun i hi=>by
  have:(i+1)*m≤r*m:=Nat.mul_le_mul_right _ hi
  rw [Nat.add_mul,Nat.one_mul] at this
  omega)
 have hmz:m≤z:=by rw [hz];exact Nat.le_mul_of_pos_left _ (by omega)
 rw [←hs0,←hz]
 have d2:=R1.out.1.cell (i:=2) (v:= .int .i64 (r:Int)) rfl
 have HB1:=zy R1.out.2
 clear h hW hω hst hbT hc hO hz hs0 hB0 hG
 go_enter Tryz.func176,Tryz.ntmps176
 go_wp2_with (at_make;refine wpList_make_full _ rfl _ _ 54 rfl w.heap.size 22 i0 (.int .u64 0) 1 Tryz.underlying54 hi hz0 hz1 _ _ _ _ r rfl rfl ?l1 ?l2 ?b2 ?b3 HB1.out.size ?_)
 case l1=>omega
 case l2=>omega
 case b2=>rw [hz2];omega
 case b3=>unfold maxLen;omega
 intro w3 hown hgrow
 have hQ3:Hid (OneI w #[v, .slice (some ⟨bT,oT,none⟩) n cT, .int .i64 (r:Int), .int .i64 (m:Int)] G B n c r (fun _=>0) F w3):=zy (by
  have hb3:Below w.heap.size w w3:=HB1.out.grown hgrow HB1.out.size (fun k h=>by cases h)
  have h1:=zLs (p:=p) hown
  have hb4:Below (w.alloc (.cells #[v, .slice (some ⟨bT,oT,none⟩) n cT, .int .i64 (r:Int), .int .i64 (m:Int)] 168)).heap.size (w.alloc (.cells #[v, .slice (some ⟨bT,oT,none⟩) n cT, .int .i64 (r:Int), .int .i64 (m:Int)] 168)) w3:=(Below.refl _ _).grown hgrow (Nat.le_refl _) (fun k h=>by cases h)
  exact ⟨But.of_below hb3,R1.out.1.keep hb4,h1,HO.out.below hb3⟩)
 have hT3:Hid (∀j,j<0→(fun _=>(0:Fin p)) j=pw ω (j*k*st)*F (s0+j*m+k)):=zy (fun j hj=>by omega)
 clear hown hgrow R1 d2
 go_wp2
 go_loopw [17] (fun I wr=> ∃(q:Nat) (T:Nat→Fin p),I= .int .i64 q∧q≤r∧Hid (∀j,j<q→T j=pw ω (j*k*st)*F (s0+j*m+k))∧Hid (OneI w #[v, .slice (some ⟨bT,oT,none⟩) n cT, .int .i64 (r:Int), .int .i64 (m:Int)] G B n c r T F wr)) (fun I _=>r-(intOf I).toNat)
 case atStart=>exact ⟨0,_,rfl,by omega,hT3,hQ3⟩
 case round=>
  clear hQ3 hT3
  obtain ⟨q,T,rfl,hq,hT,hQ⟩:=hrel
  by_cases hlt:q<r
  ·have tk:decide ((q:Int)<(r:Int))=true:=decide_eq_true (by omega)
   have hix:=HIx.out q hlt
   obtain ⟨y,hy⟩: ∃y,y=q*m:=⟨_,rfl⟩
   have ey:(q:Int)*(m:Int)=(y:Int):=by rw [hy,Int.natCast_mul]
   rw [←hy] at hix
   obtain ⟨u,hu⟩: ∃u,u=q*k:=⟨_,rfl⟩
   have eu:(q:Int)*(k:Int)=(u:Int):=by rw [hu,Int.natCast_mul]
   have hub:u≤1048576:=by rw [hu];exact Nat.le_trans (Nat.mul_le_mul (by omega:q≤7) (by omega:k≤1024)) (by omega)
   obtain ⟨j,hj⟩: ∃j,j=y+k:=⟨_,rfl⟩
   have ej:(y:Int)+(k:Int)=(j:Int):=by omega
   obtain ⟨x,hx⟩: ∃x,x=F (s0+j):=⟨_,rfl⟩
   obtain ⟨X1,hX1⟩: ∃X1,X1=pw ω (u*st)*x:=⟨_,rfl⟩
   have hoj:s0+j<n:=by omega
   have HSZ:Hid (∀wz,OneI w #[v, .slice (some ⟨bT,oT,none⟩) n cT, .int .i64 (r:Int), .int .i64 (m:Int)] G B n c r T F wz→(zAI wz w.heap.size 168 #[v, .slice (some ⟨bT,oT,none⟩) n cT, .int .i64 (r:Int), .int .i64 (m:Int)]∧wz.cell? ⟨w.heap.size,0,none⟩=some v∧wz.cell? ⟨w.heap.size,3,none⟩=some (.int .i64 (m:Int))∧wz.cell? ⟨G,s0+j,none⟩=some (.int .u64 (x.val:Int)))):=zy (fun wz hz=>⟨hz.box,hz.box.cell rfl,hz.box.cell rfl,by
    have h1:=(zN9 hz.own (s0+j) hoj).1
    rw [zKY hoj,←hx] at h1
    exact h1⟩)
   have HSZ2:Hid (∀wz,OneI w #[v, .slice (some ⟨bT,oT,none⟩) n cT, .int .i64 (r:Int), .int .i64 (m:Int)] G B n c r (upd T q X1) F wz→(zAI wz w.heap.size 168 #[v, .slice (some ⟨bT,oT,none⟩) n cT, .int .i64 (r:Int), .int .i64 (m:Int)]∧wz.cell? ⟨w.heap.size,0,none⟩=some v∧wz.cell? ⟨w.heap.size,3,none⟩=some (.int .i64 (m:Int))∧wz.cell? ⟨G,s0+j,none⟩=some (.int .u64 (x.val:Int)))):=zy (fun wz hz=>⟨hz.box,hz.box.cell rfl,hz.box.cell rfl,by
    have h1:=(zN9 hz.own (s0+j) hoj).1
    rw [zKY hoj,←hx] at h1
    exact h1⟩)
   have KP:Hid (∀W W',OneI w #[v, .slice (some ⟨bT,oT,none⟩) n cT, .int .i64 (r:Int), .int .i64 (m:Int)] G B n c r T F W→Below W.heap.size W W'→OneI w #[v, .slice (some ⟨bT,oT,none⟩) n cT, .int .i64 (r:Int), .int .i64 (m:Int)] G B n c r T F W'):=zy (fun W W' h hB=>h.keep hB)
   have HLf:=zy (HLF.out u hub)
   have HTm:=zy (HTM.out (u*st) x)
   rw [←hX1] at HTm
   obtain ⟨lq,hlq⟩: ∃lq,lq=lft p (W^(u*st%n)):=⟨_,rfl⟩
   rw [←hlq] at HLf HTm
   have z0:Hid (OneI w #[v, .slice (some ⟨bT,oT,none⟩) n cT, .int .i64 (r:Int), .int .i64 (m:Int)] G B n c r T F (wr.drewN 1)):=zy (KP.out _ _ hQ.out (below_drewN (Below.refl _ _) 1))
   have hT2:Hid (∀j,j<q+1→upd T q X1 j=pw ω (j*k*st)*F (s0+j*m+k)):=zy (fun j' hj'=>by
    by_cases e:j'=q
    ·subst e;rw [upd_same,hX1,hx,hu,hj,hy,Nat.add_assoc]
    ·rw [zWh e];exact hT.out j' (by omega))
   have i1:(0:Int)≤(j:Int):=by omega
   have i2:(j:Int)<(z:Int):=by omega
   have i3:(0:Int)≤(q:Int):=by omega
   have i4:(q:Int)<(r:Int):=by omega
   have w1:IntKind.i64.wrap (u:Int)=(u:Int):=IntWalk.i64_in _ (by omega)
   have w2:IntKind.i64.wrap (y:Int)=(y:Int):=IntWalk.i64_in _ (by omega)
   have w3:IntKind.i64.wrap (j:Int)=(j:Int):=IntWalk.i64_in _ (by omega)
   clear hy hu hj hx hX1 hlq hT hQ
   go_upto_region 5 with fail
   refine wp_region_held_drew (S:=fun wz=>zAI wz w.heap.size 168 #[v, .slice (some ⟨bT,oT,none⟩) n cT, .int .i64 (r:Int), .int .i64 (m:Int)]∧wz.cell? ⟨w.heap.size,0,none⟩=some v∧wz.cell? ⟨w.heap.size,3,none⟩=some (.int .i64 (m:Int))∧wz.cell? ⟨G,s0+j,none⟩=some (.int .u64 (x.val:Int))) (by kernel_rfl) (HSZ.out _ z0.out) (fun hHeld=>?_)
   clear hHeld
   refine zj (i:=0) (v:=?_) rfl (by kernel_rfl) (fun _ _ _=>id) (by rfl) ?_ (HSZ.out _ z0.out) ?_
   rotate_left
   ·intro w h;go_simp;try with_reducible rfl
   try simp only [zv,zx]
   refine zj (i:=1) (v:=?_) rfl (by kernel_rfl) (fun _ _ _=>id) (by rfl) ?_ (HSZ.out _ z0.out) ?_
   rotate_left
   ·intro w h;go_simp;try with_reducible rfl
   try simp only [zv,zx]
   refine zj (i:=2) (v:=?_) rfl (by kernel_rfl) (fun _ _ _=>id) (by rfl) ?_ (HSZ.out _ z0.out) ?_
   rotate_left
   ·intro w h;go_simp;try with_reducible rfl
   try simp only [zv,zx]
   refine zj (i:=3) (v:=?_) rfl (by kernel_rfl) (fun _ _ _=>id) (by rfl) ?_ (HSZ.out _ z0.out) ?_
   rotate_left
   ·intro w h;go_simp;try with_reducible rfl
   try simp only [zv,zx]
   refine zQ (i:=4) rfl (by kernel_rfl) (fun _ _ _=>id) (zXh (by rfl) _ _ rfl _ rfl _ _ _ (fun wz h=>h.1) Tryz.underlying168 rfl (by exact zTB)) (HSZ.out _ z0.out) ?_
   try simp only [zv,zx]
   refine zj (i:=5) (v:=?_) rfl (by kernel_rfl) (fun _ _ _=>id) (by rfl) ?_ (HSZ.out _ z0.out) ?_
   rotate_left
   ·intro w h;go_simp;try with_reducible rfl
   try simp only [zv,zx]
   refine zj (i:=6) (v:=?_) rfl (by kernel_rfl) (fun _ _ _=>id) (by rfl) ?_ (HSZ.out _ z0.out) ?_
   rotate_left
   ·intro w h;go_simp;try with_reducible rfl
   try simp only [zv,zx]
   refine zj (i:=7) (v:=?_) rfl (by kernel_rfl) (fun _ _ _=>id) (by rfl) ?_ (HSZ.out _ z0.out) ?_
   rotate_left
   ·intro w h;go_simp;try with_reducible rfl
   try simp only [zv,zx]
   refine zj (i:=9) (v:=?_) rfl (by kernel_rfl) (fun _ _ _=>id) (by rfl) ?_ (HSZ.out _ z0.out) ?_
   rotate_left
   ·intro w h;go_simp;try with_reducible rfl
   try simp only [zv,zx]
   refine zj (i:=10) (v:=?_) rfl (by kernel_rfl) (fun _ _ _=>id) (by rfl) ?_ (HSZ.out _ z0.out) ?_
   rotate_left
   ·intro w h;go_simp;try with_reducible rfl
   try simp only [zv,zx]
   refine zj (i:=11) (v:=?_) rfl (by kernel_rfl) (fun _ _ _=>id) (by rfl) ?_ (HSZ.out _ z0.out) ?_
   rotate_left
   ·intro w h;go_simp;try with_reducible rfl
   try simp only [zv,zx]
   refine zj (i:=12) (v:=?_) rfl (by kernel_rfl) (fun _ _ _=>id) (by rfl) ?_ (HSZ.out _ z0.out) ?_
   rotate_left
   ·intro w h;go_simp;try with_reducible rfl
   try simp only [zv,zx]
   refine zj (i:=13) (v:=?_) rfl (by kernel_rfl) (fun _ _ _=>id) (by rfl) ?_ (HSZ.out _ z0.out) ?_
   rotate_left
   ·intro w h;go_simp;try with_reducible rfl
   try simp only [zv,zx]
   refine zj (i:=14) (v:=?_) rfl (by kernel_rfl) (fun _ _ _=>id) (by rfl) ?_ (HSZ.out _ z0.out) ?_
   rotate_left
   ·intro w h;go_simp;try with_reducible rfl
   try simp only [zv,zx]
   refine zj (i:=15) (v:=?_) rfl (by kernel_rfl) (fun _ _ _=>id) (by rfl) ?_ (HSZ.out _ z0.out) ?_
   rotate_left
   ·intro w h;go_simp;try with_reducible rfl
   try simp only [zv,zx]
   refine zj (i:=16) (v:=?_) rfl (by kernel_rfl) (fun _ _ _=>id) (by rfl) ?_ (HSZ.out _ z0.out) ?_
   rotate_left
   ·intro w h;go_simp;try with_reducible rfl
   try simp only [zv,zx]
   refine zj (i:=17) (v:=?_) rfl (by kernel_rfl) (fun _ _ _=>id) (by rfl) ?_ (HSZ.out _ z0.out) ?_
   rotate_left
   ·intro w h;go_simp;try with_reducible rfl
   try simp only [zv,zx]
   refine wpAnyH_ready (rs:= [8]) (by kernel_rfl) (by simp) ?_
   refine AllReadyH.cons rfl (fun K hK=>?_) AllReadyH.nil
   try simp only [zx]
   rw [if_pos (by rfl)]
   go_wp2_with (go_at_call 206;refine (HLf.out _ z0.out.but).mono ?_;rintro e w8 ⟨rfl,hY⟩)
   have z8:=zy (KP.out _ _ z0.out hY)
   clear hY
   refine hK.out _ _ ((HSZ.out _ z8.out)) (fun _=>?_)
   clear hK K
   try simp only [zv,zx]
   refine wpAnyH_ready (rs:= [18]) (by kernel_rfl) (by simp) ?_
   refine AllReadyH.cons rfl (fun K hK=>?_) AllReadyH.nil
   try simp only [zx]
   rw [if_pos (by rfl)]
   go_wp2_with (go_at_call 81;refine (HTm.out _ z8.out.but).mono ?_;rintro e w9 ⟨rfl,n9,rfl⟩)
   have z9:=zy (KP.out _ _ z8.out (below_drewN (Below.refl _ _) n9))
   refine hK.out _ _ ((HSZ.out _ z9.out)) (fun _=>?_)
   clear hK K
   try simp only [zv,zx]
   refine zj (i:=19) (v:=?_) rfl (by kernel_rfl) (fun _ _ _=>id) (by rfl) ?_ (HSZ.out _ z9.out) ?_
   rotate_left
   ·intro w h;go_simp;try with_reducible rfl
   try simp only [zv,zx]
   have f9:=(zN9 z9.out.t q hlt).2.1
   have g9:=(zN9 z9.out.t q hlt).1
   have z10:=zy (z9.out.setT HG.out q hlt X1)
   refine wpAnyH_ready (rs:= [20]) (by kernel_rfl) (by simp) ?_
   refine AllReadyH.cons rfl (fun K hK=>?_) AllReadyH.nil
   try simp only [zx]
   rw [if_pos (by rfl)]
   go_wp2_with fail
   refine hK.out _ _ (HSZ2.out _ z10.out) (fun _=>?_)
   clear hK K
   try simp only [zv,zx]
   refine wpAnyH_done (by kernel_rfl) ?_ _
   go_wp2
   go_roundw
   case rel=>exact ⟨q+1,upd T q X1,by go_num,by omega,hT2,z10⟩
   case measure=>simp [intOf];omega
  ·obtain rfl:r=q:=by omega
   have tk:decide ((r:Int)<(r:Int))=false:=by simp
   have HT:Hid (∀j,j<r→T j=pw ω (j*k*st)*F (s0+j*m+k)):=zy hT.out
   have hF0:Hid (∀i,i<0→F (s0+i*m+k)=sm r fun y=>pw ω (y*i*m*st)*T y):=zy (fun i hi=>by omega)
   clear hT
   go_wp2
   go_loopw [43] (fun I wr=> ∃(i:Nat) (F':Nat→Fin p),I= .int .i64 i∧i≤r∧Hid (∀i',i'<i→F' (s0+i'*m+k)=sm r fun y=>pw ω (y*i'*m*st)*T y)∧Hid (∀j,(∀i',i'<i→j≠s0+i'*m+k)→F' j=F j)∧Hid (OneI w #[v, .slice (some ⟨bT,oT,none⟩) n cT, .int .i64 (r:Int), .int .i64 (m:Int)] G B n c r T F' wr)) (fun I _=>r-(intOf I).toNat)
   case atStart=>exact ⟨0,F,rfl,by omega,hF0,zy (fun _ _=>rfl),hQ⟩
   case round=>
    clear hQ hF0
    obtain ⟨i,F',rfl,hi',hnew,hold,hQ⟩:=hrel
    by_cases hli:i<r
    ·have ti:decide ((i:Int)<(r:Int))=true:=decide_eq_true (by omega)
     have hS0:Hid ((0:Fin p)=sm 0 fun y=>pw ω (y*i*m*st)*T y):=zy rfl
     have e0:((0:Fin p).val:Int)=0:=by simp
     go_wp2
     go_loopw [9,48] (fun A I wr=> ∃(y:Nat) (s:Fin p),I= .int .i64 y∧A= .int .u64 (s.val:Int)∧y≤r∧Hid (s=sm y fun y=>pw ω (y*i*m*st)*T y)∧Hid (OneI w #[v, .slice (some ⟨bT,oT,none⟩) n cT, .int .i64 (r:Int), .int .i64 (m:Int)] G B n c r T F' wr)) (fun _ I _=>r-(intOf I).toNat)
     case atStart=>exact ⟨0,0,rfl,by rw [e0],by omega,hS0,hQ⟩
     case round=>
      clear hQ hS0 e0
      obtain ⟨y,s,rfl,rfl,hy,hs,hQ⟩:=hrel
      by_cases hly:y<r
      ·have ty:decide ((y:Int)<(r:Int))=true:=decide_eq_true (by omega)
       have c1:=(zN9 hQ.out.t y hly).1
       rw [zKY hly] at c1
       obtain ⟨x,hx⟩: ∃x,x=T y:=⟨_,rfl⟩
       rw [←hx] at c1
       obtain ⟨u1,hu1⟩: ∃u,u=y*i:=⟨_,rfl⟩
       have eu1:(y:Int)*(i:Int)=(u1:Int):=by rw [hu1,Int.natCast_mul]
       obtain ⟨u,hu⟩: ∃u,u=u1*m:=⟨_,rfl⟩
       have eu:(u1:Int)*(m:Int)=(u:Int):=by rw [hu,Int.natCast_mul]
       have hu1b:u1≤49:=by rw [hu1];exact Nat.mul_le_mul (by omega:y≤7) (by omega:i≤7)
       have hub:u≤1048576:=by rw [hu];exact Nat.le_trans (Nat.mul_le_mul hu1b (by omega:m≤1024)) (by omega)
       obtain ⟨X1,hX1⟩: ∃X1,X1=pw ω (u*st)*x:=⟨_,rfl⟩
       obtain ⟨S1,hS1⟩: ∃S1,S1=s+X1:=⟨_,rfl⟩
       have HSZ:Hid (∀wz,OneI w #[v, .slice (some ⟨bT,oT,none⟩) n cT, .int .i64 (r:Int), .int .i64 (m:Int)] G B n c r T F' wz→(zAI wz w.heap.size 168 #[v, .slice (some ⟨bT,oT,none⟩) n cT, .int .i64 (r:Int), .int .i64 (m:Int)]∧wz.cell? ⟨w.heap.size,0,none⟩=some v∧wz.cell? ⟨w.heap.size,3,none⟩=some (.int .i64 (m:Int)))):=zy (fun wz hz=>⟨hz.box,hz.box.cell rfl,hz.box.cell rfl⟩)
       have KP:Hid (∀W W',OneI w #[v, .slice (some ⟨bT,oT,none⟩) n cT, .int .i64 (r:Int), .int .i64 (m:Int)] G B n c r T F' W→Below W.heap.size W W'→OneI w #[v, .slice (some ⟨bT,oT,none⟩) n cT, .int .i64 (r:Int), .int .i64 (m:Int)] G B n c r T F' W'):=zy (fun W W' h hB=>h.keep hB)
       have HLf:=zy (HLF.out u hub)
       have HTm:=zy (HTM.out (u*st) x)
       have HAd:=zy (HAD.out s X1)
       rw [←hX1] at HTm
       rw [←hS1] at HAd
       obtain ⟨lq,hlq⟩: ∃lq,lq=lft p (W^(u*st%n)):=⟨_,rfl⟩
       rw [←hlq] at HLf HTm
       have z0:Hid (OneI w #[v, .slice (some ⟨bT,oT,none⟩) n cT, .int .i64 (r:Int), .int .i64 (m:Int)] G B n c r T F' (wr.drewN 1)):=zy (KP.out _ _ hQ.out (below_drewN (Below.refl _ _) 1))
       have hS2:Hid (S1=sm (y+1) fun y=>pw ω (y*i*m*st)*T y):=zy (by rw [hS1,hX1,hx,hu,hu1,hs.out];rfl)
       have w1:IntKind.i64.wrap (u1:Int)=(u1:Int):=IntWalk.i64_in _ (by omega)
       have w2:IntKind.i64.wrap (u:Int)=(u:Int):=IntWalk.i64_in _ (by omega)
       clear hu hu1 hx hX1 hS1 hlq hs hQ
       go_upto_region 14 with fail
       refine wp_region_held_drew (S:=fun wz=>zAI wz w.heap.size 168 #[v, .slice (some ⟨bT,oT,none⟩) n cT, .int .i64 (r:Int), .int .i64 (m:Int)]∧wz.cell? ⟨w.heap.size,0,none⟩=some v∧wz.cell? ⟨w.heap.size,3,none⟩=some (.int .i64 (m:Int))) (by kernel_rfl) (HSZ.out _ z0.out) (fun hHeld=>?_)
       clear hHeld
       refine zj (i:=0) (v:=?_) rfl (by kernel_rfl) (fun _ _ _=>id) (by rfl) ?_ (HSZ.out _ z0.out) ?_
       rotate_left
       ·intro w h;go_simp;try with_reducible rfl
       try simp only [zv,zx]
       refine zj (i:=1) (v:=?_) rfl (by kernel_rfl) (fun _ _ _=>id) (by rfl) ?_ (HSZ.out _ z0.out) ?_
       rotate_left
       ·intro w h;go_simp;try with_reducible rfl
       try simp only [zv,zx]
       refine zj (i:=2) (v:=?_) rfl (by kernel_rfl) (fun _ _ _=>id) (by rfl) ?_ (HSZ.out _ z0.out) ?_
       rotate_left
       ·intro w h;go_simp;try with_reducible rfl
       try simp only [zv,zx]
       refine zj (i:=3) (v:=?_) rfl (by kernel_rfl) (fun _ _ _=>id) (by rfl) ?_ (HSZ.out _ z0.out) ?_
       rotate_left
       ·intro w h;go_simp;try with_reducible rfl
       try simp only [zv,zx]
       refine zj (i:=4) (v:=?_) rfl (by kernel_rfl) (fun _ _ _=>id) (by rfl) ?_ (HSZ.out _ z0.out) ?_
       rotate_left
       ·intro w h;go_simp;try with_reducible rfl
       try simp only [zv,zx]
       refine zQ (i:=5) rfl (by kernel_rfl) (fun _ _ _=>id) (zXh (by rfl) _ _ rfl _ rfl _ _ _ (fun wz h=>h.1) Tryz.underlying168 rfl (by exact zTB)) (HSZ.out _ z0.out) ?_
       try simp only [zv,zx]
       refine zj (i:=6) (v:=?_) rfl (by kernel_rfl) (fun _ _ _=>id) (by rfl) ?_ (HSZ.out _ z0.out) ?_
       rotate_left
       ·intro w h;go_simp;try with_reducible rfl
       try simp only [zv,zx]
       refine zj (i:=7) (v:=?_) rfl (by kernel_rfl) (fun _ _ _=>id) (by rfl) ?_ (HSZ.out _ z0.out) ?_
       rotate_left
       ·intro w h;go_simp;try with_reducible rfl
       try simp only [zv,zx]
       refine zj (i:=8) (v:=?_) rfl (by kernel_rfl) (fun _ _ _=>id) (by rfl) ?_ (HSZ.out _ z0.out) ?_
       rotate_left
       ·intro w h;go_simp;try with_reducible rfl
       try simp only [zv,zx]
       refine zj (i:=9) (v:=?_) rfl (by kernel_rfl) (fun _ _ _=>id) (by rfl) ?_ (HSZ.out _ z0.out) ?_
       rotate_left
       ·intro w h;go_simp;try with_reducible rfl
       try simp only [zv,zx]
       refine zj (i:=10) (v:=?_) rfl (by kernel_rfl) (fun _ _ _=>id) (by rfl) ?_ (HSZ.out _ z0.out) ?_
       rotate_left
       ·intro w h;go_simp;try with_reducible rfl
       try simp only [zv,zx]
       refine zj (i:=11) (v:=?_) rfl (by kernel_rfl) (fun _ _ _=>id) (by rfl) ?_ (HSZ.out _ z0.out) ?_
       rotate_left
       ·intro w h;go_simp;try with_reducible rfl
       try simp only [zv,zx]
       refine zj (i:=13) (v:=?_) rfl (by kernel_rfl) (fun _ _ _=>id) (by rfl) ?_ (HSZ.out _ z0.out) ?_
       rotate_left
       ·intro w h;go_simp;try with_reducible rfl
       try simp only [zv,zx]
       refine wpAnyH_ready (rs:= [12]) (by kernel_rfl) (by simp) ?_
       refine AllReadyH.cons rfl (fun K hK=>?_) AllReadyH.nil
       try simp only [zx]
       rw [if_pos (by rfl)]
       go_wp2_with (go_at_call 206;refine (HLf.out _ z0.out.but).mono ?_;rintro e w8 ⟨rfl,hY⟩)
       have z8:=zy (KP.out _ _ z0.out hY)
       clear hY
       refine hK.out _ _ ((HSZ.out _ z8.out)) (fun _=>?_)
       clear hK K
       try simp only [zv,zx]
       refine wpAnyH_ready (rs:= [14]) (by kernel_rfl) (by simp) ?_
       refine AllReadyH.cons rfl (fun K hK=>?_) AllReadyH.nil
       try simp only [zx]
       rw [if_pos (by rfl)]
       go_wp2_with (go_at_call 81;refine (HTm.out _ z8.out.but).mono ?_;rintro e w9 ⟨rfl,n9,rfl⟩)
       have z9:=zy (KP.out _ _ z8.out (below_drewN (Below.refl _ _) n9))
       refine hK.out _ _ ((HSZ.out _ z9.out)) (fun _=>?_)
       clear hK K
       try simp only [zv,zx]
       refine wpAnyH_ready (rs:= [15]) (by kernel_rfl) (by simp) ?_
       refine AllReadyH.cons rfl (fun K hK=>?_) AllReadyH.nil
       try simp only [zx]
       rw [if_pos (by rfl)]
       go_wp2_with (go_at_call 80;refine (HAd.out _ z9.out.but).mono ?_;rintro e w10 ⟨rfl,n10,rfl⟩)
       have z10:=zy (KP.out _ _ z8.out (below_drewN (Below.refl _ _) (n9+n10)))
       refine hK.out _ _ ((HSZ.out _ z10.out)) (fun _=>?_)
       clear hK K
       try simp only [zv,zx]
       refine zj (i:=16) (v:=?_) rfl (by kernel_rfl) (fun _ _ _=>id) (by rfl) ?_ (HSZ.out _ z10.out) ?_
       rotate_left
       ·intro w h;go_simp;try with_reducible rfl
       try simp only [zv,zx]
       refine wpAnyH_done (by kernel_rfl) ?_ _
       go_wp2
       go_roundw
       case rel=>exact ⟨y+1,S1,by go_num,rfl,by omega,hS2,z10⟩
       case measure=>simp [intOf];omega
      ·obtain rfl:r=y:=by omega
       have ty:decide ((r:Int)<(r:Int))=false:=by simp
       have hix:=HIx.out i hli
       have d3:=hQ.out.box.cell (i:=3) (v:= .int .i64 (m:Int)) rfl
       obtain ⟨y,hy⟩: ∃y,y=i*m:=⟨_,rfl⟩
       have ey:(i:Int)*(m:Int)=(y:Int):=by rw [hy,Int.natCast_mul]
       rw [←hy] at hix
       obtain ⟨j,hj⟩: ∃j,j=y+k:=⟨_,rfl⟩
       have ej:(y:Int)+(k:Int)=(j:Int):=by omega
       have hoj:s0+j<n:=by omega
       obtain ⟨c2,f2,_⟩:=zN9 hQ.out.own (s0+j) hoj
       have hQ2:Hid (OneI w #[v, .slice (some ⟨bT,oT,none⟩) n cT, .int .i64 (r:Int), .int .i64 (m:Int)] G B n c r T (upd F' (s0+j) s) (wr.setCell ⟨G,s0+j,none⟩ (.int .u64 (s.val:Int)))):=zy (hQ.out.setF HG.out (s0+j) hoj s)
       have hn2:Hid (∀i',i'<i+1→upd F' (s0+j) s (s0+i'*m+k)=sm r fun y=>pw ω (y*i'*m*st)*T y):=zy (fun i' hi2=>by
        by_cases e:i'=i
        ·subst e;rw [Nat.add_assoc,←hy,←hj,upd_same];exact hs.out
        ·rw [zWh (fun h=>e (by
          have h1:i'*m=i*m:=by omega
          exact Nat.eq_of_mul_eq_mul_right (by omega) h1))]
         exact hnew.out i' (by omega))
       have ho2:Hid (∀j',(∀i',i'<i+1→j'≠s0+i'*m+k)→upd F' (s0+j) s j'=F j'):=zy (fun j' hj'=>by
        rw [zWh (by have:=hj' i (by omega);omega)]
        exact hold.out j' (fun i' hi2=>hj' i' (by omega)))
       have i1:(0:Int)≤(j:Int):=by omega
       have i2:(j:Int)<(z:Int):=by omega
       have w2:IntKind.i64.wrap (y:Int)=(y:Int):=IntWalk.i64_in _ (by omega)
       have w3:IntKind.i64.wrap (j:Int)=(j:Int):=IntWalk.i64_in _ (by omega)
       clear hy hj hs hnew hold hQ
       go_wp2
       go_roundw
       case rel=>exact ⟨i+1,upd F' (s0+j) s,by go_num,by omega,hn2,ho2,hQ2⟩
       case measure=>simp [intOf];omega
    ·obtain rfl:r=i:=by omega
     have ti:decide ((r:Int)<(r:Int))=false:=by simp
     have hn2:Hid (∀i,i<r→F' (s0+i*m+k)=sm r fun q=>pw ω (q*(i*m+k)*st)*F (s0+q*m+k)):=zy (fun i hi2=>by
      rw [hnew.out i hi2]
      refine sm_congr fun q hq2=>?_
      rw [HT.out q hq2,Nat.mul_add,Nat.add_mul,pw_add,←Nat.mul_assoc q i m];grind)
     have hQo:=zy (And.intro hQ.out.own hQ.out.but)
     clear hnew hQ
     go_wp2
     go_end0
     exact ⟨⟨_,rfl⟩,F',hQo.out.1,hQo.out.2,hn2,hold⟩
end

section
open Alg
theorem zN1 {w:World} {B G n c:Nat} {L:List Int} (h:OwnU w B (.slice (some ⟨G,0,none⟩) n c) n L):n≤c:=by
 have hl:=h.len
 rcases h.2 with ⟨e,_⟩|⟨g',cap',cur',e,_,_,r1,_⟩
 ·cases e
 ·cases e
  first|omega|(have:=r1;simp [zJ3] at this;omega)
structure AllI {p:Nat} [NeZero p] (w:World) (SV:Array Value) (G B n c:Nat) (F:Nat→Fin p) (wr:World):Prop where
 but:But G w wr
 box:zAI wr w.heap.size 168 SV
 own:OwnU wr B (.slice (some ⟨G,0,none⟩) n c) n (lst n F)
theorem AllI.keep {p:Nat} [NeZero p] {w:World} {SV:Array Value} {G B n c:Nat} {F:Nat→Fin p} {wr W':World} (h:AllI w SV G B n c F wr) (hb:Below wr.heap.size wr W'):AllI w SV G B n c F W':=
 ⟨h.but.trans (But.of_below hb),h.box.keep hb,h.own.below hb⟩
theorem zUp {p:Nat} [NeZero p] {ω:Fin p} {st r m b i k:Nat} {F:Nat→Fin p} (hi:i<r) (hk:k<m):stg ω st r m F (b*(r*m)+i*m+k)=sm r fun q=>pw ω (q*(i*m+k)*st)*F (b*(r*m)+q*m+k):=by
 obtain ⟨h1,h2,h3⟩:=zIF (b:=b) hi hk
 unfold stg
 rw [h1,h2,h3]
theorem zLt {p:Nat} [NeZero p] {w:World} {g:Int} (v:Value) (bT oT n cT r m:Nat) (B0 B G c st:Nat) (W:Int) (ω:Fin p) (F:Nat→Fin p) (h:Fd w B0 v p g) (hW:zt p W=ω) (hω:pw ω n=1) (hst:n=st*(r*m)) (hn:n≤1024) (hn0:0<n) (hr:2≤r∧r≤7) (hm:0<m)
  (hB0:B0≤G) (hbT:bT<B0) (hG:G<w.heap.size) (hc: ∀i,i<n→w.cell? ⟨bT,oT+i,none⟩=some (.int .u64 (lft p (W^i)))) (hO:OwnU w B (.slice (some ⟨G,0,none⟩) n c) n (lst n F)):
  Calls Tryz.prog 124 #[.agg #[v, .slice (some ⟨bT,oT,none⟩) n cT, .int .i64 (r:Int), .int .i64 (m:Int)], .slice (some ⟨G,0,none⟩) n c] w fun e w'=>(∃u,e= .returned u)∧ ∃F',OwnU w' B (.slice (some ⟨G,0,none⟩) n c) n (lst n F')∧But G w w'∧Hid (∀j,j<n→F' j=stg ω st r m F j):=by
 have hcap:=zN1 hO
 have hG':=zy hG
 have R1:=zy (lay1 w 168 #[v, .slice (some ⟨bT,oT,none⟩) n cT, .int .i64 (r:Int), .int .i64 (m:Int)])
 have HOne:Hid (∀(b k:Nat) (F1:Nat→Fin p),b<st→k<m→ ∀wz,AllI w #[v, .slice (some ⟨bT,oT,none⟩) n cT, .int .i64 (r:Int), .int .i64 (m:Int)] G B n c F1 wz→Calls Tryz.prog 176 #[.agg #[v, .slice (some ⟨bT,oT,none⟩) n cT, .int .i64 (r:Int), .int .i64 (m:Int)], .slice (some ⟨G,b*(r*m),none⟩) (r*m) (r*m), .int .i64 (k:Int)] wz fun e w'=>(∃u,e= .returned u)∧ ∃F',AllI w #[v, .slice (some ⟨bT,oT,none⟩) n cT, .int .i64 (r:Int), .int .i64 (m:Int)] G B n c F' w'∧
   Hid (∀i,i<r→F' (b*(r*m)+i*m+k)=sm r fun q=>pw ω (q*(i*m+k)*st)*F1 (b*(r*m)+q*m+k))∧Hid (∀j,(∀i,i<r→j≠b*(r*m)+i*m+k)→F' j=F1 j)):=zy (fun b k F1 hb hk wz hz=>by
  have h1:=zLN v bT oT n cT r m B0 B G c st b k W ω F1 (h.below (hz.but.below (by omega) hB0)) hW hω hst hn hn0 hr hk (by rw [hst];exact Nat.mul_le_mul_right _ hb) hB0 hbT (by have:=hz.but.size;omega) (fun i hi=>hz.but.cell (by omega) (by omega) (hc i hi)) hz.own
  exact h1.mono fun e w' ⟨he,F',o,bt,a1,a2⟩=>⟨he,F',⟨hz.but.trans bt,hz.box.but bt (by omega),o⟩,a1,a2⟩)
 have hrm0:0<r*m:=Nat.mul_pos (by omega) hm
 have HZ0:Hid (AllI w #[v, .slice (some ⟨bT,oT,none⟩) n cT, .int .i64 (r:Int), .int .i64 (m:Int)] G B n c F (w.alloc (.cells #[v, .slice (some ⟨bT,oT,none⟩) n cT, .int .i64 (r:Int), .int .i64 (m:Int)] 168))):=zy ⟨But.of_below R1.out.2,R1.out.1,hO.below R1.out.2⟩
 have d2:=R1.out.1.cell (i:=2) (v:= .int .i64 (r:Int)) rfl
 have d3:=R1.out.1.cell (i:=3) (v:= .int .i64 (m:Int)) rfl
 have HGr:Hid (∀j,∃i,i<r∧j=j/(r*m)*(r*m)+i*m+j%m):=zy (fun j=>zIG hm (by omega) j)
 have HSt:Hid (∀b i k,i<r→k<m→stg ω st r m F (b*(r*m)+i*m+k)=sm r fun q=>pw ω (q*(i*m+k)*st)*F (b*(r*m)+q*m+k)):=zy (fun b i k hi hk=>zUp hi hk)
 have HAt:Hid (∀b i k,i<r→k<m→(b*(r*m)+i*m+k)/(r*m)=b∧(b*(r*m)+i*m+k)%m=k):=zy (fun b i k hi hk=>⟨(zIF hi hk).1,(zIF hi hk).2.1⟩)
 have HLt:Hid (∀b,b<st→(b+1)*(r*m)≤n):=zy (fun b hb=>by rw [hst];exact Nat.mul_le_mul_right _ hb)
 have HEn:Hid (∀j,j<n→j/(r*m)<st):=zy (fun j hj=>by rw [Nat.div_lt_iff_lt_mul hrm0,←hst];exact hj)
 obtain ⟨z,hz⟩: ∃z,z=r*m:=⟨_,rfl⟩
 have ez:(r:Int)*(m:Int)=(z:Int):=by rw [hz,Int.natCast_mul]
 rw [←hz] at HOne hrm0 HGr HSt HAt HLt HEn hst
 have hzn:z≤n:=by
  have:=HLt.out 0
  rcases Nat.eq_zero_or_pos st with e|e
  ·rw [e,Nat.zero_mul] at hst;omega
  ·have:=this e;omega
 have hmz:m≤z:=by rw [hz];exact Nat.le_mul_of_pos_left _ (by omega)
 have Hst:=zy hst
 have w1:IntKind.i64.wrap (z:Int)=(z:Int):=IntWalk.i64_in _ (by omega)
 have H0:Hid (∀j,j<n→j/z<0→F j=stg ω st r m F j):=zy (fun j _ hj=>absurd hj (Nat.not_lt_zero _))
 have Hq0:Hid (0=0*z):=zy (by simp)
 clear h hW hω hst hbT hc hO hz hB0 hG R1
 go_enter Tryz.func124,Tryz.ntmps124
 go_wp2
 go_loopw [5] (fun Q wr=> ∃(b q:Nat) (F':Nat→Fin p),Q= .int .i64 q∧Hid (q=b*z)∧b≤st∧q≤n∧Hid (∀j,j<n→j/z<b→F' j=stg ω st r m F j)∧Hid (∀j,¬j/z<b→F' j=F j)∧Hid (AllI w #[v, .slice (some ⟨bT,oT,none⟩) n cT, .int .i64 (r:Int), .int .i64 (m:Int)] G B n c F' wr)) (fun Q _=>n-(intOf Q).toNat)
 case atStart=>exact ⟨0,0,F,rfl,Hq0,by omega,by omega,H0,zy (fun _ _=>rfl),HZ0⟩
 case round=>
  clear HZ0 H0 Hq0 d2 d3
  obtain ⟨b,q,F',rfl,hqb,hbs,hqn,hnew,hold,hQ⟩:=hrel
  by_cases hlt:q<n
  ·have tq:decide ((q:Int)<(n:Int))=true:=decide_eq_true (by omega)
   have hb:b<st:=by
    rcases Nat.lt_or_ge b st with h1|h1
    ·exact h1
    ·have:b=st:=by omega
     rw [hqb.out,this,←Hst.out] at hlt
     omega
   have hqz:=HLt.out b hb
   rw [Nat.add_mul,Nat.one_mul,←hqb.out] at hqz
   have d3:=hQ.out.box.cell (i:=3) (v:= .int .i64 (m:Int)) rfl
   have hn0:Hid (∀j,j<n→(j/z<b∨(j/z=b∧j%m<0))→F' j=stg ω st r m F j):=zy (fun j hj hh=>hnew.out j hj (hh.resolve_right (fun h1=>Nat.not_lt_zero _ h1.2)))
   have ho0:Hid (∀j,¬(j/z<b∨(j/z=b∧j%m<0))→F' j=F j):=zy (fun j hh=>hold.out j (fun h1=>hh (.inl h1)))
   clear hnew hold
   go_wp2
   go_loopw [21] (fun I wr=> ∃(k:Nat) (F':Nat→Fin p),I= .int .i64 k∧k≤m∧Hid (∀j,j<n→(j/z<b∨(j/z=b∧j%m<k))→F' j=stg ω st r m F j)∧Hid (∀j,¬(j/z<b∨(j/z=b∧j%m<k))→F' j=F j)∧Hid (AllI w #[v, .slice (some ⟨bT,oT,none⟩) n cT, .int .i64 (r:Int), .int .i64 (m:Int)] G B n c F' wr)) (fun I _=>m-(intOf I).toNat)
   case atStart=>exact ⟨0,F',rfl,by omega,hn0,ho0,hQ⟩
   case round=>
    clear hQ hn0 ho0 d3 F'
    obtain ⟨k,F',rfl,hk,hnew,hold,hQ⟩:=hrel
    by_cases hkm:k<m
    ·have tk:decide ((k:Int)<(m:Int))=true:=decide_eq_true (by omega)
     have HOn:=zy (HOne.out b k F' hb hkm)
     rw [←hqb.out] at HOn
     have z0:Hid (AllI w #[v, .slice (some ⟨bT,oT,none⟩) n cT, .int .i64 (r:Int), .int .i64 (m:Int)] G B n c F' (wr.drewN 1)):=zy (hQ.out.keep (below_drewN (Below.refl _ _) 1))
     obtain ⟨e,he⟩: ∃e,e=q+z:=⟨_,rfl⟩
     have ee:(q:Int)+(z:Int)=(e:Int):=by omega
     have w2:IntKind.i64.wrap (e:Int)=(e:Int):=IntWalk.i64_in _ (by omega)
     have j1:(0:Int)≤(q:Int):=by omega
     have j2:(q:Int)≤(e:Int):=by omega
     have j3:(e:Int)≤(c:Int):=by omega
     have j4:(0:Int)≤(e:Int):=by omega
     have j5:e-q=z:=by omega
     clear hQ he
     go_upto_region 8 with fail
     refine wp_region_held_drew (S:=fun wz=>zAI wz w.heap.size 168 #[v, .slice (some ⟨bT,oT,none⟩) n cT, .int .i64 (r:Int), .int .i64 (m:Int)]) (by kernel_rfl) z0.out.box (fun hHeld=>?_)
     clear hHeld
     refine zQ (i:=0) rfl (by kernel_rfl) (fun _ _ _=>id) (zXh (by rfl) _ _ rfl _ rfl _ _ _ (fun wz h=>h) Tryz.underlying168 rfl (by exact zTB)) z0.out.box ?_
     try simp only [zv,zx]
     refine zj (i:=1) (v:=?_) rfl (by kernel_rfl) (fun _ _ _=>id) (by rfl) ?_ z0.out.box ?_
     rotate_left
     ·intro w h;go_simp;try with_reducible rfl
     try simp only [zv,zx]
     refine zj (i:=2) (v:=?_) rfl (by kernel_rfl) (fun _ _ _=>id) (by rfl) ?_ z0.out.box ?_
     rotate_left
     ·intro w h;go_simp;try with_reducible rfl
     try simp only [zv,zx]
     refine zj (i:=3) (v:=?_) rfl (by kernel_rfl) (fun _ _ _=>id) (by rfl) ?_ z0.out.box ?_
     rotate_left
     ·intro w h;go_simp;try with_reducible rfl
     try simp only [zv,zx]
     refine zj (i:=4) (v:=?_) rfl (by kernel_rfl) (fun _ _ _=>id) (by rfl) ?_ z0.out.box ?_
     rotate_left
     ·intro w h;go_simp;try with_reducible rfl
     try simp only [zv,zx]
     refine zj (i:=5) (v:=?_) rfl (by kernel_rfl) (fun _ _ _=>id) (by rfl) ?_ z0.out.box ?_
     rotate_left
     ·intro w h;go_simp;try with_reducible rfl
     try simp only [zv,zx]
     refine zj (i:=6) (v:=?_) rfl (by kernel_rfl) (fun _ _ _=>id) (by rfl) ?_ z0.out.box ?_
     rotate_left
     ·intro w h;go_simp;try with_reducible rfl
     try simp only [zv,zx]
     refine zj (i:=7) (v:=?_) rfl (by kernel_rfl) (fun _ _ _=>id) (by rfl) ?_ z0.out.box ?_
     rotate_left
     ·intro w h;go_simp;try with_reducible rfl
     try simp only [zv,zx]
     refine zj (i:=8) (v:=?_) rfl (by kernel_rfl) (fun _ _ _=>id) (by rfl) ?_ z0.out.box ?_
     rotate_left
     ·intro w h;go_simp;try with_reducible rfl
     try simp only [zv,zx]
     refine zj (i:=9) (v:=?_) rfl (by kernel_rfl) (fun _ _ _=>id) (by rfl) ?_ z0.out.box ?_
     rotate_left
     ·intro w h;go_simp;try with_reducible rfl
     try simp only [zv,zx]
     refine zj (i:=10) (v:=?_) rfl (by kernel_rfl) (fun _ _ _=>id) (by rfl) ?_ z0.out.box ?_
     rotate_left
     ·intro w h;go_simp;try with_reducible rfl
     try simp only [zv,zx]
     refine wpAnyH_ready (rs:= [11]) (by kernel_rfl) (by simp) ?_
     refine AllReadyH.cons rfl (fun K hK=>?_) AllReadyH.nil
     try simp only [zx]
     rw [if_pos (by rfl)]
     go_wp2_with (go_at_call 176;refine (HOn.out _ z0.out).mono ?_;rintro e w9 ⟨⟨u,rfl⟩,F2,hZ,hnw,hod⟩)
     have z9:=zy hZ
     clear hZ
     refine hK.out _ _ (z9.out.box) (fun _=>?_)
     clear hK K
     try simp only [zv,zx]
     refine wpAnyH_done (by kernel_rfl) ?_ _
     rw [hqb.out] at hnw hod
     have hn2:Hid (∀j,j<n→(j/z<b∨(j/z=b∧j%m<k+1))→F2 j=stg ω st r m F j):=zy (fun j hj hh=>by
      by_cases hjk:j/z=b∧j%m=k
      ·obtain ⟨i,hi,hji⟩:=HGr.out j
       rw [hjk.1,hjk.2] at hji
       rw [hji,HSt.out b i k hi hkm,←hqb.out]
       have h1:=hnw.out i hi
       rw [←hqb.out] at h1
       rw [h1]
       refine sm_congr fun y hy=>?_
       obtain ⟨g1,g2⟩:=HAt.out b y k hy hkm
       rw [←hqb.out] at g1 g2
       rw [hold.out _ (by rw [g1,g2];omega)]
      ·have hne: ∀i,i<r→j≠b*z+i*m+k:=fun i hi e=>hjk (by rw [e];exact HAt.out b i k hi hkm)
       rw [hod.out j hne]
       exact hnew.out j hj (by omega))
     have ho2:Hid (∀j,¬(j/z<b∨(j/z=b∧j%m<k+1))→F2 j=F j):=zy (fun j hh=>by
      have hne: ∀i,i<r→j≠b*z+i*m+k:=fun i hi e=>hh (.inr (by
       obtain ⟨g1,g2⟩:=HAt.out b i k hi hkm
       rw [e,g1,g2]
       exact ⟨rfl,by omega⟩))
      rw [hod.out j hne]
      exact hold.out j (by omega))
     clear hnew hold hnw hod
     go_wp2
     go_roundw
     case rel=>exact ⟨k+1,F2,by go_num,by omega,hn2,ho2,z9⟩
     case measure=>simp [intOf];omega
    ·obtain rfl:m=k:=by omega
     have tk:decide ((m:Int)<(m:Int))=false:=by simp
     have hjm: ∀j:Nat,j%m<m:=fun j=>Nat.mod_lt _ (by omega)
     have hn2:Hid (∀j,j<n→j/z<b+1→F' j=stg ω st r m F j):=zy (fun j hj hh=>hnew.out j hj (by have:=hjm j;omega))
     have ho2:Hid (∀j,¬j/z<b+1→F' j=F j):=zy (fun j hh=>hold.out j (by omega))
     have hq2:Hid (q+z=(b+1)*z):=zy (by rw [Nat.add_mul,Nat.one_mul,hqb.out])
     have w2:IntKind.i64.wrap ((q:Int)+(z:Int))=(q:Int)+(z:Int):=IntWalk.i64_in _ (by omega)
     clear hnew hold hjm
     go_wp2
     go_roundw
     case rel=>exact ⟨b+1,q+z,F',by go_num,hq2,by omega,by omega,hn2,ho2,hQ⟩
     case measure=>simp [intOf];omega
  ·have tq:decide ((q:Int)<(n:Int))=false:=decide_eq_false (by omega)
   have hbst:b=st:=by
    rcases Nat.lt_or_ge b st with h1|h1
    ·have h2:=HLt.out b h1
     rw [Nat.add_mul,Nat.one_mul,←hqb.out] at h2
     omega
    ·omega
   have hn2:Hid (∀j,j<n→F' j=stg ω st r m F j):=zy (fun j hj=>hnew.out j hj (by rw [hbst];exact HEn.out j hj))
   have hQo:=zy (And.intro hQ.out.own hQ.out.but)
   clear hnew hold hQ hbst
   go_wp2
   go_end0
   exact ⟨⟨_,rfl⟩,F',hQo.out.1,hQo.out.2,hn2⟩
end

section
open Alg
def zGN (p:Int) (L:List Int):Int:=if chk p L.length 1024≠0 then chk p L.length 1024 else if zQD L.length=false then 11 else if zI1 p L=false then 9 else 0
theorem zGO {p:Int} {L:List Int} (h:zGN p L=0):chk p L.length 1024=0∧zQD L.length=true∧zI1 p L=true:=by
 unfold zGN at h
 split at h
 ·rename_i h1;exact absurd h h1
 ·rename_i h1
  split at h
  ·omega
  ·rename_i h2
   split at h
   ·omega
   ·rename_i h3
    exact ⟨by simpa using h1,by simpa using h2,by simpa using h3⟩
theorem drop_cons {R:List Nat} {t:Nat} (h:t<R.length):R.drop t=R.getD t 0 :: R.drop (t+1):=by
 rw [List.drop_eq_getElem_cons h,List.getD_eq_getElem?_getD,List.getElem?_eq_getElem h];rfl
theorem zL8 {p:Nat} {w:World} {v:Value} {g:Int} (h:Fd w w.heap.size v p g) (A:Option Addr) (c:Nat) (L:List Int) (inv:Bool) (hl:L.length≤140737488351232) (hU:U64s L) (hR:RdI w w.heap.size .u64 A L) (hf:zGN p L≠0):
  Calls Tryz.prog 65 #[v, .slice A L.length c, .bool inv] w fun e w'=>e= .returned (.tuple #[.slice none 0 0, .int .i64 (zGN p L)])∧Below w.heap.size w w':=by
 have hC:=zy (fun m=>zDT h L.length m (by omega) (by omega))
 have hG:=zy (fun wz (hz:Below w.heap.size w wz)=>zI6 ((h.below hz).mono hz.size) A c wz.heap.size L hl hU ((hR.below hz).mono hz.size))
 have hRd:=zy (zLV (L.length:Int) (by omega) (by omega) w)
 have HV:Hid (zGN p L=if chk p L.length 1024≠0 then chk p L.length 1024 else if zQD L.length=false then 11 else if zI1 p L=false then 9 else 0):=zy rfl
 have HFn:=zy hf
 clear h hU hR hf
 by_cases c1:chk p L.length 1024=0
 ·have hC2:=zy (hC.out 1024)
  rw [c1] at hC2
  by_cases c2:zQD L.length=false
  ·have HV2:Hid (zGN p L=11):=zy (by rw [HV.out,if_neg (by simp [c1]),if_pos c2])
   have HC2:=zy c2
   clear c1 c2 hC
   go_enter Tryz.func65,Tryz.ntmps65
   go_wp2_with fail
   refine hC2.out.mono ?_
   rintro e w1 ⟨rfl,rfl⟩
   go_wp2_with fail
   refine hRd.out.mono ?_
   rintro e w2 ⟨⟨R,V,hok,_⟩|⟨_,rfl⟩,hB⟩
   ·rw [HC2.out] at hok;cases hok
   go_wp2
   go_ret2
   exact ⟨by rw [HV2.out];first|rfl|simp,hB⟩
  ·by_cases c3:zI1 p L=false
   ·have HV2:Hid (zGN p L=9):=zy (by rw [HV.out,if_neg (by simp [c1]),if_neg c2,if_pos c3])
    have HC2:=zy c2
    rw [c3] at hG
    clear c1 c2 c3 hC
    go_enter Tryz.func65,Tryz.ntmps65
    go_wp2_with fail
    refine hC2.out.mono ?_
    rintro e w1 ⟨rfl,rfl⟩
    go_wp2_with fail
    refine hRd.out.mono ?_
    rintro e w2 ⟨⟨R,V,_,_,_,rfl,_⟩|⟨hno,_⟩,hB⟩
    ·go_wp2_with fail
     refine (hG.out w2 hB).mono ?_
     rintro e w3 ⟨rfl,rfl⟩
     go_wp2
     go_ret2
     exact ⟨by rw [HV2.out];first|rfl|simp,hB⟩
    ·exact absurd hno HC2.out
   ·exact absurd (by rw [HV.out,if_neg (by simp [c1]),if_neg c2,if_neg c3]) HFn.out
 ·have HV2:Hid (zGN p L=chk p L.length 1024):=zy (by rw [HV.out,if_pos c1])
  have hC2:=zy (hC.out 1024)
  obtain ⟨z,hz⟩: ∃z,z=chk p L.length 1024:=⟨_,rfl⟩
  rw [←hz] at hC2 HV2 c1
  have t:(z != 0)=true:=by simp [c1]
  clear hz c1 hC
  go_enter Tryz.func65,Tryz.ntmps65
  go_wp2_with fail
  refine hC2.out.mono ?_
  rintro e w1 ⟨rfl,rfl⟩
  go_wp2
  go_ret2
  exact ⟨by rw [HV2.out];first|rfl|simp,Below.refl _ _⟩
theorem zL9 {p:Nat} [NeZero p] {w:World} {v:Value} {g:Int} (hp:Prime p) (hg:Ord (zt p g) (p-1)) (g0:0≤g) (g1:g<p) (h:Fd w w.heap.size v p g) (A:Option Addr) (c:Nat) (L:List Int) (inv:Bool) (hU:U64s L) (hR:RdI w w.heap.size .u64 A L) (hf:zGN p L=0):
  Calls Tryz.prog 65 #[v, .slice A L.length c, .bool inv] w fun e w'=> ∃V,e= .returned (.tuple #[V, .int .i64 0])∧OwnU w' w.heap.size V L.length (lst L.length (tr (zt p g) L.length inv (rz p L)))∧Below w.heap.size w w':=by
 obtain ⟨fb,rfl⟩: ∃fb,v= .pointer (some ⟨fb,0,none⟩):=by
  obtain ⟨b,c,t,o,s,sv,hv,_⟩:=h
  exact ⟨b,hv⟩
 obtain ⟨hc1,hrad,hgd⟩:=zGO hf
 have hc:=zEp hc1
 obtain ⟨n1,n2,_⟩:=zEq hc1
 obtain ⟨hdv,hn0⟩:=zEl (by have:=hp.1;omega) hc
 have HPM:=zy (And.intro h.p3 h.pmx)
 have hC:=zy (zDT h L.length 1024 (by omega) (by omega))
 rw [hc1] at hC
 have hG:=zy (fun wz (hz:Below w.heap.size w wz)=>zI6 ((h.below hz).mono hz.size) A c wz.heap.size L (by omega) hU ((hR.below hz).mono hz.size))
 rw [hgd] at hG
 have hRd:=zy (zLV (L.length:Int) (by omega) (by omega) w)
 have hT:=zy (fun wz (hz:Below w.heap.size w wz)=>zKA ((h.below hz).mono hz.size) L.length inv hc g0 g1)
 have HRad:=zy hrad
 have HPr:Hid (∀R,rad L.length=some R→prN R=L.length∧Two R):=zy (fun R hR=>zQS L.length R (by omega) hR)
 have HFd:=zy h
 have hO:=zSz hg hdv hn0 inv
 have hRt0:Hid (∀W,zAH p g L.length inv W→zt p W=rt (zt p g) L.length inv):=zy (fun W hW=>zAH.zt hp hg hdv hn0 hW)
 have HOr:Hid (∀(wz:World) (B:Option Addr) (d:Nat) (R:List Nat),Below w.heap.size w wz→Two R→prN R=L.length→R.length≤12→RdI wz wz.heap.size .i64 B (zDm R)→Calls Tryz.prog 123 #[.slice A L.length c, .slice B R.length d] wz fun e w'=> ∃V F,e= .returned (.tuple #[V, .int .i64 0])∧Hid (∀x,x<L.length→F (zV4 R x)=rz p L x)∧OwnU w' wz.heap.size V L.length (lst L.length F)∧Below wz.heap.size wz w'):=zy (fun wz B d R hz h2 hpr hl hB=>
  zFQ h.pmx A B c d wz.heap.size wz.heap.size L R wz h2 hpr (by omega) hn0 hl hU hgd ((hR.below hz).mono hz.size) (Nat.le_refl _) hB (Nat.le_refl _))
 have HSc:Hid (∀(wz:World) V B F,Below w.heap.size w wz→B≤wz.heap.size→OwnU wz B V L.length (lst L.length F)→Calls Tryz.prog 122 #[.pointer (some ⟨fb,0,none⟩),V] wz fun r w'=> ∃V',r= .returned V'∧OwnU w' B V' L.length (lst L.length fun i=>sc p L.length true*F i)∧Below wz.heap.size wz w'):=zy (fun wz V B F hz hB hV=>zTb hp ((h.below hz).mono hz.size) V B L.length F hdv hn0 (by omega) hV hB)
 obtain ⟨ω,hω⟩: ∃ω,ω=rt (zt p g) L.length inv:=⟨_,rfl⟩
 obtain ⟨x,hx⟩: ∃x,x=rz p L:=⟨_,rfl⟩
 have HTr:Hid (∀i,i<L.length→tr (zt p g) L.length inv x i=sc p L.length inv*dft ω L.length x i):=zy (fun i _=>by rw [hω];rfl)
 have hn10:L.length≤1024:=by omega
 rw [←hω] at hO hRt0
 rw [←hx] at HOr ⊢
 have HOn:Hid (pw ω L.length=1):=zy hO.2.1
 obtain ⟨n,hn⟩: ∃n,n=L.length:=⟨_,rfl⟩
 rw [←hn] at hC hG hRd hT HRad HPr hRt0 HOr HSc HTr HOn hn0 hn10 ⊢
 have HN:=zy hn
 clear h hR hU hf hc hc1 hrad hgd hdv hO hω hx hn n1 n2 hg hp g0 g1
 go_enter Tryz.func65,Tryz.ntmps65
 go_wp2_with fail
 refine hC.out.mono ?_
 rintro e w1 ⟨rfl,rfl⟩
 go_wp2_with fail
 refine hRd.out.mono ?_
 rintro e w2 ⟨⟨R,V,_,hrd,hl10,rfl,hown⟩|⟨hno,_⟩,hB2⟩
 case inr=>exact absurd hno (by rw [HRad.out];simp)
 rw [Int.toNat_natCast] at hrd
 obtain ⟨hpr,h2⟩:=HPr.out R hrd
 obtain ⟨AR,cR,rfl,hRR⟩:=RdI.of_own (xs:=zDm R) (by rw [zDo];exact hown)
 rw [zDo]
 have HRR:=zy hRR
 have H2:=zy h2
 have HPrN:=zy hpr
 have HB2:=zy hB2
 clear hrd hown hRR h2 hpr hB2 HPr HRad hRd hC
 go_wp2_with fail
 refine (hG.out w2 HB2.out).mono ?_
 rintro e w3 ⟨rfl,rfl⟩
 go_wp2_with fail
 refine (hT.out w2 HB2.out).mono ?_
 rintro e w3 ⟨VT,W,rfl,hW,hownT,hB3⟩
 obtain ⟨AT,cT,rfl,hRT⟩:=hownT.rd
 have HWZ:=zy (hRt0.out W hW)
 obtain ⟨bT,oT,rfl,hbT,hcT⟩:=hRT (by rw [zHS];omega)
 have HcT:Hid (∀i,i<n→w3.cell? ⟨bT,oT+i,none⟩=some (.int .u64 (lft p (W^i)))):=zy (fun i hi=>by
  have h1:=hcT i (by rw [zHS];exact hi)
  rw [zHR hi] at h1
  exact h1)
 have HR3:=zy ((HRR.out.below hB3).mono hB3.size)
 have HB3:=zy (HB2.out.trans (hB3.mono HB2.out.size))
 clear hW hownT hRT hcT hT hRt0 hG hB3 HRR
 go_wp2_with fail
 refine (HOr.out w3 AR cR R HB3.out H2.out HPrN.out (by omega) HR3.out).mono ?_
 rintro e w4 ⟨V4,F0,rfl,hF0,hO4,hB4⟩
 obtain ⟨G,cG,rfl,hGe⟩:=zN2 hO4 hn0
 have HQ4:Hid (R2 w3 G n cG (lst n (mixU ω F0 n (R.drop R.length))) w4):=zy (by rw [List.drop_length];exact ⟨hB4,hO4⟩)
 have HMx:Hid (∀i,i<n→mixU ω F0 n (R.drop 0) i=dft ω n x i):=zy (fun i hi=>by
  have h1:=zL5 (w:=ω) H2.out (by rw [HPrN.out];exact HOn.out) (F0:=F0) (a:=x) (by rw [HPrN.out];exact hF0.out) i (by rw [HPrN.out];exact hi)
  rw [HPrN.out] at h1
  exact h1)
 have HAll:Hid (∀(t r m:Nat) (wz:World),t<R.length→r=R.getD t 0→m=prN (R.drop (t+1))→R2 w3 G n cG (lst n (mixU ω F0 n (R.drop (t+1)))) wz→Calls Tryz.prog 124 #[.agg #[.pointer (some ⟨fb,0,none⟩), .slice (some ⟨bT,oT,none⟩) n cT, .int .i64 (r:Int), .int .i64 (m:Int)], .slice (some ⟨G,0,none⟩) n cG] wz fun e w'=>(∃u,e= .returned u)∧R2 w3 G n cG (lst n (mixU ω F0 n (R.drop t))) w'):=zy (fun t r m wz ht hr hm hz=>by
  have hd:=drop_cons ht
  rw [←hr] at hd
  have hrm:prN (R.drop t)=r*m:=by rw [hd,zOQ,hm]
  have hst:n=prN (R.take t)*(r*m):=by rw [←hrm,zOV];exact HPrN.out.symm
  have hr2:=H2.out.at ht
  rw [←hr] at hr2
  have hm0:0<m:=by rw [hm];exact zOT (fun q hq=>H2.out q (List.mem_of_mem_drop hq))
  have hq:n/(r*m)=prN (R.take t):=by rw [hst];exact Nat.mul_div_cancel _ (Nat.mul_pos (by omega) hm0)
  have hGw:G<wz.heap.size:=(World.ownsRow.lt hz.2 G rfl).2
  refine (zLt _ bT oT n cT r m w3.heap.size w3.heap.size G cG (prN (R.take t)) W ω _ (((HFd.out.below HB3.out).mono HB3.out.size).below hz.1) HWZ.out HOn.out hst hn10 hn0 hr2 hm0 hGe hbT hGw (fun i hi=>zDs hz.1 hbT (HcT.out i hi)) hz.2).mono ?_
  rintro e w' ⟨he,F',o,bt,hF'⟩
  refine ⟨he,hz.1.trans (bt.below hz.1.size hGe),?_⟩
  rw [hd]
  have e1:mixU ω F0 n (r :: R.drop (t+1))=stg ω (n/(r*prN (R.drop (t+1)))) r (prN (R.drop (t+1))) (mixU ω F0 n (R.drop (t+1))):=rfl
  rw [e1,←hm,hq,←zKW (fun j hj=>hF'.out j hj)]
  exact o)
 have HM0:Hid (1=prN (R.drop R.length)):=zy (by rw [List.drop_length];rfl)
 have HB4:=zy (HB3.out.trans (hB4.mono HB3.out.size))
 have HRd:Hid (∀wz t,Below w3.heap.size w3 wz→t<R.length→ ∃b o,AR=some ⟨b,o,none⟩∧wz.cell? ⟨b,o+t,none⟩=some (.int .i64 ((R.getD t 0:Nat):Int))):=zy (fun wz t hz ht=>by
  obtain ⟨b,o,e,hb,hcl⟩:=HR3.out (by rw [zDo];omega)
  have h1:=hcl t (by rw [zDo];exact ht)
  rw [zDn] at h1
  exact ⟨b,o,e,zDs hz hb h1⟩)
 have HPl:Hid (∀t,t<R.length→prN (R.drop (t+1))*R.getD t 0=prN (R.drop t)):=zy (fun t ht=>by rw [drop_cons ht,zOQ,Nat.mul_comm])
 have HPle:Hid (∀t,prN (R.drop t)≤1024):=zy (fun t=>by
  have h1:=zOV R t
  have h3:=zOT (R:=R.take t) (fun q hq=>H2.out q (List.mem_of_mem_take hq))
  have h4:prN (R.drop t)≤prN (R.take t)*prN (R.drop t):=Nat.le_mul_of_pos_left _ h3
  rw [h1,HPrN.out] at h4
  omega)
 clear hF0 hO4 hB4 HOr
 go_wp2
 go_loopw [15,16] (fun M I wr=> ∃(t m:Nat),I= .int .i64 ((t:Int)-1)∧M= .int .i64 m∧t≤R.length∧Hid (m=prN (R.drop t))∧Hid (R2 w3 G n cG (lst n (mixU ω F0 n (R.drop t))) wr)) (fun _ I _=>(intOf I+1).toNat)
 case atStart=>exact ⟨R.length,1,rfl,rfl,by omega,HM0,HQ4⟩
 case round=>
  clear HQ4 HM0
  obtain ⟨t,m,rfl,rfl,ht,hm,hQ⟩:=hrel
  by_cases h0:t=0
  ·subst h0
   have hQB:=hQ.out.1
   have hQO:=hQ.out.2
   rw [zKW (fun i hi=>HMx.out i hi)] at hQO
   have HBw:=zy (HB3.out.trans (hQB.mono HB3.out.size))
   have HO:=zy (hQO.mono HB3.out.size)
   clear hQB hQO hQ hm
   cases inv with
   | false=>
    have HO2:Hid (OwnU wr w.heap.size (.slice (some ⟨G,0,none⟩) n cG) n (lst n (tr (zt p g) n false x))):=zy (by
     rw [zKW (fun i hi=>HTr.out i hi),show (fun i=>sc p n false*dft ω n x i)=dft ω n x from funext fun i=>by show (1:Fin p)*_=_;grind]
     exact HO.out)
    go_wp2
    go_ret2
    exact ⟨_,rfl,HO2.out,HBw.out⟩
   | true=>
    have HS:=zy (HSc.out wr _ w.heap.size _ HBw.out HBw.out.size HO.out)
    go_wp2_with fail
    refine HS.out.mono ?_
    rintro e w5 ⟨V5,rfl,hO5,hB5⟩
    have HO2:Hid (OwnU w5 w.heap.size V5 n (lst n (tr (zt p g) n true x))):=zy (by
     rw [zKW (fun i hi=>HTr.out i hi)]
     exact hO5)
    have HB5:=zy (HBw.out.trans (hB5.mono HBw.out.size))
    clear hO5 hB5
    go_wp2
    go_ret2
    exact ⟨_,rfl,HO2.out,HB5.out⟩
  ·obtain ⟨t,rfl⟩: ∃s,t=s+1:=⟨t-1,by omega⟩
   have e1:((t+1:Nat):Int)-1=(t:Int):=by omega
   rw [e1]
   have htl:t<R.length:=by omega
   obtain ⟨b,o,hA,d⟩:=HRd.out wr t hQ.out.1 htl
   have HAl:=zy (HAll.out t (R.getD t 0) m wr htl rfl hm.out hQ.out)
   have hm2:Hid (m*R.getD t 0=prN (R.drop t)):=zy (by rw [hm.out];exact HPl.out t htl)
   have hr2:=H2.out.at htl
   have hmr:=HPle.out t
   rw [←hm2.out] at hmr
   obtain ⟨r,hr⟩: ∃r,r=R.getD t 0:=⟨_,rfl⟩
   rw [←hr] at d HAl hm2 hr2 hmr
   have HR2:Hid (∀wz,Below w3.heap.size w3 wz→wz.cell? ⟨b,o+t,none⟩=some (.int .i64 (r:Int))):=zy (fun wz hz=>by
    obtain ⟨b',o',hA',d'⟩:=HRd.out wz t hz htl
    rw [hA] at hA'
    injection hA' with hA'
    injection hA' with h1 h2
    rw [hr,h1,h2];exact d')
   subst hA
   obtain ⟨y,hy⟩: ∃y,y=m*r:=⟨_,rfl⟩
   have ey:(m:Int)*(r:Int)=(y:Int):=by rw [hy,Int.natCast_mul]
   rw [←hy] at hm2 hmr
   have i1:(0:Int)≤(t:Int):=by omega
   have i2:(t:Int)<(R.length:Int):=by omega
   have w1:IntKind.i64.wrap (y:Int)=(y:Int):=IntWalk.i64_in _ (by omega)
   have w2:IntKind.i64.wrap ((t:Int)-1)=(t:Int)-1:=IntWalk.i64_in _ (by omega)
   clear hr hy e1 hQ hm
   go_wp2_with fail
   refine HAl.out.mono ?_
   rintro e w5 ⟨⟨u,rfl⟩,hQ5⟩
   have d5:=HR2.out w5 hQ5.1
   have HQ5:=zy hQ5
   clear hQ5 d
   go_wp2
   go_roundw
   case rel=>exact ⟨t,y,by first|rfl|go_num,rfl,by omega,hm2,HQ5⟩
   case measure=>simp [intOf]
end

section
open Alg
theorem zEW (a b:Nat) (ha:0<a) (hb:0<b) (hab:a*b≤1024) (w:World):Calls Tryz.prog 177 #[.int .i64 (a:Int), .int .i64 (b:Int)] w fun e w'=>e= .returned (.bool true)∧w=w':=by
 obtain ⟨q,hq⟩: ∃q,q=1024/b:=⟨_,rfl⟩
 have haq:a≤q:=by rw [hq];exact (Nat.le_div_iff_mul_le hb).2 hab
 have hq1:q≤1024:=by rw [hq];exact Nat.div_le_self _ _
 have q2:(1024:Int).tdiv (b:Int)=(q:Int):=by rw [Int.tdiv_eq_ediv_of_nonneg (by omega),hq];rfl
 have wq:IntKind.i64.wrap (q:Int)=(q:Int):=IntWalk.i64_in _ (by omega)
 have hne: ¬b=0:=by omega
 have tz:((b:Int) == 0)=false:=by simp;omega
 have t1:decide ((a:Int)>0)=true:=decide_eq_true (by omega)
 have t1b:decide (0<a)=true:=decide_eq_true ha
 have t2:decide ((b:Int)>0)=true:=decide_eq_true (by omega)
 have t2b:decide (0<b)=true:=decide_eq_true hb
 have t3:decide ((a:Int)≤(q:Int))=true:=decide_eq_true (by omega)
 have t3b:decide (a≤q)=true:=decide_eq_true haq
 clear hq
 go_enter Tryz.func177,Tryz.ntmps177
 go_wp2
 go_ret
 exact ⟨rfl,rfl⟩
theorem zNR {p:Nat} [NeZero p] {w:World} {v:Value} {g:Int} (hp:Prime p) (hg:Ord (zt p g) (p-1)) (g0:0≤g) (g1:g<p) (h:Fd w w.heap.size v p g) (A:Option Addr) (c:Nat) (L:List Int) (inv:Bool) (hU:U64s L) (hR:RdI w w.heap.size .u64 A L) (hc:chk p L.length 1024=0) (hgd:zI1 p L=true):
  Calls Tryz.prog 178 #[v, .slice A L.length c, .bool inv] w fun e w'=> ∃V,e= .returned V∧OwnU w' w.heap.size V L.length (lst L.length (tr (zt p g) L.length inv (rz p L)))∧Below w.heap.size w w':=by
 obtain ⟨n1,n2,_⟩:=zEq hc
 by_cases hr:zQD L.length=true
 ·have hM:=zy (zL9 hp hg g0 g1 h A c L inv hU hR (by unfold zGN;rw [if_neg (by simp [hc]),if_neg (by simp [hr]),if_neg (by simp [hgd])]))
  clear h hR hU hc hgd hr
  go_enter Tryz.func178,Tryz.ntmps178
  go_wp2_with fail
  refine hM.out.mono ?_
  rintro e w1 ⟨V,rfl,hO,hB⟩
  have HO:=zy hO
  clear hO
  go_wp2
  go_ret
  exact ⟨_,rfl,HO.out,hB⟩
 ·have hr':zQD L.length=false:=by simpa using hr
  have hf:zGN p L=11:=by unfold zGN;rw [if_neg (by simp [hc]),if_pos hr']
  have hM:=zy (zL8 h A c L inv (by omega) hU hR (by rw [hf];decide))
  rw [hf] at hM
  have hD:=zy (fun wz (hz:Below w.heap.size w wz)=>zF2 hp hg g0 g1 ((h.below hz).mono hz.size) A c L inv hU ((hR.below hz).mono hz.size) (by unfold zGB;rw [if_neg (by simp [hc]),if_neg (by simp [hgd])]))
  clear h hR hU hc hgd hr hr' hf
  go_enter Tryz.func178,Tryz.ntmps178
  go_wp2_with fail
  refine hM.out.mono ?_
  rintro e w1 ⟨rfl,hB⟩
  go_wp2_with fail
  refine (hD.out w1 hB).mono ?_
  rintro e w2 ⟨V,rfl,hO,hB2⟩
  have HO:=zy (hO.mono hB.size)
  have HB:=zy (hB.trans (hB2.mono hB.size))
  clear hO hB2
  go_wp2
  go_ret
  exact ⟨_,rfl,HO.out,HB.out⟩
def inL (a b k:Nat):List Nat:=(List.range k).map (inP a b)
theorem zJb (a b k:Nat):inL a b (k+1)=inL a b k ++ [inP a b k]:=by unfold inL;rw [List.range_succ,List.map_append];rfl
theorem zJa (a b k:Nat):(inL a b k).length=k:=by simp [inL]
theorem zEz (a b:Nat) (ha:0<a) (hb:0<b) (hab:a*b≤1024) (hc:copB ((a*b:Nat):Int) (a:Int)=true) (w:World):
  Calls Tryz.prog 125 #[.int .i64 (a:Int), .int .i64 (b:Int)] w fun e w'=> ∃V,e= .returned V∧w'.ownsRow w.heap.size 3 1 V (a*b) (ints .i64 (zDm (inL a b (a*b))))∧Below w.heap.size w w':=by
 obtain ⟨ii,hii,hy0,hy1,hy2⟩:=info_parts zJn
 have hbn:b≤a*b:=Nat.le_mul_of_pos_left _ ha
 have han:a≤a*b:=Nat.le_mul_of_pos_right _ hb
 have hS:=zy (fun W=>zEW a b ha hb hab W)
 have hF:=zy (fun W=>zDD ((a*b:Nat):Int) (a:Int) (by omega) (by omega) (by omega) (by omega) W)
 rw [hc] at hF
 have HSu:=zy (fun k=>zJb a b k)
 have HP:Hid (∀i j,i<a→j<b→inP a b (i*b+j)=(b*i+a*j)%(a*b)∧i*b+b≤a*b):=zy (fun i j hi hj=>by
  have h1:(i*b+j)/b=i:=by rw [Nat.mul_comm,Nat.mul_add_div hb,Nat.div_eq_of_lt hj];rfl
  have h2:(i*b+j)%b=j:=by rw [Nat.add_comm,Nat.add_mul_mod_self_right,Nat.mod_eq_of_lt hj]
  refine ⟨by unfold inP;rw [h1,h2],?_⟩
  have:=Nat.mul_le_mul_right b hi
  rw [Nat.succ_mul] at this
  exact this)
 have HLe:=zy (fun k=>zJa a b k)
 have HE:Hid (∀i,i*b+b=(i+1)*b):=zy (fun i=>by rw [Nat.add_mul,Nat.one_mul])
 obtain ⟨n,hn⟩: ∃n,n=a*b:=⟨_,rfl⟩
 have en:(a:Int)*(b:Int)=(n:Int):=by rw [hn,Int.natCast_mul]
 rw [←hn] at hF HP hab hbn han ⊢
 have HN:=zy hn
 have wn:IntKind.i64.wrap (n:Int)=(n:Int):=IntWalk.i64_in _ (by omega)
 clear hc hn
 go_enter Tryz.func125,Tryz.ntmps125
 go_wp2_with fail
 refine (hS.out _).mono ?_
 rintro e w1 ⟨rfl,rfl⟩
 go_wp2_with fail
 refine (hF.out _).mono ?_
 rintro e w1 ⟨rfl,q,rfl⟩
 go_wp2_with (refine wpList_make_own _ rfl _ _ 78 rfl w.heap.size 3 ii (.int .i64 0) 1 Tryz.underlying78 hii hy0 hy1 _ _ _ n rfl rfl rfl ?b2 ?b3 (by simp) ?_)
 case b2=>rw [hy2];omega
 case b3=>unfold maxLen;omega
 intro w3 hown hgrow
 have hB3:Below w.heap.size w w3:=(below_drewN (Below.refl _ _) q).grown hgrow (by simp) (fun k h=>by cases h)
 have HO3:Hid (w3.ownsRow w.heap.size 3 1 (.slice (some ⟨w.heap.size,0,none⟩) 0 n) (0*b) (ints .i64 (zDm (inL a b (0*b))))):=zy (by rw [Nat.zero_mul];exact hown)
 clear hown hgrow
 go_wp2
 go_loopw [6,25] (fun O I wr=> ∃i:Nat,I= .int .i64 i∧i≤a∧Hid (wr.ownsRow w.heap.size 3 1 O (i*b) (ints .i64 (zDm (inL a b (i*b)))))∧Below w.heap.size w wr) (fun _ I _=>a-(intOf I).toNat)
 case atStart=>exact ⟨0,rfl,by omega,HO3,hB3⟩
 case round=>
  clear HO3 hB3
  obtain ⟨i,rfl,hi,hO,hB⟩:=hrel
  by_cases hlt:i<a
  ·have ti:decide ((i:Int)<(a:Int))=true:=decide_eq_true (by omega)
   rw [←Nat.add_zero (i*b)] at hO
   go_wp2
   go_loopw [6,29] (fun O I wr=> ∃j:Nat,I= .int .i64 j∧j≤b∧Hid (wr.ownsRow w.heap.size 3 1 O (i*b+j) (ints .i64 (zDm (inL a b (i*b+j)))))∧Below w.heap.size w wr) (fun _ I _=>b-(intOf I).toNat)
   case atStart=>exact ⟨0,rfl,by omega,hO,hB⟩
   case round=>
    clear hO hB
    obtain ⟨j,rfl,hj,hO,hB⟩:=hrel
    by_cases hjb:j<b
    ·have tj:decide ((j:Int)<(b:Int))=true:=decide_eq_true (by omega)
     obtain ⟨hv,hib⟩:=HP.out i j hlt hjb
     obtain ⟨y1,hy1'⟩: ∃y,y=b*i:=⟨_,rfl⟩
     have ey1:(b:Int)*(i:Int)=(y1:Int):=by rw [hy1',Int.natCast_mul]
     obtain ⟨y2,hy2'⟩: ∃y,y=a*j:=⟨_,rfl⟩
     have ey2:(a:Int)*(j:Int)=(y2:Int):=by rw [hy2',Int.natCast_mul]
     have b1:y1≤1048576:=by rw [hy1'];exact Nat.le_trans (Nat.mul_le_mul (by omega:b≤1024) (by omega:i≤1024)) (by omega)
     have b2:y2≤1048576:=by rw [hy2'];exact Nat.le_trans (Nat.mul_le_mul (by omega:a≤1024) (by omega:j≤1024)) (by omega)
     rw [←hy1',←hy2'] at hv
     obtain ⟨y,hy⟩: ∃y,y=y1+y2:=⟨_,rfl⟩
     have ey:(y1:Int)+(y2:Int)=(y:Int):=by omega
     rw [←hy] at hv
     obtain ⟨z,hz⟩: ∃z,z=y%n:=⟨_,rfl⟩
     have ez:(y:Int).tmod (n:Int)=(z:Int):=by rw [Int.tmod_eq_emod_of_nonneg (by omega),hz];omega
     rw [←hz] at hv
     have hzn:z<n:=by rw [hz];exact Nat.mod_lt _ (by omega)
     have HS:=zy (HSu.out (i*b+j))
     rw [hv] at HS
     have hll:=HLe.out (i*b+j)
     have wa:IntKind.i64.wrap (y1:Int)=(y1:Int):=IntWalk.i64_in _ (by omega)
     have wb:IntKind.i64.wrap (y2:Int)=(y2:Int):=IntWalk.i64_in _ (by omega)
     have wc:IntKind.i64.wrap (y:Int)=(y:Int):=IntWalk.i64_in _ (by omega)
     have wd:IntKind.i64.wrap (z:Int)=(z:Int):=IntWalk.i64_in _ (by omega)
     have tz:((n:Int) == 0)=false:=by simp;omega
     have nz: ¬n=0:=by omega
     obtain ⟨k,hk⟩: ∃k,k=i*b+j:=⟨_,rfl⟩
     have hkn:k≤2048:=by omega
     rw [←hk] at hO HS hll
     have HK:=zy hk
     have hown:=hO.out
     clear hy1' hy2' hy hz hv hk hO hib
     go_wp2_with (at_builtin;refine wpList_append_own _ rfl _ _ 78 rfl w.heap.size 3 ii (.int .i64 0) 1 8 Tryz.underlying78 hii hy0 hy1 hy2 rfl (by decide) _ _ _ rfl (hown.alloc _) ⟨wr.heap.size,0,none⟩ 1 1 [.int .i64 (z:Int)] rfl rfl ?c1 ?c2 ?c3 ?c4 ?c5 ?_)
     case c1=>
      intro l u hl
      match l,hl with
      | 0,hl=>simp at hl;subst hl;simp [Addr.add]
     case c2=>intro u hu;simp at hu;subst hu;rfl
     case c3=>unfold maxLen;omega
     case c4=>omega
     case c5=>have:=hB.size;simp;omega
     intro v' w6 hown' hgrow _
     rw [←zDp,←HS.out] at hown'
     have hB':=(hB.alloc hB.size (.cells #[.int .i64 (z:Int)] 3)).grown hgrow (by have:=hB.size;simp;omega) (fun k hk=>(hown.lt k hk).1)
     have HO':Hid (w6.ownsRow w.heap.size 3 1 v' (i*b+(j+1)) (ints .i64 (zDm (inL a b (i*b+(j+1)))))):=zy (by
      rw [←Nat.add_assoc,←HK.out];exact hown')
     clear hown' hgrow hown hB
     go_wp2
     go_roundw
     case rel=>exact ⟨j+1,by go_num,by omega,HO',hB'⟩
     case measure=>simp [intOf];omega
    ·obtain rfl:b=j:=by omega
     have tj:decide ((b:Int)<(b:Int))=false:=by simp
     have HO':Hid (wr.ownsRow w.heap.size 3 1 _ ((i+1)*b) (ints .i64 (zDm (inL a b ((i+1)*b))))):=zy (by rw [←HE.out i];exact hO.out)
     clear hO
     go_wp2
     go_roundw
     case rel=>exact ⟨i+1,by go_num,by omega,HO',hB⟩
     case measure=>simp [intOf];omega
  ·obtain rfl:a=i:=by omega
   have ti:decide ((a:Int)<(a:Int))=false:=by simp
   have HO':Hid (wr.ownsRow w.heap.size 3 1 _ n (ints .i64 (zDm (inL a b n)))):=zy (by rw [HN.out];exact hO.out)
   clear hO
   go_wp2
   go_ret
   exact ⟨_,rfl,HO'.out,hB⟩
end

section
open Alg
def OwnI (w:World) (B:Nat) (v:Value) (n:Nat) (L:List Int):Prop:=w.ownsRow B 3 1 v n (ints .i64 L)
theorem OwnI.len {w:World} {B:Nat} {v:Value} {n:Nat} {L:List Int} (h:OwnI w B v n L):L.length=n:=by
 have:=h.1
 rw [zJ3] at this
 omega
theorem OwnI.set {w:World} {B G c n:Nat} {L:List Int} (h:OwnI w B (.slice (some ⟨G,0,none⟩) n c) n L) (k:Nat) (hk:k<n) (x:Int):
  OwnI (w.setCell ⟨G,k,none⟩ (.int .i64 x)) B (.slice (some ⟨G,0,none⟩) n c) n (L.set k x)∧w.cell? ⟨G,k,none⟩=some (.int .i64 (L.getD k 0))∧w.frozen? ⟨G,k,none⟩=false∧B≤G:=by
 have hl:=h.len
 refine ⟨?_,?_,World.ownsRow.frozenAt h k,(World.ownsRow.lt h G rfl).1⟩
 ·have:=World.ownsRow.stored h k (.int .i64 x)
  rw [zJ7] at this
  exact this.1
 ·rw [World.ownsRow.cellAt h k (by omega)]
  simp [ints,List.getD_eq_getElem?_getD,hl,hk]
def outF (a b k:Nat):Int:=((k%a*b+k%b:Nat):Int)
def zAk (b i j:Nat) (x y:Int):Prop:= ∃i' j':Nat,x=(i':Int)∧y=(j':Int)∧j'<b∧(i'<i∨(i'=i∧j'<j))
theorem zFP {b i j:Nat} (hj:j<b) (x y:Int):zAk b i (j+1) x y↔zAk b i j x y∨(x=(i:Int)∧y=(j:Int)):=by
 constructor
 ·rintro ⟨i',j',rfl,rfl,h1,h2⟩
  by_cases h:i'=i∧j'=j
  ·exact .inr ⟨by omega,by omega⟩
  ·exact .inl ⟨i',j',rfl,rfl,h1,by omega⟩
 ·rintro (⟨i',j',rfl,rfl,h1,h2⟩|⟨rfl,rfl⟩)
  ·exact ⟨i',j',rfl,rfl,h1,by omega⟩
  ·exact ⟨i,j,rfl,rfl,hj,by omega⟩
theorem zFM {b i j:Nat}: ¬zAk b i j (i:Int) (j:Int):=by
 rintro ⟨i',j',h1,h2,_,h3⟩
 omega
theorem zAA.congr {f:Int→Int→Int} {D D':Int→Int→Prop} {w:World} {bm:Nat} (h:zAA f D w bm) (hD: ∀x y,D x y↔D' x y):zAA f D' w bm:=by
 obtain ⟨ms,clock,hm,hs,hx,hy⟩:=h
 exact ⟨ms,clock,hm,hs,fun x h=>by obtain ⟨i,j,a,b,c⟩:=hx x h;exact ⟨i,j,a,b,(hD i j).1 c⟩,fun i j h=>hy i j ((hD i j).2 h)⟩
theorem zFO {b i:Nat} (x y:Int):zAk b i b x y↔zAk b (i+1) 0 x y:=
 ⟨fun ⟨i',j',a,c,h1,h2⟩=>⟨i',j',a,c,h1,by omega⟩,fun ⟨i',j',a,c,h1,h2⟩=>⟨i',j',a,c,h1,by omega⟩⟩
theorem zFN {b:Nat} (x y:Int):False↔zAk b 0 0 x y:=⟨fun h=>h.elim,fun ⟨i',j',_,_,_,h2⟩=>by omega⟩
theorem zEP (a b:Nat) (ha:0<a) (hb:0<b) (hab:a*b≤1024) (hc:copB ((a*b:Nat):Int) (a:Int)=true) (w:World):
  Calls Tryz.prog 127 #[.int .i64 (a:Int), .int .i64 (b:Int)] w fun e w'=> ∃V,e= .returned V∧OwnI w' w.heap.size V (a*b) (full (a*b) (outF a b))∧Below w.heap.size w w':=by
 obtain ⟨ii,hii,hy0,hy1,hy2⟩:=info_parts zJn
 have hbn:b≤a*b:=Nat.le_mul_of_pos_left _ ha
 have han:a≤a*b:=Nat.le_mul_of_pos_right _ hb
 have hS:=zy (fun W=>zEW a b ha hb hab W)
 have hF:=zy (fun W=>zDD ((a*b:Nat):Int) (a:Int) (by omega) (by omega) (by omega) (by omega) W)
 rw [hc] at hF
 have HP:Hid (∀i,i<a→i*b+b≤a*b):=zy (fun i hi=>by
  have:=Nat.mul_le_mul_right b hi
  rw [Nat.succ_mul] at this
  exact this)
 obtain ⟨n,hn⟩: ∃n,n=a*b:=⟨_,rfl⟩
 have en:(a:Int)*(b:Int)=(n:Int):=by rw [hn,Int.natCast_mul]
 rw [←hn] at hF HP hab hbn han ⊢
 have wn:IntKind.i64.wrap (n:Int)=(n:Int):=IntWalk.i64_in _ (by omega)
 have hmk: ∀W,(Instr.makeMap 213 none).run Tryz.prog W= .ok (.map (some W.heap.size)) (W.alloc (.map #[] 0)):=fun W=>by simp [Instr.makeMap,Result.andThen]
 clear hc hn
 go_enter Tryz.func127,Tryz.ntmps127
 go_wp2_with fail
 refine (hS.out _).mono ?_
 rintro e w1 ⟨rfl,rfl⟩
 go_wp2_with fail
 refine (hF.out _).mono ?_
 rintro e w1 ⟨rfl,q,rfl⟩
 have hPl:=zy ((zOj (fun x y=>x*(b:Int)+y) (w.drewN q)).congr (zFN (b:=b)))
 have hB3:Below w.heap.size w ((w.drewN q).alloc (.map #[] 0)):=(below_drewN (Below.refl _ _) q).alloc (by simp) _
 have hsz:(w.drewN q).heap.size=w.heap.size:=by simp
 rw [hsz] at hPl
 obtain ⟨bm,hbm⟩: ∃bm,bm=w.heap.size:=⟨_,rfl⟩
 have hbe:w.heap.size≤bm:=by omega
 have hmk2:=hmk (w.drewN q)
 rw [hsz,←hbm] at hmk2
 rw [←hbm] at hPl
 clear hmk hbm hsz
 go_wp2
 go_loopw [26] (fun I wr=> ∃i:Nat,I= .int .i64 i∧i≤a∧Hid (zAA (fun x y=>x*(b:Int)+y) (zAk b i 0) wr bm)∧Hid (Below w.heap.size w wr)) (fun I _=>a-(intOf I).toNat)
 case atStart=>exact ⟨0,rfl,by omega,hPl,zy hB3⟩
 case round=>
  clear hPl hB3 hmk2
  obtain ⟨i,rfl,hi,hPl,hB⟩:=hrel
  by_cases hlt:i<a
  ·have ti:decide ((i:Int)<(a:Int))=true:=decide_eq_true (by omega)
   go_wp2
   go_loopw [30] (fun I wr=> ∃j:Nat,I= .int .i64 j∧j≤b∧Hid (zAA (fun x y=>x*(b:Int)+y) (zAk b i j) wr bm)∧Hid (Below w.heap.size w wr)) (fun I _=>b-(intOf I).toNat)
   case atStart=>exact ⟨0,rfl,by omega,hPl,hB⟩
   case round=>
    clear hPl hB
    obtain ⟨j,rfl,hj,hPl,hB⟩:=hrel
    by_cases hjb:j<b
    ·have tj:decide ((j:Int)<(b:Int))=true:=decide_eq_true (by omega)
     have hib:=HP.out i hlt
     obtain ⟨w5,hmu,hP5,hbt⟩:=zOh hPl.out (i:=(i:Int)) (j:=(j:Int)) (D':=zAk b i (j+1)) zFM (zFP hjb)
     unfold zNL at hmu
     try dsimp only at hmu
     obtain ⟨y1,hy1'⟩: ∃y,y=i*b:=⟨_,rfl⟩
     have ey1:(i:Int)*(b:Int)=(y1:Int):=by rw [hy1',Int.natCast_mul]
     rw [←hy1'] at hib
     rw [ey1] at hmu
     have wa:IntKind.i64.wrap (y1:Int)=(y1:Int):=IntWalk.i64_in _ (by omega)
     have wb:IntKind.i64.wrap ((y1:Int)+(j:Int))=(y1:Int)+(j:Int):=IntWalk.i64_in _ (by omega)
     have HP5:=zy hP5
     have HB5:=zy (hB.out.trans (hbt.below hB.out.size hbe))
     clear hy1' hP5 hbt hPl hB
     go_wp2
     go_roundw
     case rel=>exact ⟨j+1,by go_num,by omega,HP5,HB5⟩
     case measure=>simp [intOf];omega
    ·obtain rfl:b=j:=by omega
     have tj:decide ((b:Int)<(b:Int))=false:=by simp
     have hP2:=zy (hPl.out.congr zFO)
     clear hPl
     go_wp2
     go_roundw
     case rel=>exact ⟨i+1,by go_num,by omega,hP2,hB⟩
     case measure=>simp [intOf];omega
  ·obtain rfl:a=i:=by omega
   have ti:decide ((a:Int)<(a:Int))=false:=by simp
   go_wp2_with (at_make;refine wpList_make_full _ rfl _ _ 78 rfl w.heap.size 3 ii (.int .i64 0) 1 Tryz.underlying78 hii hy0 hy1 _ _ _ _ n rfl rfl ?l1 ?l2 ?b2 ?b3 hB.out.size ?_)
   case l1=>omega
   case l2=>omega
   case b2=>rw [hy2];omega
   case b3=>unfold maxLen;omega
   intro w8 hown hgrow
   have hB8:Hid (Below w.heap.size w w8):=zy (hB.out.grown hgrow hB.out.size (fun k h=>by cases h))
   have hB9:Below wr.heap.size wr w8:=(Below.refl _ _).grown hgrow (Nat.le_refl _) (fun k h=>by cases h)
   have hP8:=zy (hPl.out.below hB9)
   have hbl:=hPl.out.lt
   have hO8:Hid (OwnI w8 w.heap.size (.slice (some ⟨wr.heap.size,0,none⟩) n n) n (part n (outF a b) 0)):=zy (by
    unfold OwnI
    rw [zNW,zJC,←toList_madeCells_one];exact hown)
   obtain ⟨G,hG⟩: ∃G,G=wr.heap.size:=⟨_,rfl⟩
   rw [←hG] at hO8 hbl
   rw [←hG]
   have hGe:w.heap.size≤G:=by rw [hG];exact hB.out.size
   clear hown hgrow hB9 hG hPl hB
   go_wp2
   go_loopw [48] (fun I wr=> ∃k:Nat,I= .int .i64 k∧k≤n∧Hid (zAA (fun x y=>x*(b:Int)+y) (zAk b a 0) wr bm)∧Hid (OwnI wr w.heap.size (.slice (some ⟨G,0,none⟩) n n) n (part n (outF a b) k))∧Hid (Below w.heap.size w wr)) (fun I _=>n-(intOf I).toNat)
   case atStart=>exact ⟨0,rfl,by omega,hP8,hO8,hB8⟩
   case round=>
    clear hP8 hO8 hB8
    obtain ⟨k,rfl,hk,hPl,hO,hB⟩:=hrel
    by_cases hkn:k<n
    ·have tk:decide ((k:Int)<(n:Int))=true:=decide_eq_true (by omega)
     obtain ⟨c2,f2⟩:=(hO.out.set k hkn 0).2
     have hst:=zNV (n:=n) (f:=outF a b) (k:=k)
     obtain ⟨x,hx⟩: ∃x,x=k%a:=⟨_,rfl⟩
     obtain ⟨y,hy⟩: ∃y,y=k%b:=⟨_,rfl⟩
     have hxa:x<a:=by rw [hx];exact Nat.mod_lt _ ha
     have hyb:y<b:=by rw [hy];exact Nat.mod_lt _ hb
     have ex:(k:Int).tmod (a:Int)=(x:Int):=by rw [Int.tmod_eq_emod_of_nonneg (by omega),hx];omega
     have eyy:(k:Int).tmod (b:Int)=(y:Int):=by rw [Int.tmod_eq_emod_of_nonneg (by omega),hy];omega
     have hlk: ∀q,(Instr.lookup 213 (.map (some bm)) (.agg #[.int .i64 (x:Int), .int .i64 (y:Int)]) false).run Tryz.prog (wr.drewN q)= .ok (.int .i64 ((x:Int)*(b:Int)+(y:Int))) (wr.drewN q):=fun q=>zOi (hPl.out.below (below_drewN (Below.refl _ _) q)) ⟨x,y,rfl,rfl,hyb, .inl hxa⟩
     have hz':outF a b k=(x:Int)*(b:Int)+(y:Int):=by unfold outF;rw [←hx,←hy,Int.natCast_add,Int.natCast_mul]
     rw [hz'] at hst
     obtain ⟨z,hz⟩: ∃z,z=(x:Int)*(b:Int)+(y:Int):=⟨_,rfl⟩
     rw [←hz] at hlk hst
     have HST:=zy hst
     have ta:((a:Int) == 0)=false:=by simp;omega
     have tb:((b:Int) == 0)=false:=by simp;omega
     have na: ¬a=0:=by omega
     have nb: ¬b=0:=by omega
     have wx:IntKind.i64.wrap (x:Int)=(x:Int):=IntWalk.i64_in _ (by omega)
     have wy:IntKind.i64.wrap (y:Int)=(y:Int):=IntWalk.i64_in _ (by omega)
     have i1:(0:Int)≤(k:Int):=by omega
     have i2:(k:Int)<(n:Int):=by omega
     clear hx hy hz hz' hst
     go_upto_region 18 with fail
     refine zWM 11 (by kernel_rfl) (by kernel_rfl) ?_
     simp only [List.take_succ_cons,List.take_zero,List.drop_succ_cons,List.drop_zero]
     repeat (go_big_quiet_step (fail))
     refine wpQuiet_nil ?_
     intro _ hw'
     obtain ⟨nq,hw''⟩:=hw'
     subst hw''
     have hO0:OwnI (wr.drewN nq) w.heap.size (.slice (some ⟨G,0,none⟩) n n) n (part n (outF a b) k):=hO.out
     have hO1:=(hO0.set k hkn z).1
     rw [HST.out] at hO1
     have HO1:=zy hO1
     have HB1:=zy (zCn (below_drewN hB.out nq) hGe k (.int .i64 z))
     have HP1:Hid (zAA (fun x y=>x*(b:Int)+y) (zAk b a 0) ((wr.drewN nq).setCell ⟨G,k,none⟩ (.int .i64 z)) bm):=zy (by
      obtain ⟨ms,clock,hm,hr⟩:=hPl.out
      exact ⟨ms,clock,(heap_setCell_other _ _ _ _ (by simp;omega)).trans hm,hr⟩)
     clear hO1 hO0 hO hB hPl hlk
     go_wp2
     go_roundw
     case rel=>exact ⟨k+1,by go_num,by omega,HP1,HO1,HB1⟩
     case measure=>simp [intOf];omega
    ·obtain rfl:n=k:=by omega
     have tk:decide ((n:Int)<(n:Int))=false:=by simp
     have hO1:=hO.out
     rw [zNT] at hO1
     have HO:=zy hO1
     clear hO hO1 hPl
     go_wp2
     go_ret
     exact ⟨_,rfl,HO.out,hB.out⟩
end

section
open Alg
theorem zVj {p:Nat} [NeZero p] {g:Fin p} {n:Nat} {inv:Bool} {a b:Nat→Fin p} (h: ∀j,j<n→a j=b j) (i:Nat):tr g n inv a i=tr g n inv b i:=by
 unfold tr;rw [dft_congr h]
theorem lines_any {p:Nat} [NeZero p] {w:World} {v:Value} {g:Int} (hp:Prime p) (hg:Ord (zt p g) (p-1)) (g0:0≤g) (g1:g<p) (B0 B G c N starts step len far:Nat) (inv:Bool) (T:Nat→Fin p) (h:Fd w B0 v p g) (hB0:B0≤G) (hG:G<w.heap.size) (hN:N≤1024)
  (hs4:starts≤1024) (ht4:step≤1024) (hf4:far≤1024) (hc:chk p len 1024=0) (hrng: ∀s k,s<starts→k<len→s*step+k*far<N)
  (hinj: ∀s k s' k',s<starts→k<len→s'<starts→k'<len→s*step+k*far=s'*step+k'*far→s=s'∧k=k') (hO:OwnU w B (.slice (some ⟨G,0,none⟩) N c) N (lst N T)):
  Calls Tryz.prog 126 #[v, .slice (some ⟨G,0,none⟩) N c, .int .i64 (starts:Int), .int .i64 (step:Int), .int .i64 (len:Int), .int .i64 (far:Int), .bool inv] w fun e w'=>(∃u,e= .returned u)∧ ∃T',OwnU w' B (.slice (some ⟨G,0,none⟩) N c) N (lst N T')∧But G w w'∧
   Hid (∀s k,s<starts→k<len→T' (s*step+k*far)=tr (zt p g) len inv (fun j=>T (s*step+j*far)) k):=by
 obtain ⟨i0,hi,hz0,hz1,hz2⟩:=info_parts zJt
 have HPM:=zy (And.intro h.p3 h.pmx)
 obtain ⟨n1,n2,_⟩:=zEq hc
 have HRng:=zy hrng
 have HInj:=zy hinj
 have HPt:Hid (∀(wz:World) (A:Option Addr) (cA:Nat) (F:Nat→Fin p),But G w wz→RdI wz wz.heap.size .u64 A (lst len F)→Calls Tryz.prog 178 #[v, .slice A len cA, .bool inv] wz fun e w'=> ∃V,e= .returned V∧OwnU w' wz.heap.size V len (lst len (tr (zt p g) len inv F))∧Below wz.heap.size wz w'):=zy (fun wz A cA F hz hA=>by
  have h1:=zNR hp hg g0 g1 ((h.below (hz.below (by omega) hB0)).mono (by have:=hz.size;omega)) A cA (lst len F) inv (zLd h.pmx _ _) hA (by rw [zLb];exact hc) (zKZ _ _)
  rw [zLb] at h1
  rw [show lst len (tr (zt p g) len inv (rz p (lst len F)))=lst len (tr (zt p g) len inv F) from zKW fun i _=>zVj (fun j hj=>zSG hj) i] at h1
  exact h1)
 have HG:=zy hG
 have HQ0:Hid (But G w w∧OwnU w B (.slice (some ⟨G,0,none⟩) N c) N (lst N T)):=zy ⟨But.refl _ _,hO⟩
 have H0:Hid (∀s k,s<0→k<len→T (s*step+k*far)=tr (zt p g) len inv (fun j=>T (s*step+j*far)) k):=zy (fun s k hs=>absurd hs (Nat.not_lt_zero _))
 have hl4:len≤1024:=by omega
 have hl0:0<len:=by omega
 clear h hO hc hrng hinj hG hp hg g0 g1 hB0 n1 n2
 go_enter Tryz.func126,Tryz.ntmps126
 go_wp2
 go_loopw [20] (fun I wr=> ∃(s:Nat) (T':Nat→Fin p),I= .int .i64 s∧s≤starts∧Hid (∀s' k,s'<s→k<len→T' (s'*step+k*far)=tr (zt p g) len inv (fun j=>T (s'*step+j*far)) k)∧
  Hid (∀s' k,s≤s'→s'<starts→k<len→T' (s'*step+k*far)=T (s'*step+k*far))∧Hid (But G w wr∧OwnU wr B (.slice (some ⟨G,0,none⟩) N c) N (lst N T'))) (fun I _=>starts-(intOf I).toNat)
 case atStart=>exact ⟨0,T,rfl,by omega,H0,zy (fun _ _ _ _ _=>rfl),HQ0⟩
 case round=>
  clear HQ0 H0
  obtain ⟨s,T',rfl,hs,hnew,hold,hQ⟩:=hrel
  by_cases hlt:s<starts
  ·have ti:decide ((s:Int)<(starts:Int))=true:=decide_eq_true (by omega)
   go_wp2_with (at_make;refine wpList_make_full _ rfl _ _ 54 rfl wr.heap.size 22 i0 (.int .u64 0) 1 Tryz.underlying54 hi hz0 hz1 _ _ _ _ len rfl rfl ?l1 ?l2 ?b2 ?b3 (Nat.le_refl _) ?_)
   case l1=>omega
   case l2=>omega
   case b2=>rw [hz2];omega
   case b3=>unfold maxLen;omega
   intro w3 hown hgrow
   have hGr:G<wr.heap.size:=by have:=hQ.out.1.size;have:=HG.out;omega
   have HL3:Hid (R2 wr wr.heap.size len len (lst len (fun _=>(0:Fin p))) w3):=zy ⟨(Below.refl _ _).grown hgrow (Nat.le_refl _) (fun k h=>by cases h),zLs hown⟩
   obtain ⟨s0,hs0⟩: ∃s0,s0=s*step:=⟨_,rfl⟩
   have es0:(s:Int)*(step:Int)=(s0:Int):=by rw [hs0,Int.natCast_mul]
   have hs0b:s0≤1048576:=by rw [hs0];exact Nat.le_trans (Nat.mul_le_mul (by omega:s≤1024) ht4) (by omega)
   have ws0:IntKind.i64.wrap (s0:Int)=(s0:Int):=IntWalk.i64_in _ (by omega)
   have HRg:=zy (fun k hk=>HRng.out s k hlt hk)
   rw [←hs0] at HRg
   obtain ⟨GL,hGL⟩: ∃GL,GL=wr.heap.size:=⟨_,rfl⟩
   rw [show (⟨wr.heap.size,0,none⟩:Addr)=⟨GL,0,none⟩ by rw [hGL]]
   rw [show R2 wr wr.heap.size=R2 wr GL by rw [hGL]] at HL3
   have hGLG:G≠GL:=by omega
   have hGLG2:GL≠G:=by omega
   have hGLe:wr.heap.size≤GL:=by omega
   have HL0:Hid (∀j,j<0→(fun _=>(0:Fin p)) j=T' (s0+j*far)):=zy (fun j hj=>absurd hj (Nat.not_lt_zero _))
   have HS0:=zy hs0
   clear hown hgrow hGL hs0
   go_wp2
   go_loopw [27] (fun I wz=> ∃(k:Nat) (F:Nat→Fin p),I= .int .i64 k∧k≤len∧Hid (∀j,j<k→F j=T' (s0+j*far))∧Hid (R2 wr GL len len (lst len F) wz)) (fun I _=>len-(intOf I).toNat)
   case atStart=>exact ⟨0,_,rfl,by omega,HL0,HL3⟩
   case round=>
    clear HL3 HL0
    obtain ⟨k,F,rfl,hk,hF,hL⟩:=hrel
    rename World=>wz
    by_cases hkl:k<len
    ·have tk:decide ((k:Int)<(len:Int))=true:=decide_eq_true (by omega)
     have hr1:=HRg.out k hkl
     obtain ⟨y,hy⟩: ∃y,y=k*far:=⟨_,rfl⟩
     have ey:(k:Int)*(far:Int)=(y:Int):=by rw [hy,Int.natCast_mul]
     rw [←hy] at hr1
     obtain ⟨o,ho⟩: ∃o,o=s0+y:=⟨_,rfl⟩
     have eo:(s0:Int)+(y:Int)=(o:Int):=by omega
     rw [←ho] at hr1
     have c1:=(zN9 (hQ.out.2.below hL.out.1) o hr1).1
     rw [zKY hr1] at c1
     obtain ⟨x,hx⟩: ∃x,x=T' o:=⟨_,rfl⟩
     rw [←hx] at c1
     have c2:=hL.out.cell k hkl
     have f2:=hL.out.fz k hkl
     have hO1:=(hL.out.2.set k hkl (x.val:Int)).1
     rw [zLe] at hO1
     have HL2:Hid (R2 wr GL len len (lst len (upd F k x)) (wz.setCell ⟨GL,k,none⟩ (.int .u64 (x.val:Int)))):=zy ⟨zCn hL.out.1 hGLe k _,hO1⟩
     have hF2:Hid (∀j,j<k+1→upd F k x j=T' (s0+j*far)):=zy (fun j hj=>by
      by_cases e:j=k
      ·subst e;rw [upd_same,hx,ho,hy]
      ·rw [zWh e];exact hF.out j (by omega))
     have wy:IntKind.i64.wrap (y:Int)=(y:Int):=IntWalk.i64_in _ (by omega)
     have wo:IntKind.i64.wrap (o:Int)=(o:Int):=IntWalk.i64_in _ (by omega)
     have i1:(0:Int)≤(o:Int):=by omega
     have i2:(o:Int)<(N:Int):=by omega
     clear hy ho hx hO1 hL hF
     go_wp2
     go_roundw
     case rel=>exact ⟨k+1,upd F k x,by go_num,by omega,hF2,HL2⟩
     case measure=>simp [intOf];omega
    ·obtain rfl:len=k:=by omega
     have tk:decide ((len:Int)<(len:Int))=false:=by simp
     obtain ⟨AL,cL,hVL,hRL⟩:=hL.out.2.rd
     have hBz:But G w wz:=hQ.out.1.trans (But.of_below hL.out.1)
     have hOz:=hQ.out.2.below hL.out.1
     have HP:=zy (HPt.out wz (some ⟨GL,0,none⟩) len F hBz (by injection hVL with h1 h2 h3;rw [h1];exact hRL))
     have HQz:Hid (But G w wz∧OwnU wz B (.slice (some ⟨G,0,none⟩) N c) N (lst N T')):=zy ⟨hBz,hOz⟩
     have hGz:G<wz.heap.size:=by have:=hBz.size;have:=HG.out;omega
     have HX:Hid (lst len (tr (zt p g) len inv F)=lst len (tr (zt p g) len inv fun j=>T (s0+j*far))):=zy (zKW fun i _=>zVj (fun j hj=>by
      rw [hF.out j hj,HS0.out];exact hold.out s j (Nat.le_refl _) hlt hj) i)
     clear hVL hRL hBz hOz hL hQ hF
     go_wp2_with fail
     refine HP.out.mono ?_
     rintro e w5 ⟨V5,rfl,hO5,hB5⟩
     rw [HX.out] at hO5
     obtain ⟨X,hX⟩: ∃X,X=tr (zt p g) len inv fun j=>T (s0+j*far):=⟨_,rfl⟩
     rw [←hX] at hO5
     have HXe:=zy hX
     obtain ⟨GX,cX,rfl,hGX⟩:=zN2 hO5 hl0
     have hGXl:=(World.ownsRow.lt hO5 GX rfl).2
     have HcX:Hid (∀wy k,But G w5 wy→k<len→wy.cell? ⟨GX,k,none⟩=some (.int .u64 ((X k).val:Int))):=zy (fun wy k hy hk=>by
      have h1:=(zN9 hO5 k hk).1
      rw [zKY hk] at h1
      exact hy.cell hGXl (by omega) h1)
     have HQ5:Hid (But G w w5∧OwnU w5 B (.slice (some ⟨G,0,none⟩) N c) N (lst N T')):=zy ⟨HQz.out.1.trans (But.of_below hB5),HQz.out.2.below hB5⟩
     have H30:Hid (∀k',k'<0→T' (s0+k'*far)=X k'):=zy (fun j hj=>absurd hj (Nat.not_lt_zero _))
     have HR0:Hid (But G w5 w5):=zy (But.refl _ _)
     clear hO5 hB5 hX HX HP HQz
     go_wp2
     go_loopw [49] (fun I wy=> ∃(k:Nat) (T2:Nat→Fin p),I= .int .i64 k∧k≤len∧Hid (∀k',k'<k→T2 (s0+k'*far)=X k')∧Hid (∀j,(∀k',k'<k→j≠s0+k'*far)→T2 j=T' j)∧Hid (But G w wy∧OwnU wy B (.slice (some ⟨G,0,none⟩) N c) N (lst N T2))∧Hid (But G w5 wy)) (fun I _=>len-(intOf I).toNat)
     case atStart=>exact ⟨0,T',rfl,by omega,H30,zy (fun _ _=>rfl),HQ5,HR0⟩
     case round=>
      clear HQ5 H30 HR0
      obtain ⟨k,T2,rfl,hk,hn2,ho2,hQ,hR⟩:=hrel
      rename World=>wy
      by_cases hkl:k<len
      ·have tk:decide ((k:Int)<(len:Int))=true:=decide_eq_true (by omega)
       have hr1:=HRg.out k hkl
       have c1:=HcX.out wy k hR.out hkl
       obtain ⟨y,hy⟩: ∃y,y=k*far:=⟨_,rfl⟩
       have ey:(k:Int)*(far:Int)=(y:Int):=by rw [hy,Int.natCast_mul]
       rw [←hy] at hr1
       obtain ⟨o,ho⟩: ∃o,o=s0+y:=⟨_,rfl⟩
       have eo:(s0:Int)+(y:Int)=(o:Int):=by omega
       rw [←ho] at hr1
       obtain ⟨x,hx⟩: ∃x,x=X k:=⟨_,rfl⟩
       rw [←hx] at c1
       obtain ⟨c2,f2,_⟩:=zN9 hQ.out.2 o hr1
       have hO1:=(hQ.out.2.set o hr1 (x.val:Int)).1
       rw [zLe] at hO1
       have HQ2:Hid (But G w (wy.setCell ⟨G,o,none⟩ (.int .u64 (x.val:Int)))∧OwnU (wy.setCell ⟨G,o,none⟩ (.int .u64 (x.val:Int))) B (.slice (some ⟨G,0,none⟩) N c) N (lst N (upd T2 o x))):=zy ⟨hQ.out.1.trans (But.setCell G o wy _),hO1⟩
       have HR2:Hid (But G w5 (wy.setCell ⟨G,o,none⟩ (.int .u64 (x.val:Int)))):=zy (hR.out.trans (But.setCell G o wy _))
       have hne: ∀k',k'<len→s0+k'*far=o→k'=k:=fun k' hk' e=>by
        rw [ho,hy,HS0.out] at e
        exact (HInj.out s k' s k hlt hk' hlt hkl e).2
       have hn3:Hid (∀k',k'<k+1→upd T2 o x (s0+k'*far)=X k'):=zy (fun k' hk'=>by
        by_cases e:k'=k
        ·subst e;rw [←hy,←ho,upd_same,hx]
        ·rw [zWh (fun h=>e (hne k' (by omega) h))];exact hn2.out k' (by omega))
       have ho3:Hid (∀j,(∀k',k'<k+1→j≠s0+k'*far)→upd T2 o x j=T' j):=zy (fun j hj=>by
        rw [zWh (by rw [ho,hy];exact hj k (by omega))]
        exact ho2.out j (fun k' hk'=>hj k' (by omega)))
       have wy':IntKind.i64.wrap (y:Int)=(y:Int):=IntWalk.i64_in _ (by omega)
       have wo:IntKind.i64.wrap (o:Int)=(o:Int):=IntWalk.i64_in _ (by omega)
       have i1:(0:Int)≤(o:Int):=by omega
       have i2:(o:Int)<(N:Int):=by omega
       clear hy ho hx hO1 hQ hR hn2 ho2 hne
       go_wp2
       go_roundw
       case rel=>exact ⟨k+1,upd T2 o x,by go_num,by omega,hn3,ho3,HQ2,HR2⟩
       case measure=>simp [intOf];omega
      ·obtain rfl:len=k:=by omega
       have tk:decide ((len:Int)<(len:Int))=false:=by simp
       have hn3:Hid (∀s' k,s'<s+1→k<len→T2 (s'*step+k*far)=tr (zt p g) len inv (fun j=>T (s'*step+j*far)) k):=zy (fun s' k hs' hk'=>by
        by_cases e:s'=s
        ·subst e
         rw [←HS0.out,hn2.out k hk',HXe.out]
        ·rw [ho2.out _ (fun k' hk2 h=>e (by
          rw [HS0.out] at h
          exact (HInj.out s' k s k' (by omega) hk' hlt hk2 h).1))]
         exact hnew.out s' k (by omega) hk')
       have ho3:Hid (∀s' k,s+1≤s'→s'<starts→k<len→T2 (s'*step+k*far)=T (s'*step+k*far)):=zy (fun s' k hs' hs2 hk'=>by
        rw [ho2.out _ (fun k' hk2 h=>by
         rw [HS0.out] at h
         have:=(HInj.out s' k s k' hs2 hk' hlt hk2 h).1
         omega)]
        exact hold.out s' k (by omega) hs2 hk')
       clear hn2 ho2 hnew hold hR
       go_wp2
       go_roundw
       case rel=>exact ⟨s+1,T2,by go_num,by omega,hn3,ho3,hQ⟩
       case measure=>simp [intOf];omega
  ·obtain rfl:starts=s:=by omega
   have ti:decide ((starts:Int)<(starts:Int))=false:=by simp
   have hQo:=zy (And.intro hQ.out.2 hQ.out.1)
   clear hQ hold
   go_wp2
   go_end0
   exact ⟨⟨_,rfl⟩,T',hQo.out.1,hQo.out.2,hnew⟩
end

section
open Alg
theorem zEG {p:Nat} [NeZero p] {g:Fin p} {a b:Nat} (hg:Ord g (p-1)) (hd:a*b∣p-1) (ha:0<a) (hb:0<b) (hgcd:Nat.gcd a b=1) (inv:Bool) (x T1 T2:Nat→Fin p)
  (h1: ∀s k,s<a→k<b→T1 (s*b+k*1)=tr g b inv (fun j=>x (inP a b (s*b+j*1))) k) (h2: ∀s k,s<b→k<a→T2 (s*1+k*b)=tr g a inv (fun i=>T1 (s*1+i*b)) k) (k:Nat):
  T2 (k%a*b+k%b)=tr g (a*b) inv x k:=by
 have ka:k%a<a:=Nat.mod_lt _ ha
 have kb:k%b<b:=Nat.mod_lt _ hb
 have ra:pw (rt g (a*b) inv) b=rt g a inv:=zS0 hg hd ha hb inv
 have rb:pw (rt g (a*b) inv) a=rt g b inv:=by
  have:=zS0 (g:=g) (a:=b) (b:=a) hg (by rw [Nat.mul_comm];exact hd) hb ha inv
  rw [Nat.mul_comm b a] at this
  exact this
 have hw:pw (rt g (a*b) inv) (a*b)=1:=(zSz hg hd (Nat.mul_pos ha hb) inv).2.1
 have e:=zEF hgcd ha hb hw (sc p a inv) (sc p b inv) x k
 rw [ra,rb,zSX] at e
 have at1:(k%a*b+k%b)/b=k%a:=by rw [Nat.mul_comm,Nat.mul_add_div hb,Nat.div_eq_of_lt kb];rfl
 have at2:(k%a*b+k%b)%b=k%b:=by rw [Nat.add_comm,Nat.add_mul_mod_self_right,Nat.mod_eq_of_lt kb]
 have h3:=h2 (k%b) (k%a) kb ka
 rw [Nat.mul_one,Nat.add_comm] at h3
 rw [h3]
 show sc p a inv*dft (rt g a inv) a (fun i=>T1 (k%b+i*b)) (k%a)=sc p (a*b) inv*dft (rt g (a*b) inv) (a*b) x k
 rw [←e]
 unfold zEB
 rw [at1,at2]
 congr 1
 refine dft_congr (fun i hi=>?_) _
 have h4:=h1 i (k%b) hi kb
 rw [Nat.mul_one] at h4
 rw [Nat.add_comm,h4]
 have at3:(i*b+k%b)/b=i:=by rw [Nat.mul_comm,Nat.mul_add_div hb,Nat.div_eq_of_lt kb];rfl
 have at4:(i*b+k%b)%b=k%b:=by rw [Nat.add_comm,Nat.add_mul_mod_self_right,Nat.mod_eq_of_lt kb]
 unfold zSl
 rw [at3,at4]
 unfold tr
 congr 1
 exact dft_congr (fun j hj=>by rw [Nat.mul_one]) _
def zGL (p:Int) (L:List Int) (a:Int):Int:=if chk p L.length 1024≠0 then chk p L.length 1024 else if copB L.length a=false then 11 else if zI1 p L=false then 9 else 0
theorem zGM {p:Int} {L:List Int} {a:Int} (h:zGL p L a=0):chk p L.length 1024=0∧copB L.length a=true∧zI1 p L=true:=by
 unfold zGL at h
 split at h
 ·rename_i h1;exact absurd h h1
 ·rename_i h1
  split at h
  ·omega
  ·rename_i h2
   split at h
   ·omega
   ·rename_i h3
    exact ⟨by simpa using h1,by simpa using h2,by simpa using h3⟩
theorem zEH {p:Nat} {w:World} {v:Value} {g:Int} (h:Fd w w.heap.size v p g) (A:Option Addr) (c:Nat) (L:List Int) (a:Int) (a0: -9223372036854775808≤a) (a1:a≤9223372036854775807) (inv:Bool) (hl:L.length≤140737488351232) (hU:U64s L) (hR:RdI w w.heap.size .u64 A L) (hf:zGL p L a≠0):
  Calls Tryz.prog 66 #[v, .slice A L.length c, .int .i64 a, .bool inv] w fun e w'=>e= .returned (.tuple #[.slice none 0 0, .int .i64 (zGL p L a)])∧Below w.heap.size w w':=by
 have hC:=zy (fun m=>zDT h L.length m (by omega) (by omega))
 have hG:=zy (fun wz (hz:Below w.heap.size w wz)=>zI6 ((h.below hz).mono hz.size) A c wz.heap.size L hl hU ((hR.below hz).mono hz.size))
 have hF:=zy (fun W=>zDD (L.length:Int) a (by omega) (by omega) a0 a1 W)
 have HV:Hid (zGL p L a=if chk p L.length 1024≠0 then chk p L.length 1024 else if copB L.length a=false then 11 else if zI1 p L=false then 9 else 0):=zy rfl
 have HFn:=zy hf
 clear h hU hR hf
 by_cases c1:chk p L.length 1024=0
 ·have hC2:=zy (hC.out 1024)
  rw [c1] at hC2
  by_cases c2:copB L.length a=false
  ·have HV2:Hid (zGL p L a=11):=zy (by rw [HV.out,if_neg (by simp [c1]),if_pos c2])
   rw [c2] at hF
   clear c1 c2 hC
   go_enter Tryz.func66,Tryz.ntmps66
   go_wp2_with fail
   refine hC2.out.mono ?_
   rintro e w1 ⟨rfl,rfl⟩
   go_wp2_with fail
   refine (hF.out _).mono ?_
   rintro e w1 ⟨rfl,q,rfl⟩
   go_wp2
   go_ret2
   exact ⟨by rw [HV2.out];first|rfl|simp,below_drewN (Below.refl _ _) q⟩
  ·have c2':copB L.length a=true:=by simpa using c2
   rw [c2'] at hF
   by_cases c3:zI1 p L=false
   ·have HV2:Hid (zGL p L a=9):=zy (by rw [HV.out,if_neg (by simp [c1]),if_neg c2,if_pos c3])
    rw [c3] at hG
    clear c1 c2 c2' c3 hC
    go_enter Tryz.func66,Tryz.ntmps66
    go_wp2_with fail
    refine hC2.out.mono ?_
    rintro e w1 ⟨rfl,rfl⟩
    go_wp2_with fail
    refine (hF.out _).mono ?_
    rintro e w1 ⟨rfl,q,rfl⟩
    go_wp2_with fail
    refine (hG.out _ (below_drewN (Below.refl _ _) q)).mono ?_
    rintro e w3 ⟨rfl,rfl⟩
    go_wp2
    go_ret2
    exact ⟨by rw [HV2.out];first|rfl|simp,below_drewN (Below.refl _ _) q⟩
   ·exact absurd (by rw [HV.out,if_neg (by simp [c1]),if_neg c2,if_neg c3]) HFn.out
 ·have HV2:Hid (zGL p L a=chk p L.length 1024):=zy (by rw [HV.out,if_pos c1])
  have hC2:=zy (hC.out 1024)
  obtain ⟨z,hz⟩: ∃z,z=chk p L.length 1024:=⟨_,rfl⟩
  rw [←hz] at hC2 HV2 c1
  have t:(z != 0)=true:=by simp [c1]
  clear hz c1 hC
  go_enter Tryz.func66,Tryz.ntmps66
  go_wp2_with fail
  refine hC2.out.mono ?_
  rintro e w1 ⟨rfl,rfl⟩
  go_wp2
  go_ret2
  exact ⟨by rw [HV2.out];first|rfl|simp,Below.refl _ _⟩
theorem zEn {p:Int} {a b:Nat} (ha:0<a) (hb:0<b) (h:chk p ((a*b:Nat):Int) 1024=0):chk p (b:Int) 1024=0:=by
 obtain ⟨c1,c2,c3⟩:=zEq h
 have h1:b≤a*b:=Nat.le_mul_of_pos_left _ ha
 unfold chk
 rw [if_neg (by omega),if_neg (by omega),if_pos]
 refine Int.emod_eq_zero_of_dvd ?_
 refine Int.dvd_trans ?_ (Int.dvd_of_emod_eq_zero c3)
 rw [Int.natCast_mul]
 exact Int.dvd_mul_left _ _
theorem zEI {p:Nat} [NeZero p] {w:World} {v:Value} {g:Int} (hp:Prime p) (hg:Ord (zt p g) (p-1)) (g0:0≤g) (g1:g<p) (h:Fd w w.heap.size v p g) (A:Option Addr) (c:Nat) (L:List Int) (ai:Int) (inv:Bool) (hU:U64s L) (hR:RdI w w.heap.size .u64 A L) (hf:zGL p L ai=0):
  Calls Tryz.prog 66 #[v, .slice A L.length c, .int .i64 ai, .bool inv] w fun e w'=> ∃V,e= .returned (.tuple #[V, .int .i64 0])∧OwnU w' w.heap.size V L.length (lst L.length (tr (zt p g) L.length inv (rz p L)))∧Below w.heap.size w w':=by
 obtain ⟨i0,hi,hz0,hz1,hz2⟩:=info_parts zJt
 obtain ⟨hc1,hcop,hgd⟩:=zGM hf
 have hc:=zEp hc1
 obtain ⟨n1,n2,_⟩:=zEq hc1
 obtain ⟨hdv,hn0⟩:=zEl (by have:=hp.1;omega) hc
 have hcop2:=hcop
 unfold copB at hcop2
 rw [decide_eq_true_eq] at hcop2
 obtain ⟨ha1,haN,hmod,hgcd⟩:=hcop2
 obtain ⟨a,rfl⟩:=Int.eq_ofNat_of_zero_le (show 0≤ai by omega)
 obtain ⟨b,hb⟩: ∃b,b=L.length/a:=⟨_,rfl⟩
 have hab:L.length=a*b:=by
  rw [hb]
  have h1:L.length%a=0:=by omega
  exact (Nat.mul_div_cancel' (Nat.dvd_of_mod_eq_zero h1)).symm
 have hgcd2:Nat.gcd a b=1:=by
  rw [Int.toNat_natCast,show ((L.length:Int)/(a:Int)).toNat=L.length/a by omega,←hb] at hgcd
  exact hgcd
 have ha0:0<a:=by omega
 have hb0:0<b:=by
  rcases Nat.eq_zero_or_pos b with e|e
  ·rw [e,Nat.mul_zero] at hab;omega
  ·exact e
 have eb:(L.length:Int).tdiv (a:Int)=(b:Int):=by rw [Int.tdiv_eq_ediv_of_nonneg (by omega),hb];omega
 have hbn:b≤L.length:=by rw [hab];exact Nat.le_mul_of_pos_left _ ha0
 have HPM:=zy (And.intro h.p3 h.pmx)
 have hC:=zy (zDT h L.length 1024 (by omega) (by omega))
 rw [hc1] at hC
 have hF:=zy (fun W=>zDD (L.length:Int) (a:Int) (by omega) (by omega) (by omega) (by omega) W)
 rw [hcop] at hF
 have hG:=zy (fun wz (hz:Below w.heap.size w wz)=>zI6 ((h.below hz).mono hz.size) A c wz.heap.size L (by omega) hU ((hR.below hz).mono hz.size))
 rw [hgd] at hG
 have HIn:=zy (fun W=>zEz a b ha0 hb0 (by omega) (by rw [←hab];exact hcop) W)
 have HOut:=zy (fun W=>zEP a b ha0 hb0 (by omega) (by rw [←hab];exact hcop) W)
 have hcb:chk p (b:Int) 1024=0:=zEn ha0 hb0 (by rw [←hab];exact hc1)
 have hca:chk p (a:Int) 1024=0:=zEn hb0 ha0 (by rw [Nat.mul_comm,←hab];exact hc1)
 have HL1:Hid (∀(wz:World) (B0 B G c:Nat) (T:Nat→Fin p),Fd wz B0 v p g→B0≤G→G<wz.heap.size→OwnU wz B (.slice (some ⟨G,0,none⟩) L.length c) L.length (lst L.length T)→Calls Tryz.prog 126 #[v, .slice (some ⟨G,0,none⟩) L.length c, .int .i64 (a:Int), .int .i64 (b:Int), .int .i64 (b:Int), .int .i64 1, .bool inv] wz fun e w'=>(∃u,e= .returned u)∧ ∃T',OwnU w' B (.slice (some ⟨G,0,none⟩) L.length c) L.length (lst L.length T')∧But G wz w'∧
   Hid (∀s k,s<a→k<b→T' (s*b+k*1)=tr (zt p g) b inv (fun j=>T (s*b+j*1)) k)):=zy (fun wz B0 B G c T hF hB hG hO=>
  lines_any hp hg g0 g1 B0 B G c L.length a b b 1 inv T hF hB hG (by omega) (by omega) (by omega) (by omega) hcb (fun s k hs hk=>by
   have:=Nat.mul_le_mul_right b hs
   rw [Nat.succ_mul] at this
   rw [hab];omega) (fun s k s' k' hs hk hs' hk' e=>by
   rw [Nat.mul_one,Nat.mul_one] at e
   have e1:(s*b+k)/b=s:=by rw [Nat.mul_comm,Nat.mul_add_div hb0,Nat.div_eq_of_lt hk];rfl
   have e2:(s'*b+k')/b=s':=by rw [Nat.mul_comm,Nat.mul_add_div hb0,Nat.div_eq_of_lt hk'];rfl
   have:s=s':=by rw [←e1,e,e2]
   subst this
   exact ⟨rfl,by omega⟩) hO)
 have HL2:Hid (∀(wz:World) (B0 B G c:Nat) (T:Nat→Fin p),Fd wz B0 v p g→B0≤G→G<wz.heap.size→OwnU wz B (.slice (some ⟨G,0,none⟩) L.length c) L.length (lst L.length T)→Calls Tryz.prog 126 #[v, .slice (some ⟨G,0,none⟩) L.length c, .int .i64 (b:Int), .int .i64 1, .int .i64 (a:Int), .int .i64 (b:Int), .bool inv] wz fun e w'=>(∃u,e= .returned u)∧ ∃T',OwnU w' B (.slice (some ⟨G,0,none⟩) L.length c) L.length (lst L.length T')∧But G wz w'∧
   Hid (∀s k,s<b→k<a→T' (s*1+k*b)=tr (zt p g) a inv (fun j=>T (s*1+j*b)) k)):=zy (fun wz B0 B G c T hF hB hG hO=>
  lines_any hp hg g0 g1 B0 B G c L.length b 1 a b inv T hF hB hG (by omega) (by omega) (by omega) (by omega) hca (fun s k hs hk=>by
   have:=Nat.mul_le_mul_right b hk
   rw [Nat.succ_mul] at this
   rw [hab];omega) (fun s k s' k' hs hk hs' hk' e=>by
   rw [Nat.mul_one,Nat.mul_one] at e
   have e1:(s+k*b)/b=k:=by rw [Nat.mul_comm,Nat.add_mul_div_left _ _ hb0,Nat.div_eq_of_lt hs];omega
   have e2:(s'+k'*b)/b=k':=by rw [Nat.mul_comm,Nat.add_mul_div_left _ _ hb0,Nat.div_eq_of_lt hs'];omega
   have:k=k':=by rw [←e1,e,e2]
   subst this
   exact ⟨by omega,rfl⟩) hO)
 obtain ⟨x,hx⟩: ∃x,x=rz p L:=⟨_,rfl⟩
 have HTr:Hid (∀T1 T2:Nat→Fin p,(∀s k,s<a→k<b→T1 (s*b+k*1)=tr (zt p g) b inv (fun j=>x (inP a b (s*b+j*1))) k)→(∀s k,s<b→k<a→T2 (s*1+k*b)=tr (zt p g) a inv (fun i=>T1 (s*1+i*b)) k)→ ∀k,T2 (k%a*b+k%b)=tr (zt p g) L.length inv x k):=zy (fun T1 T2 h1 h2 k=>by
  rw [hab];exact zEG hg (by rw [←hab];exact hdv) ha0 hb0 hgcd2 inv x T1 T2 h1 h2 k)
 have HFd:=zy h
 have HX:Hid (∀k,k<L.length→L.getD k 0=((x k).val:Int)):=zy (fun k hk=>by
  have h1:lst L.length x=L:=by rw [hx];exact zLc hgd hU
  have h2:=zKY (f:=x) hk
  rw [h1] at h2
  exact h2)
 have HR:=zy hR
 rw [←hx]
 obtain ⟨n,hn⟩: ∃n,n=L.length:=⟨_,rfl⟩
 have HIP:Hid (∀t,t<n→inP a b t<n):=zy (fun t _=>by rw [hn,hab];exact Nat.mod_lt _ (Nat.mul_pos ha0 hb0))
 have HOP:Hid (∀t,t%a*b+t%b<n):=zy (fun t=>by
  have h1:=Nat.mul_le_mul_right b (Nat.mod_lt t ha0)
  rw [Nat.succ_mul] at h1
  have h2:=Nat.mod_lt t hb0
  rw [hn,hab];omega)
 rw [←hab,←hn] at HIn HOut
 rw [←hn] at hC hF hG HL1 HL2 HTr HX eb hn0 hbn ⊢
 have HN:=zy hn
 have hn4:n≤1024:=by omega
 have ta:((a:Int) == 0)=false:=by simp;omega
 have na: ¬a=0:=by omega
 have wb:IntKind.i64.wrap (b:Int)=(b:Int):=IntWalk.i64_in _ (by omega)
 clear h hR hU hf hc hc1 hcop hgd hdv hx hn hab hgcd hgcd2 hmod hb hcb hca hg hp g0 g1 n1 n2 haN
 go_enter Tryz.func66,Tryz.ntmps66
 go_wp2_with fail
 refine hC.out.mono ?_
 rintro e w1 ⟨rfl,rfl⟩
 go_wp2_with fail
 refine (hF.out _).mono ?_
 rintro e w1 ⟨rfl,q,rfl⟩
 go_wp2_with fail
 refine (hG.out _ (below_drewN (Below.refl _ _) q)).mono ?_
 rintro e w3 ⟨rfl,rfl⟩
 have hB2:Below w.heap.size w (w.drewN q):=below_drewN (Below.refl _ _) q
 have hsz:(w.drewN q).heap.size=w.heap.size:=by simp
 have HR2:=zy (HR.out.below hB2)
 have HFd2:Hid (Fd (w.drewN q) w.heap.size v p g):=zy (HFd.out.drewN q)
 generalize w.drewN q=w2 at *
 go_wp2_with (at_make;refine wpList_make_full _ rfl _ _ 54 rfl w.heap.size 22 i0 (.int .u64 0) 1 Tryz.underlying54 hi hz0 hz1 _ _ _ _ n rfl rfl ?l1 ?l2 ?b2 ?b3 (by omega) ?_)
 case l1=>omega
 case l2=>omega
 case b2=>rw [hz2];omega
 case b3=>unfold maxLen;omega
 intro w3 hown hgrow
 have hB3:Below w.heap.size w w3:=hB2.grown hgrow (by omega) (fun k h=>by cases h)
 have hB23:Below w2.heap.size w2 w3:=(Below.refl _ _).grown hgrow (Nat.le_refl _) (fun k h=>by cases h)
 have hO3:OwnU w3 w.heap.size (.slice (some ⟨w.heap.size,0,none⟩) n n) n (lst n (fun _=>(0:Fin p))):=zLs hown
 obtain ⟨G,hGe⟩: ∃G,G=w.heap.size:=⟨_,rfl⟩
 rw [show (⟨w.heap.size,0,none⟩:Addr)=⟨G,0,none⟩ by rw [hGe]] at hO3
 rw [show (⟨w.heap.size,0,none⟩:Addr)=⟨G,0,none⟩ by rw [hGe]]
 have hG3:G<w3.heap.size:=(World.ownsRow.lt hO3 G rfl).2
 have hGw:w.heap.size≤G:=by omega
 have HO3:=zy hO3
 have HB3:=zy hB3
 clear hown hgrow hB23 hO3 hB3 hB2 HR2 HFd2 hsz hC hF hG hGe
 go_wp2_with fail
 refine (HIn.out w3).mono ?_
 rintro e w4 ⟨VI,rfl,hownI,hB4⟩
 obtain ⟨AI,cI,rfl,hRI⟩:=RdI.of_own (xs:=zDm (inL a b n)) (by rw [zDo,zJa];exact hownI)
 rw [zDo,zJa]
 obtain ⟨bI,oI,rfl,hbI,hcI⟩:=hRI (by rw [zDo,zJa];exact hn0)
 have hbI3:w3.heap.size≤bI:=(World.ownsRow.lt hownI bI (by rfl)).1
 have HcI:Hid (∀k,k<n→w4.cell? ⟨bI,oI+k,none⟩=some (.int .i64 ((inP a b k:Nat):Int))):=zy (fun k hk=>by
  have h1:=hcI k (by rw [zDo,zJa];exact hk)
  rw [zDn] at h1
  rw [h1]
  unfold inL
  rw [List.getD_eq_getElem?_getD,List.getElem?_map,List.getElem?_range hk];rfl)
 have HB4:=zy (HB3.out.trans (hB4.mono HB3.out.size))
 obtain ⟨bA,oA,rfl,hbA,hcA⟩:=HR.out (by rw [←HN.out];exact hn0)
 have HcA:Hid (∀k,k<n→w4.cell? ⟨bA,oA+k,none⟩=some (.int .u64 ((x k).val:Int))):=zy (fun k hk=>by
  rw [←HX.out k hk]
  exact zDs HB4.out hbA (hcA k (by rw [←HN.out];exact hk)))
 have HQ4:Hid (But G w4 w4∧OwnU w4 w.heap.size (.slice (some ⟨G,0,none⟩) n n) n (lst n (fun _=>(0:Fin p)))):=zy ⟨But.refl _ _,HO3.out.below hB4⟩
 have hG4:G<w4.heap.size:=by have:=hB4.size;omega
 have hbA4:bA<w4.heap.size:=by have:=HB4.out.size;omega
 clear hownI hRI hcI hB4 HIn hcA HO3 HR HX
 go_wp2
 go_loopw [47] (fun I wr=> ∃(k:Nat) (F:Nat→Fin p),I= .int .i64 k∧k≤n∧Hid (∀t,t<k→F t=x (inP a b t))∧Hid (But G w4 wr∧OwnU wr w.heap.size (.slice (some ⟨G,0,none⟩) n n) n (lst n F))) (fun I _=>n-(intOf I).toNat)
 case atStart=>exact ⟨0,_,rfl,by omega,zy (fun t ht=>absurd ht (Nat.not_lt_zero _)),HQ4⟩
 case round=>
  clear HQ4
  obtain ⟨k,F,rfl,hk,hF,hQ⟩:=hrel
  by_cases hlt:k<n
  ·have tk:decide ((k:Int)<(n:Int))=true:=decide_eq_true (by omega)
   have c0:=hQ.out.1.cell hbI (by omega) (HcI.out k hlt)
   have hip:=HIP.out k hlt
   have c1:=hQ.out.1.cell hbA4 (by omega) (HcA.out (inP a b k) hip)
   have hF2:Hid (∀t,t<k+1→upd F k (x (inP a b k)) t=x (inP a b t)):=zy (fun t ht=>by
    by_cases e:t=k
    ·subst e;rw [upd_same]
    ·rw [zWh e];exact hF.out t (by omega))
   obtain ⟨z,hz⟩: ∃z,z=inP a b k:=⟨_,rfl⟩
   rw [←hz] at c0 c1 hip hF2
   obtain ⟨y,hy⟩: ∃y,y=x z:=⟨_,rfl⟩
   rw [←hy] at c1 hF2
   obtain ⟨c2,f2,_⟩:=zN9 hQ.out.2 k hlt
   have hO1:=(hQ.out.2.set k hlt (y.val:Int)).1
   rw [zLe] at hO1
   have HQ2:Hid (But G w4 (wr.setCell ⟨G,k,none⟩ (.int .u64 (y.val:Int)))∧OwnU (wr.setCell ⟨G,k,none⟩ (.int .u64 (y.val:Int))) w.heap.size (.slice (some ⟨G,0,none⟩) n n) n (lst n (upd F k y))):=zy ⟨hQ.out.1.trans (But.setCell G k wr _),hO1⟩
   have i1:(0:Int)≤(z:Int):=by omega
   have i2:(z:Int)<(n:Int):=by omega
   have i3:(z:Int)<(L.length:Int):=by have:=HN.out;omega
   have i4:(0:Int)≤(k:Int):=by omega
   have i5:(k:Int)<(n:Int):=by omega
   clear hz hy hO1 hQ hF
   go_wp2
   go_roundw
   case rel=>exact ⟨k+1,upd F k y,by go_num,by omega,hF2,HQ2⟩
   case measure=>simp [intOf];omega
  ·obtain rfl:n=k:=by omega
   have tk:decide ((n:Int)<(n:Int))=false:=by simp
   have hBt:=hQ.out.1
   have hBw:Below w.heap.size w wr:=HB4.out.trans (hBt.below HB4.out.size hGw)
   have hO:=hQ.out.2
   rw [zKW (fun t ht=>hF.out t ht)] at hO
   have hGr:G<wr.heap.size:=by have:=hBt.size;omega
   have HA1:=zy (HL1.out wr w.heap.size w.heap.size G n (fun t=>x (inP a b t)) (HFd.out.below hBw) hGw hGr hO)
   have HBw:=zy hBw
   clear hBt hBw hO hQ hF
   go_wp2_with fail
   refine HA1.out.mono ?_
   rintro e w5 ⟨⟨u,rfl⟩,T1,hO5,hbt5,hT1⟩
   have hBw5:Below w.heap.size w w5:=HBw.out.trans (hbt5.below HBw.out.size hGw)
   have HA2:=zy (HL2.out w5 w.heap.size w.heap.size G n T1 (HFd.out.below hBw5) hGw (by have:=hbt5.size;omega) hO5)
   have HBw5:=zy hBw5
   have hs5:=hbt5.size
   clear hBw5 hbt5 hO5 HA1
   go_wp2_with fail
   refine HA2.out.mono ?_
   rintro e w6 ⟨⟨u2,rfl⟩,T2,hO6,hbt6,hT2⟩
   have HBw6:Hid (Below w.heap.size w w6):=zy (HBw5.out.trans (hbt6.below HBw5.out.size hGw))
   have HO6:=zy hO6
   have hs6:=hbt6.size
   have HT2:=zy (HTr.out T1 T2 hT1.out hT2.out)
   clear hbt6 hO6 HA2 hT1 hT2
   go_wp2_with (at_make;refine wpList_make_full _ rfl _ _ 54 rfl w6.heap.size 22 i0 (.int .u64 0) 1 Tryz.underlying54 hi hz0 hz1 _ _ _ _ n rfl rfl ?l1 ?l2 ?b2 ?b3 (Nat.le_refl _) ?_)
   case l1=>omega
   case l2=>omega
   case b2=>rw [hz2];omega
   case b3=>unfold maxLen;omega
   intro w7 hown hgrow
   have hB7:Below w6.heap.size w6 w7:=(Below.refl _ _).grown hgrow (Nat.le_refl _) (fun k h=>by cases h)
   have hO7:OwnU w7 w6.heap.size (.slice (some ⟨w6.heap.size,0,none⟩) n n) n (lst n (fun _=>(0:Fin p))):=zLs hown
   obtain ⟨H,hHe⟩: ∃H,H=w6.heap.size:=⟨_,rfl⟩
   rw [←hHe] at hO7 ⊢
   rw [show OwnU w7 H=OwnU w7 w6.heap.size by rw [hHe]] at hO7
   have hHw:w6.heap.size≤H:=by omega
   have HQ7:Hid (R2 w6 H n n (lst n (fun _=>(0:Fin p))) w7):=zy ⟨hB7,hO7⟩
   have hG6:G<w6.heap.size:=by omega
   have hGH:G≠H:=by omega
   clear hown hgrow hB7 hO7 hHe
   go_wp2_with fail
   refine (HOut.out w7).mono ?_
   rintro e w8 ⟨VO,rfl,hownO,hB8⟩
   obtain ⟨AO,cO,rfl,hRO⟩:=RdI.of_own (xs:=full n (outF a b)) (by rw [zHS];exact hownO)
   rw [zHS]
   obtain ⟨bO,oO,rfl,hbO,hcO⟩:=hRO (by rw [zHS];exact hn0)
   have hbO7:w7.heap.size≤bO:=(World.ownsRow.lt hownO bO (by rfl)).1
   have hH7:H<w7.heap.size:=(World.ownsRow.lt HQ7.out.2 H rfl).2
   have HcO:Hid (∀wz k,But H w8 wz→k<n→wz.cell? ⟨bO,oO+k,none⟩=some (.int .i64 ((k%a*b+k%b:Nat):Int))):=zy (fun wz k hz hk=>by
    have h1:=hcO k (by rw [zHS];exact hk)
    rw [zHR hk] at h1
    exact hz.cell hbO (by omega) h1)
   have HcT:Hid (∀wz o,Below w6.heap.size w6 wz→o<n→wz.cell? ⟨G,o,none⟩=some (.int .u64 ((T2 o).val:Int))):=zy (fun wz o hz ho=>by
    have h1:=(zN9 HO6.out o ho).1
    rw [zKY ho] at h1
    exact zDs hz hG6 h1)
   have HQ8:Hid (R2 w6 H n n (lst n (fun _=>(0:Fin p))) w8∧But H w8 w8):=zy ⟨⟨HQ7.out.1.trans (hB8.mono HQ7.out.1.size),HQ7.out.2.below hB8⟩,But.refl _ _⟩
   clear hownO hRO hcO hB8 HQ7 HOut
   go_wp2
   go_loopw [80] (fun I wr=> ∃(k:Nat) (F:Nat→Fin p),I= .int .i64 k∧k≤n∧Hid (∀t,t<k→F t=tr (zt p g) n inv x t)∧Hid (R2 w6 H n n (lst n F) wr∧But H w8 wr)) (fun I _=>n-(intOf I).toNat)
   case atStart=>exact ⟨0,_,rfl,by omega,zy (fun t ht=>absurd ht (Nat.not_lt_zero _)),HQ8⟩
   case round=>
    clear HQ8
    obtain ⟨k,F,rfl,hk,hF,hQ⟩:=hrel
    rename World=>wz
    by_cases hlt:k<n
    ·have tk:decide ((k:Int)<(n:Int))=true:=decide_eq_true (by omega)
     have c0:=HcO.out wz k hQ.out.2 hlt
     have hip:=HOP.out k
     have c1:=HcT.out wz (k%a*b+k%b) hQ.out.1.1 hip
     have hTk:=HT2.out k
     have hF2:Hid (∀t,t<k+1→upd F k (T2 (k%a*b+k%b)) t=tr (zt p g) n inv x t):=zy (fun t ht=>by
      by_cases e:t=k
      ·subst e;rw [upd_same];exact hTk
      ·rw [zWh e];exact hF.out t (by omega))
     obtain ⟨z,hz⟩: ∃z,z=k%a*b+k%b:=⟨_,rfl⟩
     rw [←hz] at c0 c1 hip hF2
     obtain ⟨y,hy⟩: ∃y,y=T2 z:=⟨_,rfl⟩
     rw [←hy] at c1 hF2
     obtain ⟨c2,f2,_⟩:=zN9 hQ.out.1.2 k hlt
     have hO1:=(hQ.out.1.2.set k hlt (y.val:Int)).1
     rw [zLe] at hO1
     have HQ2:Hid (R2 w6 H n n (lst n (upd F k y)) (wz.setCell ⟨H,k,none⟩ (.int .u64 (y.val:Int)))∧But H w8 (wz.setCell ⟨H,k,none⟩ (.int .u64 (y.val:Int)))):=zy ⟨⟨zCn hQ.out.1.1 hHw k _,hO1⟩,hQ.out.2.trans (But.setCell H k wz _)⟩
     have i1:(0:Int)≤(z:Int):=by omega
     have i2:(z:Int)<(n:Int):=by omega
     have i4:(0:Int)≤(k:Int):=by omega
     have i5:(k:Int)<(n:Int):=by omega
     clear hz hy hO1 hQ hF hTk
     go_wp2
     go_roundw
     case rel=>exact ⟨k+1,upd F k y,by go_num,by omega,hF2,HQ2⟩
     case measure=>simp [intOf];omega
    ·obtain rfl:n=k:=by omega
     have tk:decide ((n:Int)<(n:Int))=false:=by simp
     have hO:=hQ.out.1.2
     rw [zKW (fun t ht=>hF.out t ht)] at hO
     have HO:=zy (hO.mono HBw6.out.size)
     have HB:=zy (HBw6.out.trans (hQ.out.1.1.mono HBw6.out.size))
     clear hO hQ hF
     go_wp2
     go_ret2
     exact ⟨_,rfl,HO.out,HB.out⟩
end
end Go.Proofs.YtmalmijdjhkklaaGreat
