/- mixed: a stage's one. -/
import Derived.Test.YtmalmijdjhkklaaGreatMixB
import Derived.Test.YtmalmijdjhkklaaGreatWSeqToSmall
import Derived.Test.YtmalmijdjhkklaaGreatWPlFToPlI
set_option linter.unusedVariables false
set_option linter.unusedSimpArgs false
set_option linter.unusedSectionVars false
section
/- mixed: a stage's one. -/
namespace Go.Proofs.YtmalmijdjhkklaaGreat
open Go.RowKit
open Alg
structure OneI {p:Nat} [NeZero p] (w:World) (SV:Array Value) (G B n c r:Nat) (T F:Nat→Fin p) (wr:World):Prop where
 but:But G w wr
 box:zAI wr w.heap.size 168 SV
 t:OwnU wr w.heap.size (.slice (some ⟨w.heap.size+1,0,none⟩) r r) r (lst r T)
 own:OwnU wr B (.slice (some ⟨G,0,none⟩) n c) n (lst n F)
theorem OneI.keep {p:Nat} [NeZero p] {w:World} {SV:Array Value} {G B n c r:Nat} {T F:Nat→Fin p} {wr W':World} (h:OneI w SV G B n c r T F wr) (hb:Below wr.heap.size wr W'):OneI w SV G B n c r T F W':=
 ⟨h.but.trans (But.of_below hb),h.box.keep hb,h.t.below hb,h.own.below hb⟩
theorem OneI.setT {p:Nat} [NeZero p] {w:World} {SV:Array Value} {G B n c r:Nat} {T F:Nat→Fin p} {wr:World} (h:OneI w SV G B n c r T F wr) (hG:G<w.heap.size) (j:Nat) (hj:j<r) (x:Fin p):
  OneI w SV G B n c r (upd T j x) F (wr.setCell ⟨w.heap.size+1,j,none⟩ (.int .u64 ((x.val:Nat):Int))):=by
 have h1:=(h.t.set j hj ((x.val:Nat):Int)).1
 rw [zLe] at h1
 refine ⟨⟨h.but.os,h.but.tape,h.but.output,by have:=h.but.size;simpa using this,fun k hk hn=>?_⟩,h.box.setOther _ _ (by simp),h1,zN7 h.own (by omega) _⟩
 rw [heap_setCell_other _ _ _ _ (by simp;omega)]
 exact h.but.block k hk hn
theorem OneI.setF {p:Nat} [NeZero p] {w:World} {SV:Array Value} {G B n c r:Nat} {T F:Nat→Fin p} {wr:World} (h:OneI w SV G B n c r T F wr) (hG:G<w.heap.size) (j:Nat) (hj:j<n) (x:Fin p):
  OneI w SV G B n c r T (upd F j x) (wr.setCell ⟨G,j,none⟩ (.int .u64 ((x.val:Nat):Int))):=by
 have h1:=(h.own.set j hj ((x.val:Nat):Int)).1
 rw [zLe] at h1
 exact ⟨h.but.trans (But.setCell G j wr _),h.box.setOther _ _ (by simp;omega),zN7 h.t (by omega) _,h1⟩
set_option maxHeartbeats 8000000 in
set_option maxRecDepth 100000 in
theorem zLN {p:Nat} [NeZero p] {w:World} {g:Int} (v:Value) (bT oT n cT r m:Nat) (B0 B G c st b k:Nat) (W:Int) (ω:Fin p) (F:Nat→Fin p) (h:Fd w B0 v p g) (hW:zt p W=ω) (hω:pw ω n=1) (hst:n=st*(r*m)) (hn:n≤1024) (hn0:0<n) (hr:2≤r∧r≤7) (hk:k<m) (hbn:(b+1)*(r*m)≤n)
  (hB0:B0≤G) (hbT:bT<B0) (hG:G<w.heap.size) (hc: ∀i,i<n→w.cell? ⟨bT,oT+i,none⟩=some (.int .u64 (lft p (W^i)))) (hO:OwnU w B (.slice (some ⟨G,0,none⟩) n c) n (lst n F)):
  Calls Tryz.prog 176 #[.agg #[v, .slice (some ⟨bT,oT,none⟩) n cT, .int .i64 (r:Int), .int .i64 (m:Int)], .slice (some ⟨G,b*(r*m),none⟩) (r*m) (r*m), .int .i64 (k:Int)] w fun e w'=>(∃u,e= .returned u)∧ ∃F',OwnU w' B (.slice (some ⟨G,0,none⟩) n c) n (lst n F')∧But G w w'∧
   Hid (∀i,i<r→F' (b*(r*m)+i*m+k)=sm r fun q=>pw ω (q*(i*m+k)*st)*F (b*(r*m)+q*m+k))∧Hid (∀j,(∀i,i<r→j≠b*(r*m)+i*m+k)→F' j=F j):=by
 obtain ⟨i0,hi,hz0,hz1,hz2⟩:=info_parts zJt
 have HPM:=Lib.hid (And.intro h.p3 h.pmx)
 have HFd:=Lib.hid h
 have HO:=Lib.hid hO
 have HG:=Lib.hid hG
 have HLF:Hid (∀e:Nat,e≤1048576→ ∀wz,But G w wz→Calls Tryz.prog 206 #[.agg #[v, .slice (some ⟨bT,oT,none⟩) n cT, .int .i64 (r:Int), .int .i64 (m:Int)], .int .i64 (e:Int)] wz fun x w'=>x= .returned (.int .u64 (lft p (W^(e*st%n))))∧Below wz.heap.size wz w'):=Lib.hid (fun e he wz hz=>
  zK9 v bT oT n cT r m W st e wz hst hn hn0 he (fun i hi=>hz.cell (by omega) (by omega) (hc i hi)))
 have HTM:Hid (∀(e:Nat) (x:Fin p) wz,But G w wz→Calls Tryz.prog 81 #[v, .int .u64 (lft p (W^(e%n))), .int .u64 (x.val:Int)] wz fun y w'=>y= .returned (.int .u64 ((pw ω e*x:Fin p).val:Int))∧ ∃q,w'=wz.drewN q):=Lib.hid (fun e x wz hz=>by
  have h1:=zHM (h.below (hz.below (by omega) hB0)) (W^(e%n)) (x.val:Int) (by omega) (by have:=x.isLt;have:=HPM.out.2;omega)
  rw [zGv,zt_of_val,zt_pow,hW,←pw_mod hω] at h1
  exact h1)
 have HAD:Hid (∀(x y:Fin p) wz,But G w wz→Calls Tryz.prog 80 #[v, .int .u64 (x.val:Int), .int .u64 (y.val:Int)] wz fun z w'=>z= .returned (.int .u64 ((x+y:Fin p).val:Int))∧ ∃q,w'=wz.drewN q):=Lib.hid (fun x y wz hz=>by
  have hlp: ∀x:Fin p,0≤((x.val:Nat):Int)∧((x.val:Nat):Int)≤18446744073709551615:=fun x=>by have:=x.isLt;have:=HPM.out.2;omega
  have h1:=zG9 (h.below (hz.below (by omega) hB0)) (x.val:Int) (y.val:Int) (hlp x).1 (hlp x).2 (hlp y).1 (hlp y).2
  rw [zGt,zt_of_val,zt_of_val] at h1
  exact h1)
 have R1:=Lib.hid (lay1 w 168 #[v, .slice (some ⟨bT,oT,none⟩) n cT, .int .i64 (r:Int), .int .i64 (m:Int)])
 obtain ⟨z,hz⟩: ∃z,z=r*m:=⟨_,rfl⟩
 obtain ⟨s0,hs0⟩: ∃s,s=b*(r*m):=⟨_,rfl⟩
 rw [Nat.add_mul,Nat.one_mul,←hs0,←hz] at hbn
 have HIx:Hid (∀i,i<r→i*m+k<z):=Lib.hid (fun i hi=>by
  have:(i+1)*m≤r*m:=Nat.mul_le_mul_right _ hi
  rw [Nat.add_mul,Nat.one_mul] at this
  omega)
 have hmz:m≤z:=by rw [hz];exact Nat.le_mul_of_pos_left _ (by omega)
 rw [←hs0,←hz]
 have d2:=R1.out.1.cell (i:=2) (v:= .int .i64 (r:Int)) rfl
 have HB1:=Lib.hid R1.out.2
 clear h hW hω hst hbT hc hO hz hs0 hB0 hG
 go_enter Tryz.func176,Tryz.ntmps176
 go_wp2_with (at_make;refine wpList_make_full _ rfl _ _ 54 rfl w.heap.size 22 i0 (.int .u64 0) 1 Tryz.underlying54 hi hz0 hz1 _ _ _ _ r rfl rfl ?l1 ?l2 ?b2 ?b3 HB1.out.size ?_)
 case l1=>omega
 case l2=>omega
 case b2=>rw [hz2];omega
 case b3=>unfold maxLen;omega
 intro w3 hown hgrow
 have hQ3:Hid (OneI w #[v, .slice (some ⟨bT,oT,none⟩) n cT, .int .i64 (r:Int), .int .i64 (m:Int)] G B n c r (fun _=>0) F w3):=Lib.hid (by
  have hb3:Below w.heap.size w w3:=HB1.out.grown hgrow HB1.out.size (fun k h=>by cases h)
  have h1:=zLs (p:=p) hown
  have hb4:Below (w.alloc (.cells #[v, .slice (some ⟨bT,oT,none⟩) n cT, .int .i64 (r:Int), .int .i64 (m:Int)] 168)).heap.size (w.alloc (.cells #[v, .slice (some ⟨bT,oT,none⟩) n cT, .int .i64 (r:Int), .int .i64 (m:Int)] 168)) w3:=(Below.refl _ _).grown hgrow (Nat.le_refl _) (fun k h=>by cases h)
  exact ⟨But.of_below hb3,R1.out.1.keep hb4,h1,HO.out.below hb3⟩)
 have hT3:Hid (∀j,j<0→(fun _=>(0:Fin p)) j=pw ω (j*k*st)*F (s0+j*m+k)):=Lib.hid (fun j hj=>by omega)
 clear hown hgrow R1 d2
 go_wp2
 go_loopw [17] (fun I wr=> ∃(q:Nat) (T:Nat→Fin p),I= .int .i64 q∧q≤r∧Hid (∀j,j<q→T j=pw ω (j*k*st)*F (s0+j*m+k))∧Hid (OneI w #[v, .slice (some ⟨bT,oT,none⟩) n cT, .int .i64 (r:Int), .int .i64 (m:Int)] G B n c r T F wr)) (fun I _=>r-(intOf I).toNat)
 case atStart=>exact ⟨0,_,rfl,by omega,hT3,hQ3⟩
 case round=>
  clear hQ3 hT3
  obtain ⟨q,T,rfl,hq,hT,hQ⟩:=hrel
  by_cases hlt:q<r
  ·have tk:decide ((q:Int)<(r:Int))=true:=decide_eq_true (by omega)
   have hix:=HIx.out q hlt
   obtain ⟨y,hy⟩: ∃y,y=q*m:=⟨_,rfl⟩
   have ey:(q:Int)*(m:Int)=(y:Int):=by rw [hy,Int.natCast_mul]
   rw [←hy] at hix
   obtain ⟨u,hu⟩: ∃u,u=q*k:=⟨_,rfl⟩
   have eu:(q:Int)*(k:Int)=(u:Int):=by rw [hu,Int.natCast_mul]
   have hub:u≤1048576:=by rw [hu];exact Nat.le_trans (Nat.mul_le_mul (by omega:q≤7) (by omega:k≤1024)) (by omega)
   obtain ⟨j,hj⟩: ∃j,j=y+k:=⟨_,rfl⟩
   have ej:(y:Int)+(k:Int)=(j:Int):=by omega
   obtain ⟨x,hx⟩: ∃x,x=F (s0+j):=⟨_,rfl⟩
   obtain ⟨X1,hX1⟩: ∃X1,X1=pw ω (u*st)*x:=⟨_,rfl⟩
   have hoj:s0+j<n:=by omega
   have HSZ:Hid (∀wz,OneI w #[v, .slice (some ⟨bT,oT,none⟩) n cT, .int .i64 (r:Int), .int .i64 (m:Int)] G B n c r T F wz→(zAI wz w.heap.size 168 #[v, .slice (some ⟨bT,oT,none⟩) n cT, .int .i64 (r:Int), .int .i64 (m:Int)]∧wz.cell? ⟨w.heap.size,0,none⟩=some v∧wz.cell? ⟨w.heap.size,3,none⟩=some (.int .i64 (m:Int))∧wz.cell? ⟨G,s0+j,none⟩=some (.int .u64 (x.val:Int)))):=Lib.hid (fun wz hz=>⟨hz.box,hz.box.cell rfl,hz.box.cell rfl,by
    have h1:=(zN9 hz.own (s0+j) hoj).1
    rw [zKY hoj,←hx] at h1
    exact h1⟩)
   have HSZ2:Hid (∀wz,OneI w #[v, .slice (some ⟨bT,oT,none⟩) n cT, .int .i64 (r:Int), .int .i64 (m:Int)] G B n c r (upd T q X1) F wz→(zAI wz w.heap.size 168 #[v, .slice (some ⟨bT,oT,none⟩) n cT, .int .i64 (r:Int), .int .i64 (m:Int)]∧wz.cell? ⟨w.heap.size,0,none⟩=some v∧wz.cell? ⟨w.heap.size,3,none⟩=some (.int .i64 (m:Int))∧wz.cell? ⟨G,s0+j,none⟩=some (.int .u64 (x.val:Int)))):=Lib.hid (fun wz hz=>⟨hz.box,hz.box.cell rfl,hz.box.cell rfl,by
    have h1:=(zN9 hz.own (s0+j) hoj).1
    rw [zKY hoj,←hx] at h1
    exact h1⟩)
   have KP:Hid (∀W W',OneI w #[v, .slice (some ⟨bT,oT,none⟩) n cT, .int .i64 (r:Int), .int .i64 (m:Int)] G B n c r T F W→Below W.heap.size W W'→OneI w #[v, .slice (some ⟨bT,oT,none⟩) n cT, .int .i64 (r:Int), .int .i64 (m:Int)] G B n c r T F W'):=Lib.hid (fun W W' h hB=>h.keep hB)
   have HLf:=Lib.hid (HLF.out u hub)
   have HTm:=Lib.hid (HTM.out (u*st) x)
   rw [←hX1] at HTm
   obtain ⟨lq,hlq⟩: ∃lq,lq=lft p (W^(u*st%n)):=⟨_,rfl⟩
   rw [←hlq] at HLf HTm
   have z0:Hid (OneI w #[v, .slice (some ⟨bT,oT,none⟩) n cT, .int .i64 (r:Int), .int .i64 (m:Int)] G B n c r T F (wr.drewN 1)):=Lib.hid (KP.out _ _ hQ.out (below_drewN (Below.refl _ _) 1))
   have hT2:Hid (∀j,j<q+1→upd T q X1 j=pw ω (j*k*st)*F (s0+j*m+k)):=Lib.hid (fun j' hj'=>by
    by_cases e:j'=q
    ·subst e;rw [upd_same,hX1,hx,hu,hj,hy,Nat.add_assoc]
    ·rw [zWh e];exact hT.out j' (by omega))
   have i1:(0:Int)≤(j:Int):=by omega
   have i2:(j:Int)<(z:Int):=by omega
   have i3:(0:Int)≤(q:Int):=by omega
   have i4:(q:Int)<(r:Int):=by omega
   have w1:IntKind.i64.wrap (u:Int)=(u:Int):=IntWalk.i64_in _ (by omega)
   have w2:IntKind.i64.wrap (y:Int)=(y:Int):=IntWalk.i64_in _ (by omega)
   have w3:IntKind.i64.wrap (j:Int)=(j:Int):=IntWalk.i64_in _ (by omega)
   clear hy hu hj hx hX1 hlq hT hQ
   go_upto_region 5 with fail
   refine wp_region_held_drew (S:=fun wz=>zAI wz w.heap.size 168 #[v, .slice (some ⟨bT,oT,none⟩) n cT, .int .i64 (r:Int), .int .i64 (m:Int)]∧wz.cell? ⟨w.heap.size,0,none⟩=some v∧wz.cell? ⟨w.heap.size,3,none⟩=some (.int .i64 (m:Int))∧wz.cell? ⟨G,s0+j,none⟩=some (.int .u64 (x.val:Int))) (by kernel_rfl) (HSZ.out _ z0.out) (fun hHeld=>?_)
   clear hHeld
   refine wpAnyH_take (i:=0) (v:=?_) rfl (by kernel_rfl) (by kernel_rfl) (by kernel_rfl) (fun _ _ _ h=>h) (Or.inl ⟨by rfl,?_⟩) (HSZ.out _ z0.out) ?_
   rotate_left
   ·intro w hSw;(try dsimp only at hSw);go_simp;try with_reducible rfl
   try simp only [Act.put,List.getElem_toArray,List.getElem_cons_zero,List.getElem_cons_succ,List.setIfInBounds_toArray,List.set_cons_zero,List.set_cons_succ]
   refine wpAnyH_take (i:=1) (v:=?_) rfl (by kernel_rfl) (by kernel_rfl) (by kernel_rfl) (fun _ _ _ h=>h) (Or.inl ⟨by rfl,?_⟩) (HSZ.out _ z0.out) ?_
   rotate_left
   ·intro w hSw;(try dsimp only at hSw);go_simp;try with_reducible rfl
   try simp only [Act.put,List.getElem_toArray,List.getElem_cons_zero,List.getElem_cons_succ,List.setIfInBounds_toArray,List.set_cons_zero,List.set_cons_succ]
   refine wpAnyH_take (i:=2) (v:=?_) rfl (by kernel_rfl) (by kernel_rfl) (by kernel_rfl) (fun _ _ _ h=>h) (Or.inl ⟨by rfl,?_⟩) (HSZ.out _ z0.out) ?_
   rotate_left
   ·intro w hSw;(try dsimp only at hSw);go_simp;try with_reducible rfl
   try simp only [Act.put,List.getElem_toArray,List.getElem_cons_zero,List.getElem_cons_succ,List.setIfInBounds_toArray,List.set_cons_zero,List.set_cons_succ]
   refine wpAnyH_take (i:=3) (v:=?_) rfl (by kernel_rfl) (by kernel_rfl) (by kernel_rfl) (fun _ _ _ h=>h) (Or.inl ⟨by rfl,?_⟩) (HSZ.out _ z0.out) ?_
   rotate_left
   ·intro w hSw;(try dsimp only at hSw);go_simp;try with_reducible rfl
   try simp only [Act.put,List.getElem_toArray,List.getElem_cons_zero,List.getElem_cons_succ,List.setIfInBounds_toArray,List.set_cons_zero,List.set_cons_succ]
   refine wpAnyH_take (i:=4) rfl (by kernel_rfl) (by kernel_rfl) (by kernel_rfl) (fun _ _ _ h=>h) (zXh (by rfl) _ _ rfl _ rfl _ _ _ (fun wz h=>h.1) Tryz.underlying168 rfl (by exact zTB)) (HSZ.out _ z0.out) ?_
   try simp only [Act.put,List.getElem_toArray,List.getElem_cons_zero,List.getElem_cons_succ,List.setIfInBounds_toArray,List.set_cons_zero,List.set_cons_succ]
   refine wpAnyH_take (i:=5) (v:=?_) rfl (by kernel_rfl) (by kernel_rfl) (by kernel_rfl) (fun _ _ _ h=>h) (Or.inl ⟨by rfl,?_⟩) (HSZ.out _ z0.out) ?_
   rotate_left
   ·intro w hSw;(try dsimp only at hSw);go_simp;try with_reducible rfl
   try simp only [Act.put,List.getElem_toArray,List.getElem_cons_zero,List.getElem_cons_succ,List.setIfInBounds_toArray,List.set_cons_zero,List.set_cons_succ]
   refine wpAnyH_take (i:=6) (v:=?_) rfl (by kernel_rfl) (by kernel_rfl) (by kernel_rfl) (fun _ _ _ h=>h) (Or.inl ⟨by rfl,?_⟩) (HSZ.out _ z0.out) ?_
   rotate_left
   ·intro w hSw;(try dsimp only at hSw);go_simp;try with_reducible rfl
   try simp only [Act.put,List.getElem_toArray,List.getElem_cons_zero,List.getElem_cons_succ,List.setIfInBounds_toArray,List.set_cons_zero,List.set_cons_succ]
   refine wpAnyH_take (i:=7) (v:=?_) rfl (by kernel_rfl) (by kernel_rfl) (by kernel_rfl) (fun _ _ _ h=>h) (Or.inl ⟨by rfl,?_⟩) (HSZ.out _ z0.out) ?_
   rotate_left
   ·intro w hSw;(try dsimp only at hSw);go_simp;try with_reducible rfl
   try simp only [Act.put,List.getElem_toArray,List.getElem_cons_zero,List.getElem_cons_succ,List.setIfInBounds_toArray,List.set_cons_zero,List.set_cons_succ]
   refine wpAnyH_take (i:=9) (v:=?_) rfl (by kernel_rfl) (by kernel_rfl) (by kernel_rfl) (fun _ _ _ h=>h) (Or.inl ⟨by rfl,?_⟩) (HSZ.out _ z0.out) ?_
   rotate_left
   ·intro w hSw;(try dsimp only at hSw);go_simp;try with_reducible rfl
   try simp only [Act.put,List.getElem_toArray,List.getElem_cons_zero,List.getElem_cons_succ,List.setIfInBounds_toArray,List.set_cons_zero,List.set_cons_succ]
   refine wpAnyH_take (i:=10) (v:=?_) rfl (by kernel_rfl) (by kernel_rfl) (by kernel_rfl) (fun _ _ _ h=>h) (Or.inl ⟨by rfl,?_⟩) (HSZ.out _ z0.out) ?_
   rotate_left
   ·intro w hSw;(try dsimp only at hSw);go_simp;try with_reducible rfl
   try simp only [Act.put,List.getElem_toArray,List.getElem_cons_zero,List.getElem_cons_succ,List.setIfInBounds_toArray,List.set_cons_zero,List.set_cons_succ]
   refine wpAnyH_take (i:=11) (v:=?_) rfl (by kernel_rfl) (by kernel_rfl) (by kernel_rfl) (fun _ _ _ h=>h) (Or.inl ⟨by rfl,?_⟩) (HSZ.out _ z0.out) ?_
   rotate_left
   ·intro w hSw;(try dsimp only at hSw);go_simp;try with_reducible rfl
   try simp only [Act.put,List.getElem_toArray,List.getElem_cons_zero,List.getElem_cons_succ,List.setIfInBounds_toArray,List.set_cons_zero,List.set_cons_succ]
   refine wpAnyH_take (i:=12) (v:=?_) rfl (by kernel_rfl) (by kernel_rfl) (by kernel_rfl) (fun _ _ _ h=>h) (Or.inl ⟨by rfl,?_⟩) (HSZ.out _ z0.out) ?_
   rotate_left
   ·intro w hSw;(try dsimp only at hSw);go_simp;try with_reducible rfl
   try simp only [Act.put,List.getElem_toArray,List.getElem_cons_zero,List.getElem_cons_succ,List.setIfInBounds_toArray,List.set_cons_zero,List.set_cons_succ]
   refine wpAnyH_take (i:=13) (v:=?_) rfl (by kernel_rfl) (by kernel_rfl) (by kernel_rfl) (fun _ _ _ h=>h) (Or.inl ⟨by rfl,?_⟩) (HSZ.out _ z0.out) ?_
   rotate_left
   ·intro w hSw;(try dsimp only at hSw);go_simp;try with_reducible rfl
   try simp only [Act.put,List.getElem_toArray,List.getElem_cons_zero,List.getElem_cons_succ,List.setIfInBounds_toArray,List.set_cons_zero,List.set_cons_succ]
   refine wpAnyH_take (i:=14) (v:=?_) rfl (by kernel_rfl) (by kernel_rfl) (by kernel_rfl) (fun _ _ _ h=>h) (Or.inl ⟨by rfl,?_⟩) (HSZ.out _ z0.out) ?_
   rotate_left
   ·intro w hSw;(try dsimp only at hSw);go_simp;try with_reducible rfl
   try simp only [Act.put,List.getElem_toArray,List.getElem_cons_zero,List.getElem_cons_succ,List.setIfInBounds_toArray,List.set_cons_zero,List.set_cons_succ]
   refine wpAnyH_take (i:=15) (v:=?_) rfl (by kernel_rfl) (by kernel_rfl) (by kernel_rfl) (fun _ _ _ h=>h) (Or.inl ⟨by rfl,?_⟩) (HSZ.out _ z0.out) ?_
   rotate_left
   ·intro w hSw;(try dsimp only at hSw);go_simp;try with_reducible rfl
   try simp only [Act.put,List.getElem_toArray,List.getElem_cons_zero,List.getElem_cons_succ,List.setIfInBounds_toArray,List.set_cons_zero,List.set_cons_succ]
   refine wpAnyH_take (i:=16) (v:=?_) rfl (by kernel_rfl) (by kernel_rfl) (by kernel_rfl) (fun _ _ _ h=>h) (Or.inl ⟨by rfl,?_⟩) (HSZ.out _ z0.out) ?_
   rotate_left
   ·intro w hSw;(try dsimp only at hSw);go_simp;try with_reducible rfl
   try simp only [Act.put,List.getElem_toArray,List.getElem_cons_zero,List.getElem_cons_succ,List.setIfInBounds_toArray,List.set_cons_zero,List.set_cons_succ]
   refine wpAnyH_take (i:=17) (v:=?_) rfl (by kernel_rfl) (by kernel_rfl) (by kernel_rfl) (fun _ _ _ h=>h) (Or.inl ⟨by rfl,?_⟩) (HSZ.out _ z0.out) ?_
   rotate_left
   ·intro w hSw;(try dsimp only at hSw);go_simp;try with_reducible rfl
   try simp only [Act.put,List.getElem_toArray,List.getElem_cons_zero,List.getElem_cons_succ,List.setIfInBounds_toArray,List.set_cons_zero,List.set_cons_succ]
   refine wpAnyH_ready (rs:= [8]) (by kernel_rfl) (by simp) ?_
   refine AllReadyH.cons rfl (fun K hK=>?_) AllReadyH.nil
   try simp only [List.getElem_toArray,List.getElem_cons_zero,List.getElem_cons_succ]
   rw [if_pos (by rfl)]
   go_wp2_with (go_at_call 206;refine (HLf.out _ z0.out.but).mono ?_;rintro e w8 ⟨rfl,hY⟩)
   have z8:=Lib.hid (KP.out _ _ z0.out hY)
   clear hY
   refine hK.out _ _ ((HSZ.out _ z8.out)) (fun _=>?_)
   clear hK K
   try simp only [Act.put,List.getElem_toArray,List.getElem_cons_zero,List.getElem_cons_succ,List.setIfInBounds_toArray,List.set_cons_zero,List.set_cons_succ]
   refine wpAnyH_ready (rs:= [18]) (by kernel_rfl) (by simp) ?_
   refine AllReadyH.cons rfl (fun K hK=>?_) AllReadyH.nil
   try simp only [List.getElem_toArray,List.getElem_cons_zero,List.getElem_cons_succ]
   rw [if_pos (by rfl)]
   go_wp2_with (go_at_call 81;refine (HTm.out _ z8.out.but).mono ?_;rintro e w9 ⟨rfl,n9,rfl⟩)
   have z9:=Lib.hid (KP.out _ _ z8.out (below_drewN (Below.refl _ _) n9))
   refine hK.out _ _ ((HSZ.out _ z9.out)) (fun _=>?_)
   clear hK K
   try simp only [Act.put,List.getElem_toArray,List.getElem_cons_zero,List.getElem_cons_succ,List.setIfInBounds_toArray,List.set_cons_zero,List.set_cons_succ]
   refine wpAnyH_take (i:=19) (v:=?_) rfl (by kernel_rfl) (by kernel_rfl) (by kernel_rfl) (fun _ _ _ h=>h) (Or.inl ⟨by rfl,?_⟩) (HSZ.out _ z9.out) ?_
   rotate_left
   ·intro w hSw;(try dsimp only at hSw);go_simp;try with_reducible rfl
   try simp only [Act.put,List.getElem_toArray,List.getElem_cons_zero,List.getElem_cons_succ,List.setIfInBounds_toArray,List.set_cons_zero,List.set_cons_succ]
   have f9:=(zN9 z9.out.t q hlt).2.1
   have g9:=(zN9 z9.out.t q hlt).1
   have z10:=Lib.hid (z9.out.setT HG.out q hlt X1)
   refine wpAnyH_ready (rs:= [20]) (by kernel_rfl) (by simp) ?_
   refine AllReadyH.cons rfl (fun K hK=>?_) AllReadyH.nil
   try simp only [List.getElem_toArray,List.getElem_cons_zero,List.getElem_cons_succ]
   rw [if_pos (by rfl)]
   go_wp2_with fail
   refine hK.out _ _ (HSZ2.out _ z10.out) (fun _=>?_)
   clear hK K
   try simp only [Act.put,List.getElem_toArray,List.getElem_cons_zero,List.getElem_cons_succ,List.setIfInBounds_toArray,List.set_cons_zero,List.set_cons_succ]
   refine wpAnyH_done (by kernel_rfl) ?_ _
   go_wp2
   go_roundw
   case rel=>exact ⟨q+1,upd T q X1,by go_num,by omega,hT2,z10⟩
   case measure=>simp [intOf];omega
  ·obtain rfl:r=q:=by omega
   have tk:decide ((r:Int)<(r:Int))=false:=by simp
   have HT:Hid (∀j,j<r→T j=pw ω (j*k*st)*F (s0+j*m+k)):=Lib.hid hT.out
   have hF0:Hid (∀i,i<0→F (s0+i*m+k)=sm r fun y=>pw ω (y*i*m*st)*T y):=Lib.hid (fun i hi=>by omega)
   clear hT
   go_wp2
   go_loopw [43] (fun I wr=> ∃(i:Nat) (F':Nat→Fin p),I= .int .i64 i∧i≤r∧Hid (∀i',i'<i→F' (s0+i'*m+k)=sm r fun y=>pw ω (y*i'*m*st)*T y)∧Hid (∀j,(∀i',i'<i→j≠s0+i'*m+k)→F' j=F j)∧Hid (OneI w #[v, .slice (some ⟨bT,oT,none⟩) n cT, .int .i64 (r:Int), .int .i64 (m:Int)] G B n c r T F' wr)) (fun I _=>r-(intOf I).toNat)
   case atStart=>exact ⟨0,F,rfl,by omega,hF0,Lib.hid (fun _ _=>rfl),hQ⟩
   case round=>
    clear hQ hF0
    obtain ⟨i,F',rfl,hi',hnew,hold,hQ⟩:=hrel
    by_cases hli:i<r
    ·have ti:decide ((i:Int)<(r:Int))=true:=decide_eq_true (by omega)
     have hS0:Hid ((0:Fin p)=sm 0 fun y=>pw ω (y*i*m*st)*T y):=Lib.hid rfl
     have e0:((0:Fin p).val:Int)=0:=by simp
     go_wp2
     go_loopw [9,48] (fun A I wr=> ∃(y:Nat) (s:Fin p),I= .int .i64 y∧A= .int .u64 (s.val:Int)∧y≤r∧Hid (s=sm y fun y=>pw ω (y*i*m*st)*T y)∧Hid (OneI w #[v, .slice (some ⟨bT,oT,none⟩) n cT, .int .i64 (r:Int), .int .i64 (m:Int)] G B n c r T F' wr)) (fun _ I _=>r-(intOf I).toNat)
     case atStart=>exact ⟨0,0,rfl,by rw [e0],by omega,hS0,hQ⟩
     case round=>
      clear hQ hS0 e0
      obtain ⟨y,s,rfl,rfl,hy,hs,hQ⟩:=hrel
      by_cases hly:y<r
      ·have ty:decide ((y:Int)<(r:Int))=true:=decide_eq_true (by omega)
       have c1:=(zN9 hQ.out.t y hly).1
       rw [zKY hly] at c1
       obtain ⟨x,hx⟩: ∃x,x=T y:=⟨_,rfl⟩
       rw [←hx] at c1
       obtain ⟨u1,hu1⟩: ∃u,u=y*i:=⟨_,rfl⟩
       have eu1:(y:Int)*(i:Int)=(u1:Int):=by rw [hu1,Int.natCast_mul]
       obtain ⟨u,hu⟩: ∃u,u=u1*m:=⟨_,rfl⟩
       have eu:(u1:Int)*(m:Int)=(u:Int):=by rw [hu,Int.natCast_mul]
       have hu1b:u1≤49:=by rw [hu1];exact Nat.mul_le_mul (by omega:y≤7) (by omega:i≤7)
       have hub:u≤1048576:=by rw [hu];exact Nat.le_trans (Nat.mul_le_mul hu1b (by omega:m≤1024)) (by omega)
       obtain ⟨X1,hX1⟩: ∃X1,X1=pw ω (u*st)*x:=⟨_,rfl⟩
       obtain ⟨S1,hS1⟩: ∃S1,S1=s+X1:=⟨_,rfl⟩
       have HSZ:Hid (∀wz,OneI w #[v, .slice (some ⟨bT,oT,none⟩) n cT, .int .i64 (r:Int), .int .i64 (m:Int)] G B n c r T F' wz→(zAI wz w.heap.size 168 #[v, .slice (some ⟨bT,oT,none⟩) n cT, .int .i64 (r:Int), .int .i64 (m:Int)]∧wz.cell? ⟨w.heap.size,0,none⟩=some v∧wz.cell? ⟨w.heap.size,3,none⟩=some (.int .i64 (m:Int)))):=Lib.hid (fun wz hz=>⟨hz.box,hz.box.cell rfl,hz.box.cell rfl⟩)
       have KP:Hid (∀W W',OneI w #[v, .slice (some ⟨bT,oT,none⟩) n cT, .int .i64 (r:Int), .int .i64 (m:Int)] G B n c r T F' W→Below W.heap.size W W'→OneI w #[v, .slice (some ⟨bT,oT,none⟩) n cT, .int .i64 (r:Int), .int .i64 (m:Int)] G B n c r T F' W'):=Lib.hid (fun W W' h hB=>h.keep hB)
       have HLf:=Lib.hid (HLF.out u hub)
       have HTm:=Lib.hid (HTM.out (u*st) x)
       have HAd:=Lib.hid (HAD.out s X1)
       rw [←hX1] at HTm
       rw [←hS1] at HAd
       obtain ⟨lq,hlq⟩: ∃lq,lq=lft p (W^(u*st%n)):=⟨_,rfl⟩
       rw [←hlq] at HLf HTm
       have z0:Hid (OneI w #[v, .slice (some ⟨bT,oT,none⟩) n cT, .int .i64 (r:Int), .int .i64 (m:Int)] G B n c r T F' (wr.drewN 1)):=Lib.hid (KP.out _ _ hQ.out (below_drewN (Below.refl _ _) 1))
       have hS2:Hid (S1=sm (y+1) fun y=>pw ω (y*i*m*st)*T y):=Lib.hid (by rw [hS1,hX1,hx,hu,hu1,hs.out];rfl)
       have w1:IntKind.i64.wrap (u1:Int)=(u1:Int):=IntWalk.i64_in _ (by omega)
       have w2:IntKind.i64.wrap (u:Int)=(u:Int):=IntWalk.i64_in _ (by omega)
       clear hu hu1 hx hX1 hS1 hlq hs hQ
       go_upto_region 14 with fail
       refine wp_region_held_drew (S:=fun wz=>zAI wz w.heap.size 168 #[v, .slice (some ⟨bT,oT,none⟩) n cT, .int .i64 (r:Int), .int .i64 (m:Int)]∧wz.cell? ⟨w.heap.size,0,none⟩=some v∧wz.cell? ⟨w.heap.size,3,none⟩=some (.int .i64 (m:Int))) (by kernel_rfl) (HSZ.out _ z0.out) (fun hHeld=>?_)
       clear hHeld
       refine wpAnyH_take (i:=0) (v:=?_) rfl (by kernel_rfl) (by kernel_rfl) (by kernel_rfl) (fun _ _ _ h=>h) (Or.inl ⟨by rfl,?_⟩) (HSZ.out _ z0.out) ?_
       rotate_left
       ·intro w hSw;(try dsimp only at hSw);go_simp;try with_reducible rfl
       try simp only [Act.put,List.getElem_toArray,List.getElem_cons_zero,List.getElem_cons_succ,List.setIfInBounds_toArray,List.set_cons_zero,List.set_cons_succ]
       refine wpAnyH_take (i:=1) (v:=?_) rfl (by kernel_rfl) (by kernel_rfl) (by kernel_rfl) (fun _ _ _ h=>h) (Or.inl ⟨by rfl,?_⟩) (HSZ.out _ z0.out) ?_
       rotate_left
       ·intro w hSw;(try dsimp only at hSw);go_simp;try with_reducible rfl
       try simp only [Act.put,List.getElem_toArray,List.getElem_cons_zero,List.getElem_cons_succ,List.setIfInBounds_toArray,List.set_cons_zero,List.set_cons_succ]
       refine wpAnyH_take (i:=2) (v:=?_) rfl (by kernel_rfl) (by kernel_rfl) (by kernel_rfl) (fun _ _ _ h=>h) (Or.inl ⟨by rfl,?_⟩) (HSZ.out _ z0.out) ?_
       rotate_left
       ·intro w hSw;(try dsimp only at hSw);go_simp;try with_reducible rfl
       try simp only [Act.put,List.getElem_toArray,List.getElem_cons_zero,List.getElem_cons_succ,List.setIfInBounds_toArray,List.set_cons_zero,List.set_cons_succ]
       refine wpAnyH_take (i:=3) (v:=?_) rfl (by kernel_rfl) (by kernel_rfl) (by kernel_rfl) (fun _ _ _ h=>h) (Or.inl ⟨by rfl,?_⟩) (HSZ.out _ z0.out) ?_
       rotate_left
       ·intro w hSw;(try dsimp only at hSw);go_simp;try with_reducible rfl
       try simp only [Act.put,List.getElem_toArray,List.getElem_cons_zero,List.getElem_cons_succ,List.setIfInBounds_toArray,List.set_cons_zero,List.set_cons_succ]
       refine wpAnyH_take (i:=4) (v:=?_) rfl (by kernel_rfl) (by kernel_rfl) (by kernel_rfl) (fun _ _ _ h=>h) (Or.inl ⟨by rfl,?_⟩) (HSZ.out _ z0.out) ?_
       rotate_left
       ·intro w hSw;(try dsimp only at hSw);go_simp;try with_reducible rfl
       try simp only [Act.put,List.getElem_toArray,List.getElem_cons_zero,List.getElem_cons_succ,List.setIfInBounds_toArray,List.set_cons_zero,List.set_cons_succ]
       refine wpAnyH_take (i:=5) rfl (by kernel_rfl) (by kernel_rfl) (by kernel_rfl) (fun _ _ _ h=>h) (zXh (by rfl) _ _ rfl _ rfl _ _ _ (fun wz h=>h.1) Tryz.underlying168 rfl (by exact zTB)) (HSZ.out _ z0.out) ?_
       try simp only [Act.put,List.getElem_toArray,List.getElem_cons_zero,List.getElem_cons_succ,List.setIfInBounds_toArray,List.set_cons_zero,List.set_cons_succ]
       refine wpAnyH_take (i:=6) (v:=?_) rfl (by kernel_rfl) (by kernel_rfl) (by kernel_rfl) (fun _ _ _ h=>h) (Or.inl ⟨by rfl,?_⟩) (HSZ.out _ z0.out) ?_
       rotate_left
       ·intro w hSw;(try dsimp only at hSw);go_simp;try with_reducible rfl
       try simp only [Act.put,List.getElem_toArray,List.getElem_cons_zero,List.getElem_cons_succ,List.setIfInBounds_toArray,List.set_cons_zero,List.set_cons_succ]
       refine wpAnyH_take (i:=7) (v:=?_) rfl (by kernel_rfl) (by kernel_rfl) (by kernel_rfl) (fun _ _ _ h=>h) (Or.inl ⟨by rfl,?_⟩) (HSZ.out _ z0.out) ?_
       rotate_left
       ·intro w hSw;(try dsimp only at hSw);go_simp;try with_reducible rfl
       try simp only [Act.put,List.getElem_toArray,List.getElem_cons_zero,List.getElem_cons_succ,List.setIfInBounds_toArray,List.set_cons_zero,List.set_cons_succ]
       refine wpAnyH_take (i:=8) (v:=?_) rfl (by kernel_rfl) (by kernel_rfl) (by kernel_rfl) (fun _ _ _ h=>h) (Or.inl ⟨by rfl,?_⟩) (HSZ.out _ z0.out) ?_
       rotate_left
       ·intro w hSw;(try dsimp only at hSw);go_simp;try with_reducible rfl
       try simp only [Act.put,List.getElem_toArray,List.getElem_cons_zero,List.getElem_cons_succ,List.setIfInBounds_toArray,List.set_cons_zero,List.set_cons_succ]
       refine wpAnyH_take (i:=9) (v:=?_) rfl (by kernel_rfl) (by kernel_rfl) (by kernel_rfl) (fun _ _ _ h=>h) (Or.inl ⟨by rfl,?_⟩) (HSZ.out _ z0.out) ?_
       rotate_left
       ·intro w hSw;(try dsimp only at hSw);go_simp;try with_reducible rfl
       try simp only [Act.put,List.getElem_toArray,List.getElem_cons_zero,List.getElem_cons_succ,List.setIfInBounds_toArray,List.set_cons_zero,List.set_cons_succ]
       refine wpAnyH_take (i:=10) (v:=?_) rfl (by kernel_rfl) (by kernel_rfl) (by kernel_rfl) (fun _ _ _ h=>h) (Or.inl ⟨by rfl,?_⟩) (HSZ.out _ z0.out) ?_
       rotate_left
       ·intro w hSw;(try dsimp only at hSw);go_simp;try with_reducible rfl
       try simp only [Act.put,List.getElem_toArray,List.getElem_cons_zero,List.getElem_cons_succ,List.setIfInBounds_toArray,List.set_cons_zero,List.set_cons_succ]
       refine wpAnyH_take (i:=11) (v:=?_) rfl (by kernel_rfl) (by kernel_rfl) (by kernel_rfl) (fun _ _ _ h=>h) (Or.inl ⟨by rfl,?_⟩) (HSZ.out _ z0.out) ?_
       rotate_left
       ·intro w hSw;(try dsimp only at hSw);go_simp;try with_reducible rfl
       try simp only [Act.put,List.getElem_toArray,List.getElem_cons_zero,List.getElem_cons_succ,List.setIfInBounds_toArray,List.set_cons_zero,List.set_cons_succ]
       refine wpAnyH_take (i:=13) (v:=?_) rfl (by kernel_rfl) (by kernel_rfl) (by kernel_rfl) (fun _ _ _ h=>h) (Or.inl ⟨by rfl,?_⟩) (HSZ.out _ z0.out) ?_
       rotate_left
       ·intro w hSw;(try dsimp only at hSw);go_simp;try with_reducible rfl
       try simp only [Act.put,List.getElem_toArray,List.getElem_cons_zero,List.getElem_cons_succ,List.setIfInBounds_toArray,List.set_cons_zero,List.set_cons_succ]
       refine wpAnyH_ready (rs:= [12]) (by kernel_rfl) (by simp) ?_
       refine AllReadyH.cons rfl (fun K hK=>?_) AllReadyH.nil
       try simp only [List.getElem_toArray,List.getElem_cons_zero,List.getElem_cons_succ]
       rw [if_pos (by rfl)]
       go_wp2_with (go_at_call 206;refine (HLf.out _ z0.out.but).mono ?_;rintro e w8 ⟨rfl,hY⟩)
       have z8:=Lib.hid (KP.out _ _ z0.out hY)
       clear hY
       refine hK.out _ _ ((HSZ.out _ z8.out)) (fun _=>?_)
       clear hK K
       try simp only [Act.put,List.getElem_toArray,List.getElem_cons_zero,List.getElem_cons_succ,List.setIfInBounds_toArray,List.set_cons_zero,List.set_cons_succ]
       refine wpAnyH_ready (rs:= [14]) (by kernel_rfl) (by simp) ?_
       refine AllReadyH.cons rfl (fun K hK=>?_) AllReadyH.nil
       try simp only [List.getElem_toArray,List.getElem_cons_zero,List.getElem_cons_succ]
       rw [if_pos (by rfl)]
       go_wp2_with (go_at_call 81;refine (HTm.out _ z8.out.but).mono ?_;rintro e w9 ⟨rfl,n9,rfl⟩)
       have z9:=Lib.hid (KP.out _ _ z8.out (below_drewN (Below.refl _ _) n9))
       refine hK.out _ _ ((HSZ.out _ z9.out)) (fun _=>?_)
       clear hK K
       try simp only [Act.put,List.getElem_toArray,List.getElem_cons_zero,List.getElem_cons_succ,List.setIfInBounds_toArray,List.set_cons_zero,List.set_cons_succ]
       refine wpAnyH_ready (rs:= [15]) (by kernel_rfl) (by simp) ?_
       refine AllReadyH.cons rfl (fun K hK=>?_) AllReadyH.nil
       try simp only [List.getElem_toArray,List.getElem_cons_zero,List.getElem_cons_succ]
       rw [if_pos (by rfl)]
       go_wp2_with (go_at_call 80;refine (HAd.out _ z9.out.but).mono ?_;rintro e w10 ⟨rfl,n10,rfl⟩)
       have z10:=Lib.hid (KP.out _ _ z8.out (below_drewN (Below.refl _ _) (n9+n10)))
       refine hK.out _ _ ((HSZ.out _ z10.out)) (fun _=>?_)
       clear hK K
       try simp only [Act.put,List.getElem_toArray,List.getElem_cons_zero,List.getElem_cons_succ,List.setIfInBounds_toArray,List.set_cons_zero,List.set_cons_succ]
       refine wpAnyH_take (i:=16) (v:=?_) rfl (by kernel_rfl) (by kernel_rfl) (by kernel_rfl) (fun _ _ _ h=>h) (Or.inl ⟨by rfl,?_⟩) (HSZ.out _ z10.out) ?_
       rotate_left
       ·intro w hSw;(try dsimp only at hSw);go_simp;try with_reducible rfl
       try simp only [Act.put,List.getElem_toArray,List.getElem_cons_zero,List.getElem_cons_succ,List.setIfInBounds_toArray,List.set_cons_zero,List.set_cons_succ]
       refine wpAnyH_done (by kernel_rfl) ?_ _
       go_wp2
       go_roundw
       case rel=>exact ⟨y+1,S1,by go_num,rfl,by omega,hS2,z10⟩
       case measure=>simp [intOf];omega
      ·obtain rfl:r=y:=by omega
       have ty:decide ((r:Int)<(r:Int))=false:=by simp
       have hix:=HIx.out i hli
       have d3:=hQ.out.box.cell (i:=3) (v:= .int .i64 (m:Int)) rfl
       obtain ⟨y,hy⟩: ∃y,y=i*m:=⟨_,rfl⟩
       have ey:(i:Int)*(m:Int)=(y:Int):=by rw [hy,Int.natCast_mul]
       rw [←hy] at hix
       obtain ⟨j,hj⟩: ∃j,j=y+k:=⟨_,rfl⟩
       have ej:(y:Int)+(k:Int)=(j:Int):=by omega
       have hoj:s0+j<n:=by omega
       obtain ⟨c2,f2,_⟩:=zN9 hQ.out.own (s0+j) hoj
       have hQ2:Hid (OneI w #[v, .slice (some ⟨bT,oT,none⟩) n cT, .int .i64 (r:Int), .int .i64 (m:Int)] G B n c r T (upd F' (s0+j) s) (wr.setCell ⟨G,s0+j,none⟩ (.int .u64 (s.val:Int)))):=Lib.hid (hQ.out.setF HG.out (s0+j) hoj s)
       have hn2:Hid (∀i',i'<i+1→upd F' (s0+j) s (s0+i'*m+k)=sm r fun y=>pw ω (y*i'*m*st)*T y):=Lib.hid (fun i' hi2=>by
        by_cases e:i'=i
        ·subst e;rw [Nat.add_assoc,←hy,←hj,upd_same];exact hs.out
        ·rw [zWh (fun h=>e (by
          have h1:i'*m=i*m:=by omega
          exact Nat.eq_of_mul_eq_mul_right (by omega) h1))]
         exact hnew.out i' (by omega))
       have ho2:Hid (∀j',(∀i',i'<i+1→j'≠s0+i'*m+k)→upd F' (s0+j) s j'=F j'):=Lib.hid (fun j' hj'=>by
        rw [zWh (by have:=hj' i (by omega);omega)]
        exact hold.out j' (fun i' hi2=>hj' i' (by omega)))
       have i1:(0:Int)≤(j:Int):=by omega
       have i2:(j:Int)<(z:Int):=by omega
       have w2:IntKind.i64.wrap (y:Int)=(y:Int):=IntWalk.i64_in _ (by omega)
       have w3:IntKind.i64.wrap (j:Int)=(j:Int):=IntWalk.i64_in _ (by omega)
       clear hy hj hs hnew hold hQ
       go_wp2
       go_roundw
       case rel=>exact ⟨i+1,upd F' (s0+j) s,by go_num,by omega,hn2,ho2,hQ2⟩
       case measure=>simp [intOf];omega
    ·obtain rfl:r=i:=by omega
     have ti:decide ((r:Int)<(r:Int))=false:=by simp
     have hn2:Hid (∀i,i<r→F' (s0+i*m+k)=sm r fun q=>pw ω (q*(i*m+k)*st)*F (s0+q*m+k)):=Lib.hid (fun i hi2=>by
      rw [hnew.out i hi2]
      refine sm_congr fun q hq2=>?_
      rw [HT.out q hq2,Nat.mul_add,Nat.add_mul,pw_add,←Nat.mul_assoc q i m];grind)
     have hQo:=Lib.hid (And.intro hQ.out.own hQ.out.but)
     clear hnew hQ
     go_wp2
     go_end0
     exact ⟨⟨_,rfl⟩,F',hQo.out.1,hQo.out.2,hn2,hold⟩
end Go.Proofs.YtmalmijdjhkklaaGreat
end

section
/- mixed: a stage's all. -/
namespace Go.Proofs.YtmalmijdjhkklaaGreat
open Go.RowKit
open Alg
theorem zN1 {w:World} {B G n c:Nat} {L:List Int} (h:OwnU w B (.slice (some ⟨G,0,none⟩) n c) n L):n≤c:=by
 have hl:=h.len
 rcases h.2 with ⟨e,_⟩|⟨g',cap',cur',e,_,_,r1,_⟩
 ·cases e
 ·cases e
  first|omega|(have:=r1;simp [zJ3] at this;omega)
structure AllI {p:Nat} [NeZero p] (w:World) (SV:Array Value) (G B n c:Nat) (F:Nat→Fin p) (wr:World):Prop where
 but:But G w wr
 box:zAI wr w.heap.size 168 SV
 own:OwnU wr B (.slice (some ⟨G,0,none⟩) n c) n (lst n F)
theorem AllI.keep {p:Nat} [NeZero p] {w:World} {SV:Array Value} {G B n c:Nat} {F:Nat→Fin p} {wr W':World} (h:AllI w SV G B n c F wr) (hb:Below wr.heap.size wr W'):AllI w SV G B n c F W':=
 ⟨h.but.trans (But.of_below hb),h.box.keep hb,h.own.below hb⟩
theorem zUp {p:Nat} [NeZero p] {ω:Fin p} {st r m b i k:Nat} {F:Nat→Fin p} (hi:i<r) (hk:k<m):stg ω st r m F (b*(r*m)+i*m+k)=sm r fun q=>pw ω (q*(i*m+k)*st)*F (b*(r*m)+q*m+k):=by
 obtain ⟨h1,h2,h3⟩:=zIF (b:=b) hi hk
 unfold stg
 rw [h1,h2,h3]
set_option maxHeartbeats 8000000 in
set_option maxRecDepth 100000 in
theorem zLt {p:Nat} [NeZero p] {w:World} {g:Int} (v:Value) (bT oT n cT r m:Nat) (B0 B G c st:Nat) (W:Int) (ω:Fin p) (F:Nat→Fin p) (h:Fd w B0 v p g) (hW:zt p W=ω) (hω:pw ω n=1) (hst:n=st*(r*m)) (hn:n≤1024) (hn0:0<n) (hr:2≤r∧r≤7) (hm:0<m)
  (hB0:B0≤G) (hbT:bT<B0) (hG:G<w.heap.size) (hc: ∀i,i<n→w.cell? ⟨bT,oT+i,none⟩=some (.int .u64 (lft p (W^i)))) (hO:OwnU w B (.slice (some ⟨G,0,none⟩) n c) n (lst n F)):
  Calls Tryz.prog 124 #[.agg #[v, .slice (some ⟨bT,oT,none⟩) n cT, .int .i64 (r:Int), .int .i64 (m:Int)], .slice (some ⟨G,0,none⟩) n c] w fun e w'=>(∃u,e= .returned u)∧ ∃F',OwnU w' B (.slice (some ⟨G,0,none⟩) n c) n (lst n F')∧But G w w'∧Hid (∀j,j<n→F' j=stg ω st r m F j):=by
 have hcap:=zN1 hO
 have hG':=Lib.hid hG
 have R1:=Lib.hid (lay1 w 168 #[v, .slice (some ⟨bT,oT,none⟩) n cT, .int .i64 (r:Int), .int .i64 (m:Int)])
 have HOne:Hid (∀(b k:Nat) (F1:Nat→Fin p),b<st→k<m→ ∀wz,AllI w #[v, .slice (some ⟨bT,oT,none⟩) n cT, .int .i64 (r:Int), .int .i64 (m:Int)] G B n c F1 wz→Calls Tryz.prog 176 #[.agg #[v, .slice (some ⟨bT,oT,none⟩) n cT, .int .i64 (r:Int), .int .i64 (m:Int)], .slice (some ⟨G,b*(r*m),none⟩) (r*m) (r*m), .int .i64 (k:Int)] wz fun e w'=>(∃u,e= .returned u)∧ ∃F',AllI w #[v, .slice (some ⟨bT,oT,none⟩) n cT, .int .i64 (r:Int), .int .i64 (m:Int)] G B n c F' w'∧
   Hid (∀i,i<r→F' (b*(r*m)+i*m+k)=sm r fun q=>pw ω (q*(i*m+k)*st)*F1 (b*(r*m)+q*m+k))∧Hid (∀j,(∀i,i<r→j≠b*(r*m)+i*m+k)→F' j=F1 j)):=Lib.hid (fun b k F1 hb hk wz hz=>by
  have h1:=zLN v bT oT n cT r m B0 B G c st b k W ω F1 (h.below (hz.but.below (by omega) hB0)) hW hω hst hn hn0 hr hk (by rw [hst];exact Nat.mul_le_mul_right _ hb) hB0 hbT (by have:=hz.but.size;omega) (fun i hi=>hz.but.cell (by omega) (by omega) (hc i hi)) hz.own
  exact h1.mono fun e w' ⟨he,F',o,bt,a1,a2⟩=>⟨he,F',⟨hz.but.trans bt,hz.box.but bt (by omega),o⟩,a1,a2⟩)
 have hrm0:0<r*m:=Nat.mul_pos (by omega) hm
 have HZ0:Hid (AllI w #[v, .slice (some ⟨bT,oT,none⟩) n cT, .int .i64 (r:Int), .int .i64 (m:Int)] G B n c F (w.alloc (.cells #[v, .slice (some ⟨bT,oT,none⟩) n cT, .int .i64 (r:Int), .int .i64 (m:Int)] 168))):=Lib.hid ⟨But.of_below R1.out.2,R1.out.1,hO.below R1.out.2⟩
 have d2:=R1.out.1.cell (i:=2) (v:= .int .i64 (r:Int)) rfl
 have d3:=R1.out.1.cell (i:=3) (v:= .int .i64 (m:Int)) rfl
 have HGr:Hid (∀j,∃i,i<r∧j=j/(r*m)*(r*m)+i*m+j%m):=Lib.hid (fun j=>zIG hm (by omega) j)
 have HSt:Hid (∀b i k,i<r→k<m→stg ω st r m F (b*(r*m)+i*m+k)=sm r fun q=>pw ω (q*(i*m+k)*st)*F (b*(r*m)+q*m+k)):=Lib.hid (fun b i k hi hk=>zUp hi hk)
 have HAt:Hid (∀b i k,i<r→k<m→(b*(r*m)+i*m+k)/(r*m)=b∧(b*(r*m)+i*m+k)%m=k):=Lib.hid (fun b i k hi hk=>⟨(zIF hi hk).1,(zIF hi hk).2.1⟩)
 have HLt:Hid (∀b,b<st→(b+1)*(r*m)≤n):=Lib.hid (fun b hb=>by rw [hst];exact Nat.mul_le_mul_right _ hb)
 have HEn:Hid (∀j,j<n→j/(r*m)<st):=Lib.hid (fun j hj=>by rw [Nat.div_lt_iff_lt_mul hrm0,←hst];exact hj)
 obtain ⟨z,hz⟩: ∃z,z=r*m:=⟨_,rfl⟩
 have ez:(r:Int)*(m:Int)=(z:Int):=by rw [hz,Int.natCast_mul]
 rw [←hz] at HOne hrm0 HGr HSt HAt HLt HEn hst
 have hzn:z≤n:=by
  have:=HLt.out 0
  rcases Nat.eq_zero_or_pos st with e|e
  ·rw [e,Nat.zero_mul] at hst;omega
  ·have:=this e;omega
 have hmz:m≤z:=by rw [hz];exact Nat.le_mul_of_pos_left _ (by omega)
 have Hst:=Lib.hid hst
 have w1:IntKind.i64.wrap (z:Int)=(z:Int):=IntWalk.i64_in _ (by omega)
 have H0:Hid (∀j,j<n→j/z<0→F j=stg ω st r m F j):=Lib.hid (fun j _ hj=>absurd hj (Nat.not_lt_zero _))
 have Hq0:Hid (0=0*z):=Lib.hid (by simp)
 clear h hW hω hst hbT hc hO hz hB0 hG R1
 go_enter Tryz.func124,Tryz.ntmps124
 go_wp2
 go_loopw [5] (fun Q wr=> ∃(b q:Nat) (F':Nat→Fin p),Q= .int .i64 q∧Hid (q=b*z)∧b≤st∧q≤n∧Hid (∀j,j<n→j/z<b→F' j=stg ω st r m F j)∧Hid (∀j,¬j/z<b→F' j=F j)∧Hid (AllI w #[v, .slice (some ⟨bT,oT,none⟩) n cT, .int .i64 (r:Int), .int .i64 (m:Int)] G B n c F' wr)) (fun Q _=>n-(intOf Q).toNat)
 case atStart=>exact ⟨0,0,F,rfl,Hq0,by omega,by omega,H0,Lib.hid (fun _ _=>rfl),HZ0⟩
 case round=>
  clear HZ0 H0 Hq0 d2 d3
  obtain ⟨b,q,F',rfl,hqb,hbs,hqn,hnew,hold,hQ⟩:=hrel
  by_cases hlt:q<n
  ·have tq:decide ((q:Int)<(n:Int))=true:=decide_eq_true (by omega)
   have hb:b<st:=by
    rcases Nat.lt_or_ge b st with h1|h1
    ·exact h1
    ·have:b=st:=by omega
     rw [hqb.out,this,←Hst.out] at hlt
     omega
   have hqz:=HLt.out b hb
   rw [Nat.add_mul,Nat.one_mul,←hqb.out] at hqz
   have d3:=hQ.out.box.cell (i:=3) (v:= .int .i64 (m:Int)) rfl
   have hn0:Hid (∀j,j<n→(j/z<b∨(j/z=b∧j%m<0))→F' j=stg ω st r m F j):=Lib.hid (fun j hj hh=>hnew.out j hj (hh.resolve_right (fun h1=>Nat.not_lt_zero _ h1.2)))
   have ho0:Hid (∀j,¬(j/z<b∨(j/z=b∧j%m<0))→F' j=F j):=Lib.hid (fun j hh=>hold.out j (fun h1=>hh (.inl h1)))
   clear hnew hold
   go_wp2
   go_loopw [21] (fun I wr=> ∃(k:Nat) (F':Nat→Fin p),I= .int .i64 k∧k≤m∧Hid (∀j,j<n→(j/z<b∨(j/z=b∧j%m<k))→F' j=stg ω st r m F j)∧Hid (∀j,¬(j/z<b∨(j/z=b∧j%m<k))→F' j=F j)∧Hid (AllI w #[v, .slice (some ⟨bT,oT,none⟩) n cT, .int .i64 (r:Int), .int .i64 (m:Int)] G B n c F' wr)) (fun I _=>m-(intOf I).toNat)
   case atStart=>exact ⟨0,F',rfl,by omega,hn0,ho0,hQ⟩
   case round=>
    clear hQ hn0 ho0 d3 F'
    obtain ⟨k,F',rfl,hk,hnew,hold,hQ⟩:=hrel
    by_cases hkm:k<m
    ·have tk:decide ((k:Int)<(m:Int))=true:=decide_eq_true (by omega)
     have HOn:=Lib.hid (HOne.out b k F' hb hkm)
     rw [←hqb.out] at HOn
     have z0:Hid (AllI w #[v, .slice (some ⟨bT,oT,none⟩) n cT, .int .i64 (r:Int), .int .i64 (m:Int)] G B n c F' (wr.drewN 1)):=Lib.hid (hQ.out.keep (below_drewN (Below.refl _ _) 1))
     obtain ⟨e,he⟩: ∃e,e=q+z:=⟨_,rfl⟩
     have ee:(q:Int)+(z:Int)=(e:Int):=by omega
     have w2:IntKind.i64.wrap (e:Int)=(e:Int):=IntWalk.i64_in _ (by omega)
     have j1:(0:Int)≤(q:Int):=by omega
     have j2:(q:Int)≤(e:Int):=by omega
     have j3:(e:Int)≤(c:Int):=by omega
     have j4:(0:Int)≤(e:Int):=by omega
     have j5:e-q=z:=by omega
     clear hQ he
     go_upto_region 8 with fail
     refine wp_region_held_drew (S:=fun wz=>zAI wz w.heap.size 168 #[v, .slice (some ⟨bT,oT,none⟩) n cT, .int .i64 (r:Int), .int .i64 (m:Int)]) (by kernel_rfl) z0.out.box (fun hHeld=>?_)
     clear hHeld
     refine wpAnyH_take (i:=0) rfl (by kernel_rfl) (by kernel_rfl) (by kernel_rfl) (fun _ _ _ h=>h) (zXh (by rfl) _ _ rfl _ rfl _ _ _ (fun wz h=>h) Tryz.underlying168 rfl (by exact zTB)) z0.out.box ?_
     try simp only [Act.put,List.getElem_toArray,List.getElem_cons_zero,List.getElem_cons_succ,List.setIfInBounds_toArray,List.set_cons_zero,List.set_cons_succ]
     refine wpAnyH_take (i:=1) (v:=?_) rfl (by kernel_rfl) (by kernel_rfl) (by kernel_rfl) (fun _ _ _ h=>h) (Or.inl ⟨by rfl,?_⟩) z0.out.box ?_
     rotate_left
     ·intro w hSw;(try dsimp only at hSw);go_simp;try with_reducible rfl
     try simp only [Act.put,List.getElem_toArray,List.getElem_cons_zero,List.getElem_cons_succ,List.setIfInBounds_toArray,List.set_cons_zero,List.set_cons_succ]
     refine wpAnyH_take (i:=2) (v:=?_) rfl (by kernel_rfl) (by kernel_rfl) (by kernel_rfl) (fun _ _ _ h=>h) (Or.inl ⟨by rfl,?_⟩) z0.out.box ?_
     rotate_left
     ·intro w hSw;(try dsimp only at hSw);go_simp;try with_reducible rfl
     try simp only [Act.put,List.getElem_toArray,List.getElem_cons_zero,List.getElem_cons_succ,List.setIfInBounds_toArray,List.set_cons_zero,List.set_cons_succ]
     refine wpAnyH_take (i:=3) (v:=?_) rfl (by kernel_rfl) (by kernel_rfl) (by kernel_rfl) (fun _ _ _ h=>h) (Or.inl ⟨by rfl,?_⟩) z0.out.box ?_
     rotate_left
     ·intro w hSw;(try dsimp only at hSw);go_simp;try with_reducible rfl
     try simp only [Act.put,List.getElem_toArray,List.getElem_cons_zero,List.getElem_cons_succ,List.setIfInBounds_toArray,List.set_cons_zero,List.set_cons_succ]
     refine wpAnyH_take (i:=4) (v:=?_) rfl (by kernel_rfl) (by kernel_rfl) (by kernel_rfl) (fun _ _ _ h=>h) (Or.inl ⟨by rfl,?_⟩) z0.out.box ?_
     rotate_left
     ·intro w hSw;(try dsimp only at hSw);go_simp;try with_reducible rfl
     try simp only [Act.put,List.getElem_toArray,List.getElem_cons_zero,List.getElem_cons_succ,List.setIfInBounds_toArray,List.set_cons_zero,List.set_cons_succ]
     refine wpAnyH_take (i:=5) (v:=?_) rfl (by kernel_rfl) (by kernel_rfl) (by kernel_rfl) (fun _ _ _ h=>h) (Or.inl ⟨by rfl,?_⟩) z0.out.box ?_
     rotate_left
     ·intro w hSw;(try dsimp only at hSw);go_simp;try with_reducible rfl
     try simp only [Act.put,List.getElem_toArray,List.getElem_cons_zero,List.getElem_cons_succ,List.setIfInBounds_toArray,List.set_cons_zero,List.set_cons_succ]
     refine wpAnyH_take (i:=6) (v:=?_) rfl (by kernel_rfl) (by kernel_rfl) (by kernel_rfl) (fun _ _ _ h=>h) (Or.inl ⟨by rfl,?_⟩) z0.out.box ?_
     rotate_left
     ·intro w hSw;(try dsimp only at hSw);go_simp;try with_reducible rfl
     try simp only [Act.put,List.getElem_toArray,List.getElem_cons_zero,List.getElem_cons_succ,List.setIfInBounds_toArray,List.set_cons_zero,List.set_cons_succ]
     refine wpAnyH_take (i:=7) (v:=?_) rfl (by kernel_rfl) (by kernel_rfl) (by kernel_rfl) (fun _ _ _ h=>h) (Or.inl ⟨by rfl,?_⟩) z0.out.box ?_
     rotate_left
     ·intro w hSw;(try dsimp only at hSw);go_simp;try with_reducible rfl
     try simp only [Act.put,List.getElem_toArray,List.getElem_cons_zero,List.getElem_cons_succ,List.setIfInBounds_toArray,List.set_cons_zero,List.set_cons_succ]
     refine wpAnyH_take (i:=8) (v:=?_) rfl (by kernel_rfl) (by kernel_rfl) (by kernel_rfl) (fun _ _ _ h=>h) (Or.inl ⟨by rfl,?_⟩) z0.out.box ?_
     rotate_left
     ·intro w hSw;(try dsimp only at hSw);go_simp;try with_reducible rfl
     try simp only [Act.put,List.getElem_toArray,List.getElem_cons_zero,List.getElem_cons_succ,List.setIfInBounds_toArray,List.set_cons_zero,List.set_cons_succ]
     refine wpAnyH_take (i:=9) (v:=?_) rfl (by kernel_rfl) (by kernel_rfl) (by kernel_rfl) (fun _ _ _ h=>h) (Or.inl ⟨by rfl,?_⟩) z0.out.box ?_
     rotate_left
     ·intro w hSw;(try dsimp only at hSw);go_simp;try with_reducible rfl
     try simp only [Act.put,List.getElem_toArray,List.getElem_cons_zero,List.getElem_cons_succ,List.setIfInBounds_toArray,List.set_cons_zero,List.set_cons_succ]
     refine wpAnyH_take (i:=10) (v:=?_) rfl (by kernel_rfl) (by kernel_rfl) (by kernel_rfl) (fun _ _ _ h=>h) (Or.inl ⟨by rfl,?_⟩) z0.out.box ?_
     rotate_left
     ·intro w hSw;(try dsimp only at hSw);go_simp;try with_reducible rfl
     try simp only [Act.put,List.getElem_toArray,List.getElem_cons_zero,List.getElem_cons_succ,List.setIfInBounds_toArray,List.set_cons_zero,List.set_cons_succ]
     refine wpAnyH_ready (rs:= [11]) (by kernel_rfl) (by simp) ?_
     refine AllReadyH.cons rfl (fun K hK=>?_) AllReadyH.nil
     try simp only [List.getElem_toArray,List.getElem_cons_zero,List.getElem_cons_succ]
     rw [if_pos (by rfl)]
     go_wp2_with (go_at_call 176;refine (HOn.out _ z0.out).mono ?_;rintro e w9 ⟨⟨u,rfl⟩,F2,hZ,hnw,hod⟩)
     have z9:=Lib.hid hZ
     clear hZ
     refine hK.out _ _ (z9.out.box) (fun _=>?_)
     clear hK K
     try simp only [Act.put,List.getElem_toArray,List.getElem_cons_zero,List.getElem_cons_succ,List.setIfInBounds_toArray,List.set_cons_zero,List.set_cons_succ]
     refine wpAnyH_done (by kernel_rfl) ?_ _
     rw [hqb.out] at hnw hod
     have hn2:Hid (∀j,j<n→(j/z<b∨(j/z=b∧j%m<k+1))→F2 j=stg ω st r m F j):=Lib.hid (fun j hj hh=>by
      by_cases hjk:j/z=b∧j%m=k
      ·obtain ⟨i,hi,hji⟩:=HGr.out j
       rw [hjk.1,hjk.2] at hji
       rw [hji,HSt.out b i k hi hkm,←hqb.out]
       have h1:=hnw.out i hi
       rw [←hqb.out] at h1
       rw [h1]
       refine sm_congr fun y hy=>?_
       obtain ⟨g1,g2⟩:=HAt.out b y k hy hkm
       rw [←hqb.out] at g1 g2
       rw [hold.out _ (by rw [g1,g2];omega)]
      ·have hne: ∀i,i<r→j≠b*z+i*m+k:=fun i hi e=>hjk (by rw [e];exact HAt.out b i k hi hkm)
       rw [hod.out j hne]
       exact hnew.out j hj (by omega))
     have ho2:Hid (∀j,¬(j/z<b∨(j/z=b∧j%m<k+1))→F2 j=F j):=Lib.hid (fun j hh=>by
      have hne: ∀i,i<r→j≠b*z+i*m+k:=fun i hi e=>hh (.inr (by
       obtain ⟨g1,g2⟩:=HAt.out b i k hi hkm
       rw [e,g1,g2]
       exact ⟨rfl,by omega⟩))
      rw [hod.out j hne]
      exact hold.out j (by omega))
     clear hnew hold hnw hod
     go_wp2
     go_roundw
     case rel=>exact ⟨k+1,F2,by go_num,by omega,hn2,ho2,z9⟩
     case measure=>simp [intOf];omega
    ·obtain rfl:m=k:=by omega
     have tk:decide ((m:Int)<(m:Int))=false:=by simp
     have hjm: ∀j:Nat,j%m<m:=fun j=>Nat.mod_lt _ (by omega)
     have hn2:Hid (∀j,j<n→j/z<b+1→F' j=stg ω st r m F j):=Lib.hid (fun j hj hh=>hnew.out j hj (by have:=hjm j;omega))
     have ho2:Hid (∀j,¬j/z<b+1→F' j=F j):=Lib.hid (fun j hh=>hold.out j (by omega))
     have hq2:Hid (q+z=(b+1)*z):=Lib.hid (by rw [Nat.add_mul,Nat.one_mul,hqb.out])
     have w2:IntKind.i64.wrap ((q:Int)+(z:Int))=(q:Int)+(z:Int):=IntWalk.i64_in _ (by omega)
     clear hnew hold hjm
     go_wp2
     go_roundw
     case rel=>exact ⟨b+1,q+z,F',by go_num,hq2,by omega,by omega,hn2,ho2,hQ⟩
     case measure=>simp [intOf];omega
  ·have tq:decide ((q:Int)<(n:Int))=false:=decide_eq_false (by omega)
   have hbst:b=st:=by
    rcases Nat.lt_or_ge b st with h1|h1
    ·have h2:=HLt.out b h1
     rw [Nat.add_mul,Nat.one_mul,←hqb.out] at h2
     omega
    ·omega
   have hn2:Hid (∀j,j<n→F' j=stg ω st r m F j):=Lib.hid (fun j hj=>hnew.out j hj (by rw [hbst];exact HEn.out j hj))
   have hQo:=Lib.hid (And.intro hQ.out.own hQ.out.but)
   clear hnew hold hQ hbst
   go_wp2
   go_end0
   exact ⟨⟨_,rfl⟩,F',hQo.out.1,hQo.out.2,hn2⟩
end Go.Proofs.YtmalmijdjhkklaaGreat
end

section
/- mixed.Run. -/
namespace Go.Proofs.YtmalmijdjhkklaaGreat
open Go.RowKit
open Alg
def zGN (p:Int) (L:List Int):Int:=if chk p L.length 1024≠0 then chk p L.length 1024 else if zQD L.length=false then 11 else if zI1 p L=false then 9 else 0
theorem zGO {p:Int} {L:List Int} (h:zGN p L=0):chk p L.length 1024=0∧zQD L.length=true∧zI1 p L=true:=by
 unfold zGN at h
 split at h
 ·rename_i h1;exact absurd h h1
 ·rename_i h1
  split at h
  ·omega
  ·rename_i h2
   split at h
   ·omega
   ·rename_i h3
    exact ⟨by simpa using h1,by simpa using h2,by simpa using h3⟩
theorem drop_cons {R:List Nat} {t:Nat} (h:t<R.length):R.drop t=R.getD t 0 :: R.drop (t+1):=by
 rw [List.drop_eq_getElem_cons h,List.getD_eq_getElem?_getD,List.getElem?_eq_getElem h];rfl
set_option maxHeartbeats 2000000 in
theorem zL8 {p:Nat} {w:World} {v:Value} {g:Int} (h:Fd w w.heap.size v p g) (A:Option Addr) (c:Nat) (L:List Int) (inv:Bool) (hl:L.length≤140737488351232) (hU:U64s L) (hR:RdI w w.heap.size .u64 A L) (hf:zGN p L≠0):
  Calls Tryz.prog 65 #[v, .slice A L.length c, .bool inv] w fun e w'=>e= .returned (.tuple #[.slice none 0 0, .int .i64 (zGN p L)])∧Below w.heap.size w w':=by
 have hC:=Lib.hid (fun m=>zDT h L.length m (by omega) (by omega))
 have hG:=Lib.hid (fun wz (hz:Below w.heap.size w wz)=>zI6 ((h.below hz).mono hz.size) A c wz.heap.size L hl hU ((hR.below hz).mono hz.size))
 have hRd:=Lib.hid (zLV (L.length:Int) (by omega) (by omega) w)
 have HV:Hid (zGN p L=if chk p L.length 1024≠0 then chk p L.length 1024 else if zQD L.length=false then 11 else if zI1 p L=false then 9 else 0):=Lib.hid rfl
 have HFn:=Lib.hid hf
 clear h hU hR hf
 by_cases c1:chk p L.length 1024=0
 ·have hC2:=Lib.hid (hC.out 1024)
  rw [c1] at hC2
  by_cases c2:zQD L.length=false
  ·have HV2:Hid (zGN p L=11):=Lib.hid (by rw [HV.out,if_neg (by simp [c1]),if_pos c2])
   have HC2:=Lib.hid c2
   clear c1 c2 hC
   go_enter Tryz.func65,Tryz.ntmps65
   go_wp2_with fail
   refine hC2.out.mono ?_
   rintro e w1 ⟨rfl,rfl⟩
   go_wp2_with fail
   refine hRd.out.mono ?_
   rintro e w2 ⟨⟨R,V,hok,_⟩|⟨_,rfl⟩,hB⟩
   ·rw [HC2.out] at hok;cases hok
   go_wp2
   go_ret2
   exact ⟨by rw [HV2.out];first|rfl|simp,hB⟩
  ·by_cases c3:zI1 p L=false
   ·have HV2:Hid (zGN p L=9):=Lib.hid (by rw [HV.out,if_neg (by simp [c1]),if_neg c2,if_pos c3])
    have HC2:=Lib.hid c2
    rw [c3] at hG
    clear c1 c2 c3 hC
    go_enter Tryz.func65,Tryz.ntmps65
    go_wp2_with fail
    refine hC2.out.mono ?_
    rintro e w1 ⟨rfl,rfl⟩
    go_wp2_with fail
    refine hRd.out.mono ?_
    rintro e w2 ⟨⟨R,V,_,_,_,rfl,_⟩|⟨hno,_⟩,hB⟩
    ·go_wp2_with fail
     refine (hG.out w2 hB).mono ?_
     rintro e w3 ⟨rfl,rfl⟩
     go_wp2
     go_ret2
     exact ⟨by rw [HV2.out];first|rfl|simp,hB⟩
    ·exact absurd hno HC2.out
   ·exact absurd (by rw [HV.out,if_neg (by simp [c1]),if_neg c2,if_neg c3]) HFn.out
 ·have HV2:Hid (zGN p L=chk p L.length 1024):=Lib.hid (by rw [HV.out,if_pos c1])
  have hC2:=Lib.hid (hC.out 1024)
  obtain ⟨z,hz⟩: ∃z,z=chk p L.length 1024:=⟨_,rfl⟩
  rw [←hz] at hC2 HV2 c1
  have t:(z != 0)=true:=by simp [c1]
  clear hz c1 hC
  go_enter Tryz.func65,Tryz.ntmps65
  go_wp2_with fail
  refine hC2.out.mono ?_
  rintro e w1 ⟨rfl,rfl⟩
  go_wp2
  go_ret2
  exact ⟨by rw [HV2.out];first|rfl|simp,Below.refl _ _⟩
set_option maxHeartbeats 8000000 in
set_option maxRecDepth 100000 in
theorem zL9 {p:Nat} [NeZero p] {w:World} {v:Value} {g:Int} (hp:Prime p) (hg:Ord (zt p g) (p-1)) (g0:0≤g) (g1:g<p) (h:Fd w w.heap.size v p g) (A:Option Addr) (c:Nat) (L:List Int) (inv:Bool) (hU:U64s L) (hR:RdI w w.heap.size .u64 A L) (hf:zGN p L=0):
  Calls Tryz.prog 65 #[v, .slice A L.length c, .bool inv] w fun e w'=> ∃V,e= .returned (.tuple #[V, .int .i64 0])∧OwnU w' w.heap.size V L.length (lst L.length (tr (zt p g) L.length inv (rz p L)))∧Below w.heap.size w w':=by
 obtain ⟨fb,rfl⟩: ∃fb,v= .pointer (some ⟨fb,0,none⟩):=by
  obtain ⟨b,c,t,o,s,sv,hv,_⟩:=h
  exact ⟨b,hv⟩
 obtain ⟨hc1,hrad,hgd⟩:=zGO hf
 have hc:=zEp hc1
 obtain ⟨n1,n2,_⟩:=zEq hc1
 obtain ⟨hdv,hn0⟩:=zEl (by have:=hp.1;omega) hc
 have HPM:=Lib.hid (And.intro h.p3 h.pmx)
 have hC:=Lib.hid (zDT h L.length 1024 (by omega) (by omega))
 rw [hc1] at hC
 have hG:=Lib.hid (fun wz (hz:Below w.heap.size w wz)=>zI6 ((h.below hz).mono hz.size) A c wz.heap.size L (by omega) hU ((hR.below hz).mono hz.size))
 rw [hgd] at hG
 have hRd:=Lib.hid (zLV (L.length:Int) (by omega) (by omega) w)
 have hT:=Lib.hid (fun wz (hz:Below w.heap.size w wz)=>zKA ((h.below hz).mono hz.size) L.length inv hc g0 g1)
 have HRad:=Lib.hid hrad
 have HPr:Hid (∀R,rad L.length=some R→prN R=L.length∧Two R):=Lib.hid (fun R hR=>zQS L.length R (by omega) hR)
 have HFd:=Lib.hid h
 have hO:=zSz hg hdv hn0 inv
 have hRt0:Hid (∀W,zAH p g L.length inv W→zt p W=rt (zt p g) L.length inv):=Lib.hid (fun W hW=>zAH.zt hp hg hdv hn0 hW)
 have HOr:Hid (∀(wz:World) (B:Option Addr) (d:Nat) (R:List Nat),Below w.heap.size w wz→Two R→prN R=L.length→R.length≤12→RdI wz wz.heap.size .i64 B (zDm R)→Calls Tryz.prog 123 #[.slice A L.length c, .slice B R.length d] wz fun e w'=> ∃V F,e= .returned (.tuple #[V, .int .i64 0])∧Hid (∀x,x<L.length→F (zV4 R x)=rz p L x)∧OwnU w' wz.heap.size V L.length (lst L.length F)∧Below wz.heap.size wz w'):=Lib.hid (fun wz B d R hz h2 hpr hl hB=>
  zFQ h.pmx A B c d wz.heap.size wz.heap.size L R wz h2 hpr (by omega) hn0 hl hU hgd ((hR.below hz).mono hz.size) (Nat.le_refl _) hB (Nat.le_refl _))
 have HSc:Hid (∀(wz:World) V B F,Below w.heap.size w wz→B≤wz.heap.size→OwnU wz B V L.length (lst L.length F)→Calls Tryz.prog 122 #[.pointer (some ⟨fb,0,none⟩),V] wz fun r w'=> ∃V',r= .returned V'∧OwnU w' B V' L.length (lst L.length fun i=>sc p L.length true*F i)∧Below wz.heap.size wz w'):=Lib.hid (fun wz V B F hz hB hV=>zTb hp ((h.below hz).mono hz.size) V B L.length F hdv hn0 (by omega) hV hB)
 obtain ⟨ω,hω⟩: ∃ω,ω=rt (zt p g) L.length inv:=⟨_,rfl⟩
 obtain ⟨x,hx⟩: ∃x,x=rz p L:=⟨_,rfl⟩
 have HTr:Hid (∀i,i<L.length→tr (zt p g) L.length inv x i=sc p L.length inv*dft ω L.length x i):=Lib.hid (fun i _=>by rw [hω];rfl)
 have hn10:L.length≤1024:=by omega
 rw [←hω] at hO hRt0
 rw [←hx] at HOr ⊢
 have HOn:Hid (pw ω L.length=1):=Lib.hid hO.2.1
 obtain ⟨n,hn⟩: ∃n,n=L.length:=⟨_,rfl⟩
 rw [←hn] at hC hG hRd hT HRad HPr hRt0 HOr HSc HTr HOn hn0 hn10 ⊢
 have HN:=Lib.hid hn
 clear h hR hU hf hc hc1 hrad hgd hdv hO hω hx hn n1 n2 hg hp g0 g1
 go_enter Tryz.func65,Tryz.ntmps65
 go_wp2_with fail
 refine hC.out.mono ?_
 rintro e w1 ⟨rfl,rfl⟩
 go_wp2_with fail
 refine hRd.out.mono ?_
 rintro e w2 ⟨⟨R,V,_,hrd,hl10,rfl,hown⟩|⟨hno,_⟩,hB2⟩
 case inr=>exact absurd hno (by rw [HRad.out];simp)
 rw [Int.toNat_natCast] at hrd
 obtain ⟨hpr,h2⟩:=HPr.out R hrd
 obtain ⟨AR,cR,rfl,hRR⟩:=RdI.of_own (xs:=zDm R) (by rw [zDo];exact hown)
 rw [zDo]
 have HRR:=Lib.hid hRR
 have H2:=Lib.hid h2
 have HPrN:=Lib.hid hpr
 have HB2:=Lib.hid hB2
 clear hrd hown hRR h2 hpr hB2 HPr HRad hRd hC
 go_wp2_with fail
 refine (hG.out w2 HB2.out).mono ?_
 rintro e w3 ⟨rfl,rfl⟩
 go_wp2_with fail
 refine (hT.out w2 HB2.out).mono ?_
 rintro e w3 ⟨VT,W,rfl,hW,hownT,hB3⟩
 obtain ⟨AT,cT,rfl,hRT⟩:=hownT.rd
 have HWZ:=Lib.hid (hRt0.out W hW)
 obtain ⟨bT,oT,rfl,hbT,hcT⟩:=hRT (by rw [zHS];omega)
 have HcT:Hid (∀i,i<n→w3.cell? ⟨bT,oT+i,none⟩=some (.int .u64 (lft p (W^i)))):=Lib.hid (fun i hi=>by
  have h1:=hcT i (by rw [zHS];exact hi)
  rw [zHR hi] at h1
  exact h1)
 have HR3:=Lib.hid ((HRR.out.below hB3).mono hB3.size)
 have HB3:=Lib.hid (HB2.out.trans (hB3.mono HB2.out.size))
 clear hW hownT hRT hcT hT hRt0 hG hB3 HRR
 go_wp2_with fail
 refine (HOr.out w3 AR cR R HB3.out H2.out HPrN.out (by omega) HR3.out).mono ?_
 rintro e w4 ⟨V4,F0,rfl,hF0,hO4,hB4⟩
 obtain ⟨G,cG,rfl,hGe⟩:=zN2 hO4 hn0
 have HQ4:Hid (R2 w3 G n cG (lst n (mixU ω F0 n (R.drop R.length))) w4):=Lib.hid (by rw [List.drop_length];exact ⟨hB4,hO4⟩)
 have HMx:Hid (∀i,i<n→mixU ω F0 n (R.drop 0) i=dft ω n x i):=Lib.hid (fun i hi=>by
  have h1:=zL5 (w:=ω) H2.out (by rw [HPrN.out];exact HOn.out) (F0:=F0) (a:=x) (by rw [HPrN.out];exact hF0.out) i (by rw [HPrN.out];exact hi)
  rw [HPrN.out] at h1
  exact h1)
 have HAll:Hid (∀(t r m:Nat) (wz:World),t<R.length→r=R.getD t 0→m=prN (R.drop (t+1))→R2 w3 G n cG (lst n (mixU ω F0 n (R.drop (t+1)))) wz→Calls Tryz.prog 124 #[.agg #[.pointer (some ⟨fb,0,none⟩), .slice (some ⟨bT,oT,none⟩) n cT, .int .i64 (r:Int), .int .i64 (m:Int)], .slice (some ⟨G,0,none⟩) n cG] wz fun e w'=>(∃u,e= .returned u)∧R2 w3 G n cG (lst n (mixU ω F0 n (R.drop t))) w'):=Lib.hid (fun t r m wz ht hr hm hz=>by
  have hd:=drop_cons ht
  rw [←hr] at hd
  have hrm:prN (R.drop t)=r*m:=by rw [hd,zOQ,hm]
  have hst:n=prN (R.take t)*(r*m):=by rw [←hrm,zOV];exact HPrN.out.symm
  have hr2:=H2.out.at ht
  rw [←hr] at hr2
  have hm0:0<m:=by rw [hm];exact zOT (fun q hq=>H2.out q (List.mem_of_mem_drop hq))
  have hq:n/(r*m)=prN (R.take t):=by rw [hst];exact Nat.mul_div_cancel _ (Nat.mul_pos (by omega) hm0)
  have hGw:G<wz.heap.size:=(World.ownsRow.lt hz.2 G rfl).2
  refine (zLt _ bT oT n cT r m w3.heap.size w3.heap.size G cG (prN (R.take t)) W ω _ (((HFd.out.below HB3.out).mono HB3.out.size).below hz.1) HWZ.out HOn.out hst hn10 hn0 hr2 hm0 hGe hbT hGw (fun i hi=>zDs hz.1 hbT (HcT.out i hi)) hz.2).mono ?_
  rintro e w' ⟨he,F',o,bt,hF'⟩
  refine ⟨he,hz.1.trans (bt.below hz.1.size hGe),?_⟩
  rw [hd]
  have e1:mixU ω F0 n (r :: R.drop (t+1))=stg ω (n/(r*prN (R.drop (t+1)))) r (prN (R.drop (t+1))) (mixU ω F0 n (R.drop (t+1))):=rfl
  rw [e1,←hm,hq,←zKW (fun j hj=>hF'.out j hj)]
  exact o)
 have HM0:Hid (1=prN (R.drop R.length)):=Lib.hid (by rw [List.drop_length];rfl)
 have HB4:=Lib.hid (HB3.out.trans (hB4.mono HB3.out.size))
 have HRd:Hid (∀wz t,Below w3.heap.size w3 wz→t<R.length→ ∃b o,AR=some ⟨b,o,none⟩∧wz.cell? ⟨b,o+t,none⟩=some (.int .i64 ((R.getD t 0:Nat):Int))):=Lib.hid (fun wz t hz ht=>by
  obtain ⟨b,o,e,hb,hcl⟩:=HR3.out (by rw [zDo];omega)
  have h1:=hcl t (by rw [zDo];exact ht)
  rw [zDn] at h1
  exact ⟨b,o,e,zDs hz hb h1⟩)
 have HPl:Hid (∀t,t<R.length→prN (R.drop (t+1))*R.getD t 0=prN (R.drop t)):=Lib.hid (fun t ht=>by rw [drop_cons ht,zOQ,Nat.mul_comm])
 have HPle:Hid (∀t,prN (R.drop t)≤1024):=Lib.hid (fun t=>by
  have h1:=zOV R t
  have h3:=zOT (R:=R.take t) (fun q hq=>H2.out q (List.mem_of_mem_take hq))
  have h4:prN (R.drop t)≤prN (R.take t)*prN (R.drop t):=Nat.le_mul_of_pos_left _ h3
  rw [h1,HPrN.out] at h4
  omega)
 clear hF0 hO4 hB4 HOr
 go_wp2
 go_loopw [15,16] (fun M I wr=> ∃(t m:Nat),I= .int .i64 ((t:Int)-1)∧M= .int .i64 m∧t≤R.length∧Hid (m=prN (R.drop t))∧Hid (R2 w3 G n cG (lst n (mixU ω F0 n (R.drop t))) wr)) (fun _ I _=>(intOf I+1).toNat)
 case atStart=>exact ⟨R.length,1,rfl,rfl,by omega,HM0,HQ4⟩
 case round=>
  clear HQ4 HM0
  obtain ⟨t,m,rfl,rfl,ht,hm,hQ⟩:=hrel
  by_cases h0:t=0
  ·subst h0
   have hQB:=hQ.out.1
   have hQO:=hQ.out.2
   rw [zKW (fun i hi=>HMx.out i hi)] at hQO
   have HBw:=Lib.hid (HB3.out.trans (hQB.mono HB3.out.size))
   have HO:=Lib.hid (hQO.mono HB3.out.size)
   clear hQB hQO hQ hm
   cases inv with
   | false=>
    have HO2:Hid (OwnU wr w.heap.size (.slice (some ⟨G,0,none⟩) n cG) n (lst n (tr (zt p g) n false x))):=Lib.hid (by
     rw [zKW (fun i hi=>HTr.out i hi),show (fun i=>sc p n false*dft ω n x i)=dft ω n x from funext fun i=>by show (1:Fin p)*_=_;grind]
     exact HO.out)
    go_wp2
    go_ret2
    exact ⟨_,rfl,HO2.out,HBw.out⟩
   | true=>
    have HS:=Lib.hid (HSc.out wr _ w.heap.size _ HBw.out HBw.out.size HO.out)
    go_wp2_with fail
    refine HS.out.mono ?_
    rintro e w5 ⟨V5,rfl,hO5,hB5⟩
    have HO2:Hid (OwnU w5 w.heap.size V5 n (lst n (tr (zt p g) n true x))):=Lib.hid (by
     rw [zKW (fun i hi=>HTr.out i hi)]
     exact hO5)
    have HB5:=Lib.hid (HBw.out.trans (hB5.mono HBw.out.size))
    clear hO5 hB5
    go_wp2
    go_ret2
    exact ⟨_,rfl,HO2.out,HB5.out⟩
  ·obtain ⟨t,rfl⟩: ∃s,t=s+1:=⟨t-1,by omega⟩
   have e1:((t+1:Nat):Int)-1=(t:Int):=by omega
   rw [e1]
   have htl:t<R.length:=by omega
   obtain ⟨b,o,hA,d⟩:=HRd.out wr t hQ.out.1 htl
   have HAl:=Lib.hid (HAll.out t (R.getD t 0) m wr htl rfl hm.out hQ.out)
   have hm2:Hid (m*R.getD t 0=prN (R.drop t)):=Lib.hid (by rw [hm.out];exact HPl.out t htl)
   have hr2:=H2.out.at htl
   have hmr:=HPle.out t
   rw [←hm2.out] at hmr
   obtain ⟨r,hr⟩: ∃r,r=R.getD t 0:=⟨_,rfl⟩
   rw [←hr] at d HAl hm2 hr2 hmr
   have HR2:Hid (∀wz,Below w3.heap.size w3 wz→wz.cell? ⟨b,o+t,none⟩=some (.int .i64 (r:Int))):=Lib.hid (fun wz hz=>by
    obtain ⟨b',o',hA',d'⟩:=HRd.out wz t hz htl
    rw [hA] at hA'
    injection hA' with hA'
    injection hA' with h1 h2
    rw [hr,h1,h2];exact d')
   subst hA
   obtain ⟨y,hy⟩: ∃y,y=m*r:=⟨_,rfl⟩
   have ey:(m:Int)*(r:Int)=(y:Int):=by rw [hy,Int.natCast_mul]
   rw [←hy] at hm2 hmr
   have i1:(0:Int)≤(t:Int):=by omega
   have i2:(t:Int)<(R.length:Int):=by omega
   have w1:IntKind.i64.wrap (y:Int)=(y:Int):=IntWalk.i64_in _ (by omega)
   have w2:IntKind.i64.wrap ((t:Int)-1)=(t:Int)-1:=IntWalk.i64_in _ (by omega)
   clear hr hy e1 hQ hm
   go_wp2_with fail
   refine HAl.out.mono ?_
   rintro e w5 ⟨⟨u,rfl⟩,hQ5⟩
   have d5:=HR2.out w5 hQ5.1
   have HQ5:=Lib.hid hQ5
   clear hQ5 d
   go_wp2
   go_roundw
   case rel=>exact ⟨t,y,by first|rfl|go_num,rfl,by omega,hm2,HQ5⟩
   case measure=>simp [intOf]
end Go.Proofs.YtmalmijdjhkklaaGreat
end
