/- The cache's used. -/
import Derived.Test.YtmalmijdjhkklaaGreatW128
set_option linter.unusedVariables false
set_option linter.unusedSimpArgs false
set_option maxRecDepth 100000
set_option maxHeartbeats 16000000
namespace Go.Proofs.YtmalmijdjhkklaaGreat
open Go.RowKit
section
structure zX7 (S:Nat→Prop) (w w':World):Prop where
 os:w'.os=w.os
 tape:w'.tape=w.tape
 output:w'.output=w.output
 size:w.heap.size≤w'.heap.size
 block: ∀k,k<w.heap.size→ ¬S k→w'.heap[k]? =w.heap[k]?
theorem zX7.refl (S:Nat→Prop) (w:World):zX7 S w w:=⟨rfl,rfl,rfl,Nat.le_refl _,fun _ _ _=>rfl⟩
theorem zX7.trans {S T:Nat→Prop} {a b c:World} (h:zX7 S a b) (k:zX7 T b c) (hT: ∀i,i<a.heap.size→T i→S i):zX7 S a c:=
 ⟨k.os.trans h.os,k.tape.trans h.tape,k.output.trans h.output,Nat.le_trans h.size k.size,fun i hi hn=>(k.block i (Nat.lt_of_lt_of_le hi h.size) (fun ht=>hn (hT i hi ht))).trans (h.block i hi hn)⟩
theorem zX7.of_below {S:Nat→Prop} {w w':World} (h:Below w.heap.size w w'):zX7 S w w':=⟨h.os,h.tape,h.output,h.size,fun k hk _=>h.block k hk⟩
theorem zX7.of_but {S:Nat→Prop} {g:Nat} {w w':World} (h:But g w w') (hg:S g):zX7 S w w':=⟨h.os,h.tape,h.output,h.size,fun k hk hn=>h.block k hk (fun e=>hn (e ▸ hg))⟩
theorem zX7.below {S:Nat→Prop} {B:Nat} {w w':World} (h:zX7 S w w') (hB:B≤w.heap.size) (hS: ∀k,S k→B≤k):Below B w w':=⟨h.os,h.tape,h.output,h.size,fun k hk=>h.block k (by omega) (fun hs=>by have:=hS k hs;omega)⟩
theorem zX7.row {S:Nat→Prop} {w w':World} {G:Nat} {t:TypeId} {c:Array Value} (h:zX7 S w w') (hr:zAI w G t c) (hn: ¬S G):zAI w' G t c:=(h.block G hr.lt hn).trans hr
theorem zX7.own {S:Nat→Prop} {w w':World} {B g n c:Nat} {t:TypeId} {s:Nat} {xs:List Value} (h:zX7 S w w') (hr:w.ownsRow B t s (.slice (some ⟨g,0,none⟩) n c) n xs) (hn: ¬S g):w'.ownsRow B t s (.slice (some ⟨g,0,none⟩) n c) n xs:=by
 have hl:=(hr.lt g rfl).2
 obtain ⟨hlen,h1|⟨g',cap,cur,e,h1,h2,h3⟩⟩:=hr
 ·cases h1.1
 ·refine ⟨hlen, .inr ⟨g',cap,cur,e,h1,?_,h3⟩⟩
  injection e with a b d
  injection a with a
  injection a with a
  subst a
  exact (h.block _ hl hn).trans h2
theorem zX9 {l:List PlT} {i:Nat} {x y:PlT} (hi:i<l.length) (hx:l.getD i (0,0,0)=x) (hy:y ∈ l):y ∈ l.eraseIdx i ++ [x]:=by
 by_cases h:y=x
 ·simp [h]
 ·refine List.mem_append_left _ ?_
  obtain ⟨j,hj,rfl⟩:=List.getElem_of_mem hy
  have hne:j≠i:=fun e=>by
   subst e
   exact h (by rw [←hx,List.getD_eq_getElem?_getD,List.getElem?_eq_getElem hj];rfl)
  exact List.mem_eraseIdx_iff_getElem.2 ⟨j,hj,hne,rfl⟩
theorem zX8 {w:World} {B bc bm g c n:Nat} {room h m:Int} {L:List PlT} (hR:zAI w bc 121 #[.int .i64 room, .slice (some ⟨g,0,none⟩) n c, .map (some bm), .int .i64 h, .int .i64 m]) (hown:w.ownsRow B 75 3 (.slice (some ⟨g,0,none⟩) n c) n (zW1 L)) (hgc:g≠bc) (x0 x1 x2:Int) (hx:(x0,x1,x2) ∈ L) (hl:n≤64):
  Calls Tryz.prog 181 #[.pointer (some ⟨bc,0,none⟩), .agg #[.int .u64 x0, .int .i64 x1, .int .i64 x2]] w fun e w'=>e= .returned (.tuple #[])∧ ∃L',L'.length=n∧(∀y,y ∈ L→y ∈ L')∧zAI w' bc 121 #[.int .i64 room, .slice (some ⟨g,0,none⟩) n c, .map (some bm), .int .i64 h, .int .i64 m]∧w'.ownsRow B 75 3 (.slice (some ⟨g,0,none⟩) n c) n (zW1 L')∧zX7 (fun k=>k=bc∨k=g) w w':=by
 have hlen:L.length=n:=by have h:=hown.1;rw [zXw] at h;omega
 have hbl:=hR.lt
 have hgl:=(hown.lt g rfl).2
 have hn0:0<n:=by rw [←hlen];exact List.length_pos_of_mem hx
 have hnc:n≤c:=by
  rcases hown.2 with ⟨h,_⟩|⟨g',cap,cur,h,_,_,r1,_⟩
  ·cases h
  ·injection h with a b d;omega
 have HMv:Hid (∀i y,i<n→L.getD i (0,0,0)=(x0,x1,x2)→y ∈ L→y ∈ L.eraseIdx i ++ [(x0,x1,x2)]):=zy (fun i y hi h1 h2=>zX9 (by omega) h1 h2)
 have HLn:=zy hlen
 have Z:Hid (zAI (w.alloc (.cells #[.int .u64 x0, .int .i64 x1, .int .i64 x2] 75)) bc 121 #[.int .i64 room, .slice (some ⟨g,0,none⟩) n c, .map (some bm), .int .i64 h, .int .i64 m]∧zAI (w.alloc (.cells #[.int .u64 x0, .int .i64 x1, .int .i64 x2] 75)) w.heap.size 75 #[.int .u64 x0, .int .i64 x1, .int .i64 x2]∧zX7 (fun k=>k=bc∨k=g) w (w.alloc (.cells #[.int .u64 x0, .int .i64 x1, .int .i64 x2] 75))):=zy ⟨hR.alloc _,(lay1 w 75 #[.int .u64 x0, .int .i64 x1, .int .i64 x2]).1,zX7.of_below (lay1 w 75 #[.int .u64 x0, .int .i64 x1, .int .i64 x2]).2⟩
 have KB:Hid (∀W W',(zAI W bc 121 #[.int .i64 room, .slice (some ⟨g,0,none⟩) n c, .map (some bm), .int .i64 h, .int .i64 m]∧zAI W w.heap.size 75 #[.int .u64 x0, .int .i64 x1, .int .i64 x2]∧zX7 (fun k=>k=bc∨k=g) w W)→Below W.heap.size W W'→(zAI W' bc 121 #[.int .i64 room, .slice (some ⟨g,0,none⟩) n c, .map (some bm), .int .i64 h, .int .i64 m]∧zAI W' w.heap.size 75 #[.int .u64 x0, .int .i64 x1, .int .i64 x2]∧zX7 (fun k=>k=bc∨k=g) w W')):=zy (fun W W' h hY=>⟨h.1.keep hY,h.2.1.keep hY,h.2.2.trans (zX7.of_below (S:=fun _=>False) hY) (fun _ _ h=>h.elim)⟩)
 have KG:Hid (∀W W',(zAI W bc 121 #[.int .i64 room, .slice (some ⟨g,0,none⟩) n c, .map (some bm), .int .i64 h, .int .i64 m]∧zAI W w.heap.size 75 #[.int .u64 x0, .int .i64 x1, .int .i64 x2]∧zX7 (fun k=>k=bc∨k=g) w W)→But g W W'→(zAI W' bc 121 #[.int .i64 room, .slice (some ⟨g,0,none⟩) n c, .map (some bm), .int .i64 h, .int .i64 m]∧zAI W' w.heap.size 75 #[.int .u64 x0, .int .i64 x1, .int .i64 x2]∧zX7 (fun k=>k=bc∨k=g) w W')):=zy (fun W W' h hY=>⟨(hY.block _ h.1.lt (Ne.symm hgc)).trans h.1,(hY.block _ h.2.1.lt (by omega)).trans h.2.1,h.2.2.trans (zX7.of_but (S:=fun k=>k=g) hY rfl) (fun _ _ h=> .inr h)⟩)
 have HSl:Hid (∀W,(zAI W bc 121 #[.int .i64 room, .slice (some ⟨g,0,none⟩) n c, .map (some bm), .int .i64 h, .int .i64 m]∧zAI W w.heap.size 75 #[.int .u64 x0, .int .i64 x1, .int .i64 x2]∧zX7 (fun k=>k=bc∨k=g) w W)→(W.cell? ⟨bc,1,none⟩=some (.slice (some ⟨g,0,none⟩) n c)∧zAI W w.heap.size 75 #[.int .u64 x0, .int .i64 x1, .int .i64 x2])):=zy (fun W h=>⟨h.1.cell (i:=1) rfl,h.2.1⟩)
 have HKo:Hid (∀W W',zX7 (fun _=>False) W W'→W.ownsRow B 75 3 (.slice (some ⟨g,0,none⟩) n c) n (zW1 L)→W'.ownsRow B 75 3 (.slice (some ⟨g,0,none⟩) n c) n (zW1 L)):=zy (fun W W' h ho=>h.own ho (fun h=>h))
 have HO:Hid ((w.alloc (.cells #[.int .u64 x0, .int .i64 x1, .int .i64 x2] 75)).ownsRow B 75 3 (.slice (some ⟨g,0,none⟩) n c) n (zW1 L)):=zy (HKo.out _ _ (zX7.of_below (lay1 w 75 #[.int .u64 x0, .int .i64 x1, .int .i64 x2]).2) hown)
 have HMem:=zy hx
 obtain ⟨i0,hi0,hz0,hz1,hz2⟩:=info_parts zX5
 clear hR hown hlen hx
 go_enter Tryz.func181,Tryz.ntmps181
 go_wp2_with fail
 obtain ⟨w1,hw1⟩: ∃w1,w1=w.alloc (.cells #[.int .u64 x0, .int .i64 x1, .int .i64 x2] 75):=⟨_,rfl⟩
 rw [←hw1] at Z HO ⊢
 clear hw1
 have z0:=zy (KB.out _ _ Z.out (below_drewN (Below.refl _ _) 1))
 have HO0:Hid ((w1.drewN 1).ownsRow B 75 3 (.slice (some ⟨g,0,none⟩) n c) n (zW1 L)):=zy HO.out
 have HIx:Hid (Calls Tryz.prog 211 #[.slice (some ⟨g,0,none⟩) n c, .agg #[.int .u64 x0, .int .i64 x1, .int .i64 x2]] (w1.drewN 1) fun e w'=> ∃i:Nat,e= .returned (.int .i64 i)∧i<n∧L.getD i (0,0,0)=(x0,x1,x2)∧Below (w1.drewN 1).heap.size (w1.drewN 1) w'):=zy (by
  have hlen:=HLn.out
  have h:=zX0 (L:=L) (B:=B) (g:=g) (c:=c) (w:=w1.drewN 1) (by rw [hlen];exact HO0.out) x0 x1 x2 HMem.out (by rw [hlen];exact hl)
  rw [hlen] at h
  exact h)
 clear Z HO
 refine wp_region_held_drew (S:=fun wz=>wz.cell? ⟨bc,1,none⟩=some (.slice (some ⟨g,0,none⟩) n c)∧zAI wz w.heap.size 75 #[.int .u64 x0, .int .i64 x1, .int .i64 x2]) (by kernel_rfl) ((HSl.out _ z0.out)) (fun hHeld=>?_)
 refine zj (i:=0) (v:=?_) rfl (by kernel_rfl) (fun _ _ _=>id) (by rfl) ?_ (HSl.out _ z0.out) ?_
 rotate_left
 ·intro w h;go_simp;try with_reducible rfl
 try simp only [zv,zx]
 refine zj (i:=1) (v:=?_) rfl (by kernel_rfl) (fun _ _ _=>id) (by rfl) ?_ (HSl.out _ z0.out) ?_
 rotate_left
 ·intro w h;go_simp;try with_reducible rfl
 try simp only [zv,zx]
 refine zj (i:=2) (v:=?_) rfl (by kernel_rfl) (fun _ _ _=>id) (by rfl) ?_ (HSl.out _ z0.out) ?_
 rotate_left
 ·intro w h;go_simp;try with_reducible rfl
 try simp only [zv,zx]
 refine zj (i:=3) (v:=?_) rfl (by kernel_rfl) (fun _ _ _=>id) (by rfl) ?_ (HSl.out _ z0.out) ?_
 rotate_left
 ·intro w h;go_simp;try with_reducible rfl
 try simp only [zv,zx]
 refine zQ (i:=4) rfl (by kernel_rfl) (fun _ _ _=>id) (zXh (by rfl) _ _ rfl _ rfl _ _ _ (fun wz h=>h.2) Tryz.underlying75 rfl (by exact zX1)) (HSl.out _ z0.out) ?_
 try simp only [zv,zx]
 refine wpAnyH_ready (rs:= [5]) (by kernel_rfl) (by simp) ?_
 refine AllReadyH.cons rfl (fun K hK=>?_) AllReadyH.nil
 try simp only [zx]
 rw [if_pos (by rfl)]
 go_wp2_with (go_at_call 211;refine (HIx.out).mono ?_;rintro e y5 ⟨i,rfl,hi,hxi,hY⟩)
 have z5:=zy (KB.out _ _ z0.out hY)
 have HO5:=zy (HKo.out _ _ (zX7.of_below hY) HO0.out)
 have HXi:=zy hxi
 clear hY hxi
 refine hK.out _ _ ((HSl.out _ z5.out)) (fun _=>?_)
 clear hK K
 try simp only [zv,zx]
 refine zj (i:=6) (v:=?_) rfl (by kernel_rfl) (fun _ _ _=>id) (by rfl) ?_ (HSl.out _ z5.out) ?_
 rotate_left
 ·intro w h;go_simp;try with_reducible rfl
 try simp only [zv,zx]
 refine wpAnyH_done (by kernel_rfl) ?_ _
 have hi64:i<64:=by omega
 obtain ⟨j,hj⟩: ∃j,j=i+1:=⟨_,rfl⟩
 have ej:(i:Int)+1=((j:Nat):Int):=by omega
 have HD5:Hid (∀W,W.ownsRow B 75 3 (.slice (some ⟨g,0,none⟩) n c) n (zW1 L)→Calls Tryz.prog 182 #[.slice (some ⟨g,0,none⟩) n c, .int .i64 (i:Nat), .int .i64 (j:Nat)] W fun e w'=>e= .returned (.slice (some ⟨g,0,none⟩) (n-1:Nat) c)∧w'.ownsRow B 75 3 (.slice (some ⟨g,0,none⟩) (n-1) c) (n-1) (zW1 (L.eraseIdx i))∧But g W w'):=zy (fun W hW=>by
  have h:=zX6 (i:=i) hW hi (by omega)
  rw [←hj] at h
  exact h)
 have hmoved:=HMv.out i
 have HMv:=zy (fun y hy=>hmoved y hi HXi.out hy)
 obtain ⟨k,hk⟩: ∃k,k=n-1:=⟨_,rfl⟩
 rw [←hk] at HD5
 have hk1:k+1=n:=by omega
 have hLe:(L.eraseIdx i ++ [(x0,x1,x2)]).length=n:=by
  have:=HLn.out
  rw [List.length_append,List.length_eraseIdx,if_pos (by omega)];simp;omega
 have HLe:=zy hLe
 clear hmoved hj hk hLe HXi HO0 z0 HIx
 go_wp2_with fail
 have z0:=zy (KB.out _ _ z5.out (below_drewN (Below.refl _ _) 1))
 have HO0:Hid ((y5.drewN 1).ownsRow B 75 3 (.slice (some ⟨g,0,none⟩) n c) n (zW1 L)):=zy HO5.out
 clear z5 HO5
 refine wp_region_held_drew (S:=fun wz=>wz.cell? ⟨bc,1,none⟩=some (.slice (some ⟨g,0,none⟩) n c)∧zAI wz w.heap.size 75 #[.int .u64 x0, .int .i64 x1, .int .i64 x2]) (by kernel_rfl) ((HSl.out _ z0.out)) (fun hHeld=>?_)
 refine zj (i:=0) (v:=?_) rfl (by kernel_rfl) (fun _ _ _=>id) (by rfl) ?_ (HSl.out _ z0.out) ?_
 rotate_left
 ·intro w h;go_simp;try with_reducible rfl
 try simp only [zv,zx]
 refine zj (i:=1) (v:=?_) rfl (by kernel_rfl) (fun _ _ _=>id) (by rfl) ?_ (HSl.out _ z0.out) ?_
 rotate_left
 ·intro w h;go_simp;try with_reducible rfl
 try simp only [zv,zx]
 refine zj (i:=2) (v:=?_) rfl (by kernel_rfl) (fun _ _ _=>id) (by rfl) ?_ (HSl.out _ z0.out) ?_
 rotate_left
 ·intro w h;go_simp;try with_reducible rfl
 try simp only [zv,zx]
 refine zj (i:=3) (v:=?_) rfl (by kernel_rfl) (fun _ _ _=>id) (by rfl) ?_ (HSl.out _ z0.out) ?_
 rotate_left
 ·intro w h;go_simp;try with_reducible rfl
 try simp only [zv,zx]
 refine zj (i:=4) (v:=?_) rfl (by kernel_rfl) (fun _ _ _=>id) (by rfl) ?_ (HSl.out _ z0.out) ?_
 rotate_left
 ·intro w h;go_simp;try with_reducible rfl
 try simp only [zv,zx]
 refine zj (i:=5) (v:=?_) rfl (by kernel_rfl) (fun _ _ _=>id) (by rfl) ?_ (HSl.out _ z0.out) ?_
 rotate_left
 ·intro w h;go_simp;try with_reducible rfl
 try simp only [zv,zx]
 refine zj (i:=6) (v:=?_) rfl (by kernel_rfl) (fun _ _ _=>id) (by rfl) ?_ (HSl.out _ z0.out) ?_
 rotate_left
 ·intro w h;go_simp;try with_reducible rfl
 try simp only [zv,zx]
 refine zj (i:=7) (v:=?_) rfl (by kernel_rfl) (fun _ _ _=>id) (by rfl) ?_ (HSl.out _ z0.out) ?_
 rotate_left
 ·intro w h;go_simp;try with_reducible rfl
 try simp only [zv,zx]
 refine zQ (i:=9) rfl (by kernel_rfl) (fun _ _ _=>id) (zXh (by rfl) _ _ rfl _ rfl _ _ _ (fun wz h=>h.2) Tryz.underlying75 rfl (by exact zX1)) (HSl.out _ z0.out) ?_
 try simp only [zv,zx]
 refine wpAnyH_ready (rs:= [8,10]) (by kernel_rfl) (by simp) ?_
 refine AllReadyH.cons rfl (fun K hK=>?_) ?_
 ·try simp only [zx]
  rw [if_pos (by rfl)]
  go_wp2_with (go_at_call 182;refine (HD5.out _ HO0.out).mono ?_;rintro e y8 ⟨rfl,hO8,hY⟩)
  have z8:=zy (KG.out _ _ z0.out hY)
  have HO8:=zy hO8
  clear hY hO8
  refine hK.out _ _ ((HSl.out _ z8.out)) (fun _=>?_)
  clear hK K
  try simp only [zv,zx]
  refine wpAnyH_ready (rs:= [10]) (by kernel_rfl) (by simp) ?_
  refine AllReadyH.cons rfl (fun K hK=>?_) AllReadyH.nil
  try simp only [zx]
  have hA:=(lay1 (y8) 75 #[.int .u64 x0, .int .i64 x1, .int .i64 x2])
  have z10:=zy (KB.out _ _ z8.out hA.2)
  have RB:=zy hA.1
  have HO10:=zy ((zX7.of_below (S:=fun _=>False) hA.2).own HO8.out (fun h=>h))
  clear hA
  rw [if_pos (by rfl)]
  go_wp2_with fail
  refine hK.out _ _ ((HSl.out _ z10.out)) (fun _=>?_)
  clear hK K
  try simp only [zv,zx]
  refine wpAnyH_ready (rs:= [11]) (by kernel_rfl) (by simp) ?_
  refine AllReadyH.cons rfl (fun K hK=>?_) AllReadyH.nil
  try simp only [zx]
  rw [if_pos (by rfl)]
  refine zX3 _ _ 119 rfl B 75 i0 3 Tryz.underlying119 hi0 hz1 g k c (zW1 (L.eraseIdx i)) rfl HO10.out ⟨y8.heap.size,0,none⟩ 1 1 (zW1 [(x0,x1,x2)]) rfl rfl (fun j u hu=>by rw [zWx];exact RB.out.cell (by simpa [zW1] using hu)) (zXx _) (by omega) ?_
  intro w11 ho11 hg11
  have z11:=zy (KG.out _ _ z10.out (But.of_grown hg11))
  rw [hk1,←zXj] at ho11
  have HO11:=zy ho11
  rw [hk1]
  clear ho11 hg11
  refine hK.out _ _ ((HSl.out _ z11.out)) (fun _=>?_)
  clear hK K
  try simp only [zv,zx]
  refine zj (i:=12) (v:=?_) rfl (by kernel_rfl) (fun _ _ _=>id) (by rfl) ?_ (HSl.out _ z11.out) ?_
  rotate_left
  ·intro w h;go_simp;try with_reducible rfl
  try simp only [zv,zx]
  refine zj (i:=13) (v:=?_) rfl (by kernel_rfl) (fun _ _ _=>id) (by rfl) ?_ (HSl.out _ z11.out) ?_
  rotate_left
  ·intro w h;go_simp;try with_reducible rfl
  try simp only [zv,zx]
  have cc:=z11.out.1.cell (i:=1) (v:= .slice (some ⟨g,0,none⟩) n c) rfl
  have ff:=z11.out.1.frozen 1
  have hW:zX7 (fun k=>k=bc∨k=g) w (w11.setCell ⟨bc,1,none⟩ (.slice (some ⟨g,0,none⟩) n c)):=z11.out.2.2.trans (zX7.of_but (S:=fun k=>k=bc) (But.setCell bc 1 w11 _) rfl) (fun _ _ h=> .inl h)
  have hRw:=z11.out.1.set 1 (.slice (some ⟨g,0,none⟩) n c)
  have hRk:=z11.out.2.1.setOther ⟨bc,1,none⟩ (.slice (some ⟨g,0,none⟩) n c) (by show w.heap.size≠bc;omega)
  have z14:Hid (zAI (w11.setCell ⟨bc,1,none⟩ (.slice (some ⟨g,0,none⟩) n c)) bc 121 #[.int .i64 room, .slice (some ⟨g,0,none⟩) n c, .map (some bm), .int .i64 h, .int .i64 m]∧zAI (w11.setCell ⟨bc,1,none⟩ (.slice (some ⟨g,0,none⟩) n c)) w.heap.size 75 #[.int .u64 x0, .int .i64 x1, .int .i64 x2]∧zX7 (fun k=>k=bc∨k=g) w (w11.setCell ⟨bc,1,none⟩ (.slice (some ⟨g,0,none⟩) n c))):=zy ⟨hRw,hRk,hW⟩
  have HO14:Hid ((w11.setCell ⟨bc,1,none⟩ (.slice (some ⟨g,0,none⟩) n c)).ownsRow B 75 3 (.slice (some ⟨g,0,none⟩) n c) n (zW1 (L.eraseIdx i ++ [(x0,x1,x2)]))):=zy ((zX7.of_but (S:=fun k=>k=bc) (But.setCell bc 1 w11 (.slice (some ⟨g,0,none⟩) n c)) rfl).own HO11.out hgc)
  clear hW hRw hRk
  refine wpAnyH_ready (rs:= [14]) (by kernel_rfl) (by simp) ?_
  refine AllReadyH.cons rfl (fun K hK=>?_) AllReadyH.nil
  try simp only [zx]
  rw [if_pos (by rfl)]
  go_wp2_with fail
  refine hK.out _ _ ((HSl.out _ z14.out)) (fun _=>?_)
  clear hK K
  try simp only [zv,zx]
  refine wpAnyH_done (by kernel_rfl) ?_ _
  go_wp2
  go_end0
  exact ⟨rfl,_,HLe.out,HMv.out,z14.out.1,HO14.out,z14.out.2.2⟩
 ·refine AllReadyH.cons rfl (fun K hK=>?_) AllReadyH.nil
  try simp only [zx]
  have hA:=(lay1 (y5.drewN 1) 75 #[.int .u64 x0, .int .i64 x1, .int .i64 x2])
  have z10:=zy (KB.out _ _ z0.out hA.2)
  have RB:=zy hA.1
  have HO10:=zy ((zX7.of_below (S:=fun _=>False) hA.2).own HO0.out (fun h=>h))
  have hgs:=(hA.1).lt
  have hgg:=(HO0.out.lt g rfl).2
  clear hA
  rw [if_pos (by rfl)]
  go_wp2_with fail
  refine hK.out _ _ ((HSl.out _ z10.out)) (fun _=>?_)
  clear hK K
  try simp only [zv,zx]
  refine wpAnyH_ready (rs:= [8]) (by kernel_rfl) (by simp) ?_
  refine AllReadyH.cons rfl (fun K hK=>?_) AllReadyH.nil
  try simp only [zx]
  rw [if_pos (by rfl)]
  go_wp2_with (go_at_call 182;refine (HD5.out _ HO10.out).mono ?_;rintro e y8 ⟨rfl,hO8,hY⟩)
  have z8:=zy (KG.out _ _ z10.out hY)
  have HO8:=zy hO8
  have RB8:Hid (zAI y8 (y5.drewN 1).heap.size 75 #[.int .u64 x0, .int .i64 x1, .int .i64 x2]):=zy ((hY.block _ RB.out.lt (by omega)).trans RB.out)
  clear hY hO8
  refine hK.out _ _ ((HSl.out _ z8.out)) (fun _=>?_)
  clear hK K
  try simp only [zv,zx]
  refine wpAnyH_ready (rs:= [11]) (by kernel_rfl) (by simp) ?_
  refine AllReadyH.cons rfl (fun K hK=>?_) AllReadyH.nil
  try simp only [zx]
  rw [if_pos (by rfl)]
  refine zX3 _ _ 119 rfl B 75 i0 3 Tryz.underlying119 hi0 hz1 g k c (zW1 (L.eraseIdx i)) rfl HO8.out ⟨(y5.drewN 1).heap.size,0,none⟩ 1 1 (zW1 [(x0,x1,x2)]) rfl rfl (fun j u hu=>by rw [zWx];exact RB8.out.cell (by simpa [zW1] using hu)) (zXx _) (by omega) ?_
  intro w11 ho11 hg11
  have z11:=zy (KG.out _ _ z8.out (But.of_grown hg11))
  rw [hk1,←zXj] at ho11
  have HO11:=zy ho11
  rw [hk1]
  clear ho11 hg11
  refine hK.out _ _ ((HSl.out _ z11.out)) (fun _=>?_)
  clear hK K
  try simp only [zv,zx]
  refine zj (i:=12) (v:=?_) rfl (by kernel_rfl) (fun _ _ _=>id) (by rfl) ?_ (HSl.out _ z11.out) ?_
  rotate_left
  ·intro w h;go_simp;try with_reducible rfl
  try simp only [zv,zx]
  refine zj (i:=13) (v:=?_) rfl (by kernel_rfl) (fun _ _ _=>id) (by rfl) ?_ (HSl.out _ z11.out) ?_
  rotate_left
  ·intro w h;go_simp;try with_reducible rfl
  try simp only [zv,zx]
  have cc:=z11.out.1.cell (i:=1) (v:= .slice (some ⟨g,0,none⟩) n c) rfl
  have ff:=z11.out.1.frozen 1
  have hW:zX7 (fun k=>k=bc∨k=g) w (w11.setCell ⟨bc,1,none⟩ (.slice (some ⟨g,0,none⟩) n c)):=z11.out.2.2.trans (zX7.of_but (S:=fun k=>k=bc) (But.setCell bc 1 w11 _) rfl) (fun _ _ h=> .inl h)
  have hRw:=z11.out.1.set 1 (.slice (some ⟨g,0,none⟩) n c)
  have hRk:=z11.out.2.1.setOther ⟨bc,1,none⟩ (.slice (some ⟨g,0,none⟩) n c) (by show w.heap.size≠bc;omega)
  have z14:Hid (zAI (w11.setCell ⟨bc,1,none⟩ (.slice (some ⟨g,0,none⟩) n c)) bc 121 #[.int .i64 room, .slice (some ⟨g,0,none⟩) n c, .map (some bm), .int .i64 h, .int .i64 m]∧zAI (w11.setCell ⟨bc,1,none⟩ (.slice (some ⟨g,0,none⟩) n c)) w.heap.size 75 #[.int .u64 x0, .int .i64 x1, .int .i64 x2]∧zX7 (fun k=>k=bc∨k=g) w (w11.setCell ⟨bc,1,none⟩ (.slice (some ⟨g,0,none⟩) n c))):=zy ⟨hRw,hRk,hW⟩
  have HO14:Hid ((w11.setCell ⟨bc,1,none⟩ (.slice (some ⟨g,0,none⟩) n c)).ownsRow B 75 3 (.slice (some ⟨g,0,none⟩) n c) n (zW1 (L.eraseIdx i ++ [(x0,x1,x2)]))):=zy ((zX7.of_but (S:=fun k=>k=bc) (But.setCell bc 1 w11 (.slice (some ⟨g,0,none⟩) n c)) rfl).own HO11.out hgc)
  clear hW hRw hRk
  refine wpAnyH_ready (rs:= [14]) (by kernel_rfl) (by simp) ?_
  refine AllReadyH.cons rfl (fun K hK=>?_) AllReadyH.nil
  try simp only [zx]
  rw [if_pos (by rfl)]
  go_wp2_with fail
  refine hK.out _ _ ((HSl.out _ z14.out)) (fun _=>?_)
  clear hK K
  try simp only [zv,zx]
  refine wpAnyH_done (by kernel_rfl) ?_ _
  go_wp2
  go_end0
  exact ⟨rfl,_,HLe.out,HMv.out,z14.out.1,HO14.out,z14.out.2.2⟩
end

section
structure zXA (W:World) (B bc bm:Nat) (V:Value) (ord:List PlT) (room:Int):Prop where
 row: ∃h m:Int,zAI W bc 121 #[.int .i64 room,V, .map (some bm), .int .i64 h, .int .i64 m]
 own:W.ownsRow B 75 3 V ord.length (zW1 ord)
 book:zKN W bm ord
 len:(ord.length:Int)≤room
 room0:0≤room
 room1:room≤64
 bc0:B≤bc
 bm0:B≤bm
theorem zXA.ne_map {W:World} {B bc bm:Nat} {V:Value} {ord:List PlT} {room:Int} (h:zXA W B bc bm V ord room):bc≠bm:=fun e=>by
 obtain ⟨a,b,hr⟩:=h.row
 obtain ⟨ms,clock,hm,_⟩:=h.book
 rw [←e,hr] at hm
 cases hm
theorem zXA.ne_own {W:World} {B bc bm g n c:Nat} {V:Value} {ord:List PlT} {room:Int} (h:zXA W B bc bm V ord room) (hV:V= .slice (some ⟨g,0,none⟩) n c):g≠bc∧g≠bm∧B≤g:=by
 subst hV
 obtain ⟨a,b,hr⟩:=h.row
 obtain ⟨ms,clock,hm,_⟩:=h.book
 rcases h.own.2 with ⟨h1,_⟩|⟨g',cap,cur,e,h1,h2,_⟩
 ·cases h1
 ·injection e with e1 e2 e3
  injection e1 with e1
  injection e1 with e1
  subst e1
  refine ⟨fun e=>?_,fun e=>?_,h1⟩
  ·subst e
   rw [hr] at h2
   injection h2 with h2
   injection h2 with h3 h4
   exact absurd h4 (by decide)
  ·subst e;rw [hm] at h2;cases h2
def CF (bc bm:Nat) (V:Value) (k:Nat):Prop:=k=bc∨k=bm∨V.ownBlock=some k
theorem zXA.cf {W:World} {B bc bm:Nat} {V:Value} {ord:List PlT} {room:Int} (h:zXA W B bc bm V ord room): ∀k,CF bc bm V k→B≤k∧k<W.heap.size:=by
 rintro k (rfl|rfl|hk)
 ·obtain ⟨a,b,hr⟩:=h.row;exact ⟨h.bc0,hr.lt⟩
 ·exact ⟨h.bm0,h.book.lt⟩
 ·exact h.own.lt k hk
theorem zXC {w w':World} {B n s:Nat} {t:TypeId} {V:Value} {xs:List Value} (h:w.ownsRow B t s V n xs) (hb: ∀k,V.ownBlock=some k→w'.heap[k]? =w.heap[k]?):w'.ownsRow B t s V n xs:=by
 refine ⟨h.1,?_⟩
 rcases h.2 with hn|⟨g,cap,cur,rfl,hb',hgg,rest⟩
 ·exact .inl hn
 ·exact .inr ⟨g,cap,cur,rfl,hb',(hb g rfl).trans hgg,rest⟩
theorem zXA.upd {W W':World} {B bc bm:Nat} {V:Value} {ord:List PlT} {room:Int} (h:zXA W B bc bm V ord room) (hr: ∃a b:Int,zAI W' bc 121 #[.int .i64 room,V, .map (some bm), .int .i64 a, .int .i64 b])
  (hb: ∀k,k=bm∨V.ownBlock=some k→W'.heap[k]? =W.heap[k]?):zXA W' B bc bm V ord room:=
 ⟨hr,zXC h.own fun k hk=>hb k (.inr hk),h.book.same (hb bm (.inl rfl)),h.len,h.room0,h.room1,h.bc0,h.bm0⟩
theorem zXA.keep {W W':World} {B bc bm:Nat} {V:Value} {ord:List PlT} {room:Int} (h:zXA W B bc bm V ord room) (hb:Below W.heap.size W W'):zXA W' B bc bm V ord room:=by
 obtain ⟨a,b,hr⟩:=h.row
 exact h.upd ⟨a,b,hr.keep hb⟩ fun k hk=>hb.block k (h.cf k (by rcases hk with hk|hk;exact .inr (.inl hk);exact .inr (.inr hk))).2
theorem zXB {w:World} {bm:Nat} {ord:List PlT} (h:zKN w bm ord) (p n k:Int):
  (∀wz,wz.heap[bm]? =w.heap[bm]? →(Instr.lookup 118 (.map (some bm)) (keyV p n k) true).run Tryz.prog wz= .ok (.tuple #[.agg (zD7 (0,0,0)), .bool false]) wz)∨
  ((∀wz,wz.heap[bm]? =w.heap[bm]? →(Instr.lookup 118 (.map (some bm)) (keyV p n k) true).run Tryz.prog wz= .ok (.tuple #[.agg (zD7 (chP p n k)), .bool true]) wz)∧chE p n k=0∧(p,n,k) ∈ ord):=by
 obtain ⟨ms,clock,hm,hs,hx⟩:=h
 have hk: ∀x ∈ ms.toList,zKG x.key:=fun x h=>by obtain ⟨a,b,c,h,_⟩:=hx x h;exact ⟨a,b,c,h⟩
 by_cases hin: ∃x ∈ ms.toList,x.key=keyV p n k
 ·obtain ⟨x,hxm,hxk⟩:=hin
  obtain ⟨a,b,c,h4,h5,h6,h7⟩:=hx x hxm
  rw [hxk] at h4
  obtain ⟨rfl,rfl,rfl⟩:=zTE.1 h4
  refine .inr ⟨fun wz hz=>?_,h6,h7⟩
  rw [hm] at hz
  rcases zOG p n k wz ms.toList hk with ⟨_,h2⟩|⟨j,e,h1,h2,h3⟩
  ·exact absurd hxk (h2 x hxm)
  ·obtain ⟨a,b,c,h4,h5,h6,h7⟩:=hx e (List.mem_of_getElem? h2)
   rw [h3] at h4
   obtain ⟨rfl,rfl,rfl⟩:=zTE.1 h4
   simp [Instr.lookup,run_underlying zWe,MapKept.run_getObj_map hz,zNb,h1,Result.andThen,h5]
 ·refine .inl fun wz hz=>?_
  rw [hm] at hz
  rcases zOG p n k wz ms.toList hk with ⟨h1,_⟩|⟨j,e,h1,h2,h3⟩
  ·simp [Instr.lookup,run_underlying zWe,MapKept.run_getObj_map hz,zNb,h1,zWi,Result.andThen];rfl
  ·exact absurd ⟨e,List.mem_of_getElem? h2,h3⟩ hin
end

section
theorem zXA.own_ne {W:World} {B bc bm:Nat} {V:Value} {ord:List PlT} {room:Int} (h:zXA W B bc bm V ord room) {k:Nat} (hk:V.ownBlock=some k):k≠bc∧k≠bm:=by
 rcases h.own.2 with ⟨h1,_⟩|⟨g',cap,cur,e,h1,h2,_⟩
 ·rw [h1] at hk;cases hk
 ·rw [e] at hk
  obtain rfl:=Option.some.inj hk
  exact ⟨(h.ne_own e).1,(h.ne_own e).2.1⟩
theorem zXA.form {W:World} {B bc bm:Nat} {V:Value} {ord:List PlT} {room:Int} (h:zXA W B bc bm V ord room) {x:PlT} (hx:x ∈ ord): ∃g c,V= .slice (some ⟨g,0,none⟩) ord.length c:=by
 rcases h.own.2 with ⟨_,h1⟩|⟨g,c,cur,e,_⟩
 ·have:=List.length_pos_of_mem hx;omega
 ·exact ⟨g,c,e⟩
theorem zXD {w:World} {B bc bm:Nat} {V:Value} {ord:List PlT} {room:Int} (hC:zXA w B bc bm V ord room) (x0 x1 x2:Int) (hL: ∀wz:World,wz.heap[bm]? =w.heap[bm]? →(Instr.lookup 118 (.map (some bm)) (keyV x0 x1 x2) true).run Tryz.prog wz= .ok (.tuple #[.agg (zD7 (0,0,0)), .bool false]) wz):
  Calls Tryz.prog 139 #[.pointer (some ⟨bc,0,none⟩), .agg #[.int .u64 x0, .int .i64 x1, .int .i64 x2]] w fun e w'=>zXA w' B bc bm V ord room∧zX7 (CF bc bm V) w w'∧w'.heap[bm]? =w.heap[bm]? ∧e= .returned (.tuple #[.agg (zD7 (0,0,0)), .bool false]):=by
 obtain ⟨h,m,hr⟩:=hC.row
 have hcf:=hC.cf
 have Z:Hid (zAI (((w.alloc (.cells #[.int .u64 x0, .int .i64 x1, .int .i64 x2] 75)).alloc (.cells #[.int .i64 0, .int .i64 0, .int .i64 0] 36)).alloc (.cells #[.int .i64 0, .int .i64 0, .int .i64 0] 36)) bc 121 #[.int .i64 room,V, .map (some bm), .int .i64 h, .int .i64 m]∧zAI (((w.alloc (.cells #[.int .u64 x0, .int .i64 x1, .int .i64 x2] 75)).alloc (.cells #[.int .i64 0, .int .i64 0, .int .i64 0] 36)).alloc (.cells #[.int .i64 0, .int .i64 0, .int .i64 0] 36)) w.heap.size 75 #[.int .u64 x0, .int .i64 x1, .int .i64 x2]∧zAI (((w.alloc (.cells #[.int .u64 x0, .int .i64 x1, .int .i64 x2] 75)).alloc (.cells #[.int .i64 0, .int .i64 0, .int .i64 0] 36)).alloc (.cells #[.int .i64 0, .int .i64 0, .int .i64 0] 36)) (w.heap.size+1) 36 #[.int .i64 0, .int .i64 0, .int .i64 0]∧zAI (((w.alloc (.cells #[.int .u64 x0, .int .i64 x1, .int .i64 x2] 75)).alloc (.cells #[.int .i64 0, .int .i64 0, .int .i64 0] 36)).alloc (.cells #[.int .i64 0, .int .i64 0, .int .i64 0] 36)) (w.heap.size+1+1) 36 #[.int .i64 0, .int .i64 0, .int .i64 0]∧zX7 (fun k=>k=bc) w (((w.alloc (.cells #[.int .u64 x0, .int .i64 x1, .int .i64 x2] 75)).alloc (.cells #[.int .i64 0, .int .i64 0, .int .i64 0] 36)).alloc (.cells #[.int .i64 0, .int .i64 0, .int .i64 0] 36))∧w.heap.size+3≤(((w.alloc (.cells #[.int .u64 x0, .int .i64 x1, .int .i64 x2] 75)).alloc (.cells #[.int .i64 0, .int .i64 0, .int .i64 0] 36)).alloc (.cells #[.int .i64 0, .int .i64 0, .int .i64 0] 36)).heap.size):=zy (by
  obtain ⟨a,b,c,d⟩:=lay3 w 75 36 36 #[.int .u64 x0, .int .i64 x1, .int .i64 x2] #[.int .i64 0, .int .i64 0, .int .i64 0] #[.int .i64 0, .int .i64 0, .int .i64 0]
  exact ⟨hr.keep d,a,b,c,zX7.of_below d,by simp⟩)
 have GB:Hid (∀W W',(zAI W bc 121 #[.int .i64 room,V, .map (some bm), .int .i64 h, .int .i64 m]∧zAI W w.heap.size 75 #[.int .u64 x0, .int .i64 x1, .int .i64 x2]∧zAI W (w.heap.size+1) 36 #[.int .i64 0, .int .i64 0, .int .i64 0]∧zAI W (w.heap.size+1+1) 36 #[.int .i64 0, .int .i64 0, .int .i64 0]∧zX7 (fun k=>k=bc) w W∧w.heap.size+3≤W.heap.size)→Below W.heap.size W W'→(zAI W' bc 121 #[.int .i64 room,V, .map (some bm), .int .i64 h, .int .i64 m]∧zAI W' w.heap.size 75 #[.int .u64 x0, .int .i64 x1, .int .i64 x2]∧zAI W' (w.heap.size+1) 36 #[.int .i64 0, .int .i64 0, .int .i64 0]∧zAI W' (w.heap.size+1+1) 36 #[.int .i64 0, .int .i64 0, .int .i64 0]∧zX7 (fun k=>k=bc) w W'∧w.heap.size+3≤W'.heap.size)):=zy (fun W W' h hY=>⟨h.1.keep hY,h.2.1.keep hY,h.2.2.1.keep hY,h.2.2.2.1.keep hY,h.2.2.2.2.1.trans (zX7.of_below (S:=fun _=>False) hY) (fun _ _ h=>h.elim),Nat.le_trans h.2.2.2.2.2 hY.size⟩)
 have HSl:Hid (∀W,(zAI W bc 121 #[.int .i64 room,V, .map (some bm), .int .i64 h, .int .i64 m]∧zAI W w.heap.size 75 #[.int .u64 x0, .int .i64 x1, .int .i64 x2]∧zAI W (w.heap.size+1) 36 #[.int .i64 0, .int .i64 0, .int .i64 0]∧zAI W (w.heap.size+1+1) 36 #[.int .i64 0, .int .i64 0, .int .i64 0]∧zX7 (fun k=>k=bc) w W∧w.heap.size+3≤W.heap.size)→(W.cell? ⟨bc,2,none⟩=some (.map (some bm))∧zAI W w.heap.size 75 #[.int .u64 x0, .int .i64 x1, .int .i64 x2]∧W.heap[bm]? =w.heap[bm]?)):=zy (fun W h=>⟨h.1.cell (i:=2) rfl,h.2.1,h.2.2.2.2.1.block bm (hcf bm (.inr (.inl rfl))).2 (Ne.symm hC.ne_map)⟩)
 have HCa:=zy hC
 have hbl:=hr.lt
 have HL:=zy hL
 obtain ⟨m',hm'⟩: ∃m',m'=IntKind.i64.wrap (m+1):=⟨_,rfl⟩
 have hw:IntKind.i64.wrap (m+1)=m':=hm'.symm
 clear hC hr hL hcf hm'
 go_enter Tryz.func139,Tryz.ntmps139
 go_wp2_with fail
 obtain ⟨w1,hw1⟩: ∃w1,w1=(((w.alloc (.cells #[.int .u64 x0, .int .i64 x1, .int .i64 x2] 75)).alloc (.cells #[.int .i64 0, .int .i64 0, .int .i64 0] 36)).alloc (.cells #[.int .i64 0, .int .i64 0, .int .i64 0] 36)):=⟨_,rfl⟩
 rw [←hw1] at Z ⊢
 clear hw1
 have z0:=zy (GB.out _ _ Z.out (below_drewN (Below.refl _ _) 1))
 clear Z
 refine wp_region_held_drew (S:=fun wz=>wz.cell? ⟨bc,2,none⟩=some (.map (some bm))∧zAI wz w.heap.size 75 #[.int .u64 x0, .int .i64 x1, .int .i64 x2]∧wz.heap[bm]? =w.heap[bm]?) (by kernel_rfl) ((HSl.out _ z0.out)) (fun hHeld=>?_)
 refine zj (i:=0) (v:=?_) rfl (by kernel_rfl) (fun _ _ _=>id) (by rfl) ?_ (HSl.out _ z0.out) ?_
 rotate_left
 ·intro w h;go_simp;try with_reducible rfl
 try simp only [zv,zx]
 refine zj (i:=1) (v:=?_) rfl (by kernel_rfl) (fun _ _ _=>id) (by rfl) ?_ (HSl.out _ z0.out) ?_
 rotate_left
 ·intro w h;go_simp;try with_reducible rfl
 try simp only [zv,zx]
 refine zj (i:=2) (v:=?_) rfl (by kernel_rfl) (fun _ _ _=>id) (by rfl) ?_ (HSl.out _ z0.out) ?_
 rotate_left
 ·intro w h;go_simp;try with_reducible rfl
 try simp only [zv,zx]
 refine zj (i:=3) (v:=?_) rfl (by kernel_rfl) (fun _ _ _=>id) (by rfl) ?_ (HSl.out _ z0.out) ?_
 rotate_left
 ·intro w h;go_simp;try with_reducible rfl
 try simp only [zv,zx]
 refine zQ (i:=4) rfl (by kernel_rfl) (fun _ _ _=>id) (zXh (by rfl) _ _ rfl _ rfl _ _ _ (fun wz h=>h.2.1) Tryz.underlying75 rfl (by exact zX1)) (HSl.out _ z0.out) ?_
 try simp only [zv,zx]
 refine zj (i:=5) (v:= .tuple #[.agg (zD7 (0,0,0)), .bool false]) rfl (by kernel_rfl) (fun _ _ _=>id) (by rfl) ?_ (HSl.out _ z0.out) ?_
 ·intro w hSw;have hlk:=HL.out _ hSw.2.2;unfold keyV at hlk;go_simp;try with_reducible rfl
 try simp only [zv,zx]
 refine zj (i:=6) (v:=?_) rfl (by kernel_rfl) (fun _ _ _=>id) (by rfl) ?_ (HSl.out _ z0.out) ?_
 rotate_left
 ·intro w h;go_simp;try with_reducible rfl
 try simp only [zv,zx]
 refine zj (i:=7) (v:=?_) rfl (by kernel_rfl) (fun _ _ _=>id) (by rfl) ?_ (HSl.out _ z0.out) ?_
 rotate_left
 ·intro w h;go_simp;try with_reducible rfl
 try simp only [zv,zx]
 refine zj (i:=8) (v:=?_) rfl (by kernel_rfl) (fun _ _ _=>id) (by rfl) ?_ (HSl.out _ z0.out) ?_
 rotate_left
 ·intro w h;go_simp;try with_reducible rfl
 try simp only [zv,zx]
 refine wpAnyH_ready (rs:= [9]) (by kernel_rfl) (by simp) ?_
 refine AllReadyH.cons rfl (fun K hK=>?_) AllReadyH.nil
 try simp only [zx]
 have hA:=lay1 (w1.drewN 1) 36 #[.int .i64 0, .int .i64 0, .int .i64 0]
 have z9:=zy (GB.out _ _ z0.out hA.2)
 have HP9:=zy hA.1
 clear hA
 rw [if_pos (by rfl)]
 go_wp2_with fail
 refine hK.out _ _ ((HSl.out _ z9.out)) (fun _=>?_)
 clear hK K
 try simp only [zv,zx]
 have hB:=below_setRow (lay1 (w1.drewN 1) 36 #[.int .i64 0, .int .i64 0, .int .i64 0]).2 (Nat.le_refl _) #[.int .i64 0, .int .i64 0, .int .i64 0]
 have z10:=zy (GB.out _ _ z0.out hB)
 have HP10:=zy (HP9.out.setRow #[.int .i64 0, .int .i64 0, .int .i64 0])
 clear hB
 refine wpAnyH_ready (rs:= [10]) (by kernel_rfl) (by simp) ?_
 refine AllReadyH.cons rfl (fun K hK=>?_) AllReadyH.nil
 try simp only [zx]
 rw [if_pos (by rfl)]
 refine wp_store_row _ _ _ rfl _ #[.int .i64 0, .int .i64 0, .int .i64 0] rfl rfl _ _ (HP9.out) (by exact zT5) rfl (zOs _ _ _) ?_
 refine hK.out _ _ ((HSl.out _ z10.out)) (fun _=>?_)
 clear hK K
 try simp only [zv,zx]
 refine zj (i:=11) (v:=?_) rfl (by kernel_rfl) (fun _ _ _=>id) (by rfl) ?_ (HSl.out _ z10.out) ?_
 rotate_left
 ·intro w h;go_simp;try with_reducible rfl
 try simp only [zv,zx]
 refine wpAnyH_done (by kernel_rfl) ?_ _
 obtain ⟨W2,hW2⟩: ∃W2,W2=((w1.alloc (.cells #[.int .i64 0, .int .i64 0, .int .i64 0] 36)).drew).setRow w1.heap.size #[.int .i64 0, .int .i64 0, .int .i64 0]:=⟨_,rfl⟩
 obtain ⟨bp,hbp⟩: ∃bp,bp=w1.heap.size:=⟨_,rfl⟩
 have hbp1:w.heap.size+3≤bp:=by rw [hbp];exact z0.out.2.2.2.2.2
 have z11:Hid (zAI W2 bc 121 #[.int .i64 room,V, .map (some bm), .int .i64 h, .int .i64 m]∧zAI W2 w.heap.size 75 #[.int .u64 x0, .int .i64 x1, .int .i64 x2]∧zAI W2 (w.heap.size+1) 36 #[.int .i64 0, .int .i64 0, .int .i64 0]∧zAI W2 (w.heap.size+1+1) 36 #[.int .i64 0, .int .i64 0, .int .i64 0]∧zX7 (fun k=>k=bc) w W2∧w.heap.size+3≤W2.heap.size):=zy (by rw [hW2];exact z10.out)
 have HP11:Hid (zAI W2 bp 36 #[.int .i64 0, .int .i64 0, .int .i64 0]):=zy (by rw [hW2,hbp];exact HP10.out)
 rw [←hW2,←hbp]
 clear hW2 hbp z9 HP9 z10 HP10
 have cc:=z11.out.1.cell (i:=4) (v:= .int .i64 m) rfl
 have ff:=z11.out.1.frozen 4
 have z3:Hid (zAI (W2.setCell ⟨bc,4,none⟩ (.int .i64 m')) bc 121 #[.int .i64 room,V, .map (some bm), .int .i64 h, .int .i64 m']∧zAI (W2.setCell ⟨bc,4,none⟩ (.int .i64 m')) w.heap.size 75 #[.int .u64 x0, .int .i64 x1, .int .i64 x2]∧zAI (W2.setCell ⟨bc,4,none⟩ (.int .i64 m')) (w.heap.size+1) 36 #[.int .i64 0, .int .i64 0, .int .i64 0]∧zAI (W2.setCell ⟨bc,4,none⟩ (.int .i64 m')) (w.heap.size+1+1) 36 #[.int .i64 0, .int .i64 0, .int .i64 0]∧zX7 (fun k=>k=bc) w (W2.setCell ⟨bc,4,none⟩ (.int .i64 m'))∧w.heap.size+3≤(W2.setCell ⟨bc,4,none⟩ (.int .i64 m')).heap.size):=zy ⟨z11.out.1.set 4 _,z11.out.2.1.setOther _ _ (by show w.heap.size≠bc;omega),z11.out.2.2.1.setOther _ _ (by show w.heap.size+1≠bc;omega),z11.out.2.2.2.1.setOther _ _ (by show w.heap.size+1+1≠bc;omega),
  z11.out.2.2.2.2.1.trans (zX7.of_but (S:=fun k=>k=bc) (But.setCell bc 4 W2 _) rfl) (fun _ _ h=>h),Nat.le_trans z11.out.2.2.2.2.2 (by simp)⟩
 clear z0 GB HSl HP11 HL
 go_wp2_with (first|(refine wpList_load_row rfl _ _ rfl _ rfl _ _ _ _ (z3.out.2.2.2.1) Tryz.underlying36 rfl (by exact zT5) ?_)|(refine wpList_store_row rfl _ _ _ rfl _ _ rfl rfl _ _ (z3.out.2.2.1) (by exact zT5) rfl (zOs _ _ _) ?_))
 have z4:=zy (z3.out.2.2.1.setRow #[.int .i64 0, .int .i64 0, .int .i64 0])
 refine bodyPost_ret (zR9 rfl _ _ _ _ _ _ rfl z4.out Tryz.underlying36 rfl (by exact zT5)) (by rfl) ?_
 have hK:zX7 (fun k=>k=bc) w ((W2.setCell ⟨bc,4,none⟩ (.int .i64 m')).setRow (w.heap.size+1) #[.int .i64 0, .int .i64 0, .int .i64 0]):=⟨by rw [←z3.out.2.2.2.2.1.os];rfl,by rw [←z3.out.2.2.2.2.1.tape];rfl,by rw [←z3.out.2.2.2.2.1.output];rfl,by have:=z3.out.2.2.2.2.1.size;simpa using this,fun k hk hn=>(setRow_other _ _ _ _ (by omega)).trans (z3.out.2.2.2.2.1.block k hk hn)⟩
 refine ⟨HCa.out.upd ⟨h,m',z3.out.1.setRowOther _ _ (by omega)⟩ (fun k hk=>hK.block k (HCa.out.cf k (by rcases hk with hk|hk;exact .inr (.inl hk);exact .inr (.inr hk))).2 ?_),⟨hK.os,hK.tape,hK.output,hK.size,fun k hk hn=>hK.block k hk (fun e=>hn (.inl e))⟩,hK.block bm HCa.out.book.lt (Ne.symm HCa.out.ne_map),rfl⟩
 rcases hk with rfl|hk
 ·exact Ne.symm HCa.out.ne_map
 ·exact (HCa.out.own_ne hk).1
theorem zXE {w:World} {B bc bm:Nat} {V:Value} {ord:List PlT} {room:Int} (hC:zXA w B bc bm V ord room) (x0 x1 x2 q0 q1 q2:Int) (hL: ∀wz:World,wz.heap[bm]? =w.heap[bm]? →(Instr.lookup 118 (.map (some bm)) (keyV x0 x1 x2) true).run Tryz.prog wz= .ok (.tuple #[.agg (zD7 (q0,q1,q2)), .bool true]) wz) (hin:(x0,x1,x2) ∈ ord):
  Calls Tryz.prog 139 #[.pointer (some ⟨bc,0,none⟩), .agg #[.int .u64 x0, .int .i64 x1, .int .i64 x2]] w fun e w'=> ∃ord',zXA w' B bc bm V ord' room∧zX7 (CF bc bm V) w w'∧e= .returned (.tuple #[.agg (zD7 (q0,q1,q2)), .bool true]):=by
 obtain ⟨g,c,rfl⟩:=hC.form hin
 obtain ⟨hgc,hgm,hgB⟩:=hC.ne_own rfl
 have hn64:ord.length≤64:=by have:=hC.len;have:=hC.room1;omega
 obtain ⟨h,m,hr⟩:=hC.row
 have hgl:=(hC.own.lt g rfl).2
 obtain ⟨n,hn⟩: ∃n,n=ord.length:=⟨_,rfl⟩
 rw [←hn] at hr hC hn64 ⊢
 have hcf:=hC.cf
 have Z:Hid (zAI (((w.alloc (.cells #[.int .u64 x0, .int .i64 x1, .int .i64 x2] 75)).alloc (.cells #[.int .i64 0, .int .i64 0, .int .i64 0] 36)).alloc (.cells #[.int .i64 0, .int .i64 0, .int .i64 0] 36)) bc 121 #[.int .i64 room,(.slice (some ⟨g,0,none⟩) n c), .map (some bm), .int .i64 h, .int .i64 m]∧zAI (((w.alloc (.cells #[.int .u64 x0, .int .i64 x1, .int .i64 x2] 75)).alloc (.cells #[.int .i64 0, .int .i64 0, .int .i64 0] 36)).alloc (.cells #[.int .i64 0, .int .i64 0, .int .i64 0] 36)) w.heap.size 75 #[.int .u64 x0, .int .i64 x1, .int .i64 x2]∧zAI (((w.alloc (.cells #[.int .u64 x0, .int .i64 x1, .int .i64 x2] 75)).alloc (.cells #[.int .i64 0, .int .i64 0, .int .i64 0] 36)).alloc (.cells #[.int .i64 0, .int .i64 0, .int .i64 0] 36)) (w.heap.size+1) 36 #[.int .i64 0, .int .i64 0, .int .i64 0]∧zAI (((w.alloc (.cells #[.int .u64 x0, .int .i64 x1, .int .i64 x2] 75)).alloc (.cells #[.int .i64 0, .int .i64 0, .int .i64 0] 36)).alloc (.cells #[.int .i64 0, .int .i64 0, .int .i64 0] 36)) (w.heap.size+1+1) 36 #[.int .i64 0, .int .i64 0, .int .i64 0]∧zX7 (fun k=>k=bc) w (((w.alloc (.cells #[.int .u64 x0, .int .i64 x1, .int .i64 x2] 75)).alloc (.cells #[.int .i64 0, .int .i64 0, .int .i64 0] 36)).alloc (.cells #[.int .i64 0, .int .i64 0, .int .i64 0] 36))∧w.heap.size+3≤(((w.alloc (.cells #[.int .u64 x0, .int .i64 x1, .int .i64 x2] 75)).alloc (.cells #[.int .i64 0, .int .i64 0, .int .i64 0] 36)).alloc (.cells #[.int .i64 0, .int .i64 0, .int .i64 0] 36)).heap.size):=zy (by
  obtain ⟨a,b,c,d⟩:=lay3 w 75 36 36 #[.int .u64 x0, .int .i64 x1, .int .i64 x2] #[.int .i64 0, .int .i64 0, .int .i64 0] #[.int .i64 0, .int .i64 0, .int .i64 0]
  exact ⟨hr.keep d,a,b,c,zX7.of_below d,by simp⟩)
 have GB:Hid (∀W W',(zAI W bc 121 #[.int .i64 room,(.slice (some ⟨g,0,none⟩) n c), .map (some bm), .int .i64 h, .int .i64 m]∧zAI W w.heap.size 75 #[.int .u64 x0, .int .i64 x1, .int .i64 x2]∧zAI W (w.heap.size+1) 36 #[.int .i64 0, .int .i64 0, .int .i64 0]∧zAI W (w.heap.size+1+1) 36 #[.int .i64 0, .int .i64 0, .int .i64 0]∧zX7 (fun k=>k=bc) w W∧w.heap.size+3≤W.heap.size)→Below W.heap.size W W'→(zAI W' bc 121 #[.int .i64 room,(.slice (some ⟨g,0,none⟩) n c), .map (some bm), .int .i64 h, .int .i64 m]∧zAI W' w.heap.size 75 #[.int .u64 x0, .int .i64 x1, .int .i64 x2]∧zAI W' (w.heap.size+1) 36 #[.int .i64 0, .int .i64 0, .int .i64 0]∧zAI W' (w.heap.size+1+1) 36 #[.int .i64 0, .int .i64 0, .int .i64 0]∧zX7 (fun k=>k=bc) w W'∧w.heap.size+3≤W'.heap.size)):=zy (fun W W' h hY=>⟨h.1.keep hY,h.2.1.keep hY,h.2.2.1.keep hY,h.2.2.2.1.keep hY,h.2.2.2.2.1.trans (zX7.of_below (S:=fun _=>False) hY) (fun _ _ h=>h.elim),Nat.le_trans h.2.2.2.2.2 hY.size⟩)
 have HSl:Hid (∀W,(zAI W bc 121 #[.int .i64 room,(.slice (some ⟨g,0,none⟩) n c), .map (some bm), .int .i64 h, .int .i64 m]∧zAI W w.heap.size 75 #[.int .u64 x0, .int .i64 x1, .int .i64 x2]∧zAI W (w.heap.size+1) 36 #[.int .i64 0, .int .i64 0, .int .i64 0]∧zAI W (w.heap.size+1+1) 36 #[.int .i64 0, .int .i64 0, .int .i64 0]∧zX7 (fun k=>k=bc) w W∧w.heap.size+3≤W.heap.size)→(W.cell? ⟨bc,2,none⟩=some (.map (some bm))∧zAI W w.heap.size 75 #[.int .u64 x0, .int .i64 x1, .int .i64 x2]∧W.heap[bm]? =w.heap[bm]?)):=zy (fun W h=>⟨h.1.cell (i:=2) rfl,h.2.1,h.2.2.2.2.1.block bm (hcf bm (.inr (.inl rfl))).2 (Ne.symm hC.ne_map)⟩)
 have HCa:=zy hC
 have hbl:=hr.lt
 have HL:=zy hL
 have HO3:Hid (∀W,zX7 (fun k=>k=bc) w W→W.ownsRow B 75 3 (.slice (some ⟨g,0,none⟩) n c) n (zW1 ord)):=zy (fun W hK=>by
  have h1:=hC.own
  rw [←hn] at h1
  exact hK.own h1 hgc)
 obtain ⟨h',hm'⟩: ∃h',h'=IntKind.i64.wrap (h+1):=⟨_,rfl⟩
 have hw:IntKind.i64.wrap (h+1)=h':=hm'.symm
 have HIn:=zy hin
 have HN:=zy hn
 clear hC hr hL hcf hm' hin hn
 go_enter Tryz.func139,Tryz.ntmps139
 go_wp2_with fail
 obtain ⟨w1,hw1⟩: ∃w1,w1=(((w.alloc (.cells #[.int .u64 x0, .int .i64 x1, .int .i64 x2] 75)).alloc (.cells #[.int .i64 0, .int .i64 0, .int .i64 0] 36)).alloc (.cells #[.int .i64 0, .int .i64 0, .int .i64 0] 36)):=⟨_,rfl⟩
 rw [←hw1] at Z ⊢
 clear hw1
 have z0:=zy (GB.out _ _ Z.out (below_drewN (Below.refl _ _) 1))
 clear Z
 refine wp_region_held_drew (S:=fun wz=>wz.cell? ⟨bc,2,none⟩=some (.map (some bm))∧zAI wz w.heap.size 75 #[.int .u64 x0, .int .i64 x1, .int .i64 x2]∧wz.heap[bm]? =w.heap[bm]?) (by kernel_rfl) ((HSl.out _ z0.out)) (fun hHeld=>?_)
 refine zj (i:=0) (v:=?_) rfl (by kernel_rfl) (fun _ _ _=>id) (by rfl) ?_ (HSl.out _ z0.out) ?_
 rotate_left
 ·intro w h;go_simp;try with_reducible rfl
 try simp only [zv,zx]
 refine zj (i:=1) (v:=?_) rfl (by kernel_rfl) (fun _ _ _=>id) (by rfl) ?_ (HSl.out _ z0.out) ?_
 rotate_left
 ·intro w h;go_simp;try with_reducible rfl
 try simp only [zv,zx]
 refine zj (i:=2) (v:=?_) rfl (by kernel_rfl) (fun _ _ _=>id) (by rfl) ?_ (HSl.out _ z0.out) ?_
 rotate_left
 ·intro w h;go_simp;try with_reducible rfl
 try simp only [zv,zx]
 refine zj (i:=3) (v:=?_) rfl (by kernel_rfl) (fun _ _ _=>id) (by rfl) ?_ (HSl.out _ z0.out) ?_
 rotate_left
 ·intro w h;go_simp;try with_reducible rfl
 try simp only [zv,zx]
 refine zQ (i:=4) rfl (by kernel_rfl) (fun _ _ _=>id) (zXh (by rfl) _ _ rfl _ rfl _ _ _ (fun wz h=>h.2.1) Tryz.underlying75 rfl (by exact zX1)) (HSl.out _ z0.out) ?_
 try simp only [zv,zx]
 refine zj (i:=5) (v:= .tuple #[.agg (zD7 (q0,q1,q2)), .bool true]) rfl (by kernel_rfl) (fun _ _ _=>id) (by rfl) ?_ (HSl.out _ z0.out) ?_
 ·intro w hSw;have hlk:=HL.out _ hSw.2.2;unfold keyV at hlk;go_simp;try with_reducible rfl
 try simp only [zv,zx]
 refine zj (i:=6) (v:=?_) rfl (by kernel_rfl) (fun _ _ _=>id) (by rfl) ?_ (HSl.out _ z0.out) ?_
 rotate_left
 ·intro w h;go_simp;try with_reducible rfl
 try simp only [zv,zx]
 refine zj (i:=7) (v:=?_) rfl (by kernel_rfl) (fun _ _ _=>id) (by rfl) ?_ (HSl.out _ z0.out) ?_
 rotate_left
 ·intro w h;go_simp;try with_reducible rfl
 try simp only [zv,zx]
 refine zj (i:=8) (v:=?_) rfl (by kernel_rfl) (fun _ _ _=>id) (by rfl) ?_ (HSl.out _ z0.out) ?_
 rotate_left
 ·intro w h;go_simp;try with_reducible rfl
 try simp only [zv,zx]
 refine wpAnyH_ready (rs:= [9]) (by kernel_rfl) (by simp) ?_
 refine AllReadyH.cons rfl (fun K hK=>?_) AllReadyH.nil
 try simp only [zx]
 have hA:=lay1 (w1.drewN 1) 36 #[.int .i64 0, .int .i64 0, .int .i64 0]
 have z9:=zy (GB.out _ _ z0.out hA.2)
 have HP9:=zy hA.1
 clear hA
 rw [if_pos (by rfl)]
 go_wp2_with fail
 refine hK.out _ _ ((HSl.out _ z9.out)) (fun _=>?_)
 clear hK K
 try simp only [zv,zx]
 have hB:=below_setRow (lay1 (w1.drewN 1) 36 #[.int .i64 0, .int .i64 0, .int .i64 0]).2 (Nat.le_refl _) #[.int .i64 q0, .int .i64 q1, .int .i64 q2]
 have z10:=zy (GB.out _ _ z0.out hB)
 have HP10:=zy (HP9.out.setRow #[.int .i64 q0, .int .i64 q1, .int .i64 q2])
 clear hB
 refine wpAnyH_ready (rs:= [10]) (by kernel_rfl) (by simp) ?_
 refine AllReadyH.cons rfl (fun K hK=>?_) AllReadyH.nil
 try simp only [zx]
 rw [if_pos (by rfl)]
 refine wp_store_row _ _ _ rfl _ #[.int .i64 q0, .int .i64 q1, .int .i64 q2] rfl rfl _ _ (HP9.out) (by exact zT5) rfl (zOs _ _ _) ?_
 refine hK.out _ _ ((HSl.out _ z10.out)) (fun _=>?_)
 clear hK K
 try simp only [zv,zx]
 refine zj (i:=11) (v:=?_) rfl (by kernel_rfl) (fun _ _ _=>id) (by rfl) ?_ (HSl.out _ z10.out) ?_
 rotate_left
 ·intro w h;go_simp;try with_reducible rfl
 try simp only [zv,zx]
 refine wpAnyH_done (by kernel_rfl) ?_ _
 obtain ⟨W2,hW2⟩: ∃W2,W2=((w1.alloc (.cells #[.int .i64 0, .int .i64 0, .int .i64 0] 36)).drew).setRow w1.heap.size #[.int .i64 q0, .int .i64 q1, .int .i64 q2]:=⟨_,rfl⟩
 obtain ⟨bp,hbp⟩: ∃bp,bp=w1.heap.size:=⟨_,rfl⟩
 have hbp1:w.heap.size+3≤bp:=by rw [hbp];exact z0.out.2.2.2.2.2
 have z11:Hid (zAI W2 bc 121 #[.int .i64 room,(.slice (some ⟨g,0,none⟩) n c), .map (some bm), .int .i64 h, .int .i64 m]∧zAI W2 w.heap.size 75 #[.int .u64 x0, .int .i64 x1, .int .i64 x2]∧zAI W2 (w.heap.size+1) 36 #[.int .i64 0, .int .i64 0, .int .i64 0]∧zAI W2 (w.heap.size+1+1) 36 #[.int .i64 0, .int .i64 0, .int .i64 0]∧zX7 (fun k=>k=bc) w W2∧w.heap.size+3≤W2.heap.size):=zy (by rw [hW2];exact z10.out)
 have HP11:Hid (zAI W2 bp 36 #[.int .i64 q0, .int .i64 q1, .int .i64 q2]):=zy (by rw [hW2,hbp];exact HP10.out)
 rw [←hW2,←hbp]
 clear hW2 hbp z9 HP9 z10 HP10
 have cc:=z11.out.1.cell (i:=3) (v:= .int .i64 h) rfl
 have ff:=z11.out.1.frozen 3
 have z3:Hid (zAI (W2.setCell ⟨bc,3,none⟩ (.int .i64 h')) bc 121 #[.int .i64 room,(.slice (some ⟨g,0,none⟩) n c), .map (some bm), .int .i64 h', .int .i64 m]∧zAI (W2.setCell ⟨bc,3,none⟩ (.int .i64 h')) w.heap.size 75 #[.int .u64 x0, .int .i64 x1, .int .i64 x2]∧zAI (W2.setCell ⟨bc,3,none⟩ (.int .i64 h')) (w.heap.size+1) 36 #[.int .i64 0, .int .i64 0, .int .i64 0]∧zAI (W2.setCell ⟨bc,3,none⟩ (.int .i64 h')) (w.heap.size+1+1) 36 #[.int .i64 0, .int .i64 0, .int .i64 0]∧zX7 (fun k=>k=bc) w (W2.setCell ⟨bc,3,none⟩ (.int .i64 h'))∧w.heap.size+3≤(W2.setCell ⟨bc,3,none⟩ (.int .i64 h')).heap.size):=zy ⟨z11.out.1.set 3 _,z11.out.2.1.setOther _ _ (by show w.heap.size≠bc;omega),z11.out.2.2.1.setOther _ _ (by show w.heap.size+1≠bc;omega),z11.out.2.2.2.1.setOther _ _ (by show w.heap.size+1+1≠bc;omega),
  z11.out.2.2.2.2.1.trans (zX7.of_but (S:=fun k=>k=bc) (But.setCell bc 3 W2 _) rfl) (fun _ _ h=>h),Nat.le_trans z11.out.2.2.2.2.2 (by simp)⟩
 have HP3:Hid (zAI (W2.setCell ⟨bc,3,none⟩ (.int .i64 h')) bp 36 #[.int .i64 q0, .int .i64 q1, .int .i64 q2]):=zy (HP11.out.setOther _ _ (by show bp≠bc;omega))
 have HU:=zy (zX8 z3.out.1 (HO3.out _ z3.out.2.2.2.2.1) hgc x0 x1 x2 HIn.out hn64)
 clear z0 GB HSl HP11 HL
 go_wp2_with (refine wpList_load_row rfl _ _ rfl _ rfl _ _ _ _ (z3.out.2.1) Tryz.underlying75 rfl (by exact zX1) ?_)
 refine HU.out.mono ?_
 rintro e w4 ⟨rfl,ord',hl',hsub,hrow4,hown4,hK4⟩
 have hP4:=hK4.row HP3.out (by rintro (h|h) <;> omega)
 have hR4:=hK4.row z3.out.2.2.1 (by rintro (h|h) <;> omega)
 have hK:zX7 (fun k=>k=bc∨k=g) w w4:=⟨hK4.os.trans z3.out.2.2.2.2.1.os,hK4.tape.trans z3.out.2.2.2.2.1.tape,hK4.output.trans z3.out.2.2.2.2.1.output,Nat.le_trans z3.out.2.2.2.2.1.size hK4.size,fun k hk hn=>(hK4.block k (Nat.lt_of_lt_of_le hk z3.out.2.2.2.2.1.size) hn).trans (z3.out.2.2.2.2.1.block k hk (fun e=>hn (.inl e)))⟩
 have HP4:=zy hP4
 have HR4:=zy hR4
 have HK4:=zy hK
 have HRow4:=zy hrow4
 have HOw4:=zy hown4
 have HSub:=zy hsub
 have HLn:=zy hl'
 clear hP4 hR4 hK hK4 hrow4 hown4 hsub hl' z3 HU HP3 HO3
 go_wp2_with (first|(refine wpList_load_row rfl _ _ rfl _ rfl _ _ _ _ (HP4.out) Tryz.underlying36 rfl (by exact zT5) ?_)|(refine wpList_store_row rfl _ _ _ rfl _ _ rfl rfl _ _ (HR4.out) (by exact zT5) rfl (zOs _ _ _) ?_))
 have z4:=zy (HR4.out.setRow #[.int .i64 q0, .int .i64 q1, .int .i64 q2])
 refine bodyPost_ret (zR9 rfl _ _ _ _ _ _ rfl z4.out Tryz.underlying36 rfl (by exact zT5)) (by rfl) ?_
 have hn:=HN.out
 have hK:zX7 (fun k=>k=bc∨k=g) w (w4.setRow (w.heap.size+1) #[.int .i64 q0, .int .i64 q1, .int .i64 q2]):=⟨by rw [←HK4.out.os];rfl,by rw [←HK4.out.tape];rfl,by rw [←HK4.out.output];rfl,by have:=HK4.out.size;simpa using this,fun k hk hn=>(setRow_other _ _ _ _ (by omega)).trans (HK4.out.block k hk hn)⟩
 refine ⟨ord',⟨⟨h',m,HRow4.out.setRowOther _ _ (by omega)⟩,?_,(HCa.out.book.same (hK.block bm HCa.out.book.lt (by rintro (h|h);exact HCa.out.ne_map h.symm;exact hgm h.symm))).sub HSub.out,by rw [HLn.out,hn];exact HCa.out.len,HCa.out.room0,HCa.out.room1,HCa.out.bc0,HCa.out.bm0⟩,⟨hK.os,hK.tape,hK.output,hK.size,fun k hk hn=>hK.block k hk (fun e=>hn (e.elim .inl (fun e=> .inr (.inr (by rw [e];rfl)))))⟩,rfl⟩
 rw [HLn.out]
 exact zXC HOw4.out fun k hk=>setRow_other _ _ _ _ (by have hk':g=k:=Option.some.inj hk;omega)
end

section
theorem zXG {P:Program} (w:World) (base:Nat) (t ty e:TypeId) (i:TypeInfo) (z:Value) (size bytes:Nat) (ht:P.underlying t=some (.slice e)) (hi:P.info? e=some i) (hz:i.zero=some z)
  (hsize:i.size=size) (hby:i.bytes=bytes) (hzs:z.cells.size=size) (hsz:0<size)
  (v:Value) (n:Nat) (xs:List Value) (hown:w.ownsRow base e size v n xs)
  (a:Addr) (m c:Nat) (news:List Value) (hl:news.length=m*size) (hnews: ∀j u,news[j]? =some u→w.cell? (a.add j)=some u) (h1: ∀u ∈ news,u.oneCell'=true)
  (h63:n+m≤maxLen) (hbytes:(n+m)*bytes≤140737488355328) (hbase:base≤w.heap.size):
  ∃v' w',(Builtin.append_ #[t,t] ty #[v, .slice (some a) m c]).run P w= .ok v' w'∧w'.ownsRow base e size v' (n+m) (xs ++ news)∧w.grownBy w' v.ownBlock∧
   (∀k,v'.ownBlock=some k→v.ownBlock=some k∨w.heap.size≤k):=by
 obtain ⟨v',w',hr,h2,h3,_⟩:=run_append_own (P:=P) w base t ty e i z size bytes ht hi hz hsize hby hzs hsz v n xs hown a m c news hl hnews h1 h63 hbytes hbase
 refine ⟨v',w',hr,h2,h3,?_⟩
 rcases hown.2 with ⟨hv,hn⟩|⟨g,cap,cur,hv,hbg,hg,hnc,hcm,hcs,htake⟩
 ·have hown':w.ownsRow w.heap.size e size v n xs:=⟨hown.1, .inl ⟨hv,hn⟩⟩
  obtain ⟨v2,w2,hr2,h22,_⟩:=run_append_own (P:=P) w w.heap.size t ty e i z size bytes ht hi hz hsize hby hzs hsz v n xs hown' a m c news hl hnews h1 h63 hbytes (Nat.le_refl _)
  rw [hr] at hr2
  injection hr2 with e1 e2
  subst e1 e2
  exact fun k hk=> .inr (h22.lt k hk).1
 ·subst hv
  by_cases hroom:n+m≤cap
  ·obtain ⟨w2,hr2,_⟩:=run_append_fits (P:=P) w base t ty e i size ht hi hsize g n cap xs hown a m c news hl hnews h1 hroom
   rw [hr] at hr2
   injection hr2 with e1 e2
   subst e1
   exact fun k hk=> .inl hk
  ·have holds: ∀j u,xs[j]? =some u→w.cell? ((⟨g,0,none⟩:Addr).add j)=some u:=hown.cells (g:=g) rfl
   have hr2:=run_append_grow (P:=P) w t ty e i z ht hi hz ⟨g,0,none⟩ n cap xs (by rw [hsize];exact hown.1) holds a m c news (by rw [hsize];exact hl) hnews (by omega) (by simp only [maxLen] at h63;omega) (growslice_fits (by omega) (by rw [hby];exact hbytes))
   rw [hr] at hr2
   injection hr2 with e1 e2
   subst e1
   exact fun k hk=> .inr (by have hk':w.heap.size=k:=Option.some.inj hk;omega)
theorem zXH {P:Program} {w:World} {o:Oper} {a:Act} {K:Act→World→Prop} {Q:Exit→Act→World→Prop} (s x:Operand) (t:TypeId)
  (ho:o.op= .call { callee:= .builtin .append,args:= #[s,x],argTypes:= #[t,t] })
  (base:Nat) (e:TypeId) (i:TypeInfo) (z:Value) (size bytes:Nat) (ht:P.underlying t=some (.slice e)) (hi:P.info? e=some i) (hz:i.zero=some z)
  (hsize:i.size=size) (hby:i.bytes=bytes) (hzs:z.cells.size=size) (hsz:0<size)
  (v:Value) (n:Nat) (xs:List Value) (hs:a.eval s=v) (hown:w.ownsRow base e size v n xs)
  (ad:Addr) (m c:Nat) (news:List Value) (hx:a.eval x= .slice (some ad) m c) (hl:news.length=m*size) (hnews: ∀j u,news[j]? =some u→w.cell? (ad.add j)=some u) (h1: ∀u ∈ news,u.oneCell'=true)
  (h63:n+m≤maxLen) (hbytes:(n+m)*bytes≤140737488355328) (hbase:base≤w.heap.size)
  (h: ∀v' w',w'.ownsRow base e size v' (n+m) (xs ++ news)→w.grownBy w' v.ownBlock→(∀k,v'.ownBlock=some k→v.ownBlock=some k∨w.heap.size≤k)→K (a.put o.dst v') w'):o.wp P a w K Q:=by
 obtain ⟨v',w',hr,h2,h3,h4⟩:=zXG (P:=P) w base t o.type e i z size bytes ht hi hz hsize hby hzs hsz v n xs hown ad m c news hl hnews h1 h63 hbytes hbase
 unfold Oper.wp execOp
 simp only [ho,resolve,invoke,builtin,Sem.run_bind,Sem.run_pure,Result.andThen_ok,List.map_toArray,List.map_cons,List.map_nil,hs,hx,hr]
 exact h v' w' h2 h3 h4
theorem zXF {w:World} {B bc bm n c:Nat} {A:Option Addr} {ord:List PlT} {room:Int} (hC:zXA w B bc bm (.slice A n c) ord room) (hn:ord.length=n) (x0 x1 x2 q0 q1 q2:Int) (hL: ∀wz:World,wz.heap[bm]? =w.heap[bm]? →(Instr.lookup 118 (.map (some bm)) (keyV x0 x1 x2) true).run Tryz.prog wz= .ok (.tuple #[.agg (zD7 (0,0,0)), .bool false]) wz)
  (he:chE x0 x1 x2=0) (hq:chP x0 x1 x2=(q0,q1,q2)) (hfull:(n:Int)≠room):
  Calls Tryz.prog 140 #[.pointer (some ⟨bc,0,none⟩), .agg #[.int .u64 x0, .int .i64 x1, .int .i64 x2], .agg #[.int .i64 q0, .int .i64 q1, .int .i64 q2]] w fun e w'=>e= .returned (.tuple #[])∧ ∃V' ord',zXA w' B bc bm V' ord' room∧zX7 (CF bc bm (.slice A n c)) w w'∧(∀k,V'.ownBlock=some k→Value.ownBlock (.slice A n c)=some k∨w.heap.size≤k):=by
 obtain ⟨h,m,hr⟩:=hC.row
 have hcf:=hC.cf
 have hbl:=hr.lt
 have hro:n<64∧(n:Int)<room∧room≤64:=by have:=hC.len;have:=hC.room1;omega
 have Z:Hid (zAI ((w.alloc (.cells #[.int .u64 x0, .int .i64 x1, .int .i64 x2] 75)).alloc (.cells #[.int .i64 q0, .int .i64 q1, .int .i64 q2] 36)) bc 121 #[.int .i64 room,(.slice A n c), .map (some bm), .int .i64 h, .int .i64 m]∧zAI ((w.alloc (.cells #[.int .u64 x0, .int .i64 x1, .int .i64 x2] 75)).alloc (.cells #[.int .i64 q0, .int .i64 q1, .int .i64 q2] 36)) w.heap.size 75 #[.int .u64 x0, .int .i64 x1, .int .i64 x2]∧zAI ((w.alloc (.cells #[.int .u64 x0, .int .i64 x1, .int .i64 x2] 75)).alloc (.cells #[.int .i64 q0, .int .i64 q1, .int .i64 q2] 36)) (w.heap.size+1) 36 #[.int .i64 q0, .int .i64 q1, .int .i64 q2]∧zX7 (fun k=>k=bc) w ((w.alloc (.cells #[.int .u64 x0, .int .i64 x1, .int .i64 x2] 75)).alloc (.cells #[.int .i64 q0, .int .i64 q1, .int .i64 q2] 36))∧w.heap.size+2≤((w.alloc (.cells #[.int .u64 x0, .int .i64 x1, .int .i64 x2] 75)).alloc (.cells #[.int .i64 q0, .int .i64 q1, .int .i64 q2] 36)).heap.size):=zy (by
  obtain ⟨a,b,d⟩:=lay2 w 75 36 #[.int .u64 x0, .int .i64 x1, .int .i64 x2] #[.int .i64 q0, .int .i64 q1, .int .i64 q2]
  exact ⟨hr.keep d,a,b,zX7.of_below d,by simp⟩)
 have GBb:Hid (∀W W',(zAI W bc 121 #[.int .i64 room,(.slice A n c), .map (some bm), .int .i64 h, .int .i64 m]∧zAI W w.heap.size 75 #[.int .u64 x0, .int .i64 x1, .int .i64 x2]∧zAI W (w.heap.size+1) 36 #[.int .i64 q0, .int .i64 q1, .int .i64 q2]∧zX7 (fun k=>k=bc) w W∧w.heap.size+2≤W.heap.size)→Below W.heap.size W W'→(zAI W' bc 121 #[.int .i64 room,(.slice A n c), .map (some bm), .int .i64 h, .int .i64 m]∧zAI W' w.heap.size 75 #[.int .u64 x0, .int .i64 x1, .int .i64 x2]∧zAI W' (w.heap.size+1) 36 #[.int .i64 q0, .int .i64 q1, .int .i64 q2]∧zX7 (fun k=>k=bc) w W'∧w.heap.size+2≤W'.heap.size)):=zy (fun W W' h hY=>⟨h.1.keep hY,h.2.1.keep hY,h.2.2.1.keep hY,h.2.2.2.1.trans (zX7.of_below (S:=fun _=>False) hY) (fun _ _ h=>h.elim),Nat.le_trans h.2.2.2.2 hY.size⟩)
 have HSl:Hid (∀W,(zAI W bc 121 #[.int .i64 room,(.slice A n c), .map (some bm), .int .i64 h, .int .i64 m]∧zAI W w.heap.size 75 #[.int .u64 x0, .int .i64 x1, .int .i64 x2]∧zAI W (w.heap.size+1) 36 #[.int .i64 q0, .int .i64 q1, .int .i64 q2]∧zX7 (fun k=>k=bc) w W∧w.heap.size+2≤W.heap.size)→(W.cell? ⟨bc,2,none⟩=some (.map (some bm))∧zAI W w.heap.size 75 #[.int .u64 x0, .int .i64 x1, .int .i64 x2]∧W.heap[bm]? =w.heap[bm]?)):=zy (fun W h=>⟨h.1.cell (i:=2) rfl,h.2.1,h.2.2.2.1.block bm (hcf bm (.inr (.inl rfl))).2 (Ne.symm hC.ne_map)⟩)
 have HCa:=zy hC
 have HL:=zy hL
 have HN:=zy hn
 have HQ:=zy (And.intro he hq)
 have troom:(room == 0)=false:=by simp;omega
 have tfull:((n:Int) == room)=false:=by simp;omega
 have hro':=zy hro
 obtain ⟨i0,hi0,hz0,hz1,hz2⟩:=info_parts zX5
 have c0:=Z.out.1.cell (i:=0) (v:= .int .i64 room) rfl
 clear hC hr hL hn he hq hfull hro hcf
 go_enter Tryz.func140,Tryz.ntmps140
 go_wp2_with fail
 obtain ⟨w1,hw1⟩: ∃w1,w1=((w.alloc (.cells #[.int .u64 x0, .int .i64 x1, .int .i64 x2] 75)).alloc (.cells #[.int .i64 q0, .int .i64 q1, .int .i64 q2] 36)):=⟨_,rfl⟩
 rw [←hw1] at Z ⊢
 clear hw1 c0
 have z0:=zy (GBb.out _ _ Z.out (below_drewN (Below.refl _ _) 1))
 clear Z
 refine wp_region_held_drew (S:=fun wz=>wz.cell? ⟨bc,2,none⟩=some (.map (some bm))∧zAI wz w.heap.size 75 #[.int .u64 x0, .int .i64 x1, .int .i64 x2]∧wz.heap[bm]? =w.heap[bm]?) (by kernel_rfl) ((HSl.out _ z0.out)) (fun hHeld=>?_)
 refine zj (i:=0) (v:=?_) rfl (by kernel_rfl) (fun _ _ _=>id) (by rfl) ?_ (HSl.out _ z0.out) ?_
 rotate_left
 ·intro w h;go_simp;try with_reducible rfl
 try simp only [zv,zx]
 refine zj (i:=1) (v:=?_) rfl (by kernel_rfl) (fun _ _ _=>id) (by rfl) ?_ (HSl.out _ z0.out) ?_
 rotate_left
 ·intro w h;go_simp;try with_reducible rfl
 try simp only [zv,zx]
 refine zj (i:=2) (v:=?_) rfl (by kernel_rfl) (fun _ _ _=>id) (by rfl) ?_ (HSl.out _ z0.out) ?_
 rotate_left
 ·intro w h;go_simp;try with_reducible rfl
 try simp only [zv,zx]
 refine zj (i:=3) (v:=?_) rfl (by kernel_rfl) (fun _ _ _=>id) (by rfl) ?_ (HSl.out _ z0.out) ?_
 rotate_left
 ·intro w h;go_simp;try with_reducible rfl
 try simp only [zv,zx]
 refine zQ (i:=4) rfl (by kernel_rfl) (fun _ _ _=>id) (zXh (by rfl) _ _ rfl _ rfl _ _ _ (fun wz h=>h.2.1) Tryz.underlying75 rfl (by exact zX1)) (HSl.out _ z0.out) ?_
 try simp only [zv,zx]
 refine zj (i:=5) (v:= .tuple #[.agg (zD7 (0,0,0)), .bool false]) rfl (by kernel_rfl) (fun _ _ _=>id) (by rfl) ?_ (HSl.out _ z0.out) ?_
 ·intro w hSw;have hlk:=HL.out _ hSw.2.2;unfold keyV at hlk;go_simp;try with_reducible rfl
 try simp only [zv,zx]
 refine zj (i:=6) (v:=?_) rfl (by kernel_rfl) (fun _ _ _=>id) (by rfl) ?_ (HSl.out _ z0.out) ?_
 rotate_left
 ·intro w h;go_simp;try with_reducible rfl
 try simp only [zv,zx]
 refine zj (i:=7) (v:=?_) rfl (by kernel_rfl) (fun _ _ _=>id) (by rfl) ?_ (HSl.out _ z0.out) ?_
 rotate_left
 ·intro w h;go_simp;try with_reducible rfl
 try simp only [zv,zx]
 refine zj (i:=8) (v:=?_) rfl (by kernel_rfl) (fun _ _ _=>id) (by rfl) ?_ (HSl.out _ z0.out) ?_
 rotate_left
 ·intro w h;go_simp;try with_reducible rfl
 try simp only [zv,zx]
 refine wpAnyH_ready (rs:= [9]) (by kernel_rfl) (by simp) ?_
 refine AllReadyH.cons rfl (fun K hK=>?_) AllReadyH.nil
 try simp only [zx]
 have hA:=lay1 (w1.drewN 1) 36 #[.int .i64 0, .int .i64 0, .int .i64 0]
 have z9:=zy (GBb.out _ _ z0.out hA.2)
 have HP9:=zy hA.1
 clear hA
 rw [if_pos (by rfl)]
 go_wp2_with fail
 refine hK.out _ _ ((HSl.out _ z9.out)) (fun _=>?_)
 clear hK K
 try simp only [zv,zx]
 have hB:=below_setRow (lay1 (w1.drewN 1) 36 #[.int .i64 0, .int .i64 0, .int .i64 0]).2 (Nat.le_refl _) #[.int .i64 0, .int .i64 0, .int .i64 0]
 have z10:=zy (GBb.out _ _ z0.out hB)
 clear hB
 refine wpAnyH_ready (rs:= [10]) (by kernel_rfl) (by simp) ?_
 refine AllReadyH.cons rfl (fun K hK=>?_) AllReadyH.nil
 try simp only [zx]
 rw [if_pos (by rfl)]
 refine wp_store_row _ _ _ rfl _ #[.int .i64 0, .int .i64 0, .int .i64 0] rfl rfl _ _ (HP9.out) (by exact zT5) rfl (zOs _ _ _) ?_
 refine hK.out _ _ ((HSl.out _ z10.out)) (fun _=>?_)
 clear hK K
 try simp only [zv,zx]
 refine zj (i:=11) (v:=?_) rfl (by kernel_rfl) (fun _ _ _=>id) (by rfl) ?_ (HSl.out _ z10.out) ?_
 rotate_left
 ·intro w h;go_simp;try with_reducible rfl
 try simp only [zv,zx]
 refine wpAnyH_done (by kernel_rfl) ?_ _
 obtain ⟨W2,hW2⟩: ∃W2,W2=((w1.alloc (.cells #[.int .i64 0, .int .i64 0, .int .i64 0] 36)).drew).setRow w1.heap.size #[.int .i64 0, .int .i64 0, .int .i64 0]:=⟨_,rfl⟩
 have z11:Hid (zAI W2 bc 121 #[.int .i64 room,(.slice A n c), .map (some bm), .int .i64 h, .int .i64 m]∧zAI W2 w.heap.size 75 #[.int .u64 x0, .int .i64 x1, .int .i64 x2]∧zAI W2 (w.heap.size+1) 36 #[.int .i64 q0, .int .i64 q1, .int .i64 q2]∧zX7 (fun k=>k=bc) w W2∧w.heap.size+2≤W2.heap.size):=zy (by rw [hW2];exact z10.out)
 rw [←hW2]
 clear hW2 z9 HP9 z10 z0
 have e0:=z11.out.1.cell (i:=0) (v:= .int .i64 room) rfl
 have e1:=z11.out.1.cell (i:=1) (v:= .slice A n c) rfl
 go_wp2_with fail
 go_quiet (fail)
 go_wp2_with fail
 obtain ⟨W3,hW3⟩: ∃W3,W3=W2.drewN nq:=⟨_,rfl⟩
 have z3:Hid (zAI W3 bc 121 #[.int .i64 room,(.slice A n c), .map (some bm), .int .i64 h, .int .i64 m]∧zAI W3 w.heap.size 75 #[.int .u64 x0, .int .i64 x1, .int .i64 x2]∧zAI W3 (w.heap.size+1) 36 #[.int .i64 q0, .int .i64 q1, .int .i64 q2]∧zX7 (fun k=>k=bc) w W3∧w.heap.size+2≤W3.heap.size):=zy (by rw [hW3];exact GBb.out _ _ z11.out (below_drewN (Below.refl _ _) nq))
 rw [←hW3]
 clear hW3 z11 e0 e1
 have HO3:Hid (W3.ownsRow B 75 3 (.slice A n c) n (zW1 ord)):=zy (by
  have h1:=HCa.out.own
  rw [HN.out] at h1
  exact zXC h1 fun k hk=>z3.out.2.2.2.1.block k (HCa.out.own.lt k hk).2 (HCa.out.own_ne hk).1)
 have HK3:Hid (zKN W3 bm ord):=zy (HCa.out.book.same (z3.out.2.2.2.1.block _ HCa.out.book.lt (Ne.symm HCa.out.ne_map)))
 have hrm:=hro'.out.2.1
 have hn63:n<64:=hro'.out.1
 have hbml:=HCa.out.book.lt
 have hOn: ∀k,Value.ownBlock (.slice A n c)=some k→(k≠bc∧k≠bm)∧k<w.heap.size:=fun k hk=>⟨HCa.out.own_ne hk,(HCa.out.own.lt k hk).2⟩
 have z0:=zy (GBb.out _ _ z3.out (below_drewN (Below.refl _ _) 1))
 have HO0:Hid ((W3.drewN 1).ownsRow B 75 3 (.slice A n c) n (zW1 ord)):=zy HO3.out
 have HK0:Hid (zKN (W3.drewN 1) bm ord):=zy HK3.out
 clear z3 HO3 HK3
 refine wp_region_held_drew (S:=fun wz=>zAI wz w.heap.size 75 #[.int .u64 x0, .int .i64 x1, .int .i64 x2]) (by kernel_rfl) (z0.out.2.1) (fun hHeld=>?_)
 refine zj (i:=0) (v:=?_) rfl (by kernel_rfl) (fun _ _ _=>id) (by rfl) ?_ z0.out.2.1 ?_
 rotate_left
 ·intro w h;go_simp;try with_reducible rfl
 try simp only [zv,zx]
 refine zj (i:=1) (v:=?_) rfl (by kernel_rfl) (fun _ _ _=>id) (by rfl) ?_ z0.out.2.1 ?_
 rotate_left
 ·intro w h;go_simp;try with_reducible rfl
 try simp only [zv,zx]
 refine zj (i:=2) (v:=?_) rfl (by kernel_rfl) (fun _ _ _=>id) (by rfl) ?_ z0.out.2.1 ?_
 rotate_left
 ·intro w h;go_simp;try with_reducible rfl
 try simp only [zv,zx]
 refine zj (i:=3) (v:=?_) rfl (by kernel_rfl) (fun _ _ _=>id) (by rfl) ?_ z0.out.2.1 ?_
 rotate_left
 ·intro w h;go_simp;try with_reducible rfl
 try simp only [zv,zx]
 refine zQ (i:=5) rfl (by kernel_rfl) (fun _ _ _=>id) (zXh (by rfl) _ _ rfl _ rfl _ _ _ (fun wz h=>h) Tryz.underlying75 rfl (by exact zX1)) z0.out.2.1 ?_
 try simp only [zv,zx]
 refine wpAnyH_ready (rs:= [4,6]) (by kernel_rfl) (by simp) ?_
 refine AllReadyH.cons rfl (fun K hK=>?_) ?_
 try simp only [zx]
 have e1:(W3.drew).cell? ⟨bc,1,none⟩=some (.slice A n c):=z0.out.1.cell (i:=1) rfl
 rw [if_pos (by rfl)]
 go_wp2_with fail
 refine hK.out _ _ (z0.out.2.1) (fun _=>?_)
 clear hK K
 try simp only [zv,zx]
 refine wpAnyH_ready (rs:= [6]) (by kernel_rfl) (by simp) ?_
 refine AllReadyH.cons rfl (fun K hK=>?_) AllReadyH.nil
 try simp only [zx]
 have hA:=lay1 (W3.drewN 1) 75 #[.int .u64 x0, .int .i64 x1, .int .i64 x2]
 have z6:=zy (GBb.out _ _ z0.out hA.2)
 have RB:=zy hA.1
 have HO6:=zy (zXC HO0.out fun k hk=>hA.2.block k (HO0.out.lt k hk).2)
 have HK6:=zy (HK0.out.below hA.2)
 clear hA
 rw [if_pos (by rfl)]
 go_wp2_with fail
 refine hK.out _ _ (z6.out.2.1) (fun _=>?_)
 clear hK K
 try simp only [zv,zx]
 clear e1
 rotate_left
 refine AllReadyH.cons rfl (fun K hK=>?_) AllReadyH.nil
 try simp only [zx]
 have hA:=lay1 (W3.drewN 1) 75 #[.int .u64 x0, .int .i64 x1, .int .i64 x2]
 have z6:=zy (GBb.out _ _ z0.out hA.2)
 have RB:=zy hA.1
 have HO6:=zy (zXC HO0.out fun k hk=>hA.2.block k (HO0.out.lt k hk).2)
 have HK6:=zy (HK0.out.below hA.2)
 clear hA
 rw [if_pos (by rfl)]
 go_wp2_with fail
 refine hK.out _ _ (z6.out.2.1) (fun _=>?_)
 clear hK K
 try simp only [zv,zx]
 refine wpAnyH_ready (rs:= [4]) (by kernel_rfl) (by simp) ?_
 refine AllReadyH.cons rfl (fun K hK=>?_) AllReadyH.nil
 try simp only [zx]
 have e1:((W3.alloc (.cells #[.int .u64 x0, .int .i64 x1, .int .i64 x2] 75)).drew).cell? ⟨bc,1,none⟩=some (.slice A n c):=z6.out.1.cell (i:=1) rfl
 rw [if_pos (by rfl)]
 go_wp2_with fail
 refine hK.out _ _ (z6.out.2.1) (fun _=>?_)
 clear hK K
 try simp only [zv,zx]
 clear e1
 all_goals
  refine wpAnyH_ready (rs:= [7]) (by kernel_rfl) (by simp) ?_
  refine AllReadyH.cons rfl (fun K hK=>?_) AllReadyH.nil
  try simp only [zx]
  rw [if_pos (by rfl)]
  refine zXH _ _ 119 rfl B 75 i0 (.agg #[.int .u64 0, .int .i64 0, .int .i64 0]) 3 24 Tryz.underlying119 hi0 hz0 hz1 hz2 rfl (by decide) (.slice A n c) n (zW1 ord) (by simp [Act.eval]) HO6.out ⟨W3.heap.size,0,none⟩ 1 1 (zW1 [(x0,x1,x2)]) (by simp [Act.eval]) rfl (fun j u hu=>by rw [zWx];exact RB.out.cell (by simpa [zW1] using hu)) (zXx _) (by unfold maxLen;omega) (by omega) (Nat.le_trans HCa.out.bc0 (Nat.le_of_lt z6.out.1.lt)) ?_
  intro V' w7 ho7 hg7 hb7
  rw [←zXj] at ho7
  obtain ⟨g',c',rfl⟩: ∃g' c',V'= .slice (some ⟨g',0,none⟩) (n+1) c':=by
   rcases ho7.2 with ⟨_,h1⟩|⟨g',c',cur,e,_⟩
   ·omega
   ·exact ⟨g',c',e⟩
  have z7:Hid (zAI w7 bc 121 #[.int .i64 room,(.slice A n c), .map (some bm), .int .i64 h, .int .i64 m]∧zAI w7 w.heap.size 75 #[.int .u64 x0, .int .i64 x1, .int .i64 x2]∧zAI w7 (w.heap.size+1) 36 #[.int .i64 q0, .int .i64 q1, .int .i64 q2]∧zX7 (CF bc bm (.slice A n c)) w w7∧w.heap.size+2≤w7.heap.size):=zy ⟨(hg7.block _ z6.out.1.lt (fun e=>(hOn bc e.symm).1.1 rfl)).trans z6.out.1,(hg7.block _ z6.out.2.1.lt (fun e=>by have:=(hOn _ e.symm).2;omega)).trans z6.out.2.1,(hg7.block _ z6.out.2.2.1.lt (fun e=>by have:=(hOn _ e.symm).2;omega)).trans z6.out.2.2.1,
   ⟨hg7.os.trans z6.out.2.2.2.1.os,hg7.tape.trans z6.out.2.2.2.1.tape,hg7.output.trans z6.out.2.2.2.1.output,Nat.le_trans z6.out.2.2.2.1.size hg7.size,fun k hk hn=>(hg7.block k (Nat.lt_of_lt_of_le hk z6.out.2.2.2.1.size) (fun e=>hn (.inr (.inr e.symm)))).trans (z6.out.2.2.2.1.block k hk (fun e=>hn (.inl e)))⟩,Nat.le_trans z6.out.2.2.2.2 hg7.size⟩
  have HO7:=zy ho7
  have HB7:Hid (∀k,(Value.ownBlock (.slice (some ⟨g',0,none⟩) (n+1) c'))=some k→Value.ownBlock (.slice A n c)=some k∨w.heap.size≤k):=zy (fun k hk=>(hb7 k hk).imp id (fun h=>Nat.le_trans (Nat.le_trans (by omega) z6.out.2.2.2.2) h))
  have HNe:Hid (∀k,(Value.ownBlock (.slice (some ⟨g',0,none⟩) (n+1) c'))=some k→k≠bc∧k≠bm):=zy (fun k hk=>(HB7.out k hk).elim (fun h=>(hOn k h).1) (fun h=>⟨by omega,by omega⟩))
  have HK7:=zy (HK6.out.same (hg7.block _ HK6.out.lt (fun e=>(hOn _ e.symm).1.2 rfl)))
  clear ho7 hg7 hb7
  refine hK.out _ _ (z7.out.2.1) (fun _=>?_)
  clear hK K
  try simp only [zv,zx]
  refine zj (i:=8) (v:=?_) rfl (by kernel_rfl) (fun _ _ _=>id) (by rfl) ?_ z7.out.2.1 ?_
  rotate_left
  ·intro w h;go_simp;try with_reducible rfl
  try simp only [zv,zx]
  refine zj (i:=9) (v:=?_) rfl (by kernel_rfl) (fun _ _ _=>id) (by rfl) ?_ z7.out.2.1 ?_
  rotate_left
  ·intro w h;go_simp;try with_reducible rfl
  try simp only [zv,zx]
  have cc:=z7.out.1.cell (i:=1) (v:=(.slice A n c)) rfl
  have ff:=z7.out.1.frozen 1
  have hbs:=But.setCell bc 1 w7 (.slice (some ⟨g',0,none⟩) (n+1) c')
  have z10:Hid (zAI (w7.setCell ⟨bc,1,none⟩ (.slice (some ⟨g',0,none⟩) (n+1) c')) bc 121 #[.int .i64 room,(.slice (some ⟨g',0,none⟩) (n+1) c'), .map (some bm), .int .i64 h, .int .i64 m]∧zAI (w7.setCell ⟨bc,1,none⟩ (.slice (some ⟨g',0,none⟩) (n+1) c')) w.heap.size 75 #[.int .u64 x0, .int .i64 x1, .int .i64 x2]∧zAI (w7.setCell ⟨bc,1,none⟩ (.slice (some ⟨g',0,none⟩) (n+1) c')) (w.heap.size+1) 36 #[.int .i64 q0, .int .i64 q1, .int .i64 q2]∧zX7 (CF bc bm (.slice A n c)) w (w7.setCell ⟨bc,1,none⟩ (.slice (some ⟨g',0,none⟩) (n+1) c'))∧w.heap.size+2≤(w7.setCell ⟨bc,1,none⟩ (.slice (some ⟨g',0,none⟩) (n+1) c')).heap.size):=zy ⟨z7.out.1.set 1 (.slice (some ⟨g',0,none⟩) (n+1) c'),z7.out.2.1.setOther _ _ (by show w.heap.size≠bc;omega),z7.out.2.2.1.setOther _ _ (by show w.heap.size+1≠bc;omega),z7.out.2.2.2.1.trans (zX7.of_but (S:=fun k=>k=bc) hbs rfl) (fun _ _ h=> .inl h),Nat.le_trans z7.out.2.2.2.2 hbs.size⟩
  have HO10:Hid ((w7.setCell ⟨bc,1,none⟩ (.slice (some ⟨g',0,none⟩) (n+1) c')).ownsRow B 75 3 (.slice (some ⟨g',0,none⟩) (n+1) c') (n+1) (zW1 (ord ++ [(x0,x1,x2)]))):=zy (zXC HO7.out fun k hk=>hbs.block k (HO7.out.lt k hk).2 (HNe.out k hk).1)
  have HK10:Hid (zKN (w7.setCell ⟨bc,1,none⟩ (.slice (some ⟨g',0,none⟩) (n+1) c')) bm ord):=zy (HK7.out.same (hbs.block _ HK7.out.lt (Ne.symm HCa.out.ne_map)))
  clear hbs
  refine wpAnyH_ready (rs:= [10]) (by kernel_rfl) (by simp) ?_
  refine AllReadyH.cons rfl (fun K hK=>?_) AllReadyH.nil
  try simp only [zx]
  rw [if_pos (by rfl)]
  go_wp2_with fail
  refine hK.out _ _ (z10.out.2.1) (fun _=>?_)
  clear hK K
  try simp only [zv,zx]
  refine wpAnyH_done (by kernel_rfl) ?_ _
  obtain ⟨w10,hw10⟩: ∃w10,w10=w7.setCell ⟨bc,1,none⟩ (.slice (some ⟨g',0,none⟩) (n+1) c'):=⟨_,rfl⟩
  rw [←hw10] at z10 HO10 HK10 ⊢
  clear hw10 cc ff z7 HO7 HK7 HK6 HO6 z6 RB HK0 HO0 z0
  go_wp2_with fail
  obtain ⟨w11,hmu,hkb,hbut⟩:=zT8 (w:=w10.drewN 1) (bm:=bm) (ord:=ord ++ [(x0,x1,x2)]) (zKN.sub (show zKN (w10.drewN 1) bm ord from HK10.out) (fun y hy=>List.mem_append_left _ hy)) x0 x1 x2 HQ.out.1 (by simp)
  rw [HQ.out.2] at hmu
  have hmu':(Instr.mapUpdate 118 (.map (some bm)) (.agg #[.int .u64 x0, .int .i64 x1, .int .i64 x2]) (.agg #[.int .i64 q0, .int .i64 q1, .int .i64 q2])).run Tryz.prog w10.drew= .ok () w11:=hmu
  have z0:Hid (zAI (w10.drewN 1) bc 121 #[.int .i64 room,(.slice (some ⟨g',0,none⟩) (n+1) c'), .map (some bm), .int .i64 h, .int .i64 m]∧zAI (w10.drewN 1) w.heap.size 75 #[.int .u64 x0, .int .i64 x1, .int .i64 x2]∧zAI (w10.drewN 1) (w.heap.size+1) 36 #[.int .i64 q0, .int .i64 q1, .int .i64 q2]∧zX7 (CF bc bm (.slice A n c)) w (w10.drewN 1)∧w.heap.size+2≤(w10.drewN 1).heap.size):=zy ⟨z10.out.1,z10.out.2.1,z10.out.2.2.1,z10.out.2.2.2.1.trans (zX7.of_below (S:=fun _=>False) (below_drewN (Below.refl _ _) 1)) (fun _ _ h=>h.elim),z10.out.2.2.2.2⟩
  have HO0:Hid ((w10.drewN 1).ownsRow B 75 3 (.slice (some ⟨g',0,none⟩) (n+1) c') (n+1) (zW1 (ord ++ [(x0,x1,x2)]))):=zy HO10.out
  have hbm:=HCa.out.book.lt
  have z11:Hid (zAI w11 bc 121 #[.int .i64 room,(.slice (some ⟨g',0,none⟩) (n+1) c'), .map (some bm), .int .i64 h, .int .i64 m]∧zAI w11 w.heap.size 75 #[.int .u64 x0, .int .i64 x1, .int .i64 x2]∧zAI w11 (w.heap.size+1) 36 #[.int .i64 q0, .int .i64 q1, .int .i64 q2]∧zX7 (CF bc bm (.slice A n c)) w w11∧w.heap.size+2≤w11.heap.size):=zy ⟨(hbut.block _ z0.out.1.lt HCa.out.ne_map).trans z0.out.1,(hbut.block _ z0.out.2.1.lt (by omega)).trans z0.out.2.1,(hbut.block _ z0.out.2.2.1.lt (by omega)).trans z0.out.2.2.1,z0.out.2.2.2.1.trans (zX7.of_but (S:=fun k=>k=bm) hbut rfl) (fun _ _ h=> .inr (.inl h)),Nat.le_trans z0.out.2.2.2.2 hbut.size⟩
  have HO11:Hid (w11.ownsRow B 75 3 (.slice (some ⟨g',0,none⟩) (n+1) c') (n+1) (zW1 (ord ++ [(x0,x1,x2)]))):=zy (zXC HO0.out fun k hk=>hbut.block k (HO0.out.lt k hk).2 (HNe.out k hk).2)
  have HKb:=zy hkb
  clear hmu hkb hbut hbm z10 HO10 HK10
  refine wp_region_held_drew (S:=fun wz=>wz.cell? ⟨bc,2,none⟩=some (.map (some bm))∧zAI wz w.heap.size 75 #[.int .u64 x0, .int .i64 x1, .int .i64 x2]∧zAI wz (w.heap.size+1) 36 #[.int .i64 q0, .int .i64 q1, .int .i64 q2]) (by kernel_rfl) (⟨z0.out.1.cell (i:=2) rfl,z0.out.2.1,z0.out.2.2.1⟩) (fun hHeld=>?_)
  refine zj (i:=0) (v:=?_) rfl (by kernel_rfl) (fun _ _ _=>id) (by rfl) ?_ ⟨z0.out.1.cell (i:=2) rfl,z0.out.2.1,z0.out.2.2.1⟩ ?_
  rotate_left
  ·intro w h;go_simp;try with_reducible rfl
  try simp only [zv,zx]
  refine zj (i:=1) (v:=?_) rfl (by kernel_rfl) (fun _ _ _=>id) (by rfl) ?_ ⟨z0.out.1.cell (i:=2) rfl,z0.out.2.1,z0.out.2.2.1⟩ ?_
  rotate_left
  ·intro w h;go_simp;try with_reducible rfl
  try simp only [zv,zx]
  refine zj (i:=2) (v:=?_) rfl (by kernel_rfl) (fun _ _ _=>id) (by rfl) ?_ ⟨z0.out.1.cell (i:=2) rfl,z0.out.2.1,z0.out.2.2.1⟩ ?_
  rotate_left
  ·intro w h;go_simp;try with_reducible rfl
  try simp only [zv,zx]
  refine zj (i:=3) (v:=?_) rfl (by kernel_rfl) (fun _ _ _=>id) (by rfl) ?_ ⟨z0.out.1.cell (i:=2) rfl,z0.out.2.1,z0.out.2.2.1⟩ ?_
  rotate_left
  ·intro w h;go_simp;try with_reducible rfl
  try simp only [zv,zx]
  refine zQ (i:=4) rfl (by kernel_rfl) (fun _ _ _=>id) (zXh (by rfl) _ _ rfl _ rfl _ _ _ (fun wz h=>h.2.1) Tryz.underlying75 rfl (by exact zX1)) ⟨z0.out.1.cell (i:=2) rfl,z0.out.2.1,z0.out.2.2.1⟩ ?_
  try simp only [zv,zx]
  refine zQ (i:=5) rfl (by kernel_rfl) (fun _ _ _=>id) (zXh (by rfl) _ _ rfl _ rfl _ _ _ (fun wz h=>h.2.2) Tryz.underlying36 rfl (by exact zT5)) ⟨z0.out.1.cell (i:=2) rfl,z0.out.2.1,z0.out.2.2.1⟩ ?_
  try simp only [zv,zx]
  refine wpAnyH_ready (rs:= [6]) (by kernel_rfl) (by simp) ?_
  refine AllReadyH.cons rfl (fun K hK=>?_) AllReadyH.nil
  try simp only [zx]
  rw [if_pos (by rfl)]
  go_wp2_with fail
  refine hK.out _ _ (⟨z11.out.1.cell (i:=2) rfl,z11.out.2.1,z11.out.2.2.1⟩) (fun _=>?_)
  clear hK K
  try simp only [zv,zx]
  refine wpAnyH_done (by kernel_rfl) ?_ _
  go_wp2
  go_end0
  have hln:(ord ++ [(x0,x1,x2)]).length=n+1:=by rw [List.length_append,HN.out];rfl
  exact ⟨rfl,(.slice (some ⟨g',0,none⟩) (n+1) c'),ord ++ [(x0,x1,x2)],⟨⟨h,m,z11.out.1⟩,by rw [hln];exact HO11.out,HKb.out,by rw [hln];omega,HCa.out.room0,HCa.out.room1,HCa.out.bc0,HCa.out.bm0⟩,z11.out.2.2.2.1,HB7.out⟩
theorem zXK {w:World} {B bc bm g n c:Nat} {ord:List PlT} {room:Int} (hC:zXA w B bc bm (.slice (some ⟨g,0,none⟩) n c) ord room) (hn:ord.length=n) (x0 x1 x2 q0 q1 q2:Int) (hL: ∀wz:World,wz.heap[bm]? =w.heap[bm]? →(Instr.lookup 118 (.map (some bm)) (keyV x0 x1 x2) true).run Tryz.prog wz= .ok (.tuple #[.agg (zD7 (0,0,0)), .bool false]) wz)
  (he:chE x0 x1 x2=0) (hq:chP x0 x1 x2=(q0,q1,q2)) (hfull:(n:Int)=room) (hpos:0<n):
  Calls Tryz.prog 140 #[.pointer (some ⟨bc,0,none⟩), .agg #[.int .u64 x0, .int .i64 x1, .int .i64 x2], .agg #[.int .i64 q0, .int .i64 q1, .int .i64 q2]] w fun e w'=>e= .returned (.tuple #[])∧ ∃V' ord',zXA w' B bc bm V' ord' room∧zX7 (CF bc bm (.slice (some ⟨g,0,none⟩) n c)) w w'∧(∀k,V'.ownBlock=some k→Value.ownBlock (.slice (some ⟨g,0,none⟩) n c)=some k∨w.heap.size≤k):=by
 obtain ⟨h,m,hr⟩:=hC.row
 obtain ⟨hgc,hgm,hgB⟩:=hC.ne_own rfl
 have hcf:=hC.cf
 have hbl:=hr.lt
 have hro:n≤64∧(n:Int)≤room∧room≤64:=by have:=hC.len;have:=hC.room1;omega
 have Z:Hid (zAI ((w.alloc (.cells #[.int .u64 x0, .int .i64 x1, .int .i64 x2] 75)).alloc (.cells #[.int .i64 q0, .int .i64 q1, .int .i64 q2] 36)) bc 121 #[.int .i64 room,(.slice (some ⟨g,0,none⟩) n c), .map (some bm), .int .i64 h, .int .i64 m]∧zAI ((w.alloc (.cells #[.int .u64 x0, .int .i64 x1, .int .i64 x2] 75)).alloc (.cells #[.int .i64 q0, .int .i64 q1, .int .i64 q2] 36)) w.heap.size 75 #[.int .u64 x0, .int .i64 x1, .int .i64 x2]∧zAI ((w.alloc (.cells #[.int .u64 x0, .int .i64 x1, .int .i64 x2] 75)).alloc (.cells #[.int .i64 q0, .int .i64 q1, .int .i64 q2] 36)) (w.heap.size+1) 36 #[.int .i64 q0, .int .i64 q1, .int .i64 q2]∧zX7 (fun k=>k=bc) w ((w.alloc (.cells #[.int .u64 x0, .int .i64 x1, .int .i64 x2] 75)).alloc (.cells #[.int .i64 q0, .int .i64 q1, .int .i64 q2] 36))∧w.heap.size+2≤((w.alloc (.cells #[.int .u64 x0, .int .i64 x1, .int .i64 x2] 75)).alloc (.cells #[.int .i64 q0, .int .i64 q1, .int .i64 q2] 36)).heap.size):=zy (by
  obtain ⟨a,b,d⟩:=lay2 w 75 36 #[.int .u64 x0, .int .i64 x1, .int .i64 x2] #[.int .i64 q0, .int .i64 q1, .int .i64 q2]
  exact ⟨hr.keep d,a,b,zX7.of_below d,by simp⟩)
 have GBb:Hid (∀W W',(zAI W bc 121 #[.int .i64 room,(.slice (some ⟨g,0,none⟩) n c), .map (some bm), .int .i64 h, .int .i64 m]∧zAI W w.heap.size 75 #[.int .u64 x0, .int .i64 x1, .int .i64 x2]∧zAI W (w.heap.size+1) 36 #[.int .i64 q0, .int .i64 q1, .int .i64 q2]∧zX7 (fun k=>k=bc) w W∧w.heap.size+2≤W.heap.size)→Below W.heap.size W W'→(zAI W' bc 121 #[.int .i64 room,(.slice (some ⟨g,0,none⟩) n c), .map (some bm), .int .i64 h, .int .i64 m]∧zAI W' w.heap.size 75 #[.int .u64 x0, .int .i64 x1, .int .i64 x2]∧zAI W' (w.heap.size+1) 36 #[.int .i64 q0, .int .i64 q1, .int .i64 q2]∧zX7 (fun k=>k=bc) w W'∧w.heap.size+2≤W'.heap.size)):=zy (fun W W' h hY=>⟨h.1.keep hY,h.2.1.keep hY,h.2.2.1.keep hY,h.2.2.2.1.trans (zX7.of_below (S:=fun _=>False) hY) (fun _ _ h=>h.elim),Nat.le_trans h.2.2.2.2 hY.size⟩)
 have HSl:Hid (∀W,(zAI W bc 121 #[.int .i64 room,(.slice (some ⟨g,0,none⟩) n c), .map (some bm), .int .i64 h, .int .i64 m]∧zAI W w.heap.size 75 #[.int .u64 x0, .int .i64 x1, .int .i64 x2]∧zAI W (w.heap.size+1) 36 #[.int .i64 q0, .int .i64 q1, .int .i64 q2]∧zX7 (fun k=>k=bc) w W∧w.heap.size+2≤W.heap.size)→(W.cell? ⟨bc,2,none⟩=some (.map (some bm))∧zAI W w.heap.size 75 #[.int .u64 x0, .int .i64 x1, .int .i64 x2]∧W.heap[bm]? =w.heap[bm]?)):=zy (fun W h=>⟨h.1.cell (i:=2) rfl,h.2.1,h.2.2.2.1.block bm (hcf bm (.inr (.inl rfl))).2 (Ne.symm hC.ne_map)⟩)
 have HCa:=zy hC
 have HL:=zy hL
 have HN:=zy hn
 have HQ:=zy (And.intro he hq)
 have troom:(room == 0)=false:=by simp;omega
 have tfull:((n:Int) == room)=true:=by simp;omega
 have hro':=zy hro
 obtain ⟨i0,hi0,hz0,hz1,hz2⟩:=info_parts zX5
 have c0:=Z.out.1.cell (i:=0) (v:= .int .i64 room) rfl
 clear hC hr hL hn he hq hfull hro hcf
 go_enter Tryz.func140,Tryz.ntmps140
 go_wp2_with fail
 obtain ⟨w1,hw1⟩: ∃w1,w1=((w.alloc (.cells #[.int .u64 x0, .int .i64 x1, .int .i64 x2] 75)).alloc (.cells #[.int .i64 q0, .int .i64 q1, .int .i64 q2] 36)):=⟨_,rfl⟩
 rw [←hw1] at Z ⊢
 clear hw1 c0
 have z0:=zy (GBb.out _ _ Z.out (below_drewN (Below.refl _ _) 1))
 clear Z
 refine wp_region_held_drew (S:=fun wz=>wz.cell? ⟨bc,2,none⟩=some (.map (some bm))∧zAI wz w.heap.size 75 #[.int .u64 x0, .int .i64 x1, .int .i64 x2]∧wz.heap[bm]? =w.heap[bm]?) (by kernel_rfl) ((HSl.out _ z0.out)) (fun hHeld=>?_)
 refine zj (i:=0) (v:=?_) rfl (by kernel_rfl) (fun _ _ _=>id) (by rfl) ?_ (HSl.out _ z0.out) ?_
 rotate_left
 ·intro w h;go_simp;try with_reducible rfl
 try simp only [zv,zx]
 refine zj (i:=1) (v:=?_) rfl (by kernel_rfl) (fun _ _ _=>id) (by rfl) ?_ (HSl.out _ z0.out) ?_
 rotate_left
 ·intro w h;go_simp;try with_reducible rfl
 try simp only [zv,zx]
 refine zj (i:=2) (v:=?_) rfl (by kernel_rfl) (fun _ _ _=>id) (by rfl) ?_ (HSl.out _ z0.out) ?_
 rotate_left
 ·intro w h;go_simp;try with_reducible rfl
 try simp only [zv,zx]
 refine zj (i:=3) (v:=?_) rfl (by kernel_rfl) (fun _ _ _=>id) (by rfl) ?_ (HSl.out _ z0.out) ?_
 rotate_left
 ·intro w h;go_simp;try with_reducible rfl
 try simp only [zv,zx]
 refine zQ (i:=4) rfl (by kernel_rfl) (fun _ _ _=>id) (zXh (by rfl) _ _ rfl _ rfl _ _ _ (fun wz h=>h.2.1) Tryz.underlying75 rfl (by exact zX1)) (HSl.out _ z0.out) ?_
 try simp only [zv,zx]
 refine zj (i:=5) (v:= .tuple #[.agg (zD7 (0,0,0)), .bool false]) rfl (by kernel_rfl) (fun _ _ _=>id) (by rfl) ?_ (HSl.out _ z0.out) ?_
 ·intro w hSw;have hlk:=HL.out _ hSw.2.2;unfold keyV at hlk;go_simp;try with_reducible rfl
 try simp only [zv,zx]
 refine zj (i:=6) (v:=?_) rfl (by kernel_rfl) (fun _ _ _=>id) (by rfl) ?_ (HSl.out _ z0.out) ?_
 rotate_left
 ·intro w h;go_simp;try with_reducible rfl
 try simp only [zv,zx]
 refine zj (i:=7) (v:=?_) rfl (by kernel_rfl) (fun _ _ _=>id) (by rfl) ?_ (HSl.out _ z0.out) ?_
 rotate_left
 ·intro w h;go_simp;try with_reducible rfl
 try simp only [zv,zx]
 refine zj (i:=8) (v:=?_) rfl (by kernel_rfl) (fun _ _ _=>id) (by rfl) ?_ (HSl.out _ z0.out) ?_
 rotate_left
 ·intro w h;go_simp;try with_reducible rfl
 try simp only [zv,zx]
 refine wpAnyH_ready (rs:= [9]) (by kernel_rfl) (by simp) ?_
 refine AllReadyH.cons rfl (fun K hK=>?_) AllReadyH.nil
 try simp only [zx]
 have hA:=lay1 (w1.drewN 1) 36 #[.int .i64 0, .int .i64 0, .int .i64 0]
 have z9:=zy (GBb.out _ _ z0.out hA.2)
 have HP9:=zy hA.1
 clear hA
 rw [if_pos (by rfl)]
 go_wp2_with fail
 refine hK.out _ _ ((HSl.out _ z9.out)) (fun _=>?_)
 clear hK K
 try simp only [zv,zx]
 have hB:=below_setRow (lay1 (w1.drewN 1) 36 #[.int .i64 0, .int .i64 0, .int .i64 0]).2 (Nat.le_refl _) #[.int .i64 0, .int .i64 0, .int .i64 0]
 have z10:=zy (GBb.out _ _ z0.out hB)
 clear hB
 refine wpAnyH_ready (rs:= [10]) (by kernel_rfl) (by simp) ?_
 refine AllReadyH.cons rfl (fun K hK=>?_) AllReadyH.nil
 try simp only [zx]
 rw [if_pos (by rfl)]
 refine wp_store_row _ _ _ rfl _ #[.int .i64 0, .int .i64 0, .int .i64 0] rfl rfl _ _ (HP9.out) (by exact zT5) rfl (zOs _ _ _) ?_
 refine hK.out _ _ ((HSl.out _ z10.out)) (fun _=>?_)
 clear hK K
 try simp only [zv,zx]
 refine zj (i:=11) (v:=?_) rfl (by kernel_rfl) (fun _ _ _=>id) (by rfl) ?_ (HSl.out _ z10.out) ?_
 rotate_left
 ·intro w h;go_simp;try with_reducible rfl
 try simp only [zv,zx]
 refine wpAnyH_done (by kernel_rfl) ?_ _
 obtain ⟨W2,hW2⟩: ∃W2,W2=((w1.alloc (.cells #[.int .i64 0, .int .i64 0, .int .i64 0] 36)).drew).setRow w1.heap.size #[.int .i64 0, .int .i64 0, .int .i64 0]:=⟨_,rfl⟩
 have z11:Hid (zAI W2 bc 121 #[.int .i64 room,(.slice (some ⟨g,0,none⟩) n c), .map (some bm), .int .i64 h, .int .i64 m]∧zAI W2 w.heap.size 75 #[.int .u64 x0, .int .i64 x1, .int .i64 x2]∧zAI W2 (w.heap.size+1) 36 #[.int .i64 q0, .int .i64 q1, .int .i64 q2]∧zX7 (fun k=>k=bc) w W2∧w.heap.size+2≤W2.heap.size):=zy (by rw [hW2];exact z10.out)
 rw [←hW2]
 clear hW2 z9 HP9 z10 z0
 have e0:=z11.out.1.cell (i:=0) (v:= .int .i64 room) rfl
 have e1:=z11.out.1.cell (i:=1) (v:= .slice (some ⟨g,0,none⟩) n c) rfl
 go_wp2_with fail
 go_quiet (fail)
 go_wp2_with fail
 obtain ⟨W3,hW3⟩: ∃W3,W3=W2.drewN nq:=⟨_,rfl⟩
 have z3:Hid (zAI W3 bc 121 #[.int .i64 room,(.slice (some ⟨g,0,none⟩) n c), .map (some bm), .int .i64 h, .int .i64 m]∧zAI W3 w.heap.size 75 #[.int .u64 x0, .int .i64 x1, .int .i64 x2]∧zAI W3 (w.heap.size+1) 36 #[.int .i64 q0, .int .i64 q1, .int .i64 q2]∧zX7 (fun k=>k=bc) w W3∧w.heap.size+2≤W3.heap.size):=zy (by rw [hW3];exact GBb.out _ _ z11.out (below_drewN (Below.refl _ _) nq))
 rw [←hW3]
 clear hW3 z11 e0 e1
 have HO3:Hid (W3.ownsRow B 75 3 (.slice (some ⟨g,0,none⟩) n c) n (zW1 ord)):=zy (by
  have h1:=HCa.out.own
  rw [HN.out] at h1
  exact zXC h1 fun k hk=>z3.out.2.2.2.1.block k (HCa.out.own.lt k hk).2 (HCa.out.own_ne hk).1)
 have hbml:=HCa.out.book.lt
 have hgl:=(HCa.out.own.lt g rfl).2
 have hlen:=HN.out
 obtain ⟨⟨y0,y1,y2⟩,hy⟩: ∃y,y=ord.getD 0 (0,0,0):=⟨_,rfl⟩
 have HRg:Hid (∀W:World,W.ownsRow B 75 3 (.slice (some ⟨g,0,none⟩) n c) n (zW1 ord)→W.rangeAt g 0 [.int .u64 y0, .int .i64 y1, .int .i64 y2]):=zy (fun W hW=>by
  have h1:=RdK.of_own hW 0 (by omega)
  rw [←hy,Nat.zero_mul] at h1
  exact h1)
 have hsub: ∀x ∈ ord,x≠(y0,y1,y2)→x ∈ ord.eraseIdx 0:=fun x hx hne=>by
  have h1:=zX9 (l:=ord) (i:=0) (x:=(y0,y1,y2)) (by omega) hy.symm hx
  rcases List.mem_append.1 h1 with h1|h1
  ·exact h1
  ·exact absurd (List.mem_singleton.1 h1) hne
 have z0:=zy (GBb.out _ _ z3.out (below_drewN (Below.refl _ _) 1))
 have HO0:Hid ((W3.drewN 1).ownsRow B 75 3 (.slice (some ⟨g,0,none⟩) n c) n (zW1 ord)):=zy HO3.out
 obtain ⟨w4,hdl,hkb,hbut⟩:=zRu (w:=W3.drewN 1) (bm:=bm) (ord:=ord) (ord':=ord.eraseIdx 0) (HCa.out.book.same (z0.out.2.2.2.1.block _ hbml (Ne.symm HCa.out.ne_map))) y0 y1 y2 hsub 0
 have hdl':(Builtin.delete_ #[118,75] 0 #[.map (some bm), .agg #[.int .u64 y0, .int .i64 y1, .int .i64 y2]]).run Tryz.prog W3.drew= .ok (.tuple #[]) w4:=hdl
 have z4:Hid (zAI w4 bc 121 #[.int .i64 room,(.slice (some ⟨g,0,none⟩) n c), .map (some bm), .int .i64 h, .int .i64 m]∧zAI w4 w.heap.size 75 #[.int .u64 x0, .int .i64 x1, .int .i64 x2]∧zAI w4 (w.heap.size+1) 36 #[.int .i64 q0, .int .i64 q1, .int .i64 q2]∧zX7 (CF bc bm (.slice (some ⟨g,0,none⟩) n c)) w w4∧w.heap.size+2≤w4.heap.size):=zy ⟨(hbut.block _ z0.out.1.lt HCa.out.ne_map).trans z0.out.1,(hbut.block _ z0.out.2.1.lt (by omega)).trans z0.out.2.1,(hbut.block _ z0.out.2.2.1.lt (by omega)).trans z0.out.2.2.1,⟨hbut.os.trans z0.out.2.2.2.1.os,hbut.tape.trans z0.out.2.2.2.1.tape,hbut.output.trans z0.out.2.2.2.1.output,Nat.le_trans z0.out.2.2.2.1.size hbut.size,fun k hk hn=>(hbut.block k (Nat.lt_of_lt_of_le hk z0.out.2.2.2.1.size) (fun e=>hn (.inr (.inl e)))).trans (z0.out.2.2.2.1.block k hk (fun e=>hn (.inl e)))⟩,Nat.le_trans z0.out.2.2.2.2 hbut.size⟩
 have HO4:Hid (w4.ownsRow B 75 3 (.slice (some ⟨g,0,none⟩) n c) n (zW1 ord)):=zy (zXC HO0.out fun k hk=>hbut.block k (HO0.out.lt k hk).2 (HCa.out.own_ne hk).2)
 have HK4:=zy hkb
 clear hy hsub hdl hkb hbut z3 HO3
 refine wp_region_held_drew (S:=fun wz=>wz.cell? ⟨bc,2,none⟩=some (.map (some bm))∧wz.cell? ⟨bc,1,none⟩=some (.slice (some ⟨g,0,none⟩) n c)∧wz.rangeAt g 0 [.int .u64 y0, .int .i64 y1, .int .i64 y2]) (by kernel_rfl) (⟨z0.out.1.cell (i:=2) rfl,z0.out.1.cell (i:=1) rfl,HRg.out _ (HO0.out)⟩) (fun hHeld=>?_)
 refine zj (i:=0) (v:=?_) rfl (by kernel_rfl) (fun _ _ _=>id) (by rfl) ?_ ⟨z0.out.1.cell (i:=2) rfl,z0.out.1.cell (i:=1) rfl,HRg.out _ (HO0.out)⟩ ?_
 rotate_left
 ·intro w h;go_simp;try with_reducible rfl
 try simp only [zv,zx]
 refine zj (i:=1) (v:=?_) rfl (by kernel_rfl) (fun _ _ _=>id) (by rfl) ?_ ⟨z0.out.1.cell (i:=2) rfl,z0.out.1.cell (i:=1) rfl,HRg.out _ (HO0.out)⟩ ?_
 rotate_left
 ·intro w h;go_simp;try with_reducible rfl
 try simp only [zv,zx]
 refine zj (i:=2) (v:=?_) rfl (by kernel_rfl) (fun _ _ _=>id) (by rfl) ?_ ⟨z0.out.1.cell (i:=2) rfl,z0.out.1.cell (i:=1) rfl,HRg.out _ (HO0.out)⟩ ?_
 rotate_left
 ·intro w h;go_simp;try with_reducible rfl
 try simp only [zv,zx]
 refine zj (i:=3) (v:=?_) rfl (by kernel_rfl) (fun _ _ _=>id) (by rfl) ?_ ⟨z0.out.1.cell (i:=2) rfl,z0.out.1.cell (i:=1) rfl,HRg.out _ (HO0.out)⟩ ?_
 rotate_left
 ·intro w h;go_simp;try with_reducible rfl
 try simp only [zv,zx]
 refine zj (i:=4) (v:=?_) rfl (by kernel_rfl) (fun _ _ _=>id) (by rfl) ?_ ⟨z0.out.1.cell (i:=2) rfl,z0.out.1.cell (i:=1) rfl,HRg.out _ (HO0.out)⟩ ?_
 rotate_left
 ·intro w h;go_simp;try with_reducible rfl
 try simp only [zv,zx]
 refine zj (i:=5) (v:=?_) rfl (by kernel_rfl) (fun _ _ _=>id) (by rfl) ?_ ⟨z0.out.1.cell (i:=2) rfl,z0.out.1.cell (i:=1) rfl,HRg.out _ (HO0.out)⟩ ?_
 rotate_left
 ·intro w h;go_simp;try with_reducible rfl
 try simp only [zv,zx]
 refine zj (i:=6) (v:=?_) rfl (by kernel_rfl) (fun _ _ _=>id) (by rfl) ?_ ⟨z0.out.1.cell (i:=2) rfl,z0.out.1.cell (i:=1) rfl,HRg.out _ (HO0.out)⟩ ?_
 rotate_left
 ·intro w h;go_simp;try with_reducible rfl
 try simp only [zv,zx]
 refine zj (i:=7) (v:=?_) rfl (by kernel_rfl) (fun _ _ _=>id) (by rfl) ?_ ⟨z0.out.1.cell (i:=2) rfl,z0.out.1.cell (i:=1) rfl,HRg.out _ (HO0.out)⟩ ?_
 rotate_left
 ·intro w h;go_simp;try with_reducible rfl
 try simp only [zv,zx]
 refine zj (i:=8) (v:=?_) rfl (by kernel_rfl) (fun _ _ _=>id) (by rfl) ?_ ⟨z0.out.1.cell (i:=2) rfl,z0.out.1.cell (i:=1) rfl,HRg.out _ (HO0.out)⟩ ?_
 rotate_left
 ·intro w h;go_simp;try with_reducible rfl
 try simp only [zv,zx]
 refine zQ (i:=9) rfl (by kernel_rfl) (fun _ _ _=>id) (yieldsIf_load_mid (by rfl) _ _ rfl _ _ rfl _ _ (fun wz h=>h.2.2) Tryz.underlying75 rfl (by exact zX1)) (⟨z0.out.1.cell (i:=2) rfl,z0.out.1.cell (i:=1) rfl,HRg.out _ (HO0.out)⟩) ?_
 try simp only [zv,zx]
 refine wpAnyH_ready (rs:= [10]) (by kernel_rfl) (by simp) ?_
 refine AllReadyH.cons rfl (fun K hK=>?_) AllReadyH.nil
 try simp only [zx]
 rw [if_pos (by rfl)]
 go_wp2_with fail
 refine hK.out _ _ (⟨z4.out.1.cell (i:=2) rfl,z4.out.1.cell (i:=1) rfl,HRg.out _ (HO4.out)⟩) (fun _=>?_)
 clear hK K
 try simp only [zv,zx]
 refine wpAnyH_done (by kernel_rfl) ?_ _
 obtain ⟨k,hk⟩: ∃k,k=n-1:=⟨_,rfl⟩
 have hle:(ord.eraseIdx 0).length=k:=by rw [List.length_eraseIdx,if_pos (by omega)];omega
 have HDl:Hid (Calls Tryz.prog 182 #[.slice (some ⟨g,0,none⟩) n c, .int .i64 0, .int .i64 1] w4 fun e w'=>e= .returned (.slice (some ⟨g,0,none⟩) k c)∧w'.ownsRow B 75 3 (.slice (some ⟨g,0,none⟩) k c) k (zW1 (ord.eraseIdx 0))∧But g w4 w'):=zy (by
  have h:=zX6 (i:=0) HO4.out hpos (by have:=hro'.out;omega)
  rw [←hk] at h
  exact h)
 have e1:=z4.out.1.cell (i:=1) (v:= .slice (some ⟨g,0,none⟩) n c) rfl
 have HKn:Hid (k+1=n):=zy (by omega)
 have HLe:=zy hle
 clear z0 HO0 hk hle hlen
 go_wp2_with fail
 refine HDl.out.mono ?_
 rintro e w5 ⟨rfl,ho5,hb5⟩
 have z5:Hid (zAI w5 bc 121 #[.int .i64 room,(.slice (some ⟨g,0,none⟩) n c), .map (some bm), .int .i64 h, .int .i64 m]∧zAI w5 w.heap.size 75 #[.int .u64 x0, .int .i64 x1, .int .i64 x2]∧zAI w5 (w.heap.size+1) 36 #[.int .i64 q0, .int .i64 q1, .int .i64 q2]∧zX7 (CF bc bm (.slice (some ⟨g,0,none⟩) n c)) w w5∧w.heap.size+2≤w5.heap.size):=zy ⟨(hb5.block _ z4.out.1.lt (Ne.symm hgc)).trans z4.out.1,(hb5.block _ z4.out.2.1.lt (by omega)).trans z4.out.2.1,(hb5.block _ z4.out.2.2.1.lt (by omega)).trans z4.out.2.2.1,z4.out.2.2.2.1.trans (zX7.of_but (S:=fun k=>k=g) hb5 rfl) (fun _ _ h=> .inr (.inr (by rw [h];rfl))),Nat.le_trans z4.out.2.2.2.2 hb5.size⟩
 have HK5:=zy (HK4.out.same (hb5.block _ HK4.out.lt (Ne.symm hgm)))
 have HO5:=zy ho5
 have e5:=z5.out.1.cell (i:=1) (v:= .slice (some ⟨g,0,none⟩) n c) rfl
 have f5:=z5.out.1.frozen 1
 have hbs:=But.setCell bc 1 w5 (.slice (some ⟨g,0,none⟩) k c)
 have z6:Hid (zAI (w5.setCell ⟨bc,1,none⟩ (.slice (some ⟨g,0,none⟩) k c)) bc 121 #[.int .i64 room,(.slice (some ⟨g,0,none⟩) k c), .map (some bm), .int .i64 h, .int .i64 m]∧zAI (w5.setCell ⟨bc,1,none⟩ (.slice (some ⟨g,0,none⟩) k c)) w.heap.size 75 #[.int .u64 x0, .int .i64 x1, .int .i64 x2]∧zAI (w5.setCell ⟨bc,1,none⟩ (.slice (some ⟨g,0,none⟩) k c)) (w.heap.size+1) 36 #[.int .i64 q0, .int .i64 q1, .int .i64 q2]∧zX7 (CF bc bm (.slice (some ⟨g,0,none⟩) n c)) w (w5.setCell ⟨bc,1,none⟩ (.slice (some ⟨g,0,none⟩) k c))∧w.heap.size+2≤(w5.setCell ⟨bc,1,none⟩ (.slice (some ⟨g,0,none⟩) k c)).heap.size):=zy ⟨z5.out.1.set 1 (.slice (some ⟨g,0,none⟩) k c),z5.out.2.1.setOther _ _ (by show w.heap.size≠bc;omega),z5.out.2.2.1.setOther _ _ (by show w.heap.size+1≠bc;omega),z5.out.2.2.2.1.trans (zX7.of_but (S:=fun k=>k=bc) hbs rfl) (fun _ _ h=> .inl h),Nat.le_trans z5.out.2.2.2.2 hbs.size⟩
 have HO6:Hid ((w5.setCell ⟨bc,1,none⟩ (.slice (some ⟨g,0,none⟩) k c)).ownsRow B 75 3 (.slice (some ⟨g,0,none⟩) k c) k (zW1 (ord.eraseIdx 0))):=zy (zXC HO5.out fun k hk=>hbs.block k (HO5.out.lt k hk).2 (fun e=>hgc (by rw [←e];exact Option.some.inj hk)))
 have HK6:Hid (zKN (w5.setCell ⟨bc,1,none⟩ (.slice (some ⟨g,0,none⟩) k c)) bm (ord.eraseIdx 0)):=zy (HK5.out.same (hbs.block _ HK5.out.lt (Ne.symm HCa.out.ne_map)))
 clear hbs ho5 hb5 z4 HO4 HK4 HDl e1
 go_wp2_with fail
 obtain ⟨W7,hW7⟩: ∃W7,W7=w5.setCell ⟨bc,1,none⟩ (.slice (some ⟨g,0,none⟩) k c):=⟨_,rfl⟩
 rw [←hW7] at z6 HO6 HK6 ⊢
 have z_:=z6
 have HO_:=HO6
 have HK_:=HK6
 clear z6 HO6 HK6
 clear hW7 e5 f5 z5 HO5 HK5
 have GB2:Hid (∀W W',(zAI W bc 121 #[.int .i64 room,(.slice (some ⟨g,0,none⟩) k c), .map (some bm), .int .i64 h, .int .i64 m]∧zAI W w.heap.size 75 #[.int .u64 x0, .int .i64 x1, .int .i64 x2]∧zAI W (w.heap.size+1) 36 #[.int .i64 q0, .int .i64 q1, .int .i64 q2]∧zX7 (CF bc bm (.slice (some ⟨g,0,none⟩) n c)) w W∧w.heap.size+2≤W.heap.size)→Below W.heap.size W W'→(zAI W' bc 121 #[.int .i64 room,(.slice (some ⟨g,0,none⟩) k c), .map (some bm), .int .i64 h, .int .i64 m]∧zAI W' w.heap.size 75 #[.int .u64 x0, .int .i64 x1, .int .i64 x2]∧zAI W' (w.heap.size+1) 36 #[.int .i64 q0, .int .i64 q1, .int .i64 q2]∧zX7 (CF bc bm (.slice (some ⟨g,0,none⟩) n c)) w W'∧w.heap.size+2≤W'.heap.size)):=zy (fun W W' h hY=>⟨h.1.keep hY,h.2.1.keep hY,h.2.2.1.keep hY,h.2.2.2.1.trans (zX7.of_below (S:=fun _=>False) hY) (fun _ _ h=>h.elim),Nat.le_trans h.2.2.2.2 hY.size⟩)
 have hn63:k<64:=by have:=hro'.out;have:=HKn.out;omega
 have hrm:(k:Int)<room:=by have:=hro'.out;have:=HKn.out;omega
 have hOn: ∀j,Value.ownBlock (.slice (some ⟨g,0,none⟩) k c)=some j→(j≠bc∧j≠bm)∧j<w.heap.size:=fun j hj=>⟨HCa.out.own_ne hj,(HCa.out.own.lt j hj).2⟩
 have HN:=HLe
 have z0:=zy (GB2.out _ _ z_.out (below_drewN (Below.refl _ _) 1))
 have HO0:Hid ((W7.drewN 1).ownsRow B 75 3 (.slice (some ⟨g,0,none⟩) k c) k (zW1 (ord.eraseIdx 0))):=zy HO_.out
 have HK0:Hid (zKN (W7.drewN 1) bm (ord.eraseIdx 0)):=zy HK_.out
 clear z_ HO_ HK_
 refine wp_region_held_drew (S:=fun wz=>zAI wz w.heap.size 75 #[.int .u64 x0, .int .i64 x1, .int .i64 x2]) (by kernel_rfl) (z0.out.2.1) (fun hHeld=>?_)
 refine zj (i:=0) (v:=?_) rfl (by kernel_rfl) (fun _ _ _=>id) (by rfl) ?_ z0.out.2.1 ?_
 rotate_left
 ·intro w h;go_simp;try with_reducible rfl
 try simp only [zv,zx]
 refine zj (i:=1) (v:=?_) rfl (by kernel_rfl) (fun _ _ _=>id) (by rfl) ?_ z0.out.2.1 ?_
 rotate_left
 ·intro w h;go_simp;try with_reducible rfl
 try simp only [zv,zx]
 refine zj (i:=2) (v:=?_) rfl (by kernel_rfl) (fun _ _ _=>id) (by rfl) ?_ z0.out.2.1 ?_
 rotate_left
 ·intro w h;go_simp;try with_reducible rfl
 try simp only [zv,zx]
 refine zj (i:=3) (v:=?_) rfl (by kernel_rfl) (fun _ _ _=>id) (by rfl) ?_ z0.out.2.1 ?_
 rotate_left
 ·intro w h;go_simp;try with_reducible rfl
 try simp only [zv,zx]
 refine zQ (i:=5) rfl (by kernel_rfl) (fun _ _ _=>id) (zXh (by rfl) _ _ rfl _ rfl _ _ _ (fun wz h=>h) Tryz.underlying75 rfl (by exact zX1)) z0.out.2.1 ?_
 try simp only [zv,zx]
 refine wpAnyH_ready (rs:= [4,6]) (by kernel_rfl) (by simp) ?_
 refine AllReadyH.cons rfl (fun K hK=>?_) ?_
 try simp only [zx]
 have e1:(W7.drew).cell? ⟨bc,1,none⟩=some (.slice (some ⟨g,0,none⟩) k c):=z0.out.1.cell (i:=1) rfl
 rw [if_pos (by rfl)]
 go_wp2_with fail
 refine hK.out _ _ (z0.out.2.1) (fun _=>?_)
 clear hK K
 try simp only [zv,zx]
 refine wpAnyH_ready (rs:= [6]) (by kernel_rfl) (by simp) ?_
 refine AllReadyH.cons rfl (fun K hK=>?_) AllReadyH.nil
 try simp only [zx]
 have hA:=lay1 (W7.drewN 1) 75 #[.int .u64 x0, .int .i64 x1, .int .i64 x2]
 have z6:=zy (GB2.out _ _ z0.out hA.2)
 have RB:=zy hA.1
 have HO6:=zy (zXC HO0.out fun k hk=>hA.2.block k (HO0.out.lt k hk).2)
 have HK6:=zy (HK0.out.below hA.2)
 clear hA
 rw [if_pos (by rfl)]
 go_wp2_with fail
 refine hK.out _ _ (z6.out.2.1) (fun _=>?_)
 clear hK K
 try simp only [zv,zx]
 clear e1
 rotate_left
 refine AllReadyH.cons rfl (fun K hK=>?_) AllReadyH.nil
 try simp only [zx]
 have hA:=lay1 (W7.drewN 1) 75 #[.int .u64 x0, .int .i64 x1, .int .i64 x2]
 have z6:=zy (GB2.out _ _ z0.out hA.2)
 have RB:=zy hA.1
 have HO6:=zy (zXC HO0.out fun k hk=>hA.2.block k (HO0.out.lt k hk).2)
 have HK6:=zy (HK0.out.below hA.2)
 clear hA
 rw [if_pos (by rfl)]
 go_wp2_with fail
 refine hK.out _ _ (z6.out.2.1) (fun _=>?_)
 clear hK K
 try simp only [zv,zx]
 refine wpAnyH_ready (rs:= [4]) (by kernel_rfl) (by simp) ?_
 refine AllReadyH.cons rfl (fun K hK=>?_) AllReadyH.nil
 try simp only [zx]
 have e1:((W7.alloc (.cells #[.int .u64 x0, .int .i64 x1, .int .i64 x2] 75)).drew).cell? ⟨bc,1,none⟩=some (.slice (some ⟨g,0,none⟩) k c):=z6.out.1.cell (i:=1) rfl
 rw [if_pos (by rfl)]
 go_wp2_with fail
 refine hK.out _ _ (z6.out.2.1) (fun _=>?_)
 clear hK K
 try simp only [zv,zx]
 clear e1
 all_goals
  refine wpAnyH_ready (rs:= [7]) (by kernel_rfl) (by simp) ?_
  refine AllReadyH.cons rfl (fun K hK=>?_) AllReadyH.nil
  try simp only [zx]
  rw [if_pos (by rfl)]
  refine zXH _ _ 119 rfl B 75 i0 (.agg #[.int .u64 0, .int .i64 0, .int .i64 0]) 3 24 Tryz.underlying119 hi0 hz0 hz1 hz2 rfl (by decide) (.slice (some ⟨g,0,none⟩) k c) k (zW1 (ord.eraseIdx 0)) (by simp [Act.eval]) HO6.out ⟨W7.heap.size,0,none⟩ 1 1 (zW1 [(x0,x1,x2)]) (by simp [Act.eval]) rfl (fun j u hu=>by rw [zWx];exact RB.out.cell (by simpa [zW1] using hu)) (zXx _) (by unfold maxLen;omega) (by omega) (Nat.le_trans HCa.out.bc0 (Nat.le_of_lt z6.out.1.lt)) ?_
  intro V' w7 ho7 hg7 hb7
  rw [←zXj] at ho7
  obtain ⟨g',c',rfl⟩: ∃g' c',V'= .slice (some ⟨g',0,none⟩) (k+1) c':=by
   rcases ho7.2 with ⟨_,h1⟩|⟨g',c',cur,e,_⟩
   ·omega
   ·exact ⟨g',c',e⟩
  have z7:Hid (zAI w7 bc 121 #[.int .i64 room,(.slice (some ⟨g,0,none⟩) k c), .map (some bm), .int .i64 h, .int .i64 m]∧zAI w7 w.heap.size 75 #[.int .u64 x0, .int .i64 x1, .int .i64 x2]∧zAI w7 (w.heap.size+1) 36 #[.int .i64 q0, .int .i64 q1, .int .i64 q2]∧zX7 (CF bc bm (.slice (some ⟨g,0,none⟩) n c)) w w7∧w.heap.size+2≤w7.heap.size):=zy ⟨(hg7.block _ z6.out.1.lt (fun e=>(hOn bc e.symm).1.1 rfl)).trans z6.out.1,(hg7.block _ z6.out.2.1.lt (fun e=>by have:=(hOn _ e.symm).2;omega)).trans z6.out.2.1,(hg7.block _ z6.out.2.2.1.lt (fun e=>by have:=(hOn _ e.symm).2;omega)).trans z6.out.2.2.1,
   ⟨hg7.os.trans z6.out.2.2.2.1.os,hg7.tape.trans z6.out.2.2.2.1.tape,hg7.output.trans z6.out.2.2.2.1.output,Nat.le_trans z6.out.2.2.2.1.size hg7.size,fun k hk hn=>(hg7.block k (Nat.lt_of_lt_of_le hk z6.out.2.2.2.1.size) (fun e=>hn (.inr (.inr e.symm)))).trans (z6.out.2.2.2.1.block k hk hn)⟩,Nat.le_trans z6.out.2.2.2.2 hg7.size⟩
  have HO7:=zy ho7
  have HB7:Hid (∀k,(Value.ownBlock (.slice (some ⟨g',0,none⟩) (k+1) c'))=some k→Value.ownBlock (.slice (some ⟨g,0,none⟩) k c)=some k∨w.heap.size≤k):=zy (fun k hk=>(hb7 k hk).imp id (fun h=>Nat.le_trans (Nat.le_trans (by omega) z6.out.2.2.2.2) h))
  have HNe:Hid (∀k,(Value.ownBlock (.slice (some ⟨g',0,none⟩) (k+1) c'))=some k→k≠bc∧k≠bm):=zy (fun k hk=>(HB7.out k hk).elim (fun h=>(hOn k h).1) (fun h=>⟨by omega,by omega⟩))
  have HK7:=zy (HK6.out.same (hg7.block _ HK6.out.lt (fun e=>(hOn _ e.symm).1.2 rfl)))
  clear ho7 hg7 hb7
  refine hK.out _ _ (z7.out.2.1) (fun _=>?_)
  clear hK K
  try simp only [zv,zx]
  refine zj (i:=8) (v:=?_) rfl (by kernel_rfl) (fun _ _ _=>id) (by rfl) ?_ z7.out.2.1 ?_
  rotate_left
  ·intro w h;go_simp;try with_reducible rfl
  try simp only [zv,zx]
  refine zj (i:=9) (v:=?_) rfl (by kernel_rfl) (fun _ _ _=>id) (by rfl) ?_ z7.out.2.1 ?_
  rotate_left
  ·intro w h;go_simp;try with_reducible rfl
  try simp only [zv,zx]
  have cc:=z7.out.1.cell (i:=1) (v:=(.slice (some ⟨g,0,none⟩) k c)) rfl
  have ff:=z7.out.1.frozen 1
  have hbs:=But.setCell bc 1 w7 (.slice (some ⟨g',0,none⟩) (k+1) c')
  have z10:Hid (zAI (w7.setCell ⟨bc,1,none⟩ (.slice (some ⟨g',0,none⟩) (k+1) c')) bc 121 #[.int .i64 room,(.slice (some ⟨g',0,none⟩) (k+1) c'), .map (some bm), .int .i64 h, .int .i64 m]∧zAI (w7.setCell ⟨bc,1,none⟩ (.slice (some ⟨g',0,none⟩) (k+1) c')) w.heap.size 75 #[.int .u64 x0, .int .i64 x1, .int .i64 x2]∧zAI (w7.setCell ⟨bc,1,none⟩ (.slice (some ⟨g',0,none⟩) (k+1) c')) (w.heap.size+1) 36 #[.int .i64 q0, .int .i64 q1, .int .i64 q2]∧zX7 (CF bc bm (.slice (some ⟨g,0,none⟩) n c)) w (w7.setCell ⟨bc,1,none⟩ (.slice (some ⟨g',0,none⟩) (k+1) c'))∧w.heap.size+2≤(w7.setCell ⟨bc,1,none⟩ (.slice (some ⟨g',0,none⟩) (k+1) c')).heap.size):=zy ⟨z7.out.1.set 1 (.slice (some ⟨g',0,none⟩) (k+1) c'),z7.out.2.1.setOther _ _ (by show w.heap.size≠bc;omega),z7.out.2.2.1.setOther _ _ (by show w.heap.size+1≠bc;omega),z7.out.2.2.2.1.trans (zX7.of_but (S:=fun k=>k=bc) hbs rfl) (fun _ _ h=> .inl h),Nat.le_trans z7.out.2.2.2.2 hbs.size⟩
  have HO10:Hid ((w7.setCell ⟨bc,1,none⟩ (.slice (some ⟨g',0,none⟩) (k+1) c')).ownsRow B 75 3 (.slice (some ⟨g',0,none⟩) (k+1) c') (k+1) (zW1 ((ord.eraseIdx 0) ++ [(x0,x1,x2)]))):=zy (zXC HO7.out fun k hk=>hbs.block k (HO7.out.lt k hk).2 (HNe.out k hk).1)
  have HK10:Hid (zKN (w7.setCell ⟨bc,1,none⟩ (.slice (some ⟨g',0,none⟩) (k+1) c')) bm (ord.eraseIdx 0)):=zy (HK7.out.same (hbs.block _ HK7.out.lt (Ne.symm HCa.out.ne_map)))
  clear hbs
  refine wpAnyH_ready (rs:= [10]) (by kernel_rfl) (by simp) ?_
  refine AllReadyH.cons rfl (fun K hK=>?_) AllReadyH.nil
  try simp only [zx]
  rw [if_pos (by rfl)]
  go_wp2_with fail
  refine hK.out _ _ (z10.out.2.1) (fun _=>?_)
  clear hK K
  try simp only [zv,zx]
  refine wpAnyH_done (by kernel_rfl) ?_ _
  obtain ⟨w10,hw10⟩: ∃w10,w10=w7.setCell ⟨bc,1,none⟩ (.slice (some ⟨g',0,none⟩) (k+1) c'):=⟨_,rfl⟩
  rw [←hw10] at z10 HO10 HK10 ⊢
  clear hw10 cc ff z7 HO7 HK7 HK6 HO6 z6 RB HK0 HO0 z0
  go_wp2_with fail
  obtain ⟨w11,hmu,hkb,hbut⟩:=zT8 (w:=w10.drewN 1) (bm:=bm) (ord:=(ord.eraseIdx 0) ++ [(x0,x1,x2)]) (zKN.sub (show zKN (w10.drewN 1) bm (ord.eraseIdx 0) from HK10.out) (fun y hy=>List.mem_append_left _ hy)) x0 x1 x2 HQ.out.1 (by simp)
  rw [HQ.out.2] at hmu
  have hmu':(Instr.mapUpdate 118 (.map (some bm)) (.agg #[.int .u64 x0, .int .i64 x1, .int .i64 x2]) (.agg #[.int .i64 q0, .int .i64 q1, .int .i64 q2])).run Tryz.prog w10.drew= .ok () w11:=hmu
  have z0:Hid (zAI (w10.drewN 1) bc 121 #[.int .i64 room,(.slice (some ⟨g',0,none⟩) (k+1) c'), .map (some bm), .int .i64 h, .int .i64 m]∧zAI (w10.drewN 1) w.heap.size 75 #[.int .u64 x0, .int .i64 x1, .int .i64 x2]∧zAI (w10.drewN 1) (w.heap.size+1) 36 #[.int .i64 q0, .int .i64 q1, .int .i64 q2]∧zX7 (CF bc bm (.slice (some ⟨g,0,none⟩) n c)) w (w10.drewN 1)∧w.heap.size+2≤(w10.drewN 1).heap.size):=zy ⟨z10.out.1,z10.out.2.1,z10.out.2.2.1,z10.out.2.2.2.1.trans (zX7.of_below (S:=fun _=>False) (below_drewN (Below.refl _ _) 1)) (fun _ _ h=>h.elim),z10.out.2.2.2.2⟩
  have HO0:Hid ((w10.drewN 1).ownsRow B 75 3 (.slice (some ⟨g',0,none⟩) (k+1) c') (k+1) (zW1 ((ord.eraseIdx 0) ++ [(x0,x1,x2)]))):=zy HO10.out
  have hbm:=HCa.out.book.lt
  have z11:Hid (zAI w11 bc 121 #[.int .i64 room,(.slice (some ⟨g',0,none⟩) (k+1) c'), .map (some bm), .int .i64 h, .int .i64 m]∧zAI w11 w.heap.size 75 #[.int .u64 x0, .int .i64 x1, .int .i64 x2]∧zAI w11 (w.heap.size+1) 36 #[.int .i64 q0, .int .i64 q1, .int .i64 q2]∧zX7 (CF bc bm (.slice (some ⟨g,0,none⟩) n c)) w w11∧w.heap.size+2≤w11.heap.size):=zy ⟨(hbut.block _ z0.out.1.lt HCa.out.ne_map).trans z0.out.1,(hbut.block _ z0.out.2.1.lt (by omega)).trans z0.out.2.1,(hbut.block _ z0.out.2.2.1.lt (by omega)).trans z0.out.2.2.1,z0.out.2.2.2.1.trans (zX7.of_but (S:=fun k=>k=bm) hbut rfl) (fun _ _ h=> .inr (.inl h)),Nat.le_trans z0.out.2.2.2.2 hbut.size⟩
  have HO11:Hid (w11.ownsRow B 75 3 (.slice (some ⟨g',0,none⟩) (k+1) c') (k+1) (zW1 ((ord.eraseIdx 0) ++ [(x0,x1,x2)]))):=zy (zXC HO0.out fun k hk=>hbut.block k (HO0.out.lt k hk).2 (HNe.out k hk).2)
  have HKb:=zy hkb
  clear hmu hkb hbut hbm z10 HO10 HK10
  refine wp_region_held_drew (S:=fun wz=>wz.cell? ⟨bc,2,none⟩=some (.map (some bm))∧zAI wz w.heap.size 75 #[.int .u64 x0, .int .i64 x1, .int .i64 x2]∧zAI wz (w.heap.size+1) 36 #[.int .i64 q0, .int .i64 q1, .int .i64 q2]) (by kernel_rfl) (⟨z0.out.1.cell (i:=2) rfl,z0.out.2.1,z0.out.2.2.1⟩) (fun hHeld=>?_)
  refine zj (i:=0) (v:=?_) rfl (by kernel_rfl) (fun _ _ _=>id) (by rfl) ?_ ⟨z0.out.1.cell (i:=2) rfl,z0.out.2.1,z0.out.2.2.1⟩ ?_
  rotate_left
  ·intro w h;go_simp;try with_reducible rfl
  try simp only [zv,zx]
  refine zj (i:=1) (v:=?_) rfl (by kernel_rfl) (fun _ _ _=>id) (by rfl) ?_ ⟨z0.out.1.cell (i:=2) rfl,z0.out.2.1,z0.out.2.2.1⟩ ?_
  rotate_left
  ·intro w h;go_simp;try with_reducible rfl
  try simp only [zv,zx]
  refine zj (i:=2) (v:=?_) rfl (by kernel_rfl) (fun _ _ _=>id) (by rfl) ?_ ⟨z0.out.1.cell (i:=2) rfl,z0.out.2.1,z0.out.2.2.1⟩ ?_
  rotate_left
  ·intro w h;go_simp;try with_reducible rfl
  try simp only [zv,zx]
  refine zj (i:=3) (v:=?_) rfl (by kernel_rfl) (fun _ _ _=>id) (by rfl) ?_ ⟨z0.out.1.cell (i:=2) rfl,z0.out.2.1,z0.out.2.2.1⟩ ?_
  rotate_left
  ·intro w h;go_simp;try with_reducible rfl
  try simp only [zv,zx]
  refine zQ (i:=4) rfl (by kernel_rfl) (fun _ _ _=>id) (zXh (by rfl) _ _ rfl _ rfl _ _ _ (fun wz h=>h.2.1) Tryz.underlying75 rfl (by exact zX1)) ⟨z0.out.1.cell (i:=2) rfl,z0.out.2.1,z0.out.2.2.1⟩ ?_
  try simp only [zv,zx]
  refine zQ (i:=5) rfl (by kernel_rfl) (fun _ _ _=>id) (zXh (by rfl) _ _ rfl _ rfl _ _ _ (fun wz h=>h.2.2) Tryz.underlying36 rfl (by exact zT5)) ⟨z0.out.1.cell (i:=2) rfl,z0.out.2.1,z0.out.2.2.1⟩ ?_
  try simp only [zv,zx]
  refine wpAnyH_ready (rs:= [6]) (by kernel_rfl) (by simp) ?_
  refine AllReadyH.cons rfl (fun K hK=>?_) AllReadyH.nil
  try simp only [zx]
  rw [if_pos (by rfl)]
  go_wp2_with fail
  refine hK.out _ _ (⟨z11.out.1.cell (i:=2) rfl,z11.out.2.1,z11.out.2.2.1⟩) (fun _=>?_)
  clear hK K
  try simp only [zv,zx]
  refine wpAnyH_done (by kernel_rfl) ?_ _
  go_wp2
  go_end0
  have hln:((ord.eraseIdx 0) ++ [(x0,x1,x2)]).length=k+1:=by rw [List.length_append,HN.out];rfl
  exact ⟨rfl,(.slice (some ⟨g',0,none⟩) (k+1) c'),(ord.eraseIdx 0) ++ [(x0,x1,x2)],⟨⟨h,m,z11.out.1⟩,by rw [hln];exact HO11.out,HKb.out,by rw [hln];omega,HCa.out.room0,HCa.out.room1,HCa.out.bc0,HCa.out.bm0⟩,z11.out.2.2.2.1,HB7.out⟩
theorem zXL {w:World} {B bc bm:Nat} {V:Value} {ord:List PlT} (hC:zXA w B bc bm V ord 0) (x0 x1 x2 q0 q1 q2:Int):
  Calls Tryz.prog 140 #[.pointer (some ⟨bc,0,none⟩), .agg #[.int .u64 x0, .int .i64 x1, .int .i64 x2], .agg #[.int .i64 q0, .int .i64 q1, .int .i64 q2]] w fun e w'=>e= .returned (.tuple #[])∧Below w.heap.size w w':=by
 obtain ⟨h,m,hr⟩:=hC.row
 have R:=zy (lay2 w 75 36 #[.int .u64 x0, .int .i64 x1, .int .i64 x2] #[.int .i64 q0, .int .i64 q1, .int .i64 q2])
 have c0:=(hr.keep R.out.2.2).cell (i:=0) (v:= .int .i64 0) rfl
 clear hr hC
 go_enter Tryz.func140,Tryz.ntmps140
 go_wp2
 refine bodyPost_ret (results_none rfl _ _ _) rfl ?_
 exact ⟨rfl,R.out.2.2⟩
end

section
theorem zXJ {w:World} {B bc bm:Nat} {V:Value} {ord:List PlT} {room:Int} (hC:zXA w B bc bm V ord room) (x0 x1 x2 q0 q1 q2:Int) (hL: ∀wz:World,wz.heap[bm]? =w.heap[bm]? →(Instr.lookup 118 (.map (some bm)) (keyV x0 x1 x2) true).run Tryz.prog wz= .ok (.tuple #[.agg (zD7 (0,0,0)), .bool false]) wz)
  (he:chE x0 x1 x2=0) (hq:chP x0 x1 x2=(q0,q1,q2)):
  Calls Tryz.prog 140 #[.pointer (some ⟨bc,0,none⟩), .agg #[.int .u64 x0, .int .i64 x1, .int .i64 x2], .agg #[.int .i64 q0, .int .i64 q1, .int .i64 q2]] w fun e w'=>e= .returned (.tuple #[])∧ ∃V' ord',zXA w' B bc bm V' ord' room∧zX7 (CF bc bm V) w w'∧(∀k,V'.ownBlock=some k→V.ownBlock=some k∨w.heap.size≤k):=by
 by_cases h0:room=0
 ·subst h0
  exact (zXL hC x0 x1 x2 q0 q1 q2).mono fun e w' ⟨he,hb⟩=>⟨he,V,ord,hC.keep hb,zX7.of_below hb,fun k hk=> .inl hk⟩
 ·have hp:=hC.room0
  have hl:=hC.len
  by_cases hf:(ord.length:Int)=room
  ·obtain ⟨g,c,rfl⟩: ∃g c,V= .slice (some ⟨g,0,none⟩) ord.length c:=by
    rcases hC.own.2 with ⟨_,h1⟩|⟨g,c,cur,e,_⟩
    ·omega
    ·exact ⟨g,c,e⟩
   exact zXK hC rfl x0 x1 x2 q0 q1 q2 hL he hq hf (by omega)
  ·obtain ⟨A,c,rfl⟩: ∃A c,V= .slice A ord.length c:=by
    rcases hC.own.2 with ⟨e,h1⟩|⟨g,c,cur,e,_⟩
    ·exact ⟨none,0,by rw [e,h1]⟩
    ·exact ⟨_,c,e⟩
   exact zXF hC rfl x0 x1 x2 q0 q1 q2 hL he hq hf
theorem zXI {w:World} {B bc bm:Nat} {V0:Value} {ord:List PlT} {room:Int} (hC:zXA w B bc bm V0 ord room) {q:Option Addr} {p g:Int} (hBw:B≤w.heap.size) (hFd:Fd w B (.pointer q) p g) (n k:Int)
  (hL: ∀wz:World,wz.heap[bm]? =w.heap[bm]? →(Instr.lookup 118 (.map (some bm)) (keyV p n k) true).run Tryz.prog wz= .ok (.tuple #[.agg (zD7 (chP p n k)), .bool true]) wz) (he:chE p n k=0) (hin:(p,n,k) ∈ ord):
  Calls Tryz.prog 82 #[.pointer (some ⟨bc,0,none⟩), .pointer q, .int .i64 n, .int .i64 k] w fun e w'=>e= .returned (.tuple #[.agg (zD7 (chP p n k)), .int .i64 (chE p n k)])∧ ∃ord',zXA w' B bc bm V0 ord' room∧zX7 (CF bc bm V0) w w':=by
 have R1:=zy (lay1 w 36 #[.int .i64 0, .int .i64 0, .int .i64 0])
 have HP:=zy (zG6 (hFd.below ((R1.out.2).mono hBw)))
 have R2:=zy (lay2 w 36 75 #[.int .i64 0, .int .i64 0, .int .i64 0] #[.int .u64 0, .int .i64 0, .int .i64 0])
 have R3:=zy (R2.out.2.1.setRow #[.int .u64 p, .int .i64 n, .int .i64 k])
 have hB2:=below_setRow R2.out.2.2 (show w.heap.size≤w.heap.size+1 by omega) #[.int .u64 p, .int .i64 n, .int .i64 k]
 have Z:Hid (zXA (((w.alloc (.cells #[.int .i64 0, .int .i64 0, .int .i64 0] 36)).alloc (.cells #[.int .u64 0, .int .i64 0, .int .i64 0] 75)).setRow (w.heap.size+1) #[.int .u64 p, .int .i64 n, .int .i64 k]) B bc bm V0 ord room∧zX7 (CF bc bm V0) w (((w.alloc (.cells #[.int .i64 0, .int .i64 0, .int .i64 0] 36)).alloc (.cells #[.int .u64 0, .int .i64 0, .int .i64 0] 75)).setRow (w.heap.size+1) #[.int .u64 p, .int .i64 n, .int .i64 k])∧zAI (((w.alloc (.cells #[.int .i64 0, .int .i64 0, .int .i64 0] 36)).alloc (.cells #[.int .u64 0, .int .i64 0, .int .i64 0] 75)).setRow (w.heap.size+1) #[.int .u64 p, .int .i64 n, .int .i64 k]) w.heap.size 36 #[.int .i64 0, .int .i64 0, .int .i64 0]∧zAI (((w.alloc (.cells #[.int .i64 0, .int .i64 0, .int .i64 0] 36)).alloc (.cells #[.int .u64 0, .int .i64 0, .int .i64 0] 75)).setRow (w.heap.size+1) #[.int .u64 p, .int .i64 n, .int .i64 k]) (w.heap.size+1) 75 #[.int .u64 p, .int .i64 n, .int .i64 k]∧w.heap.size+2≤(((w.alloc (.cells #[.int .i64 0, .int .i64 0, .int .i64 0] 36)).alloc (.cells #[.int .u64 0, .int .i64 0, .int .i64 0] 75)).setRow (w.heap.size+1) #[.int .u64 p, .int .i64 n, .int .i64 k]).heap.size):=zy ⟨hC.keep hB2,zX7.of_below hB2,R2.out.1.setRowOther _ _ (by omega),R3.out,by simp⟩
 have KB:Hid (∀W W' V o,(zXA W B bc bm V o room∧zX7 (CF bc bm V0) w W∧zAI W w.heap.size 36 #[.int .i64 0, .int .i64 0, .int .i64 0]∧zAI W (w.heap.size+1) 75 #[.int .u64 p, .int .i64 n, .int .i64 k]∧w.heap.size+2≤W.heap.size)→Below W.heap.size W W'→(zXA W' B bc bm V o room∧zX7 (CF bc bm V0) w W'∧zAI W' w.heap.size 36 #[.int .i64 0, .int .i64 0, .int .i64 0]∧zAI W' (w.heap.size+1) 75 #[.int .u64 p, .int .i64 n, .int .i64 k]∧w.heap.size+2≤W'.heap.size)):=zy (fun W W' V o h hY=>⟨h.1.keep hY,h.2.1.trans (zX7.of_below (S:=fun _=>False) hY) (fun _ _ h=>h.elim),h.2.2.1.keep hY,h.2.2.2.1.keep hY,Nat.le_trans h.2.2.2.2 hY.size⟩)
 have hcf:=hC.cf
 obtain ⟨⟨c0,c1,c2⟩,hc⟩: ∃c,c=chP p n k:=⟨_,rfl⟩
 rw [←hc] at hL ⊢
 rw [he]
 have HG:Hid (∀W,zXA W B bc bm V0 ord room→W.heap[bm]? =w.heap[bm]? →Calls Tryz.prog 139 #[.pointer (some ⟨bc,0,none⟩), .agg #[.int .u64 p, .int .i64 n, .int .i64 k]] W fun e w'=> ∃ord',zXA w' B bc bm V0 ord' room∧zX7 (CF bc bm V0) W w'∧e= .returned (.tuple #[.agg (zD7 (c0,c1,c2)), .bool true])):=zy (fun W hW hm=>
  zXE hW p n k c0 c1 c2 (fun wz hz=>hL wz (hz.trans hm)) hin)
 have HG':=zy (HG.out _ Z.out.1 (hB2.block bm hC.book.lt))
 have HCF:=zy hcf
 have hCF:Hid (bc<w.heap.size∧ ∀k,k=bm∨V0.ownBlock=some k→k<w.heap.size):=zy ⟨(hcf bc (.inl rfl)).2,fun k hk=>(hcf k (.inr hk)).2⟩
 clear hL hc he hin HG hFd hB2 hcf hC R1
 go_enter Tryz.func82,Tryz.ntmps82
 go_wp2_with fail
 refine HP.out.mono ?_
 rintro e w1 ⟨rfl,rfl⟩
 go_wp2_with (first|(refine wpList_store_row rfl _ _ _ rfl _ _ rfl rfl _ _ (R2.out.2.1) (by exact zT4) rfl (zJR _ _ _) ?_)|(refine wpList_load_row rfl _ _ rfl _ rfl _ _ _ _ (R3.out) Tryz.underlying75 rfl (by exact zT4) ?_))
 refine HG'.out.mono ?_
 rintro e w2 ⟨ord',hC2,hK2,rfl⟩
 have Y:Hid (zXA w2 B bc bm V0 ord' room∧zX7 (CF bc bm V0) w w2∧zAI w2 w.heap.size 36 #[.int .i64 0, .int .i64 0, .int .i64 0]∧zAI w2 (w.heap.size+1) 75 #[.int .u64 p, .int .i64 n, .int .i64 k]∧w.heap.size+2≤w2.heap.size):=zy ⟨hC2,Z.out.2.1.trans hK2 (fun _ _ h=>h),hK2.row Z.out.2.2.1 (fun h=>by have:=(HCF.out _ h).2;omega),hK2.row Z.out.2.2.2.1 (fun h=>by have:=(HCF.out _ h).2;omega),Nat.le_trans Z.out.2.2.2.2 hK2.size⟩
 clear hC2 hK2 Z HG' R2 R3 HP HCF
 simp only [zD7]
 have L2:=zy (lay1 w2 36 #[.int .i64 0, .int .i64 0, .int .i64 0])
 have hB3:=below_setRow L2.out.2 (Nat.le_refl _) #[.int .i64 c0, .int .i64 c1, .int .i64 c2]
 have Y3:=zy (KB.out _ _ _ _ Y.out hB3)
 have P3:=zy (L2.out.1.setRow #[.int .i64 c0, .int .i64 c1, .int .i64 c2])
 have R4:=zy (Y3.out.2.2.1.setRow #[.int .i64 c0, .int .i64 c1, .int .i64 c2])
 clear hB3
 go_wp2_with (first|(refine wpList_store_row rfl _ _ _ rfl _ _ rfl rfl _ _ (L2.out.1) (by exact zT5) rfl (zOs _ _ _) ?_)|(refine wpList_load_row rfl _ _ rfl _ rfl _ _ _ _ (P3.out) Tryz.underlying36 rfl (by exact zT5) ?_)|(refine wpList_store_row rfl _ _ _ rfl _ _ rfl rfl _ _ (Y3.out.2.2.1) (by exact zT5) rfl (zOs _ _ _) ?_))
 refine bodyPost_ret (zR9 rfl _ _ _ _ _ _ rfl R4.out Tryz.underlying36 rfl (by exact zT5)) (by rfl) ?_
 obtain ⟨h',m',hr'⟩:=Y3.out.1.row
 have hbc:=hCF.out.1
 refine ⟨rfl,ord',Y3.out.1.upd ⟨h',m',hr'.setRowOther _ _ (by omega)⟩ (fun k hk=>setRow_other _ _ _ _ (by have:=hCF.out.2 k hk;omega)),⟨Y3.out.2.1.os,Y3.out.2.1.tape,Y3.out.2.1.output,Nat.le_trans Y3.out.2.1.size (by simp),fun k hk hn=>(setRow_other _ _ _ _ (by omega)).trans (Y3.out.2.1.block k hk hn)⟩⟩
theorem zXN {w:World} {B bc bm:Nat} {V0:Value} {ord:List PlT} {room:Int} (hC:zXA w B bc bm V0 ord room) {q:Option Addr} {p g:Int} (hBw:B≤w.heap.size) (hFd:Fd w B (.pointer q) p g) (n k:Int) (n0: -9223372036854775808≤n) (n1:n≤9223372036854775807)
  (hL: ∀wz:World,wz.heap[bm]? =w.heap[bm]? →(Instr.lookup 118 (.map (some bm)) (keyV p n k) true).run Tryz.prog wz= .ok (.tuple #[.agg (zD7 (0,0,0)), .bool false]) wz):
  Calls Tryz.prog 82 #[.pointer (some ⟨bc,0,none⟩), .pointer q, .int .i64 n, .int .i64 k] w fun e w'=>e= .returned (.tuple #[.agg (zD7 (chP p n k)), .int .i64 (chE p n k)])∧ ∃V' ord',zXA w' B bc bm V' ord' room∧zX7 (CF bc bm V0) w w'∧(∀k,V'.ownBlock=some k→V0.ownBlock=some k∨w.heap.size≤k):=by
 have R1:=zy (lay1 w 36 #[.int .i64 0, .int .i64 0, .int .i64 0])
 have HP:=zy (zG6 (hFd.below ((R1.out.2).mono hBw)))
 have R2:=zy (lay2 w 36 75 #[.int .i64 0, .int .i64 0, .int .i64 0] #[.int .u64 0, .int .i64 0, .int .i64 0])
 have R3:=zy (R2.out.2.1.setRow #[.int .u64 p, .int .i64 n, .int .i64 k])
 have hB2:=below_setRow R2.out.2.2 (show w.heap.size≤w.heap.size+1 by omega) #[.int .u64 p, .int .i64 n, .int .i64 k]
 have Z:Hid (zXA (((w.alloc (.cells #[.int .i64 0, .int .i64 0, .int .i64 0] 36)).alloc (.cells #[.int .u64 0, .int .i64 0, .int .i64 0] 75)).setRow (w.heap.size+1) #[.int .u64 p, .int .i64 n, .int .i64 k]) B bc bm V0 ord room∧zX7 (CF bc bm V0) w (((w.alloc (.cells #[.int .i64 0, .int .i64 0, .int .i64 0] 36)).alloc (.cells #[.int .u64 0, .int .i64 0, .int .i64 0] 75)).setRow (w.heap.size+1) #[.int .u64 p, .int .i64 n, .int .i64 k])∧zAI (((w.alloc (.cells #[.int .i64 0, .int .i64 0, .int .i64 0] 36)).alloc (.cells #[.int .u64 0, .int .i64 0, .int .i64 0] 75)).setRow (w.heap.size+1) #[.int .u64 p, .int .i64 n, .int .i64 k]) w.heap.size 36 #[.int .i64 0, .int .i64 0, .int .i64 0]∧zAI (((w.alloc (.cells #[.int .i64 0, .int .i64 0, .int .i64 0] 36)).alloc (.cells #[.int .u64 0, .int .i64 0, .int .i64 0] 75)).setRow (w.heap.size+1) #[.int .u64 p, .int .i64 n, .int .i64 k]) (w.heap.size+1) 75 #[.int .u64 p, .int .i64 n, .int .i64 k]∧w.heap.size+2≤(((w.alloc (.cells #[.int .i64 0, .int .i64 0, .int .i64 0] 36)).alloc (.cells #[.int .u64 0, .int .i64 0, .int .i64 0] 75)).setRow (w.heap.size+1) #[.int .u64 p, .int .i64 n, .int .i64 k]).heap.size):=zy ⟨hC.keep hB2,zX7.of_below hB2,R2.out.1.setRowOther _ _ (by omega),R3.out,by simp⟩
 have KB:Hid (∀W W' V o,(zXA W B bc bm V o room∧zX7 (CF bc bm V0) w W∧zAI W w.heap.size 36 #[.int .i64 0, .int .i64 0, .int .i64 0]∧zAI W (w.heap.size+1) 75 #[.int .u64 p, .int .i64 n, .int .i64 k]∧w.heap.size+2≤W.heap.size)→Below W.heap.size W W'→(zXA W' B bc bm V o room∧zX7 (CF bc bm V0) w W'∧zAI W' w.heap.size 36 #[.int .i64 0, .int .i64 0, .int .i64 0]∧zAI W' (w.heap.size+1) 75 #[.int .u64 p, .int .i64 n, .int .i64 k]∧w.heap.size+2≤W'.heap.size)):=zy (fun W W' V o h hY=>⟨h.1.keep hY,h.2.1.trans (zX7.of_below (S:=fun _=>False) hY) (fun _ _ h=>h.elim),h.2.2.1.keep hY,h.2.2.2.1.keep hY,Nat.le_trans h.2.2.2.2 hY.size⟩)
 have hcf:=hC.cf
 have HG:Hid (∀W,zXA W B bc bm V0 ord room→W.heap[bm]? =w.heap[bm]? →Calls Tryz.prog 139 #[.pointer (some ⟨bc,0,none⟩), .agg #[.int .u64 p, .int .i64 n, .int .i64 k]] W fun e w'=>zXA w' B bc bm V0 ord room∧zX7 (CF bc bm V0) W w'∧w'.heap[bm]? =W.heap[bm]? ∧e= .returned (.tuple #[.agg (zD7 (0,0,0)), .bool false])):=zy (fun W hW hm=>
  zXD hW p n k (fun wz hz=>hL wz (hz.trans hm)))
 have hm0:=hB2.block bm hC.book.lt
 have HG':=zy (HG.out _ Z.out.1 hm0)
 have HM0:=zy hm0
 have HCF:=zy hcf
 have hCF:Hid (bc<w.heap.size∧bm<w.heap.size):=zy ⟨(hcf bc (.inl rfl)).2,(hcf bm (.inr (.inl rfl))).2⟩
 have HF:Hid (∀W,zX7 (CF bc bm V0) w W→Fd W W.heap.size (.pointer q) p g):=zy (fun W hK=>(hFd.below (hK.below hBw (fun k hk=>(hcf k hk).1))).mono (Nat.le_trans hBw hK.size))
 have HPu:Hid (∀W c0 c1 c2,zXA W B bc bm V0 ord room→W.heap[bm]? =w.heap[bm]? →chE p n k=0→chP p n k=(c0,c1,c2)→Calls Tryz.prog 140 #[.pointer (some ⟨bc,0,none⟩), .agg #[.int .u64 p, .int .i64 n, .int .i64 k], .agg #[.int .i64 c0, .int .i64 c1, .int .i64 c2]] W fun e w'=>e= .returned (.tuple #[])∧ ∃V' ord',zXA w' B bc bm V' ord' room∧zX7 (CF bc bm V0) W w'∧(∀k,V'.ownBlock=some k→V0.ownBlock=some k∨W.heap.size≤k)):=zy (fun W c0 c1 c2 hW hm he hc=>
  zXJ hW p n k c0 c1 c2 (fun wz hz=>hL wz (hz.trans hm)) he hc)
 clear hL HG hFd hB2 hcf hC R1 hm0
 go_enter Tryz.func82,Tryz.ntmps82
 go_wp2_with fail
 refine HP.out.mono ?_
 rintro e w1 ⟨rfl,rfl⟩
 go_wp2_with (first|(refine wpList_store_row rfl _ _ _ rfl _ _ rfl rfl _ _ (R2.out.2.1) (by exact zT4) rfl (zJR _ _ _) ?_)|(refine wpList_load_row rfl _ _ rfl _ rfl _ _ _ _ (R3.out) Tryz.underlying75 rfl (by exact zT4) ?_))
 refine HG'.out.mono ?_
 rintro e w2 ⟨hC2,hK2,hM2,rfl⟩
 have Y:Hid (zXA w2 B bc bm V0 ord room∧zX7 (CF bc bm V0) w w2∧zAI w2 w.heap.size 36 #[.int .i64 0, .int .i64 0, .int .i64 0]∧zAI w2 (w.heap.size+1) 75 #[.int .u64 p, .int .i64 n, .int .i64 k]∧w.heap.size+2≤w2.heap.size):=zy ⟨hC2,Z.out.2.1.trans hK2 (fun _ _ h=>h),hK2.row Z.out.2.2.1 (fun h=>by have:=(HCF.out _ h).2;omega),hK2.row Z.out.2.2.2.1 (fun h=>by have:=(HCF.out _ h).2;omega),Nat.le_trans Z.out.2.2.2.2 hK2.size⟩
 have HM2:=zy (hM2.trans HM0.out)
 clear hC2 hK2 hM2 Z HG' R2 R3 HP HM0
 simp only [zD7]
 have L2:=zy (lay1 w2 36 #[.int .i64 0, .int .i64 0, .int .i64 0])
 have hB3:=below_setRow L2.out.2 (Nat.le_refl _) #[.int .i64 0, .int .i64 0, .int .i64 0]
 have Y3:=zy (KB.out _ _ _ _ Y.out hB3)
 have HM3:=zy ((hB3.block bm (Nat.lt_of_lt_of_le hCF.out.2 Y.out.2.1.size)).trans HM2.out)
 clear hB3 Y HM2
 go_wp2_with (first|(refine wpList_store_row rfl _ _ _ rfl _ _ rfl rfl _ _ (L2.out.1) (by exact zT5) rfl (zOs _ _ _) ?_))
 refine (zEr (HF.out _ Y3.out.2.1) n k n0 n1).mono ?_
 rintro e w4 ⟨rfl,hB4⟩
 have Y4:=zy (KB.out _ _ _ _ Y3.out hB4)
 have HM4:=zy ((hB4.block bm (Nat.lt_of_lt_of_le hCF.out.2 Y3.out.2.1.size)).trans HM3.out)
 obtain ⟨⟨c0,c1,c2⟩,hc⟩: ∃c,c=chP p n k:=⟨_,rfl⟩
 obtain ⟨er,he⟩: ∃er,er=chE p n k:=⟨_,rfl⟩
 rw [←hc,←he]
 have HC:=zy hc
 have HE:=zy he
 clear hB4 Y3 HM3 L2 hc he HF
 simp only [zD7]
 have L4:=zy (lay1 w4 36 #[.int .i64 0, .int .i64 0, .int .i64 0])
 have hB5:=below_setRow L4.out.2 (Nat.le_refl _) #[.int .i64 c0, .int .i64 c1, .int .i64 c2]
 have Y5:=zy (KB.out _ _ _ _ Y4.out hB5)
 have P5:=zy (L4.out.1.setRow #[.int .i64 c0, .int .i64 c1, .int .i64 c2])
 have HM5:=zy ((hB5.block bm (Nat.lt_of_lt_of_le hCF.out.2 Y4.out.2.1.size)).trans HM4.out)
 have h4:=Y4.out.2.2.2.2
 clear hB5 Y4 HM4
 by_cases h0:er=0
 ·have t0:(er == 0)=true:=by simp [h0]
  have HP5:=zy (HPu.out _ c0 c1 c2 Y5.out.1 HM5.out (by rw [←HE.out];exact h0) HC.out.symm)
  clear h0 HPu
  go_wp2_with (first|(refine wpList_store_row rfl _ _ _ rfl _ _ rfl rfl _ _ (L4.out.1) (by exact zT5) rfl (zOs _ _ _) ?_)|(refine wpList_load_row rfl _ _ rfl _ rfl _ _ _ _ (Y5.out.2.2.2.1) Tryz.underlying75 rfl (by exact zT4) ?_)|(refine wpList_load_row rfl _ _ rfl _ rfl _ _ _ _ (P5.out) Tryz.underlying36 rfl (by exact zT5) ?_))
  refine HP5.out.mono ?_
  rintro e w6 ⟨rfl,V',ord',hC6,hK6,hV6⟩
  have P6:=zy (hK6.row P5.out (fun h=>by have:=(HCF.out _ h).2;omega))
  have A6:=zy (hK6.row Y5.out.2.2.1 (fun h=>by have:=(HCF.out _ h).2;omega))
  have HK6:Hid (zX7 (CF bc bm V0) w w6):=zy (Y5.out.2.1.trans hK6 (fun _ _ h=>h))
  have HC6:=zy hC6
  have HV6:Hid (∀k,V'.ownBlock=some k→V0.ownBlock=some k∨w4.heap.size+1≤k):=zy (fun k hk=>(hV6 k hk).imp id (fun h=>by simpa using h))
  have A7:=zy (A6.out.setRow #[.int .i64 c0, .int .i64 c1, .int .i64 c2])
  clear hC6 hK6 hV6 P5 L4 HP5 Y5 HM5
  go_wp2_with (first|(refine wpList_load_row rfl _ _ rfl _ rfl _ _ _ _ (P6.out) Tryz.underlying36 rfl (by exact zT5) ?_)|(refine wpList_store_row rfl _ _ _ rfl _ _ rfl rfl _ _ (A6.out) (by exact zT5) rfl (zOs _ _ _) ?_))
  refine bodyPost_ret (zR9 rfl _ _ _ _ _ _ rfl A7.out Tryz.underlying36 rfl (by exact zT5)) (by rfl) ?_
  obtain ⟨h',m',hr'⟩:=HC6.out.row
  have hbc:=hCF.out
  refine ⟨by rw [←HC.out,←HE.out];rfl,V',ord',HC6.out.upd ⟨h',m',hr'.setRowOther _ _ (by omega)⟩ (fun k hk=>setRow_other _ _ _ _ ?_),⟨HK6.out.os,HK6.out.tape,HK6.out.output,Nat.le_trans HK6.out.size (by simp),fun k hk hn=>(setRow_other _ _ _ _ (by omega)).trans (HK6.out.block k hk hn)⟩,fun k hk=>(HV6.out k hk).imp id (fun h=>by omega)⟩
  rcases hk with rfl|hk
  ·omega
  ·rcases HV6.out k hk with h|h
   ·have:=(HCF.out k (.inr (.inr h))).2;omega
   ·omega
 ·have t0:(er == 0)=false:=by simp [h0]
  have A7:=zy (Y5.out.2.2.1.setRow #[.int .i64 c0, .int .i64 c1, .int .i64 c2])
  clear h0 HPu
  go_wp2_with (first|(refine wpList_store_row rfl _ _ _ rfl _ _ rfl rfl _ _ (L4.out.1) (by exact zT5) rfl (zOs _ _ _) ?_)|(refine wpList_load_row rfl _ _ rfl _ rfl _ _ _ _ (P5.out) Tryz.underlying36 rfl (by exact zT5) ?_)|(refine wpList_store_row rfl _ _ _ rfl _ _ rfl rfl _ _ (Y5.out.2.2.1) (by exact zT5) rfl (zOs _ _ _) ?_))
  refine bodyPost_ret (zR9 rfl _ _ _ _ _ _ rfl A7.out Tryz.underlying36 rfl (by exact zT5)) (by rfl) ?_
  obtain ⟨h',m',hr'⟩:=Y5.out.1.row
  have hbc:=hCF.out
  refine ⟨by rw [←HC.out,←HE.out];rfl,V0,ord,Y5.out.1.upd ⟨h',m',hr'.setRowOther _ _ (by omega)⟩ (fun k hk=>setRow_other _ _ _ _ (hk.elim (fun h=>by omega) (fun h=>by have:=(HCF.out k (.inr (.inr h))).2;omega))),⟨Y5.out.2.1.os,Y5.out.2.1.tape,Y5.out.2.1.output,Nat.le_trans Y5.out.2.1.size (by simp),fun k hk hn=>(setRow_other _ _ _ _ (by omega)).trans (Y5.out.2.1.block k hk hn)⟩,fun k hk=> .inl hk⟩
theorem zXM {w:World} {B bc bm:Nat} {V0:Value} {ord:List PlT} {room:Int} (hC:zXA w B bc bm V0 ord room) {q:Option Addr} {p g:Int} (hBw:B≤w.heap.size) (hFd:Fd w B (.pointer q) p g) (n k:Int) (n0: -9223372036854775808≤n) (n1:n≤9223372036854775807):
  Calls Tryz.prog 82 #[.pointer (some ⟨bc,0,none⟩), .pointer q, .int .i64 n, .int .i64 k] w fun e w'=>e= .returned (.tuple #[.agg (zD7 (chP p n k)), .int .i64 (chE p n k)])∧ ∃V' ord',zXA w' B bc bm V' ord' room∧zX7 (CF bc bm V0) w w'∧(∀k,V'.ownBlock=some k→V0.ownBlock=some k∨w.heap.size≤k):=by
 rcases zXB hC.book p n k with hL|⟨hL,he,hin⟩
 ·exact zXN hC hBw hFd n k n0 n1 hL
 ·exact (zXI hC hBw hFd n k hL he hin).mono fun e w' ⟨h1,o,h2,h3⟩=>⟨h1,V0,o,h2,h3,fun k hk=> .inl hk⟩
end
end Go.Proofs.YtmalmijdjhkklaaGreat
