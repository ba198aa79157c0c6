/- slices.Clone at powers; proof.Claim; field.New. -/
import Derived.Test.YtmalmijdjhkklaaGreatWMontToModB
import Derived.Test.YtmalmijdjhkklaaGreatWContToSame21
import Derived.Test.YtmalmijdjhkklaaGreatWSieveRPad
set_option linter.unusedVariables false
set_option linter.unusedSimpArgs false
set_option linter.unusedSectionVars false
namespace Go.Proofs.YtmalmijdjhkklaaGreat
section
/- slices.Clone at powers; proof.Claim; field.New. -/
open Go.RowKit
def zO4 (fs:List (Int×Int)):List Value:=fs.flatMap fun x=> [.int .u64 x.1, .int .i64 x.2]
theorem zO8 (fs:List (Int×Int)):(zO4 fs).length=fs.length*2:=by
 induction fs with
 | nil=>rfl
 | cons x t ih=>simp only [zO4,List.flatMap_cons,List.length_append] at *;simp [ih];omega
theorem zO6 (fs:List (Int×Int)) (b o:Nat) (w:World) (h: ∀j,j<fs.length→w.cell? ⟨b,o+j*2,none⟩=some (.int .u64 (fs.getD j (0,0)).1)∧w.cell? ⟨b,o+j*2+1,none⟩=some (.int .i64 (fs.getD j (0,0)).2)):
  ∀j u,(zO4 fs)[j]? =some u→w.cell? ⟨b,o+j,none⟩=some u:=by
 induction fs generalizing o with
 | nil=>intro j u hj;simp [zO4] at hj
 | cons x t ih=>
  have e:zO4 (x :: t)= .int .u64 x.1 :: .int .i64 x.2 :: zO4 t:=by simp [zO4]
  intro j u hj
  rw [e] at hj
  have h0:=h 0 (by simp)
  match j,hj with
  | 0,hj=>simp at hj;subst hj;simpa using h0.1
  | 1,hj=>simp at hj;subst hj;simpa using h0.2
  | j+2,hj=>
   have:=ih (o+2) (fun j hj=>by
    have:=h (j+1) (by simpa using hj)
    simp only [List.getD_cons_succ] at this
    rw [show o+2+j*2=o+(j+1)*2 by omega]
    exact this) j u (by simpa using hj)
   rw [show o+(j+2)=o+2+j by omega]
   exact this
theorem zO9 (fs:List (Int×Int)): ∀u ∈ zO4 fs,u.oneCell'=true:=by
 intro u hu
 obtain ⟨x,_,hx⟩:=List.mem_flatMap.1 hu
 simp at hx
 rcases hx with rfl|rfl <;> rfl
set_option maxHeartbeats 1000000 in
set_option maxRecDepth 100000 in
theorem zE3 (A:Option Addr) (c:Nat) (fs:List (Int×Int)) (w:World) (hl:fs.length≤8796093022208) (hR:RdPI w w.heap.size A fs):
  Calls Tryz.prog 162 #[.slice A fs.length c] w fun r w'=> ∃A' c',r= .returned (.slice A' fs.length c')∧Below w.heap.size w w':=by
 obtain ⟨i0,hi,hz0,hz1,hz2⟩:=info_parts zJp
 have hnil: ∀(W:World) (a:Option Addr) (n c:Nat),(binOp .eql 113 (.slice a n c) (.slice none 0 0)).run Tryz.prog W= .ok (.bool a.isNone) W:=fun W a n c=>Lib.run_eql_slice_nil W 113 153 a n c 0 0 Tryz.underlying113
 rcases A with _|ad
 ·have h1:fs.length=0:=by
   rcases Nat.eq_zero_or_pos fs.length with h|h
   ·exact h
   ·obtain ⟨b,o,h,_⟩:=hR h
    cases h
  have hf:fs= []:=List.eq_nil_of_length_eq_zero h1
  subst hf
  go_enter Tryz.func162,Tryz.ntmps162
  go_wp2
  go_ret
  exact ⟨none,0,rfl,Below.refl _ _⟩
 ·have hcells: ∀j u,(zO4 fs)[j]? =some u→w.cell? (ad.add j)=some u:=by
   intro j u hu
   rcases Nat.eq_zero_or_pos fs.length with h|h
   ·have hf:fs= []:=List.eq_nil_of_length_eq_zero h
    subst hf
    simp [zO4] at hu
   ·obtain ⟨b,o,h,_,hc⟩:=hR h
    injection h with h
    subst h
    have:=zO6 fs b o w hc j u hu
    rw [←this]
    congr 1
    unfold Addr.add;split <;> simp_all
  go_enter Tryz.func162,Tryz.ntmps162
  have hown:(w.alloc (.cells #[] 153)).ownsRow w.heap.size 153 2 (.slice (some ⟨w.heap.size,0,none⟩) 0 0) 0 []:=World.ownsRow_lit w #[] 0 (Nat.le_refl _) (by unfold maxLen;omega) rfl
  have hB:=(Below.refl w.heap.size w).alloc (Nat.le_refl _) (.cells #[] 153)
  have hcells2: ∀j u,(zO4 fs)[j]? =some u→(w.alloc (.cells #[] 153)).cell? (ad.add j)=some u:=fun j u hu=>by
   have h1:=hcells j u hu
   exact (hB.cell (World.block_lt_of_cell? w _ h1)).trans h1
  have HC:=Lib.hid hcells2
  clear hcells hcells2
  go_wp2_with (at_builtin;refine wpList_append_own _ rfl _ _ 113 rfl w.heap.size 153 i0 (.agg #[.int .u64 0, .int .i64 0]) 2 16 Tryz.underlying113 hi hz0 hz1 hz2 rfl (by decide) _ 0 [] rfl hown ad fs.length c (zO4 fs) rfl ?c0 HC.out (zO9 fs) ?c3 ?c4 ?c5 ?_)
  case c0=>exact zO8 fs
  case c3=>unfold maxLen;omega
  case c4=>omega
  case c5=>simp
  intro v' w1 hown' hgrow _
  obtain ⟨A',c',rfl⟩: ∃A' c',v'= .slice A' fs.length c':=by
   rcases hown'.2 with ⟨rfl,hl⟩|⟨g,cap,cur,rfl,_⟩
   ·exact ⟨none,0,by rw [show fs.length=0 by omega]⟩
   ·exact ⟨_,cap,rfl⟩
  have hB2:Below w.heap.size w w1:=hB.grown hgrow (by simp) (fun k hk=>by simp [Value.ownBlock] at hk;omega)
  clear hown' hown hgrow
  go_wp2
  go_ret
  exact ⟨A',c',rfl,hB2⟩
theorem zUM {w':World} {b:Nat} {v0 v1 v2 o0 o1 o2:Value} (h0:w'.cell? ⟨b,0,none⟩=some o0) (h1:w'.cell? ⟨b,1,none⟩=some o1) (h2:w'.cell? ⟨b,2,none⟩=some o2):
  (((w'.setCell ⟨b,0,none⟩ v0).setCell ⟨b,1,none⟩ v1).setCell ⟨b,2,none⟩ v2).cell? ⟨b,0,none⟩=some v0∧
  (((w'.setCell ⟨b,0,none⟩ v0).setCell ⟨b,1,none⟩ v1).setCell ⟨b,2,none⟩ v2).cell? ⟨b,1,none⟩=some v1∧
  (((w'.setCell ⟨b,0,none⟩ v0).setCell ⟨b,1,none⟩ v1).setCell ⟨b,2,none⟩ v2).cell? ⟨b,2,none⟩=some v2:=by
 have ne: ∀i j:Nat,i≠j→(⟨b,i,none⟩:Addr)≠⟨b,j,none⟩:=fun i j h e=>h (by injection e)
 have g1:(w'.setCell ⟨b,0,none⟩ v0).cell? ⟨b,1,none⟩=some o1:=by rw [World.cell?_setCell_other _ _ _ _ (ne _ _ (by omega))];exact h1
 have g2:((w'.setCell ⟨b,0,none⟩ v0).setCell ⟨b,1,none⟩ v1).cell? ⟨b,2,none⟩=some o2:=by
  rw [World.cell?_setCell_other _ _ _ _ (ne _ _ (by omega)),World.cell?_setCell_other _ _ _ _ (ne _ _ (by omega))];exact h2
 refine ⟨?_,?_,World.cell?_setCell_same _ _ _ g2⟩
 ·rw [World.cell?_setCell_other _ _ _ _ (ne _ _ (by omega)),World.cell?_setCell_other _ _ _ _ (ne _ _ (by omega))]
  exact World.cell?_setCell_same _ _ _ h0
 ·rw [World.cell?_setCell_other _ _ _ _ (ne _ _ (by omega))]
  exact World.cell?_setCell_same _ _ _ g1
def zAj (es:List Ent) (p:Int) (w:World) (r:Ending) (w':World):Prop:=
 ((∀e ∈ es,e.p≠p)∧r= .returned (.tuple #[.agg #[.int .u64 0, .int .u64 0, .slice none 0 0], .bool false])∧Below w.heap.size w w')∨
 (∃k A' c',∃n:Nat,k<es.length∧(es.getD k Ent.none).p=p∧(∀j,j<k→(es.getD j Ent.none).p≠p)∧r= .returned (.tuple #[.agg #[.int .u64 p, .int .u64 (es.getD k Ent.none).g, .slice A' n c'], .bool true])∧Below w.heap.size w w')
set_option maxHeartbeats 2000000 in
set_option maxRecDepth 100000 in
theorem zE0 (A:Option Addr) (c:Nat) (es:List Ent) (p:Int) (w:World) (hl:es.length≤32) (hlc:es.length≤c) (hR:RdE w w.heap.size A es) (hE: ∀e ∈ es,zAm e)
  (hck: ∀j,j<es.length→zAG (es.take j) (es.getD j Ent.none)):
  Calls Tryz.prog 100 #[.slice A es.length c, .int .u64 p] w (zAj es p w):=by
 have hB0:=(Below.refl w.heap.size w).alloc (Nat.le_refl _) (.cells #[.int .u64 0, .int .u64 0, .slice none 0 0] 115)
 have HCK:=Lib.hid hck
 clear hck
 go_enter Tryz.func100,Tryz.ntmps100
 go_wp2_with fail
 have z0:(w.alloc (.cells #[.int .u64 0, .int .u64 0, .slice none 0 0] 115)).cell? ⟨w.heap.size,0,none⟩=some (.int .u64 0):=World.cell?_alloc_at _ _ _ _ rfl
 have z1:(w.alloc (.cells #[.int .u64 0, .int .u64 0, .slice none 0 0] 115)).cell? ⟨w.heap.size,1,none⟩=some (.int .u64 0):=World.cell?_alloc_at _ _ _ _ rfl
 have z2:(w.alloc (.cells #[.int .u64 0, .int .u64 0, .slice none 0 0] 115)).cell? ⟨w.heap.size,2,none⟩=some (.slice none 0 0):=World.cell?_alloc_at _ _ _ _ rfl
 have y0: ∀o,(w.alloc (.cells #[.int .u64 0, .int .u64 0, .slice none 0 0] 115)).frozen? ⟨w.heap.size,o,none⟩=false:=fun o=>World.frozen?_alloc_at _ _ _ _ rfl
 have hsz:w.heap.size+1≤(w.alloc (.cells #[.int .u64 0, .int .u64 0, .slice none 0 0] 115)).heap.size:=by simp
 generalize w.alloc (.cells #[.int .u64 0, .int .u64 0, .slice none 0 0] 115)=w0 at *
 have hR0:=(hR.below hB0).mono (show w.heap.size≤w0.heap.size by omega)
 refine (check_any A c es w0 (by omega) hlc hR0 hE).mono ?_
 rintro r w1 ⟨i,er,rfl,hcr,hB1⟩
 obtain ⟨rfl,rfl⟩:i=0∧er=0:=hcr.unique (.inr (.inr ⟨hl,rfl,rfl,HCK.out⟩))
 have x0:=zDs hB1 (by omega) z0
 have x1:=zDs hB1 (by omega) z1
 have x2:=zDs hB1 (by omega) z2
 have f0:=zHK hB1 (by omega) (y0 0)
 have f1:=zHK hB1 (by omega) (y0 1)
 have f2:=zHK hB1 (by omega) (y0 2)
 have hR1:=(hR0.below hB1).mono hB1.size
 have hBw:Below w.heap.size w w1:=hB0.trans (hB1.mono (by omega))
 have hs1:w.heap.size+1≤w1.heap.size:=by have:=hB1.size;omega
 clear hcr z0 z1 z2 y0 hR0 hB1 hB0 hR hsz
 go_wp2
 go_loopw [20] (fun I wr=> ∃k:Nat,I= .int .i64 k∧k≤es.length∧Hid (∀j,j<k→(es.getD j Ent.none).p≠p)∧Below w1.heap.size w1 wr) (fun I _=>es.length-(intOf I).toNat)
 case atStart=>exact ⟨0,rfl,by omega,Lib.hid (fun j hj=>by omega),Below.refl _ _⟩
 case round=>
  obtain ⟨k,rfl,hk,hno,hB⟩:=hrel
  have u0:=zDs hB (by omega) x0
  have u1:=zDs hB (by omega) x1
  have u2:=zDs hB (by omega) x2
  have v0:=zHK hB (by omega) f0
  have v1:=zHK hB (by omega) f1
  have v2:=zHK hB (by omega) f2
  have hlt2:w.heap.size<wr.heap.size:=by have:=hB.size;omega
  by_cases hlt:k<es.length
  ·obtain ⟨b,o,rfl,hb,hc⟩:=(hR1.below hB) (by omega)
   obtain ⟨A',c',hEl⟩:=hc k hlt
   have d0:=hEl.c0
   have d1:=hEl.c1
   have d2:=hEl.c2
   have dr:=hEl.rd
   obtain ⟨x,hx⟩: ∃x,x=es.getD k Ent.none:=⟨_,rfl⟩
   rw [←hx] at d0 d1 d2 dr
   have hxm:x ∈ es:=by rw [hx,List.getD_eq_getElem?_getD,List.getElem?_eq_getElem hlt];exact List.getElem_mem hlt
   have hxl:=(hE x hxm).len
   have HX:=Lib.hid hx
   clear hx hEl hc
   by_cases hxp:x.p=p
   ·have t1:(x.p == p)=true:=by simp [hxp]
    have HXP:=Lib.hid hxp
    clear hxp
    go_upto_region 8 with fail
    have hBx:=hB.alloc hB.size (.cells #[.int .u64 x.p, .int .u64 x.g, .slice A' x.fs.length c'] 115)
    have hBr:=(Below.refl wr.heap.size wr).alloc (Nat.le_refl _) (.cells #[.int .u64 x.p, .int .u64 x.g, .slice A' x.fs.length c'] 115)
    have k0:(wr.alloc (.cells #[.int .u64 x.p, .int .u64 x.g, .slice A' x.fs.length c'] 115)).cell? ⟨wr.heap.size,0,none⟩=some (.int .u64 x.p):=World.cell?_alloc_at _ _ _ _ rfl
    have k1:(wr.alloc (.cells #[.int .u64 x.p, .int .u64 x.g, .slice A' x.fs.length c'] 115)).cell? ⟨wr.heap.size,1,none⟩=some (.int .u64 x.g):=World.cell?_alloc_at _ _ _ _ rfl
    have k2:(wr.alloc (.cells #[.int .u64 x.p, .int .u64 x.g, .slice A' x.fs.length c'] 115)).cell? ⟨wr.heap.size,2,none⟩=some (.slice A' x.fs.length c'):=World.cell?_alloc_at _ _ _ _ rfl
    have hsz:wr.heap.size+1≤(wr.alloc (.cells #[.int .u64 x.p, .int .u64 x.g, .slice A' x.fs.length c'] 115)).heap.size:=by simp
    generalize wr.alloc (.cells #[.int .u64 x.p, .int .u64 x.g, .slice A' x.fs.length c'] 115)=w2 at *
    have hCl:Hid (∀W,Below w2.heap.size w2 W→Calls Tryz.prog 162 #[.slice A' x.fs.length c'] W fun r w'=> ∃A'' c'',r= .returned (.slice A'' x.fs.length c'')∧Below W.heap.size W w'):=Lib.hid (fun W hW=>
     zE3 A' c' x.fs W hxl (((dr.mono (show w1.heap.size≤wr.heap.size from hB.size)).below hBr |>.mono (show wr.heap.size≤w2.heap.size by omega)).below hW |>.mono hW.size))
    have p0:=zDs hBr hlt2 u0
    have p1:=zDs hBr hlt2 u1
    have p2:=zDs hBr hlt2 u2
    have q0:=zHK hBr hlt2 v0
    have q1:=zHK hBr hlt2 v1
    have q2:=zHK hBr hlt2 v2
    have hBt:Below w.heap.size w w2:=hBw.trans (hBx.mono (by omega))
    clear u0 u1 u2 v0 v1 v2 x0 x1 x2 f0 f1 f2 d0 d1 d2 dr hBx hBr hR1
    go_cut [5] (fun v wx=> ∃A'' c'',v= .bool true∧wx.cell? ⟨w.heap.size,0,none⟩=some (.int .u64 x.p)∧wx.cell? ⟨w.heap.size,1,none⟩=some (.int .u64 x.g)∧wx.cell? ⟨w.heap.size,2,none⟩=some (.slice A'' x.fs.length c'')∧Below w.heap.size w wx)
    case first=>
     go_region_with (go_at_call 162;refine (hCl.out _ (below_drewN (Below.refl _ _) _)).mono ?_;rintro r w' ⟨A'',c'',rfl,hBc⟩;have r0:=zDs hBc (by show w.heap.size<w2.heap.size;omega) p0;have r1:=zDs hBc (by show w.heap.size<w2.heap.size;omega) p1;have r2:=zDs hBc (by show w.heap.size<w2.heap.size;omega) p2;have t0:=zHK hBc (by show w.heap.size<w2.heap.size;omega) q0;have t1':=zHK hBc (by show w.heap.size<w2.heap.size;omega) q1;have t2':=zHK hBc (by show w.heap.size<w2.heap.size;omega) q2;have s0:=zDs hBc (by show wr.heap.size<w2.heap.size;omega) k0;have s1:=zDs hBc (by show wr.heap.size<w2.heap.size;omega) k1;have s2:=zDs hBc (by show wr.heap.size<w2.heap.size;omega) k2)
     all_goals
      go_wp2_with fail
      go_meet
      have hBf:=hBt.trans (((below_drewN (Below.refl w2.heap.size w2) _).trans (hBc.mono (Nat.le_refl _))).mono (show w.heap.size≤w2.heap.size by omega))
      have e:=zUM (v0:= .int .u64 x.p) (v1:= .int .u64 x.g) (v2:= .slice A'' x.fs.length c'') r0 r1 r2
      exact ⟨A'',c'',rfl,e.1,e.2.1,e.2.2,((hBf.setCell (p:=⟨w.heap.size,0,none⟩) (Nat.le_refl _) _).setCell (p:=⟨w.heap.size,1,none⟩) (Nat.le_refl _) _).setCell (p:=⟨w.heap.size,2,none⟩) (Nat.le_refl _) _⟩
    case rest=>
     obtain ⟨A'',c'',rfl,r0,r1,r2,hBc⟩:=hcut
     go_wp2
     exact bodyPost_ret (v:= .tuple #[.agg #[.int .u64 x.p, .int .u64 x.g, .slice A'' x.fs.length c''], .bool true]) (by simp [results,Tryz.results100,go_sem,r0,r1,r2]) rfl
      (.inr ⟨k,A'',c'',x.fs.length,hlt,by rw [←HX.out];exact HXP.out,hno.out,by rw [←HX.out,HXP.out],hBc⟩)
   ·have t1:(x.p == p)=false:=by simp [hxp]
    have HXP:Hid (∀j,j<k+1→(es.getD j Ent.none).p≠p):=Lib.hid (fun j hj=>by
     by_cases e:j=k
     ·subst e;rw [←HX.out];exact hxp
     ·exact hno.out j (by omega))
    have hBx:=hB.alloc hB.size (.cells #[.int .u64 x.p, .int .u64 x.g, .slice A' x.fs.length c'] 115)
    clear hxp dr
    go_wp2
    go_roundw
    case rel=>exact ⟨k+1,by go_num,by omega,HXP,hBx⟩
    case measure=>simp [intOf];omega
  ·obtain rfl:k=es.length:=by omega
   have hall:Hid (∀e ∈ es,e.p≠p):=Lib.hid (fun e he=>by
    obtain ⟨j,hj,rfl⟩:=List.getElem_of_mem he
    have:=hno.out j hj
    simpa only [List.getD_eq_getElem?_getD,List.getElem?_eq_getElem hj,Option.getD_some] using this)
   have e:=zUM (v0:= .int .u64 0) (v1:= .int .u64 0) (v2:= .slice none 0 0) u0 u1 u2
   have hBf:=hBw.trans (hB.mono (show w.heap.size≤w1.heap.size by omega))
   go_wp2
   exact bodyPost_ret (v:= .tuple #[.agg #[.int .u64 0, .int .u64 0, .slice none 0 0], .bool false]) (by simp [results,Tryz.results100,go_sem,e.1,e.2.1,e.2.2]) rfl
    (.inl ⟨hall.out,rfl,((hBf.setCell (p:=⟨w.heap.size,0,none⟩) (Nat.le_refl _) _).setCell (p:=⟨w.heap.size,1,none⟩) (Nat.le_refl _) _).setCell (p:=⟨w.heap.size,2,none⟩) (Nat.le_refl _) _⟩)
end

section
/- field.New. -/
open Go.RowKit
structure zAo (w:World) (b c:Nat) (p g t o s:Int) (sv:Value):Prop where
  ctx:Ctx w c p t o s
  f0:w.cell? ⟨b,0,none⟩=some (.pointer (some ⟨c,0,none⟩))
  f1:w.cell? ⟨b,1,none⟩=some (.int .u64 p)
  f2:w.cell? ⟨b,2,none⟩=some (.int .u64 g)
  f3:w.cell? ⟨b,3,none⟩=some sv
def Fd (w:World) (B:Nat) (v:Value) (p g:Int):Prop:= ∃b c t o s sv,v= .pointer (some ⟨b,0,none⟩)∧b<B∧c<B∧zAo w b c p g t o s sv
theorem Fd.below {w w':World} {B:Nat} {v:Value} {p g:Int} (h:Fd w B v p g) (hB:Below B w w'):Fd w' B v p g:=by
  obtain ⟨b,c,t,o,s,sv,rfl,hb,hc,hF⟩:=h
  exact ⟨b,c,t,o,s,sv,rfl,hb,hc,hF.ctx.below hB hc,zDs hB hb hF.f0,zDs hB hb hF.f1,zDs hB hb hF.f2,zDs hB hb hF.f3⟩
theorem Fd.mono {w:World} {B B':Nat} {v:Value} {p g:Int} (h:Fd w B v p g) (hB:B≤B'):Fd w B' v p g:=by
  obtain ⟨b,c,t,o,s,sv,rfl,hb,hc,hF⟩:=h
  exact ⟨b,c,t,o,s,sv,rfl,by omega,by omega,hF⟩
def zAp (es:List Ent) (p g:Int):Prop:= ∃k,k<es.length∧(es.getD k Ent.none).p=p∧(es.getD k Ent.none).g=g∧ ∀j,j<k→(es.getD j Ent.none).p≠p
def zAb (es:List Ent):Prop:=es.length≤32∧ ∀j,j<es.length→zAG (es.take j) (es.getD j Ent.none)
def NewP (es:List Ent) (p:Int) (w:World) (r:Ending) (w':World):Prop:=
  Below w.heap.size w w'∧
  ((∃er,¬zAb es∧r= .returned (.tuple #[.pointer none, .int .i64 er])∧er≠0∧(32<es.length→er=13)∧(es.length≤32→er=3))∨
   (zAb es∧(∀e ∈ es,e.p≠p)∧r= .returned (.tuple #[.pointer none, .int .i64 14]))∨
   (∃v g,zAb es∧zAp es p g∧r= .returned (.tuple #[v, .int .i64 0])∧Fd w' w'.heap.size v p g))
set_option maxHeartbeats 2000000 in
set_option maxRecDepth 100000 in
theorem zH0 (A:Option Addr) (c:Nat) (es:List Ent) (p:Int) (w:World) (hl:es.length≤140737488351232) (hlc:es.length≤c) (hR:RdE w w.heap.size A es) (hE: ∀e ∈ es,zAm e):
    Calls Tryz.prog 51 #[.slice A es.length c, .int .u64 p] w (NewP es p w):=by
  go_enter Tryz.func51,Tryz.ntmps51
  go_wp2_with fail
  refine (check_any A c es w hl hlc hR hE).mono ?_
  rintro r w1 ⟨i,er,rfl,hcr,hB1⟩
  have hR1:=(hR.below hB1).mono hB1.size
  by_cases her:er=0
  · subst her
    have HA:Hid (zAb es):=Lib.hid (by
      rcases hcr with ⟨a,b,c⟩|⟨a,k,hk,b,c,d⟩|⟨a,b,c,d⟩
      · omega
      · omega
      · exact ⟨a,d⟩)
    clear hcr
    go_wp2_with fail
    refine (zE0 A c es p w1 HA.out.1 hlc hR1 hE HA.out.2).mono ?_
    rintro r w2 hcl
    rcases hcl with ⟨hno,rfl,hB2⟩|⟨k,A',c',n,hk,hkp,hkf,rfl,hB2⟩
    · have HN:=Lib.hid hno
      clear hno
      go_wp2
      go_ret2
      exact ⟨(hB1.trans (hB2.mono hB1.size)).alloc (Nat.le_trans hB1.size hB2.size) _, .inr (.inl ⟨HA.out,HN.out,rfl⟩)⟩
    · have HF:Hid (zAp es p (es.getD k Ent.none).g):=Lib.hid ⟨k,hk,hkp,rfl,hkf⟩
      have hRk:=HA.out.2 k hk
      have hp3:3≤p:=by rw [←hkp];exact hRk.p3
      have hpm:p<9223372036854775808:=by rw [←hkp];exact hRk.pm
      have hpo:Hid (p%2=1):=Lib.hid (by rw [←hkp];exact hRk.odd)
      have hg0:=hRk.g2
      obtain ⟨g,hg⟩: ∃g,g=(es.getD k Ent.none).g:=⟨_,rfl⟩
      rw [←hg] at HF hg0
      rw [←hg]
      have hBt:Below w.heap.size w w2:=hB1.trans (hB2.mono hB1.size)
      have hws:w.heap.size≤w2.heap.size:=Nat.le_trans hB1.size hB2.size
      have hBx:=hBt.alloc hws (.cells #[.int .u64 p, .int .u64 g, .slice A' n c'] 115)
      clear hkp hkf hRk hg hR1 hB1 hB2 hR
      go_wp2_with fail
      have l0:(w2.alloc (.cells #[.int .u64 p, .int .u64 g, .slice A' n c'] 115)).cell? ⟨w2.heap.size,0,none⟩=some (.int .u64 p):=World.cell?_alloc_at _ _ _ _ rfl
      have l1:(w2.alloc (.cells #[.int .u64 p, .int .u64 g, .slice A' n c'] 115)).cell? ⟨w2.heap.size,1,none⟩=some (.int .u64 g):=World.cell?_alloc_at _ _ _ _ rfl
      have l2:(w2.alloc (.cells #[.int .u64 p, .int .u64 g, .slice A' n c'] 115)).cell? ⟨w2.heap.size,2,none⟩=some (.slice A' n c'):=World.cell?_alloc_at _ _ _ _ rfl
      have hsz:w2.heap.size+1≤(w2.alloc (.cells #[.int .u64 p, .int .u64 g, .slice A' n c'] 115)).heap.size:=by simp
      generalize w2.alloc (.cells #[.int .u64 p, .int .u64 g, .slice A' n c'] 115)=w3 at *
      refine (new_any p w3 hp3 hpm hpo.out).mono ?_
      rintro r w4 ⟨cx,t,o,s,rfl,hC,hcx,hB4⟩
      have m0:=zDs hB4 (by omega) l0
      have m1:=zDs hB4 (by omega) l1
      have m2:=zDs hB4 (by omega) l2
      have hBf:=hBx.trans (hB4.mono (by omega))
      have hcl:=hC.lt
      clear l0 l1 l2
      go_wp2
      go_ret2
      refine ⟨hBf.alloc (by have:=hB4.size;omega) _, .inr (.inr ⟨_,g,HA.out,HF.out,rfl,w4.heap.size,cx,t,o,s, .slice A' n c',rfl,by simp,by simp;omega,?_⟩)⟩
      exact ⟨hC.below ((Below.refl _ _).alloc (Nat.le_refl _) _) hcl,World.cell?_alloc_at _ _ _ _ rfl,World.cell?_alloc_at _ _ _ _ rfl,World.cell?_alloc_at _ _ _ _ rfl,World.cell?_alloc_at _ _ _ _ rfl⟩
  · have t1:(er != 0)=true:=by simp [her]
    have HB:Hid (¬zAb es∧(32<es.length→er=13)∧(es.length≤32→er=3)):=Lib.hid (by
      rcases hcr with ⟨a,b,c⟩|⟨a,k,hk,b,c,d,f⟩|⟨a,b,c,d⟩
      · exact ⟨fun h=>by have:=h.1;omega,fun _=>c,fun h=>by omega⟩
      · exact ⟨fun h=>f (h.2 k hk),fun h=>by omega,fun _=>c⟩
      · exact absurd c her)
    have HER:=Lib.hid her
    clear her hcr
    go_wp2
    go_ret2
    exact ⟨hB1, .inl ⟨er,HB.out.1,rfl,HER.out,HB.out.2.1,HB.out.2.2⟩⟩
end

section
/- (*Field).Divides. -/
open Go.RowKit
theorem zFG {w:World} {B:Nat} {v:Value} {p g:Int} (h:Fd w B v p g) (n:Int) (h0: -9223372036854775808≤n) (h1:n≤9223372036854775807):
  Calls Tryz.prog 55 #[v, .int .i64 n] w fun e w'=>e= .returned (.bool (decide (0<n) && ((p-1)%n == 0)))∧w=w':=by
 obtain ⟨b,c,t,o,s,sv,rfl,hb,hc,hF⟩:=h
 have f1:=hF.f1
 have m1:=hF.ctx.m1
 have m2:=hF.ctx.m2
 by_cases hn:0<n
 ·have t1:decide (0<n)=true:=by simpa using hn
  have t2:(n == 0)=false:=by simp;omega
  have HZ:Hid ((decide (0<n) && ((p-1)%n == 0))=((p-1)%n == 0)):=Lib.hid (by rw [t1];rfl)
  go_enter Tryz.func55,Tryz.ntmps55
  go_wp2
  go_ret
  exact ⟨by rw [HZ.out];first|rfl|simp,rfl⟩
 ·have t1:decide (0<n)=false:=by simpa using hn
  have HZ:Hid ((decide (0<n) && ((p-1)%n == 0))=false):=Lib.hid (by rw [t1];rfl)
  clear hn
  go_enter Tryz.func55,Tryz.ntmps55
  go_wp2
  go_ret
  exact ⟨by rw [HZ.out];first|rfl|simp,rfl⟩
end

section
/- mont: Out, Add, Neg, Sub. -/
open Go.RowKit
theorem zN0 {w:World} {c:Nat} {m t o s:Int} (hC:Ctx w c m t o s) (a:Int) (h0:0≤a) (h1:a≤18446744073709551615):
  Calls Tryz.prog 237 #[.pointer (some ⟨c,0,none⟩), .int .u64 a] w fun e w'=>e= .returned (.int .u64 (a*Mont.rinv m%m))∧ ∃n,w'=w.drewN n:=by
 have m1:=hC.m1
 have m2:=hC.m2
 have x0:=Int.emod_nonneg a (show m≠0 by omega)
 have x1:=Int.emod_lt_of_pos a (show 0<m by omega)
 have fin:Hid ((0*18446744073709551616+a%m)*Mont.rinv m%m=a*Mont.rinv m%m):=Lib.hid (by
  rw [Int.zero_mul,Int.zero_add,Int.mul_emod,Int.emod_emod_of_dvd _ ⟨1,by simp⟩,←Int.mul_emod])
 go_enter Tryz.func237,Tryz.ntmps237
 go_wp2_with fail
 refine (zFb hC a h0 h1).mono ?_
 rintro e w1 ⟨rfl,n1,rfl⟩
 go_wp2_with fail
 refine (zRy (hC.drewN _) 0 _ (by omega) (by omega) x0 (by omega)).mono ?_
 rintro e w1 ⟨rfl,n2,rfl⟩
 go_wp2
 go_ret
 exact ⟨zRD (by rw [←fin.out];simp),_,rfl⟩
theorem zLk {w:World} {c:Nat} {m t o s:Int} (hC:Ctx w c m t o s) (x y:Int) (hx0:0≤x) (hx:x≤18446744073709551615) (hy0:0≤y) (hy:y≤18446744073709551615):
  Calls Tryz.prog 137 #[.pointer (some ⟨c,0,none⟩), .int .u64 x, .int .u64 y] w fun e w'=>e= .returned (.int .u64 ((x+y)%m))∧ ∃n,w'=w.drewN n:=by
 have c0:=hC.c0
 have m1:=hC.m1
 have m2:=hC.m2
 have x0:=Int.emod_nonneg x (show m≠0 by omega)
 have x1:=Int.emod_lt_of_pos x (show 0<m by omega)
 have y0:=Int.emod_nonneg y (show m≠0 by omega)
 have y1:=Int.emod_lt_of_pos y (show 0<m by omega)
 have e0:(x+y)%m=(x%m+y%m)%m:=Int.add_emod ..
 by_cases hge:m≤x%m+y%m
 ·have fin:Hid (x%m+y%m-m=(x+y)%m):=Lib.hid (by
   rw [e0,show x%m+y%m=(x%m+y%m-m)+m*1 by omega,Int.add_mul_emod_self_left,show (x%m+y%m-m)%m=x%m+y%m-m from Int.emod_eq_of_lt (by omega) (by omega)];omega)
  clear e0
  go_enter Tryz.func137,Tryz.ntmps137
  go_wp2_with fail
  refine (zFb hC x hx0 hx).mono ?_
  rintro e w1 ⟨rfl,n1,rfl⟩
  go_wp2_with fail
  refine (zFb (hC.drewN n1) y hy0 hy).mono ?_
  rintro e w1 ⟨rfl,n2,rfl⟩
  go_wp2
  go_ret
  exact ⟨zRD fin.out,_,rfl⟩
 ·have fin:Hid (x%m+y%m=(x+y)%m):=Lib.hid (by
   rw [e0,show (x%m+y%m)%m=x%m+y%m from Int.emod_eq_of_lt (by omega) (by omega)])
  clear e0
  go_enter Tryz.func137,Tryz.ntmps137
  go_wp2_with fail
  refine (zFb hC x hx0 hx).mono ?_
  rintro e w1 ⟨rfl,n1,rfl⟩
  go_wp2_with fail
  refine (zFb (hC.drewN n1) y hy0 hy).mono ?_
  rintro e w1 ⟨rfl,n2,rfl⟩
  go_wp2
  go_ret
  exact ⟨zRD fin.out,_,rfl⟩
theorem zLE {w:World} {c:Nat} {m t o s:Int} (hC:Ctx w c m t o s) (x:Int) (hx0:0≤x) (hx:x≤18446744073709551615):
  Calls Tryz.prog 202 #[.pointer (some ⟨c,0,none⟩), .int .u64 x] w fun e w'=>e= .returned (.int .u64 ((-x)%m))∧ ∃n,w'=w.drewN n:=by
 have c0:=hC.c0
 have m1:=hC.m1
 have m2:=hC.m2
 have x0:=Int.emod_nonneg x (show m≠0 by omega)
 have x1:=Int.emod_lt_of_pos x (show 0<m by omega)
 have e1:(-x)%m=(- (x%m))%m:=by
  rw [←Int.zero_sub,←Int.zero_sub,Int.sub_emod,Int.sub_emod 0 (x%m),Int.emod_emod]
 by_cases hz:x%m=0
 ·have tz:(x%m == 0)=true:=by simp [hz]
  have fin:Hid ((-x)%m=0):=Lib.hid (by rw [e1,hz];simp)
  have e:Hid (x%m=0):=Lib.hid hz
  have hcut:=fun w=>zFb (w:=w) (c:=c) (m:=m) (t:=t) (o:=o) (s:=s)
  obtain ⟨q,hq⟩: ∃q,q=x%m:=⟨_,rfl⟩
  have HC:Hid (Calls Tryz.prog 143 #[.pointer (some ⟨c,0,none⟩), .int .u64 x] w fun e w'=>e= .returned (.int .u64 q)∧ ∃n,w'=w.drewN n):=Lib.hid (by rw [hq];exact zFb hC x hx0 hx)
  rw [←hq] at tz
  clear hz e1 hq hcut
  go_enter Tryz.func202,Tryz.ntmps202
  go_wp2_with fail
  refine HC.out.mono ?_
  rintro e w1 ⟨rfl,n1,rfl⟩
  go_wp2
  go_ret
  exact ⟨zRD fin.out.symm,_,rfl⟩
 ·have tz:(x%m == 0)=false:=by simp [hz]
  have fin:Hid (m-x%m=(-x)%m):=Lib.hid (by
   rw [e1,show -(x%m)=(m-x%m)+m*(-1) by omega,Int.add_mul_emod_self_left,show (m-x%m)%m=m-x%m from Int.emod_eq_of_lt (by omega) (by omega)])
  obtain ⟨q,hq⟩: ∃q,q=x%m:=⟨_,rfl⟩
  have HC:Hid (Calls Tryz.prog 143 #[.pointer (some ⟨c,0,none⟩), .int .u64 x] w fun e w'=>e= .returned (.int .u64 q)∧ ∃n,w'=w.drewN n):=Lib.hid (by rw [hq];exact zFb hC x hx0 hx)
  rw [←hq] at tz fin x0 x1
  clear hz e1 hq
  go_enter Tryz.func202,Tryz.ntmps202
  go_wp2_with fail
  refine HC.out.mono ?_
  rintro e w1 ⟨rfl,n1,rfl⟩
  go_wp2
  go_ret
  exact ⟨zRD fin.out,_,rfl⟩
theorem zMb {w:World} {c:Nat} {m t o s:Int} (hC:Ctx w c m t o s) (x y:Int) (hx0:0≤x) (hx:x≤18446744073709551615) (hy0:0≤y) (hy:y≤18446744073709551615):
  Calls Tryz.prog 169 #[.pointer (some ⟨c,0,none⟩), .int .u64 x, .int .u64 y] w fun e w'=>e= .returned (.int .u64 ((x-y)%m))∧ ∃n,w'=w.drewN n:=by
 have m1:=hC.m1
 have m2:=hC.m2
 have x0:=Int.emod_nonneg (-y) (show m≠0 by omega)
 have x1:=Int.emod_lt_of_pos (-y) (show 0<m by omega)
 have fin:Hid ((x+(-y)%m)%m=(x-y)%m):=Lib.hid (by rw [Int.add_emod_emod,Int.sub_eq_add_neg])
 have hN:=Lib.hid (zLE hC y hy0 hy)
 have hA:=Lib.hid (fun n=>zLk (hC.drewN n) x ((-y)%m) hx0 hx x0 (by omega))
 obtain ⟨q,hq⟩: ∃q,q=(-y)%m:=⟨_,rfl⟩
 rw [←hq] at fin hN hA x0 x1
 clear hq
 go_enter Tryz.func169,Tryz.ntmps169
 go_wp2_with fail
 refine hN.out.mono ?_
 rintro e w1 ⟨rfl,n1,rfl⟩
 go_wp2_with fail
 refine (hA.out _).mono ?_
 rintro e w1 ⟨rfl,n2,rfl⟩
 go_wp2
 go_ret
 exact ⟨zRD fin.out,_,rfl⟩
end

section
/- The field's operations. -/
open Go.RowKit
theorem Fd.drewN {w:World} {B:Nat} {v:Value} {p g:Int} (h:Fd w B v p g) (n:Nat):Fd (w.drewN n) B v p g:=h.below (below_drewN (Below.refl _ _) n)
theorem Fd.p3 {w:World} {B:Nat} {v:Value} {p g:Int} (h:Fd w B v p g):3≤p:=by
 obtain ⟨b,c,t,o,s,sv,rfl,hb,hc,hF⟩:=h
 exact hF.ctx.m1
theorem Fd.pmx {w:World} {B:Nat} {v:Value} {p g:Int} (h:Fd w B v p g):p<9223372036854775808:=by
 obtain ⟨b,c,t,o,s,sv,rfl,hb,hc,hF⟩:=h
 exact hF.ctx.m2
section
variable {w:World} {B:Nat} {v:Value} {p g:Int}
theorem zG6 (h:Fd w B v p g):Calls Tryz.prog 138 #[v] w fun e w'=>e= .returned (.int .u64 p)∧w=w':=by
 obtain ⟨b,c,t,o,s,sv,rfl,hb,hc,hF⟩:=h
 have f1:=hF.f1
 go_enter Tryz.func138,Tryz.ntmps138
 go_wp2
 go_ret
 exact ⟨rfl,rfl⟩
theorem zGS (h:Fd w B v p g) (x:Int) (h0:0≤x) (h1:x≤18446744073709551615):Calls Tryz.prog 151 #[v, .int .u64 x] w fun e w'=>e= .returned (.bool (decide (x<p)))∧w=w':=by
 obtain ⟨b,c,t,o,s,sv,rfl,hb,hc,hF⟩:=h
 have f1:=hF.f1
 go_enter Tryz.func151,Tryz.ntmps151
 go_wp2
 go_ret
 exact ⟨rfl,rfl⟩
theorem zG9 (h:Fd w B v p g) (x y:Int) (hx0:0≤x) (hx:x≤18446744073709551615) (hy0:0≤y) (hy:y≤18446744073709551615):
  Calls Tryz.prog 80 #[v, .int .u64 x, .int .u64 y] w fun e w'=>e= .returned (.int .u64 ((x+y)%p))∧ ∃n,w'=w.drewN n:=by
 obtain ⟨b,c,t,o,s,sv,rfl,hb,hc,hF⟩:=h
 have f0:=hF.f0
 go_enter Tryz.func80,Tryz.ntmps80
 go_wp2_with fail
 refine (zLk hF.ctx x y hx0 hx hy0 hy).mono ?_
 rintro e w1 ⟨rfl,n1,rfl⟩
 go_wp2
 go_ret
 exact ⟨rfl,_,rfl⟩
theorem zHL (h:Fd w B v p g) (x y:Int) (hx0:0≤x) (hx:x≤18446744073709551615) (hy0:0≤y) (hy:y≤18446744073709551615):
  Calls Tryz.prog 117 #[v, .int .u64 x, .int .u64 y] w fun e w'=>e= .returned (.int .u64 ((x-y)%p))∧ ∃n,w'=w.drewN n:=by
 obtain ⟨b,c,t,o,s,sv,rfl,hb,hc,hF⟩:=h
 have f0:=hF.f0
 go_enter Tryz.func117,Tryz.ntmps117
 go_wp2_with fail
 refine (zMb hF.ctx x y hx0 hx hy0 hy).mono ?_
 rintro e w1 ⟨rfl,n1,rfl⟩
 go_wp2
 go_ret
 exact ⟨rfl,_,rfl⟩
theorem zHv (h:Fd w B v p g) (x:Int) (hx0:0≤x) (hx:x≤18446744073709551615):
  Calls Tryz.prog 79 #[v, .int .u64 x] w fun e w'=>e= .returned (.int .u64 (lft p x))∧ ∃n,w'=w.drewN n:=by
 obtain ⟨b,c,t,o,s,sv,rfl,hb,hc,hF⟩:=h
 have f0:=hF.f0
 go_enter Tryz.func79,Tryz.ntmps79
 go_wp2_with fail
 refine (zJd hF.ctx x hx0 hx).mono ?_
 rintro e w1 ⟨rfl,n1,rfl⟩
 go_wp2
 go_ret
 exact ⟨rfl,_,rfl⟩
theorem zHM (h:Fd w B v p g) (a y:Int) (hy0:0≤y) (hy:y≤18446744073709551615):
  Calls Tryz.prog 81 #[v, .int .u64 (lft p a), .int .u64 y] w fun e w'=>e= .returned (.int .u64 (a*y%p))∧ ∃n,w'=w.drewN n:=by
 obtain ⟨b,c,t,o,s,sv,rfl,hb,hc,hF⟩:=h
 have f0:=hF.f0
 have m1:=hF.ctx.m1
 have m2:=hF.ctx.m2
 have hr:=zK6 (show 1≤p by omega) a
 have fin:Hid (lft p a*y*Mont.rinv p%p=a*y%p):=Lib.hid (zK3 (by omega) hF.ctx.mo)
 have hM:=Lib.hid (zLA hF.ctx (lft p a) y hr.1 (by omega) hy0 hy)
 obtain ⟨z,hz⟩: ∃z,z=lft p a:=⟨_,rfl⟩
 rw [←hz] at fin hM ⊢
 clear hz hr
 go_enter Tryz.func81,Tryz.ntmps81
 go_wp2_with fail
 refine hM.out.mono ?_
 rintro e w1 ⟨rfl,n1,rfl⟩
 go_wp2
 go_ret
 exact ⟨zRD fin.out,_,rfl⟩
theorem zHw (h:Fd w B v p g) (x y:Int) (hx0:0≤x) (hx:x≤18446744073709551615) (hy0:0≤y) (hy:y≤18446744073709551615):
  Calls Tryz.prog 38 #[v, .int .u64 x, .int .u64 y] w fun e w'=>e= .returned (.int .u64 (x*y%p))∧ ∃n,w'=w.drewN n:=by
 obtain ⟨b,c,t,o,s,sv,rfl,hb,hc,hF⟩:=h
 have f0:=hF.f0
 have m1:=hF.ctx.m1
 have m2:=hF.ctx.m2
 have hr:=zK6 (show 1≤p by omega) x
 have fin:Hid (lft p x*y*Mont.rinv p%p=x*y%p):=Lib.hid (zK3 (by omega) hF.ctx.mo)
 have hI:=Lib.hid (fun n=>zJd (hF.ctx.drewN n) x hx0 hx)
 have hM:=Lib.hid (fun n=>zLA (hF.ctx.drewN n) (lft p x) y hr.1 (by omega) hy0 hy)
 obtain ⟨z,hz⟩: ∃z,z=lft p x:=⟨_,rfl⟩
 rw [←hz] at fin hM hI
 clear hz hr
 go_enter Tryz.func38,Tryz.ntmps38
 go_wp2_with fail
 go_quiet ((first|(go_at_call 85;exact Calls.quiet_of (hI.out _))|(go_at_call 84;exact Calls.quiet_of (hM.out _))))
 go_wp2
 go_ret
 exact ⟨zRD fin.out,_,rfl⟩
theorem zHB (h:Fd w B v p g) (x y:Int) (hx0:0≤x) (hx:x≤18446744073709551615) (hy0:0≤y) (hy:y≤18446744073709551615):
  Calls Tryz.prog 222 #[v, .int .u64 x, .int .u64 y] w fun e w'=>e= .returned (.int .u64 (x^y.toNat%p))∧ ∃n,w'=w.drewN n:=by
 obtain ⟨b,c,t,o,s,sv,rfl,hb,hc,hF⟩:=h
 have f0:=hF.f0
 have m1:=hF.ctx.m1
 have m2:=hF.ctx.m2
 have hr:=zK6 (show 1≤p by omega) (x^y.toNat)
 have fin:Hid (lft p (x^y.toNat)*Mont.rinv p%p=x^y.toNat%p):=Lib.hid (by
  have:=zK3 (a:=x^y.toNat) (y:=1) (show 1<p by omega) hF.ctx.mo
  simpa using this)
 have hI:=Lib.hid (fun n=>zJd (hF.ctx.drewN n) x hx0 hx)
 have hP:=Lib.hid (fun n=>zLU (hF.ctx.drewN n) x y hy0 hy)
 have hO:=Lib.hid (fun n=>zN0 (hF.ctx.drewN n) (lft p (x^y.toNat)) hr.1 (by omega))
 obtain ⟨z,hz⟩: ∃z,z=lft p x:=⟨_,rfl⟩
 obtain ⟨z2,hz2⟩: ∃z2,z2=lft p (x^y.toNat):=⟨_,rfl⟩
 obtain ⟨z3,hz3⟩: ∃z3,z3=x^y.toNat%p:=⟨_,rfl⟩
 rw [←hz] at hI hP
 rw [←hz2] at fin hP hO
 rw [←hz3] at fin ⊢
 clear hz hz2 hz3 hr
 go_enter Tryz.func222,Tryz.ntmps222
 go_wp2_with fail
 go_quiet ((first|(go_at_call 85;exact Calls.quiet_of (hI.out _))|(go_at_call 216;exact Calls.quiet_of (hP.out _))|(go_at_call 237;exact Calls.quiet_of (hO.out _))))
 go_wp2
 go_ret
 exact ⟨zRD fin.out,_,rfl⟩
def zAw (p x t:Int):Prop:=(Nat.gcd p.toNat (x%p).toNat=1∧0≤t∧t<p∧t*x%p=1)∨(Nat.gcd p.toNat (x%p).toNat≠1∧t=0)
def zAn (p x:Int) (w:World) (r:Ending) (w':World):Prop:=
 (∃n,w'=w.drewN n)∧ ∃t,r= .returned (.int .u64 t)∧zAw p x t
theorem zAw.range {p x t:Int} (hp:1≤p) (h:zAw p x t):0≤t∧t<p:=by
 rcases h with ⟨_,a,b,_⟩|⟨_,rfl⟩
 ·exact ⟨a,b⟩
 ·omega
theorem zGV (h:Fd w B v p g) (x:Int) (hx0:0≤x) (hx:x≤18446744073709551615):
  Calls Tryz.prog 173 #[v, .int .u64 x] w (zAn p x w):=by
 have p3:=h.p3
 have pm:=h.pmx
 have hP:=Lib.hid (zG6 h)
 have hI:=Lib.hid (zLK x p w hx0 hx (by omega) (by omega))
 clear h
 go_enter Tryz.func173,Tryz.ntmps173
 go_wp2_with fail
 refine hP.out.mono ?_
 rintro e w1 ⟨rfl,rfl⟩
 go_wp2_with fail
 refine hI.out.mono ?_
 rintro e w1 ⟨⟨n,rfl⟩,⟨hg,t,rfl,t0,t1,ht⟩|⟨hg,rfl⟩⟩
 ·have HG:=Lib.hid (And.intro hg ht)
  clear hg ht
  go_wp2
  go_ret
  exact ⟨⟨_,rfl⟩,t,rfl, .inl ⟨HG.out.1,t0,t1,HG.out.2⟩⟩
 ·have HG:=Lib.hid hg
  clear hg
  go_wp2
  go_ret
  exact ⟨⟨_,rfl⟩,0,rfl, .inr ⟨HG.out,rfl⟩⟩
theorem zHE (h:Fd w B v p g) (n:Int) (h0: -9223372036854775808≤n) (h1:n≤9223372036854775807) (hd:(decide (0<n) && ((p-1)%n == 0))=true) (g0:0≤g) (g1:g<p):
  Calls Tryz.prog 207 #[v, .int .i64 n] w fun e w'=>e= .returned (.tuple #[.int .u64 (g^((p-1)/n).toNat%p), .int .i64 0])∧ ∃k,w'=w.drewN k:=by
 have hD:=Lib.hid (zFG h n h0 h1)
 have p3:=h.p3
 have pm:=h.pmx
 rw [hd] at hD
 have hn:0<n:=by
  simp only [Bool.and_eq_true,decide_eq_true_eq] at hd
  exact hd.1
 have q0:0≤(p-1)/n:=Int.ediv_nonneg (by omega) (by omega)
 have q1:(p-1)/n≤p-1:=Int.ediv_le_self _ (by omega)
 have tn:(n == 0)=false:=beq_eq_false_iff_ne.2 (by omega)
 have hPw:=Lib.hid (fun k=>zHB (h.drewN k) g ((p-1)/n) g0 (by omega) q0 (by omega))
 obtain ⟨z,hz⟩: ∃z,z=g^((p-1)/n).toNat%p:=⟨_,rfl⟩
 rw [←hz] at hPw ⊢
 clear hd hz
 obtain ⟨b,c,t,o,s,sv,rfl,hb,hc,hF⟩:=h
 have f1:=hF.f1
 have f2:=hF.f2
 have e1:IntKind.u64.wrap (p-1)=p-1:=IntWalk.u64_in _ (by omega)
 have e2:0≤p-1:=by omega
 go_enter Tryz.func207,Tryz.ntmps207
 go_wp2_with fail
 refine hD.out.mono ?_
 rintro e w1 ⟨rfl,rfl⟩
 go_wp2_with fail
 go_quiet ((go_at_call 222;exact Calls.quiet_of (hPw.out _)))
 go_wp2
 go_ret2
 exact ⟨rfl,_,rfl⟩
end
end

section
/- dft: Check, Good, Scale; the document's Check, Good. -/
open Go.RowKit
theorem zJt:(Tryz.prog.info? 22).map (fun i=>(i.zero,i.size,i.bytes))=some (some (.int .u64 0),1,8):=by kernel_rfl
def chk (p n most:Int):Int:=if n<1 then 1 else if most<n then 13 else if (p-1)%n=0 then 0 else 4
theorem zDT {w:World} {B:Nat} {v:Value} {p g:Int} (h:Fd w B v p g) (n most:Int) (h0: -9223372036854775808≤n) (h1:n≤9223372036854775807):
  Calls Tryz.prog 102 #[v, .int .i64 n, .int .i64 most] w fun e w'=>e= .returned (.int .i64 (chk p n most))∧w=w':=by
 have hD:=Lib.hid (zFG h n h0 h1)
 obtain ⟨b,c,t,o,s,sv,rfl,hb,hc,hF⟩:=h
 by_cases c1:n<1
 ·have HC:Hid (chk p n most=1):=Lib.hid (by unfold chk;rw [if_pos c1])
  go_enter Tryz.func102,Tryz.ntmps102
  go_wp2
  go_ret
  exact ⟨zRD HC.out.symm,rfl⟩
 ·by_cases c2:most<n
  ·have HC:Hid (chk p n most=13):=Lib.hid (by unfold chk;rw [if_neg c1,if_pos c2])
   have t2:decide (most<n)=true:=by simpa using c2
   go_enter Tryz.func102,Tryz.ntmps102
   go_wp2
   go_ret
   exact ⟨zRD HC.out.symm,rfl⟩
  ·have hp:decide (0<n)=true:=by simp;omega
   have t2:decide (most<n)=false:=by simpa using c2
   by_cases c3:(p-1)%n=0
   ·have HC:Hid (chk p n most=0):=Lib.hid (by unfold chk;rw [if_neg c1,if_neg c2,if_pos c3])
    have hb:(decide (0<n) && ((p-1)%n == 0))=true:=by rw [hp,c3];rfl
    rw [hb] at hD
    clear c3 hb
    go_enter Tryz.func102,Tryz.ntmps102
    go_wp2_with fail
    refine hD.out.mono ?_
    rintro e w1 ⟨rfl,rfl⟩
    go_wp2
    go_ret
    exact ⟨zRD HC.out.symm,rfl⟩
   ·have HC:Hid (chk p n most=4):=Lib.hid (by unfold chk;rw [if_neg c1,if_neg c2,if_neg c3])
    have hb:(decide (0<n) && ((p-1)%n == 0))=false:=by rw [hp];simpa using c3
    rw [hb] at hD
    clear c3 hb
    go_enter Tryz.func102,Tryz.ntmps102
    go_wp2_with fail
    refine hD.out.mono ?_
    rintro e w1 ⟨rfl,rfl⟩
    go_wp2
    go_ret
    exact ⟨zRD HC.out.symm,rfl⟩
theorem zP8 (p n most:Int) (w:World) (p1:3≤p) (p2:p<9223372036854775808) (h0: -9223372036854775808≤n) (h1:n≤9223372036854775807):
  Calls Tryz.prog 21 #[.int .u64 p, .int .i64 n, .int .i64 most] w fun e w'=>e= .returned (.int .i64 (chk p n most))∧w=w':=by
 by_cases c1:n<1
 ·have HC:Hid (chk p n most=1):=Lib.hid (by unfold chk;rw [if_pos c1])
  go_enter Tryz.func21,Tryz.ntmps21
  go_wp2
  go_ret
  exact ⟨zRD HC.out.symm,rfl⟩
 ·by_cases c2:most<n
  ·have HC:Hid (chk p n most=13):=Lib.hid (by unfold chk;rw [if_neg c1,if_pos c2])
   have t2:decide (most<n)=true:=by simpa using c2
   go_enter Tryz.func21,Tryz.ntmps21
   go_wp2
   go_ret
   exact ⟨zRD HC.out.symm,rfl⟩
  ·have hz:(n == 0)=false:=beq_eq_false_iff_ne.2 (by omega)
   have t2:decide (most<n)=false:=by simpa using c2
   by_cases c3:(p-1)%n=0
   ·have HC:Hid (chk p n most=0):=Lib.hid (by unfold chk;rw [if_neg c1,if_neg c2,if_pos c3])
    have hb:((p-1)%n != 0)=false:=by simp [c3]
    clear c3
    go_enter Tryz.func21,Tryz.ntmps21
    go_wp2
    go_ret
    exact ⟨zRD HC.out.symm,rfl⟩
   ·have HC:Hid (chk p n most=4):=Lib.hid (by unfold chk;rw [if_neg c1,if_neg c2,if_neg c3])
    have hb:((p-1)%n != 0)=true:=by simp [c3]
    clear c3
    go_enter Tryz.func21,Tryz.ntmps21
    go_wp2
    go_ret
    exact ⟨zRD HC.out.symm,rfl⟩
def zI1 (p:Int) (L:List Int):Bool:=L.all fun x=>decide (x<p)
theorem zI3 {p:Int} {L:List Int} {k:Nat} (hk:k<L.length) (h:zI1 p (L.take k)=true):zI1 p (L.take (k+1))=decide (L.getD k 0<p):=by
 unfold zI1 at *
 rw [List.take_succ_eq_append_getElem hk,List.all_append,h,List.getD_eq_getElem?_getD,List.getElem?_eq_getElem hk];simp
theorem zI2 {p:Int} {L:List Int} {k:Nat} (hk:k<L.length) (h: ¬L.getD k 0<p):zI1 p L=false:=by
 unfold zI1
 rw [List.all_eq_false]
 exact ⟨L[k],List.getElem_mem hk,by rw [List.getD_eq_getElem?_getD,List.getElem?_eq_getElem hk] at h;simpa using h⟩
def U64s (L:List Int):Prop:= ∀x ∈ L,0≤x∧x≤18446744073709551615
theorem U64s.at {L:List Int} (h:U64s L) {k:Nat} (hk:k<L.length):0≤L.getD k 0∧L.getD k 0≤18446744073709551615:=by
 rw [List.getD_eq_getElem?_getD,List.getElem?_eq_getElem hk];exact h _ (List.getElem_mem hk)
set_option maxHeartbeats 400000 in
theorem zI6 {w:World} {B:Nat} {v:Value} {p g:Int} (h:Fd w B v p g) (A:Option Addr) (c n:Nat) (L:List Int) (hl:L.length≤140737488351232) (hU:U64s L) (hR:RdI w n .u64 A L):
  Calls Tryz.prog 120 #[v, .slice A L.length c] w fun e w'=>e= .returned (.bool (zI1 p L))∧w=w':=by
 have hG:=Lib.hid (fun x h0 h1=>zGS h x h0 h1)
 obtain ⟨bf,cf,t,o,s,sv,rfl,hb,hc,hF⟩:=h
 have HU:=Lib.hid hU
 clear hF hU
 go_enter Tryz.func120,Tryz.ntmps120
 go_wp2
 go_loopw [6,9] (fun _ I wr=> ∃k:Nat,I= .int .i64 k∧k≤L.length∧Hid (zI1 p (L.take k)=true)∧wr=w) (fun _ I _=>L.length-(intOf I).toNat)
 case atStart=>exact ⟨0,rfl,by omega,Lib.hid rfl,rfl⟩
 case round=>
  obtain ⟨k,rfl,hk,hg,rfl⟩:=hrel
  by_cases hlt:k<L.length
  ·obtain ⟨b,o',rfl,hbl,hcell⟩:=hR (by omega)
   have d:=hcell k hlt
   obtain ⟨x,hx⟩: ∃x,x=L.getD k 0:=⟨_,rfl⟩
   have hu:=HU.out.at hlt
   have hs:=zI3 hlt hg.out
   have hno:=fun h=>zI2 (p:=p) hlt h
   rw [←hx] at d hu hs hno
   clear hx hcell hR
   by_cases hxp:x<p
   ·have HS:Hid (zI1 p (L.take (k+1))=true):=Lib.hid (by rw [hs];simpa using hxp)
    have t1:decide (x<p)=true:=by simpa using hxp
    clear hs hno
    go_wp2_with fail
    refine (hG.out x hu.1 hu.2).mono ?_
    rintro e w1 ⟨rfl,rfl⟩
    go_wp2
    go_roundw
    case rel=>exact ⟨k+1,by go_num,by omega,HS,by trivial⟩
    case measure=>simp [intOf];omega
   ·have HS:Hid (zI1 p L=false):=Lib.hid (hno hxp)
    have t1:decide (x<p)=false:=by simpa using hxp
    clear hs hno
    go_wp2_with fail
    refine (hG.out x hu.1 hu.2).mono ?_
    rintro e w1 ⟨rfl,rfl⟩
    go_wp2
    go_ret
    exact ⟨by rw [HS.out];first|rfl|simp,rfl⟩
  ·obtain rfl:k=L.length:=by omega
   have hz:=hg.out
   rw [List.take_length] at hz
   have HZ:=Lib.hid hz
   clear hz hg
   go_wp2
   go_ret
   exact ⟨by rw [HZ.out];first|rfl|simp,rfl⟩
theorem zP9 (A:Option Addr) (c n:Nat) (p:Int) (L:List Int) (w:World) (hl:L.length≤140737488351232) (hR:RdI w n .u64 A L):
  Calls Tryz.prog 29 #[.int .u64 p, .slice A L.length c] w fun e w'=>e= .returned (.bool (zI1 p L))∧w=w':=by
 go_enter Tryz.func29,Tryz.ntmps29
 go_wp2
 go_loopw [6,9] (fun _ I wr=> ∃k:Nat,I= .int .i64 k∧k≤L.length∧Hid (zI1 p (L.take k)=true)∧wr=w) (fun _ I _=>L.length-(intOf I).toNat)
 case atStart=>exact ⟨0,rfl,by omega,Lib.hid rfl,rfl⟩
 case round=>
  obtain ⟨k,rfl,hk,hg,rfl⟩:=hrel
  by_cases hlt:k<L.length
  ·obtain ⟨b,o',rfl,hbl,hcell⟩:=hR (by omega)
   have d:=hcell k hlt
   obtain ⟨x,hx⟩: ∃x,x=L.getD k 0:=⟨_,rfl⟩
   have hs:=zI3 hlt hg.out
   have hno:=fun h=>zI2 (p:=p) hlt h
   rw [←hx] at d hs hno
   clear hx hcell hR
   by_cases hxp:x<p
   ·have HS:Hid (zI1 p (L.take (k+1))=true):=Lib.hid (by rw [hs];simpa using hxp)
    have t1:decide (p≤x)=false:=by simp;omega
    clear hs hno
    go_wp2
    go_roundw
    case rel=>exact ⟨k+1,by go_num,by omega,HS,by trivial⟩
    case measure=>simp [intOf];omega
   ·have HS:Hid (zI1 p L=false):=Lib.hid (hno hxp)
    have t1:decide (p≤x)=true:=by simp;omega
    clear hs hno
    go_wp2
    go_ret
    exact ⟨by rw [HS.out];first|rfl|simp,rfl⟩
  ·obtain rfl:k=L.length:=by omega
   have hz:=hg.out
   rw [List.take_length] at hz
   have HZ:=Lib.hid hz
   clear hz hg
   go_wp2
   go_ret
   exact ⟨by rw [HZ.out];first|rfl|simp,rfl⟩
end

section
/- dft.Scale; twiddle: Root, Table, Lifted. -/
open Go.RowKit
def part (n:Nat) (f:Nat→Int) (k:Nat):List Int:=(List.range n).map fun j=>if j<k then f j else 0
def full (n:Nat) (f:Nat→Int):List Int:=(List.range n).map f
theorem zHS (n:Nat) (f:Nat→Int):(full n f).length=n:=by simp [full]
theorem zHR {n:Nat} {f:Nat→Int} {i:Nat} (hi:i<n):(full n f).getD i 0=f i:=by simp [full,List.getD_eq_getElem?_getD,hi]
theorem zNW (n:Nat) (f:Nat→Int):part n f 0=List.replicate n 0:=by unfold part;simp [List.map_const']
theorem zNT (n:Nat) (f:Nat→Int):part n f n=full n f:=by
 unfold part full
 exact List.map_congr_left fun j hj=>by rw [if_pos (List.mem_range.1 hj)]
theorem zLy {α:Type} (n:Nat) (f f':Nat→α) (a:Nat) (v:α) (h1:f' a=v) (h2: ∀j,j<n→j≠a→f' j=f j):((List.range n).map f).set a v=(List.range n).map f':=by
 apply List.ext_getElem
 ·simp
 ·intro j hj hj'
  rw [List.getElem_set]
  split
  ·rename_i e;subst e;simp [h1]
  ·rename_i e
   simp at hj'
   simp [h2 j hj' (fun h=>e h.symm)]
theorem zNV {n:Nat} {f:Nat→Int} {k:Nat}:(part n f k).set k (f k)=part n f (k+1):=by
 unfold part
 refine zLy _ _ _ _ _ (by rw [if_pos (by omega)]) fun j _ hj=>?_
 by_cases h:j<k
 ·rw [if_pos h,if_pos (by omega)]
 ·rw [if_neg h,if_neg (by omega)]
theorem zJ7 (k:IntKind) (xs:List Int) (j:Nat) (v:Int):(ints k xs).set j (.int k v)=ints k (xs.set j v):=by simp [ints,List.map_set]
theorem zJC (k:IntKind) (n:Nat):ints k (List.replicate n 0)=List.replicate n (.int k 0):=by simp [ints]
theorem zJ3 (k:IntKind) (xs:List Int):(ints k xs).length=xs.length:=by simp [ints]
def OwnU (w:World) (B:Nat) (v:Value) (n:Nat) (L:List Int):Prop:=w.ownsRow B 22 1 v n (ints .u64 L)
theorem OwnU.len {w:World} {B:Nat} {v:Value} {n:Nat} {L:List Int} (h:OwnU w B v n L):L.length=n:=by
 have:=h.1
 rw [zJ3] at this
 omega
theorem OwnU.rd {w:World} {B:Nat} {v:Value} {n:Nat} {L:List Int} (h:OwnU w B v n L): ∃A c,v= .slice A n c∧RdI w w.heap.size .u64 A L:=by
 have hl:=h.len
 subst hl
 exact RdI.of_own h
theorem OwnU.drewN {w:World} {B:Nat} {v:Value} {n:Nat} {L:List Int} (h:OwnU w B v n L) (k:Nat):OwnU (w.drewN k) B v n L:=h
theorem OwnU.below {w w':World} {B:Nat} {v:Value} {n:Nat} {L:List Int} (h:OwnU w B v n L) (hb:Below w.heap.size w w'):OwnU w' B v n L:=
 World.ownsRow.kept h ⟨hb.os,hb.tape,hb.output,hb.size,fun i hi _=>hb.block i hi⟩ (row:=none) (by
  rcases h.2 with ⟨e,_⟩|⟨g',cap',cur',e,_⟩
  ·exact .inl (by rw [e];rfl)
  ·exact .inr (by rw [e];simp [Value.ownBlock]))
theorem OwnU.mono {w:World} {B B':Nat} {v:Value} {n:Nat} {L:List Int} (h:OwnU w B v n L) (hb:B'≤B):OwnU w B' v n L:=
 ⟨h.1,h.2.imp id fun ⟨g,cap,cur,e1,h2,r⟩=>⟨g,cap,cur,e1,Nat.le_trans hb h2,r⟩⟩
theorem OwnU.set {w:World} {B G c n:Nat} {L:List Int} (h:OwnU w B (.slice (some ⟨G,0,none⟩) n c) n L) (k:Nat) (hk:k<n) (x:Int):
  OwnU (w.setCell ⟨G,k,none⟩ (.int .u64 x)) B (.slice (some ⟨G,0,none⟩) n c) n (L.set k x)∧w.cell? ⟨G,k,none⟩=some (.int .u64 (L.getD k 0))∧w.frozen? ⟨G,k,none⟩=false∧B≤G:=by
 have hl:=h.len
 refine ⟨?_,?_,World.ownsRow.frozenAt h k,(World.ownsRow.lt h G rfl).1⟩
 ·have:=World.ownsRow.stored h k (.int .u64 x)
  rw [zJ7] at this
  exact this.1
 ·rw [World.ownsRow.cellAt h k (by omega)]
  simp [ints,List.getD_eq_getElem?_getD,hl,hk]
set_option maxHeartbeats 1000000 in
theorem zTa {w:World} {v:Value} {p g:Int} (h:Fd w w.heap.size v p g) (A:Option Addr) (c:Nat) (L:List Int) (hl:L.length≤4294967296) (hU:U64s L) (hR:RdI w w.heap.size .u64 A L):
  Calls Tryz.prog 122 #[v, .slice A L.length c] w fun e w'=> ∃V t,e= .returned V∧zAw p L.length t∧OwnU w' w.heap.size V L.length (full L.length fun i=>t*L.getD i 0%p)∧Below w.heap.size w w':=by
 obtain ⟨i0,hi,hz0,hz1,hz2⟩:=info_parts zJt
 have p3:=h.p3
 have pm:=h.pmx
 have HU:=Lib.hid hU
 have HF:=Lib.hid h
 clear hU h
 go_enter Tryz.func122,Tryz.ntmps122
 go_wp2_with fail
 refine (zGV HF.out L.length (by omega) (by omega)).mono ?_
 rintro e w1 ⟨⟨n1,rfl⟩,t,rfl,hT⟩
 have hTr:=hT.range (by omega)
 have HT:=Lib.hid hT
 clear hT
 go_wp2_with fail
 refine (zHv (HF.out.drewN n1) t hTr.1 (by omega)).mono ?_
 rintro e w1 ⟨rfl,n2,hw1⟩
 have hB1:Below w.heap.size w w1:=by rw [hw1];exact below_drewN (below_drewN (Below.refl _ _) _) _
 clear hw1
 obtain ⟨lt,hlt⟩: ∃lt,lt=lft p t:=⟨_,rfl⟩
 rw [←hlt]
 have HLT:=Lib.hid hlt
 clear hlt
 go_wp2_with (at_make;refine wpList_make_full _ rfl _ _ 54 rfl w.heap.size 22 i0 (.int .u64 0) 1 Tryz.underlying54 hi hz0 hz1 _ _ _ _ L.length rfl rfl ?l1 ?l2 ?b2 ?b3 hB1.size ?_)
 case l1=>omega
 case l2=>omega
 case b2=>rw [hz2];omega
 case b3=>unfold maxLen;omega
 intro w3 hown hgrow
 have hown0:OwnU w3 w.heap.size (.slice (some ⟨w1.heap.size,0,none⟩) L.length L.length) L.length (part L.length (fun i=>t*L.getD i 0%p) 0):=by
  unfold OwnU
  rw [zNW,zJC,←toList_madeCells_one];exact hown
 have hB3:Below w.heap.size w w3:=hB1.grown hgrow hB1.size (fun k h=>by cases h)
 obtain ⟨G,hG⟩: ∃G,G=w1.heap.size:=⟨_,rfl⟩
 rw [←hG] at hown0
 have hGb:w.heap.size≤G:=by rw [hG];exact hB1.size
 rw [←hG]
 clear hown hgrow hB1 hG
 go_wp2
 go_loopw [21] (fun I wr=> ∃k:Nat,I= .int .i64 k∧k≤L.length∧OwnU wr w.heap.size (.slice (some ⟨G,0,none⟩) L.length L.length) L.length (part L.length (fun i=>t*L.getD i 0%p) k)∧Below w.heap.size w wr) (fun I _=>L.length-(intOf I).toNat)
 case atStart=>exact ⟨0,rfl,by omega,hown0,hB3⟩
 case round=>
  clear hown0 hB3
  obtain ⟨k,rfl,hk,hown,hB⟩:=hrel
  by_cases hlt:k<L.length
  ·obtain ⟨b,o',rfl,hbl,hcell⟩:=hR (by omega)
   have d:=zDs hB hbl (hcell k hlt)
   obtain ⟨x,hx⟩: ∃x,x=L.getD k 0:=⟨_,rfl⟩
   have hu:=HU.out.at hlt
   rw [←hx] at d hu
   have HX:=Lib.hid hx
   have hTm:=Lib.hid (zHM (HF.out.below hB) t x hu.1 hu.2)
   rw [←HLT.out] at hTm
   have HO:=Lib.hid hown
   clear hx hcell hR hown
   go_wp2_with fail
   refine hTm.out.mono ?_
   rintro e w4 ⟨rfl,n3,hw4⟩
   have hB4:Below w.heap.size w w4:=by rw [hw4];exact below_drewN hB _
   have hO4:OwnU w4 w.heap.size (.slice (some ⟨G,0,none⟩) L.length L.length) L.length (part L.length (fun i=>t*L.getD i 0%p) k):=by rw [hw4];exact HO.out.drewN _
   have d4:w4.cell? ⟨b,o'+k,none⟩=some (.int .u64 x):=by rw [hw4];exact d
   obtain ⟨hset,hce,hfr,_⟩:=hO4.set k hlt (t*x%p)
   have hps:(part L.length (fun i=>t*L.getD i 0%p) k).set k (t*x%p)=part L.length (fun i=>t*L.getD i 0%p) (k+1):=by rw [HX.out];exact zNV
   rw [hps] at hset
   have HS:=Lib.hid hset
   obtain ⟨y,hy⟩: ∃y,y=t*x%p:=⟨_,rfl⟩
   rw [←hy] at HS ⊢
   clear hw4 hO4 hps hset d hB hy
   go_wp2
   go_roundw
   case rel=>exact ⟨k+1,by go_num,by omega,HS.out,hB4.setCell hGb _⟩
   case measure=>simp [intOf];omega
  ·obtain rfl:k=L.length:=by omega
   rw [zNT] at hown
   have HO:=Lib.hid hown
   clear hown
   go_wp2
   go_ret
   exact ⟨_,t,rfl,HT.out,HO.out,hB⟩
def zAH (p g n:Int) (inv:Bool) (W:Int):Prop:=(inv=false→W=g^((p-1)/n).toNat%p)∧(inv=true→zAw p (g^((p-1)/n).toNat%p) W)
theorem zAH.range {p g n W:Int} {inv:Bool} (hp:1≤p) (h:zAH p g n inv W):0≤W∧W<p:=by
 cases inv with
 | false=>rw [h.1 rfl];exact ⟨Int.emod_nonneg _ (by omega),Int.emod_lt_of_pos _ (by omega)⟩
 | true=>exact (h.2 rfl).range hp
theorem zEq {p n most:Int} (h:chk p n most=0):1≤n∧n≤most∧(p-1)%n=0:=by
 unfold chk at h
 split at h
 ·omega
 ·split at h
  ·omega
  ·split at h
   ·exact ⟨by omega,by omega, ‹_›⟩
   ·omega
theorem zVx {w:World} {B:Nat} {v:Value} {p g:Int} (h:Fd w B v p g) (n:Int) (inv:Bool) (hn:chk p n 4096=0) (g0:0≤g) (g1:g<p):
  Calls Tryz.prog 179 #[v, .int .i64 n, .bool inv] w fun e w'=> ∃W,e= .returned (.tuple #[.int .u64 W, .int .i64 0])∧zAH p g n inv W∧ ∃k,w'=w.drewN k:=by
 have p3:=h.p3
 have pm:=h.pmx
 obtain ⟨c1,c2,c3⟩:=zEq hn
 have hd:(decide (0<n) && ((p-1)%n == 0))=true:=by rw [c3];simp;omega
 have hRt:=Lib.hid (zHE h n (by omega) (by omega) hd g0 g1)
 have t1:decide (4096<n)=false:=by simp;omega
 have w0:0≤g^((p-1)/n).toNat%p:=Int.emod_nonneg _ (by omega)
 have w1:g^((p-1)/n).toNat%p<p:=Int.emod_lt_of_pos _ (by omega)
 have hIn:=Lib.hid (fun k=>zGV (h.drewN k) (g^((p-1)/n).toNat%p) w0 (by omega))
 have HR:Hid (∀W,(inv=false→W=g^((p-1)/n).toNat%p)∧(inv=true→zAw p (g^((p-1)/n).toNat%p) W)→zAH p g n inv W):=Lib.hid (fun W h=>h)
 obtain ⟨z,hz⟩: ∃z,z=g^((p-1)/n).toNat%p:=⟨_,rfl⟩
 rw [←hz] at hRt hIn HR w0 w1
 clear hd hz c3 hn
 obtain ⟨b,c,t,o,s,sv,rfl,hb,hc,hF⟩:=h
 clear hF
 cases inv with
 | false=>
  go_enter Tryz.func179,Tryz.ntmps179
  go_wp2_with fail
  refine hRt.out.mono ?_
  rintro e w1 ⟨rfl,n1,rfl⟩
  go_wp2
  go_ret2
  exact ⟨z,rfl,HR.out z ⟨fun _=>rfl,(fun h=>by cases h)⟩,_,rfl⟩
 | true=>
  go_enter Tryz.func179,Tryz.ntmps179
  go_wp2_with fail
  refine hRt.out.mono ?_
  rintro e w1 ⟨rfl,n1,rfl⟩
  go_wp2_with fail
  refine (hIn.out n1).mono ?_
  rintro e w1 ⟨⟨n2,rfl⟩,t,rfl,ht⟩
  have HT:=Lib.hid ht
  clear ht
  go_wp2
  go_ret2
  exact ⟨t,rfl,HR.out t ⟨(fun h=>by cases h),fun _=>HT.out⟩,_,rfl⟩
set_option maxHeartbeats 1000000 in
theorem zU2 {w:World} {v:Value} {p g:Int} (h:Fd w w.heap.size v p g) (n:Nat) (inv:Bool) (hn:chk p n 4096=0) (g0:0≤g) (g1:g<p):
  Calls Tryz.prog 129 #[v, .int .i64 n, .bool inv] w fun e w'=> ∃V W,e= .returned (.tuple #[V, .int .i64 0])∧zAH p g n inv W∧OwnU w' w.heap.size V n (full n fun i=>W^i%p)∧Below w.heap.size w w':=by
 obtain ⟨i0,hi,hz0,hz1,hz2⟩:=info_parts zJt
 have p3:=h.p3
 have pm:=h.pmx
 obtain ⟨c1,c2,c3⟩:=zEq hn
 have HN:=Lib.hid hn
 have HF:=Lib.hid h
 clear h c3 hn
 go_enter Tryz.func129,Tryz.ntmps129
 go_wp2_with fail
 refine (zVx HF.out n inv HN.out g0 g1).mono ?_
 rintro e w1 ⟨W,rfl,hW,n1,rfl⟩
 have hWr:=hW.range (by omega)
 have HW:=Lib.hid hW
 clear hW
 go_wp2_with fail
 refine (zHv (HF.out.drewN n1) W hWr.1 (by omega)).mono ?_
 rintro e w1 ⟨rfl,n2,hw1⟩
 have hB1:Below w.heap.size w w1:=by rw [hw1];exact below_drewN (below_drewN (Below.refl _ _) _) _
 clear hw1
 obtain ⟨lt,hlt⟩: ∃lt,lt=lft p W:=⟨_,rfl⟩
 rw [←hlt]
 have HLT:=Lib.hid hlt
 clear hlt
 go_wp2_with (at_make;refine wpList_make_full _ rfl _ _ 54 rfl w.heap.size 22 i0 (.int .u64 0) 1 Tryz.underlying54 hi hz0 hz1 _ _ _ _ n rfl rfl ?l1 ?l2 ?b2 ?b3 hB1.size ?_)
 case l1=>omega
 case l2=>omega
 case b2=>rw [hz2];omega
 case b3=>unfold maxLen;omega
 intro w3 hown hgrow
 have hown0:OwnU w3 w.heap.size (.slice (some ⟨w1.heap.size,0,none⟩) n n) n (part n (fun i=>W^i%p) 0):=by
  unfold OwnU
  rw [zNW,zJC,←toList_madeCells_one];exact hown
 have hB3:Below w.heap.size w w3:=hB1.grown hgrow hB1.size (fun k h=>by cases h)
 obtain ⟨G,hG⟩: ∃G,G=w1.heap.size:=⟨_,rfl⟩
 rw [←hG] at hown0
 have hGb:w.heap.size≤G:=by rw [hG];exact hB1.size
 rw [←hG]
 have ex:Hid ((1:Int)=W^0%p):=Lib.hid (by rw [Int.pow_zero,Int.emod_eq_of_lt (by omega) (by omega)])
 clear hown hgrow hB1 hG
 go_wp2
 go_loopw [12,31] (fun X I wr=> ∃(k:Nat) (x:Int),X= .int .u64 x∧I= .int .i64 k∧k≤n∧0≤x∧x<p∧Hid (x=W^k%p)∧OwnU wr w.heap.size (.slice (some ⟨G,0,none⟩) n n) n (part n (fun i=>W^i%p) k)∧Below w.heap.size w wr) (fun _ I _=>n-(intOf I).toNat)
 case atStart=>exact ⟨0,1,rfl,rfl,by omega,by omega,by omega,ex,hown0,hB3⟩
 case round=>
  clear hown0 hB3
  obtain ⟨k,x,rfl,rfl,hk,x0,x1,hx,hown,hB⟩:=hrel
  by_cases hlt:k<n
  ·obtain ⟨hset,hce,hfr,_⟩:=hown.set k hlt x
   have hps:(part n (fun i=>W^i%p) k).set k x=part n (fun i=>W^i%p) (k+1):=by rw [hx.out];exact zNV
   rw [hps] at hset
   have HS:=Lib.hid hset
   have hB4:Below w.heap.size w (wr.setCell ⟨G,k,none⟩ (.int .u64 x)):=hB.setCell hGb _
   have y0:=Int.emod_nonneg (W*x) (show p≠0 by omega)
   have y1:=Int.emod_lt_of_pos (W*x) (show 0<p by omega)
   have hnx:Hid (W*x%p=W^(k+1)%p):=Lib.hid (by rw [hx.out,Int.mul_emod,Int.emod_emod,←Int.mul_emod,Int.pow_succ,Int.mul_comm])
   have hTm:=Lib.hid (fun wz (hb:Below w.heap.size w wz)=>zHM (HF.out.below hb) W x x0 (by omega))
   rw [←HLT.out] at hTm
   obtain ⟨y,hy⟩: ∃y,y=W*x%p:=⟨_,rfl⟩
   rw [←hy] at y0 y1 hnx hTm
   clear hown hps hset hy
   go_wp2_with fail
   refine (hTm.out _ hB4).mono ?_
   rintro e w4 ⟨rfl,n3,rfl⟩
   go_wp2
   go_roundw
   case rel=>exact ⟨k+1,y,rfl,by go_num,by omega,y0,y1,hnx,HS.out.drewN _,below_drewN hB4 _⟩
   case measure=>simp [intOf];omega
  ·obtain rfl:k=n:=by omega
   rw [zNT] at hown
   have HO:=Lib.hid hown
   clear hown
   go_wp2
   go_ret2
   exact ⟨_,W,rfl,HW.out,HO.out,hB⟩
set_option maxHeartbeats 1000000 in
theorem zKA {w:World} {v:Value} {p g:Int} (h:Fd w w.heap.size v p g) (n:Nat) (inv:Bool) (hn:chk p n 4096=0) (g0:0≤g) (g1:g<p):
  Calls Tryz.prog 115 #[v, .int .i64 n, .bool inv] w fun e w'=> ∃V W,e= .returned (.tuple #[V, .int .i64 0])∧zAH p g n inv W∧OwnU w' w.heap.size V n (full n fun i=>lft p (W^i))∧Below w.heap.size w w':=by
 have p3:=h.p3
 have pm:=h.pmx
 obtain ⟨c1,c2,c3⟩:=zEq hn
 have HN:=Lib.hid hn
 have HF:=Lib.hid h
 clear h c3 hn
 go_enter Tryz.func115,Tryz.ntmps115
 go_wp2_with fail
 refine (zU2 HF.out n inv HN.out g0 g1).mono ?_
 rintro e w1 ⟨V,W,rfl,hW,hown,hB1⟩
 have HW:=Lib.hid hW
 have hform: ∃G c,V= .slice (some ⟨G,0,none⟩) n c:=by
  rcases hown.2 with ⟨_,h0⟩|⟨g',cap',cur',e,_⟩
  ·omega
  ·exact ⟨g',cap',e⟩
 obtain ⟨G,c,rfl⟩:=hform
 have hGb:w.heap.size≤G:=(hown.set 0 (by omega) 0).2.2.2
 have hown0:OwnU w1 w.heap.size (.slice (some ⟨G,0,none⟩) n c) n ((List.range n).map fun j=>if j<0 then lft p (W^j) else W^j%p):=by
  have:((List.range n).map fun j=>if j<0 then lft p (W^j) else W^j%p)=full n fun i=>W^i%p:=by
   unfold full
   exact List.map_congr_left fun j _=>by rw [if_neg (by omega)]
  rw [this];exact hown
 clear hW hown
 go_wp2
 go_loopw [21] (fun I wr=> ∃k:Nat,I= .int .i64 k∧k≤n∧OwnU wr w.heap.size (.slice (some ⟨G,0,none⟩) n c) n ((List.range n).map fun j=>if j<k then lft p (W^j) else W^j%p)∧Below w.heap.size w wr) (fun I _=>n-(intOf I).toNat)
 case atStart=>exact ⟨0,rfl,by omega,hown0,hB1⟩
 case round=>
  clear hown0 hB1
  obtain ⟨k,rfl,hk,hown,hB⟩:=hrel
  by_cases hlt:k<n
  ·have d:=(hown.set k hlt 0).2.1
   have hx:((List.range n).map fun j=>if j<k then lft p (W^j) else W^j%p).getD k 0=W^k%p:=by simp [List.getD_eq_getElem?_getD,hlt]
   rw [hx] at d
   have x0:=Int.emod_nonneg (W^k) (show p≠0 by omega)
   have x1:=Int.emod_lt_of_pos (W^k) (show 0<p by omega)
   have hLf:=Lib.hid (zHv (HF.out.below hB) (W^k%p) x0 (by omega))
   rw [zK2] at hLf
   obtain ⟨x,hxe⟩: ∃x,x=W^k%p:=⟨_,rfl⟩
   obtain ⟨y,hy⟩: ∃y,y=lft p (W^k):=⟨_,rfl⟩
   rw [←hxe] at d hLf
   rw [←hy] at hLf
   have HO:=Lib.hid hown
   have HY:=Lib.hid hy
   clear hx hown hxe hy
   go_wp2_with fail
   refine hLf.out.mono ?_
   rintro e w4 ⟨rfl,n3,hw4⟩
   have hB4:Below w.heap.size w w4:=by rw [hw4];exact below_drewN hB _
   have hO4:OwnU w4 w.heap.size (.slice (some ⟨G,0,none⟩) n c) n ((List.range n).map fun j=>if j<k then lft p (W^j) else W^j%p):=by rw [hw4];exact HO.out.drewN _
   obtain ⟨hset,hce,hfr,_⟩:=hO4.set k hlt y
   have hps:((List.range n).map fun j=>if j<k then lft p (W^j) else W^j%p).set k y=(List.range n).map fun j=>if j<k+1 then lft p (W^j) else W^j%p:=
    zLy _ _ _ _ _ (by rw [if_pos (by omega),HY.out]) fun j _ hj=>by
     by_cases h:j<k
     ·rw [if_pos h,if_pos (by omega)]
     ·rw [if_neg h,if_neg (by omega)]
   rw [hps] at hset
   have HS:=Lib.hid hset
   clear hw4 hO4 hps hset d hB
   go_wp2
   go_roundw
   case rel=>exact ⟨k+1,by go_num,by omega,HS.out,hB4.setCell hGb _⟩
   case measure=>simp [intOf];omega
  ·obtain rfl:k=n:=by omega
   have he:((List.range k).map fun j=>if j<k then lft p (W^j) else W^j%p)=full k fun i=>lft p (W^i):=by
    unfold full
    exact List.map_congr_left fun j hj=>by rw [if_pos (List.mem_range.1 hj)]
   rw [he] at hown
   have HO:=Lib.hid hown
   clear hown he
   go_wp2
   go_ret2
   exact ⟨_,W,rfl,HW.out,HO.out,hB⟩
end

section
/- rader.Fits; the document's Fits of layer 16. -/
open Go.RowKit
open Alg
theorem zSs (n:Int):0≤rpad n∧rpad n≤4096:=by
 unfold rpad pd
 repeat (first|omega|split)
theorem zHq {w:World} {v:Value} {p g:Int} (h:Fd w w.heap.size v p g) (n:Int) (h0: -9223372036854775808≤n) (h1:n≤9223372036854775807):
  Calls Tryz.prog 128 #[v, .int .i64 n] w fun e w'=>e= .returned (.bool (decide (0<rpad n) && ((p-1)%rpad n == 0)))∧Below w.heap.size w w':=by
 obtain ⟨r0,r1⟩:=zSs n
 go_enter Tryz.func128,Tryz.ntmps128
 go_wp2_with fail
 refine (zSr _ _ h0 h1).mono ?_
 rintro e w1 ⟨rfl,hB1⟩
 have hF:=h.below hB1
 go_wp2_with fail
 refine (zFG hF _ (by omega) (by omega)).mono ?_
 rintro e w2 ⟨rfl,rfl⟩
 go_wp2
 go_ret
 exact ⟨rfl,hB1⟩
end
end Go.Proofs.YtmalmijdjhkklaaGreat
