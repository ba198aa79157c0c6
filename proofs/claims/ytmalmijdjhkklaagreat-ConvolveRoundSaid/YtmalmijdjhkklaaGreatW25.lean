/- slices.Clone at powers; proof.Claim; field.New. -/
import Derived.Test.YtmalmijdjhkklaaGreatW14
import Derived.Test.YtmalmijdjhkklaaGreatW10
import Derived.Test.YtmalmijdjhkklaaGreatW1
import Derived.Test.YtmalmijdjhkklaaGreatW5
import Derived.Test.YtmalmijdjhkklaaGreatW9
set_option linter.unusedVariables false
set_option linter.unusedSimpArgs false
set_option linter.unusedSectionVars false
set_option maxRecDepth 100000
set_option maxHeartbeats 16000000
namespace Go.Proofs.YtmalmijdjhkklaaGreat
section
open Go.RowKit
def zO4 (fs:List (Int×Int)):List Value:=fs.flatMap fun x=> [.int .u64 x.1, .int .i64 x.2]
theorem zO8 (fs:List (Int×Int)):(zO4 fs).length=fs.length*2:=by
 induction fs with
 | nil=>rfl
 | cons x t ih=>simp only [zO4,List.flatMap_cons,List.length_append] at *;simp [ih];omega
theorem zO6 (fs:List (Int×Int)) (b o:Nat) (w:World) (h: ∀j,j<fs.length→w.cell? ⟨b,o+j*2,none⟩=some (.int .u64 (fs.getD j (0,0)).1)∧w.cell? ⟨b,o+j*2+1,none⟩=some (.int .i64 (fs.getD j (0,0)).2)):
  ∀j u,(zO4 fs)[j]? =some u→w.cell? ⟨b,o+j,none⟩=some u:=by
 induction fs generalizing o with
 | nil=>intro j u hj;simp [zO4] at hj
 | cons x t ih=>
  have e:zO4 (x :: t)= .int .u64 x.1 :: .int .i64 x.2 :: zO4 t:=by simp [zO4]
  intro j u hj
  rw [e] at hj
  have h0:=h 0 (by simp)
  match j,hj with
  | 0,hj=>simp at hj;subst hj;simpa using h0.1
  | 1,hj=>simp at hj;subst hj;simpa using h0.2
  | j+2,hj=>
   have:=ih (o+2) (fun j hj=>by
    have:=h (j+1) (by simpa using hj)
    simp only [List.getD_cons_succ] at this
    rw [show o+2+j*2=o+(j+1)*2 by omega]
    exact this) j u (by simpa using hj)
   rw [show o+(j+2)=o+2+j by omega]
   exact this
theorem zO9 (fs:List (Int×Int)): ∀u ∈ zO4 fs,u.oneCell'=true:=by
 intro u hu
 obtain ⟨x,_,hx⟩:=List.mem_flatMap.1 hu
 simp at hx
 rcases hx with rfl|rfl <;> rfl
theorem zE3 (A:Option Addr) (c:Nat) (fs:List (Int×Int)) (w:World) (hl:fs.length≤8796093022208) (hR:RdPI w w.heap.size A fs):
  Calls Tryz.prog 162 #[.slice A fs.length c] w fun r w'=> ∃A' c',r= .returned (.slice A' fs.length c')∧Below w.heap.size w w':=by
 obtain ⟨i0,hi,hz0,hz1,hz2⟩:=info_parts zJp
 have hnil: ∀(W:World) (a:Option Addr) (n c:Nat),(binOp .eql 113 (.slice a n c) (.slice none 0 0)).run Tryz.prog W= .ok (.bool a.isNone) W:=fun W a n c=>Lib.run_eql_slice_nil W 113 153 a n c 0 0 Tryz.underlying113
 rcases A with _|ad
 ·have h1:fs.length=0:=by
   rcases Nat.eq_zero_or_pos fs.length with h|h
   ·exact h
   ·obtain ⟨b,o,h,_⟩:=hR h
    cases h
  have hf:fs= []:=List.eq_nil_of_length_eq_zero h1
  subst hf
  go_enter Tryz.func162,Tryz.ntmps162
  go_wp2
  go_ret
  exact ⟨none,0,rfl,Below.refl _ _⟩
 ·have hcells: ∀j u,(zO4 fs)[j]? =some u→w.cell? (ad.add j)=some u:=by
   intro j u hu
   rcases Nat.eq_zero_or_pos fs.length with h|h
   ·have hf:fs= []:=List.eq_nil_of_length_eq_zero h
    subst hf
    simp [zO4] at hu
   ·obtain ⟨b,o,h,_,hc⟩:=hR h
    injection h with h
    subst h
    have:=zO6 fs b o w hc j u hu
    rw [←this]
    congr 1
    unfold Addr.add;split <;> simp_all
  go_enter Tryz.func162,Tryz.ntmps162
  have hown:(w.alloc (.cells #[] 153)).ownsRow w.heap.size 153 2 (.slice (some ⟨w.heap.size,0,none⟩) 0 0) 0 []:=World.ownsRow_lit w #[] 0 (Nat.le_refl _) (by unfold maxLen;omega) rfl
  have hB:=(Below.refl w.heap.size w).alloc (Nat.le_refl _) (.cells #[] 153)
  have hcells2: ∀j u,(zO4 fs)[j]? =some u→(w.alloc (.cells #[] 153)).cell? (ad.add j)=some u:=fun j u hu=>by
   have h1:=hcells j u hu
   exact (hB.cell (World.block_lt_of_cell? w _ h1)).trans h1
  have HC:=zy hcells2
  clear hcells hcells2
  go_wp2_with (at_builtin;refine wpList_append_own _ rfl _ _ 113 rfl w.heap.size 153 i0 (.agg #[.int .u64 0, .int .i64 0]) 2 16 Tryz.underlying113 hi hz0 hz1 hz2 rfl (by decide) _ 0 [] rfl hown ad fs.length c (zO4 fs) rfl ?c0 HC.out (zO9 fs) ?c3 ?c4 ?c5 ?_)
  case c0=>exact zO8 fs
  case c3=>unfold maxLen;omega
  case c4=>omega
  case c5=>simp
  intro v' w1 hown' hgrow _
  obtain ⟨A',c',rfl⟩: ∃A' c',v'= .slice A' fs.length c':=by
   rcases hown'.2 with ⟨rfl,hl⟩|⟨g,cap,cur,rfl,_⟩
   ·exact ⟨none,0,by rw [show fs.length=0 by omega]⟩
   ·exact ⟨_,cap,rfl⟩
  have hB2:Below w.heap.size w w1:=hB.grown hgrow (by simp) (fun k hk=>by simp [Value.ownBlock] at hk;omega)
  clear hown' hown hgrow
  go_wp2
  go_ret
  exact ⟨A',c',rfl,hB2⟩
theorem zUM {w':World} {b:Nat} {v0 v1 v2 o0 o1 o2:Value} (h0:w'.cell? ⟨b,0,none⟩=some o0) (h1:w'.cell? ⟨b,1,none⟩=some o1) (h2:w'.cell? ⟨b,2,none⟩=some o2):
  (((w'.setCell ⟨b,0,none⟩ v0).setCell ⟨b,1,none⟩ v1).setCell ⟨b,2,none⟩ v2).cell? ⟨b,0,none⟩=some v0∧
  (((w'.setCell ⟨b,0,none⟩ v0).setCell ⟨b,1,none⟩ v1).setCell ⟨b,2,none⟩ v2).cell? ⟨b,1,none⟩=some v1∧
  (((w'.setCell ⟨b,0,none⟩ v0).setCell ⟨b,1,none⟩ v1).setCell ⟨b,2,none⟩ v2).cell? ⟨b,2,none⟩=some v2:=by
 have ne: ∀i j:Nat,i≠j→(⟨b,i,none⟩:Addr)≠⟨b,j,none⟩:=fun i j h e=>h (by injection e)
 have g1:(w'.setCell ⟨b,0,none⟩ v0).cell? ⟨b,1,none⟩=some o1:=by rw [World.cell?_setCell_other _ _ _ _ (ne _ _ (by omega))];exact h1
 have g2:((w'.setCell ⟨b,0,none⟩ v0).setCell ⟨b,1,none⟩ v1).cell? ⟨b,2,none⟩=some o2:=by
  rw [World.cell?_setCell_other _ _ _ _ (ne _ _ (by omega)),World.cell?_setCell_other _ _ _ _ (ne _ _ (by omega))];exact h2
 refine ⟨?_,?_,World.cell?_setCell_same _ _ _ g2⟩
 ·rw [World.cell?_setCell_other _ _ _ _ (ne _ _ (by omega)),World.cell?_setCell_other _ _ _ _ (ne _ _ (by omega))]
  exact World.cell?_setCell_same _ _ _ h0
 ·rw [World.cell?_setCell_other _ _ _ _ (ne _ _ (by omega))]
  exact World.cell?_setCell_same _ _ _ g1
def zAj (es:List Ent) (p:Int) (w:World) (r:Ending) (w':World):Prop:=
 ((∀e ∈ es,e.p≠p)∧r= .returned (.tuple #[.agg #[.int .u64 0, .int .u64 0, .slice none 0 0], .bool false])∧Below w.heap.size w w')∨
 (∃k A' c',∃n:Nat,k<es.length∧(es.getD k Ent.none).p=p∧(∀j,j<k→(es.getD j Ent.none).p≠p)∧r= .returned (.tuple #[.agg #[.int .u64 p, .int .u64 (es.getD k Ent.none).g, .slice A' n c'], .bool true])∧Below w.heap.size w w')
theorem zE0 (A:Option Addr) (c:Nat) (es:List Ent) (p:Int) (w:World) (hl:es.length≤32) (hlc:es.length≤c) (hR:RdE w w.heap.size A es) (hE: ∀e ∈ es,zAm e)
  (hck: ∀j,j<es.length→zAG (es.take j) (es.getD j Ent.none)):
  Calls Tryz.prog 100 #[.slice A es.length c, .int .u64 p] w (zAj es p w):=by
 have hB0:=(Below.refl w.heap.size w).alloc (Nat.le_refl _) (.cells #[.int .u64 0, .int .u64 0, .slice none 0 0] 115)
 have HCK:=zy hck
 clear hck
 go_enter Tryz.func100,Tryz.ntmps100
 go_wp2_with fail
 have z0:(w.alloc (.cells #[.int .u64 0, .int .u64 0, .slice none 0 0] 115)).cell? ⟨w.heap.size,0,none⟩=some (.int .u64 0):=World.cell?_alloc_at _ _ _ _ rfl
 have z1:(w.alloc (.cells #[.int .u64 0, .int .u64 0, .slice none 0 0] 115)).cell? ⟨w.heap.size,1,none⟩=some (.int .u64 0):=World.cell?_alloc_at _ _ _ _ rfl
 have z2:(w.alloc (.cells #[.int .u64 0, .int .u64 0, .slice none 0 0] 115)).cell? ⟨w.heap.size,2,none⟩=some (.slice none 0 0):=World.cell?_alloc_at _ _ _ _ rfl
 have y0: ∀o,(w.alloc (.cells #[.int .u64 0, .int .u64 0, .slice none 0 0] 115)).frozen? ⟨w.heap.size,o,none⟩=false:=fun o=>World.frozen?_alloc_at _ _ _ _ rfl
 have hsz:w.heap.size+1≤(w.alloc (.cells #[.int .u64 0, .int .u64 0, .slice none 0 0] 115)).heap.size:=by simp
 generalize w.alloc (.cells #[.int .u64 0, .int .u64 0, .slice none 0 0] 115)=w0 at *
 have hR0:=(hR.below hB0).mono (show w.heap.size≤w0.heap.size by omega)
 refine (check_any A c es w0 (by omega) hlc hR0 hE).mono ?_
 rintro r w1 ⟨i,er,rfl,hcr,hB1⟩
 obtain ⟨rfl,rfl⟩:i=0∧er=0:=hcr.unique (.inr (.inr ⟨hl,rfl,rfl,HCK.out⟩))
 have x0:=zDs hB1 (by omega) z0
 have x1:=zDs hB1 (by omega) z1
 have x2:=zDs hB1 (by omega) z2
 have f0:=zHK hB1 (by omega) (y0 0)
 have f1:=zHK hB1 (by omega) (y0 1)
 have f2:=zHK hB1 (by omega) (y0 2)
 have hR1:=(hR0.below hB1).mono hB1.size
 have hBw:Below w.heap.size w w1:=hB0.trans (hB1.mono (by omega))
 have hs1:w.heap.size+1≤w1.heap.size:=by have:=hB1.size;omega
 clear hcr z0 z1 z2 y0 hR0 hB1 hB0 hR hsz
 go_wp2
 go_loopw [20] (fun I wr=> ∃k:Nat,I= .int .i64 k∧k≤es.length∧Hid (∀j,j<k→(es.getD j Ent.none).p≠p)∧Below w1.heap.size w1 wr) (fun I _=>es.length-(intOf I).toNat)
 case atStart=>exact ⟨0,rfl,by omega,zy (fun j hj=>by omega),Below.refl _ _⟩
 case round=>
  obtain ⟨k,rfl,hk,hno,hB⟩:=hrel
  have u0:=zDs hB (by omega) x0
  have u1:=zDs hB (by omega) x1
  have u2:=zDs hB (by omega) x2
  have v0:=zHK hB (by omega) f0
  have v1:=zHK hB (by omega) f1
  have v2:=zHK hB (by omega) f2
  have hlt2:w.heap.size<wr.heap.size:=by have:=hB.size;omega
  by_cases hlt:k<es.length
  ·obtain ⟨b,o,rfl,hb,hc⟩:=(hR1.below hB) (by omega)
   obtain ⟨A',c',hEl⟩:=hc k hlt
   have d0:=hEl.c0
   have d1:=hEl.c1
   have d2:=hEl.c2
   have dr:=hEl.rd
   obtain ⟨x,hx⟩: ∃x,x=es.getD k Ent.none:=⟨_,rfl⟩
   rw [←hx] at d0 d1 d2 dr
   have hxm:x ∈ es:=by rw [hx,List.getD_eq_getElem?_getD,List.getElem?_eq_getElem hlt];exact List.getElem_mem hlt
   have hxl:=(hE x hxm).len
   have HX:=zy hx
   clear hx hEl hc
   by_cases hxp:x.p=p
   ·have t1:(x.p == p)=true:=by simp [hxp]
    have HXP:=zy hxp
    clear hxp
    go_upto_region 8 with fail
    have hBx:=hB.alloc hB.size (.cells #[.int .u64 x.p, .int .u64 x.g, .slice A' x.fs.length c'] 115)
    have hBr:=(Below.refl wr.heap.size wr).alloc (Nat.le_refl _) (.cells #[.int .u64 x.p, .int .u64 x.g, .slice A' x.fs.length c'] 115)
    have k0:(wr.alloc (.cells #[.int .u64 x.p, .int .u64 x.g, .slice A' x.fs.length c'] 115)).cell? ⟨wr.heap.size,0,none⟩=some (.int .u64 x.p):=World.cell?_alloc_at _ _ _ _ rfl
    have k1:(wr.alloc (.cells #[.int .u64 x.p, .int .u64 x.g, .slice A' x.fs.length c'] 115)).cell? ⟨wr.heap.size,1,none⟩=some (.int .u64 x.g):=World.cell?_alloc_at _ _ _ _ rfl
    have k2:(wr.alloc (.cells #[.int .u64 x.p, .int .u64 x.g, .slice A' x.fs.length c'] 115)).cell? ⟨wr.heap.size,2,none⟩=some (.slice A' x.fs.length c'):=World.cell?_alloc_at _ _ _ _ rfl
    have hsz:wr.heap.size+1≤(wr.alloc (.cells #[.int .u64 x.p, .int .u64 x.g, .slice A' x.fs.length c'] 115)).heap.size:=by simp
    generalize wr.alloc (.cells #[.int .u64 x.p, .int .u64 x.g, .slice A' x.fs.length c'] 115)=w2 at *
    have hCl:Hid (∀W,Below w2.heap.size w2 W→Calls Tryz.prog 162 #[.slice A' x.fs.length c'] W fun r w'=> ∃A'' c'',r= .returned (.slice A'' x.fs.length c'')∧Below W.heap.size W w'):=zy (fun W hW=>
     zE3 A' c' x.fs W hxl (((dr.mono (show w1.heap.size≤wr.heap.size from hB.size)).below hBr |>.mono (show wr.heap.size≤w2.heap.size by omega)).below hW |>.mono hW.size))
    have p0:=zDs hBr hlt2 u0
    have p1:=zDs hBr hlt2 u1
    have p2:=zDs hBr hlt2 u2
    have q0:=zHK hBr hlt2 v0
    have q1:=zHK hBr hlt2 v1
    have q2:=zHK hBr hlt2 v2
    have hBt:Below w.heap.size w w2:=hBw.trans (hBx.mono (by omega))
    clear u0 u1 u2 v0 v1 v2 x0 x1 x2 f0 f1 f2 d0 d1 d2 dr hBx hBr hR1
    go_cut [5] (fun v wx=> ∃A'' c'',v= .bool true∧wx.cell? ⟨w.heap.size,0,none⟩=some (.int .u64 x.p)∧wx.cell? ⟨w.heap.size,1,none⟩=some (.int .u64 x.g)∧wx.cell? ⟨w.heap.size,2,none⟩=some (.slice A'' x.fs.length c'')∧Below w.heap.size w wx)
    case first=>
     go_region_with (go_at_call 162;refine (hCl.out _ (below_drewN (Below.refl _ _) _)).mono ?_;rintro r w' ⟨A'',c'',rfl,hBc⟩;have r0:=zDs hBc (by show w.heap.size<w2.heap.size;omega) p0;have r1:=zDs hBc (by show w.heap.size<w2.heap.size;omega) p1;have r2:=zDs hBc (by show w.heap.size<w2.heap.size;omega) p2;have t0:=zHK hBc (by show w.heap.size<w2.heap.size;omega) q0;have t1':=zHK hBc (by show w.heap.size<w2.heap.size;omega) q1;have t2':=zHK hBc (by show w.heap.size<w2.heap.size;omega) q2;have s0:=zDs hBc (by show wr.heap.size<w2.heap.size;omega) k0;have s1:=zDs hBc (by show wr.heap.size<w2.heap.size;omega) k1;have s2:=zDs hBc (by show wr.heap.size<w2.heap.size;omega) k2)
     all_goals
      go_wp2_with fail
      go_meet
      have hBf:=hBt.trans (((below_drewN (Below.refl w2.heap.size w2) _).trans (hBc.mono (Nat.le_refl _))).mono (show w.heap.size≤w2.heap.size by omega))
      have e:=zUM (v0:= .int .u64 x.p) (v1:= .int .u64 x.g) (v2:= .slice A'' x.fs.length c'') r0 r1 r2
      exact ⟨A'',c'',rfl,e.1,e.2.1,e.2.2,((hBf.setCell (p:=⟨w.heap.size,0,none⟩) (Nat.le_refl _) _).setCell (p:=⟨w.heap.size,1,none⟩) (Nat.le_refl _) _).setCell (p:=⟨w.heap.size,2,none⟩) (Nat.le_refl _) _⟩
    case rest=>
     obtain ⟨A'',c'',rfl,r0,r1,r2,hBc⟩:=hcut
     go_wp2
     exact bodyPost_ret (v:= .tuple #[.agg #[.int .u64 x.p, .int .u64 x.g, .slice A'' x.fs.length c''], .bool true]) (by simp [results,Tryz.results100,go_sem,r0,r1,r2]) rfl
      (.inr ⟨k,A'',c'',x.fs.length,hlt,by rw [←HX.out];exact HXP.out,hno.out,by rw [←HX.out,HXP.out],hBc⟩)
   ·have t1:(x.p == p)=false:=by simp [hxp]
    have HXP:Hid (∀j,j<k+1→(es.getD j Ent.none).p≠p):=zy (fun j hj=>by
     by_cases e:j=k
     ·subst e;rw [←HX.out];exact hxp
     ·exact hno.out j (by omega))
    have hBx:=hB.alloc hB.size (.cells #[.int .u64 x.p, .int .u64 x.g, .slice A' x.fs.length c'] 115)
    clear hxp dr
    go_wp2
    go_roundw
    case rel=>exact ⟨k+1,by go_num,by omega,HXP,hBx⟩
    case measure=>simp [intOf];omega
  ·obtain rfl:k=es.length:=by omega
   have hall:Hid (∀e ∈ es,e.p≠p):=zy (fun e he=>by
    obtain ⟨j,hj,rfl⟩:=List.getElem_of_mem he
    have:=hno.out j hj
    simpa only [List.getD_eq_getElem?_getD,List.getElem?_eq_getElem hj,Option.getD_some] using this)
   have e:=zUM (v0:= .int .u64 0) (v1:= .int .u64 0) (v2:= .slice none 0 0) u0 u1 u2
   have hBf:=hBw.trans (hB.mono (show w.heap.size≤w1.heap.size by omega))
   go_wp2
   exact bodyPost_ret (v:= .tuple #[.agg #[.int .u64 0, .int .u64 0, .slice none 0 0], .bool false]) (by simp [results,Tryz.results100,go_sem,e.1,e.2.1,e.2.2]) rfl
    (.inl ⟨hall.out,rfl,((hBf.setCell (p:=⟨w.heap.size,0,none⟩) (Nat.le_refl _) _).setCell (p:=⟨w.heap.size,1,none⟩) (Nat.le_refl _) _).setCell (p:=⟨w.heap.size,2,none⟩) (Nat.le_refl _) _⟩)
end

section
open Go.RowKit
structure zAo (w:World) (b c:Nat) (p g t o s:Int) (sv:Value):Prop where
  ctx:Ctx w c p t o s
  f0:w.cell? ⟨b,0,none⟩=some (.pointer (some ⟨c,0,none⟩))
  f1:w.cell? ⟨b,1,none⟩=some (.int .u64 p)
  f2:w.cell? ⟨b,2,none⟩=some (.int .u64 g)
  f3:w.cell? ⟨b,3,none⟩=some sv
def Fd (w:World) (B:Nat) (v:Value) (p g:Int):Prop:= ∃b c t o s sv,v= .pointer (some ⟨b,0,none⟩)∧b<B∧c<B∧zAo w b c p g t o s sv
theorem Fd.below {w w':World} {B:Nat} {v:Value} {p g:Int} (h:Fd w B v p g) (hB:Below B w w'):Fd w' B v p g:=by
  obtain ⟨b,c,t,o,s,sv,rfl,hb,hc,hF⟩:=h
  exact ⟨b,c,t,o,s,sv,rfl,hb,hc,hF.ctx.below hB hc,zDs hB hb hF.f0,zDs hB hb hF.f1,zDs hB hb hF.f2,zDs hB hb hF.f3⟩
theorem Fd.mono {w:World} {B B':Nat} {v:Value} {p g:Int} (h:Fd w B v p g) (hB:B≤B'):Fd w B' v p g:=by
  obtain ⟨b,c,t,o,s,sv,rfl,hb,hc,hF⟩:=h
  exact ⟨b,c,t,o,s,sv,rfl,by omega,by omega,hF⟩
def zAp (es:List Ent) (p g:Int):Prop:= ∃k,k<es.length∧(es.getD k Ent.none).p=p∧(es.getD k Ent.none).g=g∧ ∀j,j<k→(es.getD j Ent.none).p≠p
def zAb (es:List Ent):Prop:=es.length≤32∧ ∀j,j<es.length→zAG (es.take j) (es.getD j Ent.none)
def NewP (es:List Ent) (p:Int) (w:World) (r:Ending) (w':World):Prop:=
  Below w.heap.size w w'∧
  ((∃er,¬zAb es∧r= .returned (.tuple #[.pointer none, .int .i64 er])∧er≠0∧(32<es.length→er=13)∧(es.length≤32→er=3))∨
   (zAb es∧(∀e ∈ es,e.p≠p)∧r= .returned (.tuple #[.pointer none, .int .i64 14]))∨
   (∃v g,zAb es∧zAp es p g∧r= .returned (.tuple #[v, .int .i64 0])∧Fd w' w'.heap.size v p g))
theorem zH0 (A:Option Addr) (c:Nat) (es:List Ent) (p:Int) (w:World) (hl:es.length≤140737488351232) (hlc:es.length≤c) (hR:RdE w w.heap.size A es) (hE: ∀e ∈ es,zAm e):
    Calls Tryz.prog 51 #[.slice A es.length c, .int .u64 p] w (NewP es p w):=by
  go_enter Tryz.func51,Tryz.ntmps51
  go_wp2_with fail
  refine (check_any A c es w hl hlc hR hE).mono ?_
  rintro r w1 ⟨i,er,rfl,hcr,hB1⟩
  have hR1:=(hR.below hB1).mono hB1.size
  by_cases her:er=0
  · subst her
    have HA:Hid (zAb es):=zy (by
      rcases hcr with ⟨a,b,c⟩|⟨a,k,hk,b,c,d⟩|⟨a,b,c,d⟩
      · omega
      · omega
      · exact ⟨a,d⟩)
    clear hcr
    go_wp2_with fail
    refine (zE0 A c es p w1 HA.out.1 hlc hR1 hE HA.out.2).mono ?_
    rintro r w2 hcl
    rcases hcl with ⟨hno,rfl,hB2⟩|⟨k,A',c',n,hk,hkp,hkf,rfl,hB2⟩
    · have HN:=zy hno
      clear hno
      go_wp2
      go_ret2
      exact ⟨(hB1.trans (hB2.mono hB1.size)).alloc (Nat.le_trans hB1.size hB2.size) _, .inr (.inl ⟨HA.out,HN.out,rfl⟩)⟩
    · have HF:Hid (zAp es p (es.getD k Ent.none).g):=zy ⟨k,hk,hkp,rfl,hkf⟩
      have hRk:=HA.out.2 k hk
      have hp3:3≤p:=by rw [←hkp];exact hRk.p3
      have hpm:p<9223372036854775808:=by rw [←hkp];exact hRk.pm
      have hpo:Hid (p%2=1):=zy (by rw [←hkp];exact hRk.odd)
      have hg0:=hRk.g2
      obtain ⟨g,hg⟩: ∃g,g=(es.getD k Ent.none).g:=⟨_,rfl⟩
      rw [←hg] at HF hg0
      rw [←hg]
      have hBt:Below w.heap.size w w2:=hB1.trans (hB2.mono hB1.size)
      have hws:w.heap.size≤w2.heap.size:=Nat.le_trans hB1.size hB2.size
      have hBx:=hBt.alloc hws (.cells #[.int .u64 p, .int .u64 g, .slice A' n c'] 115)
      clear hkp hkf hRk hg hR1 hB1 hB2 hR
      go_wp2_with fail
      have l0:(w2.alloc (.cells #[.int .u64 p, .int .u64 g, .slice A' n c'] 115)).cell? ⟨w2.heap.size,0,none⟩=some (.int .u64 p):=World.cell?_alloc_at _ _ _ _ rfl
      have l1:(w2.alloc (.cells #[.int .u64 p, .int .u64 g, .slice A' n c'] 115)).cell? ⟨w2.heap.size,1,none⟩=some (.int .u64 g):=World.cell?_alloc_at _ _ _ _ rfl
      have l2:(w2.alloc (.cells #[.int .u64 p, .int .u64 g, .slice A' n c'] 115)).cell? ⟨w2.heap.size,2,none⟩=some (.slice A' n c'):=World.cell?_alloc_at _ _ _ _ rfl
      have hsz:w2.heap.size+1≤(w2.alloc (.cells #[.int .u64 p, .int .u64 g, .slice A' n c'] 115)).heap.size:=by simp
      generalize w2.alloc (.cells #[.int .u64 p, .int .u64 g, .slice A' n c'] 115)=w3 at *
      refine (new_any p w3 hp3 hpm hpo.out).mono ?_
      rintro r w4 ⟨cx,t,o,s,rfl,hC,hcx,hB4⟩
      have m0:=zDs hB4 (by omega) l0
      have m1:=zDs hB4 (by omega) l1
      have m2:=zDs hB4 (by omega) l2
      have hBf:=hBx.trans (hB4.mono (by omega))
      have hcl:=hC.lt
      clear l0 l1 l2
      go_wp2
      go_ret2
      refine ⟨hBf.alloc (by have:=hB4.size;omega) _, .inr (.inr ⟨_,g,HA.out,HF.out,rfl,w4.heap.size,cx,t,o,s, .slice A' n c',rfl,by simp,by simp;omega,?_⟩)⟩
      exact ⟨hC.below ((Below.refl _ _).alloc (Nat.le_refl _) _) hcl,World.cell?_alloc_at _ _ _ _ rfl,World.cell?_alloc_at _ _ _ _ rfl,World.cell?_alloc_at _ _ _ _ rfl,World.cell?_alloc_at _ _ _ _ rfl⟩
  · have t1:(er != 0)=true:=by simp [her]
    have HB:Hid (¬zAb es∧(32<es.length→er=13)∧(es.length≤32→er=3)):=zy (by
      rcases hcr with ⟨a,b,c⟩|⟨a,k,hk,b,c,d,f⟩|⟨a,b,c,d⟩
      · exact ⟨fun h=>by have:=h.1;omega,fun _=>c,fun h=>by omega⟩
      · exact ⟨fun h=>f (h.2 k hk),fun h=>by omega,fun _=>c⟩
      · exact absurd c her)
    have HER:=zy her
    clear her hcr
    go_wp2
    go_ret2
    exact ⟨hB1, .inl ⟨er,HB.out.1,rfl,HER.out,HB.out.2.1,HB.out.2.2⟩⟩
end

section
open Go.RowKit
def zAz (es:List Ent) (p:Int) (w:World) (r:Ending) (w':World):Prop:=
 ∃A c,r= .returned (.tuple #[.slice A es.length c, .int .u64 p])∧es.length≤c∧Below w.heap.size w w'∧RdE w' w'.heap.size A es
theorem zJU (w:World):
  Calls Tryz.prog 98 #[.int .i64 0] w (zAz (zKa 0) k0.p w):=by
 go_enter Tryz.func98,Tryz.ntmps98
 go_wp2
 go_quiet (fail)
 go_wp2
 go_ret2
 refine ⟨some ⟨w.heap.size+1+1+1+1+1+1+1+1,0,none⟩,4,rfl,by decide,?_,?_⟩
 ·refine below_drewN ?_ _
  repeat (first|exact Below.refl _ _|refine Below.alloc ?_ (by first|omega|(simp only [World.size_alloc];omega)) _)
 ·intro _
  refine ⟨_,_,rfl,by simp,fun j hj=>?_⟩
  rcases (show j=0∨j=1∨j=2∨j=3 by have:j<4:=hj;omega) with rfl|rfl|rfl|rfl
  ·refine ⟨some ⟨w.heap.size,0,none⟩,1,?_,?_,?_,fun _=>⟨_,_,rfl,by simp <;> omega,fun j hj=>?_⟩⟩
   rotate_left 3
   ·rcases (show j=0 by have:j<1:=hj;omega) with rfl <;> constructor
    all_goals (rw [World.cell?_drewN];repeat (first|exact World.cell?_alloc_at _ _ _ _ (by first|rfl|(simp only [World.size_alloc];done)|(simp only [World.size_alloc];omega))|rw [World.cell?_alloc_past _ _ _ (by first|omega|(simp only [World.size_alloc];omega))]))
   all_goals (rw [World.cell?_drewN];repeat (first|exact World.cell?_alloc_at _ _ _ _ (by first|rfl|(simp only [World.size_alloc];done)|(simp only [World.size_alloc];omega))|rw [World.cell?_alloc_past _ _ _ (by first|omega|(simp only [World.size_alloc];omega))]))
  ·refine ⟨some ⟨w.heap.size+1+1+1+1,0,none⟩,2,?_,?_,?_,fun _=>⟨_,_,rfl,by simp <;> omega,fun j hj=>?_⟩⟩
   rotate_left 3
   ·rcases (show j=0∨j=1 by have:j<2:=hj;omega) with rfl|rfl <;> constructor
    all_goals (rw [World.cell?_drewN];repeat (first|exact World.cell?_alloc_at _ _ _ _ (by first|rfl|(simp only [World.size_alloc];done)|(simp only [World.size_alloc];omega))|rw [World.cell?_alloc_past _ _ _ (by first|omega|(simp only [World.size_alloc];omega))]))
   all_goals (rw [World.cell?_drewN];repeat (first|exact World.cell?_alloc_at _ _ _ _ (by first|rfl|(simp only [World.size_alloc];done)|(simp only [World.size_alloc];omega))|rw [World.cell?_alloc_past _ _ _ (by first|omega|(simp only [World.size_alloc];omega))]))
  ·refine ⟨some ⟨w.heap.size+1+1+1+1+1+1,0,none⟩,2,?_,?_,?_,fun _=>⟨_,_,rfl,by simp <;> omega,fun j hj=>?_⟩⟩
   rotate_left 3
   ·rcases (show j=0∨j=1 by have:j<2:=hj;omega) with rfl|rfl <;> constructor
    all_goals (rw [World.cell?_drewN];repeat (first|exact World.cell?_alloc_at _ _ _ _ (by first|rfl|(simp only [World.size_alloc];done)|(simp only [World.size_alloc];omega))|rw [World.cell?_alloc_past _ _ _ (by first|omega|(simp only [World.size_alloc];omega))]))
   all_goals (rw [World.cell?_drewN];repeat (first|exact World.cell?_alloc_at _ _ _ _ (by first|rfl|(simp only [World.size_alloc];done)|(simp only [World.size_alloc];omega))|rw [World.cell?_alloc_past _ _ _ (by first|omega|(simp only [World.size_alloc];omega))]))
  ·refine ⟨some ⟨w.heap.size+1+1+1+1+1+1+1,0,none⟩,2,?_,?_,?_,fun _=>⟨_,_,rfl,by simp <;> omega,fun j hj=>?_⟩⟩
   rotate_left 3
   ·rcases (show j=0∨j=1 by have:j<2:=hj;omega) with rfl|rfl <;> constructor
    all_goals (rw [World.cell?_drewN];repeat (first|exact World.cell?_alloc_at _ _ _ _ (by first|rfl|(simp only [World.size_alloc];done)|(simp only [World.size_alloc];omega))|rw [World.cell?_alloc_past _ _ _ (by first|omega|(simp only [World.size_alloc];omega))]))
   all_goals (rw [World.cell?_drewN];repeat (first|exact World.cell?_alloc_at _ _ _ _ (by first|rfl|(simp only [World.size_alloc];done)|(simp only [World.size_alloc];omega))|rw [World.cell?_alloc_past _ _ _ (by first|omega|(simp only [World.size_alloc];omega))]))
theorem zJV (w:World):
  Calls Tryz.prog 98 #[.int .i64 1] w (zAz (zKa 1) k1.p w):=by
 go_enter Tryz.func98,Tryz.ntmps98
 go_wp2
 go_quiet (fail)
 go_wp2
 go_ret2
 refine ⟨some ⟨w.heap.size+1+1+1+1+1+1+1,0,none⟩,2,rfl,by decide,?_,?_⟩
 ·refine below_drewN ?_ _
  repeat (first|exact Below.refl _ _|refine Below.alloc ?_ (by first|omega|(simp only [World.size_alloc];omega)) _)
 ·intro _
  refine ⟨_,_,rfl,by simp,fun j hj=>?_⟩
  rcases (show j=0∨j=1 by have:j<2:=hj;omega) with rfl|rfl
  ·refine ⟨some ⟨w.heap.size,0,none⟩,1,?_,?_,?_,fun _=>⟨_,_,rfl,by simp <;> omega,fun j hj=>?_⟩⟩
   rotate_left 3
   ·rcases (show j=0 by have:j<1:=hj;omega) with rfl <;> constructor
    all_goals (rw [World.cell?_drewN];repeat (first|exact World.cell?_alloc_at _ _ _ _ (by first|rfl|(simp only [World.size_alloc];done)|(simp only [World.size_alloc];omega))|rw [World.cell?_alloc_past _ _ _ (by first|omega|(simp only [World.size_alloc];omega))]))
   all_goals (rw [World.cell?_drewN];repeat (first|exact World.cell?_alloc_at _ _ _ _ (by first|rfl|(simp only [World.size_alloc];done)|(simp only [World.size_alloc];omega))|rw [World.cell?_alloc_past _ _ _ (by first|omega|(simp only [World.size_alloc];omega))]))
  ·refine ⟨some ⟨w.heap.size+1+1+1+1+1+1,0,none⟩,2,?_,?_,?_,fun _=>⟨_,_,rfl,by simp <;> omega,fun j hj=>?_⟩⟩
   rotate_left 3
   ·rcases (show j=0∨j=1 by have:j<2:=hj;omega) with rfl|rfl <;> constructor
    all_goals (rw [World.cell?_drewN];repeat (first|exact World.cell?_alloc_at _ _ _ _ (by first|rfl|(simp only [World.size_alloc];done)|(simp only [World.size_alloc];omega))|rw [World.cell?_alloc_past _ _ _ (by first|omega|(simp only [World.size_alloc];omega))]))
   all_goals (rw [World.cell?_drewN];repeat (first|exact World.cell?_alloc_at _ _ _ _ (by first|rfl|(simp only [World.size_alloc];done)|(simp only [World.size_alloc];omega))|rw [World.cell?_alloc_past _ _ _ (by first|omega|(simp only [World.size_alloc];omega))]))
theorem zJW (w:World):
  Calls Tryz.prog 98 #[.int .i64 2] w (zAz (zKa 2) k2.p w):=by
 go_enter Tryz.func98,Tryz.ntmps98
 go_wp2
 go_quiet (fail)
 go_wp2
 go_ret2
 refine ⟨some ⟨w.heap.size+1+1+1+1+1+1+1,0,none⟩,2,rfl,by decide,?_,?_⟩
 ·refine below_drewN ?_ _
  repeat (first|exact Below.refl _ _|refine Below.alloc ?_ (by first|omega|(simp only [World.size_alloc];omega)) _)
 ·intro _
  refine ⟨_,_,rfl,by simp,fun j hj=>?_⟩
  rcases (show j=0∨j=1 by have:j<2:=hj;omega) with rfl|rfl
  ·refine ⟨some ⟨w.heap.size+1+1,0,none⟩,1,?_,?_,?_,fun _=>⟨_,_,rfl,by simp <;> omega,fun j hj=>?_⟩⟩
   rotate_left 3
   ·rcases (show j=0 by have:j<1:=hj;omega) with rfl <;> constructor
    all_goals (rw [World.cell?_drewN];repeat (first|exact World.cell?_alloc_at _ _ _ _ (by first|rfl|(simp only [World.size_alloc];done)|(simp only [World.size_alloc];omega))|rw [World.cell?_alloc_past _ _ _ (by first|omega|(simp only [World.size_alloc];omega))]))
   all_goals (rw [World.cell?_drewN];repeat (first|exact World.cell?_alloc_at _ _ _ _ (by first|rfl|(simp only [World.size_alloc];done)|(simp only [World.size_alloc];omega))|rw [World.cell?_alloc_past _ _ _ (by first|omega|(simp only [World.size_alloc];omega))]))
  ·refine ⟨some ⟨w.heap.size+1+1+1+1+1+1,0,none⟩,2,?_,?_,?_,fun _=>⟨_,_,rfl,by simp <;> omega,fun j hj=>?_⟩⟩
   rotate_left 3
   ·rcases (show j=0∨j=1 by have:j<2:=hj;omega) with rfl|rfl <;> constructor
    all_goals (rw [World.cell?_drewN];repeat (first|exact World.cell?_alloc_at _ _ _ _ (by first|rfl|(simp only [World.size_alloc];done)|(simp only [World.size_alloc];omega))|rw [World.cell?_alloc_past _ _ _ (by first|omega|(simp only [World.size_alloc];omega))]))
   all_goals (rw [World.cell?_drewN];repeat (first|exact World.cell?_alloc_at _ _ _ _ (by first|rfl|(simp only [World.size_alloc];done)|(simp only [World.size_alloc];omega))|rw [World.cell?_alloc_past _ _ _ (by first|omega|(simp only [World.size_alloc];omega))]))
theorem zJX (w:World):
  Calls Tryz.prog 98 #[.int .i64 3] w (zAz (zKa 3) k3.p w):=by
 go_enter Tryz.func98,Tryz.ntmps98
 go_wp2
 go_quiet (fail)
 go_wp2
 go_ret2
 refine ⟨some ⟨w.heap.size+1+1+1+1+1+1+1,0,none⟩,3,rfl,by decide,?_,?_⟩
 ·refine below_drewN ?_ _
  repeat (first|exact Below.refl _ _|refine Below.alloc ?_ (by first|omega|(simp only [World.size_alloc];omega)) _)
 ·intro _
  refine ⟨_,_,rfl,by simp,fun j hj=>?_⟩
  rcases (show j=0∨j=1∨j=2 by have:j<3:=hj;omega) with rfl|rfl|rfl
  ·refine ⟨some ⟨w.heap.size,0,none⟩,1,?_,?_,?_,fun _=>⟨_,_,rfl,by simp <;> omega,fun j hj=>?_⟩⟩
   rotate_left 3
   ·rcases (show j=0 by have:j<1:=hj;omega) with rfl <;> constructor
    all_goals (rw [World.cell?_drewN];repeat (first|exact World.cell?_alloc_at _ _ _ _ (by first|rfl|(simp only [World.size_alloc];done)|(simp only [World.size_alloc];omega))|rw [World.cell?_alloc_past _ _ _ (by first|omega|(simp only [World.size_alloc];omega))]))
   all_goals (rw [World.cell?_drewN];repeat (first|exact World.cell?_alloc_at _ _ _ _ (by first|rfl|(simp only [World.size_alloc];done)|(simp only [World.size_alloc];omega))|rw [World.cell?_alloc_past _ _ _ (by first|omega|(simp only [World.size_alloc];omega))]))
  ·refine ⟨some ⟨w.heap.size+1+1,0,none⟩,1,?_,?_,?_,fun _=>⟨_,_,rfl,by simp <;> omega,fun j hj=>?_⟩⟩
   rotate_left 3
   ·rcases (show j=0 by have:j<1:=hj;omega) with rfl <;> constructor
    all_goals (rw [World.cell?_drewN];repeat (first|exact World.cell?_alloc_at _ _ _ _ (by first|rfl|(simp only [World.size_alloc];done)|(simp only [World.size_alloc];omega))|rw [World.cell?_alloc_past _ _ _ (by first|omega|(simp only [World.size_alloc];omega))]))
   all_goals (rw [World.cell?_drewN];repeat (first|exact World.cell?_alloc_at _ _ _ _ (by first|rfl|(simp only [World.size_alloc];done)|(simp only [World.size_alloc];omega))|rw [World.cell?_alloc_past _ _ _ (by first|omega|(simp only [World.size_alloc];omega))]))
  ·refine ⟨some ⟨w.heap.size+1+1+1+1+1+1,0,none⟩,3,?_,?_,?_,fun _=>⟨_,_,rfl,by simp <;> omega,fun j hj=>?_⟩⟩
   rotate_left 3
   ·rcases (show j=0∨j=1∨j=2 by have:j<3:=hj;omega) with rfl|rfl|rfl <;> constructor
    all_goals (rw [World.cell?_drewN];repeat (first|exact World.cell?_alloc_at _ _ _ _ (by first|rfl|(simp only [World.size_alloc];done)|(simp only [World.size_alloc];omega))|rw [World.cell?_alloc_past _ _ _ (by first|omega|(simp only [World.size_alloc];omega))]))
   all_goals (rw [World.cell?_drewN];repeat (first|exact World.cell?_alloc_at _ _ _ _ (by first|rfl|(simp only [World.size_alloc];done)|(simp only [World.size_alloc];omega))|rw [World.cell?_alloc_past _ _ _ (by first|omega|(simp only [World.size_alloc];omega))]))
theorem zJY (w:World):
  Calls Tryz.prog 98 #[.int .i64 4] w (zAz (zKa 4) k4.p w):=by
 go_enter Tryz.func98,Tryz.ntmps98
 go_wp2
 go_quiet (fail)
 go_wp2
 go_ret2
 refine ⟨some ⟨w.heap.size+1+1+1+1+1+1+1,0,none⟩,3,rfl,by decide,?_,?_⟩
 ·refine below_drewN ?_ _
  repeat (first|exact Below.refl _ _|refine Below.alloc ?_ (by first|omega|(simp only [World.size_alloc];omega)) _)
 ·intro _
  refine ⟨_,_,rfl,by simp,fun j hj=>?_⟩
  rcases (show j=0∨j=1∨j=2 by have:j<3:=hj;omega) with rfl|rfl|rfl
  ·refine ⟨some ⟨w.heap.size,0,none⟩,1,?_,?_,?_,fun _=>⟨_,_,rfl,by simp <;> omega,fun j hj=>?_⟩⟩
   rotate_left 3
   ·rcases (show j=0 by have:j<1:=hj;omega) with rfl <;> constructor
    all_goals (rw [World.cell?_drewN];repeat (first|exact World.cell?_alloc_at _ _ _ _ (by first|rfl|(simp only [World.size_alloc];done)|(simp only [World.size_alloc];omega))|rw [World.cell?_alloc_past _ _ _ (by first|omega|(simp only [World.size_alloc];omega))]))
   all_goals (rw [World.cell?_drewN];repeat (first|exact World.cell?_alloc_at _ _ _ _ (by first|rfl|(simp only [World.size_alloc];done)|(simp only [World.size_alloc];omega))|rw [World.cell?_alloc_past _ _ _ (by first|omega|(simp only [World.size_alloc];omega))]))
  ·refine ⟨some ⟨w.heap.size+1+1+1+1,0,none⟩,2,?_,?_,?_,fun _=>⟨_,_,rfl,by simp <;> omega,fun j hj=>?_⟩⟩
   rotate_left 3
   ·rcases (show j=0∨j=1 by have:j<2:=hj;omega) with rfl|rfl <;> constructor
    all_goals (rw [World.cell?_drewN];repeat (first|exact World.cell?_alloc_at _ _ _ _ (by first|rfl|(simp only [World.size_alloc];done)|(simp only [World.size_alloc];omega))|rw [World.cell?_alloc_past _ _ _ (by first|omega|(simp only [World.size_alloc];omega))]))
   all_goals (rw [World.cell?_drewN];repeat (first|exact World.cell?_alloc_at _ _ _ _ (by first|rfl|(simp only [World.size_alloc];done)|(simp only [World.size_alloc];omega))|rw [World.cell?_alloc_past _ _ _ (by first|omega|(simp only [World.size_alloc];omega))]))
  ·refine ⟨some ⟨w.heap.size+1+1+1+1+1+1,0,none⟩,2,?_,?_,?_,fun _=>⟨_,_,rfl,by simp <;> omega,fun j hj=>?_⟩⟩
   rotate_left 3
   ·rcases (show j=0∨j=1 by have:j<2:=hj;omega) with rfl|rfl <;> constructor
    all_goals (rw [World.cell?_drewN];repeat (first|exact World.cell?_alloc_at _ _ _ _ (by first|rfl|(simp only [World.size_alloc];done)|(simp only [World.size_alloc];omega))|rw [World.cell?_alloc_past _ _ _ (by first|omega|(simp only [World.size_alloc];omega))]))
   all_goals (rw [World.cell?_drewN];repeat (first|exact World.cell?_alloc_at _ _ _ _ (by first|rfl|(simp only [World.size_alloc];done)|(simp only [World.size_alloc];omega))|rw [World.cell?_alloc_past _ _ _ (by first|omega|(simp only [World.size_alloc];omega))]))
theorem zJZ (w:World):
  Calls Tryz.prog 98 #[.int .i64 5] w (zAz (zKa 5) k5.p w):=by
 go_enter Tryz.func98,Tryz.ntmps98
 go_wp2
 go_quiet (fail)
 go_wp2
 go_ret2
 refine ⟨some ⟨w.heap.size+1+1+1+1+1+1+1,0,none⟩,2,rfl,by decide,?_,?_⟩
 ·refine below_drewN ?_ _
  repeat (first|exact Below.refl _ _|refine Below.alloc ?_ (by first|omega|(simp only [World.size_alloc];omega)) _)
 ·intro _
  refine ⟨_,_,rfl,by simp,fun j hj=>?_⟩
  rcases (show j=0∨j=1 by have:j<2:=hj;omega) with rfl|rfl
  ·refine ⟨some ⟨w.heap.size+1+1,0,none⟩,1,?_,?_,?_,fun _=>⟨_,_,rfl,by simp <;> omega,fun j hj=>?_⟩⟩
   rotate_left 3
   ·rcases (show j=0 by have:j<1:=hj;omega) with rfl <;> constructor
    all_goals (rw [World.cell?_drewN];repeat (first|exact World.cell?_alloc_at _ _ _ _ (by first|rfl|(simp only [World.size_alloc];done)|(simp only [World.size_alloc];omega))|rw [World.cell?_alloc_past _ _ _ (by first|omega|(simp only [World.size_alloc];omega))]))
   all_goals (rw [World.cell?_drewN];repeat (first|exact World.cell?_alloc_at _ _ _ _ (by first|rfl|(simp only [World.size_alloc];done)|(simp only [World.size_alloc];omega))|rw [World.cell?_alloc_past _ _ _ (by first|omega|(simp only [World.size_alloc];omega))]))
  ·refine ⟨some ⟨w.heap.size+1+1+1+1+1+1,0,none⟩,2,?_,?_,?_,fun _=>⟨_,_,rfl,by simp <;> omega,fun j hj=>?_⟩⟩
   rotate_left 3
   ·rcases (show j=0∨j=1 by have:j<2:=hj;omega) with rfl|rfl <;> constructor
    all_goals (rw [World.cell?_drewN];repeat (first|exact World.cell?_alloc_at _ _ _ _ (by first|rfl|(simp only [World.size_alloc];done)|(simp only [World.size_alloc];omega))|rw [World.cell?_alloc_past _ _ _ (by first|omega|(simp only [World.size_alloc];omega))]))
   all_goals (rw [World.cell?_drewN];repeat (first|exact World.cell?_alloc_at _ _ _ _ (by first|rfl|(simp only [World.size_alloc];done)|(simp only [World.size_alloc];omega))|rw [World.cell?_alloc_past _ _ _ (by first|omega|(simp only [World.size_alloc];omega))]))
end

section
open Go.RowKit
theorem zKg (i:Int) (w:World) (h:i<0∨5<i):
    Calls Tryz.prog 98 #[.int .i64 i] w (zAz [] 0 w):=by
  have h0:(i == 0)=false:=by simp;omega
  have h1:(i == 1)=false:=by simp;omega
  have h2:(i == 2)=false:=by simp;omega
  have h3:(i == 3)=false:=by simp;omega
  have h4:(i == 4)=false:=by simp;omega
  have h5:(i == 5)=false:=by simp;omega
  clear h
  go_enter Tryz.func98,Tryz.ntmps98
  go_wp2
  go_ret2
  refine ⟨none,0,rfl,Nat.le_refl _,?_,fun h=>absurd h (by simp)⟩
  repeat (first|exact Below.refl _ _|refine Below.alloc ?_ (by first|omega|(simp only [World.size_alloc];omega)) _)
def zKb (i:Int):Int×Int:=if i=0 then (k0.p,3) else if i=1 then (k1.p,5) else if i=2 then (k2.p,6) else if i=3 then (k3.p,11) else if i=4 then (k4.p,3) else if i=5 then (k5.p,3) else (0,0)
theorem zKc {i:Int} (h:0≤i∧i≤5):i=0∨i=1∨i=2∨i=3∨i=4∨i=5:=by omega
theorem zKh {i:Int} (h:0≤i∧i≤5):(zKa i).length≤4∧zAb (zKa i)∧(∀e ∈ zKa i,zAm e)∧zAp (zKa i) (zKb i).1 (zKb i).2:=by
  have hE: ∀(es:List Ent),es.all (fun e=>decide (0≤e.p) && decide (e.p≤18446744073709551615) && decide (0≤e.g) && decide (e.g≤18446744073709551615) && decide (e.fs.length≤8796093022208) && e.fs.all (fun x=>decide (0≤x.1) && decide (x.1≤18446744073709551615) && decide (-9223372036854775808≤x.2) && decide (x.2≤9223372036854775807)))=true→ ∀e ∈ es,zAm e:=by
    intro es h e he
    simp only [List.all_eq_true,Bool.and_eq_true,decide_eq_true_eq] at h
    obtain ⟨⟨⟨⟨⟨a,b⟩,c⟩,d⟩,f⟩,g⟩:=h e he
    exact ⟨a,b,c,d,f,fun x hx=>by have:=g x hx;omega⟩
  rcases zKc h with rfl|rfl|rfl|rfl|rfl|rfl
  · exact ⟨by decide,zBw zRO,hE _ (by decide),3,by decide,by decide,by decide,by decide⟩
  · exact ⟨by decide,zBw zRP,hE _ (by decide),1,by decide,by decide,by decide,by decide⟩
  · exact ⟨by decide,zBw zRQ,hE _ (by decide),1,by decide,by decide,by decide,by decide⟩
  · exact ⟨by decide,zBw zRR,hE _ (by decide),2,by decide,by decide,by decide,by decide⟩
  · exact ⟨by decide,zBw zRS,hE _ (by decide),2,by decide,by decide,by decide,by decide⟩
  · exact ⟨by decide,zBw zRT,hE _ (by decide),1,by decide,by decide,by decide,by decide⟩
theorem zKe (i:Int) (w:World) (h:0≤i∧i≤5):
    Calls Tryz.prog 98 #[.int .i64 i] w (zAz (zKa i) (zKb i).1 w):=by
  rcases zKc h with rfl|rfl|rfl|rfl|rfl|rfl
  · exact zJU w
  · exact zJV w
  · exact zJW w
  · exact zJX w
  · exact zJY w
  · exact zJZ w
theorem zKd {i:Int} (h:0≤i∧i≤5):3≤(zKb i).1:=by
  rcases zKc h with rfl|rfl|rfl|rfl|rfl|rfl <;> decide
def Cert (p g:Int):Prop:= ∃es,zAb es∧zAp es p g
def zA2 (p g:Int) (w:World) (r:Ending) (w':World):Prop:=
  Below w.heap.size w w'∧
  ((∃er,p=0∧er≠0∧r= .returned (.tuple #[.pointer none, .int .i64 er]))∨
   (∃v,3≤p∧Cert p g∧r= .returned (.tuple #[v, .int .i64 0])∧Fd w' w'.heap.size v p g))
theorem zA0 (i:Int) (w:World):
    Calls Tryz.prog 50 #[.int .i64 i] w (zA2 (zKb i).1 (zKb i).2 w):=by
  by_cases h:0≤i∧i≤5
  · obtain ⟨hl,hA,hE,hF⟩:=zKh h
    have hk:=fun w=>zKe i w h
    have hp:=zKd h
    generalize zKa i=es at *
    obtain ⟨p,hpe⟩: ∃p,p=(zKb i).1:=⟨_,rfl⟩
    obtain ⟨g,hge⟩: ∃g,g=(zKb i).2:=⟨_,rfl⟩
    rw [←hpe,←hge]
    rw [←hpe] at hk hp hF
    rw [←hge] at hF
    clear hpe hge h
    have HA:=zy hA
    have HE:=zy hE
    have HF:=zy hF
    clear hA hE hF
    have tp:(p == 0)=false:=by simp;omega
    go_enter Tryz.func50,Tryz.ntmps50
    go_wp2_with fail
    refine (hk w).mono ?_
    rintro r w1 ⟨A,c,rfl,hlc,hB1,hR⟩
    go_wp2_with fail
    refine (zH0 A c es p w1 (by omega) hlc hR HE.out).mono ?_
    rintro r w2 ⟨hB2,hN⟩
    have hB:=hB1.trans (hB2.mono hB1.size)
    rcases hN with ⟨er,h1,_⟩|⟨_,h1,_⟩|⟨v,g',h1,hF',rfl,hFd⟩
    · exact absurd HA.out h1
    · obtain ⟨k,hk1,hk2,_⟩:=HF.out
      exact absurd hk2 (h1 _ (by rw [List.getD_eq_getElem?_getD,List.getElem?_eq_getElem hk1];simp))
    · have hg:g'=g:=by
        obtain ⟨a,a1,a2,a3,a4⟩:=HF.out
        obtain ⟨b,b1,b2,b3,b4⟩:=hF'
        have:a=b:=by
          rcases Nat.lt_trichotomy a b with h|h|h
          · exact absurd a2 (b4 a h)
          · exact h
          · exact absurd b2 (a4 b h)
        subst this
        rw [←a3,←b3]
      subst hg
      clear hF' hk hB1 hB2 hR
      go_wp2
      go_ret2
      exact ⟨hB, .inr ⟨v,hp,⟨es,HA.out,HF.out⟩,rfl,hFd⟩⟩
  · have hz:zKb i=(0,0):=by
      unfold zKb
      rw [if_neg (by omega),if_neg (by omega),if_neg (by omega),if_neg (by omega),if_neg (by omega),if_neg (by omega)]
    rw [hz]
    have hk:=fun w=>zKg i w (by omega)
    clear h hz
    go_enter Tryz.func50,Tryz.ntmps50
    go_wp2_with fail
    refine (hk w).mono ?_
    rintro r w1 ⟨A,c,rfl,hlc,hB1,hR⟩
    go_wp2
    go_ret2
    exact ⟨hB1, .inl ⟨1,rfl,by decide,rfl⟩⟩
end

section
open Go.RowKit
theorem zFG {w:World} {B:Nat} {v:Value} {p g:Int} (h:Fd w B v p g) (n:Int) (h0: -9223372036854775808≤n) (h1:n≤9223372036854775807):
  Calls Tryz.prog 55 #[v, .int .i64 n] w fun e w'=>e= .returned (.bool (decide (0<n) && ((p-1)%n == 0)))∧w=w':=by
 obtain ⟨b,c,t,o,s,sv,rfl,hb,hc,hF⟩:=h
 have f1:=hF.f1
 have m1:=hF.ctx.m1
 have m2:=hF.ctx.m2
 by_cases hn:0<n
 ·have t1:decide (0<n)=true:=by simpa using hn
  have t2:(n == 0)=false:=by simp;omega
  have HZ:Hid ((decide (0<n) && ((p-1)%n == 0))=((p-1)%n == 0)):=zy (by rw [t1];rfl)
  go_enter Tryz.func55,Tryz.ntmps55
  go_wp2
  go_ret
  exact ⟨by rw [HZ.out];first|rfl|simp,rfl⟩
 ·have t1:decide (0<n)=false:=by simpa using hn
  have HZ:Hid ((decide (0<n) && ((p-1)%n == 0))=false):=zy (by rw [t1];rfl)
  clear hn
  go_enter Tryz.func55,Tryz.ntmps55
  go_wp2
  go_ret
  exact ⟨by rw [HZ.out];first|rfl|simp,rfl⟩
end

section
open Go.RowKit
theorem zN0 {w:World} {c:Nat} {m t o s:Int} (hC:Ctx w c m t o s) (a:Int) (h0:0≤a) (h1:a≤18446744073709551615):
  Calls Tryz.prog 237 #[.pointer (some ⟨c,0,none⟩), .int .u64 a] w fun e w'=>e= .returned (.int .u64 (a*Mont.rinv m%m))∧ ∃n,w'=w.drewN n:=by
 have m1:=hC.m1
 have m2:=hC.m2
 have x0:=Int.emod_nonneg a (show m≠0 by omega)
 have x1:=Int.emod_lt_of_pos a (show 0<m by omega)
 have fin:Hid ((0*18446744073709551616+a%m)*Mont.rinv m%m=a*Mont.rinv m%m):=zy (by
  rw [Int.zero_mul,Int.zero_add,Int.mul_emod,Int.emod_emod_of_dvd _ ⟨1,by simp⟩,←Int.mul_emod])
 go_enter Tryz.func237,Tryz.ntmps237
 go_wp2_with fail
 refine (zFb hC a h0 h1).mono ?_
 rintro e w1 ⟨rfl,n1,rfl⟩
 go_wp2_with fail
 refine (zRy (hC.drewN _) 0 _ (by omega) (by omega) x0 (by omega)).mono ?_
 rintro e w1 ⟨rfl,n2,rfl⟩
 go_wp2
 go_ret
 exact ⟨zRD (by rw [←fin.out];simp),_,rfl⟩
theorem zLk {w:World} {c:Nat} {m t o s:Int} (hC:Ctx w c m t o s) (x y:Int) (hx0:0≤x) (hx:x≤18446744073709551615) (hy0:0≤y) (hy:y≤18446744073709551615):
  Calls Tryz.prog 137 #[.pointer (some ⟨c,0,none⟩), .int .u64 x, .int .u64 y] w fun e w'=>e= .returned (.int .u64 ((x+y)%m))∧ ∃n,w'=w.drewN n:=by
 have c0:=hC.c0
 have m1:=hC.m1
 have m2:=hC.m2
 have x0:=Int.emod_nonneg x (show m≠0 by omega)
 have x1:=Int.emod_lt_of_pos x (show 0<m by omega)
 have y0:=Int.emod_nonneg y (show m≠0 by omega)
 have y1:=Int.emod_lt_of_pos y (show 0<m by omega)
 have e0:(x+y)%m=(x%m+y%m)%m:=Int.add_emod ..
 by_cases hge:m≤x%m+y%m
 ·have fin:Hid (x%m+y%m-m=(x+y)%m):=zy (by
   rw [e0,show x%m+y%m=(x%m+y%m-m)+m*1 by omega,Int.add_mul_emod_self_left,show (x%m+y%m-m)%m=x%m+y%m-m from Int.emod_eq_of_lt (by omega) (by omega)];omega)
  clear e0
  go_enter Tryz.func137,Tryz.ntmps137
  go_wp2_with fail
  refine (zFb hC x hx0 hx).mono ?_
  rintro e w1 ⟨rfl,n1,rfl⟩
  go_wp2_with fail
  refine (zFb (hC.drewN n1) y hy0 hy).mono ?_
  rintro e w1 ⟨rfl,n2,rfl⟩
  go_wp2
  go_ret
  exact ⟨zRD fin.out,_,rfl⟩
 ·have fin:Hid (x%m+y%m=(x+y)%m):=zy (by
   rw [e0,show (x%m+y%m)%m=x%m+y%m from Int.emod_eq_of_lt (by omega) (by omega)])
  clear e0
  go_enter Tryz.func137,Tryz.ntmps137
  go_wp2_with fail
  refine (zFb hC x hx0 hx).mono ?_
  rintro e w1 ⟨rfl,n1,rfl⟩
  go_wp2_with fail
  refine (zFb (hC.drewN n1) y hy0 hy).mono ?_
  rintro e w1 ⟨rfl,n2,rfl⟩
  go_wp2
  go_ret
  exact ⟨zRD fin.out,_,rfl⟩
theorem zLE {w:World} {c:Nat} {m t o s:Int} (hC:Ctx w c m t o s) (x:Int) (hx0:0≤x) (hx:x≤18446744073709551615):
  Calls Tryz.prog 202 #[.pointer (some ⟨c,0,none⟩), .int .u64 x] w fun e w'=>e= .returned (.int .u64 ((-x)%m))∧ ∃n,w'=w.drewN n:=by
 have c0:=hC.c0
 have m1:=hC.m1
 have m2:=hC.m2
 have x0:=Int.emod_nonneg x (show m≠0 by omega)
 have x1:=Int.emod_lt_of_pos x (show 0<m by omega)
 have e1:(-x)%m=(- (x%m))%m:=by
  rw [←Int.zero_sub,←Int.zero_sub,Int.sub_emod,Int.sub_emod 0 (x%m),Int.emod_emod]
 by_cases hz:x%m=0
 ·have tz:(x%m == 0)=true:=by simp [hz]
  have fin:Hid ((-x)%m=0):=zy (by rw [e1,hz];simp)
  have e:Hid (x%m=0):=zy hz
  have hcut:=fun w=>zFb (w:=w) (c:=c) (m:=m) (t:=t) (o:=o) (s:=s)
  obtain ⟨q,hq⟩: ∃q,q=x%m:=⟨_,rfl⟩
  have HC:Hid (Calls Tryz.prog 143 #[.pointer (some ⟨c,0,none⟩), .int .u64 x] w fun e w'=>e= .returned (.int .u64 q)∧ ∃n,w'=w.drewN n):=zy (by rw [hq];exact zFb hC x hx0 hx)
  rw [←hq] at tz
  clear hz e1 hq hcut
  go_enter Tryz.func202,Tryz.ntmps202
  go_wp2_with fail
  refine HC.out.mono ?_
  rintro e w1 ⟨rfl,n1,rfl⟩
  go_wp2
  go_ret
  exact ⟨zRD fin.out.symm,_,rfl⟩
 ·have tz:(x%m == 0)=false:=by simp [hz]
  have fin:Hid (m-x%m=(-x)%m):=zy (by
   rw [e1,show -(x%m)=(m-x%m)+m*(-1) by omega,Int.add_mul_emod_self_left,show (m-x%m)%m=m-x%m from Int.emod_eq_of_lt (by omega) (by omega)])
  obtain ⟨q,hq⟩: ∃q,q=x%m:=⟨_,rfl⟩
  have HC:Hid (Calls Tryz.prog 143 #[.pointer (some ⟨c,0,none⟩), .int .u64 x] w fun e w'=>e= .returned (.int .u64 q)∧ ∃n,w'=w.drewN n):=zy (by rw [hq];exact zFb hC x hx0 hx)
  rw [←hq] at tz fin x0 x1
  clear hz e1 hq
  go_enter Tryz.func202,Tryz.ntmps202
  go_wp2_with fail
  refine HC.out.mono ?_
  rintro e w1 ⟨rfl,n1,rfl⟩
  go_wp2
  go_ret
  exact ⟨zRD fin.out,_,rfl⟩
theorem zMb {w:World} {c:Nat} {m t o s:Int} (hC:Ctx w c m t o s) (x y:Int) (hx0:0≤x) (hx:x≤18446744073709551615) (hy0:0≤y) (hy:y≤18446744073709551615):
  Calls Tryz.prog 169 #[.pointer (some ⟨c,0,none⟩), .int .u64 x, .int .u64 y] w fun e w'=>e= .returned (.int .u64 ((x-y)%m))∧ ∃n,w'=w.drewN n:=by
 have m1:=hC.m1
 have m2:=hC.m2
 have x0:=Int.emod_nonneg (-y) (show m≠0 by omega)
 have x1:=Int.emod_lt_of_pos (-y) (show 0<m by omega)
 have fin:Hid ((x+(-y)%m)%m=(x-y)%m):=zy (by rw [Int.add_emod_emod,Int.sub_eq_add_neg])
 have hN:=zy (zLE hC y hy0 hy)
 have hA:=zy (fun n=>zLk (hC.drewN n) x ((-y)%m) hx0 hx x0 (by omega))
 obtain ⟨q,hq⟩: ∃q,q=(-y)%m:=⟨_,rfl⟩
 rw [←hq] at fin hN hA x0 x1
 clear hq
 go_enter Tryz.func169,Tryz.ntmps169
 go_wp2_with fail
 refine hN.out.mono ?_
 rintro e w1 ⟨rfl,n1,rfl⟩
 go_wp2_with fail
 refine (hA.out _).mono ?_
 rintro e w1 ⟨rfl,n2,rfl⟩
 go_wp2
 go_ret
 exact ⟨zRD fin.out,_,rfl⟩
end

section
open Go.RowKit
theorem Fd.drewN {w:World} {B:Nat} {v:Value} {p g:Int} (h:Fd w B v p g) (n:Nat):Fd (w.drewN n) B v p g:=h.below (below_drewN (Below.refl _ _) n)
theorem Fd.p3 {w:World} {B:Nat} {v:Value} {p g:Int} (h:Fd w B v p g):3≤p:=by
 obtain ⟨b,c,t,o,s,sv,rfl,hb,hc,hF⟩:=h
 exact hF.ctx.m1
theorem Fd.pmx {w:World} {B:Nat} {v:Value} {p g:Int} (h:Fd w B v p g):p<9223372036854775808:=by
 obtain ⟨b,c,t,o,s,sv,rfl,hb,hc,hF⟩:=h
 exact hF.ctx.m2
section
variable {w:World} {B:Nat} {v:Value} {p g:Int}
theorem zG6 (h:Fd w B v p g):Calls Tryz.prog 138 #[v] w fun e w'=>e= .returned (.int .u64 p)∧w=w':=by
 obtain ⟨b,c,t,o,s,sv,rfl,hb,hc,hF⟩:=h
 have f1:=hF.f1
 go_enter Tryz.func138,Tryz.ntmps138
 go_wp2
 go_ret
 exact ⟨rfl,rfl⟩
theorem zG7 (w:World):Calls Tryz.prog 138 #[.pointer none] w fun e w'=>e= .returned (.int .u64 0)∧w=w':=by
 go_enter Tryz.func138,Tryz.ntmps138
 go_wp2
 go_ret
 exact ⟨rfl,rfl⟩
theorem zGS (h:Fd w B v p g) (x:Int) (h0:0≤x) (h1:x≤18446744073709551615):Calls Tryz.prog 151 #[v, .int .u64 x] w fun e w'=>e= .returned (.bool (decide (x<p)))∧w=w':=by
 obtain ⟨b,c,t,o,s,sv,rfl,hb,hc,hF⟩:=h
 have f1:=hF.f1
 go_enter Tryz.func151,Tryz.ntmps151
 go_wp2
 go_ret
 exact ⟨rfl,rfl⟩
theorem zG9 (h:Fd w B v p g) (x y:Int) (hx0:0≤x) (hx:x≤18446744073709551615) (hy0:0≤y) (hy:y≤18446744073709551615):
  Calls Tryz.prog 80 #[v, .int .u64 x, .int .u64 y] w fun e w'=>e= .returned (.int .u64 ((x+y)%p))∧ ∃n,w'=w.drewN n:=by
 obtain ⟨b,c,t,o,s,sv,rfl,hb,hc,hF⟩:=h
 have f0:=hF.f0
 go_enter Tryz.func80,Tryz.ntmps80
 go_wp2_with fail
 refine (zLk hF.ctx x y hx0 hx hy0 hy).mono ?_
 rintro e w1 ⟨rfl,n1,rfl⟩
 go_wp2
 go_ret
 exact ⟨rfl,_,rfl⟩
theorem zHL (h:Fd w B v p g) (x y:Int) (hx0:0≤x) (hx:x≤18446744073709551615) (hy0:0≤y) (hy:y≤18446744073709551615):
  Calls Tryz.prog 117 #[v, .int .u64 x, .int .u64 y] w fun e w'=>e= .returned (.int .u64 ((x-y)%p))∧ ∃n,w'=w.drewN n:=by
 obtain ⟨b,c,t,o,s,sv,rfl,hb,hc,hF⟩:=h
 have f0:=hF.f0
 go_enter Tryz.func117,Tryz.ntmps117
 go_wp2_with fail
 refine (zMb hF.ctx x y hx0 hx hy0 hy).mono ?_
 rintro e w1 ⟨rfl,n1,rfl⟩
 go_wp2
 go_ret
 exact ⟨rfl,_,rfl⟩
theorem zHv (h:Fd w B v p g) (x:Int) (hx0:0≤x) (hx:x≤18446744073709551615):
  Calls Tryz.prog 79 #[v, .int .u64 x] w fun e w'=>e= .returned (.int .u64 (lft p x))∧ ∃n,w'=w.drewN n:=by
 obtain ⟨b,c,t,o,s,sv,rfl,hb,hc,hF⟩:=h
 have f0:=hF.f0
 go_enter Tryz.func79,Tryz.ntmps79
 go_wp2_with fail
 refine (zJd hF.ctx x hx0 hx).mono ?_
 rintro e w1 ⟨rfl,n1,rfl⟩
 go_wp2
 go_ret
 exact ⟨rfl,_,rfl⟩
theorem zHM (h:Fd w B v p g) (a y:Int) (hy0:0≤y) (hy:y≤18446744073709551615):
  Calls Tryz.prog 81 #[v, .int .u64 (lft p a), .int .u64 y] w fun e w'=>e= .returned (.int .u64 (a*y%p))∧ ∃n,w'=w.drewN n:=by
 obtain ⟨b,c,t,o,s,sv,rfl,hb,hc,hF⟩:=h
 have f0:=hF.f0
 have m1:=hF.ctx.m1
 have m2:=hF.ctx.m2
 have hr:=zK6 (show 1≤p by omega) a
 have fin:Hid (lft p a*y*Mont.rinv p%p=a*y%p):=zy (zK3 (by omega) hF.ctx.mo)
 have hM:=zy (zLA hF.ctx (lft p a) y hr.1 (by omega) hy0 hy)
 obtain ⟨z,hz⟩: ∃z,z=lft p a:=⟨_,rfl⟩
 rw [←hz] at fin hM ⊢
 clear hz hr
 go_enter Tryz.func81,Tryz.ntmps81
 go_wp2_with fail
 refine hM.out.mono ?_
 rintro e w1 ⟨rfl,n1,rfl⟩
 go_wp2
 go_ret
 exact ⟨zRD fin.out,_,rfl⟩
theorem zHw (h:Fd w B v p g) (x y:Int) (hx0:0≤x) (hx:x≤18446744073709551615) (hy0:0≤y) (hy:y≤18446744073709551615):
  Calls Tryz.prog 38 #[v, .int .u64 x, .int .u64 y] w fun e w'=>e= .returned (.int .u64 (x*y%p))∧ ∃n,w'=w.drewN n:=by
 obtain ⟨b,c,t,o,s,sv,rfl,hb,hc,hF⟩:=h
 have f0:=hF.f0
 have m1:=hF.ctx.m1
 have m2:=hF.ctx.m2
 have hr:=zK6 (show 1≤p by omega) x
 have fin:Hid (lft p x*y*Mont.rinv p%p=x*y%p):=zy (zK3 (by omega) hF.ctx.mo)
 have hI:=zy (fun n=>zJd (hF.ctx.drewN n) x hx0 hx)
 have hM:=zy (fun n=>zLA (hF.ctx.drewN n) (lft p x) y hr.1 (by omega) hy0 hy)
 obtain ⟨z,hz⟩: ∃z,z=lft p x:=⟨_,rfl⟩
 rw [←hz] at fin hM hI
 clear hz hr
 go_enter Tryz.func38,Tryz.ntmps38
 go_wp2_with fail
 go_quiet ((first|(go_at_call 85;exact Calls.quiet_of (hI.out _))|(go_at_call 84;exact Calls.quiet_of (hM.out _))))
 go_wp2
 go_ret
 exact ⟨zRD fin.out,_,rfl⟩
theorem zHB (h:Fd w B v p g) (x y:Int) (hx0:0≤x) (hx:x≤18446744073709551615) (hy0:0≤y) (hy:y≤18446744073709551615):
  Calls Tryz.prog 222 #[v, .int .u64 x, .int .u64 y] w fun e w'=>e= .returned (.int .u64 (x^y.toNat%p))∧ ∃n,w'=w.drewN n:=by
 obtain ⟨b,c,t,o,s,sv,rfl,hb,hc,hF⟩:=h
 have f0:=hF.f0
 have m1:=hF.ctx.m1
 have m2:=hF.ctx.m2
 have hr:=zK6 (show 1≤p by omega) (x^y.toNat)
 have fin:Hid (lft p (x^y.toNat)*Mont.rinv p%p=x^y.toNat%p):=zy (by
  have:=zK3 (a:=x^y.toNat) (y:=1) (show 1<p by omega) hF.ctx.mo
  simpa using this)
 have hI:=zy (fun n=>zJd (hF.ctx.drewN n) x hx0 hx)
 have hP:=zy (fun n=>zLU (hF.ctx.drewN n) x y hy0 hy)
 have hO:=zy (fun n=>zN0 (hF.ctx.drewN n) (lft p (x^y.toNat)) hr.1 (by omega))
 obtain ⟨z,hz⟩: ∃z,z=lft p x:=⟨_,rfl⟩
 obtain ⟨z2,hz2⟩: ∃z2,z2=lft p (x^y.toNat):=⟨_,rfl⟩
 obtain ⟨z3,hz3⟩: ∃z3,z3=x^y.toNat%p:=⟨_,rfl⟩
 rw [←hz] at hI hP
 rw [←hz2] at fin hP hO
 rw [←hz3] at fin ⊢
 clear hz hz2 hz3 hr
 go_enter Tryz.func222,Tryz.ntmps222
 go_wp2_with fail
 go_quiet ((first|(go_at_call 85;exact Calls.quiet_of (hI.out _))|(go_at_call 216;exact Calls.quiet_of (hP.out _))|(go_at_call 237;exact Calls.quiet_of (hO.out _))))
 go_wp2
 go_ret
 exact ⟨zRD fin.out,_,rfl⟩
def zAw (p x t:Int):Prop:=(Nat.gcd p.toNat (x%p).toNat=1∧0≤t∧t<p∧t*x%p=1)∨(Nat.gcd p.toNat (x%p).toNat≠1∧t=0)
def zAn (p x:Int) (w:World) (r:Ending) (w':World):Prop:=
 (∃n,w'=w.drewN n)∧ ∃t,r= .returned (.int .u64 t)∧zAw p x t
theorem zAw.range {p x t:Int} (hp:1≤p) (h:zAw p x t):0≤t∧t<p:=by
 rcases h with ⟨_,a,b,_⟩|⟨_,rfl⟩
 ·exact ⟨a,b⟩
 ·omega
theorem zGV (h:Fd w B v p g) (x:Int) (hx0:0≤x) (hx:x≤18446744073709551615):
  Calls Tryz.prog 173 #[v, .int .u64 x] w (zAn p x w):=by
 have p3:=h.p3
 have pm:=h.pmx
 have hP:=zy (zG6 h)
 have hI:=zy (zLK x p w hx0 hx (by omega) (by omega))
 clear h
 go_enter Tryz.func173,Tryz.ntmps173
 go_wp2_with fail
 refine hP.out.mono ?_
 rintro e w1 ⟨rfl,rfl⟩
 go_wp2_with fail
 refine hI.out.mono ?_
 rintro e w1 ⟨⟨n,rfl⟩,⟨hg,t,rfl,t0,t1,ht⟩|⟨hg,rfl⟩⟩
 ·have HG:=zy (And.intro hg ht)
  clear hg ht
  go_wp2
  go_ret
  exact ⟨⟨_,rfl⟩,t,rfl, .inl ⟨HG.out.1,t0,t1,HG.out.2⟩⟩
 ·have HG:=zy hg
  clear hg
  go_wp2
  go_ret
  exact ⟨⟨_,rfl⟩,0,rfl, .inr ⟨HG.out,rfl⟩⟩
theorem zHE (h:Fd w B v p g) (n:Int) (h0: -9223372036854775808≤n) (h1:n≤9223372036854775807) (hd:(decide (0<n) && ((p-1)%n == 0))=true) (g0:0≤g) (g1:g<p):
  Calls Tryz.prog 207 #[v, .int .i64 n] w fun e w'=>e= .returned (.tuple #[.int .u64 (g^((p-1)/n).toNat%p), .int .i64 0])∧ ∃k,w'=w.drewN k:=by
 have hD:=zy (zFG h n h0 h1)
 have p3:=h.p3
 have pm:=h.pmx
 rw [hd] at hD
 have hn:0<n:=by
  simp only [Bool.and_eq_true,decide_eq_true_eq] at hd
  exact hd.1
 have q0:0≤(p-1)/n:=Int.ediv_nonneg (by omega) (by omega)
 have q1:(p-1)/n≤p-1:=Int.ediv_le_self _ (by omega)
 have tn:(n == 0)=false:=beq_eq_false_iff_ne.2 (by omega)
 have hPw:=zy (fun k=>zHB (h.drewN k) g ((p-1)/n) g0 (by omega) q0 (by omega))
 obtain ⟨z,hz⟩: ∃z,z=g^((p-1)/n).toNat%p:=⟨_,rfl⟩
 rw [←hz] at hPw ⊢
 clear hd hz
 obtain ⟨b,c,t,o,s,sv,rfl,hb,hc,hF⟩:=h
 have f1:=hF.f1
 have f2:=hF.f2
 have e1:IntKind.u64.wrap (p-1)=p-1:=IntWalk.u64_in _ (by omega)
 have e2:0≤p-1:=by omega
 go_enter Tryz.func207,Tryz.ntmps207
 go_wp2_with fail
 refine hD.out.mono ?_
 rintro e w1 ⟨rfl,rfl⟩
 go_wp2_with fail
 go_quiet ((go_at_call 222;exact Calls.quiet_of (hPw.out _)))
 go_wp2
 go_ret2
 exact ⟨rfl,_,rfl⟩
end
end

section
open Go.RowKit
theorem zJt:(Tryz.prog.info? 22).map (fun i=>(i.zero,i.size,i.bytes))=some (some (.int .u64 0),1,8):=by kernel_rfl
def chk (p n most:Int):Int:=if n<1 then 1 else if most<n then 13 else if (p-1)%n=0 then 0 else 4
theorem check_nil (n most:Int) (w:World):Calls Tryz.prog 102 #[.pointer none, .int .i64 n, .int .i64 most] w fun e w'=>e= .returned (.int .i64 2)∧w=w':=by
 go_enter Tryz.func102,Tryz.ntmps102
 go_wp2
 go_ret
 exact ⟨rfl,rfl⟩
theorem zDT {w:World} {B:Nat} {v:Value} {p g:Int} (h:Fd w B v p g) (n most:Int) (h0: -9223372036854775808≤n) (h1:n≤9223372036854775807):
  Calls Tryz.prog 102 #[v, .int .i64 n, .int .i64 most] w fun e w'=>e= .returned (.int .i64 (chk p n most))∧w=w':=by
 have hD:=zy (zFG h n h0 h1)
 obtain ⟨b,c,t,o,s,sv,rfl,hb,hc,hF⟩:=h
 by_cases c1:n<1
 ·have HC:Hid (chk p n most=1):=zy (by unfold chk;rw [if_pos c1])
  go_enter Tryz.func102,Tryz.ntmps102
  go_wp2
  go_ret
  exact ⟨zRD HC.out.symm,rfl⟩
 ·by_cases c2:most<n
  ·have HC:Hid (chk p n most=13):=zy (by unfold chk;rw [if_neg c1,if_pos c2])
   have t2:decide (most<n)=true:=by simpa using c2
   go_enter Tryz.func102,Tryz.ntmps102
   go_wp2
   go_ret
   exact ⟨zRD HC.out.symm,rfl⟩
  ·have hp:decide (0<n)=true:=by simp;omega
   have t2:decide (most<n)=false:=by simpa using c2
   by_cases c3:(p-1)%n=0
   ·have HC:Hid (chk p n most=0):=zy (by unfold chk;rw [if_neg c1,if_neg c2,if_pos c3])
    have hb:(decide (0<n) && ((p-1)%n == 0))=true:=by rw [hp,c3];rfl
    rw [hb] at hD
    clear c3 hb
    go_enter Tryz.func102,Tryz.ntmps102
    go_wp2_with fail
    refine hD.out.mono ?_
    rintro e w1 ⟨rfl,rfl⟩
    go_wp2
    go_ret
    exact ⟨zRD HC.out.symm,rfl⟩
   ·have HC:Hid (chk p n most=4):=zy (by unfold chk;rw [if_neg c1,if_neg c2,if_neg c3])
    have hb:(decide (0<n) && ((p-1)%n == 0))=false:=by rw [hp];simpa using c3
    rw [hb] at hD
    clear c3 hb
    go_enter Tryz.func102,Tryz.ntmps102
    go_wp2_with fail
    refine hD.out.mono ?_
    rintro e w1 ⟨rfl,rfl⟩
    go_wp2
    go_ret
    exact ⟨zRD HC.out.symm,rfl⟩
theorem zP8 (p n most:Int) (w:World) (p1:3≤p) (p2:p<9223372036854775808) (h0: -9223372036854775808≤n) (h1:n≤9223372036854775807):
  Calls Tryz.prog 21 #[.int .u64 p, .int .i64 n, .int .i64 most] w fun e w'=>e= .returned (.int .i64 (chk p n most))∧w=w':=by
 by_cases c1:n<1
 ·have HC:Hid (chk p n most=1):=zy (by unfold chk;rw [if_pos c1])
  go_enter Tryz.func21,Tryz.ntmps21
  go_wp2
  go_ret
  exact ⟨zRD HC.out.symm,rfl⟩
 ·by_cases c2:most<n
  ·have HC:Hid (chk p n most=13):=zy (by unfold chk;rw [if_neg c1,if_pos c2])
   have t2:decide (most<n)=true:=by simpa using c2
   go_enter Tryz.func21,Tryz.ntmps21
   go_wp2
   go_ret
   exact ⟨zRD HC.out.symm,rfl⟩
  ·have hz:(n == 0)=false:=beq_eq_false_iff_ne.2 (by omega)
   have t2:decide (most<n)=false:=by simpa using c2
   by_cases c3:(p-1)%n=0
   ·have HC:Hid (chk p n most=0):=zy (by unfold chk;rw [if_neg c1,if_neg c2,if_pos c3])
    have hb:((p-1)%n != 0)=false:=by simp [c3]
    clear c3
    go_enter Tryz.func21,Tryz.ntmps21
    go_wp2
    go_ret
    exact ⟨zRD HC.out.symm,rfl⟩
   ·have HC:Hid (chk p n most=4):=zy (by unfold chk;rw [if_neg c1,if_neg c2,if_neg c3])
    have hb:((p-1)%n != 0)=true:=by simp [c3]
    clear c3
    go_enter Tryz.func21,Tryz.ntmps21
    go_wp2
    go_ret
    exact ⟨zRD HC.out.symm,rfl⟩
def zI1 (p:Int) (L:List Int):Bool:=L.all fun x=>decide (x<p)
theorem zI3 {p:Int} {L:List Int} {k:Nat} (hk:k<L.length) (h:zI1 p (L.take k)=true):zI1 p (L.take (k+1))=decide (L.getD k 0<p):=by
 unfold zI1 at *
 rw [List.take_succ_eq_append_getElem hk,List.all_append,h,List.getD_eq_getElem?_getD,List.getElem?_eq_getElem hk];simp
theorem zI2 {p:Int} {L:List Int} {k:Nat} (hk:k<L.length) (h: ¬L.getD k 0<p):zI1 p L=false:=by
 unfold zI1
 rw [List.all_eq_false]
 exact ⟨L[k],List.getElem_mem hk,by rw [List.getD_eq_getElem?_getD,List.getElem?_eq_getElem hk] at h;simpa using h⟩
def U64s (L:List Int):Prop:= ∀x ∈ L,0≤x∧x≤18446744073709551615
theorem U64s.at {L:List Int} (h:U64s L) {k:Nat} (hk:k<L.length):0≤L.getD k 0∧L.getD k 0≤18446744073709551615:=by
 rw [List.getD_eq_getElem?_getD,List.getElem?_eq_getElem hk];exact h _ (List.getElem_mem hk)
theorem zI6 {w:World} {B:Nat} {v:Value} {p g:Int} (h:Fd w B v p g) (A:Option Addr) (c n:Nat) (L:List Int) (hl:L.length≤140737488351232) (hU:U64s L) (hR:RdI w n .u64 A L):
  Calls Tryz.prog 120 #[v, .slice A L.length c] w fun e w'=>e= .returned (.bool (zI1 p L))∧w=w':=by
 have hG:=zy (fun x h0 h1=>zGS h x h0 h1)
 obtain ⟨bf,cf,t,o,s,sv,rfl,hb,hc,hF⟩:=h
 have HU:=zy hU
 clear hF hU
 go_enter Tryz.func120,Tryz.ntmps120
 go_wp2
 go_loopw [6,9] (fun _ I wr=> ∃k:Nat,I= .int .i64 k∧k≤L.length∧Hid (zI1 p (L.take k)=true)∧wr=w) (fun _ I _=>L.length-(intOf I).toNat)
 case atStart=>exact ⟨0,rfl,by omega,zy rfl,rfl⟩
 case round=>
  obtain ⟨k,rfl,hk,hg,rfl⟩:=hrel
  by_cases hlt:k<L.length
  ·obtain ⟨b,o',rfl,hbl,hcell⟩:=hR (by omega)
   have d:=hcell k hlt
   obtain ⟨x,hx⟩: ∃x,x=L.getD k 0:=⟨_,rfl⟩
   have hu:=HU.out.at hlt
   have hs:=zI3 hlt hg.out
   have hno:=fun h=>zI2 (p:=p) hlt h
   rw [←hx] at d hu hs hno
   clear hx hcell hR
   by_cases hxp:x<p
   ·have HS:Hid (zI1 p (L.take (k+1))=true):=zy (by rw [hs];simpa using hxp)
    have t1:decide (x<p)=true:=by simpa using hxp
    clear hs hno
    go_wp2_with fail
    refine (hG.out x hu.1 hu.2).mono ?_
    rintro e w1 ⟨rfl,rfl⟩
    go_wp2
    go_roundw
    case rel=>exact ⟨k+1,by go_num,by omega,HS,by trivial⟩
    case measure=>simp [intOf];omega
   ·have HS:Hid (zI1 p L=false):=zy (hno hxp)
    have t1:decide (x<p)=false:=by simpa using hxp
    clear hs hno
    go_wp2_with fail
    refine (hG.out x hu.1 hu.2).mono ?_
    rintro e w1 ⟨rfl,rfl⟩
    go_wp2
    go_ret
    exact ⟨by rw [HS.out];first|rfl|simp,rfl⟩
  ·obtain rfl:k=L.length:=by omega
   have hz:=hg.out
   rw [List.take_length] at hz
   have HZ:=zy hz
   clear hz hg
   go_wp2
   go_ret
   exact ⟨by rw [HZ.out];first|rfl|simp,rfl⟩
theorem zP9 (A:Option Addr) (c n:Nat) (p:Int) (L:List Int) (w:World) (hl:L.length≤140737488351232) (hR:RdI w n .u64 A L):
  Calls Tryz.prog 29 #[.int .u64 p, .slice A L.length c] w fun e w'=>e= .returned (.bool (zI1 p L))∧w=w':=by
 go_enter Tryz.func29,Tryz.ntmps29
 go_wp2
 go_loopw [6,9] (fun _ I wr=> ∃k:Nat,I= .int .i64 k∧k≤L.length∧Hid (zI1 p (L.take k)=true)∧wr=w) (fun _ I _=>L.length-(intOf I).toNat)
 case atStart=>exact ⟨0,rfl,by omega,zy rfl,rfl⟩
 case round=>
  obtain ⟨k,rfl,hk,hg,rfl⟩:=hrel
  by_cases hlt:k<L.length
  ·obtain ⟨b,o',rfl,hbl,hcell⟩:=hR (by omega)
   have d:=hcell k hlt
   obtain ⟨x,hx⟩: ∃x,x=L.getD k 0:=⟨_,rfl⟩
   have hs:=zI3 hlt hg.out
   have hno:=fun h=>zI2 (p:=p) hlt h
   rw [←hx] at d hs hno
   clear hx hcell hR
   by_cases hxp:x<p
   ·have HS:Hid (zI1 p (L.take (k+1))=true):=zy (by rw [hs];simpa using hxp)
    have t1:decide (p≤x)=false:=by simp;omega
    clear hs hno
    go_wp2
    go_roundw
    case rel=>exact ⟨k+1,by go_num,by omega,HS,by trivial⟩
    case measure=>simp [intOf];omega
   ·have HS:Hid (zI1 p L=false):=zy (hno hxp)
    have t1:decide (p≤x)=true:=by simp;omega
    clear hs hno
    go_wp2
    go_ret
    exact ⟨by rw [HS.out];first|rfl|simp,rfl⟩
  ·obtain rfl:k=L.length:=by omega
   have hz:=hg.out
   rw [List.take_length] at hz
   have HZ:=zy hz
   clear hz hg
   go_wp2
   go_ret
   exact ⟨by rw [HZ.out];first|rfl|simp,rfl⟩
end

section
open Go.RowKit
def part (n:Nat) (f:Nat→Int) (k:Nat):List Int:=(List.range n).map fun j=>if j<k then f j else 0
def full (n:Nat) (f:Nat→Int):List Int:=(List.range n).map f
theorem zHS (n:Nat) (f:Nat→Int):(full n f).length=n:=by simp [full]
theorem zHR {n:Nat} {f:Nat→Int} {i:Nat} (hi:i<n):(full n f).getD i 0=f i:=by simp [full,List.getD_eq_getElem?_getD,hi]
theorem zNW (n:Nat) (f:Nat→Int):part n f 0=List.replicate n 0:=by unfold part;simp [List.map_const']
theorem zNT (n:Nat) (f:Nat→Int):part n f n=full n f:=by
 unfold part full
 exact List.map_congr_left fun j hj=>by rw [if_pos (List.mem_range.1 hj)]
theorem zLy {α:Type} (n:Nat) (f f':Nat→α) (a:Nat) (v:α) (h1:f' a=v) (h2: ∀j,j<n→j≠a→f' j=f j):((List.range n).map f).set a v=(List.range n).map f':=by
 apply List.ext_getElem
 ·simp
 ·intro j hj hj'
  rw [List.getElem_set]
  split
  ·rename_i e;subst e;simp [h1]
  ·rename_i e
   simp at hj'
   simp [h2 j hj' (fun h=>e h.symm)]
theorem zNV {n:Nat} {f:Nat→Int} {k:Nat}:(part n f k).set k (f k)=part n f (k+1):=by
 unfold part
 refine zLy _ _ _ _ _ (by rw [if_pos (by omega)]) fun j _ hj=>?_
 by_cases h:j<k
 ·rw [if_pos h,if_pos (by omega)]
 ·rw [if_neg h,if_neg (by omega)]
theorem zJ7 (k:IntKind) (xs:List Int) (j:Nat) (v:Int):(ints k xs).set j (.int k v)=ints k (xs.set j v):=by simp [ints,List.map_set]
theorem zJC (k:IntKind) (n:Nat):ints k (List.replicate n 0)=List.replicate n (.int k 0):=by simp [ints]
theorem zJ3 (k:IntKind) (xs:List Int):(ints k xs).length=xs.length:=by simp [ints]
def OwnU (w:World) (B:Nat) (v:Value) (n:Nat) (L:List Int):Prop:=w.ownsRow B 22 1 v n (ints .u64 L)
theorem OwnU.len {w:World} {B:Nat} {v:Value} {n:Nat} {L:List Int} (h:OwnU w B v n L):L.length=n:=by
 have:=h.1
 rw [zJ3] at this
 omega
theorem OwnU.rd {w:World} {B:Nat} {v:Value} {n:Nat} {L:List Int} (h:OwnU w B v n L): ∃A c,v= .slice A n c∧RdI w w.heap.size .u64 A L:=by
 have hl:=h.len
 subst hl
 exact RdI.of_own h
theorem OwnU.drewN {w:World} {B:Nat} {v:Value} {n:Nat} {L:List Int} (h:OwnU w B v n L) (k:Nat):OwnU (w.drewN k) B v n L:=h
theorem OwnU.below {w w':World} {B:Nat} {v:Value} {n:Nat} {L:List Int} (h:OwnU w B v n L) (hb:Below w.heap.size w w'):OwnU w' B v n L:=
 World.ownsRow.kept h ⟨hb.os,hb.tape,hb.output,hb.size,fun i hi _=>hb.block i hi⟩ (row:=none) (by
  rcases h.2 with ⟨e,_⟩|⟨g',cap',cur',e,_⟩
  ·exact .inl (by rw [e];rfl)
  ·exact .inr (by rw [e];simp [Value.ownBlock]))
theorem OwnU.mono {w:World} {B B':Nat} {v:Value} {n:Nat} {L:List Int} (h:OwnU w B v n L) (hb:B'≤B):OwnU w B' v n L:=
 ⟨h.1,h.2.imp id fun ⟨g,cap,cur,e1,h2,r⟩=>⟨g,cap,cur,e1,Nat.le_trans hb h2,r⟩⟩
theorem OwnU.set {w:World} {B G c n:Nat} {L:List Int} (h:OwnU w B (.slice (some ⟨G,0,none⟩) n c) n L) (k:Nat) (hk:k<n) (x:Int):
  OwnU (w.setCell ⟨G,k,none⟩ (.int .u64 x)) B (.slice (some ⟨G,0,none⟩) n c) n (L.set k x)∧w.cell? ⟨G,k,none⟩=some (.int .u64 (L.getD k 0))∧w.frozen? ⟨G,k,none⟩=false∧B≤G:=by
 have hl:=h.len
 refine ⟨?_,?_,World.ownsRow.frozenAt h k,(World.ownsRow.lt h G rfl).1⟩
 ·have:=World.ownsRow.stored h k (.int .u64 x)
  rw [zJ7] at this
  exact this.1
 ·rw [World.ownsRow.cellAt h k (by omega)]
  simp [ints,List.getD_eq_getElem?_getD,hl,hk]
theorem zTa {w:World} {v:Value} {p g:Int} (h:Fd w w.heap.size v p g) (A:Option Addr) (c:Nat) (L:List Int) (hl:L.length≤4294967296) (hU:U64s L) (hR:RdI w w.heap.size .u64 A L):
  Calls Tryz.prog 122 #[v, .slice A L.length c] w fun e w'=> ∃V t,e= .returned V∧zAw p L.length t∧OwnU w' w.heap.size V L.length (full L.length fun i=>t*L.getD i 0%p)∧Below w.heap.size w w':=by
 obtain ⟨i0,hi,hz0,hz1,hz2⟩:=info_parts zJt
 have p3:=h.p3
 have pm:=h.pmx
 have HU:=zy hU
 have HF:=zy h
 clear hU h
 go_enter Tryz.func122,Tryz.ntmps122
 go_wp2_with fail
 refine (zGV HF.out L.length (by omega) (by omega)).mono ?_
 rintro e w1 ⟨⟨n1,rfl⟩,t,rfl,hT⟩
 have hTr:=hT.range (by omega)
 have HT:=zy hT
 clear hT
 go_wp2_with fail
 refine (zHv (HF.out.drewN n1) t hTr.1 (by omega)).mono ?_
 rintro e w1 ⟨rfl,n2,hw1⟩
 have hB1:Below w.heap.size w w1:=by rw [hw1];exact below_drewN (below_drewN (Below.refl _ _) _) _
 clear hw1
 obtain ⟨lt,hlt⟩: ∃lt,lt=lft p t:=⟨_,rfl⟩
 rw [←hlt]
 have HLT:=zy hlt
 clear hlt
 go_wp2_with (at_make;refine wpList_make_full _ rfl _ _ 54 rfl w.heap.size 22 i0 (.int .u64 0) 1 Tryz.underlying54 hi hz0 hz1 _ _ _ _ L.length rfl rfl ?l1 ?l2 ?b2 ?b3 hB1.size ?_)
 case l1=>omega
 case l2=>omega
 case b2=>rw [hz2];omega
 case b3=>unfold maxLen;omega
 intro w3 hown hgrow
 have hown0:OwnU w3 w.heap.size (.slice (some ⟨w1.heap.size,0,none⟩) L.length L.length) L.length (part L.length (fun i=>t*L.getD i 0%p) 0):=by
  unfold OwnU
  rw [zNW,zJC,←toList_madeCells_one];exact hown
 have hB3:Below w.heap.size w w3:=hB1.grown hgrow hB1.size (fun k h=>by cases h)
 obtain ⟨G,hG⟩: ∃G,G=w1.heap.size:=⟨_,rfl⟩
 rw [←hG] at hown0
 have hGb:w.heap.size≤G:=by rw [hG];exact hB1.size
 rw [←hG]
 clear hown hgrow hB1 hG
 go_wp2
 go_loopw [21] (fun I wr=> ∃k:Nat,I= .int .i64 k∧k≤L.length∧OwnU wr w.heap.size (.slice (some ⟨G,0,none⟩) L.length L.length) L.length (part L.length (fun i=>t*L.getD i 0%p) k)∧Below w.heap.size w wr) (fun I _=>L.length-(intOf I).toNat)
 case atStart=>exact ⟨0,rfl,by omega,hown0,hB3⟩
 case round=>
  clear hown0 hB3
  obtain ⟨k,rfl,hk,hown,hB⟩:=hrel
  by_cases hlt:k<L.length
  ·obtain ⟨b,o',rfl,hbl,hcell⟩:=hR (by omega)
   have d:=zDs hB hbl (hcell k hlt)
   obtain ⟨x,hx⟩: ∃x,x=L.getD k 0:=⟨_,rfl⟩
   have hu:=HU.out.at hlt
   rw [←hx] at d hu
   have HX:=zy hx
   have hTm:=zy (zHM (HF.out.below hB) t x hu.1 hu.2)
   rw [←HLT.out] at hTm
   have HO:=zy hown
   clear hx hcell hR hown
   go_wp2_with fail
   refine hTm.out.mono ?_
   rintro e w4 ⟨rfl,n3,hw4⟩
   have hB4:Below w.heap.size w w4:=by rw [hw4];exact below_drewN hB _
   have hO4:OwnU w4 w.heap.size (.slice (some ⟨G,0,none⟩) L.length L.length) L.length (part L.length (fun i=>t*L.getD i 0%p) k):=by rw [hw4];exact HO.out.drewN _
   have d4:w4.cell? ⟨b,o'+k,none⟩=some (.int .u64 x):=by rw [hw4];exact d
   obtain ⟨hset,hce,hfr,_⟩:=hO4.set k hlt (t*x%p)
   have hps:(part L.length (fun i=>t*L.getD i 0%p) k).set k (t*x%p)=part L.length (fun i=>t*L.getD i 0%p) (k+1):=by rw [HX.out];exact zNV
   rw [hps] at hset
   have HS:=zy hset
   obtain ⟨y,hy⟩: ∃y,y=t*x%p:=⟨_,rfl⟩
   rw [←hy] at HS ⊢
   clear hw4 hO4 hps hset d hB hy
   go_wp2
   go_roundw
   case rel=>exact ⟨k+1,by go_num,by omega,HS.out,hB4.setCell hGb _⟩
   case measure=>simp [intOf];omega
  ·obtain rfl:k=L.length:=by omega
   rw [zNT] at hown
   have HO:=zy hown
   clear hown
   go_wp2
   go_ret
   exact ⟨_,t,rfl,HT.out,HO.out,hB⟩
def zAH (p g n:Int) (inv:Bool) (W:Int):Prop:=(inv=false→W=g^((p-1)/n).toNat%p)∧(inv=true→zAw p (g^((p-1)/n).toNat%p) W)
theorem zAH.range {p g n W:Int} {inv:Bool} (hp:1≤p) (h:zAH p g n inv W):0≤W∧W<p:=by
 cases inv with
 | false=>rw [h.1 rfl];exact ⟨Int.emod_nonneg _ (by omega),Int.emod_lt_of_pos _ (by omega)⟩
 | true=>exact (h.2 rfl).range hp
theorem zEq {p n most:Int} (h:chk p n most=0):1≤n∧n≤most∧(p-1)%n=0:=by
 unfold chk at h
 split at h
 ·omega
 ·split at h
  ·omega
  ·split at h
   ·exact ⟨by omega,by omega, ‹_›⟩
   ·omega
theorem zVx {w:World} {B:Nat} {v:Value} {p g:Int} (h:Fd w B v p g) (n:Int) (inv:Bool) (hn:chk p n 4096=0) (g0:0≤g) (g1:g<p):
  Calls Tryz.prog 179 #[v, .int .i64 n, .bool inv] w fun e w'=> ∃W,e= .returned (.tuple #[.int .u64 W, .int .i64 0])∧zAH p g n inv W∧ ∃k,w'=w.drewN k:=by
 have p3:=h.p3
 have pm:=h.pmx
 obtain ⟨c1,c2,c3⟩:=zEq hn
 have hd:(decide (0<n) && ((p-1)%n == 0))=true:=by rw [c3];simp;omega
 have hRt:=zy (zHE h n (by omega) (by omega) hd g0 g1)
 have t1:decide (4096<n)=false:=by simp;omega
 have w0:0≤g^((p-1)/n).toNat%p:=Int.emod_nonneg _ (by omega)
 have w1:g^((p-1)/n).toNat%p<p:=Int.emod_lt_of_pos _ (by omega)
 have hIn:=zy (fun k=>zGV (h.drewN k) (g^((p-1)/n).toNat%p) w0 (by omega))
 have HR:Hid (∀W,(inv=false→W=g^((p-1)/n).toNat%p)∧(inv=true→zAw p (g^((p-1)/n).toNat%p) W)→zAH p g n inv W):=zy (fun W h=>h)
 obtain ⟨z,hz⟩: ∃z,z=g^((p-1)/n).toNat%p:=⟨_,rfl⟩
 rw [←hz] at hRt hIn HR w0 w1
 clear hd hz c3 hn
 obtain ⟨b,c,t,o,s,sv,rfl,hb,hc,hF⟩:=h
 clear hF
 cases inv with
 | false=>
  go_enter Tryz.func179,Tryz.ntmps179
  go_wp2_with fail
  refine hRt.out.mono ?_
  rintro e w1 ⟨rfl,n1,rfl⟩
  go_wp2
  go_ret2
  exact ⟨z,rfl,HR.out z ⟨fun _=>rfl,(fun h=>by cases h)⟩,_,rfl⟩
 | true=>
  go_enter Tryz.func179,Tryz.ntmps179
  go_wp2_with fail
  refine hRt.out.mono ?_
  rintro e w1 ⟨rfl,n1,rfl⟩
  go_wp2_with fail
  refine (hIn.out n1).mono ?_
  rintro e w1 ⟨⟨n2,rfl⟩,t,rfl,ht⟩
  have HT:=zy ht
  clear ht
  go_wp2
  go_ret2
  exact ⟨t,rfl,HR.out t ⟨(fun h=>by cases h),fun _=>HT.out⟩,_,rfl⟩
theorem zU2 {w:World} {v:Value} {p g:Int} (h:Fd w w.heap.size v p g) (n:Nat) (inv:Bool) (hn:chk p n 4096=0) (g0:0≤g) (g1:g<p):
  Calls Tryz.prog 129 #[v, .int .i64 n, .bool inv] w fun e w'=> ∃V W,e= .returned (.tuple #[V, .int .i64 0])∧zAH p g n inv W∧OwnU w' w.heap.size V n (full n fun i=>W^i%p)∧Below w.heap.size w w':=by
 obtain ⟨i0,hi,hz0,hz1,hz2⟩:=info_parts zJt
 have p3:=h.p3
 have pm:=h.pmx
 obtain ⟨c1,c2,c3⟩:=zEq hn
 have HN:=zy hn
 have HF:=zy h
 clear h c3 hn
 go_enter Tryz.func129,Tryz.ntmps129
 go_wp2_with fail
 refine (zVx HF.out n inv HN.out g0 g1).mono ?_
 rintro e w1 ⟨W,rfl,hW,n1,rfl⟩
 have hWr:=hW.range (by omega)
 have HW:=zy hW
 clear hW
 go_wp2_with fail
 refine (zHv (HF.out.drewN n1) W hWr.1 (by omega)).mono ?_
 rintro e w1 ⟨rfl,n2,hw1⟩
 have hB1:Below w.heap.size w w1:=by rw [hw1];exact below_drewN (below_drewN (Below.refl _ _) _) _
 clear hw1
 obtain ⟨lt,hlt⟩: ∃lt,lt=lft p W:=⟨_,rfl⟩
 rw [←hlt]
 have HLT:=zy hlt
 clear hlt
 go_wp2_with (at_make;refine wpList_make_full _ rfl _ _ 54 rfl w.heap.size 22 i0 (.int .u64 0) 1 Tryz.underlying54 hi hz0 hz1 _ _ _ _ n rfl rfl ?l1 ?l2 ?b2 ?b3 hB1.size ?_)
 case l1=>omega
 case l2=>omega
 case b2=>rw [hz2];omega
 case b3=>unfold maxLen;omega
 intro w3 hown hgrow
 have hown0:OwnU w3 w.heap.size (.slice (some ⟨w1.heap.size,0,none⟩) n n) n (part n (fun i=>W^i%p) 0):=by
  unfold OwnU
  rw [zNW,zJC,←toList_madeCells_one];exact hown
 have hB3:Below w.heap.size w w3:=hB1.grown hgrow hB1.size (fun k h=>by cases h)
 obtain ⟨G,hG⟩: ∃G,G=w1.heap.size:=⟨_,rfl⟩
 rw [←hG] at hown0
 have hGb:w.heap.size≤G:=by rw [hG];exact hB1.size
 rw [←hG]
 have ex:Hid ((1:Int)=W^0%p):=zy (by rw [Int.pow_zero,Int.emod_eq_of_lt (by omega) (by omega)])
 clear hown hgrow hB1 hG
 go_wp2
 go_loopw [12,31] (fun X I wr=> ∃(k:Nat) (x:Int),X= .int .u64 x∧I= .int .i64 k∧k≤n∧0≤x∧x<p∧Hid (x=W^k%p)∧OwnU wr w.heap.size (.slice (some ⟨G,0,none⟩) n n) n (part n (fun i=>W^i%p) k)∧Below w.heap.size w wr) (fun _ I _=>n-(intOf I).toNat)
 case atStart=>exact ⟨0,1,rfl,rfl,by omega,by omega,by omega,ex,hown0,hB3⟩
 case round=>
  clear hown0 hB3
  obtain ⟨k,x,rfl,rfl,hk,x0,x1,hx,hown,hB⟩:=hrel
  by_cases hlt:k<n
  ·obtain ⟨hset,hce,hfr,_⟩:=hown.set k hlt x
   have hps:(part n (fun i=>W^i%p) k).set k x=part n (fun i=>W^i%p) (k+1):=by rw [hx.out];exact zNV
   rw [hps] at hset
   have HS:=zy hset
   have hB4:Below w.heap.size w (wr.setCell ⟨G,k,none⟩ (.int .u64 x)):=hB.setCell hGb _
   have y0:=Int.emod_nonneg (W*x) (show p≠0 by omega)
   have y1:=Int.emod_lt_of_pos (W*x) (show 0<p by omega)
   have hnx:Hid (W*x%p=W^(k+1)%p):=zy (by rw [hx.out,Int.mul_emod,Int.emod_emod,←Int.mul_emod,Int.pow_succ,Int.mul_comm])
   have hTm:=zy (fun wz (hb:Below w.heap.size w wz)=>zHM (HF.out.below hb) W x x0 (by omega))
   rw [←HLT.out] at hTm
   obtain ⟨y,hy⟩: ∃y,y=W*x%p:=⟨_,rfl⟩
   rw [←hy] at y0 y1 hnx hTm
   clear hown hps hset hy
   go_wp2_with fail
   refine (hTm.out _ hB4).mono ?_
   rintro e w4 ⟨rfl,n3,rfl⟩
   go_wp2
   go_roundw
   case rel=>exact ⟨k+1,y,rfl,by go_num,by omega,y0,y1,hnx,HS.out.drewN _,below_drewN hB4 _⟩
   case measure=>simp [intOf];omega
  ·obtain rfl:k=n:=by omega
   rw [zNT] at hown
   have HO:=zy hown
   clear hown
   go_wp2
   go_ret2
   exact ⟨_,W,rfl,HW.out,HO.out,hB⟩
theorem zKA {w:World} {v:Value} {p g:Int} (h:Fd w w.heap.size v p g) (n:Nat) (inv:Bool) (hn:chk p n 4096=0) (g0:0≤g) (g1:g<p):
  Calls Tryz.prog 115 #[v, .int .i64 n, .bool inv] w fun e w'=> ∃V W,e= .returned (.tuple #[V, .int .i64 0])∧zAH p g n inv W∧OwnU w' w.heap.size V n (full n fun i=>lft p (W^i))∧Below w.heap.size w w':=by
 have p3:=h.p3
 have pm:=h.pmx
 obtain ⟨c1,c2,c3⟩:=zEq hn
 have HN:=zy hn
 have HF:=zy h
 clear h c3 hn
 go_enter Tryz.func115,Tryz.ntmps115
 go_wp2_with fail
 refine (zU2 HF.out n inv HN.out g0 g1).mono ?_
 rintro e w1 ⟨V,W,rfl,hW,hown,hB1⟩
 have HW:=zy hW
 have hform: ∃G c,V= .slice (some ⟨G,0,none⟩) n c:=by
  rcases hown.2 with ⟨_,h0⟩|⟨g',cap',cur',e,_⟩
  ·omega
  ·exact ⟨g',cap',e⟩
 obtain ⟨G,c,rfl⟩:=hform
 have hGb:w.heap.size≤G:=(hown.set 0 (by omega) 0).2.2.2
 have hown0:OwnU w1 w.heap.size (.slice (some ⟨G,0,none⟩) n c) n ((List.range n).map fun j=>if j<0 then lft p (W^j) else W^j%p):=by
  have:((List.range n).map fun j=>if j<0 then lft p (W^j) else W^j%p)=full n fun i=>W^i%p:=by
   unfold full
   exact List.map_congr_left fun j _=>by rw [if_neg (by omega)]
  rw [this];exact hown
 clear hW hown
 go_wp2
 go_loopw [21] (fun I wr=> ∃k:Nat,I= .int .i64 k∧k≤n∧OwnU wr w.heap.size (.slice (some ⟨G,0,none⟩) n c) n ((List.range n).map fun j=>if j<k then lft p (W^j) else W^j%p)∧Below w.heap.size w wr) (fun I _=>n-(intOf I).toNat)
 case atStart=>exact ⟨0,rfl,by omega,hown0,hB1⟩
 case round=>
  clear hown0 hB1
  obtain ⟨k,rfl,hk,hown,hB⟩:=hrel
  by_cases hlt:k<n
  ·have d:=(hown.set k hlt 0).2.1
   have hx:((List.range n).map fun j=>if j<k then lft p (W^j) else W^j%p).getD k 0=W^k%p:=by simp [List.getD_eq_getElem?_getD,hlt]
   rw [hx] at d
   have x0:=Int.emod_nonneg (W^k) (show p≠0 by omega)
   have x1:=Int.emod_lt_of_pos (W^k) (show 0<p by omega)
   have hLf:=zy (zHv (HF.out.below hB) (W^k%p) x0 (by omega))
   rw [zK2] at hLf
   obtain ⟨x,hxe⟩: ∃x,x=W^k%p:=⟨_,rfl⟩
   obtain ⟨y,hy⟩: ∃y,y=lft p (W^k):=⟨_,rfl⟩
   rw [←hxe] at d hLf
   rw [←hy] at hLf
   have HO:=zy hown
   have HY:=zy hy
   clear hx hown hxe hy
   go_wp2_with fail
   refine hLf.out.mono ?_
   rintro e w4 ⟨rfl,n3,hw4⟩
   have hB4:Below w.heap.size w w4:=by rw [hw4];exact below_drewN hB _
   have hO4:OwnU w4 w.heap.size (.slice (some ⟨G,0,none⟩) n c) n ((List.range n).map fun j=>if j<k then lft p (W^j) else W^j%p):=by rw [hw4];exact HO.out.drewN _
   obtain ⟨hset,hce,hfr,_⟩:=hO4.set k hlt y
   have hps:((List.range n).map fun j=>if j<k then lft p (W^j) else W^j%p).set k y=(List.range n).map fun j=>if j<k+1 then lft p (W^j) else W^j%p:=
    zLy _ _ _ _ _ (by rw [if_pos (by omega),HY.out]) fun j _ hj=>by
     by_cases h:j<k
     ·rw [if_pos h,if_pos (by omega)]
     ·rw [if_neg h,if_neg (by omega)]
   rw [hps] at hset
   have HS:=zy hset
   clear hw4 hO4 hps hset d hB
   go_wp2
   go_roundw
   case rel=>exact ⟨k+1,by go_num,by omega,HS.out,hB4.setCell hGb _⟩
   case measure=>simp [intOf];omega
  ·obtain rfl:k=n:=by omega
   have he:((List.range k).map fun j=>if j<k then lft p (W^j) else W^j%p)=full k fun i=>lft p (W^i):=by
    unfold full
    exact List.map_congr_left fun j hj=>by rw [if_pos (List.mem_range.1 hj)]
   rw [he] at hown
   have HO:=zy hown
   clear hown he
   go_wp2
   go_ret2
   exact ⟨_,W,rfl,HW.out,HO.out,hB⟩
end

section
open Go.RowKit
theorem zJA (xs:List Int) (i:Nat) (h:i<xs.length):ints .u64 (xs.take (i+1))=ints .u64 (xs.take i) ++ [.int .u64 (xs.getD i 0)]:=by
 rw [List.take_succ_eq_append_getElem h,List.getD_eq_getElem?_getD,List.getElem?_eq_getElem h,ints,List.map_append];rfl
theorem zHV {n:Nat} {f:Nat→Int} (h: ∀i,i<n→0≤f i∧f i≤18446744073709551615):U64s (full n f):=fun x hx=>by
 obtain ⟨i,hi,rfl⟩:=List.mem_map.1 hx
 exact h i (List.mem_range.1 hi)
end

section
open Alg
theorem zPi {fs:List (Int×Int)} (h: ∀x ∈ fs,1≤x.1) {q:Nat} (hq:Prime q) (hd:q∣(zPg fs).toNat): ∃x ∈ fs,q∣x.1.toNat:=by
 induction fs with
 | nil=>
  have h1:(zPg []).toNat=1:=rfl
  rw [h1] at hd
  have:=hq.1
  have:=Nat.le_of_dvd (by omega) hd
  omega
 | cons x t ih=>
  have hx:1≤x.1:=h x (by simp)
  have ht:1≤zPg t:=zPj fun y hy=>h y (by simp [hy])
  have e:(zPg (x :: t)).toNat=x.1.toNat^x.2.toNat*(zPg t).toNat:=by
   rw [zPg,Int.toNat_mul (Int.le_of_lt (Int.pow_pos (by omega))) (by omega)]
   congr 1
   obtain ⟨a,ha⟩:=Int.eq_ofNat_of_zero_le (show 0≤x.1 by omega)
   rw [ha,←Int.natCast_pow]
   rfl
  rw [e] at hd
  rcases hq.dvd_mul hd with h1|h1
  ·exact ⟨x,by simp,hq.dvd_pow h1⟩
  ·obtain ⟨y,hy,hd'⟩:=ih (fun y hy=>h y (by simp [hy])) h1
   exact ⟨y,by simp [hy],hd'⟩
theorem zXq {p:Nat} [NeZero p] (hp:2≤p) (g:Int) (k:Nat):(g^k)%(p:Int)=1↔pw (zt p g) k=1:=by
 rw [←zt_pow,←zt_one,zt_eq]
 rw [Int.emod_eq_of_lt (show (0:Int)≤1 by omega) (by omega)]
theorem zRX {ahead:List Ent} {e:Ent} (h:zAG ahead e) (hA: ∀x ∈ ahead,Prime x.p.toNat):Prime e.p.toNat∧ ∀ [NeZero e.p.toNat],Ord (zt e.p.toNat e.g) (e.p.toNat-1):=by
 have p3:=h.p3
 have hpe:((e.p.toNat:Nat):Int)=e.p:=by omega
 have hfp: ∀k,k<e.fs.length→Prime (e.fs.getD k (0,0)).1.toNat:=fun k hk=>by
  cases k with
  | zero=>
   rw [h.whole.two]
   exact ⟨by decide,fun d hd=>by
    have:=Nat.le_of_dvd (by decide) hd
    have h2:(2:Int).toNat=2:=rfl
    rw [h2] at this hd ⊢
    have:d=0∨d=1∨d=2:=by omega
    rcases this with rfl|rfl|rfl
    ·omega
    ·exact .inl rfl
    ·exact .inr rfl⟩
  | succ k=>
   obtain ⟨x,hx,hxe⟩:=List.any_eq_true.1 (h.whole.rise k hk).2
   rw [←(beq_iff_eq.1 hxe)]
   exact hA x hx
 haveI hne:NeZero e.p.toNat:=⟨by omega⟩
 have hord:Ord (zt e.p.toNat e.g) (e.p.toNat-1):=by
  refine lucas (by omega) ?_ ?_
  ·rw [←zXq (by omega),hpe,show e.p.toNat-1=(e.p-1).toNat by omega]
   exact h.full.one
  ·intro q hq hd
   have hd':q∣(zPg e.fs).toNat:=by rw [h.whole.prod,show (e.p-1).toNat=e.p.toNat-1 by omega];exact hd
   obtain ⟨x,hx,hqx⟩:=zPi h.whole.pos hq hd'
   obtain ⟨k,hk,rfl⟩:=List.getElem_of_mem hx
   have e1:e.fs.getD k (0,0)=e.fs[k]:=by simp [List.getD_eq_getElem?_getD,List.getElem?_eq_getElem hk]
   have hk2:=hfp k hk
   have h2:=h.whole.two_le k hk
   rw [e1] at hk2 h2
   have hqe:=hq.eq_of_dvd hk2 hqx
   intro hc
   refine h.full.no _ hx ?_
   rw [←zXq (by omega)] at hc
   rw [hpe] at hc
   rw [show ((e.p-1)/e.fs[k].1).toNat=(e.p.toNat-1)/q by
    rw [hqe]
    have hx0:((e.fs[k].1.toNat:Nat):Int)=e.fs[k].1:=by omega
    rw [←hx0,show e.p-1=((e.p.toNat-1:Nat):Int) by omega,←Int.natCast_ediv,Int.toNat_natCast]
    rw [Int.toNat_natCast]]
   exact hc
 exact ⟨prime_of_ord (by omega) hord,fun {_}=>hord⟩
theorem zB4 {es:List Ent} (h: ∀j,j<es.length→zAG (es.take j) (es.getD j Ent.none)): ∀j,j<es.length→Prime (es.getD j Ent.none).p.toNat:=by
 intro j
 induction j using Nat.strongRecOn with
 | _ j ih=>
  intro hj
  refine (zRX (h j hj) fun x hx=>?_).1
  obtain ⟨i,hi,rfl⟩:=List.getElem_of_mem hx
  rw [List.length_take] at hi
  have:=ih i (by omega) (by omega)
  rw [List.getElem_take]
  simpa only [List.getD_eq_getElem?_getD,List.getElem?_eq_getElem (show i<es.length by omega),Option.getD_some] using this
theorem Cert.prime {p g:Int} (h:Cert p g):Prime p.toNat∧ ∀ [NeZero p.toNat],Ord (zt p.toNat g) (p.toNat-1):=by
 obtain ⟨es,hA,k,hk,rfl,rfl,_⟩:=h
 refine zRX (hA.2 k hk) fun x hx=>?_
 obtain ⟨i,hi,rfl⟩:=List.getElem_of_mem hx
 rw [List.length_take] at hi
 have:=zB4 hA.2 i (by omega)
 rw [List.getElem_take]
 simpa only [List.getD_eq_getElem?_getD,List.getElem?_eq_getElem (show i<es.length by omega),Option.getD_some] using this
theorem Cert.gr {p g:Int} (h:Cert p g):2≤g∧g<p:=by
 obtain ⟨es,hA,k,hk,rfl,rfl,_⟩:=h
 exact ⟨(hA.2 k hk).g2,(hA.2 k hk).gp⟩
end

section
open Go.RowKit
open Alg
section
variable {p:Nat} [NeZero p]
def lst (n:Nat) (f:Nat→Fin p):List Int:=full n fun i=>((f i).val:Int)
theorem zLb (n:Nat) (f:Nat→Fin p):(lst n f).length=n:=zHS _ _
theorem zKY {n:Nat} {f:Nat→Fin p} {i:Nat} (hi:i<n):(lst n f).getD i 0=((f i).val:Int):=zHR hi
theorem zHQ {n:Nat} {f g:Nat→Int} (h: ∀i,i<n→f i=g i):full n f=full n g:=List.map_congr_left fun i hi=>h i (List.mem_range.1 hi)
theorem zKW {n:Nat} {f g:Nat→Fin p} (h: ∀i,i<n→f i=g i):lst n f=lst n g:=zHQ fun i hi=>by rw [h i hi]
theorem zLd (hp:(p:Int)<9223372036854775808) (n:Nat) (f:Nat→Fin p):U64s (lst n f):=zHV fun i _=>by have:=(f i).isLt;omega
theorem zKZ (n:Nat) (f:Nat→Fin p):zI1 p (lst n f)=true:=by
 unfold zI1
 rw [List.all_eq_true]
 intro x hx
 obtain ⟨i,_,rfl⟩:=List.mem_map.1 hx
 have:=(f i).isLt
 simp
def rz (p:Nat) [NeZero p] (L:List Int) (i:Nat):Fin p:=zt p (L.getD i 0)
theorem zXr {x:Int} (h0:0≤x) (h1:x<p):((zt p x).val:Int)=x:=by rw [zt_val,Int.emod_eq_of_lt h0 h1]
theorem zLc {L:List Int} (hL:zI1 p L=true) (hU:U64s L):lst L.length (rz p L)=L:=by
 apply List.ext_getElem
 ·rw [zLb]
 ·intro i h1 h2
  have hg:L[i]<(p:Int):=by
   unfold zI1 at hL
   simpa using List.all_eq_true.1 hL L[i] (List.getElem_mem h2)
  simp only [lst,full,List.getElem_map,List.getElem_range,rz,List.getD_eq_getElem?_getD,List.getElem?_eq_getElem h2,Option.getD_some]
  exact zXr (hU _ (List.getElem_mem h2)).1 hg
theorem zSG {n:Nat} {f:Nat→Fin p} {i:Nat} (hi:i<n):rz p (lst n f) i=f i:=by
 unfold rz
 rw [zKY hi,zt_of_val]
theorem zGt (x y:Int):(x+y)%(p:Int)=((zt p x+zt p y).val:Int):=by rw [←zt_add,zt_val]
theorem zGy (x y:Int):(x-y)%(p:Int)=((zt p x-zt p y).val:Int):=by rw [←zt_sub,zt_val]
theorem zGv (x y:Int):x*y%(p:Int)=((zt p x*zt p y).val:Int):=by rw [←zt_mul,zt_val]
def rt (g:Fin p) (n:Nat) (inv:Bool):Fin p:=if inv then pw (pw g ((p-1)/n)) (n-1) else pw g ((p-1)/n)
def sc (p:Nat) [NeZero p] (n:Nat) (inv:Bool):Fin p:=if inv then pw (zt p (n:Int)) (p-2) else 1
def tr (g:Fin p) (n:Nat) (inv:Bool) (a:Nat→Fin p) (i:Nat):Fin p:=sc p n inv*dft (rt g n inv) n a i
theorem zNw {a:Fin p} {N n:Nat} (h:Ord a N) (hn:n∣N) (h0:0<n):Ord (pw a (N/n)) n:=by
 obtain ⟨k,rfl⟩:=hn
 rw [Nat.mul_div_cancel_left _ h0]
 refine ⟨h0,by rw [←pw_mul,Nat.mul_comm];exact h.2.1,fun m h1 h2 h3=>?_⟩
 rw [←pw_mul] at h3
 have hk:0<k:=by
  rcases Nat.eq_zero_or_pos k with e|e
  ·subst e;have:=h.1;simp at this
  ·exact e
 exact h.2.2 (k*m) (Nat.mul_pos hk h1) (by rw [Nat.mul_comm n k];exact Nat.mul_lt_mul_of_pos_left h2 hk) h3
theorem zNx {w v:Fin p} {n:Nat} (hw:Ord w n) (hv:w*v=1):Ord v n:=by
 have hvn: ∀k,pw w k*pw v k=1:=fun k=>by rw [←mul_pw,hv,one_pw]
 refine ⟨hw.1,by have:=hvn n;rw [hw.2.1] at this;grind,fun m h0 h1 h2=>hw.2.2 m h0 h1 ?_⟩
 have:=hvn m
 rw [h2] at this;grind
theorem zPu {w:Fin p} {n:Nat} (hw:Ord w n):w*pw w (n-1)=1:=by
 have h1:=hw.2.1
 rw [show n=(n-1)+1 by have:=hw.1;omega,pw_succ] at h1
 rw [←h1];grind
theorem zSz {g:Fin p} {n:Nat} (hg:Ord g (p-1)) (hn:n∣p-1) (h0:0<n) (inv:Bool):Ord (rt g n inv) n:=by
 have h:=zNw hg hn h0
 cases inv with
 | false=>exact h
 | true=>exact zNx h (zPu h)
theorem zEl {n:Nat} {most:Int} (hp:1≤p) (h:chk p n most=0):n∣p-1∧0<n:=by
 obtain ⟨a,b,c⟩:=zEq h
 refine ⟨?_,by omega⟩
 have:((p-1:Nat):Int)=(p:Int)-1:=by omega
 rw [←this,←Int.natCast_emod] at c
 exact Nat.dvd_of_mod_eq_zero (by omega)
theorem zAw.unit {x t:Int} (hp:Prime p) (h:zAw p x t) (hx:zt p x≠0):zt p t*zt p x=1:=by
 rcases h with ⟨_,_,_,h⟩|⟨h,_⟩
 ·rw [←zt_mul,←zt_one,zt_eq,h]
  have:=hp.1
  rw [Int.emod_eq_of_lt (by omega) (by omega)]
 ·exfalso
  apply h
  rw [Int.toNat_natCast]
  refine hp.coprime fun hd=>hx ?_
  have h1:=Int.emod_nonneg x (show (p:Int)≠0 by have:=hp.1;omega)
  have h2:=Int.emod_lt_of_pos x (show (0:Int)<p by have:=hp.1;omega)
  obtain ⟨c,hc⟩:=hd
  have:(x%(p:Int)).toNat=0:=by
   rcases Nat.eq_zero_or_pos c with e|e
   ·subst e;simpa using hc
   ·have:p*1≤p*c:=Nat.mul_le_mul_left _ e
    omega
  rw [←zt_zero,zt_eq];simp;omega
theorem zVS {x a b:Fin p} (ha:a*x=1) (hb:b*x=1):a=b:=by
 have h1:a*x*b=b:=by rw [ha];grind
 have h2:b*x*a=a:=by rw [hb];grind
 rw [←h1,←h2];grind
theorem zAH.zt {n:Nat} {g W:Int} {inv:Bool} (hp:Prime p) (hg:Ord (zt p g) (p-1)) (hd:n∣p-1) (h0:0<n) (h:zAH p g n inv W):zt p W=rt (zt p g) n inv:=by
 have e:(((p:Int)-1)/(n:Int)).toNat=(p-1)/n:=by
  have:=hp.1
  rw [show (p:Int)-1=((p-1:Nat):Int) by omega,←Int.natCast_ediv,Int.toNat_natCast]
 have ho:=zNw hg hd h0
 cases inv with
 | false=>rw [h.1 rfl,zt_emod,zt_pow,e];rfl
 | true=>
  have h1:=h.2 rfl
  rw [e] at h1
  have hz:Alg.zt p (g^((p-1)/n)%(p:Int))=pw (Alg.zt p g) ((p-1)/n):=by rw [zt_emod,zt_pow]
  have hne:Alg.zt p (g^((p-1)/n)%(p:Int))≠0:=by
   rw [hz]
   exact unit_ne_zero hp.1 (zPu ho)
  have h2:=h1.unit hp hne
  rw [hz] at h2
  refine zVS h2 ?_
  show pw _ (n-1)*_=1
  have:=zPu ho
  grind
theorem zXp {n:Nat} (hp:Prime p) (hd:n∣p-1) (h0:0<n):zt p (n:Int)≠0:=fun h=>by
 have:=hp.1
 have h1:=Nat.le_of_dvd (by omega) hd
 rw [←zt_zero,zt_eq,Int.emod_eq_of_lt (by omega) (by omega)] at h
 simp at h;omega
theorem zSY {n:Nat} {t:Int} (hp:Prime p) (hd:n∣p-1) (h0:0<n) (h:zAw p n t):zt p t=sc p n true:=by
 have hne:=zXp hp hd h0
 refine zVS (h.unit hp hne) ?_
 show pw _ (p-2)*_=1
 have h1:=fermat hp _ hne
 have:=hp.1
 rw [show p-1=(p-2)+1 by omega,pw_succ] at h1
 exact h1
theorem zSZ {n:Nat} (hp:Prime p) (hd:n∣p-1) (h0:0<n):sc p n true*zt p (n:Int)=1:=by
 have hne:=zXp hp hd h0
 have h1:=fermat hp _ hne
 have:=hp.1
 rw [show p-1=(p-2)+1 by omega,pw_succ] at h1
 exact h1
theorem zVh {g:Fin p} {n:Nat} (hp:Prime p) (hg:Ord g (p-1)) (hd:n∣p-1) (h0:0<n) (inv:Bool) (a:Nat→Fin p) (i:Nat) (hi:i<n):tr g n (!inv) (tr g n inv a) i=a i:=by
 have ho:=zNw hg hd h0
 have hu:=zSZ hp hd h0
 have hl:=zPu ho
 have hmul: ∀(c:Fin p) (w:Fin p) (b:Nat→Fin p),dft w n (fun j=>c*b j) i=c*dft w n b i:=fun c w b=>by
  unfold dft
  rw [←sm_mul]
  exact sm_congr fun j _=>by grind
 have hs:sc p n (!inv)*sc p n inv=sc p n true:=by
  cases inv
  ·show sc p n true*1=_;grind
  ·show 1*sc p n true=_;grind
 show sc p n (!inv)*dft (rt g n (!inv)) n (fun j=>sc p n inv*dft (rt g n inv) n a j) i=a i
 rw [hmul]
 have hb:dft (rt g n (!inv)) n (dft (rt g n inv) n a) i=zt p (n:Int)*a i:=by
  cases inv with
  | false=>exact dft_back hp ho hl a i hi
  | true=>exact dft_back hp (zNx ho hl) ((Fin.mul_comm _ _).trans hl) a i hi
 have:sc p n (!inv)*(sc p n inv*dft (rt g n (!inv)) n (dft (rt g n inv) n a) i)=(sc p n (!inv)*sc p n inv*zt p (n:Int))*a i:=by rw [hb];grind
 rw [this,hs,hu];grind
end
end

section
open Alg
section
variable {p:Nat} [NeZero p]
def upF (w:Fin p) (S st:Nat) (F:Nat→Fin p) (i:Nat):Fin p:=
 if i%(2*S)<S then F i+pw w (i%(2*S)*st)*F (i+S) else F (i-S)-pw w ((i%(2*S)-S)*st)*F i
def dnF (w:Fin p) (S st:Nat) (F:Nat→Fin p) (i:Nat):Fin p:=
 if i%(2*S)<S then F i+F (i+S) else pw w ((i%(2*S)-S)*st)*(F (i-S)-F i)
theorem zC7 {b S j:Nat} (h:j<2*S):(b*(2*S)+j)%(2*S)=j:=by
 rw [Nat.add_comm,Nat.add_mul_mod_self_right,Nat.mod_eq_of_lt h]
theorem zVZ {w:Fin p} {S st b j:Nat} {F:Nat→Fin p} (hj:j<S):upF w S st F (b*(2*S)+j)=F (b*(2*S)+j)+pw w (j*st)*F (b*(2*S)+j+S):=by
 unfold upF;rw [zC7 (by omega),if_pos hj]
theorem zVY {w:Fin p} {S st b j:Nat} {F:Nat→Fin p} (hj:j<S):upF w S st F (b*(2*S)+j+S)=F (b*(2*S)+j)-pw w (j*st)*F (b*(2*S)+j+S):=by
 unfold upF
 rw [show b*(2*S)+j+S=b*(2*S)+(j+S) by omega,zC7 (by omega),if_neg (by omega),show j+S-S=j by omega,show b*(2*S)+(j+S)-S=b*(2*S)+j by omega]
theorem zFJ {w:Fin p} {S st b j:Nat} {F:Nat→Fin p} (hj:j<S):dnF w S st F (b*(2*S)+j)=F (b*(2*S)+j)+F (b*(2*S)+j+S):=by
 unfold dnF;rw [zC7 (by omega),if_pos hj]
theorem zFI {w:Fin p} {S st b j:Nat} {F:Nat→Fin p} (hj:j<S):dnF w S st F (b*(2*S)+j+S)=pw w (j*st)*(F (b*(2*S)+j)-F (b*(2*S)+j+S)):=by
 unfold dnF
 rw [show b*(2*S)+j+S=b*(2*S)+(j+S) by omega,zC7 (by omega),if_neg (by omega),show j+S-S=j by omega,show b*(2*S)+(j+S)-S=b*(2*S)+j by omega]
def upN (w:Fin p) (a:Nat→Fin p) (k:Nat):Nat→Nat→Fin p
 | 0=>fun i=>a (rev k i)
 | s+1=>upF w (2^s) (2^(k-(s+1))) (upN w a k s)
def dnN (w:Fin p) (a:Nat→Fin p) (k:Nat):Nat→Nat→Fin p
 | 0=>a
 | t+1=>dnF w (2^(k-(t+1))) (2^t) (dnN w a k t)
theorem zOF {w:Fin p} {k s t:Nat} (hp:Prime p) (hw:Ord w (2^k)) (h:k=s+t+1):pw (pw w (2^t)) (2^s)= -1:=by
 rw [←pw_mul,←Nat.pow_add]
 refine zIN hp hw ?_
 rw [h,Nat.pow_succ,Nat.add_comm s t];omega
theorem zOI (w:Fin p) (t:Nat):pw w (2^t)*pw w (2^t)=pw w (2^(t+1)):=by
 rw [←pw_add,Nat.pow_succ];congr 1;omega
theorem zWb {w:Fin p} {k:Nat} (hp:Prime p) (hw:Ord w (2^k)) (a:Nat→Fin p): ∀(s t:Nat),s+t=k→ ∀b i,b<2^t→i<2^s→
  upN w a k s (b*2^s+i)=dft (pw w (2^t)) (2^s) (fun j=>a (rev t b+2^t*j)) i:=by
 intro s
 induction s with
 | zero=>
  intro t ht b i hb hi
  have h0:i=0:=by simpa using hi
  have h1:t=k:=by omega
  subst h0;subst h1
  rw [Nat.pow_zero,dft_one,Nat.mul_one,Nat.add_zero,Nat.mul_zero,Nat.add_zero];rfl
 | succ s ih=>
  intro t ht b i hb hi
  have e1:k-(s+1)=t:=by omega
  have hm1:=zOF (s:=s) (t:=t) hp hw (by omega)
  have hE:=ih (t+1) (by omega) (2*b)
  have hO:=ih (t+1) (by omega) (2*b+1)
  have hb2:2*b+1<2^(t+1):=by rw [Nat.pow_succ];omega
  have eA:(fun j=>a (rev (t+1) (2*b)+2^(t+1)*j))=fun j=>a (rev t b+2^t*(2*j)):=by
   funext j;rw [zRF,Nat.pow_succ,Nat.mul_assoc]
  have eB:(fun j=>a (rev (t+1) (2*b+1)+2^(t+1)*j))=fun j=>a (rev t b+2^t*(2*j+1)):=by
   funext j;rw [zRH,Nat.pow_succ,Nat.mul_assoc,Nat.mul_add,Nat.mul_one];congr 1;omega
  rw [Nat.pow_succ,Nat.mul_comm (2^s) 2]
  rw [eA] at hE
  rw [eB] at hO
  have i1:2*b*2^s=b*(2*2^s):=by rw [Nat.mul_comm 2 b,Nat.mul_assoc]
  have i2:(2*b+1)*2^s=b*(2*2^s)+2^s:=by rw [Nat.add_mul,i1,Nat.one_mul]
  rw [i1] at hE
  rw [i2] at hO
  rw [upN,e1]
  rcases Nat.lt_or_ge i (2^s) with h|h
  ·have hO1:=hO i hb2 h
   rw [show b*(2*2^s)+2^s+i=b*(2*2^s)+i+2^s by omega] at hO1
   rw [zVZ h,hE i (by omega) h,hO1,dft_up_low,zOI,←pw_mul,Nat.mul_comm (2^t) i]
  ·obtain ⟨j,rfl⟩: ∃j,i=j+2^s:=⟨i-2^s,by omega⟩
   have hj:j<2^s:=by rw [Nat.pow_succ] at hi;omega
   have hO1:=hO j hb2 hj
   rw [show b*(2*2^s)+2^s+j=b*(2*2^s)+j+2^s by omega] at hO1
   rw [←Nat.add_assoc,zVY hj,hE j (by omega) hj,hO1,dft_up_high hm1,zOI,←pw_mul,Nat.mul_comm (2^t) j]
theorem zWa {w:Fin p} {k:Nat} (hp:Prime p) (hw:Ord w (2^k)) (a:Nat→Fin p) (i:Nat) (hi:i<2^k):upN w a k k i=dft w (2^k) a i:=by
 have h:=zWb hp hw a k 0 (by omega) 0 i (by simp) hi
 rw [Nat.zero_mul,Nat.zero_add,Nat.pow_zero,pw_one] at h
 rw [h]
 exact dft_congr (fun j _=>by rw [Nat.one_mul,rev,Nat.zero_add]) i
theorem zFL {w:Fin p} {k:Nat} (hp:Prime p) (hw:Ord w (2^k)) (a:Nat→Fin p): ∀(t s:Nat),s+t=k→ ∀b i,b<2^t→i<2^s→
  dft w (2^k) a (rev t b+2^t*i)=dft (pw w (2^t)) (2^s) (fun j=>dnN w a k t (b*2^s+j)) i:=by
 intro t
 induction t with
 | zero=>
  intro s hs b i hb hi
  have h0:b=0:=by simpa using hb
  have h1:s=k:=by omega
  subst h0;subst h1
  rw [Nat.pow_zero,pw_one,Nat.one_mul,rev,Nat.zero_add,Nat.zero_mul]
  exact dft_congr (fun j _=>by rw [Nat.zero_add];rfl) i
 | succ t ih=>
  intro s hs b' i hb hi
  have e1:k-(t+1)=s:=by omega
  have hm1:=zOF (s:=s) (t:=t) hp hw (by omega)
  obtain ⟨b,e,he,rfl⟩: ∃b e,e<2∧b'=2*b+e:=⟨b'/2,b'%2,Nat.mod_lt _ (by omega),by omega⟩
  have hb2:b<2^t:=by rw [Nat.pow_succ] at hb;omega
  have hi2:2*i+e<2^(s+1):=by rw [Nat.pow_succ];omega
  have hI:=ih (s+1) (by omega) b (2*i+e) hb2 hi2
  rw [Nat.pow_succ 2 s,Nat.mul_comm (2^s) 2] at hI
  have i1:2*b*2^s=b*(2*2^s):=by rw [Nat.mul_comm 2 b,Nat.mul_assoc]
  rw [←zOI]
  rcases (show e=0∨e=1 by omega) with h|h
  ·subst h
   simp only [Nat.add_zero] at hI ⊢
   rw [zRF,show 2^(t+1)*i=2^t*(2*i) by rw [Nat.pow_succ,Nat.mul_assoc],hI,dft_down_even hm1,i1]
   refine dft_congr (fun j hj=>?_) i
   rw [dnN,e1,zFJ hj,Nat.add_assoc]
  ·subst h
   rw [zRH,show 2^t+rev t b+2^(t+1)*i=rev t b+2^t*(2*i+1) by rw [Nat.pow_succ,Nat.mul_assoc,Nat.mul_add,Nat.mul_one];omega,hI,dft_down_odd hm1]
   refine dft_congr (fun j hj=>?_) i
   rw [dnN,e1,show (2*b+1)*2^s+j=b*(2*2^s)+j+2^s by rw [Nat.add_mul,i1,Nat.one_mul];omega,zFI hj,←pw_mul,Nat.mul_comm (2^t) j,Nat.add_assoc]
theorem zFK {w:Fin p} {k:Nat} (hp:Prime p) (hw:Ord w (2^k)) (a:Nat→Fin p) (b:Nat) (hb:b<2^k):dnN w a k k b=dft w (2^k) a (rev k b):=by
 have h:=zFL hp hw a k 0 (by omega) b 0 hb (by simp)
 rw [Nat.mul_zero,Nat.add_zero,Nat.pow_zero,dft_one,Nat.mul_one,Nat.add_zero] at h
 exact h.symm
def hx (S i:Nat):Nat:=i/(2*S)*S+i%S
theorem zIX {S b j:Nat} (hj:j<S):hx S (b*(2*S)+j)=b*S+j:=by
 unfold hx
 rw [Nat.add_comm (b*(2*S)) j,Nat.add_mul_div_right _ _ (by omega),Nat.div_eq_of_lt (by omega),Nat.zero_add,←Nat.mul_assoc,Nat.add_mul_mod_self_right,Nat.mod_eq_of_lt hj]
theorem zIV {S b j:Nat} (hj:j<S):hx S (b*(2*S)+j+S)=b*S+j:=by
 unfold hx
 rw [Nat.add_assoc,Nat.add_comm (b*(2*S)) (j+S),Nat.add_mul_div_right _ _ (by omega),Nat.div_eq_of_lt (by omega),Nat.zero_add,←Nat.mul_assoc,Nat.add_mul_mod_self_right,Nat.add_mod_right,Nat.mod_eq_of_lt hj]
theorem zIW {S b j i:Nat} (hj:j<S) (h:hx S i=b*S+j):i=b*(2*S)+j∨i=b*(2*S)+j+S:=by
 unfold hx at h
 have h0:i%S<S:=Nat.mod_lt _ (by omega)
 have hq:i/(2*S)=b:=by
  have h1:(i/(2*S)*S+i%S)/S=i/(2*S):=by rw [Nat.add_comm,Nat.add_mul_div_right _ _ (by omega),Nat.div_eq_of_lt h0,Nat.zero_add]
  have h2:(b*S+j)/S=b:=by rw [Nat.add_comm,Nat.add_mul_div_right _ _ (by omega),Nat.div_eq_of_lt hj,Nat.zero_add]
  rw [←h1,h,h2]
 have hr:i%S=j:=by rw [hq] at h;omega
 have hd:=Nat.div_add_mod i (2*S)
 have hm:i%(2*S)<2*S:=Nat.mod_lt _ (by omega)
 have hmm:i%(2*S)%S=j:=by rw [Nat.mod_mod_of_dvd _ ⟨2,by omega⟩,hr]
 rw [hq,Nat.mul_comm] at hd
 obtain ⟨m,hme⟩: ∃m,m=i%(2*S):=⟨_,rfl⟩
 rw [←hme] at hd hm hmm
 rcases Nat.lt_or_ge m S with h1|h1
 ·rw [Nat.mod_eq_of_lt h1] at hmm;omega
 ·rw [Nat.mod_eq_sub_mod h1,Nat.mod_eq_of_lt (by omega)] at hmm;omega
def brow (F F':Nat→Fin p) (S n c:Nat):List Int:=full n fun i=>if hx S i<c then ((F' i).val:Int) else ((F i).val:Int)
theorem zCH (F F':Nat→Fin p) (S n:Nat):brow F F' S n 0=lst n F:=zHQ fun i _=>by rw [if_neg (by omega)]
theorem zCC {F F':Nat→Fin p} {S B:Nat} (hS:0<S):brow F F' S (B*(2*S)) (B*S)=lst (B*(2*S)) F':=zHQ fun i hi=>by
 have h1:i/(2*S)<B:=(Nat.div_lt_iff_lt_mul (by omega)).2 hi
 have h2:i%S<S:=Nat.mod_lt _ hS
 have h3:(i/(2*S)+1)*S≤B*S:=Nat.mul_le_mul_right _ h1
 rw [if_pos (by unfold hx;rw [Nat.add_mul,Nat.one_mul] at h3;omega)]
theorem zHT {n:Nat} {f f':Nat→Int} {i0 i1:Nat} {x0 x1:Int} (h0:f' i0=x0) (h1:f' i1=x1) (d:i0≠i1)
  (hr: ∀j,j<n→j≠i0→j≠i1→f' j=f j):((full n f).set i0 x0).set i1 x1=full n f':=by
 unfold full
 apply List.ext_getElem
 ·simp
 ·intro j hj hj'
  simp at hj'
  simp only [List.getElem_set,List.getElem_map,List.getElem_range]
  by_cases e1:i1=j
  ·subst e1;rw [if_pos rfl,h1]
  ·rw [if_neg e1]
   by_cases e0:i0=j
   ·subst e0;rw [if_pos rfl,h0]
   ·rw [if_neg e0,hr j hj' (Ne.symm e0) (Ne.symm e1)]
theorem zCG {F F':Nat→Fin p} {S n b j:Nat} (hj:j<S):
  ((brow F F' S n (b*S+j)).set (b*(2*S)+j) ((F' (b*(2*S)+j)).val:Int)).set (b*(2*S)+j+S) ((F' (b*(2*S)+j+S)).val:Int)=brow F F' S n (b*S+j+1):=by
 refine zHT (by rw [zIX hj,if_pos (by omega)]) (by rw [zIV hj,if_pos (by omega)]) (by omega) fun i hi n0 n1=>?_
 have hne:hx S i≠b*S+j:=fun h=>by
  rcases zIW hj h with h|h
  ·exact n0 h
  ·exact n1 h
 by_cases h:hx S i<b*S+j
 ·rw [if_pos h,if_pos (by omega)]
 ·rw [if_neg h,if_neg (by omega)]
theorem zCF {F F':Nat→Fin p} {S n b j:Nat} (hj:j<S) (hn:b*(2*S)+j<n):(brow F F' S n (b*S+j)).getD (b*(2*S)+j) 0=((F (b*(2*S)+j)).val:Int):=by
 unfold brow
 rw [zHR hn,zIX hj,if_neg (by omega)]
theorem zCD {F F':Nat→Fin p} {S n b j:Nat} (hj:j<S) (hn:b*(2*S)+j+S<n):(brow F F' S n (b*S+j)).getD (b*(2*S)+j+S) 0=((F (b*(2*S)+j+S)).val:Int):=by
 unfold brow
 rw [zHR hn,zIV hj,if_neg (by omega)]
end
def trow (k:Nat) (L:List Int) (i:Nat):List Int:=full (2^k) fun j=>if rev k j<i then L.getD (rev k j) 0 else 0
theorem zV1 (k:Nat) (L:List Int):trow k L 0=List.replicate (2^k) 0:=by
 unfold trow full
 rw [List.map_congr_left (g:=fun _=>(0:Int)) (fun i _=>by rw [if_neg (by omega)])]
 simp [List.map_const']
theorem zVy (k:Nat) (L:List Int):trow k L (2^k)=full (2^k) fun j=>L.getD (rev k j) 0:=zHQ fun j _=>by rw [if_pos (zRG _ _)]
theorem zV0 {k i:Nat} {L:List Int} (hi:i<2^k):(trow k L i).set (rev k i) (L.getD i 0)=trow k L (i+1):=by
 unfold trow full
 apply List.ext_getElem
 ·simp
 ·intro j hj hj'
  simp at hj'
  simp only [List.getElem_set,List.getElem_map,List.getElem_range]
  by_cases e:rev k i=j
  ·subst e;rw [if_pos rfl,zRI k i hi,if_pos (by omega)]
  ·rw [if_neg e]
   have hne:rev k j≠i:=fun h=>e (by rw [←h,zRI k j hj'])
   by_cases h:rev k j<i
   ·rw [if_pos h,if_pos (by omega)]
   ·rw [if_neg h,if_neg (by omega)]
end

section
open Go.RowKit
open Alg
theorem zP5 {P:Program} {f:FuncId} {args:Array Value} {w:World} {a n:Nat} {v:Value}
  (h:Calls P f args (w.drewN (a+n)) fun e w'=>e= .returned v∧ ∃m,w'=(w.drewN (a+n)).drewN m):
  Calls P f args (w.drewN (a+n)) fun e w''=>e= .returned v∧ ∃m,w''=w.drewN (a+m):=
 h.mono fun _ _ ⟨he,m,hm⟩=>⟨he,n+m,by rw [hm,World.drewN_drewN,Nat.add_assoc]⟩
theorem zBa (b o n:Nat):(⟨b,o,none⟩:Addr).add n=⟨b,o+n,none⟩:=by unfold Addr.add;split <;> simp_all
theorem zE4 (A:Option Addr) (c:Nat) (L:List Int) (w:World) (hl:L.length≤8796093022208) (hR:RdI w w.heap.size .u64 A L):
  Calls Tryz.prog 116 #[.slice A L.length c] w fun r w'=> ∃V,r= .returned V∧OwnU w' w.heap.size V L.length L∧Below w.heap.size w w':=by
 obtain ⟨i0,hi,hz0,hz1,hz2⟩:=info_parts zJt
 have hnil: ∀(W:World) (a:Option Addr) (n c:Nat),(binOp .eql 54 (.slice a n c) (.slice none 0 0)).run Tryz.prog W= .ok (.bool a.isNone) W:=fun W a n c=>Lib.run_eql_slice_nil W 54 22 a n c 0 0 Tryz.underlying54
 rcases A with _|ad
 ·have h1:L.length=0:=by
   rcases Nat.eq_zero_or_pos L.length with h|h
   ·exact h
   ·obtain ⟨b,o,h,_⟩:=hR h
    cases h
  have hf:L= []:=List.eq_nil_of_length_eq_zero h1
  subst hf
  go_enter Tryz.func116,Tryz.ntmps116
  go_wp2
  go_ret
  exact ⟨_,rfl,World.ownsRow_nil _ _ _ _,Below.refl _ _⟩
 ·have hcells: ∀j u,(ints .u64 L)[j]? =some u→w.cell? (ad.add j)=some u:=by
   intro j u hu
   have hj:j<L.length:=by
    rcases Nat.lt_or_ge j L.length with h|h
    ·exact h
    ·rw [List.getElem?_eq_none (by rw [zJ3];exact h)] at hu;cases hu
   obtain ⟨b,o,h,_,hc⟩:=hR (by omega)
   have h':ad=⟨b,o,none⟩:=Option.some.inj h
   rw [h']
   have h2:=hc j hj
   have h3:u= .int .u64 (L.getD j 0):=by
    simp [ints,List.getElem?_eq_getElem hj] at hu
    rw [←hu,List.getD_eq_getElem?_getD,List.getElem?_eq_getElem hj];rfl
   rw [h3,←h2,zBa]
  go_enter Tryz.func116,Tryz.ntmps116
  have hown:(w.alloc (.cells #[] 22)).ownsRow w.heap.size 22 1 (.slice (some ⟨w.heap.size,0,none⟩) 0 0) 0 []:=World.ownsRow_lit w #[] 0 (Nat.le_refl _) (by unfold maxLen;omega) rfl
  have hB:=(Below.refl w.heap.size w).alloc (Nat.le_refl _) (.cells #[] 22)
  have hcells2: ∀j u,(ints .u64 L)[j]? =some u→(w.alloc (.cells #[] 22)).cell? (ad.add j)=some u:=fun j u hu=>by
   have h1:=hcells j u hu
   exact (hB.cell (World.block_lt_of_cell? w _ h1)).trans h1
  have HC:=zy hcells2
  have h1: ∀u ∈ ints .u64 L,u.oneCell'=true:=fun u hu=>by
   obtain ⟨x,_,rfl⟩:=List.mem_map.1 hu
   rfl
  have H1:=zy h1
  clear hcells hcells2 h1
  go_wp2_with (at_builtin;refine wpList_append_own _ rfl _ _ 54 rfl w.heap.size 22 i0 (.int .u64 0) 1 8 Tryz.underlying54 hi hz0 hz1 hz2 rfl (by decide) _ 0 [] rfl hown ad L.length c (ints .u64 L) rfl ?c0 HC.out H1.out ?c3 ?c4 ?c5 ?_)
  case c0=>rw [zJ3];omega
  case c3=>unfold maxLen;omega
  case c4=>omega
  case c5=>simp
  intro v' w1 hown' hgrow _
  have HO:Hid (OwnU w1 w.heap.size v' L.length L):=zy (by
   unfold OwnU
   simpa using hown')
  have hB2:Below w.heap.size w w1:=hB.grown hgrow (by simp) (fun k hk=>by simp [Value.ownBlock] at hk;omega)
  clear hown' hown hgrow
  go_wp2
  go_ret
  exact ⟨_,rfl,HO.out,hB2⟩
end

section
open Alg
section
variable {p:Nat} [NeZero p]
theorem zAW {N j a b:Nat} (ha:a<N) (hb:b<N) (h:(a+j)%N=(b+j)%N):a=b:=by
 rcases Nat.le_total a b with h1|h1
 ·have h2:=Nat.sub_mod_eq_zero_of_mod_eq h.symm
  rw [show b+j-(a+j)=b-a by omega,Nat.mod_eq_of_lt (by omega)] at h2
  omega
 ·have h2:=Nat.sub_mod_eq_zero_of_mod_eq h
  rw [show a+j-(b+j)=a-b by omega,Nat.mod_eq_of_lt (by omega)] at h2
  omega
theorem zTV (N j:Nat) (F:Nat→Fin p):sm N (fun k=>F ((k+j)%N))=sm N F:=
 sm_perm N (fun k=>(k+j)%N) F (fun i hi=>Nat.mod_lt _ (by omega)) fun a b ha hb h=>zAW ha hb h
def cyc (N:Nat) (A B:Nat→Fin p) (i:Nat):Fin p:=sm N fun j=>A j*B ((i+(N-j))%N)
theorem zF3 {w:Fin p} {N:Nat} (hw:pw w N=1) (A B:Nat→Fin p) (m:Nat):dft w N (cyc N A B) m=dft w N A m*dft w N B m:=by
 have hv:pw (pw w m) N=1:=by rw [←pw_mul,Nat.mul_comm,pw_mul,hw,one_pw]
 have h1: ∀j,j<N→pw w (m*j)*dft w N B m=sm N fun i=>pw w (m*i)*B ((i+(N-j))%N):=fun j hj=>by
  unfold dft
  rw [←zTV N (N-j) (fun k=>pw w (m*k)*B k),←sm_mul]
  refine sm_congr fun i hi=>?_
  have h2:pw w (m*j)*pw w (m*((i+(N-j))%N))=pw w (m*i):=by
   rw [pw_mul,pw_mul,pw_mul,←pw_mod hv,←pw_add,show j+(i+(N-j))=i+N by omega,pw_add,hv];grind
  rw [←h2];grind
 have h3:dft w N A m*dft w N B m=sm N fun j=>sm N fun i=>pw w (m*i)*(A j*B ((i+(N-j))%N)):=by
  have:dft w N A m*dft w N B m=sm N fun j=>A j*(pw w (m*j)*dft w N B m):=by
   rw [show dft w N A m*dft w N B m=dft w N B m*dft w N A m by grind]
   unfold dft
   rw [←sm_mul]
   exact sm_congr fun j _=>by grind
  rw [this]
  refine sm_congr fun j hj=>?_
  rw [h1 j hj,←sm_mul]
  exact sm_congr fun i _=>by grind
 rw [h3,sm_swap]
 unfold dft cyc
 refine sm_congr fun i _=>?_
 rw [sm_mul]
def cv (A B:Nat→Fin p) (i:Nat):Fin p:=sm (i+1) fun j=>A j*B (i-j)
theorem zFv {N la lb i:Nat} {A B:Nat→Fin p} (hi:i<N) (hA: ∀j,la≤j→A j=0) (hB: ∀j,lb≤j→B j=0) (h:la+lb≤N+i+1):cyc N A B i=cv A B i:=by
 unfold cyc cv
 obtain ⟨m,rfl⟩: ∃m,N=(i+1)+m:=⟨N-(i+1),by omega⟩
 rw [sm_split]
 have h1:(sm m fun k=>A (i+1+k)*B ((i+(i+1+m-(i+1+k)))%(i+1+m)))=0:=by
  rw [←sm_const0 m]
  refine sm_congr fun k hk=>?_
  rw [show i+(i+1+m-(i+1+k))=i+m-k by omega,Nat.mod_eq_of_lt (by omega)]
  rcases Nat.lt_or_ge (i+1+k) la with h2|h2
  ·rw [hB _ (by omega)];grind
  ·rw [hA _ h2];grind
 rw [h1]
 have h2:(sm (i+1) fun j=>A j*B ((i+(i+1+m-j))%(i+1+m)))=sm (i+1) fun j=>A j*B (i-j):=sm_congr fun j hj=>by
  rw [show i+(i+1+m-j)=(i-j)+(i+1+m) by omega,Nat.add_mod_right,Nat.mod_eq_of_lt (by omega)]
 rw [h2];grind
theorem zVk {g:Fin p} {N:Nat} (hp:Prime p) (hg:Ord g (p-1)) (hd:N∣p-1) (h0:0<N) (A B:Nat→Fin p) (i:Nat) (hi:i<N):
  tr g N true (fun m=>tr g N false A m*tr g N false B m) i=cyc N A B i:=by
 have hw:pw (rt g N false) N=1:=(zSz hg hd h0 false).2.1
 have h1: ∀C m,tr g N false C m=dft (rt g N false) N C m:=fun C m=>by show (1:Fin p)*_=_;grind
 have h2:=zVh hp hg hd h0 false (cyc N A B) i hi
 rw [←h2]
 show sc p N true*dft (rt g N true) N _ i=sc p N true*dft (rt g N true) N _ i
 congr 1
 exact dft_congr (fun m _=>by rw [h1,h1,h1,zF3 hw]) i
def padz (n:Nat) (A:Nat→Fin p) (i:Nat):Fin p:=if i<n then A i else 0
theorem zNJ {n i:Nat} {A:Nat→Fin p} (h:i<n):padz n A i=A i:=if_pos h
theorem zNK {n i:Nat} {A:Nat→Fin p} (h:n≤i):padz n A i=0:=if_neg (by omega)
theorem zFu {n i:Nat} (hi:i<n) (A B:Nat→Fin p):cyc n A B i=cv (padz n A) (padz n B) i+cv (padz n A) (padz n B) (i+n):=by
 have e1:cv (padz n A) (padz n B) i=sm (i+1) fun j=>A j*B (i-j):=sm_congr fun j hj=>by rw [zNJ (by omega),zNJ (by omega)]
 have e2:cv (padz n A) (padz n B) (i+n)=sm (n-(i+1)) fun k=>A (i+1+k)*B (n-1-k):=by
  unfold cv
  rw [show i+n+1=(i+1)+((n-(i+1))+(i+1)) by omega,sm_split (i+1),sm_split (n-(i+1))]
  have z1:(sm (i+1) fun j=>padz n A j*padz n B (i+n-j))=0:=by
   rw [←sm_const0 (i+1)]
   exact sm_congr fun j hj=>by rw [zNK (A:=B) (by omega)];grind
  have z2:(sm (i+1) fun j=>padz n A (i+1+(n-(i+1)+j))*padz n B (i+n-(i+1+(n-(i+1)+j))))=0:=by
   rw [←sm_const0 (i+1)]
   exact sm_congr fun j hj=>by rw [zNK (A:=A) (by omega)];grind
  rw [z1,z2]
  have:(sm (n-(i+1)) fun k=>padz n A (i+1+k)*padz n B (i+n-(i+1+k)))=sm (n-(i+1)) fun k=>A (i+1+k)*B (n-1-k):=sm_congr fun k hk=>by
   rw [zNJ (by omega),zNJ (by omega),show i+n-(i+1+k)=n-1-k by omega]
  rw [this];grind
 rw [e1,e2]
 unfold cyc
 obtain ⟨m,rfl⟩: ∃m,n=(i+1)+m:=⟨n-(i+1),by omega⟩
 rw [sm_split]
 congr 1
 ·exact sm_congr fun j hj=>by rw [show i+(i+1+m-j)=(i-j)+(i+1+m) by omega,Nat.add_mod_right,Nat.mod_eq_of_lt (by omega)]
 ·rw [show i+1+m-(i+1)=m by omega]
  exact sm_congr fun k hk=>by rw [show i+(i+1+m-(i+1+k))=i+1+m-1-k by omega,Nat.mod_eq_of_lt (by omega)]
end
end

section
open Go.RowKit
open Alg
theorem zJ2 (k:IntKind) (xs ys:List Int):ints k (xs ++ ys)=ints k xs ++ ints k ys:=by simp [ints]
theorem zJ5 (k:IntKind) (m:Nat):List.replicate m (.int k 0)=ints k (List.replicate m 0):=by simp [ints]
theorem zNH {p:Nat} [NeZero p] {n N:Nat} (h:n≤N) (F:Nat→Fin p):lst n F ++ List.replicate (N-n) 0=lst N (padz n F):=by
 apply List.ext_getElem
 ·simp [lst,full];omega
 ·intro i h1 h2
  simp only [lst,full,List.length_append,List.length_map,List.length_range,List.length_replicate] at h1 h2
  by_cases hi:i<n
  ·rw [List.getElem_append_left (by simp [lst,full];exact hi)]
   simp only [lst,full,List.getElem_map,List.getElem_range,zNJ hi]
  ·rw [List.getElem_append_right (by simp [lst,full];omega)]
   simp only [lst,full,List.getElem_map,List.getElem_range,List.getElem_replicate,zNK (A:=F) (show n≤i by omega)]
   simp
def mrow {p:Nat} [NeZero p] (N:Nat) (X Y:Nat→Fin p) (i:Nat):List Int:=lst N fun j=>if j<i then X j*Y j else X j
theorem zMa {p:Nat} [NeZero p] (N:Nat) (X Y:Nat→Fin p):lst N X=mrow N X Y 0:=zKW fun i _=>by rw [if_neg (by omega)]
theorem zLX {p:Nat} [NeZero p] (N:Nat) (X Y:Nat→Fin p):mrow N X Y N=lst N fun j=>X j*Y j:=zKW fun i hi=>by rw [if_pos hi]
theorem zLZ {p:Nat} [NeZero p] {N i:Nat} {X Y:Nat→Fin p} (hi:i<N):(mrow N X Y i).set i (((X i*Y i:Fin p).val:Nat):Int)=mrow N X Y (i+1):=by
 unfold mrow lst full
 apply List.ext_getElem
 ·simp
 ·intro j hj hj'
  simp at hj'
  simp only [List.getElem_set,List.getElem_map,List.getElem_range]
  by_cases e:i=j
  ·subst e;rw [if_pos rfl,if_pos (by omega)]
  ·rw [if_neg e]
   by_cases h:j<i
   ·rw [if_pos h,if_pos (by omega)]
   ·rw [if_neg h,if_neg (by omega)]
theorem zLW {p:Nat} [NeZero p] {N i:Nat} {X Y:Nat→Fin p} (hi:i<N):(mrow N X Y i).getD i 0=((X i).val:Int):=by
 unfold mrow
 rw [zKY hi,if_neg (by omega)]
def frow {p:Nat} [NeZero p] (n:Nat) (C:Nat→Fin p) (i:Nat):List Int:=lst n fun j=>(if j<i then C j else 0)+(if j+n<i then C (j+n) else 0)
theorem zHJ {p:Nat} [NeZero p] (n:Nat) (C:Nat→Fin p):frow n C 0=List.replicate n 0:=by
 unfold frow lst full
 rw [List.map_congr_left (g:=fun _=>(0:Int)) (fun i _=>by simp)]
 simp [List.map_const']
theorem zHF {p:Nat} [NeZero p] {n i:Nat} {C:Nat→Fin p} (hn:0<n) (hi:i<2*n):(frow n C i).getD (i%n) 0=(((if i<n then 0 else C (i-n):Fin p)).val:Int):=by
 unfold frow
 rw [zKY (Nat.mod_lt _ hn)]
 by_cases h:i<n
 ·rw [Nat.mod_eq_of_lt h,if_neg (by omega),if_neg (by omega),if_pos h];simp
 ·rw [Nat.mod_eq_sub_mod (by omega),Nat.mod_eq_of_lt (by omega),if_pos (by omega),if_neg (by omega),if_neg h];simp
theorem zHI {p:Nat} [NeZero p] {n i:Nat} {C:Nat→Fin p} (hn:0<n) (hi:i<2*n):(frow n C i).set (i%n) ((((if i<n then 0 else C (i-n))+C i:Fin p).val:Nat):Int)=frow n C (i+1):=by
 unfold frow lst full
 apply List.ext_getElem
 ·simp
 ·intro j hj hj'
  simp at hj'
  simp only [List.getElem_set,List.getElem_map,List.getElem_range]
  by_cases h:i<n
  ·rw [Nat.mod_eq_of_lt h,if_pos h]
   by_cases e:i=j
   ·subst e;rw [if_pos rfl,if_pos (by omega),if_neg (by omega)];congr 2;grind
   ·rw [if_neg e]
    rw [if_neg (show ¬j+n<i by omega),if_neg (show ¬j+n<i+1 by omega)]
    by_cases h2:j<i
    ·rw [if_pos h2,if_pos (by omega)]
    ·rw [if_neg h2,if_neg (by omega)]
  ·rw [Nat.mod_eq_sub_mod (by omega),Nat.mod_eq_of_lt (by omega),if_neg h]
   by_cases e:i-n=j
   ·subst e;rw [if_pos rfl,if_pos (by omega),if_pos (by omega),show i-n+n=i by omega]
   ·rw [if_neg e,if_pos (by omega),if_pos (show j<i+1 by omega)]
    by_cases h2:j+n<i
    ·rw [if_pos h2,if_pos (by omega)]
    ·rw [if_neg h2,if_neg (by omega)]
theorem zHG {p:Nat} [NeZero p] {n N:Nat} (hn:0<n) (hN:2*n≤N+1) (A B:Nat→Fin p):frow n (cyc N (padz n A) (padz n B)) (2*n-1)=lst n (cyc n A B):=zKW fun j hj=>by
 have hlin: ∀i,i<N→i<2*n-1→cyc N (padz n A) (padz n B) i=cv (padz n A) (padz n B) i:=fun i hi _=>zFv hi (fun j h=>zNK h) (fun j h=>zNK h) (by omega)
 rw [zFu hj,if_pos (by omega),hlin j (by omega) (by omega)]
 by_cases h:j+n<2*n-1
 ·rw [if_pos h,hlin (j+n) (by omega) h]
 ·rw [if_neg h]
  have:cv (padz n A) (padz n B) (j+n)=0:=by
   unfold cv
   rw [←sm_const0 (j+n+1)]
   refine sm_congr fun i hi=>?_
   rcases Nat.lt_or_ge i n with h1|h1
   ·rw [zNK (A:=B) (by omega)];grind
   ·rw [zNK (A:=A) h1];grind
  rw [this]
theorem zN9 {w:World} {B G n c:Nat} {L:List Int} (h:OwnU w B (.slice (some ⟨G,0,none⟩) n c) n L) (o:Nat) (ho:o<n):w.cell? ⟨G,o,none⟩=some (.int .u64 (L.getD o 0))∧w.frozen? ⟨G,o,none⟩=false∧B≤G:=⟨(h.set o ho 0).2.1,(h.set o ho 0).2.2.1,(h.set o ho 0).2.2.2⟩
theorem zRt {w:World} {b o:Nat} {L:List Int} (hc: ∀j,j<L.length→w.cell? ⟨b,o+j,none⟩=some (.int .u64 (L.getD j 0))): ∀j u,(ints .u64 L)[j]? =some u→w.cell? ((⟨b,o,none⟩:Addr).add j)=some u:=by
 intro j u hu
 have hj:j<L.length:=by
  rcases Nat.lt_or_ge j L.length with h|h
  ·exact h
  ·rw [List.getElem?_eq_none (by rw [zJ3];exact h)] at hu;cases hu
 have h3:u= .int .u64 (L.getD j 0):=by
  simp [ints,List.getElem?_eq_getElem hj] at hu
  rw [←hu,List.getD_eq_getElem?_getD,List.getElem?_eq_getElem hj];rfl
 rw [h3,←hc j hj,zBa]
theorem zJ4 (L:List Int): ∀u ∈ ints .u64 L,u.oneCell'=true:=fun u hu=>by
 obtain ⟨x,_,rfl⟩:=List.mem_map.1 hu
 rfl
end

section
open Alg
def tri:Nat→Nat
 | 0=>0
 | m+1=>tri m+m
theorem zVq (j k:Nat):tri (j+k)=tri j+tri k+j*k:=by
 induction k with
 | zero=>rw [Nat.mul_zero];rfl
 | succ k ih=>rw [←Nat.add_assoc,tri,ih,tri,Nat.mul_add];omega
theorem zVu (m:Nat):2*tri m=m*(m-1):=by
 induction m with
 | zero=>rfl
 | succ m ih=>
  rw [tri,Nat.mul_add,ih,show m+1-1=m by omega]
  cases m with
  | zero=>rfl
  | succ m=>rw [show m+1-1=m by omega,Nat.mul_comm (m+1) m,←Nat.add_mul]
theorem zVr (m:Nat):m*(m-1)/2=tri m:=by rw [←zVu];omega
section
variable {p:Nat} [NeZero p]
theorem zTT (n:Nat) (F:Nat→Fin p):sm n (fun j=>F (n-1-j))=sm n F:=
 sm_perm n (fun j=>n-1-j) F (fun i hi=>by omega) fun i j hi hj h=>by omega
theorem zEf {w v:Fin p} {n:Nat} (hv:w*v=1) (x:Nat→Fin p) {A B:Nat→Fin p}
  (hA: ∀i,i<n→A i=pw v (tri (n-1-i))*x (n-1-i)) (hA0: ∀i,n≤i→A i=0) (hB: ∀k,k<2*n-1→B k=pw w (tri k)) (k:Nat) (hk:k<n):
  pw v (tri k)*cv A B (n-1+k)=dft w n x k:=by
 have hvn: ∀m,pw v m*pw w m=1:=fun m=>by rw [←mul_pw,show v*w=w*v by grind,hv,one_pw]
 have e1:cv A B (n-1+k)=sm n fun i=>A i*B (n-1+k-i):=by
  unfold cv
  rw [show n-1+k+1=n+k by omega,sm_split]
  have:(sm k fun i=>A (n+i)*B (n-1+k-(n+i)))=0:=by
   rw [←sm_const0 k]
   exact sm_congr fun i _=>by rw [hA0 _ (by omega)];grind
  rw [this];grind
 rw [e1,←zTT,←sm_mul]
 refine sm_congr fun j hj=>?_
 rw [hA _ (by omega),hB _ (by omega),show n-1-(n-1-j)=j by omega,show n-1+k-(n-1-j)=k+j by omega,zVq,pw_add,pw_add]
 have h1:=hvn (tri k)
 have h2:=hvn (tri j)
 generalize pw v (tri k)=a1 at *
 generalize pw w (tri k)=b1 at *
 generalize pw v (tri j)=a2 at *
 generalize pw w (tri j)=b2 at *
 have:a1*(a2*x j*(b1*b2*pw w (k*j)))=(a1*b1)*(a2*b2)*(pw w (k*j)*x j):=by grind
 rw [this,h1,h2];grind
end
end

section
open Go.RowKit
open Alg
theorem zSs (n:Int):0≤rpad n∧rpad n≤4096:=by
 unfold rpad pd
 repeat (first|omega|split)
theorem zHq {w:World} {v:Value} {p g:Int} (h:Fd w w.heap.size v p g) (n:Int) (h0: -9223372036854775808≤n) (h1:n≤9223372036854775807):
  Calls Tryz.prog 128 #[v, .int .i64 n] w fun e w'=>e= .returned (.bool (decide (0<rpad n) && ((p-1)%rpad n == 0)))∧Below w.heap.size w w':=by
 obtain ⟨r0,r1⟩:=zSs n
 go_enter Tryz.func128,Tryz.ntmps128
 go_wp2_with fail
 refine (zSr _ _ h0 h1).mono ?_
 rintro e w1 ⟨rfl,hB1⟩
 have hF:=h.below hB1
 go_wp2_with fail
 refine (zFG hF _ (by omega) (by omega)).mono ?_
 rintro e w2 ⟨rfl,rfl⟩
 go_wp2
 go_ret
 exact ⟨rfl,hB1⟩
end

section
open Alg
def gp (n:Nat) [NeZero n] (g:Nat) (e:Nat):Nat:=(pw (zt n (g:Int)) e).val
theorem zI8 (n:Nat) [NeZero n] (g e:Nat):((gp n g e:Nat):Int)=(g:Int)^e%(n:Int):=by
 unfold gp;rw [←zt_pow,zt_val]
theorem zI9 (n:Nat) [NeZero n] (g e:Nat):gp n g e<n:=(pw (zt n (g:Int)) e).isLt
section
variable {p:Nat} [NeZero p]
theorem zTO (n:Nat) (F:Nat→Fin p):sm (n+1) F=F 0+sm n (fun i=>F (i+1)):=by
 rw [Nat.add_comm n 1,sm_split,sm_succ,sm_zero]
 have:(sm n fun i=>F (1+i))=sm n fun i=>F (i+1):=sm_congr fun i _=>by rw [Nat.add_comm]
 rw [this];grind
theorem zPt {w:Fin p} {n a b:Nat} (h:pw w n=1) (e:a%n=b%n):pw w a=pw w b:=by rw [pw_mod h a,e,←pw_mod h b]
theorem zRa (w:Fin p) (n:Nat) (x:Nat→Fin p):dft w n x 0=sm n x:=by
 unfold dft
 exact sm_congr fun j _=>by rw [Nat.zero_mul,pw_zero];grind
variable {n:Nat} [NeZero n]
theorem zIA {g:Nat} (hn:Prime n) (hg:Ord (zt n (g:Int)) (n-1)) (e:Nat):0<gp n g e:=by
 have hne:zt n (g:Int)≠0:=fun h0=>by
  have h1:=hg.2.1
  have:=hn.1
  rw [h0,show n-1=(n-2)+1 by omega,pw_succ] at h1
  exact one_ne_zero hn.1 (by rw [←h1];grind)
 have h:=pw_ne_zero hn hne e
 rcases Nat.eq_zero_or_pos (gp n g e) with h0|h0
 ·exact absurd (Fin.ext (by simpa [gp] using h0)) h
 ·exact h0
theorem zQZ {w:Fin p} {g:Nat} (hn:Prime n) (h3:3≤n) (hg:Ord (zt n (g:Int)) (n-1)) (hw:pw w n=1) (x:Nat→Fin p) {A B:Nat→Fin p} {E:Nat→Nat}
  (hE: ∀m,m<n-1→pw (zt n (g:Int)) (E m)*pw (zt n (g:Int)) m=1)
  (hA: ∀q,q<n-1→A q=x (gp n g q)) (hB: ∀q,q<n-1→B q=pw w (gp n g (E q))) (m:Nat) (hm:m<n-1):
  x 0+cyc (n-1) A B m=dft w n x (gp n g (E m)):=by
 have e1:dft w n x (gp n g (E m))=x 0+sm (n-1) fun j=>pw w (gp n g (E m)*(j+1))*x (j+1):=by
  unfold dft
  obtain ⟨k,rfl⟩: ∃k,n=k+1:=⟨n-1,by omega⟩
  rw [zTO,Nat.mul_zero,pw_zero,show k+1-1=k by omega];grind
 have e2:(sm (n-1) fun j=>pw w (gp n g (E m)*(j+1))*x (j+1))=sm (n-1) fun q=>pw w (gp n g (E m)*gp n g q)*x (gp n g q):=by
  rw [←sm_perm (n-1) (fun q=>gp n g q-1) (fun j=>pw w (gp n g (E m)*(j+1))*x (j+1))]
  ·refine sm_congr fun q hq=>?_
   have:=zIA hn hg q
   rw [show gp n g q-1+1=gp n g q by omega]
  ·intro i hi
   have:=zIA hn hg i
   have:=zI9 n g i
   omega
  ·intro i j hi hj h
   have h1:=zIA hn hg i
   have h2:=zIA hn hg j
   refine hg.inj hi hj (Fin.ext ?_)
   show gp n g i=gp n g j
   have h':gp n g i-1=gp n g j-1:=h
   omega
 rw [e1,e2]
 congr 1
 unfold cyc
 refine sm_congr fun q hq=>?_
 have hmod:(m+(n-1-q))%(n-1)<n-1:=Nat.mod_lt _ (by omega)
 rw [hA q hq,hB _ hmod]
 have hz:pw w (gp n g (E ((m+(n-1-q))%(n-1))))=pw w (gp n g (E m)*gp n g q):=by
  refine zPt hw ?_
  have h1:(zt n (gp n g (E ((m+(n-1-q))%(n-1))):Int))=zt n ((gp n g (E m)*gp n g q:Nat):Int):=by
   rw [Int.natCast_mul,zt_mul]
   show zt n ((pw (zt n (g:Int)) (E _)).val:Int)=zt n ((pw (zt n (g:Int)) (E m)).val:Int)*zt n ((pw (zt n (g:Int)) q).val:Int)
   rw [zt_of_val,zt_of_val,zt_of_val]
   have hu: ∀e,e<n-1→ ∀a b:Fin n,a*pw (zt n (g:Int)) e=1→b*pw (zt n (g:Int)) e=1→a=b:=fun e _ a b ha hb=>by
    have h1:a*pw (zt n (g:Int)) e*b=b:=by rw [ha];grind
    have h2:b*pw (zt n (g:Int)) e*a=a:=by rw [hb];grind
    rw [←h1,←h2];grind
   refine hu _ hmod _ _ (hE _ hmod) ?_
   rw [←pw_mod hg.2.1,pw_add]
   have k1:=hE m hm
   have k2:pw (zt n (g:Int)) q*pw (zt n (g:Int)) (n-1-q)=1:=by rw [←pw_add,show q+(n-1-q)=n-1 by omega];exact hg.2.1
   generalize pw (zt n (g:Int)) (E m)=a1 at *
   generalize pw (zt n (g:Int)) m=a2 at *
   generalize pw (zt n (g:Int)) q=a3 at *
   generalize pw (zt n (g:Int)) (n-1-q)=a4 at *
   have:a1*a3*(a2*a4)=(a1*a2)*(a3*a4):=by grind
   rw [this,k1,k2];grind
  have h2:=zt_eq.1 h1
  rw [←Int.natCast_emod,←Int.natCast_emod] at h2
  exact Int.ofNat.inj h2
 rw [hz];grind
theorem zQY {g:Nat} (hn:Prime n) (hg:Ord (zt n (g:Int)) (n-1)) {E:Nat→Nat}
  (hE: ∀m,m<n-1→pw (zt n (g:Int)) (E m)*pw (zt n (g:Int)) m=1) (i:Nat) (h0:0<i) (hi:i<n): ∃m,m<n-1∧gp n g (E m)=i:=by
 have hne:zt n (i:Int)≠0:=fun h=>by
  rw [←zt_zero,zt_eq,Int.emod_eq_of_lt (by omega) (by omega)] at h
  simp at h;omega
 obtain ⟨y,hy⟩:=inv_exists hn _ hne
 have hy0:y≠0:=unit_ne_zero hn.1 (b:=zt n (i:Int)) (by rw [←hy];grind)
 obtain ⟨m,hm,he⟩:=hg.all hn.1 y hy0
 refine ⟨m,hm,?_⟩
 have h1:=hE m hm
 rw [he] at h1
 have:pw (zt n (g:Int)) (E m)=zt n (i:Int):=by
  have h2:pw (zt n (g:Int)) (E m)*y*zt n (i:Int)=zt n (i:Int):=by rw [h1];grind
  have h3:pw (zt n (g:Int)) (E m)*y*zt n (i:Int)=pw (zt n (g:Int)) (E m)*(zt n (i:Int)*y):=by grind
  rw [←h2,h3,hy];grind
 unfold gp
 rw [this]
 have:=zt_val (p:=n) (i:Int)
 rw [Int.emod_eq_of_lt (by omega) (by omega)] at this
 omega
end
end
end Go.Proofs.YtmalmijdjhkklaaGreat
