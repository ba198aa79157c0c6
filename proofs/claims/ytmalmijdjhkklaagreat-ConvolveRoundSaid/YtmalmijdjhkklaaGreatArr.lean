/- Arrays in memory: a block's whole row. -/
import Derived.Test.YtmalmijdjhkklaaGreatW3
import Derived.Test.YtmalmijdjhkklaaGreatB01M
import Derived.Laws.Rows
import Derived.Laws.Tables
import Derived.Deep.WholeRow
import Derived.Deep.MidRow
set_option linter.unusedVariables false
set_option linter.unusedSimpArgs false
set_option linter.unusedSectionVars false
namespace Go.Proofs.YtmalmijdjhkklaaGreat
open Go.RowKit
theorem zx {α:Type}:(∀(l:List α) (i:Nat) (h:i<l.toArray.size),l.toArray[i]'h=l[i]'h)∧(∀(a:α) (l:List α) (h:0<(a :: l).length),(a :: l)[0]'h=a)∧
  (∀(a:α) (l:List α) (i:Nat) (h:i+1<(a :: l).length),(a :: l)[i+1]'h=l[i]'(Nat.lt_of_succ_lt_succ h))∧(∀(l:List α) (i:Nat) (a:α),l.toArray.setIfInBounds i a=(l.set i a).toArray)∧
  (∀(x a:α) (l:List α),(x :: l).set 0 a=a :: l)∧(∀(x a:α) (l:List α) (i:Nat),(x :: l).set (i+1) a=x :: l.set i a):=
 ⟨fun _ _ _=>rfl,fun _ _ _=>rfl,fun _ _ _ _=>rfl,fun l i a=>by simp,fun _ _ _=>rfl,fun _ _ _ _=>rfl⟩
theorem zv:(∀(a:Act) (k:Nat) (v:Value),a.put (some k) v= { a with tmps:=a.tmps.setIfInBounds k v })∧ ∀(a:Act) (v:Value),a.put none v=a:=⟨fun _ _ _=>rfl,fun _ _=>rfl⟩
section
variable {P:Program} {ops:Array Oper} {Q:Exit→Act→World→Prop} {md:Region.Mode} {S:World→Prop}
theorem zQ {i:Nat} {oi:Oper} {v:Value} {fuel:Nat} {listed:Array Bool} {a:Act} {w:World} (hi:ops[i]? =some oi)
  (hk:(Region.noSelect ops && Region.free md ops listed i && (Region.ready md ops listed).contains i)=true)
  (hQ: ∀c a w,Q (.panic c) (a.put oi.dst v) w→Q (.panic c) a w) (hy:YieldsIf P ops S oi v a) (hS:S w)
  (h:wpAnyH P md ops Q S fuel (listed.setIfInBounds i true) (a.put oi.dst v) w):wpAnyH P md ops Q S (fuel+1) listed a w:=by
 simp only [Bool.and_eq_true] at hk
 exact wpAnyH_take hi hk.1.1 hk.1.2 hk.2 hQ hy hS h
theorem zj {i:Nat} {oi:Oper} {v:Value} {fuel:Nat} {listed:Array Bool} {a:Act} {w:World} (hi:ops[i]? =some oi)
  (hk:(Region.noSelect ops && Region.free md ops listed i && (Region.ready md ops listed).contains i)=true)
  (hQ: ∀c a w,Q (.panic c) (a.put oi.dst v) w→Q (.panic c) a w) (hg:Region.wanted oi (yielded ops a.tmps)=true) (hv: ∀w,S w→(execOp a.eval oi).run P w= .ok (.value v) w) (hS:S w)
  (h:wpAnyH P md ops Q S fuel (listed.setIfInBounds i true) (a.put oi.dst v) w):wpAnyH P md ops Q S (fuel+1) listed a w:=zQ hi hk hQ (.inl ⟨hg,hv⟩) hS h
theorem zYb {i:Nat} {oi:Oper} {v:Value} {fuel:Nat} {listed:Array Bool} {a:Act} {w:World} (hi:ops[i]? =some oi)
  (hk:(Region.noSelect ops && Region.free md ops listed i && (Region.ready md ops listed).contains i)=true)
  (hE: ∀c a w,¬Q (.panic c) a w) (hy:YieldsIf P ops S oi v a) (hS:S w)
  (h:wpAnyH P md ops Q S fuel (listed.setIfInBounds i true) (a.put oi.dst v) w):wpAnyH P md ops Q S (fuel+1) listed a w:=zQ hi hk (fun c a w h=>(hE c _ w h).elim) hy hS h
theorem zZ {i:Nat} {oi:Oper} {v:Value} {fuel:Nat} {listed:Array Bool} {a:Act} {w:World} (hi:ops[i]? =some oi)
  (hk:(Region.noSelect ops && Region.free md ops listed i && (Region.ready md ops listed).contains i)=true)
  (hE: ∀c a w,¬Q (.panic c) a w) (hg:Region.wanted oi (yielded ops a.tmps)=true) (hv: ∀w,S w→(execOp a.eval oi).run P w= .ok (.value v) w) (hS:S w)
  (h:wpAnyH P md ops Q S fuel (listed.setIfInBounds i true) (a.put oi.dst v) w):wpAnyH P md ops Q S (fuel+1) listed a w:=zYb hi hk hE (.inl ⟨hg,hv⟩) hS h
theorem zKx {i:Nat} {oi:Oper} {fuel:Nat} {listed:Array Bool} {a:Act} {w:World} (hi:ops[i]? =some oi)
  (hk:(Region.noSelect ops && Region.free md ops listed i && (Region.ready md ops listed).contains i)=true)
  (hQ: ∀c a w,Q (.panic c) (a.put oi.dst undef) w→Q (.panic c) a w) (hg:Region.wanted oi (yielded ops a.tmps)=false) (hS:S w)
  (h:wpAnyH P md ops Q S fuel (listed.setIfInBounds i true) (a.put oi.dst undef) w):wpAnyH P md ops Q S (fuel+1) listed a w:=zQ hi hk hQ (.inr ⟨hg,rfl⟩) hS h
theorem zY {i:Nat} {oi:Oper} {fuel:Nat} {listed:Array Bool} {a:Act} {w:World} (hi:ops[i]? =some oi)
  (hk:(Region.noSelect ops && Region.free md ops listed i && (Region.ready md ops listed).contains i)=true)
  (hE: ∀c a w,¬Q (.panic c) a w) (hg:Region.wanted oi (yielded ops a.tmps)=false) (hS:S w)
  (h:wpAnyH P md ops Q S fuel (listed.setIfInBounds i true) (a.put oi.dst undef) w):wpAnyH P md ops Q S (fuel+1) listed a w:=zYb hi hk hE (.inr ⟨hg,rfl⟩) hS h
end
def zAI (w:World) (G:Nat) (t:TypeId) (c:Array Value):Prop:=w.heap[G]? =some (.cells c t (0,0))
theorem zAI.lt {w:World} {G:Nat} {t:TypeId} {c:Array Value} (h:zAI w G t c):G<w.heap.size:=by
 rcases Nat.lt_or_ge G w.heap.size with h1|h1
 ·exact h1
 ·unfold zAI at h;rw [Array.getElem?_eq_none h1] at h;cases h
theorem zAI.cell {w:World} {G:Nat} {t:TypeId} {c:Array Value} (h:zAI w G t c) {i:Nat} {v:Value} (hc:c[i]? =some v):w.cell? ⟨G,i,none⟩=some v:=by
 rw [cell_of_row w G i c t (0,0) h];exact hc
theorem zAI.frozen {w:World} {G:Nat} {t:TypeId} {c:Array Value} (h:zAI w G t c) (i:Nat):w.frozen? ⟨G,i,none⟩=false:=frozen_of_row w G i c t h
theorem zAI.set {w:World} {G:Nat} {t:TypeId} {c:Array Value} (h:zAI w G t c) (i:Nat) (v:Value):zAI (w.setCell ⟨G,i,none⟩ v) G t (c.setIfInBounds i v):=heap_setCell_same w G i c t v h
theorem zAI.setOther {w:World} {G:Nat} {t:TypeId} {c:Array Value} (h:zAI w G t c) (a:Addr) (v:Value) (hne:G≠a.block):zAI (w.setCell a v) G t c:=by
 unfold zAI;rw [heap_setCell_other w a G v hne];exact h
theorem zAI.setRow {w:World} {G:Nat} {t:TypeId} {c:Array Value} (h:zAI w G t c) (c':Array Value):zAI (w.setRow G c') G t c':=setRow_heap w G c c' t (0,0) h
theorem zAI.setRowOther {w:World} {G:Nat} {t:TypeId} {c:Array Value} (h:zAI w G t c) (g:Nat) (c':Array Value) (hne:G≠g):zAI (w.setRow g c') G t c:=by
 unfold zAI;rw [setRow_other w g G c' hne];exact h
theorem zAI.alloc {w:World} {G:Nat} {t:TypeId} {c:Array Value} (h:zAI w G t c) (o:Obj):zAI (w.alloc o) G t c:=by
 unfold zAI;rw [show (w.alloc o).heap[G]? =w.heap[G]? from Go.heap_alloc_old w o h.lt];exact h
theorem zAI.new (w:World) (t:TypeId) (c:Array Value):zAI (w.alloc (.cells c t)) w.heap.size t c:=heap_alloc_new w _
theorem zAI.drewN {w:World} {G:Nat} {t:TypeId} {c:Array Value} (h:zAI w G t c) (n:Nat):zAI (w.drewN n) G t c:=h
theorem zAI.below {w w':World} {G B:Nat} {t:TypeId} {c:Array Value} (h:zAI w G t c) (hb:Below B w w') (hG:G<B):zAI w' G t c:=by
 unfold zAI;rw [hb.block G hG];exact h
theorem zAI.keep {w w':World} {G:Nat} {t:TypeId} {c:Array Value} (h:zAI w G t c) (hb:Below w.heap.size w w'):zAI w' G t c:=h.below hb h.lt
theorem zCn {w w':World} {B g:Nat} (h:Below B w w') (hg:B≤g) (i:Nat) (v:Value):Below B w (w'.setCell ⟨g,i,none⟩ v):=h.setCell hg v
theorem below_setRow {w w':World} {B g:Nat} (h:Below B w w') (hg:B≤g) (c:Array Value):Below B w (w'.setRow g c):=
 ⟨h.os,h.tape,h.output,by rw [show (w'.setRow g c).heap.size=w'.heap.size by simp [World.setRow]];exact h.size,fun k hk=>by rw [setRow_other w' g k c (by omega)];exact h.block k hk⟩
theorem lay1 (w:World) (t0:TypeId) (c0:Array Value):zAI (w.alloc (.cells c0 t0)) w.heap.size t0 c0∧Below w.heap.size w (w.alloc (.cells c0 t0)):=
 ⟨zAI.new _ _ _,(Below.refl _ _).alloc (Nat.le_refl _) _⟩
theorem lay2 (w:World) (t0 t1:TypeId) (c0 c1:Array Value):zAI ((w.alloc (.cells c0 t0)).alloc (.cells c1 t1)) w.heap.size t0 c0∧zAI ((w.alloc (.cells c0 t0)).alloc (.cells c1 t1)) (w.heap.size+1) t1 c1∧
  Below w.heap.size w ((w.alloc (.cells c0 t0)).alloc (.cells c1 t1)):=by
 obtain ⟨a,b⟩:=lay1 w t0 c0
 refine ⟨a.alloc _,?_,b.alloc (by simp) _⟩
 have h:=zAI.new (w.alloc (.cells c0 t0)) t1 c1
 simpa using h
theorem lay3 (w:World) (t0 t1 t2:TypeId) (c0 c1 c2:Array Value):zAI (((w.alloc (.cells c0 t0)).alloc (.cells c1 t1)).alloc (.cells c2 t2)) w.heap.size t0 c0∧zAI (((w.alloc (.cells c0 t0)).alloc (.cells c1 t1)).alloc (.cells c2 t2)) (w.heap.size+1) t1 c1∧
  zAI (((w.alloc (.cells c0 t0)).alloc (.cells c1 t1)).alloc (.cells c2 t2)) (w.heap.size+1+1) t2 c2∧Below w.heap.size w (((w.alloc (.cells c0 t0)).alloc (.cells c1 t1)).alloc (.cells c2 t2)):=by
 obtain ⟨a,a1,b⟩:=lay2 w t0 t1 c0 c1
 refine ⟨a.alloc _,a1.alloc _,?_,b.alloc (by simp;omega) _⟩
 have h:=zAI.new ((w.alloc (.cells c0 t0)).alloc (.cells c1 t1)) t2 c2
 simpa using h
theorem lay4 (w:World) (t0 t1 t2 t3:TypeId) (c0 c1 c2 c3:Array Value):zAI ((((w.alloc (.cells c0 t0)).alloc (.cells c1 t1)).alloc (.cells c2 t2)).alloc (.cells c3 t3)) w.heap.size t0 c0∧
  zAI ((((w.alloc (.cells c0 t0)).alloc (.cells c1 t1)).alloc (.cells c2 t2)).alloc (.cells c3 t3)) (w.heap.size+1) t1 c1∧
  zAI ((((w.alloc (.cells c0 t0)).alloc (.cells c1 t1)).alloc (.cells c2 t2)).alloc (.cells c3 t3)) (w.heap.size+1+1) t2 c2∧
  zAI ((((w.alloc (.cells c0 t0)).alloc (.cells c1 t1)).alloc (.cells c2 t2)).alloc (.cells c3 t3)) (w.heap.size+1+1+1) t3 c3∧Below w.heap.size w ((((w.alloc (.cells c0 t0)).alloc (.cells c1 t1)).alloc (.cells c2 t2)).alloc (.cells c3 t3)):=by
 obtain ⟨a,a1,a2,b⟩:=lay3 w t0 t1 t2 c0 c1 c2
 refine ⟨a.alloc _,a1.alloc _,a2.alloc _,?_,b.alloc (by simp;omega) _⟩
 have h:=zAI.new (((w.alloc (.cells c0 t0)).alloc (.cells c1 t1)).alloc (.cells c2 t2)) t3 c3
 simpa using h
def zAJ (w wr:World) (t0:TypeId) (c0:Array Value) (t1:TypeId) (c1:Array Value):Prop:=zAI wr w.heap.size t0 c0∧zAI wr (w.heap.size+1) t1 c1∧Below w.heap.size w wr
def zAK (w wr:World) (t0:TypeId) (c0:Array Value) (t1:TypeId) (c1:Array Value) (t2:TypeId) (c2:Array Value):Prop:=zAI wr w.heap.size t0 c0∧zAI wr (w.heap.size+1) t1 c1∧zAI wr (w.heap.size+1+1) t2 c2∧Below w.heap.size w wr
def zAL (w wr:World) (t0:TypeId) (c0:Array Value) (t1:TypeId) (c1:Array Value) (t2:TypeId) (c2:Array Value) (t3:TypeId) (c3:Array Value):Prop:=
 zAI wr w.heap.size t0 c0∧zAI wr (w.heap.size+1) t1 c1∧zAI wr (w.heap.size+1+1) t2 c2∧zAI wr (w.heap.size+1+1+1) t3 c3∧Below w.heap.size w wr
theorem zAK.drewN {w wr:World} {t0 t1 t2:TypeId} {c0 c1 c2:Array Value} (h:zAK w wr t0 c0 t1 c1 t2 c2) (n:Nat):zAK w (wr.drewN n) t0 c0 t1 c1 t2 c2:=
 ⟨h.1,h.2.1,h.2.2.1,below_drewN h.2.2.2 n⟩
theorem zAL.drewN {w wr:World} {t0 t1 t2 t3:TypeId} {c0 c1 c2 c3:Array Value} (h:zAL w wr t0 c0 t1 c1 t2 c2 t3 c3) (n:Nat):zAL w (wr.drewN n) t0 c0 t1 c1 t2 c2 t3 c3:=
 ⟨h.1,h.2.1,h.2.2.1,h.2.2.2.1,below_drewN h.2.2.2.2 n⟩
theorem zAK.set {w wr:World} {t0 t1 t2:TypeId} {c0 c1 c2:Array Value} (h:zAK w wr t0 c0 t1 c1 t2 c2) (i:Nat) (v:Value) {d:Array Value} (e:c2.setIfInBounds i v=d):zAK w (wr.setCell ⟨w.heap.size+1+1,i,none⟩ v) t0 c0 t1 c1 t2 d:=
 ⟨h.1.setOther _ _ (by show w.heap.size≠w.heap.size+1+1;omega),h.2.1.setOther _ _ (by show w.heap.size+1≠w.heap.size+1+1;omega),e ▸ h.2.2.1.set i v,zCn h.2.2.2 (by omega) i v⟩
theorem zAL.set {w wr:World} {t0 t1 t2 t3:TypeId} {c0 c1 c2 c3:Array Value} (h:zAL w wr t0 c0 t1 c1 t2 c2 t3 c3) (i:Nat) (v:Value) {d:Array Value} (e:c3.setIfInBounds i v=d):zAL w (wr.setCell ⟨w.heap.size+1+1+1,i,none⟩ v) t0 c0 t1 c1 t2 c2 t3 d:=
 ⟨h.1.setOther _ _ (by show w.heap.size≠w.heap.size+1+1+1;omega),h.2.1.setOther _ _ (by show w.heap.size+1≠w.heap.size+1+1+1;omega),h.2.2.1.setOther _ _ (by show w.heap.size+1+1≠w.heap.size+1+1+1;omega),e ▸ h.2.2.2.1.set i v,zCn h.2.2.2.2 (by omega) i v⟩
theorem zAK.new (w:World) (t0:TypeId) (c0:Array Value) (t1:TypeId) (c1:Array Value) (t2:TypeId) (c2:Array Value):zAK w (((w.alloc (.cells c0 t0)).alloc (.cells c1 t1)).alloc (.cells c2 t2)) t0 c0 t1 c1 t2 c2:=lay3 w t0 t1 t2 c0 c1 c2
theorem zAL.new (w:World) (t0:TypeId) (c0:Array Value) (t1:TypeId) (c1:Array Value) (t2:TypeId) (c2:Array Value) (t3:TypeId) (c3:Array Value):zAL w ((((w.alloc (.cells c0 t0)).alloc (.cells c1 t1)).alloc (.cells c2 t2)).alloc (.cells c3 t3)) t0 c0 t1 c1 t2 c2 t3 c3:=lay4 w t0 t1 t2 t3 c0 c1 c2 c3
theorem zAJ.new (w:World) (t0:TypeId) (c0:Array Value) (t1:TypeId) (c1:Array Value):zAJ w ((w.alloc (.cells c0 t0)).alloc (.cells c1 t1)) t0 c0 t1 c1:=lay2 w t0 t1 c0 c1
theorem zAK.ret {w wr:World} {t0 t1 t2:TypeId} {c0 c1 c2:Array Value} (h:zAK w wr t0 c0 t1 c1 t2 c2) (c:Array Value):zAI (wr.setRow (w.heap.size+1) c) (w.heap.size+1) t1 c∧Below w.heap.size w (wr.setRow (w.heap.size+1) c):=
 ⟨h.2.1.setRow c,below_setRow h.2.2.2 (by omega) c⟩
theorem zAL.ret {w wr:World} {t0 t1 t2 t3:TypeId} {c0 c1 c2 c3:Array Value} (h:zAL w wr t0 c0 t1 c1 t2 c2 t3 c3) (c:Array Value):zAI (wr.setRow (w.heap.size+1+1) c) (w.heap.size+1+1) t2 c∧Below w.heap.size w (wr.setRow (w.heap.size+1+1) c):=
 ⟨h.2.2.1.setRow c,below_setRow h.2.2.2.2 (by omega) c⟩
theorem zAI.range {w:World} {G:Nat} {t:TypeId} {l:List Value} (h:zAI w G t l.toArray):w.rangeAt G 0 l:=fun j v hv=>by
 rw [Nat.zero_add]
 exact h.cell (by simpa using hv)
theorem zAI.there {w:World} {G:Nat} {t:TypeId} {c:Array Value} (h:zAI w G t c) {n:Nat} (hn:c.size=n):w.there G 0 n:=fun j hj=>by
 rw [Nat.zero_add]
 have hc:c[j]? =some c[j]:=Array.getElem?_eq_getElem (by omega)
 exact ⟨by rw [h.cell hc];simp,h.frozen j⟩
section
variable {P:Program}
theorem zS6 (t e:TypeId) (n:Nat) (cs:Array Value) (i:Nat) (v:Value) (de:TypeDesc) (h:P.underlying t=some (.array n e)) (hd:(match de with| .struct _| .array _ _=>true|_=>false)=false) (he:P.underlying e=some de)
  (hs:(P.info? e).map (·.size)=some 1) (hi:i<n) (hv:cs[i]? =some v) (w:World):(Instr.index t (.agg cs) (.int .i64 i)).run P w= .ok v w:=by
 have hagg:(isAgg e).run P w= .ok false w:=by
  unfold isAgg
  rw [Sem.run_bind,run_underlying he w]
  cases de <;> simp_all
 have hsz:(sizeOf e).run P w= .ok 1 w:=by
  cases hq:P.info? e with
  | none=>simp [hq] at hs
  | some x=>simp [hq] at hs;simp [sizeOf,typeInfo,hq,hs]
 have hn:(0:Int)≤(i:Int)∧(i:Int)<(n:Int):=by omega
 simp [Instr.index,asIntOf,run_underlying h,hn,hsz,hagg,Go.part,hv,go_sem]
 intro h';omega
theorem zR9 {fn:Func} {p t1:Tmp} {ty:TypeId} (h:fn.results= #[.cell p ty, .tmp t1]) (tmps:Array Value) (w:World) (g:Nat) (t:TypeId) (cs:Array Value) (d:TypeDesc)
  (hp:tmps.getD p undef= .pointer (some ⟨g,0,none⟩)) (hg:zAI w g t cs)
  (hu:P.underlying ty=some d) (hd:(match d with| .struct _| .array _ _=>true|_=>false)=true) (hi:(P.info? ty).map (·.size)=some cs.size):
  (results fn tmps).run P w= .ok (.tuple #[.agg cs,tmps.getD t1 undef]) w:=by
 have hp':tmps[p]?.getD undef= .pointer (some ⟨g,0,none⟩):=by simpa using hp
 simp [results,h,hp',asAddr,run_loadVar_row w g t ty cs (0,0) d hg hu hd hi]
end
def wd (n i:Nat):Nat:=n/18446744073709551616^i%18446744073709551616
end Go.Proofs.YtmalmijdjhkklaaGreat