/- slices.AppendSeq, Collect at uint64s. -/
import Derived.Test.YtmalmijdjhkklaaGreatKeys
import Derived.Shelf.SlIter.Collect
import Derived.Test.YtmalmijdjhkklaaGreatW16
import Derived.Test.YtmalmijdjhkklaaGreatW25
set_option linter.unusedVariables false
set_option linter.unusedSimpArgs false
set_option maxRecDepth 100000
set_option maxHeartbeats 16000000
namespace Go.Proofs.YtmalmijdjhkklaaGreat
section
open Go.RowKit Go.Maps Go.Sort
def zRi:Code→Option (Code×Code)
  | .rangeFunc _ _ a b=>some (a,b)
  | .seq a b=>(zRi a).or (zRi b)
  | .block _ b=>zRi b
  | _=>none
noncomputable def zBB:Code×Code:=((Tryz.f213.body).bind zRi).getD (.skip, .skip)
noncomputable def apRec (fn:FuncId) (sv:Value) (Bs D:Nat) (st:LoopState):Loop:=
  { state:=st,pending:=none,fn,tmps:= #[.slice none 0 0,sv, .pointer (some ⟨Bs,0,none⟩),undef, .slice none 0 0,undef,sv,undef,undef,undef,undef,undef,undef],params:= #[7],assign:=zBB.1,body:=zBB.2,defers:=D }
structure ApAt (w0:World) (fn:FuncId) (sv:Value) (Bs l D:Nat) (ss:List Int) (W:World):Prop where
  box: ∃v,W.heap[Bs]? =some (.cells #[v] 54 (0,0))∧W.ownsRow w0.heap.size 22 1 v ss.length (ss.map encU)∧(v= .slice none 0 0↔ss= [])
  L:W.heap[l]? =some (.loop (apRec fn sv Bs D .ready))
  K:W.heap[D]? =some (.deferred (some []))
  below:Below w0.heap.size w0 W
theorem ap_abides (w0:World) (fn:FuncId) (sv:Value) (Bs l D B:Nat) (hB:w0.heap.size≤B):AbidesFrom B (ApAt w0 fn sv Bs l D):=fun s W W' row h hg hrow=>by
  have hrow': ∀r,row=some r→ ∃o:Obj,W.heap[r]? =some o∧o.isWalk=true:=fun r e=>(hrow r e).2
  obtain ⟨v,hv,hr,hn⟩:=h.box
  exact ⟨⟨v,(grownBy_keeps hg hrow' hv rfl).trans hv,ownsRow_abides_a hr hg hrow',hn⟩,(grownBy_keeps hg hrow' h.L rfl).trans h.L,(grownBy_keeps hg hrow' h.K rfl).trans h.K,
    h.below.grown hg h.below.size (fun k e=>Nat.le_trans hB (hrow k e).1)⟩
theorem zVR:Tryz.prog.underlying 54=some (.slice 22):=by kernel_rfl
theorem zJu:(Tryz.prog.info? 22).map (fun i=>(i.zero,i.size,i.bytes))=some (some (.int .u64 0),1,8):=by kernel_rfl
theorem apYield (m:Nat) (w0:World) (fn:FuncId) (sv:Value) (Bs l D:Nat) (hBl:Bs≠l) (hDl:D≠l) (hDB:D≠Bs) (h0B:w0.heap.size≤Bs) (h0l:w0.heap.size≤l)
    (ss:List Int) (x:Int) (W:World) (h:ApAt w0 fn sv Bs l D ss W) (hlen:ss.length<1000):
    YieldAt Fence.wide m Tryz.prog l #[encU x] W fun e W'=>e= .returned (.bool true)∧ApAt w0 fn sv Bs l D (ss ++ [x]) W'∧KeepsWalks W W':=by
  obtain ⟨i0,hi,hz0,hz1,hz2⟩:=info_parts zJu
  have hne:(54:Nat)≠22:=by decide
  obtain ⟨v,hv,hrow,_⟩:=h.box
  refine ⟨fn, #[.slice none 0 0,sv, .pointer (some ⟨Bs,0,none⟩),undef, .slice none 0 0,undef,sv, .int .u64 x,undef,undef,undef,undef,undef],zBB.1,zBB.2,by simpa [apRec,encU] using run_yield (P:=Tryz.prog) (args:= #[encU x]) h.L rfl,roundIn_of_wpIn trivial ?_⟩
  have hl:l<W.heap.size:=(Array.getElem?_eq_some_iff.1 h.L).1
  have hbr:=run_beginRound (P:=Tryz.prog) h.L rfl
  obtain ⟨W2,hW2⟩: ∃W2,W.putObj l (.loop { apRec fn sv Bs D .ready with state:= .busy })=W2:=⟨_,rfl⟩
  rw [hW2] at hbr
  have hg2:W.grownBy W2 (some l):=by rw [←hW2];exact grownBy_putObj_a _ _ _
  have hk2:KeepsWalks W W2:=by rw [←hW2];exact KeepsWalks.putObj _ h.L rfl
  have hv2:W2.heap[Bs]? =some (.cells #[v] 54 (0,0)):=by rw [←hW2];exact (World.putObj_heap_other hBl).trans hv
  have hK2:W2.heap[D]? =some (.deferred (some [])):=by rw [←hW2];exact (World.putObj_heap_other hDl).trans h.K
  have hL2:W2.heap[l]? =some (.loop { apRec fn sv Bs D .ready with state:= .busy }):=by rw [←hW2];exact World.putObj_heap_same hl
  have hrow2:W2.ownsRow w0.heap.size 22 1 v ss.length (ss.map encU):=hrow.kept hg2 (ownsRow_ne_a hrow h.L (fun cur e=>by first|cases e|exact hne (Obj.cells.inj e).2.1))
  have hb2:Below w0.heap.size w0 W2:=h.below.grown hg2 h.below.size (fun k e=>by cases e;exact h0l)
  obtain ⟨hc2,hf2⟩:=cell_of_box_a hv2
  have hBlt:Bs<W2.heap.size:=(Array.getElem?_eq_some_iff.1 hv2).1
  have hl2:l<W2.heap.size:=(Array.getElem?_eq_some_iff.1 hL2).1
  have hDlt:D<W2.heap.size:=(Array.getElem?_eq_some_iff.1 hK2).1
  clear hW2
  simp only [zBB,Tryz.f213,Option.bind_some,zRi,Option.or,Option.getD_some]
  have ne_of: ∀ {j:Nat} {o:Obj},W2.heap[j]? =some o→(∀cur,o≠ .cells cur 22 (0,0))→some j≠v.ownBlock:=fun hj hno=>by
    rcases ownsRow_ne_a hrow2 hj hno with e|e
    · rw [e];simp
    · exact fun e'=>e e'.symm
  gi_wp2_with (first
    | (gi_at_builtin;refine wpListIn_append_own _ rfl _ _ 54 rfl w0.heap.size 22 i0 (.int .u64 0) 1 8 zVR hi hz0 hz1 hz2 rfl (by decide) _ _ _ rfl (hrow2.alloc _) ⟨W2.heap.size,0,none⟩ 1 1 [.int .u64 x] rfl rfl (cell_one_new _ _ _) (by simp [Value.oneCell']) (by simp only [maxLen];omega) (by omega) (by have:=hb2.size;simp;omega) ?_;intro v' w3 hown' hg3 hnil3
       have hv3:w3.heap[Bs]? =some (.cells #[v] 54 (0,0)):=(hg3.block Bs (by simp;omega) (ne_of hv2 (fun cur e=>by first|cases e|exact hne (Obj.cells.inj e).2.1))).trans ((Below.heap_alloc _ _ Bs hBlt).trans hv2)
       obtain ⟨hc3,hf3⟩:=cell_of_box_a hv3
       obtain ⟨g',cap',cur',rfl,hbase',hgb',hr1,hr2,hr3,hr4⟩: ∃g' cap' cur',v'= .slice (some ⟨g',0,none⟩) (ss.length+1) cap'∧w0.heap.size≤g'∧w3.heap[g']? =some (.cells cur' 22 (0,0))∧ss.length+1≤cap'∧cap'≤maxLen∧cur'.size=cap'*1∧cur'.toList.take ((ss.length+1)*1)=ss.map encU ++ [.int .u64 x]:=by
         rcases hown'.2 with ⟨_,h0⟩|h'
         · exact absurd h0 (by omega)
         · exact h'
       go_frame)
    | gi_round_op_a)
  have hg3':(W2.alloc (.cells #[.int .u64 x] 22)).grownBy w3 v.ownBlock:=hg3
  have hL3:w3.heap[l]? =some (.loop { apRec fn sv Bs D .ready with state:= .busy }):=(hg3'.block l (by simp;omega) (ne_of hL2 (fun cur e=>by first|cases e|exact hne (Obj.cells.inj e).2.1))).trans ((Below.heap_alloc _ _ l hl2).trans hL2)
  have hK3:w3.heap[D]? =some (.deferred (some [])):=(hg3'.block D (by simp;omega) (ne_of hK2 (fun cur e=>by first|cases e|exact hne (Obj.cells.inj e).2.1))).trans ((Below.heap_alloc _ _ D hDlt).trans hK2)
  obtain ⟨w4,hw4⟩: ∃w4,w3.setCell ⟨Bs,0,none⟩ (.slice (some ⟨g',0,none⟩) (ss.length+1) cap')=w4:=⟨_,rfl⟩
  rw [hw4]
  have hg4:w3.grownBy w4 (some Bs):=by rw [←hw4];exact grownBy_setCell0_a _ _ _
  have hv4:w4.heap[Bs]? =some (.cells #[.slice (some ⟨g',0,none⟩) (ss.length+1) cap'] 54 (0,0)):=by rw [←hw4];exact heap_setCell_box_a _ hv3
  have hL4:w4.heap[l]? =some (.loop { apRec fn sv Bs D .ready with state:= .busy }):=(hg4.block l (Array.getElem?_eq_some_iff.1 hL3).1 (fun e=>hBl (by cases e;rfl))).trans hL3
  have hK4:w4.heap[D]? =some (.deferred (some [])):=(hg4.block D (Array.getElem?_eq_some_iff.1 hK3).1 (fun e=>hDB (by cases e;rfl))).trans hK3
  have hrow4:=hown'.kept hg4 (ownsRow_ne_a hown' hv3 (fun cur e=>by first|cases e|exact hne (Obj.cells.inj e).2.1))
  have hl4:l<w4.heap.size:=(Array.getElem?_eq_some_iff.1 hL4).1
  have hb3:Below w0.heap.size w0 w3:=(hb2.alloc hb2.size _).grown hg3' (by have:=hb2.size;simp;omega) (fun k e=>(hrow2.lt k e).1)
  have hb4:Below w0.heap.size w0 w4:=hb3.grown hg4 hb3.size (fun k e=>by cases e;exact h0B)
  have hk4:KeepsWalks W w4:=((hk2.trans (KeepsWalks.alloc _ _)).trans (KeepsWalks.of_grownBy hg3' (ownsRow_not_walk_a (hrow2.alloc _)))).trans (by rw [←hw4];exact KeepsWalks.setCell _ _ _)
  clear hw4
  refine ⟨_,_,run_endRound none hL4,rfl,⟨⟨_,(World.putObj_heap_other hBl).trans hv4,?_,by simp⟩,World.putObj_heap_same hl4,(World.putObj_heap_other hDl).trans hK4,hb4.grown (grownBy_putObj_a _ _ _) hb4.size (fun k e=>by cases e;exact h0l)⟩,hk4.trans (KeepsWalks.putObj _ hL4 rfl)⟩
  have:=hrow4.kept (grownBy_putObj_a w4 l (.loop { { apRec fn sv Bs D .ready with state:= .busy } with state:=if (none:Option Code).isNone then .ready else .done,pending:=none })) (ownsRow_ne_a hrow4 hL4 (fun cur e=>by first|cases e|exact hne (Obj.cells.inj e).2.1))
  simpa [encU] using this
theorem zBF (n:Nat) (hn:2≤n) (g:Nat) (lb:Array Value) (eg: ∀args w,(callFunc g args).run Tryz.prog w= .ok (.enter g args) w)
    (S:List Int→Prop) (N:Nat) (hN:N≤1000) (w:World) (hseq:SeqGives Fence.wide (n-1) Tryz.prog g lb encU S N w):
    CallsIn Fence.wide n Tryz.prog 213 #[.slice none 0 0, .func (.func g) #[] lb] w fun e w'=> ∃(v:Value) (ss:List Int),e= .returned v∧S ss∧w'.ownsRow w.heap.size 22 1 v ss.length (ss.map encU)∧(v= .slice none 0 0↔ss= [])∧Below w.heap.size w w':=by
  have h1:1≤n:=by omega
  have hne:(54:Nat)≠22:=by decide
  refine callsIn_of_wp_marks Tryz.func213 rfl trivial ?_ rfl
  simp only [Tryz.ntmps213,List.size_toArray,List.length_cons,List.length_nil,Nat.reduceAdd,Nat.reduceSub,Array.replicate_succ,Array.replicate_zero,List.push_toArray,List.append_toArray,List.nil_append,List.cons_append]
  gi_wp2
  refine wpIn_rangeFunc ?_
  intro fn hfn
  obtain ⟨W0,hW0⟩: ∃W0,w.alloc (.cells #[.slice none 0 0] 54)=W0:=⟨_,rfl⟩
  have hs0:W0.heap.size=w.heap.size+1:=by rw [←hW0];simp
  have hv0:W0.heap[w.heap.size]? =some (.cells #[.slice none 0 0] 54 (0,0)):=by rw [←hW0];exact World.alloc_heap_new w _
  have hb0:Below w.heap.size w W0:=by rw [←hW0];exact (Below.refl _ w).alloc (Nat.le_refl _) _
  rw [hW0]
  obtain ⟨W1,hW1⟩: ∃W1,(W0.alloc (.deferred (some []))).alloc (.loop (apRec fn (.func (.func g) #[] lb) w.heap.size W0.heap.size .ready))=W1:=⟨_,rfl⟩
  have hold: ∀k,k<W0.heap.size→W1.heap[k]? =W0.heap[k]? :=fun k hk=>by
    rw [←hW1];exact (Below.heap_alloc _ _ k (by simp;omega)).trans (Below.heap_alloc _ _ k hk)
  have hb1:Below w.heap.size w W1:=by rw [←hW1];exact (hb0.alloc hb0.size _).alloc (by have:=hb0.size;simp;omega) _
  have hs1:W1.heap.size=W0.heap.size+2:=by rw [←hW1];simp
  have hM:ApAt w fn (.func (.func g) #[] lb) w.heap.size (W0.heap.size+1) W0.heap.size [] W1:=
    ⟨⟨_,(hold w.heap.size (by omega)).trans hv0,⟨rfl, .inl ⟨rfl,rfl⟩⟩,by simp⟩,
     by rw [←hW1];have:=World.alloc_heap_new (W0.alloc (.deferred (some []))) (.loop (apRec fn (.func (.func g) #[] lb) w.heap.size W0.heap.size .ready));rwa [World.size_alloc] at this,
     by rw [←hW1];exact (Below.heap_alloc _ _ _ (by simp)).trans (World.alloc_heap_new W0 _),hb1⟩
  refine ⟨W0.heap.size+1,[{ target:= .collected W0.heap.size,args:= #[] }],W1, { target:= .fn (.func g) lb,args:= #[.func (.yield (W0.heap.size+1)) #[] #[]] },W1,g,
    #[.func (.yield (W0.heap.size+1)) #[] #[]] ++ lb,W1,?_,?_,?_,?_,fun _=>h1,?_⟩
  · rw [←hW1];exact run_enterLoop_outer _ _ _ _ _
  · simp [resolve,go_sem]
  · intro f' hf';trivial
  · simp [invoke,go_sem,eg]
  · refine (hseq (W0.heap.size+1) (ApAt w fn (.func (.func g) #[] lb) w.heap.size (W0.heap.size+1) W0.heap.size) W1 hb1 (ap_abides _ _ _ _ _ _ _ hb1.size)
      (fun pre x W hJ hl=>apYield (n-1-1) w fn _ w.heap.size (W0.heap.size+1) W0.heap.size (by omega) (by omega) (by omega) (Nat.le_refl _) (by omega) pre x W hJ (by omega)) hM).mono ?_
    rintro e W2 ⟨⟨v0,rfl⟩,ss,hS,h2⟩
    obtain ⟨v,hv,hrow,hnil⟩:=h2.box
    have hend:=run_endLoop (P:=Tryz.prog) h2.L (by simp [apRec])
    obtain ⟨W3,hW3⟩: ∃W3,W2.putObj (W0.heap.size+1) (.loop { apRec fn (.func (.func g) #[] lb) w.heap.size W0.heap.size .ready with state:= .exhausted })=W3:=⟨_,rfl⟩
    rw [hW3] at hend
    have hg3:W2.grownBy W3 (some (W0.heap.size+1)):=by rw [←hW3];exact grownBy_putObj_a _ _ _
    have hv3:W3.heap[w.heap.size]? =some (.cells #[v] 54 (0,0)):=by rw [←hW3];exact (World.putObj_heap_other (by omega)).trans hv
    have hK3:W3.heap[W0.heap.size]? =some (.deferred (some [])):=by rw [←hW3];exact (World.putObj_heap_other (by omega)).trans h2.K
    have hrow3:=hrow.kept hg3 (ownsRow_ne_a hrow h2.L (fun cur e=>by first|cases e|exact hne (Obj.cells.inj e).2.1))
    have hb3:Below w.heap.size w W3:=h2.below.grown hg3 h2.below.size (fun k e=>by cases e;omega)
    obtain ⟨hc3,hf3⟩:=cell_of_box_a hv3
    clear hW3
    refine ⟨none,W3,hend,?_⟩
    gi_wp2
    rw [←hs0]
    refine ⟨by simp, .inl ⟨_,_,rfl,run_takeDeferred hK3,?_⟩⟩
    exact ⟨_,results_tmp rfl _ _ _,v,ss,rfl,hS,hrow3.kept (grownBy_putObj_a _ _ _) (ownsRow_ne_a hrow3 hK3 (fun cur e=>by first|cases e|exact hne (Obj.cells.inj e).2.1)),hnil,hb3.grown (grownBy_putObj_a _ _ _) hb3.size (fun k e=>by cases e;omega)⟩
theorem zEA (n:Nat) (hn:3≤n) (g:Nat) (lb:Array Value) (eg: ∀args w,(callFunc g args).run Tryz.prog w= .ok (.enter g args) w)
    (S:List Int→Prop) (N:Nat) (hN:N≤1000) (w:World) (hseq:SeqGives Fence.wide (n-1-1) Tryz.prog g lb encU S N w):
    CallsIn Fence.wide n Tryz.prog 191 #[.func (.func g) #[] lb] w fun e w'=> ∃(v:Value) (ss:List Int),e= .returned v∧S ss∧w'.ownsRow w.heap.size 22 1 v ss.length (ss.map encU)∧(v= .slice none 0 0↔ss= [])∧Below w.heap.size w w':=by
  have h1:1≤n:=by omega
  have e1: ∀args w,(callFunc 213 args).run Tryz.prog w= .ok (.enter 213 args) w:=enters_of Tryz.func213 (by kernel_rfl) rfl
  have hF:Fence.wide.fn 213:=trivial
  refine callsIn_of_wp Tryz.func191 rfl trivial ?_ rfl
  simp only [Tryz.ntmps191,List.size_toArray,List.length_cons,List.length_nil,Nat.reduceAdd,Nat.reduceSub,Array.replicate_succ,Array.replicate_zero,List.push_toArray,List.append_toArray,List.nil_append,List.cons_append]
  gi_wp2_with (gi_at_call 213;refine (zBF (n-1) (by omega) g lb eg S N hN _ hseq).mono ?_;rintro e w' ⟨v,ss,rfl,hS,hrow,hnil,hb⟩)
  go_ret
  exact ⟨v,ss,rfl,hS,hrow,hnil,hb⟩
end

section
open Go.RowKit
theorem zKy (x y:Int) (w:World):Calls Tryz.prog 230 #[.int .u64 x, .int .u64 y] w fun e w'=>e= .returned (.bool (decide (x<y)))∧ ∃n,w'=w.drewN n:=by
 go_enter Tryz.func230,Tryz.ntmps230
 go_wp2
 go_ret
 exact ⟨rfl,0,rfl⟩
structure RowF (w:World) (g n:Nat) (F:Nat→Int):Prop where
 cell: ∀j,j<n→w.cell? ⟨g,j,none⟩=some (.int .u64 (F j))
 thaw: ∀j,w.frozen? ⟨g,j,none⟩=false
theorem But.setCell (g o:Nat) (w:World) (v:Value):But g w (w.setCell ⟨g,o,none⟩ v):=
 ⟨rfl,rfl,rfl,(KeepsWalks.setCell w _ v).size,fun k _ hne=>Below.heap_setCell w ⟨g,o,none⟩ v k hne⟩
theorem But.drewN {g:Nat} {w w':World} (h:But g w w') (n:Nat):But g w (w'.drewN n):=h.trans (But.of_below (below_drewN (Below.refl _ _) n))
def swpF (F:Nat→Int) (a b:Nat):Nat→Int:=fun t=>if t=a then F b else if t=b then F a else F t
theorem zU1 (F:Nat→Int) {a b n:Nat} (ha:a<n) (hb:b<n):((List.range n).map (swpF F a b)).Perm ((List.range n).map F):=by
 have h1:(List.range n).map (swpF F a b)=((List.range n).map (fun t=>if t=a then b else if t=b then a else t)).map F:=by
  rw [List.map_map]
  apply List.map_congr_left
  intro t _
  simp only [swpF,Function.comp]
  split
  ·rfl
  ·split <;> rfl
 rw [h1]
 refine List.Perm.map F (Alg.perm_of_mem ?_ List.nodup_range (fun x=>?_))
 ·refine List.Pairwise.map (R:=fun x y:Nat=>x≠y) _ (fun x y h e=>h ?_) List.nodup_range
  split at e <;> split at e <;> (try split at e) <;> (try split at e) <;> omega
 ·simp only [List.mem_map,List.mem_range]
  constructor
  ·rintro ⟨t,ht,rfl⟩
   split
   ·exact hb
   ·split <;> omega
  ·intro hx
   refine ⟨if x=a then b else if x=b then a else x,?_,?_⟩
   ·split
    ·exact hb
    ·split <;> omega
   ·split <;> (try split) <;> (try split) <;> (try split) <;> omega
theorem RowF.swap {w:World} {g n:Nat} {F:Nat→Int} (h:RowF w g n F) {a b:Nat} (ha:a<n) (hb:b<n) (hab:a≠b):RowF ((w.setCell ⟨g,a,none⟩ (.int .u64 (F b))).setCell ⟨g,b,none⟩ (.int .u64 (F a))) g n (swpF F a b):=by
 have c1: ∀j,j<n→(w.setCell ⟨g,a,none⟩ (.int .u64 (F b))).cell? ⟨g,j,none⟩=some (.int .u64 (if j=a then F b else F j)):=fun j hj=>by
  by_cases e:j=a
  ·subst e;rw [World.cell?_setCell_same _ _ _ (h.cell j hj)];simp
  ·rw [World.cell?_setCell_other _ _ _ _ (fun h=>e (by injection h with _ h2 _;exact h2.symm)),h.cell j hj,if_neg e]
 refine ⟨fun j hj=>?_,fun j=>by have:=h.thaw j;simpa using this⟩
 by_cases e:j=b
 ·subst e;rw [World.cell?_setCell_same _ _ _ (c1 j hj)];unfold swpF;rw [if_neg (fun h=>hab h.symm),if_pos rfl]
 ·rw [World.cell?_setCell_other _ _ _ _ (fun h=>e (by injection h with _ h2 _;exact h2.symm)),c1 j hj]
  unfold swpF
  by_cases e2:j=a
  ·rw [if_pos e2,if_pos e2]
  ·rw [if_neg e2,if_neg e2,if_neg e]
theorem RowF.drewN {w:World} {g n:Nat} {F:Nat→Int} (h:RowF w g n F) (m:Nat):RowF (w.drewN m) g n F:=⟨fun j hj=>h.cell j hj,fun j=>h.thaw j⟩
structure InsJ (xs:List Int) (n i j:Nat) (F:Nat→Int):Prop where
 perm:((List.range n).map F).Perm xs
 rest: ∀a b,a<b→b≤i→a≠j→b≠j→F a≤F b
 up: ∀b,j<b→b≤i→F j≤F b
structure InsI (xs:List Int) (n i:Nat) (F:Nat→Int):Prop where
 perm:((List.range n).map F).Perm xs
 rise: ∀a b,a<b→b<i→F a≤F b
theorem InsI.go {xs:List Int} {n i:Nat} {F:Nat→Int} (h:InsI xs n i F):InsJ xs n i i F:=⟨h.perm,fun a b hab hb _ hn=>h.rise a b hab (by omega),fun b h1 h2=>by omega⟩
theorem InsJ.stop {xs:List Int} {n i j:Nat} {F:Nat→Int} (h:InsJ xs n i j F) (hji:j≤i) (hs:j=0∨ ¬F j<F (j-1)):InsI xs n (i+1) F:=by
 refine ⟨h.perm,fun a b hab hb=>?_⟩
 by_cases ha:a=j
 ·subst ha;exact h.up b hab (by omega)
 ·by_cases hbj:b=j
  ·subst hbj
   rcases hs with h0|h0
   ·omega
   ·by_cases e:a=b-1
    ·subst e;omega
    ·have:=h.rest a (b-1) (by omega) (by omega) ha (by omega);omega
  ·exact h.rest a b hab (by omega) ha hbj
theorem InsJ.step {xs:List Int} {n i j:Nat} {F:Nat→Int} (h:InsJ xs n i j F) (hin:i<n) (hji:j≤i) (hj:0<j) (hl:F j<F (j-1)):InsJ xs n i (j-1) (swpF F j (j-1)):=by
 refine ⟨(zU1 F (by omega) (by omega)).trans h.perm,fun a b hab hb ha hbj=>?_,fun b h1 h2=>?_⟩
 ·unfold swpF
  rw [if_neg ha,if_neg hbj]
  by_cases e1:a=j
  ·rw [if_pos e1,if_neg (by omega)]
   exact h.rest (j-1) b (by omega) hb (by omega) (by omega)
  ·rw [if_neg e1]
   by_cases e2:b=j
   ·rw [if_pos e2];exact h.rest a (j-1) (by omega) (by omega) e1 (by omega)
   ·rw [if_neg e2];exact h.rest a b hab hb e1 e2
 ·unfold swpF
  rw [if_neg (show ¬j-1=j by omega),if_pos rfl,if_neg (show ¬b=j-1 by omega)]
  split
  ·omega
  ·have:=h.up b (by omega) h2;omega
theorem zJ0 (g n c:Nat) (F0:Nat→Int) (w:World) (hn:n≤12) (h:RowF w g n F0):
  Calls Tryz.prog 224 #[.slice (some ⟨g,0,none⟩) n c, .int .i64 0, .int .i64 n] w fun e w'=>e= .returned (.tuple #[])∧ ∃F,RowF w' g n F∧InsI ((List.range n).map F0) n n F∧But g w w':=by
 have HI0:Hid (InsI ((List.range n).map F0) n 1 F0):=zy ⟨List.Perm.refl _,fun a b h1 h2=>by omega⟩
 obtain ⟨xs,hxs⟩: ∃xs,xs=(List.range n).map F0:=⟨_,rfl⟩
 rw [←hxs] at HI0 ⊢
 have HF0:=zy h
 clear h hxs
 go_enter Tryz.func224,Tryz.ntmps224
 go_wp2
 go_loopw [6] (fun I wr=> ∃(i:Nat) (F:Nat→Int),I= .int .i64 i∧1≤i∧i≤13∧(n≤i→i=n∨(i=1∧n=0))∧RowF wr g n F∧InsI xs n i F∧But g w wr) (fun I _=>13-(intOf I).toNat)
 case atStart=>exact ⟨1,F0,rfl,by omega,by omega,by omega,HF0.out,HI0.out,But.refl _ _⟩
 case round=>
  obtain ⟨i,F,rfl,hi1,hi,hni,hF,hI,hB⟩:=hrel
  have HF:=zy hF
  have HI:=zy hI
  have HN:=zy hni
  clear hF hI hni
  by_cases hlt:i<n
  ·go_wp2
   go_loopw [7] (fun J w2=> ∃(j:Nat) (F:Nat→Int),J= .int .i64 j∧j≤i∧RowF w2 g n F∧InsJ xs n i j F∧But g w w2) (fun J _=>(intOf J).toNat)
   case atStart=>exact ⟨i,F,rfl,Nat.le_refl _,HF.out,HI.out.go,hB⟩
   case round=>
    clear HF HI hB
    obtain ⟨j,F,rfl,hji,hF,hJ,hB⟩:=hrel
    have HF:=zy hF
    have HJ:=zy hJ
    have hcw:=hF.cell
    have hfw:=hF.thaw
    clear hF hJ
    by_cases hj0:0<j
    ·obtain ⟨k,rfl⟩: ∃k,j=k+1:=⟨j-1,by omega⟩
     have c1:=hcw (k+1) (by omega)
     have c0:=hcw k (by omega)
     have f1:=hfw (k+1)
     have f0:=hfw k
     obtain ⟨x,hx⟩: ∃x,x=F (k+1):=⟨_,rfl⟩
     obtain ⟨y,hy⟩: ∃y,y=F k:=⟨_,rfl⟩
     rw [←hx] at c1
     rw [←hy] at c0
     have HX:=zy hx
     have HY:=zy hy
     have ek:((k+1:Nat):Int)-1=k:=by omega
     have tk:decide ((0:Int)<((k+1:Nat):Int))=true:=by simp <;> omega
     have tk2:decide (0<k+1)=true:=by simp
     clear hcw hfw hx hy
     go_wp2
     by_cases hl:x<y
     ·have tl:decide (x<y)=true:=by simp [hl]
      go_quiet ((go_at_call 230;exact Calls.quiet_of (zKy _ _ _)))
      have g1:(wr.drewN nq).cell? ⟨g,k+1,none⟩=some (.int .u64 x):=c1
      have g0:(wr.drewN nq).cell? ⟨g,k,none⟩=some (.int .u64 y):=c0
      have h1:(wr.drewN nq).frozen? ⟨g,k+1,none⟩=false:=f1
      have h0:(wr.drewN nq).frozen? ⟨g,k,none⟩=false:=f0
      have b1:k<n:=by omega
      have b2:k+1<n:=by omega
      have b3:decide ((k:Int)<(n:Int))=true:=by simp;omega
      have b4:decide (((k+1:Nat):Int)<(n:Int))=true:=by simp;omega
      go_wp2
      go_region
      all_goals go_wp2
      have hR:Hid (RowF (((wr.drewN (nq+1)).setCell ⟨g,k+1,none⟩ (.int .u64 y)).setCell ⟨g,k,none⟩ (.int .u64 x)) g n (swpF F (k+1) k)):=zy (by
       have:=(HF.out.drewN (nq+1)).swap (a:=k+1) (b:=k) b2 b1 (by omega)
       rw [←HX.out,←HY.out] at this
       exact this)
      have hBB:=((hB.drewN (nq+1)).trans (But.setCell g (k+1) _ (.int .u64 y))).trans (But.setCell g k _ (.int .u64 x))
      exact ⟨⟨k,swpF F (k+1) k,rfl,by omega,hR.out,HJ.out.step hlt hji hj0 (by have:=HX.out;have:=HY.out;simp only [Nat.add_sub_cancel];omega),hBB⟩,by simp [intOf]⟩
     ·have tl:decide (x<y)=false:=by simp [hl]
      go_quiet ((go_at_call 230;exact Calls.quiet_of (zKy _ _ _)))
      have HS:Hid (InsI xs n (i+1) F):=zy (HJ.out.stop hji (.inr (by have:=HX.out;have:=HY.out;simp only [Nat.add_sub_cancel];omega)))
      go_wp2
      go_roundw
      case rel=>exact ⟨i+1,F,by go_num,by omega,by omega,by omega,HF.out.drewN _,HS.out,hB.drewN _⟩
      case measure=>simp [intOf];omega
    ·obtain rfl:j=0:=by omega
     have HS:Hid (InsI xs n (i+1) F):=zy (HJ.out.stop hji (.inl rfl))
     have tk:decide ((0:Int)<((0:Nat):Int))=false:=by simp
     clear hcw hfw
     go_wp2
     go_quiet (fail)
     go_wp2
     go_roundw
     case rel=>exact ⟨i+1,F,by go_num,by omega,by omega,by omega,HF.out.drewN _,HS.out,hB.drewN _⟩
     case measure=>simp [intOf];omega
  ·have HE:Hid (InsI xs n n F):=zy (by
    rcases HN.out (by omega) with e|⟨e1,e2⟩
    ·have:=HI.out;rw [e] at this;exact this
    ·exact ⟨HI.out.perm,fun a b h1 h2=>by omega⟩)
   go_wp2
   go_end0
   exact ⟨rfl,F,HF.out,HE.out,hB⟩
end

section
open Go.RowKit
open Alg
theorem zPl (fs:List (Nat×Nat)):zPg (upP fs)=(prodF fs:Int):=by
 induction fs with
 | nil=>rfl
 | cons x fs ih=>
  have:upP (x :: fs)=((x.1:Int),(x.2:Int)) :: upP fs:=rfl
  rw [this]
  simp [zPg,prodF,ih]
theorem zWc (fs:List (Nat×Nat)) {k:Nat} (hk:k<fs.length):(upP fs).getD k (0,0)=((fs[k].1:Int),(fs[k].2:Int)):=by
 simp [upP,List.getD_eq_getElem?_getD,List.getElem?_eq_getElem hk]
theorem zWd (fs:List (Nat×Nat)):(upP fs).length=fs.length:=by simp [upP]
theorem zOC {n:Nat} {fs:List (Nat×Nat)} (h:IsFac n fs) {x:Nat×Nat} (hx:x ∈ fs):x.1^x.2∣n:=by
 rw [←h.prod]
 clear h
 induction fs with
 | nil=>cases hx
 | cons y t ih=>
  simp only [prodF]
  rcases List.mem_cons.1 hx with rfl|hx
  ·exact Nat.dvd_mul_right _ _
  ·exact Nat.dvd_trans (ih hx) (Nat.dvd_mul_left _ _)
theorem zI7 {e:Ent} (h:zAv e):zAm e:=by
 obtain ⟨q,g,fs,rfl,hq,h3,h6,hG,hF⟩:=h
 have hg:=hG.lt hq h3
 have hlen:fs.length≤32:=by
  have h1:=Alg.len_le hF.each (Nat.le_of_eq hF.prod)
  have h2:=(Nat.pow_le_pow_iff_right (a:=2) (by omega)).1 (show 2^fs.length≤2^32 by omega)
  omega
 refine ⟨by show (0:Int)≤q;omega,by show (q:Int)≤_;omega,by show (0:Int)≤g;omega,by show (g:Int)≤_;omega,by show (upP fs).length≤_;rw [zWd];omega,fun x hx=>?_⟩
 obtain ⟨y,hy,rfl⟩:=List.mem_map.1 hx
 have h1:=Nat.le_of_dvd (by omega) (hF.dvd hy)
 have h2:=zOC hF hy
 have h3':2^y.2≤y.1^y.2:=Nat.pow_le_pow_left (hF.each y hy).1.1 _
 have h4:=Nat.le_of_dvd (by omega) h2
 have h5:=(Nat.pow_le_pow_iff_right (a:=2) (by omega)).1 (show 2^y.2≤2^16 by omega)
 show (0:Int)≤y.1∧(y.1:Int)≤_∧_≤(y.2:Int)∧(y.2:Int)≤_
 omega
structure RowE (N es:List Ent) (F:Nat→Int) (n:Nat):Prop where
 len:es.length=n
 each: ∀j,j<n→es.getD j Ent.none ∈ N∧(es.getD j Ent.none).p=F j
theorem zSk {N es:List Ent} {F:Nat→Int} (hI:InsI (N.map (·.p)) N.length N.length F) (hnd:(N.map (·.p)).Nodup) (hN: ∀e ∈ N,zAv e∧Clo N e) (h12:N.length≤12) (hE:RowE N es F N.length):zAb es:=by
 have hFn:=hI.perm.nodup_iff.2 hnd
 have hlt: ∀a b,a<b→b<N.length→F a<F b:=fun a b hab hb=>by
  have h1:=hI.rise a b hab hb
  have h2:F a≠F b:=fun e=>by
   have:=List.pairwise_map.1 hFn
   have h3:=List.pairwise_iff_getElem.1 this a b (by simpa using (by omega:a<N.length)) (by simpa using hb) hab
   simp at h3
   exact h3 e
  omega
 refine ⟨by rw [hE.len];omega,fun j hj=>?_⟩
 rw [hE.len] at hj
 obtain ⟨hm,hpF⟩:=hE.each j hj
 obtain ⟨hg,hc⟩:=hN _ hm
 generalize hej:es.getD j Ent.none=e at *
 obtain ⟨q,g,fs,rfl,hq,h3,h6,hG,hF⟩:=hg
 have hgl:=hG.lt hq h3
 have hq2:q%2=1:=by
  rcases Nat.mod_two_eq_zero_or_one q with h|h
  ·rcases hq.2 2 (Nat.dvd_of_mod_eq_zero h) with h'|h' <;> omega
  ·exact h
 have hlen:2^fs.length≤q-1:=Alg.len_le hF.each (Nat.le_of_eq hF.prod)
 have hlen16:fs.length≤16:=(Nat.pow_le_pow_iff_right (a:=2) (by omega)).1 (show 2^fs.length≤2^16 by omega)
 have h2mem: ∃e,(2,e) ∈ fs:=hF.mem ⟨by omega,fun d hd=>by have:=Nat.le_of_dvd (by omega) hd;have:=Nat.pos_of_dvd_of_pos hd (by omega);omega⟩ (Nat.dvd_of_mod_eq_zero (by omega))
 have hpos:0<fs.length:=by obtain ⟨e,he⟩:=h2mem;exact List.length_pos_of_mem he
 have hrise: ∀a b (ha:a<fs.length) (hb:b<fs.length),a<b→fs[a].1<fs[b].1:=fun a b ha hb hab=>List.pairwise_iff_getElem.1 hF.rise a b ha hb hab
 have h0:fs[0].1=2:=by
  obtain ⟨e,he⟩:=h2mem
  obtain ⟨k,hk,hke⟩:=List.getElem_of_mem he
  rcases Nat.eq_zero_or_pos k with h|h
  ·subst h;rw [hke]
  ·have h1:=hrise 0 k hpos hk h
   rw [hke] at h1
   have:=(hF.each _ (List.getElem_mem hpos)).1.1
   simp at h1;omega
 have hget: ∀k (hk:k<fs.length),(upP fs).getD k (0,0)=((fs[k].1:Int),(fs[k].2:Int)):=fun k hk=>zWc fs hk
 haveI:NeZero q:=⟨by omega⟩
 have hone:=(hG.ord hq h3)
 refine ⟨by show (q:Int)%2=1;omega,by show (3:Int)≤q;omega,by show (q:Int)<_;omega,by show (2:Int)≤g;have:=hG.1;omega,by show (g:Int)<q;omega,?_,?_,?_⟩
 ·intro hl
  rw [List.length_take,hE.len] at hl ⊢
  have hmin:min j N.length=j:=by omega
  rw [hmin] at hl ⊢
  have e1:(es.take j).getD (j-1) Ent.none=es.getD (j-1) Ent.none:=by
   simp [List.getD_eq_getElem?_getD,List.getElem?_take,show j-1<j by omega]
  rw [e1,(hE.each (j-1) (by omega)).2]
  show F (j-1)<(q:Int)
  have h4:(q:Int)=F j:=hpF
  rw [h4]
  exact hlt _ _ (by omega) hj
 ·refine ⟨by show 1≤(upP fs).length;rw [zWd];omega,by show (upP fs).length≤16;rw [zWd];exact hlen16,by show ((upP fs).getD 0 (0,0)).1=2;rw [hget 0 hpos];show (fs[0].1:Int)=2;omega,fun k hk=>?_,fun k hk=>?_,?_⟩
  ·have hk':k<fs.length:=by have:k<(upP fs).length:=hk;rwa [zWd] at this
   show 1≤((upP fs).getD k (0,0)).2∧((upP fs).getD k (0,0)).2≤62
   rw [hget k hk']
   have h1:=(hF.each _ (List.getElem_mem hk'))
   have h2:=Nat.le_of_dvd (by omega) (zOC hF (List.getElem_mem hk'))
   have h3':2^fs[k].2≤fs[k].1^fs[k].2:=Nat.pow_le_pow_left h1.1.1 _
   have h5:=(Nat.pow_le_pow_iff_right (a:=2) (by omega)).1 (show 2^fs[k].2≤2^16 by omega)
   have h6':=h1.2
   show (1:Int)≤(fs[k].2:Int)∧(fs[k].2:Int)≤62
   omega
  ·have hk':k+1<fs.length:=by have:k+1<(upP fs).length:=hk;rwa [zWd] at this
   show ((upP fs).getD k (0,0)).1<((upP fs).getD (k+1) (0,0)).1∧_
   have hr:=hrise k (k+1) (by omega) hk' (by omega)
   have hxm:fs[k+1] ∈ fs:=List.getElem_mem hk'
   have hle:=Nat.le_of_dvd (by omega) (hF.dvd hxm)
   have hk2:=(hF.each _ (List.getElem_mem (show k<fs.length by omega))).1.1
   rw [hget k (by omega)]
   refine ⟨by rw [hget (k+1) hk'];show (fs[k].1:Int)<(fs[k+1].1:Int);omega,?_⟩
   show (es.take j).any (fun x=>x.p == ((upP fs).getD (k+1) (0,0)).1)=true
   rw [hget (k+1) hk']
   rcases hc ((fs[k+1].1:Int),(fs[k+1].2:Int)) (List.mem_map.2 ⟨_,hxm,rfl⟩) with h|⟨e',he',hp'⟩
   ·have:(fs[k+1].1:Int)=2:=h
    omega
   ·have hp2:e'.p=(fs[k+1].1:Int):=hp'
    have hin:e'.p ∈ (List.range N.length).map F:=hI.perm.mem_iff.2 (List.mem_map.2 ⟨e',he',rfl⟩)
    obtain ⟨i,hi,hFi⟩:=List.mem_map.1 hin
    have hi':=List.mem_range.1 hi
    have h4:(q:Int)=F j:=hpF
    have hij:i<j:=by
     rcases Nat.lt_trichotomy i j with h|h|h
     ·exact h
     ·subst h;omega
     ·have:=hlt j i h hi';omega
    rw [List.any_eq_true]
    refine ⟨es.getD i Ent.none,?_,?_⟩
    ·have hil:i<es.length:=by rw [hE.len];exact hi'
     rw [List.getD_eq_getElem?_getD,List.getElem?_eq_getElem hil,Option.getD_some]
     rw [List.mem_take_iff_getElem]
     exact ⟨i,by omega,rfl⟩
    ·rw [beq_iff_eq,(hE.each i hi').2,hFi,hp2]
  ·show zPg (upP fs)=(q:Int)-1
   rw [zPl,hF.prod];omega
 ·refine ⟨?_,fun x hx=>?_⟩
  ·show (g:Int)^((q:Int)-1).toNat%(q:Int)=1
   rw [show ((q:Int)-1).toNat=q-1 by omega]
   exact (zt_pow_one (by omega) g (q-1)).2 hone.2.1
  ·obtain ⟨y,hy,rfl⟩:=List.mem_map.1 hx
   have:=hG.2.1 y.1 (hF.each y hy).1 (hF.dvd hy)
   show (g:Int)^(((q:Int)-1)/(y.1:Int)).toNat%(q:Int)≠1
   rw [show ((q:Int)-1)/(y.1:Int)=(((q-1)/y.1:Nat):Int) by rw [show (q:Int)-1=((q-1:Nat):Int) by omega];rfl]
   exact this
end

section
open Go.RowKit
theorem zOd (g n c:Nat) (l:Int) (F0:Nat→Int) (w:World) (hn:n≤12) (h:RowF w g n F0):
  Calls Tryz.prog 214 #[.slice (some ⟨g,0,none⟩) n c, .int .i64 0, .int .i64 n, .int .i64 l] w fun e w'=>e= .returned (.tuple #[])∧ ∃F,RowF w' g n F∧InsI ((List.range n).map F0) n n F∧But g w w':=by
 have t1:decide ((n:Int)≤12)=true:=by simp;omega
 go_enter Tryz.func214,Tryz.ntmps214
 go_wp2
 refine wp_loop_rounds 1 ?_
 rw [rounds_succ]
 go_wp2_with fail
 refine (zJ0 g n c F0 w hn h).mono ?_
 rintro e w1 ⟨rfl,F,h1,h2,h3⟩
 go_wp2
 refine bodyPost_ret (results_none rfl _ _ _) rfl ?_
 exact ⟨rfl,F,h1,h2,h3⟩
theorem zC4 (x:Int) (w:World) (h0:0≤x) (h1:x≤18446744073709551615):
  Calls Tryz.prog 167 #[.int .u64 x] w fun e w'=>e= .returned (.int .i64 (Lib.bitLen x.toNat))∧w=w':=by
 have h:=zKv x w h0 h1
 generalize hl:(Lib.bitLen x.toNat:Int)=l at h ⊢
 clear hl
 go_enter Tryz.func167,Tryz.ntmps167
 go_wp2_with fail
 refine h.mono ?_
 rintro e w1 ⟨rfl,rfl⟩
 go_wp2
 go_ret
 exact ⟨rfl,rfl⟩
theorem zUf (g n c:Nat) (F0:Nat→Int) (w:World) (hn:n≤12) (h:RowF w g n F0):
  Calls Tryz.prog 192 #[.slice (some ⟨g,0,none⟩) n c] w fun e w'=>e= .returned (.tuple #[])∧ ∃F,RowF w' g n F∧InsI ((List.range n).map F0) n n F∧But g w w':=by
 have hb:=zC4 (n:Int) w (by omega) (by omega)
 generalize hl:(Lib.bitLen (n:Int).toNat:Int)=l at hb
 clear hl
 have H:=zy h
 clear h
 go_enter Tryz.func192,Tryz.ntmps192
 go_wp2_with fail
 refine hb.mono ?_
 rintro e w1 ⟨rfl,rfl⟩
 go_wp2_with fail
 refine (zOd g n c l F0 w hn H.out).mono ?_
 rintro e w1 ⟨rfl,F,h1,h2,h3⟩
 go_wp2
 go_end0
 exact ⟨rfl,F,h1,h2,h3⟩
theorem zL0 (bm:Nat) (w:World):
  Calls Tryz.prog 157 #[.map (some bm)] w fun e w'=>e= .returned (.func (.func 193) #[] #[.pointer (some ⟨w.heap.size,0,none⟩)])∧w'=w.alloc (.cells #[.map (some bm)] 199):=by
 go_enter Tryz.func157,Tryz.ntmps157
 go_wp2
 go_ret
 exact ⟨rfl,rfl⟩
theorem keys_gives (n bm Bm:Nat) (hn:1≤n) (es:List Ent) (w:World) (hm:w.cell? ⟨Bm,0,none⟩=some (.map (some bm))) (hM:MapE w bm es):
  SeqGives Fence.wide n Tryz.prog 193 #[.pointer (some ⟨Bm,0,none⟩)] encU (fun ss=>ss.Perm (es.map (·.p))) es.length w:=fun l J W hW hJ hY h0=>
 zJS n l Bm bm hn es J W hJ (zDs hW (World.block_lt_of_cell? w _ hm) hm) (hM.below hW) hY h0
theorem collected (bm Bm:Nat) (es:List Ent) (w:World) (hm:w.cell? ⟨Bm,0,none⟩=some (.map (some bm))) (hM:MapE w bm es) (hl:es.length≤12):
  Calls Tryz.prog 191 #[.func (.func 193) #[] #[.pointer (some ⟨Bm,0,none⟩)]] w fun e w'=> ∃(v:Value) (ss:List Int),e= .returned v∧ss.Perm (es.map (·.p))∧w'.ownsRow w.heap.size 22 1 v ss.length (ss.map encU)∧(v= .slice none 0 0↔ss= [])∧Below w.heap.size w w':=
 callsIn_wide.1 (zEA 4 (by omega) _ _ (enters_of Tryz.func193 (by kernel_rfl) rfl) _ es.length (by omega) w (keys_gives 2 bm Bm (by omega) es w hm hM))
theorem zUg (bm Bm:Nat) (es:List Ent) (w:World) (hm:w.cell? ⟨Bm,0,none⟩=some (.map (some bm))) (hM:MapE w bm es) (hl:es.length≤12) (hl0:0<es.length):
  Calls Tryz.prog 156 #[.func (.func 193) #[] #[.pointer (some ⟨Bm,0,none⟩)]] w fun e w'=>
   ∃g c F,e= .returned (.slice (some ⟨g,0,none⟩) es.length c)∧RowF w' g es.length F∧InsI (es.map (·.p)) es.length es.length F∧Below w.heap.size w w'∧w.heap.size≤g:=by
 have hc:=collected bm Bm es w hm hM hl
 go_enter Tryz.func156,Tryz.ntmps156
 go_wp2_with fail
 refine hc.mono ?_
 rintro e w1 ⟨v,ss,rfl,hS,hown,hnil,hB⟩
 have hsl:ss.length=es.length:=by rw [hS.length_eq];simp
 rcases hown.2 with ⟨rfl,hz⟩|⟨g,cap,cur,rfl,hbase,hgb,r1,r2,r3,r4⟩
 ·omega
 ·have hR:RowF w1 g es.length (fun j=>ss.getD j 0):=by
   refine ⟨fun j hj=>?_,fun j=>by simp [World.frozen?,hgb]⟩
   have h1:cur[j]? =some (encU (ss.getD j 0)):=by
    have h2:(cur.toList.take ss.length)[j]? =(ss.map encU)[j]? :=by rw [←r4,Nat.mul_one]
    have hj':j<ss.length:=by omega
    rw [List.getElem?_take_of_lt hj',List.getElem?_map,List.getElem?_eq_getElem hj'] at h2
    rw [←Array.getElem?_toList,h2,List.getD_eq_getElem?_getD,List.getElem?_eq_getElem hj']
    rfl
   simp only [World.cell?,hgb]
   simpa [encU] using h1
  have hmap:(List.range es.length).map (fun j=>ss.getD j 0)=ss:=by
   rw [←hsl]
   apply List.ext_getElem
   ·simp
   ·intro j h1 h2
    simp [List.getD_eq_getElem?_getD,List.getElem?_eq_getElem h2]
  rw [hsl]
  have H:=zy hR
  have HM:=zy hmap
  have HS:=zy hS
  clear hR hmap hown r1 r2 r3 r4 hgb hnil hS hc hm hM
  go_wp2_with fail
  refine (zUf g es.length cap _ w1 hl H.out).mono ?_
  rintro e w2 ⟨rfl,F,h1,h2,h3⟩
  go_wp2
  go_ret
  refine ⟨g,cap,F,rfl,h1,⟨(h2.perm.trans (by rw [HM.out];exact HS.out)),h2.rise⟩,hB.trans (h3.below hB.size hbase),hbase⟩
end

section
open Go.RowKit
open Alg
theorem zJk:(Tryz.prog.info? 115).map (fun i=>(i.zero,i.size,i.bytes))=some (some (.agg #[.int .u64 0, .int .u64 0, .slice none 0 0]),3,40):=by kernel_rfl
theorem MapE.nodup {w:World} {bm:Nat} {es:List Ent} (h:MapE w bm es):(es.map (·.p)).Nodup:=by
  obtain ⟨ms,clock,hb,hst,hz,hx⟩:=h
  have hkeys:ms.toList.map (·.key)=es.map (fun e=>encU e.p):=by
    apply List.ext_getElem
    · simp [hz]
    · intro i h1 h2
      have hi:i<es.length:=by simpa using h2
      obtain ⟨x,A,c,a1,a2,_⟩:=hx i hi
      rw [Array.getElem?_eq_some_iff] at a1
      obtain ⟨h,rfl⟩:=a1
      simp only [List.getElem_map,Array.getElem_toList]
      rw [a2]
      simp [List.getD_eq_getElem?_getD,List.getElem?_eq_getElem hi,encU]
  have h1:=hst.2.2
  rw [hkeys] at h1
  exact List.Pairwise.map (R:=fun a b:Ent=>encU a.p≠encU b.p) _ (fun a b h e=>h (by rw [e])) (List.pairwise_map.1 h1)
def MapB (w:World) (B bm:Nat) (es:List Ent):Prop:=
  ∃ms clock,w.heap[bm]? =some (.map ms clock)∧ms.size=es.length∧
    ∀i,i<es.length→ ∃x A c,ms[i]? =some x∧x.key= .int .u64 (es.getD i Ent.none).p∧x.val=zGl (es.getD i Ent.none) A c∧RdPI w B A (es.getD i Ent.none).fs
theorem MapE.toB {w:World} {bm:Nat} {es:List Ent} (h:MapE w bm es):MapB w w.heap.size bm es:=by
  obtain ⟨ms,clock,hb,_,hz,hx⟩:=h
  exact ⟨ms,clock,hb,hz,hx⟩
theorem MapB.below {w w':World} {B bm:Nat} {es:List Ent} (h:MapB w B bm es) (hb:Below B w w') (hl:bm<B):MapB w' B bm es:=by
  obtain ⟨ms,clock,hm,hz,hx⟩:=h
  refine ⟨ms,clock,(hb.block bm hl).trans hm,hz,fun i hi=>?_⟩
  obtain ⟨x,A,c,a1,a2,a3,a4⟩:=hx i hi
  exact ⟨x,A,c,a1,a2,a3,a4.below hb⟩
theorem zLu {w:World} {B bm:Nat} {es:List Ent} (h:MapB w B bm es) {e:Ent} (he:e ∈ es):
    ∃i A c,i<es.length∧(es.getD i Ent.none).p=e.p∧RdPI w B A (es.getD i Ent.none).fs∧
      (Instr.lookup 199 (.map (some bm)) (.int .u64 e.p) false).run Tryz.prog w= .ok (zGl (es.getD i Ent.none) A c) w:=by
  obtain ⟨ms,clock,hm,hz,hx⟩:=h
  have hmem: ∀x ∈ ms.toList,∃i,i<es.length∧x.key= .int .u64 (es.getD i Ent.none).p∧ ∃A c,x.val=zGl (es.getD i Ent.none) A c∧RdPI w B A (es.getD i Ent.none).fs:=fun x h=>by
    obtain ⟨i,hi,rfl⟩:=List.getElem_of_mem h
    have hi':i<es.length:=by rw [←hz];simpa using hi
    obtain ⟨y,A,c,a1,a2,a3,a4⟩:=hx i hi'
    have:ms[i]? =some (ms.toList[i]):=by
      rw [Array.getElem?_eq_getElem (by simpa using hi)];simp
    rw [this] at a1
    injection a1 with a1
    exact ⟨i,hi',by rw [a1];exact a2,A,c,by rw [a1];exact a3,a4⟩
  have hk:MapKept.IsKey (.int .u64) (.int .u64 e.p):=rfl
  have hks: ∀x ∈ ms.toList,MapKept.IsKey (.int .u64) x.key:=fun x h=>by
    obtain ⟨i,_,e,_⟩:=hmem x h
    rw [e];rfl
  rcases MapKept.findNow_spec hk ms.toList 0 hks with ⟨h1,h2⟩|⟨j,x,h1,h2,h3⟩
  · exfalso
    obtain ⟨i,hi,rfl⟩:=List.getElem_of_mem he
    obtain ⟨x,A,c,a1,a2,_⟩:=hx i hi
    have hxm:x ∈ ms.toList:=by
      rw [Array.getElem?_eq_some_iff] at a1
      obtain ⟨h,rfl⟩:=a1
      exact Array.getElem_mem_toList h
    refine h2 x hxm ?_
    rw [a2]
    simp [List.getD_eq_getElem?_getD,List.getElem?_eq_getElem hi]
  · obtain ⟨i,hi,a2,A,c,a3,a4⟩:=hmem x (List.mem_of_getElem? h2)
    rw [h3] at a2
    injection a2 with _ a2
    exact ⟨i,A,c,hi,a2.symm,a4,by simp [Instr.lookup,run_underlying zVO,MapKept.run_getObj_map hm,MapKept.run_checkKey zVQ hk,MapKept.run_findKey zVQ h1,Result.andThen,a3]⟩
def zGh (l:List (Ent×Option Addr×Nat)):List Value:=l.flatMap fun x=> [.int .u64 x.1.p, .int .u64 x.1.g, .slice x.2.1 x.1.fs.length x.2.2]
theorem zGi (a:List (Ent×Option Addr×Nat)) (x:Ent×Option Addr×Nat):zGh (a ++ [x])=zGh a ++ [.int .u64 x.1.p, .int .u64 x.1.g, .slice x.2.1 x.1.fs.length x.2.2]:=by simp [zGh]
def RowP (p:Int) (w:World) (r:Ending) (w':World):Prop:=
  Below w.heap.size w w'∧
  ((¬(2<p∧p≤65536∧Prime p.toNat)∧r= .returned (.tuple #[.slice none 0 0, .int .i64 1]))∨
   ((2<p∧p≤65536∧Prime p.toNat)∧ ∃A c es,∃g:Nat,r= .returned (.tuple #[.slice A es.length c, .int .i64 0])∧es.length≤c∧RdE w' w'.heap.size A es∧(∀e ∈ es,zAm e)∧zAb es∧zAp es p g∧IsGen p.toNat g))
def OutL (N:List Ent) (F:Nat→Int) (l:List (Ent×Option Addr×Nat)) (B:Nat) (w:World):Prop:=
  ∀i,i<l.length→(l.getD i (Ent.none,none,0)).1 ∈ N∧(l.getD i (Ent.none,none,0)).1.p=F i∧RdPI w B (l.getD i (Ent.none,none,0)).2.1 (l.getD i (Ent.none,none,0)).1.fs
theorem zGj (l:List (Ent×Option Addr×Nat)): ∀j,j<l.length→(zGh l)[j*3]? =some (.int .u64 (l.getD j (Ent.none,none,0)).1.p)∧(zGh l)[j*3+1]? =some (.int .u64 (l.getD j (Ent.none,none,0)).1.g)∧(zGh l)[j*3+2]? =some (.slice (l.getD j (Ent.none,none,0)).2.1 (l.getD j (Ent.none,none,0)).1.fs.length (l.getD j (Ent.none,none,0)).2.2):=by
  induction l with
  | nil=>intro j hj;simp at hj
  | cons x t ih=>
    intro j hj
    have hx:zGh (x :: t)= .int .u64 x.1.p :: .int .u64 x.1.g :: .slice x.2.1 x.1.fs.length x.2.2 :: zGh t:=rfl
    rw [hx]
    cases j with
    | zero=>exact ⟨rfl,rfl,rfl⟩
    | succ j=>
      have:=ih j (by simpa using hj)
      rw [show (j+1)*3=j*3+1+1+1 by omega]
      simpa using this
theorem zSi {N:List Ent} {F:Nat→Int} {l:List (Ent×Option Addr×Nat)} {v:Value} {n:Nat} {w w5 wr:World}
    (hI:InsI (N.map (·.p)) N.length N.length F) (hnd:(N.map (·.p)).Nodup) (hN:zAs n [] N) (h12:N.length≤12) (hL:OutL N F l w5.heap.size w5) (hl:l.length=N.length)
    (hown:wr.ownsRow w5.heap.size 115 3 v l.length (zGh l)) (hBr:Below w5.heap.size w5 wr) (hB:Below w.heap.size w wr) (o1:(2:Int)<n) (o2:(n:Int)≤65536) (o3:Prime n):
    RowP n w (.returned (.tuple #[v, .int .i64 0])) wr:=by
  refine ⟨hB, .inr ⟨⟨o1,o2,by simpa using o3⟩,?_⟩⟩
  have hE:RowE N (l.map (·.1)) F N.length:=⟨by simp [hl],fun j hj=>by
    have h1:=hL j (by omega)
    have e:(l.map (·.1)).getD j Ent.none=(l.getD j (Ent.none,none,0)).1:=by
      simp [List.getD_eq_getElem?_getD,List.getElem?_eq_getElem (show j<l.length by omega)]
    rw [e];exact ⟨h1.1,h1.2.1⟩⟩
  have hNN: ∀e ∈ N,zAv e∧Clo N e:=fun e he=>by have:=hN.each e he;exact ⟨this.1,by simpa using this.2.1⟩
  have hAR:=zSk hI hnd hNN h12 hE
  obtain ⟨e,he,hep⟩: ∃e ∈ N,e.p=(n:Int):=by
    rcases hN.has with h|h
    · omega
    · simpa using h
  obtain ⟨q,g,fs,rfl,hq,h3,h6,hG,hF⟩:=(hNN e he).1
  have hqn:q=n:=by have:(q:Int)=n:=hep;omega
  subst hqn
  have hlen0:0<l.length:=by rw [hl];exact List.length_pos_of_mem he
  have hown0:=hown
  rcases hown.2 with ⟨rfl,hz⟩|⟨gb,cap,cur,rfl,hbase,hgb,r1,r2,r3,r4⟩
  · omega
  · have hlt:gb<wr.heap.size:=(Array.getElem?_eq_some_iff.1 hgb).1
    refine ⟨some ⟨gb,0,none⟩,cap,l.map (·.1),g,by simp,by simpa using r1,?_,?_,hAR,?_,by simpa using hG⟩
    · intro _
      refine ⟨gb,0,rfl,hlt,fun j hj=>?_⟩
      have hj':j<l.length:=by simpa using hj
      have e0:(l.map (·.1)).getD j Ent.none=(l.getD j (Ent.none,none,0)).1:=by
        simp [List.getD_eq_getElem?_getD,List.getElem?_eq_getElem hj']
      rw [e0]
      obtain ⟨c0,c1,c2⟩:=zGj l j hj'
      have d0:=hown0.cells (g:=gb) rfl (j*3) _ c0
      have d1:=hown0.cells (g:=gb) rfl (j*3+1) _ c1
      have d2:=hown0.cells (g:=gb) rfl (j*3+2) _ c2
      have ea: ∀n,(⟨gb,0,none⟩:Addr).add n=⟨gb,0+n,none⟩:=fun n=>by unfold Addr.add;split <;> simp_all
      rw [ea] at d0 d1 d2
      exact ⟨_,_,d0,by rw [Nat.add_assoc];exact d1,by rw [Nat.add_assoc];exact d2,(((hL j hj').2.2).below hBr).mono hBr.size⟩
    · intro e he
      obtain ⟨x,hx,rfl⟩:=List.mem_map.1 he
      obtain ⟨j,hj,rfl⟩:=List.getElem_of_mem hx
      have:=(hL j hj).1
      rw [List.getD_eq_getElem?_getD,List.getElem?_eq_getElem hj,Option.getD_some] at this
      exact zI7 (hNN _ this).1
    · have hin:(q:Int) ∈ (List.range N.length).map F:=hI.perm.mem_iff.2 (List.mem_map.2 ⟨_,he,rfl⟩)
      obtain ⟨k,hk,hFk⟩:=List.mem_map.1 hin
      have hk':=List.mem_range.1 hk
      obtain ⟨m1,m2⟩:=hE.each k hk'
      rw [hFk] at m2
      have hFn:=List.pairwise_map.1 (hI.perm.nodup_iff.2 hnd)
      refine ⟨k,by simp [hl,hk'],m2,?_,fun j hj hx=>?_⟩
      · obtain ⟨q',g',fs',heq,_,_,_,hG',_⟩:=(hNN _ m1).1
        rw [heq] at m2 ⊢
        have:q'=q:=by have:(q':Int)=q:=m2;omega
        subst this
        show (g':Int)=g
        rw [hG'.unique hG]
      · rw [(hE.each j (by omega)).2,←hFk] at hx
        have h3:=List.pairwise_iff_getElem.1 hFn j k (by simp;omega) (by simpa using hk') hj
        simp at h3
        exact h3 hx
theorem RdPI.back {w w':World} {B:Nat} {A:Option Addr} {fs:List (Int×Int)} (h:RdPI w' B A fs) (hb:Below B w w'):RdPI w B A fs:=fun hl=>by
  obtain ⟨b,o,e,hlt,hc⟩:=h hl
  exact ⟨b,o,e,hlt,fun j hj=>⟨(hb.cell (p:=⟨b,_,none⟩) hlt).symm.trans (hc j hj).1,(hb.cell (p:=⟨b,_,none⟩) hlt).symm.trans (hc j hj).2⟩⟩
theorem zSg (p:Int) (w:World) (h0:0≤p) (h1:p≤18446744073709551615):Calls Tryz.prog 94 #[.int .u64 p] w (RowP p w):=by
  obtain ⟨i0,hi,hz0,hz1,hz2⟩:=info_parts zJk
  by_cases ho:2<p∧p≤65536∧Prime p.toNat
  · obtain ⟨n,rfl⟩:=Int.eq_ofNat_of_zero_le h0
    obtain ⟨o1,o2,o3⟩:=ho
    have o3':Prime n:=by simpa using o3
    have HO:Hid ((decide (2<(n:Int)) && decide ((n:Int)≤65536) && isP (n:Int).toNat)=true):=zy (by simp;exact ⟨by omega,zJL.2 o3'⟩)
    have HP:=zy o3'
    clear o3 o3'
    go_enter Tryz.func94,Tryz.ntmps94
    go_wp2_with fail
    refine (zMA _ _ (by omega) (by omega)).mono ?_
    rintro e w1 ⟨rfl,hB1⟩
    rw [HO.out]
    have hmk:(Instr.makeMap 199 none).run Tryz.prog w1= .ok (.map (some w1.heap.size)) (w1.alloc (.map #[] 0)):=by simp [Instr.makeMap,Result.andThen]
    have hm0:Hid (MapE (w1.alloc (.map #[] 0)) w1.heap.size []):=zy ⟨#[],0,World.alloc_heap_new _ _,MapKept.stamped_empty 0,rfl,fun i hi=>absurd hi (by simp)⟩
    have hB2:Below w.heap.size w (w1.alloc (.map #[] 0)):=hB1.alloc hB1.size _
    have hbm:w.heap.size≤w1.heap.size:=hB1.size
    generalize hw2:w1.alloc (.map #[] 0)=w2 at *
    obtain ⟨bm,hbe⟩: ∃bm,bm=w1.heap.size:=⟨_,rfl⟩
    rw [←hbe] at hmk hm0 hbm
    clear hw2 hbe hB1
    go_wp2_with fail
    refine (zIh (n+1) n (by omega) HP.out (by omega) w2 bm [] hm0.out).mono ?_
    rintro e w3 ⟨N,rfl,hM3,hBut,hN⟩
    clear hmk
    have hB3:Below w.heap.size w w3:=hB2.trans (hBut.below hB2.size hbm)
    rw [List.nil_append] at hM3
    have hl12:N.length≤12:=by
      have hodd:n%2=1:=by
        rcases Nat.mod_two_eq_zero_or_one n with h|h
        · rcases HP.out.2 2 (Nat.dvd_of_mod_eq_zero h) with h'|h' <;> omega
        · exact h
      have h1:=cnt_le (p:=n) (by omega) (by omega) hodd
      have:=hN.few 16 (by omega)
      omega
    have HN:Hid (zAs n [] N):=zy hN
    have hl0:0<N.length:=by
      rcases hN.has with h|⟨e,he,_⟩
      · omega
      · exact List.length_pos_of_mem (by simpa using he)
    have HND:=zy hM3.nodup
    have HM3:=zy hM3
    clear hM3 hN hBut hm0 hB2
    go_wp2_with fail
    refine (zL0 bm w3).mono ?_
    rintro e w4 ⟨rfl,rfl⟩
    have hB4:=hB3.alloc hB3.size (.cells #[.map (some bm)] 199)
    have hcb:(w3.alloc (.cells #[.map (some bm)] 199)).cell? ⟨w3.heap.size,0,none⟩=some (.map (some bm)):=World.cell?_alloc_at _ _ _ _ rfl
    have HM4:Hid (MapE (w3.alloc (.cells #[.map (some bm)] 199)) bm N):=zy (HM3.out.below ((Below.refl _ _).alloc (Nat.le_refl _) _))
    generalize w3.heap.size=Bm at *
    generalize w3.alloc (.cells #[.map (some bm)] 199)=w4 at *
    go_wp2_with fail
    refine (zUg bm Bm N w4 hcb HM4.out hl12 hl0).mono ?_
    rintro e w5 ⟨g,c,F,rfl,hF,hI,hB5,hg⟩
    have hBw:=hB4.trans (hB5.mono hB4.size)
    have HB:=zy ((HM4.out.below hB5).toB)
    have hbm5:bm<w5.heap.size:=(HM4.out.below hB5).lt
    have HF:=zy hF
    have HI:=zy hI
    have hg5:g<w5.heap.size:=World.block_lt_of_cell? w5 _ (hF.cell 0 hl0)
    clear hcb HM4 HM3 hB5 hB4 hF hI hg hB3
    have hB00:Below w5.heap.size w5 w5:=Below.refl _ _
    go_wp2
    go_loopw [5,19] (fun O I wr=> ∃(j:Nat) (l:List (Ent×Option Addr×Nat)),I= .int .i64 j∧j≤N.length∧l.length=j∧wr.ownsRow w5.heap.size 115 3 O l.length (zGh l)∧Below w5.heap.size w5 wr∧OutL N F l w5.heap.size w5) (fun _ I _=>N.length-(intOf I).toNat)
    case atStart=>exact ⟨0,[],rfl,by omega,rfl,World.ownsRow_nil _ _ _ _,hB00,fun i hi=>absurd hi (by simp)⟩
    case round=>
      obtain ⟨j,l,rfl,hj,hlj,hown,hBr,hL⟩:=hrel
      have HL:=zy hL
      clear hL hB00
      by_cases hlt:j<N.length
      · have cF:wr.cell? ⟨g,j,none⟩=some (.int .u64 (F j)):=zDs hBr hg5 (HF.out.cell j hlt)
        obtain ⟨e0,he0,hp0⟩: ∃e ∈ N,e.p=F j:=by
          have:F j ∈ N.map (·.p):=HI.out.perm.mem_iff.1 (List.mem_map.2 ⟨j,List.mem_range.2 hlt,rfl⟩)
          obtain ⟨e,he,h⟩:=List.mem_map.1 this
          exact ⟨e,he,h⟩
        obtain ⟨i,A,c',hi',hip,hRA,hlk⟩:=zLu (HB.out.below hBr hbm5) he0
        rw [hp0] at hip hlk
        obtain ⟨e1,hee⟩: ∃e1,e1=N.getD i Ent.none:=⟨_,rfl⟩
        have he1:Hid (e1 ∈ N):=zy (by rw [hee,List.getD_eq_getElem?_getD,List.getElem?_eq_getElem hi'];exact List.getElem_mem hi')
        rw [←hee] at hip hRA hlk
        have HRA:=zy (And.intro hip hRA)
        obtain ⟨q,hq⟩: ∃q,q=F j:=⟨_,rfl⟩
        rw [←hq] at cF hlk
        have hqe:e1.p=q:=by rw [hip,hq]
        simp only [zGl,hqe] at hlk
        have HQ:=zy hqe
        clear hq hp0 hip hee he0 hRA hqe
        go_wp2_with (at_builtin;refine wpList_append_own _ rfl _ _ 89 rfl w5.heap.size 115 i0 (.agg #[.int .u64 0, .int .u64 0, .slice none 0 0]) 3 40 Tryz.underlying89 hi hz0 hz1 hz2 rfl (by decide) _ _ _ rfl (hown.alloc _) ⟨wr.heap.size,0,none⟩ 1 1 [.int .u64 q, .int .u64 e1.g, .slice A e1.fs.length c'] rfl rfl ?c1 ?c2 ?c3 ?c4 ?c5 ?_)
        case c1=>
          intro k u hk
          match k,hk with
          | 0,hk=>simp at hk;subst hk;simp [Addr.add]
          | 1,hk=>simp at hk;subst hk;simp [Addr.add]
          | 2,hk=>simp at hk;subst hk;simp [Addr.add]
        case c2=>intro u hu;simp at hu;rcases hu with rfl|rfl|rfl <;> rfl
        case c3=>unfold maxLen;omega
        case c4=>omega
        case c5=>have:=hBr.size;simp;omega
        intro v' w6 hown' hgrow _
        rw [←HQ.out,←zGi l (e1,A,c')] at hown'
        have hB':=(hBr.alloc hBr.size (.cells #[.int .u64 e1.p, .int .u64 e1.g, .slice A e1.fs.length c'] 115)).grown (by rw [HQ.out];exact hgrow) (by have:=hBr.size;simp;omega) (fun k hk=>(hown.lt k hk).1)
        have HL':Hid (OutL N F (l ++ [(e1,A,c')]) w5.heap.size w5):=zy (fun k hk=>by
          rw [List.length_append,List.length_singleton] at hk
          by_cases hkl:k<l.length
          · have e2:(l ++ [(e1,A,c')]).getD k (Ent.none,none,0)=l.getD k (Ent.none,none,0):=by simp [List.getD_eq_getElem?_getD,List.getElem?_append_left hkl]
            rw [e2]
            exact HL.out k hkl
          · have e2:(l ++ [(e1,A,c')]).getD k (Ent.none,none,0)=(e1,A,c'):=by
              have:k=l.length:=by omega
              subst this;simp [List.getD_eq_getElem?_getD]
            rw [e2]
            have:k=j:=by omega
            subst this
            exact ⟨he1.out,HRA.out.1,HRA.out.2.back hBr⟩)
        clear hgrow hown hBr hlk cF
        go_wp2
        go_roundw
        case rel=>exact ⟨j+1,l ++ [(e1,A,c')],by go_num,by omega,by simp [hlj],by rw [List.length_append,List.length_singleton,hlj];first|exact hown'|(rw [hlj] at hown';exact hown'),hB',HL'.out⟩
        case measure=>simp [intOf];omega
      · obtain rfl:j=N.length:=by omega
        have HBB:=zy (hBw.trans (hBr.mono hBw.size))
        have HO:=zy hown
        clear hown
        go_wp2
        go_ret2
        exact zSi HI.out HND.out HN.out hl12 HL.out hlj HO.out hBr HBB.out o1 o2 HP.out
  · have HO:Hid ((decide (2<p) && decide (p≤65536) && isP p.toNat)=false):=zy (by
      rw [Bool.eq_false_iff];intro h;simp only [Bool.and_eq_true,decide_eq_true_eq,zJL] at h;exact ho ⟨h.1.1,h.1.2,h.2⟩)
    have HN:=zy ho
    clear ho
    go_enter Tryz.func94,Tryz.ntmps94
    go_wp2_with fail
    refine (zMA _ _ (by omega) (by omega)).mono ?_
    rintro e w1 ⟨rfl,hB1⟩
    rw [HO.out]
    go_wp2
    go_ret2
    exact ⟨hB1, .inl ⟨HN.out,rfl⟩⟩
end

section
open Go.RowKit
open Alg
def OddP (p:Int):Prop:=2<p∧p≤65536∧Prime p.toNat
def zAO (p:Int) (w:World) (r:Ending) (w':World):Prop:=
 (OddP p∧ ∃g:Nat,IsGen p.toNat g∧zA2 p g w r w')∨(¬OddP p∧zA2 0 0 w r w')
theorem zAP (p:Int) (w:World) (h0:0≤p) (h1:p≤18446744073709551615):Calls Tryz.prog 48 #[.int .u64 p] w (zAO p w):=by
 go_enter Tryz.func48,Tryz.ntmps48
 go_wp2_with fail
 refine (zSg p w h0 h1).mono ?_
 rintro r w1 ⟨hB1,⟨hno,rfl⟩|⟨ho,A,c,es,g,rfl,hlc,hR,hE,hA,hF,hG⟩⟩
 ·have HN:Hid (¬OddP p):=zy hno
  clear hno
  go_wp2
  go_ret2
  exact .inr ⟨HN.out,hB1, .inl ⟨1,rfl,by decide,rfl⟩⟩
 ·have HO:Hid (OddP p):=zy ho
  have HE:=zy hE
  have HA:=zy hA
  have HF:=zy hF
  have HG:=zy hG
  have hl32:=hA.1
  clear hE hA hF hG ho
  go_wp2_with fail
  refine (zH0 A c es p w1 (by omega) hlc hR HE.out).mono ?_
  rintro r w2 ⟨hB2,hN⟩
  have hB:=hB1.trans (hB2.mono hB1.size)
  rcases hN with ⟨er,h1,_⟩|⟨_,h1,_⟩|⟨v,g',h1,hF',rfl,hFd⟩
  ·exact absurd HA.out h1
  ·obtain ⟨k,hk1,hk2,_⟩:=HF.out
   exact absurd hk2 (h1 _ (by rw [List.getD_eq_getElem?_getD,List.getElem?_eq_getElem hk1];simp))
  ·have hg:g'=g:=by
    obtain ⟨a,a1,a2,a3,a4⟩:=HF.out
    obtain ⟨b,b1,b2,b3,b4⟩:=hF'
    have:a=b:=by
     rcases Nat.lt_trichotomy a b with h|h|h
     ·exact absurd a2 (b4 a h)
     ·exact h
     ·exact absurd b2 (a4 b h)
    subst this
    rw [←a3,←b3]
   subst hg
   have hp3:3≤p:=by have:=HO.out.1;omega
   clear hF' hB1 hB2 hR
   go_wp2
   go_ret2
   exact .inl ⟨HO.out,g,HG.out,hB, .inr ⟨v,hp3,⟨es,HA.out,HF.out⟩,rfl,hFd⟩⟩
end
end Go.Proofs.YtmalmijdjhkklaaGreat
