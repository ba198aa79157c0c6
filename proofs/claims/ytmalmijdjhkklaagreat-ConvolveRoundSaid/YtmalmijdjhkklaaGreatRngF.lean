/- A range over a function whose consumer and iterator keep apart by a bound on the heap: what lies beyond it is the iterator's. -/
import Derived.Test.YtmalmijdjhkklaaGreatW10
import Derived.Test.YtmalmijdjhkklaaGreatW16
import Derived.RangeFuncNested
import Derived.RangeFuncBound
import Derived.RangeFuncCalls
import Derived.RangeFuncLeaves
import Derived.WalkKit
import Derived.OwnWalkIn
import Derived.TacticsInMore
import Derived.LoopNIn
import Derived.LoopIn
set_option linter.unusedVariables false
set_option linter.unusedSimpArgs false
namespace Go.Proofs.YtmalmijdjhkklaaGreat
open Go.RowKit
structure zAa (B:Nat) (W W':World):Prop where
  size:W.heap.size≤W'.heap.size
  same: ∀i,B≤i→i<W.heap.size→W'.heap[i]? =W.heap[i]?
theorem zAa.refl (B:Nat) (W:World):zAa B W W:=⟨Nat.le_refl _,fun _ _ _=>rfl⟩
theorem zAa.trans {B:Nat} {X Y Z:World} (h:zAa B X Y) (k:zAa B Y Z):zAa B X Z:=
  ⟨Nat.le_trans h.size k.size,fun i hB hi=>(k.same i hB (Nat.lt_of_lt_of_le hi h.size)).trans (h.same i hB hi)⟩
theorem zAa.mono {B C:Nat} {X Y:World} (h:zAa B X Y) (hBC:B≤C):zAa C X Y:=⟨h.size,fun i hi=>h.same i (Nat.le_trans hBC hi)⟩
theorem zAa.of_below {B:Nat} {W W':World} (h:Below W.heap.size W W'):zAa B W W':=⟨h.size,fun i _ hi=>h.block i hi⟩
theorem zAa.of_but {B bm:Nat} {W W':World} (h:But bm W W') (hb:bm<B):zAa B W W':=⟨h.size,fun i hi hl=>h.block i hl (by omega)⟩
theorem zAa.putObj {B l:Nat} (W:World) (o:Obj) (hl:l<B):zAa B W (W.putObj l o):=
  ⟨by simp,fun i hi _=>World.putObj_heap_other (by omega)⟩
theorem zAa.setCell {B:Nat} {a:Addr} (W:World) (v:Value) (hl:a.block<B):zAa B W (W.setCell a v):=
  ⟨by simp,fun i hi _=>heap_setCell_other W a i v (by omega)⟩
theorem zAa.heap {B i:Nat} {W W':World} {o:Obj} (h:zAa B W W') (hi:B≤i) (ho:W.heap[i]? =some o):W'.heap[i]? =some o:=
  (h.same i hi (Array.getElem?_eq_some_iff.1 ho).1).trans ho
theorem zCm {B l:Nat} (W:World) (o:Obj) (hl:B≤l):Below B W (W.putObj l o):=
  ⟨rfl,rfl,rfl,by simp,fun i hi=>World.putObj_heap_other (by omega)⟩
theorem _root_.Go.RoundIn.inRound {F:Fence} {n:Nat} {P:Program} {l:Nat} {f:FuncId} {tmps:Array Value} {assign body:Code} {w:World} {R:Ending→World→Prop} (l₀:Nat)
    (h:RoundIn F n P l f tmps assign body w R):RoundIn (F.inRound l₀) n P l f tmps assign body w R:=h
def zAu {α:Type} (P:Program) (g:Nat) (lb:Array Value) (encs:α→Array Value) (L:List α) (Cap:World→Prop) (W0:World):Prop:=
  ∀(l m:Nat) (J Jx:List α→World→Prop),(∀s W W',J s W→Below W0.heap.size W W'→J s W')→(∀s W W',Jx s W→Below W0.heap.size W W'→Jx s W')→(∀s W,J s W→Cap W)→
    (∀m pre x W,W0.heap.size≤W.heap.size→J pre W→(pre ++ [x]) <+:L→YieldAt Fence.wide m P l (encs x) W fun e W'=>
      ((e= .returned (.bool true)∧J (pre ++ [x]) W')∨(e= .returned (.bool false)∧Jx (pre ++ [x]) W'))∧zAa W0.heap.size W W')→
    J [] W0→CallsIn Fence.wide m P g (#[.func (.yield l) #[] #[]] ++ lb) W0 fun e W'=>(∃v,e= .returned v)∧(J L W'∨ ∃pre,pre <+:L∧Jx pre W')
def zGg {α:Type} (B:Nat) (I:List α→World→Prop) (Ix:Code→List α→World→Prop) (xs:List α) (W:World):Exit→Act→World→Prop
  | .normal,_,W'=>I xs W'∧zAa B W W'
  | .ret,_,W'=>Ix .ret xs W'∧zAa B W W'
  | .exit id,_,W'=>Ix (.exit id) xs W'∧zAa B W W'
  | .goto t,_,W'=>Ix (.goto t) xs W'∧zAa B W W'
  | .panic _,_,_=>False
  | .outgrown,_,_=>False
theorem zRj {α:Type} {P:Program} {n:Nat} {g:Operand} {ps:Array Tmp} {assign body:Code} {Q:Exit→Act→World→Prop} {a:Act} {w:World}
    {gf:Nat} {lb:Array Value} (hg:a.eval g= .func (.func gf) #[] lb) (eg: ∀args w,(callFunc gf args).run P w= .ok (.enter gf args) w)
    {encs:α→Array Value} {L:List α} {Cap:World→Prop} (hseq: ∀W0,Below w.heap.size w W0→W0.heap.size=w.heap.size+2→zAu P gf lb encs L Cap W0) (hps: ∀x,(encs x).size=ps.size)
    (I:List α→World→Prop) (Ix:Code→List α→World→Prop)
    (hI: ∀s W W',I s W→Below w.heap.size W W'→I s W') (hIx: ∀c s W W',Ix c s W→Below w.heap.size W W'→Ix c s W') (hC: ∀s W,I s W→Cap W) (h0:I [] w)
    (hround: ∀m pre x W,w.heap.size+2≤W.heap.size→I pre W→(pre ++ [x]) <+:L→
      assign.wpIn (Fence.wide.inRound (w.heap.size+1)) m P (Exit.then (fun a1 W1=>I pre W1∧zAa w.heap.size W W1∧
          ∀W2,Below w.heap.size W1 W2→W2.heap.size=W1.heap.size→(∀i,i≠w.heap.size+1→W2.heap[i]? =W1.heap[i]?)→
            body.wpIn (Fence.wide.inRound (w.heap.size+1)) m P (zGg w.heap.size I Ix (pre ++ [x]) W2) a1 W2) (fun _ _ _=>False))
        { tmps:=(ps.zip (encs x)).foldl (fun t (p,v)=>t.setIfInBounds p v) a.tmps,defers:= [] } W)
    (hdone: ∀W,w.heap.size+2≤W.heap.size→I L W→W.heap[w.heap.size]? =some (.deferred (some []))→Q .normal { a with defers:= { target:= .collected w.heap.size,args:= #[] } :: a.defers } W)
    (hstop: ∀c pre W,w.heap.size+2≤W.heap.size→pre <+:L→Ix c pre W→W.heap[w.heap.size]? =some (.deferred (some []))→c.wpIn Fence.wide n P Q { a with defers:= { target:= .collected w.heap.size,args:= #[] } :: a.defers } W):
    (Code.rangeFunc g ps assign body).wpIn Fence.wide n P Q a w:=by
  refine wpIn_rangeFunc ?_
  intro fn hfn
  obtain ⟨rec,hrec⟩: ∃rec:LoopState→Option Code→Loop,rec=fun st pe=> { state:=st,pending:=pe,fn,tmps:=a.tmps,params:=ps,assign,body,defers:=w.heap.size }:=⟨_,rfl⟩
  obtain ⟨N,hN⟩: ∃N,N=w.heap.size:=⟨_,rfl⟩
  obtain ⟨W1,hW1⟩: ∃W1,(w.alloc (.deferred (some []))).alloc (.loop (rec .ready none))=W1:=⟨_,rfl⟩
  have hL1:W1.heap[N+1]? =some (.loop (rec .ready none)):=by
    rw [←hW1,hN];have:=World.alloc_heap_new (w.alloc (.deferred (some []))) (.loop (rec .ready none));rwa [World.size_alloc] at this
  have hK1:W1.heap[N]? =some (.deferred (some [])):=by
    rw [←hW1,hN];exact (Below.heap_alloc _ _ _ (by simp)).trans (World.alloc_heap_new w _)
  have hb1:Below w.heap.size w W1:=by
    rw [←hW1];exact ((Below.refl _ w).alloc (Nat.le_refl _) _).alloc (by simp) _
  have hs1:W1.heap.size=N+2:=by rw [←hW1,hN];simp
  refine ⟨w.heap.size+1,[{ target:= .collected w.heap.size,args:= #[] }],W1, { target:= .fn (.func gf) lb,args:= #[.func (.yield (w.heap.size+1)) #[] #[]] },W1,gf,
    #[.func (.yield (w.heap.size+1)) #[] #[]] ++ lb,W1,?_,?_,?_,?_,?_,?_⟩
  · rw [←hW1,hrec];exact run_enterLoop_outer _ _ _ _ _
  · simp only [resolve,hg]
    simp [go_sem]
  · intro f' _;trivial
  · simp [invoke,go_sem,eg]
  · intro h;simp [Fence.wide] at h
  ·
    rw [←hN] at hseq hI hIx hround hdone hstop hb1 ⊢
    refine (hseq W1 hb1 (by rw [hs1]) (N+1) (n-1)
      (fun pre W=>N+2≤W.heap.size∧I pre W∧W.heap[N+1]? =some (.loop (rec .ready none))∧W.heap[N]? =some (.deferred (some [])))
      (fun pre W=>N+2≤W.heap.size∧ ∃c,Ix c pre W∧W.heap[N+1]? =some (.loop (rec .done (some c)))∧W.heap[N]? =some (.deferred (some [])))
      ?_ ?_ ?_ ?_ ?_).mono ?_
    · rintro s W W' ⟨h1,h2,h3,h4⟩ hb
      rw [hs1] at hb
      exact ⟨Nat.le_trans h1 hb.size,hI _ _ _ h2 (hb.mono (by omega)),(hb.block _ (by omega)).trans h3,(hb.block _ (by omega)).trans h4⟩
    · rintro s W W' ⟨h1,c,h2,h3,h4⟩ hb
      rw [hs1] at hb
      exact ⟨Nat.le_trans h1 hb.size,c,hIx _ _ _ _ h2 (hb.mono (by omega)),(hb.block _ (by omega)).trans h3,(hb.block _ (by omega)).trans h4⟩
    · rintro s W ⟨_,h2,_⟩;exact hC _ _ h2
    ·
      rintro m pre x W hsz ⟨h1,hi,hl,hk⟩ hpre
      have hy:=run_yield (P:=P) (args:=encs x) hl (by rw [hrec];exact hps x)
      rw [hrec] at hy
      refine ⟨fn,_,assign,body,hy,roundIn_of_wpIn hfn (wpIn_mono (hround m pre x W h1 hi hpre) ?_)⟩
      clear hy
      intro e a1 Wa hp
      cases e with
      | normal=>
        obtain ⟨hia,haa,hbody⟩:=hp
        have hla:=haa.heap (by omega) hl
        have hka:=haa.heap (Nat.le_refl _) hk
        have hsa:=(Array.getElem?_eq_some_iff.1 hla).1
        refine ⟨_,run_beginRound hla (by rw [hrec]),?_⟩
        have hl2:=World.putObj_heap_same (w:=Wa) (o:= .loop { rec .ready none with state:= .busy }) hsa
        refine wpIn_mono (hbody _ (zCm _ _ (by omega)) (by simp) (fun i hi=>World.putObj_heap_other hi)) ?_
        have hk2:(Wa.putObj (N+1) (.loop { rec .ready none with state:= .busy })).heap[N]? =some (.deferred (some [])):=(World.putObj_heap_other (by omega)).trans hka
        have ha2:zAa W1.heap.size Wa (Wa.putObj (N+1) (.loop { rec .ready none with state:= .busy })):=zAa.putObj _ _ (by omega)
        have fin: ∀(jump:Option Code) (W3:World),zAa N (Wa.putObj (N+1) (.loop { rec .ready none with state:= .busy })) W3→
            (Instr.endRound (N+1) jump).run P W3= .ok (.bool jump.isNone) (W3.putObj (N+1) (.loop (rec (if jump.isNone then .ready else .done) jump)))∧
            N+2≤(W3.putObj (N+1) (.loop (rec (if jump.isNone then .ready else .done) jump))).heap.size∧
            (W3.putObj (N+1) (.loop (rec (if jump.isNone then .ready else .done) jump))).heap[N+1]? =some (.loop (rec (if jump.isNone then .ready else .done) jump))∧
            (W3.putObj (N+1) (.loop (rec (if jump.isNone then .ready else .done) jump))).heap[N]? =some (.deferred (some []))∧
            zAa W1.heap.size W (W3.putObj (N+1) (.loop (rec (if jump.isNone then .ready else .done) jump))):=fun jump W3 h3=>by
          have hl3:=h3.heap (by omega) hl2
          have hk3:=h3.heap (Nat.le_refl _) hk2
          have hs3:=(Array.getElem?_eq_some_iff.1 hl3).1
          have hr:=run_endRound (P:=P) jump hl3
          rw [hrec] at hr ⊢
          refine ⟨hr,by simp;omega,World.putObj_heap_same hs3,(World.putObj_heap_other (by omega)).trans hk3,?_⟩
          rw [hrec] at ha2 h3
          exact (((haa.mono (by omega)).trans ha2).trans (h3.mono (by omega))).trans (zAa.putObj _ _ (by omega))
        intro e a3 W3 hp
        cases e with
        | normal=>
          obtain ⟨hi3,h3⟩:=hp
          obtain ⟨hr,f1,f2,f3,f4⟩:=fin none W3 h3
          exact ⟨_,_,hr, .inl ⟨rfl,f1,hI _ _ _ hi3 (zCm _ _ (by omega)),f2,f3⟩,f4⟩
        | ret=>
          obtain ⟨hi3,h3⟩:=hp
          obtain ⟨hr,f1,f2,f3,f4⟩:=fin (some .ret) W3 h3
          exact ⟨_,_,hr, .inr ⟨rfl,f1, .ret,hIx _ _ _ _ hi3 (zCm _ _ (by omega)),f2,f3⟩,f4⟩
        | exit id=>
          obtain ⟨hi3,h3⟩:=hp
          obtain ⟨hr,f1,f2,f3,f4⟩:=fin (some (.exit id)) W3 h3
          exact ⟨_,_,hr, .inr ⟨rfl,f1, .exit id,hIx _ _ _ _ hi3 (zCm _ _ (by omega)),f2,f3⟩,f4⟩
        | goto t=>
          obtain ⟨hi3,h3⟩:=hp
          obtain ⟨hr,f1,f2,f3,f4⟩:=fin (some (.goto t)) W3 h3
          exact ⟨_,_,hr, .inr ⟨rfl,f1, .goto t,hIx _ _ _ _ hi3 (zCm _ _ (by omega)),f2,f3⟩,f4⟩
        | panic ch=>exact hp.elim
        | outgrown=>exact hp.elim
      | ret=>exact hp.elim
      | exit id=>exact hp.elim
      | goto t=>exact hp.elim
      | panic ch=>exact hp.elim
      | outgrown=>exact hp.elim
    · exact ⟨by omega,hI _ _ _ h0 (by rw [←hN] at *;exact hb1),hL1,hK1⟩
    ·
      rintro e W2 ⟨⟨v,rfl⟩,(⟨h1,hi,hl,hk⟩|⟨pre,hpre,h1,c,hi,hl,hk⟩)⟩
      · exact ⟨none,_,by have:=run_endLoop (P:=P) hl (by rw [hrec];simp);rw [hrec] at this;exact this,hdone _ (by simp;omega) (hI _ _ _ hi (zCm _ _ (by omega))) ((World.putObj_heap_other (by omega)).trans hk)⟩
      · exact ⟨some c,_,by have:=run_endLoop (P:=P) hl (by rw [hrec];simp);rw [hrec] at this;exact this,hstop c pre _ (by simp;omega) hpre (hIx _ _ _ _ hi (zCm _ _ (by omega))) ((World.putObj_heap_other (by omega)).trans hk)⟩
theorem zAa.below {B:Nat} {X Y Z:World} (h:zAa B X Y) (hb:Below X.heap.size Y Z):zAa B X Z:=
  ⟨Nat.le_trans h.size hb.size,fun i hi hl=>(hb.block i hl).trans (h.same i hi hl)⟩
theorem zAa.cell {B:Nat} {W W':World} {a:Addr} {v:Value} (h:zAa B W W') (hB:B≤a.block) (hc:W.cell? a=some v):W'.cell? a=some v:=by
  have hl:=World.block_lt_of_cell? W a hc
  rw [←hc]
  simp only [World.cell?,h.same _ hB hl]
theorem zRk {α:Type} {P:Program} {n:Nat} {g:Operand} {ps:Array Tmp} {assign body:Code} {Q:Exit→Act→World→Prop} {a:Act} {w:World}
    {gf:Nat} {lb:Array Value} (hg:a.eval g= .func (.func gf) #[] lb) (eg: ∀args w,(callFunc gf args).run P w= .ok (.enter gf args) w)
    {encs:α→Array Value} {L:List α} {Cap:World→Prop} (hseq: ∀W0,Below w.heap.size w W0→W0.heap.size=w.heap.size+2→zAu P gf lb encs L Cap W0) (hps: ∀x,(encs x).size=ps.size)
    (I:List α→World→Prop) (Ix:Code→List α→World→Prop)
    (hI: ∀s W W',I s W→Below w.heap.size W W'→I s W') (hIx: ∀c s W W',Ix c s W→Below w.heap.size W W'→Ix c s W') (hC: ∀s W,I s W→Cap W) (h0:I [] w)
    (hround: ∀m pre x W (K:Act→World→Prop),w.heap.size+2≤W.heap.size→I pre W→(pre ++ [x]) <+:L→
      (∀a1 W1,I pre W1→zAa w.heap.size W W1→(∀W2 (E:Exit→Act→World→Prop),(∀e a' W',zGg w.heap.size I Ix (pre ++ [x]) W2 e a' W'→E e a' W')→ ¬LetsOut E→(∀ch a' W',¬E (.panic ch) a' W')→Below w.heap.size W1 W2→W2.heap.size=W1.heap.size→(∀i,i≠w.heap.size+1→W2.heap[i]? =W1.heap[i]?)→
            body.wpIn (Fence.wide.inRound (w.heap.size+1)) m P E a1 W2)→K a1 W1)→
      assign.wpIn (Fence.wide.inRound (w.heap.size+1)) m P (Exit.then K (fun _ _ _=>False))
        { tmps:=(ps.zip (encs x)).foldl (fun t (p,v)=>t.setIfInBounds p v) a.tmps,defers:= [] } W)
    (hdone: ∀W,w.heap.size+2≤W.heap.size→I L W→W.heap[w.heap.size]? =some (.deferred (some []))→Q .normal { a with defers:= { target:= .collected w.heap.size,args:= #[] } :: a.defers } W)
    (hstop: ∀c pre W,w.heap.size+2≤W.heap.size→pre <+:L→Ix c pre W→W.heap[w.heap.size]? =some (.deferred (some []))→c.wpIn Fence.wide n P Q { a with defers:= { target:= .collected w.heap.size,args:= #[] } :: a.defers } W):
    (Code.rangeFunc g ps assign body).wpIn Fence.wide n P Q a w:=
  zRj hg eg hseq hps I Ix hI hIx hC h0 (fun m pre x W hs hi hp=>hround m pre x W _ hs hi hp (fun a1 W1 h1 h2 h3=>⟨h1,h2,fun W2 b1 b2 b3=>h3 W2 _ (fun _ _ _ h=>h) (fun ⟨_,_,h⟩=>h) (fun _ _ _ h=>h) b1 b2 b3⟩)) hdone hstop
end Go.Proofs.YtmalmijdjhkklaaGreat