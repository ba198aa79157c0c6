/- maps.Keys at a map of entries: its iterator. -/
import Derived.Test.YtmalmijdjhkklaaGreatW16
import Derived.Test.YtmalmijdjhkklaaGreatW5
import Derived.Maps.RangeRun
import Derived.RangeFuncSeq
import Derived.RangeFuncGives
import Derived.Sort.MapsRangeIn
import Derived.WalkKit
import Derived.OwnWalkIn
import Derived.TacticsInMore
import Derived.RegionIn
import Derived.LoopNIn
import Derived.LoopIn
set_option linter.unusedVariables false
set_option linter.unusedSimpArgs false
set_option maxRecDepth 100000
set_option maxHeartbeats 16000000
namespace Go.Proofs.YtmalmijdjhkklaaGreat
open Go.RowKit
open Go.ChangeMaps (setBlock)
def encU (x:Int):Value:= .int .u64 x
theorem zGc {x y:Int} (h:encU x=encU y):x=y:=by cases h;rfl
structure zAE (ms:Array MapEntry) (clock bm r:Nat) (seen:Array Nat) (c0:Nat) (ss:List Int) (w:World):Prop where
 map:w.heap[bm]? =some (.map ms clock)
 iter:w.heap[r]? =some (.mapIter (some bm) clock seen c0)
 late:clock≤c0
 nodup:ss.Nodup
 came: ∀x ∈ ms.toList,∀q,x.key=encU q→(q ∈ ss↔seen.contains x.born=true)
 from': ∀q ∈ ss,∃x ∈ ms.toList,x.key=encU q
 cnt:ss.length+(leftOf ms seen).size≤ms.size
theorem zJS (n l Bm bm:Nat) (hn:1≤n) (es:List Ent) (J:List Int→World→Prop) (W:World) (hJ:AbidesFrom W.heap.size J) (hm:W.cell? ⟨Bm,0,none⟩=some (.map (some bm))) (hM:MapE W bm es)
  (hY: ∀pre x W1,J pre W1→pre.length<es.length→YieldAt Fence.wide (n-1) Tryz.prog l #[encU x] W1 fun e W'=>e= .returned (.bool true)∧J (pre ++ [x]) W'∧KeepsWalks W1 W') (h0:J [] W):
  CallsIn Fence.wide n Tryz.prog 193 #[.func (.yield l) #[] #[], .pointer (some ⟨Bm,0,none⟩)] W fun e W'=>(∃v,e= .returned v)∧ ∃ss:List Int,ss.Perm (es.map (·.p))∧J ss W':=by
 obtain ⟨ms,clock,hb,hst,hz,hx⟩:=hM
 have hrg:=run_range_map (P:=Tryz.prog) W 199 22 115 bm ms clock zVO hb
 refine callsIn_of_wp Tryz.func193 rfl trivial ?_ rfl
 simp only [Tryz.ntmps193,List.size_toArray,List.length_cons,List.length_nil,Nat.reduceAdd,Nat.reduceSub,Array.replicate_succ,Array.replicate_zero,List.push_toArray,List.append_toArray,List.nil_append,List.cons_append]
 gi_wp2
 have hlt:bm<W.heap.size:=(Array.getElem?_eq_some_iff.1 hb).1
 have hI:Hid (J [] (W.alloc (.mapIter (some bm) clock #[] clock))):=zy (hJ [] W _ none h0 ⟨rfl,rfl,rfl,by simp,fun k hk _=>Below.heap_alloc _ _ k hk⟩ (fun r e=>by cases e))
 have hR:Hid (zAE ms clock bm W.heap.size #[] clock [] (W.alloc (.mapIter (some bm) clock #[] clock))):=zy
  ⟨(Below.heap_alloc _ _ bm hlt).trans hb,World.alloc_heap_new W _,Nat.le_refl _,List.nodup_nil,fun x hx q _=>by simp,fun q hq=>(by cases hq),by simp [leftOf];exact Array.size_filter_le⟩
 have HX:Hid (∀x ∈ ms.toList,∃q A c e,x.key=encU q∧x.val=zGl e A c):=zy (fun x h=>by
  obtain ⟨i,hi,a1,a2,A,c,a3,a4⟩:=zLx hz hx h
  exact ⟨_,A,c,_,a2,a3⟩)
 have HPM:Hid (∀ss:List Int,ss.Nodup→(∀q,q ∈ ss↔ ∃x ∈ ms.toList,x.key=encU q)→ss.Perm (es.map (·.p))):=zy (fun ss hs hm=>by
  have hkeys:ms.toList.map (·.key)=es.map (fun e=>encU e.p):=by
   apply List.ext_getElem
   ·simp [hz]
   ·intro i h1 h2
    have hi:i<es.length:=by simpa using h2
    obtain ⟨x,A,c,a1,a2,_⟩:=hx i hi
    rw [Array.getElem?_eq_some_iff] at a1
    obtain ⟨h,rfl⟩:=a1
    simp only [List.getElem_map,Array.getElem_toList]
    rw [a2]
    simp [List.getD_eq_getElem?_getD,List.getElem?_eq_getElem hi,encU]
  have hnd:(es.map (·.p)).Nodup:=by
   have h1:=hst.2.2
   rw [hkeys] at h1
   exact List.Pairwise.map (R:=fun a b:Ent=>encU a.p≠encU b.p) _ (fun a b h e=>h (by rw [e])) (List.pairwise_map.1 h1)
  refine Alg.perm_of_mem hs hnd (fun q=>(hm q).trans ?_)
  have:(∃x ∈ ms.toList,x.key=encU q)↔encU q ∈ ms.toList.map (·.key):=by simp [List.mem_map]
  rw [this,hkeys]
  simp only [List.mem_map]
  exact ⟨fun ⟨e,he,h⟩=>⟨e,he,zGc h⟩,fun ⟨e,he,h⟩=>⟨e,he,by rw [h]⟩⟩)
 have HZ:=zy hz
 clear hrg hm h0 hx hz hb
 gi_loopw [3] (fun _ wr=> ∃seen c0 ss,zAE ms clock bm W.heap.size seen c0 ss wr∧J ss wr) (fun _ wr=>(leftOf ms (wr.iterSeen W.heap.size)).size)
 case atStart=>exact ⟨_,_,[],hR.out,hI.out⟩
 case round=>
  obtain ⟨seen,c0,ss,hK,hJs⟩:=hrel
  rcases run_next_at (P:=Tryz.prog) wr 0 W.heap.size bm clock c0 seen ms clock hK.iter hK.map hst.1 hK.late with ⟨hz0,hrun⟩|⟨x,hx,w1,hw1,hrun⟩
  ·have HK:=zy hK
   have HJ:=zy hJs
   clear hK hJs
   have hnx: ∀ty,(Instr.next (.pointer (some ⟨W.heap.size,0,none⟩)) false ty).run Tryz.prog wr=_:=fun _=>hrun
   clear hrun
   gi_wp2
   go_end0
   exact ⟨⟨_,rfl⟩,ss,HPM.out ss HK.out.nodup (fun q=>⟨fun h=>HK.out.from' q h,fun ⟨x,hx,hk⟩=>(HK.out.came x hx q hk).2 (all_seen ms seen hz0 x hx)⟩),HJ.out⟩
  ·obtain ⟨hxm,hxs⟩:=mem_left hx
   obtain ⟨q,A,c,e0,hkq,hvq⟩:=HX.out x hxm
   obtain ⟨w2,hw2⟩: ∃w2,w2=setBlock w1 W.heap.size (.mapIter (some bm) clock (seen.push x.born) clock):=⟨_,rfl⟩
   rw [←hw2] at hrun
   have hit1:w1.heap[W.heap.size]? =some (.mapIter (some bm) clock seen c0):=by rcases hw1 with rfl|rfl <;> exact hK.iter
   have hm1:w1.heap[bm]? =some (.map ms clock):=by rcases hw1 with rfl|rfl <;> exact hK.map
   have hset:=MapKept.heap_set (o':= .mapIter (some bm) clock (seen.push x.born) clock) hit1
   have hit2:w2.heap[W.heap.size]? =some (.mapIter (some bm) clock (seen.push x.born) clock):=by rw [hw2];exact hset.1
   have hm2:w2.heap[bm]? =some (.map ms clock):=by rw [hw2];exact (hset.2 bm (by omega)).trans hm1
   have hgr:wr.grownBy w2 (some W.heap.size):=by
    rw [hw2]
    rcases hw1 with rfl|rfl
    ·exact ⟨rfl,rfl,rfl,by show _≤(Array.setIfInBounds _ _ _).size;rw [Array.size_setIfInBounds];exact Nat.le_refl _,fun k _ hne=>hset.2 k (fun e=>hne (by rw [e]))⟩
    ·exact ⟨rfl,rfl,rfl,by show _≤(Array.setIfInBounds _ _ _).size;rw [Array.size_setIfInBounds];exact Nat.le_refl _,fun k _ hne=>hset.2 k (fun e=>hne (by rw [e]))⟩
   have hJ2:J ss w2:=hJ ss wr w2 (some W.heap.size) hJs hgr (fun r' e=>by cases e;exact ⟨Nat.le_refl _,_,hK.iter,rfl⟩)
   have hen:=run_entry_at (P:=Tryz.prog) w2 W.heap.size bm clock seen ms clock x hit2 hm2 hxm hst.2.1
   have hlen:ss.length<es.length:=by
    have h1:=hK.cnt
    have h2:0<(leftOf ms seen).size:=by
     rw [←Array.length_toList];exact List.length_pos_of_mem hx
    rw [←HZ.out];omega
   rw [hkq,hvq] at hrun hen
   simp only [encU,zGl] at hrun hen
   have hnx: ∀ty,(Instr.next (.pointer (some ⟨W.heap.size,0,none⟩)) false ty).run Tryz.prog wr=_:=fun _=>hrun
   obtain ⟨fn,tmps,assign,body,hy,hR⟩:=hY ss q w2 hJ2 hlen
   simp only [encU] at hy
   have HXX:=zy (show x ∈ (leftOf ms seen).toList∧x ∈ ms.toList∧seen.contains x.born=false∧x.key=encU q from ⟨hx,hxm,hxs,hkq⟩)
   have HK:=zy hK
   have HI2:=zy (And.intro hm2 hit2)
   clear hrun hw2 hw1 hit1 hm1 hset hgr hK hJs hx hxm hxs hkq hvq hm2 hit2
   gi_wp2
   refine hR.mono ?_
   rintro e W3 ⟨rfl,hJ3,hk3⟩
   have hK3:Hid (zAE ms clock bm W.heap.size (seen.push x.born) clock (ss ++ [q]) W3):=zy (by
    obtain ⟨x1,x2,x3,x4⟩:=HXX.out
    obtain ⟨m2,i2⟩:=HI2.out
    have hk:=HK.out
    have hnq:q ∉ ss:=fun h=>by rw [(hk.came x x2 q x4).1 h] at x3;cases x3
    refine ⟨hk3.same _ _ m2 rfl,hk3.same _ _ i2 rfl,Nat.le_refl _,?_,?_,?_,?_⟩
    ·rw [List.nodup_append]
     exact ⟨hk.nodup,by simp,fun a ha b hb e=>hnq (by rw [←List.mem_singleton.1 hb,←e];exact ha)⟩
    ·intro y hy q' hq'
     rw [contains_push,List.mem_append,List.mem_singleton,Bool.or_eq_true,hk.came y hy q' hq',beq_iff_eq]
     refine or_congr Iff.rfl ⟨fun e=>?_,fun e=>?_⟩
     ·have hkk:y.key=x.key:=by rw [hq',x4,e]
      have:=entry_eq_of_key ((MapKept.stamped_iff ms clock).1 hst).2.2 hy x2 hkk
      rw [this]
     ·have:=born_inj hst.2.1 hy x2 e
      rw [this,x4] at hq'
      exact (zGc hq').symm
    ·intro q' hq'
     rcases List.mem_append.1 hq' with h|h
     ·exact hk.from' q' h
     ·exact ⟨x,x2,by rw [List.mem_singleton.1 h];exact x4⟩
    ·have:=left_shrinks ms seen x x1
     have:=hk.cnt
     rw [List.length_append,List.length_singleton];omega)
   gi_wp2
   go_roundw
   case rel=>exact ⟨_,_,_,hK3.out,hJ3⟩
   case measure=>
    have e1:wr.iterSeen W.heap.size=seen:=by simp [World.iterSeen,HK.out.iter]
    have e2:W3.iterSeen W.heap.size=seen.push x.born:=by simp [World.iterSeen,hK3.out.iter]
    rw [e1,e2]
    exact left_shrinks ms seen x HXX.out.1
end Go.Proofs.YtmalmijdjhkklaaGreat