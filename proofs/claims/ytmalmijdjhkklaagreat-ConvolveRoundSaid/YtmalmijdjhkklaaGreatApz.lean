/- append(xs, make([]T, m)...) on a row of the call's own. (After the library's law on append of a slice.) -/
import Derived.Laws.AppendOwn
import Derived.Tactics
import Derived.Test.YtmalmijdjhkklaaGreatW10
set_option linter.unusedVariables false
set_option linter.unusedSimpArgs false
namespace Go.Proofs.YtmalmijdjhkklaaGreat
theorem zXi (x:Value) (m:Nat):Builtin.zeroCells #[x] m=(List.replicate m x).toArray:=by
 apply Array.ext'
 unfold Builtin.zeroCells
 rw [Array.toList_map,Array.toList_range]
 simp only [List.size_toArray,List.length_singleton,Nat.mul_one]
 apply List.ext_getElem
 ·simp
 ·intro j h1 h2
  simp [Nat.mod_one]
theorem zS5 {P:Program} {w:World} (base:Nat) (t u ty e:TypeId) (k:IntKind) (i:TypeInfo) (x:Value) (ht:P.underlying t=some (.slice e)) (hu:P.underlying u=some (.int k)) (hi:P.info? e=some i) (hz:i.zero=some x)
  (hsize:i.size=1) (hby:i.bytes=8) (hx:x.cells= #[x]) (hx1:x.oneCell'=true)
  (v:Value) (n:Nat) (xs:List Value) (hown:w.ownsRow base e 1 v n xs) (m:Nat) (hm0:0<m)
  (h63:n+m≤8796093022208) (hbase:base≤w.heap.size):
  ∃v' w',(Builtin.append_ #[t,u] ty #[v, .int .i64 m]).run P w= .ok v' w'∧w'.ownsRow base e 1 v' (n+m) (xs ++ List.replicate m x)∧w.grownBy w' v.ownBlock:=by
 have hlen:(xs ++ List.replicate m x).length=(n+m)*1:=by rw [List.length_append,hown.1,List.length_replicate,Nat.add_mul];omega
 have hml:n+m≤maxLen:=by unfold maxLen;omega
 have hwr:IntKind.i64.wrap (m:Int)=(m:Int):=by rw [IntKind.wrap_i64];omega
 have hneg: ¬((m:Int)<0):=by omega
 have hbig: ¬((281474976710656:Int)<(m:Int)*(8:Int)):=by omega
 have hne:m≠0:=by omega
 have grown: ∀(old:Nat),old<n+m→ ∀(row:Option Nat),
   (w.drew.alloc (.cells (xs.toArray ++ (List.replicate m x).toArray ++ Builtin.zeroCells #[x] (grownCap w (n+m) old e-(n+m))) e)).ownsRow base e 1
    (.slice (some ⟨w.heap.size,0,none⟩) (n+m) (grownCap w (n+m) old e)) (n+m) (xs ++ List.replicate m x)∧
   w.grownBy (w.drew.alloc (.cells (xs.toArray ++ (List.replicate m x).toArray ++ Builtin.zeroCells #[x] (grownCap w (n+m) old e-(n+m))) e)) row:=by
  intro old ho row
  have hge:=grownCap_ge w (n+m) old e
  have hcm:grownCap w (n+m) old e≤maxLen:=grownCap_le_maxLen w (n+m) old e hml
  refine ⟨⟨hlen, .inr ⟨w.heap.size,_,_,rfl,hbase,heap_alloc_new w.drew _,hge,hcm,?_,?_⟩⟩,⟨rfl,rfl,rfl,by simp,fun k hk _=>heap_alloc_old w.drew _ hk⟩⟩
  ·have h1:=hown.1
   simp only [Array.size_append,List.size_toArray,size_zeroCells,List.length_replicate,List.length_singleton]
   omega
  ·simp only [Array.toList_append,List.append_assoc]
   rw [←List.append_assoc,←hlen]
   exact List.take_left
 rcases hown.2 with ⟨rfl,rfl⟩|⟨g,cap,cur,rfl,hbg,hg,hnc,hcm,hcs,htake⟩
 ·have hxs:xs= []:=List.eq_nil_of_length_eq_zero (by simpa using hown.1)
  subst hxs
  have h63': ¬(9223372036854775807<(m:Int)):=by omega
  have h48': ¬(281474976710656<Builtin.nextslicecap m 0*8):=by rw [nextslicecap_zero hm0];omega
  have hgr:=grown 0 (by omega) (Value.ownBlock (.slice none 0 0))
  simp only [Nat.zero_add,List.nil_append,Array.empty_append] at hgr ⊢
  refine ⟨_,_,?_,hgr.1,hgr.2⟩
  simp [Builtin.append_,run_underlying ht,run_underlying hu,sizeOf,typeInfo,zeroValue,hi,hz,hsize,hby,hx,asInt,asIntOf,hwr,hneg,hbig,hne,h63',h48',Question.forced,run_firstCells_none,newRow,grownCap,zXi]
 ·by_cases hroom:n+m≤cap
  ·have hfit:n+m≤cur.size:=by rw [hcs];omega
   have h1: ∀u ∈ List.replicate m x,u.oneCell'=true:=fun u hu=>by rw [List.eq_of_mem_replicate hu];exact hx1
   have hst:=run_storeCells_at P g n e (List.replicate m x) 0 cur w hg (by simpa using hfit) h1
   simp only [Nat.add_zero] at hst
   refine ⟨.slice (some ⟨g,0,none⟩) (n+m) cap,w.setRow g (cur.toList.take n ++ List.replicate m x ++ cur.toList.drop (n+m)).toArray,?_,⟨hlen, .inr ⟨g,cap,_,rfl,hbg,setRow_heap w g cur _ e _ hg,hroom,hcm,?_,?_⟩⟩,⟨rfl,rfl,rfl,by simp,fun k _ hk=>setRow_other w g k _ (fun e=>hk (by simp [Value.ownBlock,e]))⟩⟩
   ·simp [Builtin.append_,run_underlying ht,run_underlying hu,sizeOf,typeInfo,zeroValue,hi,hz,hsize,hby,hx,asInt,asIntOf,hwr,hneg,hbig,hne,hroom,Addr.add_lit,zXi] at hst ⊢
    rw [hst];simp
   ·simp only [List.size_toArray,List.length_append,List.length_take,List.length_drop,Array.length_toList,List.length_replicate]
    omega
   ·rw [Nat.mul_one] at htake ⊢
    simp only [htake]
    have:(n+m)=(xs ++ List.replicate m x).length:=by rw [hlen];omega
    rw [this]
    exact List.take_left
  ·have holds: ∀j u,xs[j]? =some u→w.cell? ((⟨g,0,none⟩:Addr).add j)=some u:=hown.cells (g:=g) rfl
   have hn: ¬(n+m≤cap):=hroom
   have h63': ¬(9223372036854775807<((n:Int)+(m:Int))):=by omega
   have hfs:Builtin.nextslicecap (n+m) cap*8≤281474976710656:=growslice_fits (by omega) (by omega)
   have h48': ¬(281474976710656<Builtin.nextslicecap (n+m) cap*8):=by omega
   have hfo:=run_firstCells_some (P:=P) w.drew 1 n ⟨g,0,none⟩ n cap xs hown.1 (by simpa using holds)
   have hgr:=grown cap (by omega) (Value.ownBlock (.slice (some ⟨g,0,none⟩) n cap))
   refine ⟨_,_,?_,hgr.1,hgr.2⟩
   simp [Builtin.append_,run_underlying ht,run_underlying hu,sizeOf,typeInfo,zeroValue,hi,hz,hsize,hby,hx,asInt,asIntOf,hwr,hneg,hbig,hne,hn,h63',h48',Question.forced,hfo,newRow,grownCap,zXi]
theorem zS4 {P:Program} {w:World} (base:Nat) (t u ty e:TypeId) (k:IntKind) (i:TypeInfo) (x:Value) (ht:P.underlying t=some (.slice e)) (hu:P.underlying u=some (.int k)) (hi:P.info? e=some i) (hz:i.zero=some x)
  (hsize:i.size=1) (hby:i.bytes=8) (v:Value) (n:Nat) (xs:List Value) (hown:w.ownsRow base e 1 v n xs):
  (Builtin.append_ #[t,u] ty #[v, .int .i64 0]).run P w= .ok v w:=by
 have hwr:IntKind.i64.wrap 0=0:=by decide
 rcases hown.2 with ⟨rfl,rfl⟩|⟨g,cap,cur,rfl,hbg,hg,hnc,hcm,hcs,htake⟩
 ·simp [Builtin.append_,run_underlying ht,run_underlying hu,sizeOf,typeInfo,hi,hsize,hby,asInt,asIntOf,hwr]
 ·have hn:n≤cap:=hnc
  simp [Builtin.append_,run_underlying ht,run_underlying hu,sizeOf,typeInfo,hi,hsize,hby,asInt,asIntOf,hwr,hn,storeCells]
theorem zWJ {P:Program} {w:World} {ops:Array Oper} {rest:List Oper} {o:Oper} {a:Act} {Q:Exit→Act→World→Prop} (hgd:o.guard=none) (s y:Operand) (t u:TypeId)
  (ho:o.op= .call { callee:= .builtin .append,args:= #[s,y],argTypes:= #[t,u] })
  (base:Nat) (e:TypeId) (k:IntKind) (i:TypeInfo) (x:Value) (ht:P.underlying t=some (.slice e)) (hu:P.underlying u=some (.int k)) (hi:P.info? e=some i) (hz:i.zero=some x)
  (hsize:i.size=1) (hby:i.bytes=8) (hx:x.cells= #[x]) (hx1:x.oneCell'=true)
  (v:Value) (n:Nat) (xs:List Value) (hs:a.eval s=v) (hown:w.ownsRow base e 1 v n xs) (m:Nat) (hy:a.eval y= .int .i64 m)
  (h63:n+m≤8796093022208) (hbase:base≤w.heap.size)
  (h: ∀v' w',w'.ownsRow base e 1 v' (n+m) (xs ++ List.replicate m x)→w.grownBy w' v.ownBlock→wpList P ops Q rest (a.put o.dst v') w'):wpList P ops Q (o :: rest) a w:=by
 refine wpList_plain hgd fun K hK=>?_
 have key: ∃v' w',(Builtin.append_ #[t,u] o.type #[v, .int .i64 m]).run P w= .ok v' w'∧w'.ownsRow base e 1 v' (n+m) (xs ++ List.replicate m x)∧w.grownBy w' v.ownBlock:=by
  rcases Nat.eq_zero_or_pos m with h0|h0
  ·subst h0
   refine ⟨v,w,zS4 (P:=P) base t u o.type e k i x ht hu hi hz hsize hby v n xs hown,?_,⟨rfl,rfl,rfl,Nat.le_refl _,fun _ _ _=>rfl⟩⟩
   simpa using hown
  ·exact zS5 (P:=P) base t u o.type e k i x ht hu hi hz hsize hby hx hx1 v n xs hown m h0 h63 hbase
 obtain ⟨v',w',hr,h2,h3⟩:=key
 unfold Oper.wp
 simp [execOp,ho,resolve,invoke,builtin,hs,hy,hr,Result.andThen]
 exact hK _ _ (h v' w' h2 h3)
end Go.Proofs.YtmalmijdjhkklaaGreat