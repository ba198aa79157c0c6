/- What the types of the laws' arguments give: sources of fields. -/
import Derived.Test.YtmalmijdjhkklaaGreatW14
import Derived.Deep.Slices
import Derived.SizedLaws
import Derived.Carry
import Derived.KernelRfl
import Derived.Test.YtmalmijdjhkklaaGreatW25
set_option linter.unusedVariables false
set_option linter.unusedSimpArgs false
set_option linter.unusedSectionVars false
namespace Go.Proofs.YtmalmijdjhkklaaGreat
section
open Go.RowKit Go.ChangeShapes Go.WideShapes
theorem zKL {α:Type} {l:List α} (h:l.length=2): ∃a b,l= [a,b]:=by
 match l,h with
 | [a,b],_=>exact ⟨a,b,rfl⟩
theorem zKM {α:Type} {l:List α} (h:l.length=3): ∃a b c,l= [a,b,c]:=by
 match l,h with
 | [a,b,c],_=>exact ⟨a,b,c,rfl⟩
theorem list4 {α:Type} {l:List α} (h:l.length=4): ∃a b c d,l= [a,b,c,d]:=by
 match l,h with
 | [a,b,c,d],_=>exact ⟨a,b,c,d,rfl⟩
theorem zKO {α:Type} {p:Nat→α→Prop} (n:Nat) (h: ∀i,i<n→ ∃x,p i x): ∃l:List α,l.length=n∧ ∀(i:Nat) (x:α),l[i]? =some x→p i x:=by
 induction n with
 | zero=>exact ⟨[],rfl,fun i x h=>by simp at h⟩
 | succ n ih=>
  obtain ⟨l,hl,hp⟩:=ih (fun i hi=>h i (by omega))
  obtain ⟨x,hx⟩:=h n (by omega)
  refine ⟨l ++ [x],by simp [hl],fun i y hy=>?_⟩
  by_cases e:i<l.length
  ·rw [List.getElem?_append_left e] at hy
   exact hp i y hy
  ·rw [List.getElem?_append_right (by omega)] at hy
   by_cases e2:i=l.length
   ·subst e2
    simp at hy
    subst hy
    rw [hl];exact hx
   ·rw [List.getElem?_eq_none (by simp;omega)] at hy
    cases hy
theorem zIw {α:Type} (l:List α) (i:Nat) (d x:α) (h:l[i]? =some x):l.getD i d=x:=by rw [List.getD_eq_getElem?_getD,h];rfl
theorem addr_add {a:Addr} (h:a.spot=none) (n:Nat):a.add n=⟨a.block,a.off+n,none⟩:=by
 unfold Addr.add
 split
 ·rename_i e;subst e;cases a;simp at h;subst h;rfl
 ·rfl
theorem weightsAll_mem {H:Type} {P:Program} {e:TypeId} {l:List (DataW H)} {d:DataW H} (h:d ∈ l) {k:Nat} (hk:k ∈ d.weights P e):k ∈ DataW.weightsAll P e l:=by
 induction l with
 | nil=>cases h
 | cons x t ih=>
  simp only [DataW.weightsAll,List.mem_append]
  rcases List.mem_cons.1 h with rfl|h
  ·exact .inl hk
  ·exact .inr (ih h)
theorem zIY {n:Int} (h:(Lit.int .i64 n).wf=true): -9223372036854775808≤n∧n≤9223372036854775807:=by
 simpa [Lit.wf,IntKind.min,IntKind.max,IntKind.signed,IntKind.bits] using h
theorem zVI {n:Int} (h:(Lit.int .u64 n).wf=true):0≤n∧n≤18446744073709551615:=by
 simpa [Lit.wf,IntKind.min,IntKind.max,IntKind.signed,IntKind.bits] using h
theorem reach_eq:reachBytes=140737488351232:=by decide
theorem zD0:Tryz.prog.cellsOf 152=2:=by kernel_rfl
theorem zDw:Tryz.prog.cellsOf 141=3:=by kernel_rfl
theorem zD3:Tryz.prog.cellsOf 25=4:=by kernel_rfl
theorem zD5:Tryz.prog.cellsOf 22=1:=by kernel_rfl
theorem zDy:Tryz.prog.cellsOf 3=1:=by kernel_rfl
theorem zD1:Tryz.prog.cellsOf 139=1:=by kernel_rfl
theorem zDx:Tryz.prog.cellsOf 23=1:=by kernel_rfl
theorem zCN:Tryz.prog.bytesOf 152=16:=by kernel_rfl
theorem zCL:Tryz.prog.bytesOf 141=40:=by kernel_rfl
section
variable {H:Type} {enc:TypeId×Value→H} {w:World}
theorem zNm {n:Nat} {cs:List Value} {y:DataW H×List MemPlace} (h:DataW.trod enc Tryz.prog w 0 (fun _=>true) true n 152 cs=some y):
  ∃q e:Int,cs= [.int .u64 q, .int .i64 e]∧0≤q∧q≤18446744073709551615∧ -9223372036854775808≤e∧e≤9223372036854775807:=by
 obtain ⟨xs,m,_,_,hlen,hxl,hf⟩:=DataW.trod_struct Tryz.underlying152 h
 rw [zD0] at hlen
 obtain ⟨c0,c1,rfl⟩:=zKL hlen
 have h0:=hf 0 _ rfl
 have h1:=hf 1 _ rfl
 obtain ⟨x0,x1,rfl⟩:=zKL (show xs.length=2 from hxl)
 simp [zD5,zDy] at h0 h1
 obtain ⟨q,hq,_,wq⟩:=DataW.trod_int Tryz.underlying22 h0
 obtain ⟨e,he,_,we⟩:=DataW.trod_int Tryz.underlying3 h1
 simp at hq he
 subst hq;subst he
 exact ⟨q,e,rfl,(zVI wq).1,(zVI wq).2,(zIY we).1,(zIY we).2⟩
theorem zNn {n:Nat} {cs:List Value} {y:DataW H×List MemPlace} (h:DataW.trod enc Tryz.prog w 0 (fun _=>true) true n 139 cs=some y)
  (hw: ∀k ∈ y.1.weights Tryz.prog 139,k≤reachBytes):
  ∃A c fs,cs= [.slice A fs.length c]∧fs.length≤8796093022208∧RdPI w w.heap.size A fs∧ ∀x ∈ fs,0≤x.1∧x.1≤18446744073709551615∧ -9223372036854775808≤x.2∧x.2≤9223372036854775807:=by
 rcases Go.Deep.open_slice Tryz.underlying139 h with ⟨rfl,rfl⟩|⟨a,len,cap,m,n',D,Pl,rfl,hb,hl,hm,hmm,rfl,hi⟩
 ·exact ⟨none,0,[],rfl,by simp,fun h=>by simp at h,fun x hx=>by simp at hx⟩
 ·have hmc:m=cap:=by simpa using hmm
  subst hmc
  have hsz:m*16≤reachBytes:=by
   refine hw _ ?_
   simp only [DataW.weights,Tryz.underlying139,zCN]
   simp only [List.length_map,List.length_range,List.mem_cons]
   left;congr 1;omega
  rw [reach_eq] at hsz
  have hel: ∀i,i<len→ ∃x:Int×Int,w.cell? (a.add (i*2))=some (.int .u64 x.1)∧w.cell? ((a.add (i*2)).add 1)=some (.int .i64 x.2)∧0≤x.1∧x.1≤18446744073709551615∧ -9223372036854775808≤x.2∧x.2≤9223372036854775807:=fun i hil=>by
   obtain ⟨cs',hc,ht⟩:=hi i (by omega)
   rw [zD0] at hc
   obtain ⟨_,hcl,hat⟩:=World.cells?_some hc
   obtain ⟨q,e,rfl,b⟩:=zNm ht
   have a0:=hat 0 (by omega)
   have a1:=hat 1 (by omega)
   have e0:(a.add (i*2)).add 0=a.add (i*2):=by simp [Addr.add]
   rw [e0] at a0
   exact ⟨(q,e),a0,a1,b⟩
  obtain ⟨fs,hfl,hfs⟩:=zKO len hel
  refine ⟨some a,m,fs,by rw [hfl],by omega,fun hpos=>?_,fun x hx=>?_⟩
  ·have h0:=(hfs 0 fs[0] (List.getElem?_eq_getElem hpos)).1
   rw [Nat.zero_mul] at h0
   have e0:a.add 0=a:=by simp [Addr.add]
   rw [e0] at h0
   have hs:=World.cell?_spot h0
   have hblk:=World.block_lt_of_cell? w _ h0
   refine ⟨a.block,a.off,by cases a;simp at hs;subst hs;rfl,hblk,fun j hj=>?_⟩
   obtain ⟨c0,c1,_⟩:=hfs j fs[j] (List.getElem?_eq_getElem hj)
   rw [addr_add hs] at c0 c1
   rw [addr_add rfl] at c1
   rw [zIw fs j (0,0) fs[j] (List.getElem?_eq_getElem hj)]
   exact ⟨c0,c1⟩
  ·obtain ⟨j,hj,rfl⟩:=List.getElem_of_mem hx
   exact (hfs j fs[j] (List.getElem?_eq_getElem hj)).2.2
theorem zNi {n:Nat} {cs:List Value} {y:DataW H×List MemPlace} (h:DataW.trod enc Tryz.prog w 0 (fun _=>true) true n 141 cs=some y)
  (hw: ∀k ∈ y.1.weights Tryz.prog 141,k≤reachBytes):
  ∃(e:Ent) (A:Option Addr) (c:Nat),cs= [.int .u64 e.p, .int .u64 e.g, .slice A e.fs.length c]∧zAm e∧RdPI w w.heap.size A e.fs:=by
 obtain ⟨xs,m,_,rfl,hlen,hxl,hf⟩:=DataW.trod_struct Tryz.underlying141 h
 rw [zDw] at hlen
 obtain ⟨c0,c1,c2,rfl⟩:=zKM hlen
 have h0:=hf 0 _ rfl
 have h1:=hf 1 _ rfl
 have h2:=hf 2 _ rfl
 obtain ⟨x0,x1,x2,rfl⟩:=zKM (show xs.length=3 from hxl)
 simp [zD5,zD1] at h0 h1 h2
 obtain ⟨q,hq,_,wq⟩:=DataW.trod_int Tryz.underlying22 h0
 obtain ⟨g,hg,_,wg⟩:=DataW.trod_int Tryz.underlying22 h1
 obtain ⟨A,c,fs,hc,hfl,hR,hB⟩:=zNn h2 (fun k hk=>hw k (by
  simp only [DataW.weights,Tryz.underlying141,List.map_cons,List.map_nil,DataW.weightsEach,List.mem_append]
  exact .inr (.inr (.inl hk))))
 simp at hq hg hc
 subst hq;subst hg;subst hc
 exact ⟨⟨q,g,fs⟩,A,c,rfl,⟨(zVI wq).1,(zVI wq).2,(zVI wg).1,(zVI wg).2,hfl,hB⟩,hR⟩
theorem zNj {n:Nat} {cs:List Value} {y:DataW H×List MemPlace} (h:DataW.trod enc Tryz.prog w 0 (fun _=>true) true n 23 cs=some y)
  (hw: ∀k ∈ y.1.weights Tryz.prog 23,k≤reachBytes):
  ∃A c es,cs= [.slice A es.length c]∧es.length≤140737488351232∧es.length≤c∧RdE w w.heap.size A es∧ ∀e ∈ es,zAm e:=by
 rcases Go.Deep.open_slice Tryz.underlying23 h with ⟨rfl,rfl⟩|⟨a,len,cap,m,n',D,Pl,rfl,hb,hl,hm,hmm,rfl,hi⟩
 ·exact ⟨none,0,[],rfl,by simp,by simp,fun h=>by simp at h,fun x hx=>by simp at hx⟩
 ·have hmc:m=cap:=by simpa using hmm
  subst hmc
  have hsz:m*40≤reachBytes:=by
   refine hw _ ?_
   simp only [DataW.weights,Tryz.underlying23,zCL]
   simp only [List.length_map,List.length_range,List.mem_cons]
   left;congr 1;omega
  rw [reach_eq] at hsz
  have hel: ∀i,i<len→ ∃x:Ent×Option Addr×Nat,w.cell? (a.add (i*3))=some (.int .u64 x.1.p)∧w.cell? ((a.add (i*3)).add 1)=some (.int .u64 x.1.g)∧w.cell? ((a.add (i*3)).add 2)=some (.slice x.2.1 x.1.fs.length x.2.2)∧
    zAm x.1∧RdPI w w.heap.size x.2.1 x.1.fs:=fun i hil=>by
   obtain ⟨cs',hc,ht⟩:=hi i (by omega)
   rw [zDw] at hc
   obtain ⟨_,hcl,hat⟩:=World.cells?_some hc
   obtain ⟨e,A,c,rfl,hok,hR⟩:=zNi ht (fun k hk=>hw k (by
    simp only [DataW.weights,Tryz.underlying23,List.mem_cons,List.mem_append]
    exact .inr (.inl (weightsAll_mem (List.mem_map.2 ⟨i,List.mem_range.2 hil,rfl⟩) hk))))
   have a0:=hat 0 (by omega)
   have a1:=hat 1 (by omega)
   have a2:=hat 2 (by omega)
   have e0:(a.add (i*3)).add 0=a.add (i*3):=by simp [Addr.add]
   rw [e0] at a0
   exact ⟨(e,A,c),a0,a1,a2,hok,hR⟩
  obtain ⟨l,hll,hls⟩:=zKO len hel
  refine ⟨some a,m,l.map (·.1),by simp [hll],by simp;omega,by simp;omega,fun hpos=>?_,fun x hx=>?_⟩
  ·have hpos':0<l.length:=by simpa using hpos
   have h0:=(hls 0 l[0] (List.getElem?_eq_getElem hpos')).1
   rw [Nat.zero_mul] at h0
   have e0:a.add 0=a:=by simp [Addr.add]
   rw [e0] at h0
   have hs:=World.cell?_spot h0
   have hblk:=World.block_lt_of_cell? w _ h0
   refine ⟨a.block,a.off,by cases a;simp at hs;subst hs;rfl,hblk,fun j hj=>?_⟩
   have hj':j<l.length:=by simpa using hj
   obtain ⟨c0,c1,c2,hok,hR⟩:=hls j l[j] (List.getElem?_eq_getElem hj')
   rw [addr_add hs] at c0 c1 c2
   rw [addr_add rfl] at c1 c2
   rw [zIw (l.map (·.1)) j Ent.none l[j].1 (by simp [List.getElem?_eq_getElem hj'])]
   exact ⟨_,_,c0,c1,c2,hR⟩
  ·obtain ⟨z,hz,rfl⟩:=List.mem_map.1 hx
   obtain ⟨j,hj,rfl⟩:=List.getElem_of_mem hz
   exact (hls j l[j] (List.getElem?_eq_getElem hj)).2.2.2.1
def zAQ (w:World) (cs:List Value):Prop:= ∃(kind kk p:Int) (A:Option Addr) (c:Nat) (es:List Ent),cs= [.int .i64 kind, .int .i64 kk, .int .u64 p, .slice A es.length c]∧
 (-9223372036854775808≤kind∧kind≤9223372036854775807)∧(-9223372036854775808≤kk∧kk≤9223372036854775807)∧0≤p∧p≤18446744073709551615∧es.length≤140737488351232∧es.length≤c∧RdE w w.heap.size A es∧ ∀e ∈ es,zAm e
theorem zNo {n:Nat} {cs:List Value} {y:DataW H×List MemPlace} (h:DataW.trod enc Tryz.prog w 0 (fun _=>true) true n 25 cs=some y)
  (hw: ∀k ∈ y.1.weights Tryz.prog 25,k≤reachBytes):zAQ w cs:=by
 obtain ⟨xs,m,_,rfl,hlen,hxl,hf⟩:=DataW.trod_struct Tryz.underlying25 h
 rw [zD3] at hlen
 obtain ⟨c0,c1,c2,c3,rfl⟩:=list4 hlen
 have h0:=hf 0 _ rfl
 have h1:=hf 1 _ rfl
 have h2:=hf 2 _ rfl
 have h3:=hf 3 _ rfl
 obtain ⟨x0,x1,x2,x3,rfl⟩:=list4 (show xs.length=4 from hxl)
 simp [zD5,zDy,zDx] at h0 h1 h2 h3
 obtain ⟨kind,e0,_,w0⟩:=DataW.trod_int Tryz.underlying3 h0
 obtain ⟨kk,e1,_,w1⟩:=DataW.trod_int Tryz.underlying3 h1
 obtain ⟨p,e2,_,w2⟩:=DataW.trod_int Tryz.underlying22 h2
 obtain ⟨A,c,es,e3,hl1,hl2,hR,hE⟩:=zNj h3 (fun k hk=>hw k (by
  simp only [DataW.weights,Tryz.underlying25,List.map_cons,List.map_nil,DataW.weightsEach,List.mem_append]
  exact .inr (.inr (.inr (.inl hk)))))
 simp at e0 e1 e2 e3
 subst e0;subst e1;subst e2;subst e3
 exact ⟨kind,kk,p,A,c,es,rfl,zIY w0,zIY w1,(zVI w2).1,(zVI w2).2,hl1,hl2,hR,hE⟩
end
end

section
open Go.RowKit Go.ChangeShapes Go.WideShapes
theorem zCO:Tryz.prog.bytesOf 22=8:=by kernel_rfl
section
variable {H:Type} {enc:TypeId×Value→H} {w:World}
theorem zNq {n:Nat} {cs:List Value} {y:DataW H×List MemPlace} (h:DataW.trod enc Tryz.prog w 0 (fun _=>true) true n 54 cs=some y)
  (hw: ∀k ∈ y.1.weights Tryz.prog 54,k≤reachBytes):
  ∃A c L,cs= [.slice A L.length c]∧L.length≤140737488351232∧RdI w w.heap.size .u64 A L∧U64s L∧(A=none→c=0):=by
 rcases Go.Deep.open_slice Tryz.underlying54 h with ⟨rfl,rfl⟩|⟨a,len,cap,m,n',D,Pl,rfl,hb,hl,hm,hmm,rfl,hi⟩
 ·exact ⟨none,0,[],rfl,by simp,fun h=>by simp at h,fun x hx=>by simp at hx,fun _=>rfl⟩
 ·have hmc:m=cap:=by simpa using hmm
  subst hmc
  have hsz:m*8≤reachBytes:=by
   refine hw _ ?_
   simp only [DataW.weights,Tryz.underlying54,zCO]
   simp only [List.length_map,List.length_range,List.mem_cons]
   left;congr 1;omega
  rw [reach_eq] at hsz
  have hel: ∀i,i<len→ ∃x:Int,w.cell? (a.add i)=some (.int .u64 x)∧0≤x∧x≤18446744073709551615:=fun i hil=>by
   obtain ⟨cs',hc,ht⟩:=hi i (by omega)
   rw [zD5,Nat.mul_one] at hc
   obtain ⟨_,hcl,hat⟩:=World.cells?_some hc
   obtain ⟨x,hx,_,wx⟩:=DataW.trod_int Tryz.underlying22 ht
   subst hx
   have a0:=hat 0 (by omega)
   have e0:(a.add i).add 0=a.add i:=by simp [Addr.add]
   rw [e0] at a0
   exact ⟨x,a0,(zVI wx).1,(zVI wx).2⟩
  obtain ⟨L,hfl,hfs⟩:=zKO len hel
  refine ⟨some a,m,L,by rw [hfl],by omega,fun hpos=>?_,fun x hx=>?_,fun h=>by cases h⟩
  ·have h0:=(hfs 0 L[0] (List.getElem?_eq_getElem hpos)).1
   have e0:a.add 0=a:=by simp [Addr.add]
   rw [e0] at h0
   have hs:=World.cell?_spot h0
   have hblk:=World.block_lt_of_cell? w _ h0
   refine ⟨a.block,a.off,by cases a;simp at hs;subst hs;rfl,hblk,fun j hj=>?_⟩
   have c0:=(hfs j L[j] (List.getElem?_eq_getElem hj)).1
   rw [addr_add hs] at c0
   rw [zIw L j 0 L[j] (List.getElem?_eq_getElem hj)]
   exact c0
  ·obtain ⟨j,hj,rfl⟩:=List.getElem_of_mem hx
   exact (hfs j L[j] (List.getElem?_eq_getElem hj)).2
end
end
end Go.Proofs.YtmalmijdjhkklaaGreat
