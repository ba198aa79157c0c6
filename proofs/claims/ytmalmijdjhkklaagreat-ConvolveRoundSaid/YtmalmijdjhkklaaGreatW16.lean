/- Maps of entries at uint64 keys: their laws, with no owner. -/
import Derived.Test.YtmalmijdjhkklaaGreatW14
import Derived.Laws.IdiomRangeMap
import Derived.Test.YtmalmijdjhkklaaGreatW5
set_option linter.unusedVariables false
set_option linter.unusedSimpArgs false
set_option maxRecDepth 100000
set_option maxHeartbeats 16000000
namespace Go.Proofs.YtmalmijdjhkklaaGreat
open Go.RowKit
section
structure But (bm:Nat) (w w':World):Prop where
 os:w'.os=w.os
 tape:w'.tape=w.tape
 output:w'.output=w.output
 size:w.heap.size≤w'.heap.size
 block: ∀k,k<w.heap.size→k≠bm→w'.heap[k]? =w.heap[k]?
theorem But.refl (bm:Nat) (w:World):But bm w w:=⟨rfl,rfl,rfl,Nat.le_refl _,fun _ _ _=>rfl⟩
theorem But.trans {bm:Nat} {a b c:World} (h:But bm a b) (k:But bm b c):But bm a c:=
 ⟨k.os.trans h.os,k.tape.trans h.tape,k.output.trans h.output,Nat.le_trans h.size k.size,fun i hi hn=>(k.block i (Nat.lt_of_lt_of_le hi h.size) hn).trans (h.block i hi hn)⟩
theorem But.of_below {bm:Nat} {w w':World} (h:Below w.heap.size w w'):But bm w w':=⟨h.os,h.tape,h.output,h.size,fun k hk _=>h.block k hk⟩
theorem But.below {B bm:Nat} {w w':World} (h:But bm w w') (hB:B≤w.heap.size) (hb:B≤bm):Below B w w':=⟨h.os,h.tape,h.output,h.size,fun k hk=>h.block k (by omega) (by omega)⟩
theorem But.cell {bm b o:Nat} {w w':World} {v:Value} (h:But bm w w') (hb:b<w.heap.size) (hn:b≠bm) (hc:w.cell? ⟨b,o,none⟩=some v):w'.cell? ⟨b,o,none⟩=some v:=by
 rw [←hc]
 simp only [World.cell?,h.block b hb hn]
theorem zM2 {w:World} {bm o:Nat} {ms:Array MapEntry} {clock:Nat} {v:Value} (h:w.heap[bm]? =some (.map ms clock)):w.cell? ⟨bm,o,none⟩≠some v:=by
 simp [World.cell?,h]
theorem RdPI.but {w w':World} {B bm:Nat} {A:Option Addr} {fs:List (Int×Int)} {ms:Array MapEntry} {clock:Nat} (h:RdPI w B A fs) (hB:B≤w.heap.size) (hm:w.heap[bm]? =some (.map ms clock)) (hb:But bm w w'):RdPI w' B A fs:=fun hl=>by
 obtain ⟨b,o,e,hlt,hc⟩:=h hl
 have hn:b≠bm:=fun hx=>by subst hx;exact zM2 hm (hc 0 hl).1
 exact ⟨b,o,e,hlt,fun j hj=>⟨hb.cell (by omega) hn (hc j hj).1,hb.cell (by omega) hn (hc j hj).2⟩⟩
def zGl (e:Ent) (A:Option Addr) (c:Nat):Value:= .agg #[.int .u64 e.p, .int .u64 e.g, .slice A e.fs.length c]
def MapE (w:World) (bm:Nat) (es:List Ent):Prop:=
 ∃ms clock,w.heap[bm]? =some (.map ms clock)∧MapKept.Stamped ms clock∧ms.size=es.length∧
  ∀i,i<es.length→ ∃x A c,ms[i]? =some x∧x.key= .int .u64 (es.getD i Ent.none).p∧x.val=zGl (es.getD i Ent.none) A c∧RdPI w w.heap.size A (es.getD i Ent.none).fs
theorem MapE.lt {w:World} {bm:Nat} {es:List Ent} (h:MapE w bm es):bm<w.heap.size:=by
 obtain ⟨ms,clock,hm,_⟩:=h
 exact (Array.getElem?_eq_some_iff.1 hm).1
theorem MapE.below {w w':World} {bm:Nat} {es:List Ent} (h:MapE w bm es) (hb:Below w.heap.size w w'):MapE w' bm es:=by
 have hl:=h.lt
 obtain ⟨ms,clock,hm,hs,hz,hx⟩:=h
 refine ⟨ms,clock,(hb.block bm hl).trans hm,hs,hz,fun i hi=>?_⟩
 obtain ⟨x,A,c,a1,a2,a3,a4⟩:=hx i hi
 exact ⟨x,A,c,a1,a2,a3,(a4.below hb).mono hb.size⟩
theorem zLx {w:World} {es:List Ent} {ms:Array MapEntry} (hz:ms.size=es.length)
  (hx: ∀i,i<es.length→ ∃x A c,ms[i]? =some x∧x.key= .int .u64 (es.getD i Ent.none).p∧x.val=zGl (es.getD i Ent.none) A c∧RdPI w w.heap.size A (es.getD i Ent.none).fs)
  {x:MapEntry} (h:x ∈ ms.toList): ∃i,i<es.length∧ms[i]? =some x∧x.key= .int .u64 (es.getD i Ent.none).p∧ ∃A c,x.val=zGl (es.getD i Ent.none) A c∧RdPI w w.heap.size A (es.getD i Ent.none).fs:=by
 obtain ⟨i,hi,rfl⟩:=List.getElem_of_mem h
 have hi':i<es.length:=by rw [←hz];simpa using hi
 obtain ⟨y,A,c,a1,a2,a3,a4⟩:=hx i hi'
 have:ms[i]? =some (ms.toList[i]):=by
  rw [Array.getElem?_eq_getElem (by simpa using hi)];simp
 rw [this] at a1
 injection a1 with a1
 exact ⟨i,hi',this,by rw [a1];exact a2,A,c,by rw [a1];exact a3,a4⟩
theorem zVO:Tryz.prog.underlying 199=some (.map 22 115):=by kernel_rfl
theorem zVQ:Tryz.prog.underlying 22=some (.int .u64):=by kernel_rfl
def zeroE:Value:= .agg #[.int .u64 0, .int .u64 0, .slice none 0 0]
theorem zLw {w:World} {bm:Nat} {es:List Ent} (h:MapE w bm es) (q:Int):
  ((∀e ∈ es,e.p≠q)∧(Instr.lookup 199 (.map (some bm)) (.int .u64 q) true).run Tryz.prog w= .ok (.tuple #[zeroE, .bool false]) w)∨
  (∃i A c,i<es.length∧(es.getD i Ent.none).p=q∧RdPI w w.heap.size A (es.getD i Ent.none).fs∧
   (Instr.lookup 199 (.map (some bm)) (.int .u64 q) true).run Tryz.prog w= .ok (.tuple #[zGl (es.getD i Ent.none) A c, .bool true]) w∧
   (Instr.lookup 199 (.map (some bm)) (.int .u64 q) false).run Tryz.prog w= .ok (zGl (es.getD i Ent.none) A c) w):=by
 obtain ⟨ms,clock,hm,hs,hz,hx⟩:=h
 have hk:MapKept.IsKey (.int .u64) (.int .u64 q):=rfl
 have hks: ∀x ∈ ms.toList,MapKept.IsKey (.int .u64) x.key:=fun x h=>by
  obtain ⟨i,_,_,e,_⟩:=zLx hz hx h
  rw [e];rfl
 rcases MapKept.findNow_spec hk ms.toList 0 hks with ⟨h1,h2⟩|⟨j,e,h1,h2,h3⟩
 ·refine .inl ⟨fun e he hq=>?_,by simp [Instr.lookup,run_underlying zVO,MapKept.run_getObj_map hm,MapKept.run_checkKey zVQ hk,MapKept.run_findKey zVQ h1,zeroE,Result.andThen]⟩
  obtain ⟨i,hi,rfl⟩:=List.getElem_of_mem he
  obtain ⟨x,A,c,a1,a2,_⟩:=hx i hi
  have hxm:x ∈ ms.toList:=by
   rw [Array.getElem?_eq_some_iff] at a1
   obtain ⟨h,rfl⟩:=a1
   exact Array.getElem_mem_toList h
  refine h2 x hxm ?_
  rw [a2,←hq]
  simp [List.getD_eq_getElem?_getD,List.getElem?_eq_getElem hi]
 ·have hmem:=List.mem_of_getElem? h2
  obtain ⟨i,hi,a1,a2,A,c,a3,a4⟩:=zLx hz hx hmem
  rw [h3] at a2
  injection a2 with _ a2
  exact .inr ⟨i,A,c,hi,a2.symm,a4,
   by simp [Instr.lookup,run_underlying zVO,MapKept.run_getObj_map hm,MapKept.run_checkKey zVQ hk,MapKept.run_findKey zVQ h1,Result.andThen,a3],
   by simp [Instr.lookup,run_underlying zVO,MapKept.run_getObj_map hm,MapKept.run_checkKey zVQ hk,MapKept.run_findKey zVQ h1,Result.andThen,a3]⟩
theorem zLv {w:World} {bm:Nat} {es:List Ent} (h:MapE w bm es) (e0:Ent) (A0:Option Addr) (c0:Nat) (hn: ∀e ∈ es,e.p≠e0.p) (hR:RdPI w w.heap.size A0 e0.fs):
  ∃w',(Instr.mapUpdate 199 (.map (some bm)) (.int .u64 e0.p) (zGl e0 A0 c0)).run Tryz.prog w= .ok () w'∧MapE w' bm (es ++ [e0])∧But bm w w':=by
 obtain ⟨ms,clock,hm,hs,hz,hx⟩:=h
 have hk:MapKept.IsKey (.int .u64) (.int .u64 e0.p):=rfl
 have hks: ∀x ∈ ms.toList,MapKept.IsKey (.int .u64) x.key:=fun x h=>by
  obtain ⟨i,_,_,e,_⟩:=zLx hz hx h
  rw [e];rfl
 rcases MapKept.findNow_spec hk ms.toList 0 hks with ⟨h1,h2⟩|⟨j,e,h1,h2,h3⟩
 ·have hB:But bm w { w with heap:=w.heap.setIfInBounds bm (.map (ms.push ⟨.int .u64 e0.p,zGl e0 A0 c0,clock⟩) (clock+1)) }:=
   ⟨rfl,rfl,rfl,by simp,fun k _ hne=>(MapKept.heap_set hm).2 k hne⟩
  refine ⟨_,by simp [Instr.mapUpdate,run_underlying zVO,MapKept.run_getObj_map hm,MapKept.run_checkKey zVQ hk,MapKept.run_findKey zVQ h1,MapKept.run_setObj_map _ hm,Result.andThen],?_,hB⟩
  refine ⟨_,_,(MapKept.heap_set hm).1,MapKept.stamped_push hs h2,by simp [hz],fun i hi=>?_⟩
  rw [List.length_append,List.length_singleton] at hi
  rcases Nat.lt_or_ge i es.length with hl|hl
  ·obtain ⟨x,A,c,a1,a2,a3,a4⟩:=hx i hl
   have e1:(es ++ [e0]).getD i Ent.none=es.getD i Ent.none:=by simp [List.getD_eq_getElem?_getD,List.getElem?_append_left hl]
   rw [e1]
   refine ⟨x,A,c,?_,a2,a3,(a4.but (Nat.le_refl _) hm hB).mono hB.size⟩
   rw [Array.getElem?_push_lt (by omega),←a1,Array.getElem?_eq_getElem (by omega)]
  ·have:i=es.length:=by omega
   subst this
   have e1:(es ++ [e0]).getD es.length Ent.none=e0:=by simp [List.getD_eq_getElem?_getD]
   rw [e1]
   refine ⟨_,A0,c0,by rw [←hz];exact Array.getElem?_push_size,rfl,rfl,(hR.but (Nat.le_refl _) hm hB).mono hB.size⟩
 ·have hmem:=List.mem_of_getElem? h2
  obtain ⟨i,hi,a1,a2,_⟩:=zLx hz hx hmem
  rw [h3] at a2
  injection a2 with _ a2
  refine absurd a2.symm (hn _ ?_)
  simp [List.getD_eq_getElem?_getD,List.getElem?_eq_getElem hi]
end

section
open Alg
def zAv (e:Ent):Prop:= ∃(q g:Nat) (fs:List (Nat×Nat)),e=⟨q,g,upP fs⟩∧Prime q∧3≤q∧q≤65536∧IsGen q g∧IsFac (q-1) fs
def Clo (es:List Ent) (e:Ent):Prop:= ∀x ∈ e.fs,x.1=2∨ ∃e' ∈ es,e'.p=x.1
theorem Clo.more {es:List Ent} {e:Ent} (h:Clo es e) (M:List Ent):Clo (es ++ M) e:=fun x hx=>by
 rcases h x hx with h|⟨e',he,hp⟩
 ·exact .inl h
 ·exact .inr ⟨e',List.mem_append_left _ he,hp⟩
structure zAs (p:Nat) (es N:List Ent):Prop where
 has:p=2∨ ∃e ∈ es ++ N,e.p=p
 each: ∀e ∈ N,zAv e∧Clo (es ++ N) e∧e.p≤p
 few: ∀f,cnt f p<99→N.length≤cnt f p
def zAt (p:Nat) (bm:Nat) (es:List Ent) (w:World) (r:Ending) (w':World):Prop:=
 ∃N,r= .returned (.tuple #[])∧MapE w' bm (es ++ N)∧But bm w w'∧zAs p es N
theorem zAt.nil {p bm:Nat} {es:List Ent} {w w':World} (hm:MapE w bm es) (hB:Below w.heap.size w w') (h:p=2∨ ∃e ∈ es,e.p=p):zAt p bm es w (.returned (.tuple #[])) w':=
 ⟨[],rfl,by rw [List.append_nil];exact hm.below hB,But.of_below hB,by rw [List.append_nil];exact h,by simp,by simp⟩
structure GJ (p bm:Nat) (es:List Ent) (ep:Ent) (fs:List (Nat×Nat)) (A:Option Addr) (k:Nat) (w wr:World) (N:List Ent):Prop where
 map:MapE wr bm ((es ++ [ep]) ++ N)
 but:But bm w wr
 rd:RdPI wr wr.heap.size A (upP fs)
 done: ∀x ∈ fs.take k,x.1=2∨ ∃e ∈ (es ++ [ep]) ++ N,e.p=x.1
 each: ∀e ∈ N,zAv e∧Clo ((es ++ [ep]) ++ N) e∧e.p≤p
 few: ∀f,(∀x ∈ fs.take k,cnt f x.1<99)→N.length≤(((fs.take k).map (·.1)).map (cnt f)).sum
theorem GJ.start {p bm:Nat} {es:List Ent} {ep:Ent} {fs:List (Nat×Nat)} {A:Option Addr} {w wr:World} (hm:MapE wr bm (es ++ [ep])) (hb:But bm w wr) (hr:RdPI wr wr.heap.size A (upP fs)):GJ p bm es ep fs A 0 w wr []:=
 ⟨by rw [List.append_nil];exact hm,hb,hr,by simp,by simp,by simp⟩
theorem GJ.step {p bm:Nat} {es:List Ent} {ep:Ent} {fs:List (Nat×Nat)} {A:Option Addr} {k:Nat} {w wr wc w':World} {N M:List Ent} (h:GJ p bm es ep fs A k w wr N) (hk:k<fs.length) (hB:Below wr.heap.size wr wc)
  (hm:MapE w' bm (((es ++ [ep]) ++ N) ++ M)) (hb:But bm wc w') (hq:(fs.getD k (0,0)).1≤p) (hN:zAs (fs.getD k (0,0)).1 ((es ++ [ep]) ++ N) M):GJ p bm es ep fs A (k+1) w w' (N ++ M):=by
 have hx:fs.getD k (0,0)=fs[k]:=by simp [List.getD_eq_getElem?_getD,List.getElem?_eq_getElem hk]
 rw [hx] at hN hq
 have ht:=List.take_succ_eq_append_getElem hk
 have hap:(es ++ [ep]) ++ (N ++ M)=((es ++ [ep]) ++ N) ++ M:=(List.append_assoc _ _ _).symm
 have hm0:=h.map.below hB
 have hr0:=(h.rd.below hB).mono hB.size
 obtain ⟨ms,clock,hmm,_⟩:=hm0
 refine ⟨by rw [hap];exact hm,h.but.trans ((But.of_below hB).trans hb),(hr0.but (Nat.le_refl _) hmm hb).mono hb.size,?_,?_,?_⟩
 ·intro x hxm
  rw [hap]
  rw [ht,List.mem_append,List.mem_singleton] at hxm
  rcases hxm with hxm|rfl
  ·rcases h.done x hxm with h1|⟨e,he,h1⟩
   ·exact .inl h1
   ·exact .inr ⟨e,List.mem_append_left _ he,h1⟩
  ·rcases hN.has with h1|⟨e,he,h1⟩
   ·exact .inl h1
   ·exact .inr ⟨e,he,h1⟩
 ·intro e he
  rw [hap]
  rcases List.mem_append.1 he with he|he
  ·obtain ⟨a,b,c⟩:=h.each e he
   exact ⟨a,b.more M,c⟩
  ·obtain ⟨a,b,c⟩:=hN.each e he
   exact ⟨a,b,by omega⟩
 ·intro f hf
  rw [ht] at hf ⊢
  have a:=h.few f (fun x hx=>hf x (List.mem_append_left _ hx))
  have b:=hN.few f (hf _ (List.mem_append_right _ (List.mem_singleton.2 rfl)))
  simp only [List.map_append,List.map_cons,List.map_nil,List.sum_append,List.sum_cons,List.sum_nil,List.length_append]
  omega
theorem GJ.end {p g bm:Nat} {es:List Ent} {fs:List (Nat×Nat)} {A:Option Addr} {w wr w':World} {N:List Ent} (h:GJ p bm es ⟨p,g,upP fs⟩ fs A fs.length w wr N) (hB:Below wr.heap.size wr w') (hp:Prime p) (h3:3≤p) (hp6:p≤65536) (hF:IsFac (p-1) fs) (hG:IsGen p g):
  zAt p bm es w (.returned (.tuple #[])) w':=by
 have hap:(es ++ [⟨p,g,upP fs⟩]) ++ N=es ++ (⟨p,g,upP fs⟩ :: N):=by simp
 obtain ⟨hm,hb,_,hd,he,hf⟩:=h
 rw [hap] at hm hd he
 rw [List.take_length] at hd hf
 refine ⟨⟨p,g,upP fs⟩ :: N,rfl,hm.below hB,hb.trans (But.of_below hB), .inr ⟨⟨p,g,upP fs⟩,by simp,rfl⟩,?_,?_⟩
 ·intro e hem
  rcases List.mem_cons.1 hem with rfl|hem
  ·refine ⟨⟨p,g,fs,rfl,hp,h3,hp6,hG,hF⟩,fun x hx=>?_,Int.le_refl _⟩
   obtain ⟨y,hy,rfl⟩:=List.mem_map.1 hx
   rcases hd y hy with h1|h1
   ·exact .inl (by show (y.1:Int)=2;omega)
   ·exact .inr h1
  ·exact he e hem
 ·intro f hc
  cases f with
  | zero=>have h':99<99:=hc;omega
  | succ f=>
   have e1:=cnt_fac h3 hF hc
   have hle: ∀(l:List Nat) (x:Nat),x ∈ l→x≤l.sum:=by
    intro l
    induction l with
    | nil=>intro x hx;cases hx
    | cons a l ih=>
     intro x hx;rw [List.sum_cons];rcases List.mem_cons.1 hx with e|e
     ·omega
     ·have:=ih x e;omega
   have:=hf f (fun x hx=>by
    have:=hle ((fs.map (·.1)).map (cnt f)) (cnt f x.1) (List.mem_map.2 ⟨x.1,List.mem_map.2 ⟨x,hx,rfl⟩,rfl⟩)
    omega)
   rw [List.length_cons]
   omega
theorem zIh (n:Nat): ∀p:Nat,p<n→Prime p→p≤65536→ ∀(w:World) (bm:Nat) (es:List Ent),MapE w bm es→
  Calls Tryz.prog 155 #[.map (some bm), .int .u64 p] w (zAt p bm es w):=by
 induction n with
 | zero=>intro p h;omega
 | succ n ih=>
 intro p hpn hp hp6 w bm es hm
 have hp2:=hp.1
 rcases zLw hm p with ⟨hno,hlk⟩|⟨i,A,c,hi,hip,_,hlk,_⟩
 ·by_cases h2:p=2
  ·have t2:((p:Int) == 2)=true:=by simp [h2]
   have HM:=zy hm
   have H2:=zy h2
   clear hm hno ih h2
   simp only [zeroE] at hlk
   go_enter Tryz.func155,Tryz.ntmps155
   go_wp2
   go_end0
   exact zAt.nil HM.out (((Below.refl _ _).alloc (Nat.le_refl _) _)) (.inl H2.out)
  ·have t2:((p:Int) == 2)=false:=by simp;omega
   have h3:3≤p:=by omega
   have e1:Hid ((p:Int)-1=((p-1:Nat):Int)):=zy (by omega)
   have HM:=zy hm
   have HN:=zy hno
   have IH:=zy ih
   have HP:=zy hp
   clear hm hno ih h2 hp
   simp only [zeroE] at hlk
   go_enter Tryz.func155,Tryz.ntmps155
   go_wp2_with fail
   rw [e1.out]
   refine (zG8 (p-1) _ (by omega) (by omega)).mono ?_
   rintro e w2 ⟨v,fs,rfl,hF,hown,hB⟩
   obtain ⟨A,c,rfl,hR⟩:=zAF.of_own hown
   clear hlk hown
   have hBx:=((Below.refl w.heap.size w).alloc (Nat.le_refl _) (.cells #[.int .u64 0, .int .u64 0, .slice none 0 0] 115)).trans (hB.mono (by simp))
   have HF:=zy hF
   clear hF hB
   go_wp2_with fail
   refine (zIv p _ h3 hp6 HP.out).mono ?_
   rintro e w3 ⟨g,rfl,hG,hB3⟩
   have hB:=hBx.trans (hB3.mono hBx.size)
   have hR3:=(hR.toI.below hB3).mono hB3.size
   have HM3:=HM.out.below hB
   obtain ⟨w4,hup,hm4,hBut⟩:=zLv HM3 ⟨p,g,upP fs⟩ A c HN.out hR3
   simp only [zGl,upP,List.length_map] at hup
   have hlen:fs.length≤32:=by
    have h1:=Alg.len_le HF.out.each (Nat.le_of_eq HF.out.prod)
    have h2:=(Nat.pow_le_pow_iff_right (a:=2) (by omega)).1 (show 2^fs.length≤2^32 by omega)
    omega
   have HJ:Hid (GJ p bm es ⟨p,g,upP fs⟩ fs A 0 w w4 []):=zy (GJ.start hm4 ((But.of_below hB).trans hBut) ((hR3.but (Nat.le_refl _) (HM3.choose_spec.choose_spec.1) hBut).mono hBut.size))
   have HG:=zy hG
   clear hG hR hR3 hm4 HM3 hBx hB hB3 HM
   go_wp2
   clear hup
   go_loopw [32] (fun I wr=> ∃k:Nat,I= .int .i64 k∧k≤fs.length∧ ∃N,GJ p bm es ⟨p,g,upP fs⟩ fs A k w wr N) (fun I _=>fs.length-(intOf I).toNat)
   case atStart=>exact ⟨0,rfl,by omega,[],HJ.out⟩
   case round=>
    obtain ⟨k,rfl,hk,N,hJ⟩:=hrel
    by_cases hlt:k<fs.length
    ·obtain ⟨b,o,rfl,hbl,hc⟩:=hJ.rd (by simpa [upP] using (by omega:0<fs.length))
     obtain ⟨q,hq⟩: ∃q,q=(fs.getD k (0,0)).1:=⟨_,rfl⟩
     obtain ⟨ex,hex⟩: ∃ex,ex=(fs.getD k (0,0)).2:=⟨_,rfl⟩
     have hup:(upP fs).getD k (0,0)=((q:Int),(ex:Int)):=by
      rw [hq,hex];simp [upP,List.getD_eq_getElem?_getD,List.getElem?_eq_getElem hlt]
     have g1:wr.cell? ⟨b,o+k*2,none⟩=some (.int .u64 q):=by rw [(hc k (by simpa [upP] using hlt)).1,hup]
     have g2:wr.cell? ⟨b,o+k*2+1,none⟩=some (.int .i64 ex):=by rw [(hc k (by simpa [upP] using hlt)).2,hup]
     have HJ:=zy hJ
     have HQ:=zy hq
     have hmem:fs.getD k (0,0) ∈ fs:=by
      rw [List.getD_eq_getElem?_getD,List.getElem?_eq_getElem hlt];exact List.getElem_mem hlt
     have hqp:Hid (Prime q):=zy (by rw [hq];exact (HF.out.each _ hmem).1)
     have hqd:q≤p-1:=Nat.le_of_dvd (by omega) (by rw [hq];exact HF.out.dvd hmem)
     have HE:=zy hex
     clear hc hJ hup hq hex hmem
     go_wp2_with fail
     have hWB:Below wr.heap.size wr (wr.alloc (.cells #[.int .u64 q, .int .i64 ex] 153)):=(Below.refl _ _).alloc (Nat.le_refl _) _
     refine (IH.out q (by omega) hqp.out (by omega) _ bm ((es ++ [⟨p,g,upP fs⟩]) ++ N) (HJ.out.map.below hWB)).mono ?_
     rintro e w5 ⟨M,rfl,hm5,hb5,hN5⟩
     have HJ2:Hid (GJ p bm es ⟨p,g,upP fs⟩ fs (some ⟨b,o,none⟩) (k+1) w w5 (N ++ M)):=zy (HJ.out.step hlt hWB hm5 hb5 (by rw [←HQ.out];omega) (by rw [←HQ.out];exact hN5))
     clear hm5 hb5 hN5 HJ hWB g1 g2
     go_wp2
     go_roundw
     case rel=>exact ⟨k+1,by go_num,by omega,N ++ M,HJ2.out⟩
     case measure=>simp [intOf];omega
    ·obtain rfl:k=fs.length:=by omega
     have HJ:=zy hJ
     clear hJ
     go_wp2
     go_end0
     exact GJ.end HJ.out (Below.refl _ _) HP.out h3 hp6 HF.out HG.out
 ·have HM:=zy hm
  have HX:Hid (p=2∨ ∃e ∈ es,e.p=p):=zy (.inr ⟨es.getD i Ent.none,by simp [List.getD_eq_getElem?_getD,List.getElem?_eq_getElem hi],hip⟩)
  simp only [zGl] at hlk
  generalize es.getD i Ent.none=e0 at hlk
  clear hm ih hip hi
  go_enter Tryz.func155,Tryz.ntmps155
  go_wp2
  go_end0
  exact zAt.nil HM.out (((Below.refl _ _).alloc (Nat.le_refl _) _)) HX.out
end
end Go.Proofs.YtmalmijdjhkklaaGreat
