/- plan: the book of costs (a map with plans for keys). -/
import Derived.Test.YtmalmijdjhkklaaGreatPlE
import Derived.Test.YtmalmijdjhkklaaGreatW16
import Derived.Deep.DrawnRows
set_option linter.unusedVariables false
set_option linter.unusedSimpArgs false
set_option maxRecDepth 100000
set_option maxHeartbeats 16000000
namespace Go.Proofs.YtmalmijdjhkklaaGreat
open Go.RowKit
section
def zOq (K N A:Int):Value:= .agg #[.int .i64 K, .int .i64 N, .int .i64 A]
theorem zOr {a b c d e f:Int}:zOq a b c=zOq d e f↔a=d∧b=e∧c=f:=by
 simp [zOq]
theorem zGn (a b c d e f:Int) (w:World):(Op.equalIn 10000 36 (zOq a b c) (zOq d e f)).run Tryz.prog w= .ok (a == d && b == e && c == f) w:=by
 have u3:=Tryz.underlying3
 have a3:=Tryz.isAgg3
 have z3:=Tryz.sizeOf3
 have u4:=Tryz.underlying34
 have a4:=Tryz.isAgg34
 have z4:=Tryz.sizeOf34
 rw [show (10000:Nat)=9999+1 from rfl,Op.equalIn]
 unfold zOq
 simp only [Sem.run_bind,run_underlying Tryz.underlying36,Result.andThen_ok]
 go_simp
 by_cases h1:a=d <;> by_cases h2:b=e <;> by_cases h3:c=f <;> simp [h1,h2,h3]
theorem zDY (em:Bool) (n:Nat) (a b c:Int) (w:World):(Instr.checkKey em (n+2) 36 (zOq a b c)).run Tryz.prog w= .ok () w:=by
 have u3:=Tryz.underlying3
 have a3:=Tryz.isAgg3
 have z3:=Tryz.sizeOf3
 have u4:=Tryz.underlying34
 have a4:=Tryz.isAgg34
 have z4:=Tryz.sizeOf34
 rw [Instr.checkKey]
 unfold zOq
 simp only [Sem.run_bind,run_underlying Tryz.underlying36,Result.andThen_ok]
 simp only [Instr.checkKey]
 go_simp
theorem zDX (em:Bool) (a b c:Int) (w:World):(Instr.checkKey em 10000 36 (zOq a b c)).run Tryz.prog w= .ok () w:=zDY em 9998 a b c w
def zAy (v:Value):Prop:= ∃K N A:Int,v=zOq K N A
theorem zBK (K N A:Int) (w:World): ∀(l:List MapEntry) (i:Nat),(∀x ∈ l,zAy x.key)→
  ((Instr.findAsking 36 (zOq K N A) l i).run Tryz.prog w= .ok none w∧ ∀x ∈ l,x.key≠zOq K N A)∨
  (∃j e,(Instr.findAsking 36 (zOq K N A) l i).run Tryz.prog w= .ok (some (i+j,e.val)) w∧l[j]? =some e∧e.key=zOq K N A)
 | [],i,_=> .inl ⟨rfl,fun x h=>by cases h⟩
 | x :: l,i,h=>by
  obtain ⟨a,b,c,hx⟩:=h x List.mem_cons_self
  have he:=zGn K N A a b c w
  rw [←hx] at he
  by_cases hk:x.key=zOq K N A
  ·refine .inr ⟨0,x,?_,rfl,hk⟩
   have ht:(K == a && N == b && A == c)=true:=by
    rw [hx] at hk
    obtain ⟨rfl,rfl,rfl⟩:=zOr.1 hk
    simp
   rw [ht] at he
   simp only [Instr.findAsking,Op.equal,Op.maxDepth,Sem.run_bind,he,Result.andThen_ok]
   rfl
  ·have ht:(K == a && N == b && A == c)=false:=by
    rw [Bool.eq_false_iff]
    intro hc
    simp only [Bool.and_eq_true,beq_iff_eq] at hc
    obtain ⟨⟨rfl,rfl⟩,rfl⟩:=hc
    exact hk hx
   rw [ht] at he
   have hr:(Instr.findAsking 36 (zOq K N A) (x :: l) i).run Tryz.prog w=(Instr.findAsking 36 (zOq K N A) l (i+1)).run Tryz.prog w:=by
    simp only [Instr.findAsking,Op.equal,Op.maxDepth,Sem.run_bind,he,Result.andThen_ok]
    rfl
   rw [hr]
   rcases zBK K N A w l (i+1) (fun y hy=>h y (List.mem_cons_of_mem _ hy)) with ⟨h1,h2⟩|⟨j,e,h1,h2,h3⟩
   ·exact .inl ⟨h1,fun y hy=>by
     rcases List.mem_cons.1 hy with rfl|hy
     ·exact hk
     ·exact h2 y hy⟩
   ·exact .inr ⟨j+1,e,by rw [h1,show i+1+j=i+(j+1) by omega],h2,h3⟩
theorem zGU (K N A:Int) (w:World) (l:List MapEntry) (h: ∀x ∈ l,zAy x.key):
  ((Instr.findKey 36 (zOq K N A) l).run Tryz.prog w= .ok none w∧ ∀x ∈ l,x.key≠zOq K N A)∨
  (∃j e,(Instr.findKey 36 (zOq K N A) l).run Tryz.prog w= .ok (some (j,e.val)) w∧l[j]? =some e∧e.key=zOq K N A):=by
 cases l with
 | nil=>
  refine .inl ⟨?_,fun x h=>by cases h⟩
  simp only [Instr.findKey,Instr.findNow,Sem.run_bind,run_underlying Tryz.underlying36,Result.andThen_ok]
  rfl
 | cons x l=>
  have hr:(Instr.findKey 36 (zOq K N A) (x :: l)).run Tryz.prog w=(Instr.findAsking 36 (zOq K N A) (x :: l) 0).run Tryz.prog w:=by
   simp only [Instr.findKey,Instr.findNow,Instr.sameNow,Sem.run_bind,run_underlying Tryz.underlying36,Result.andThen_ok]
  rw [hr]
  rcases zBK K N A w (x :: l) 0 h with h1|⟨j,e,h1,h2⟩
  ·exact .inl h1
  ·exact .inr ⟨j,e,by rw [h1,Nat.zero_add],h2⟩
theorem zC0 (n:Nat) (K N A:Int):Instr.sameBits (n+2) (zOq K N A) (zOq K N A)=true:=by
 simp [zOq,Instr.sameBits]
theorem zUo (K N A:Int) (w:World):(Instr.keyThatStays (zOq K N A) (zOq K N A)).run Tryz.prog w= .ok (zOq K N A) w:=by
 have h:Instr.sameBits 10000 (zOq K N A) (zOq K N A)=true:=zC0 9998 K N A
 unfold Instr.keyThatStays
 rw [if_pos h]
 rfl
theorem zVN:Tryz.prog.underlying 94=some (.map 36 3):=by kernel_rfl
theorem zXl (w:World):(zeroValue 3).run Tryz.prog w= .ok (.int .i64 0) w:=by kernel_rfl
def Book (w:World) (bm:Nat):Prop:=
 ∃ms clock,w.heap[bm]? =some (.map ms clock)∧MapKept.Stamped ms clock∧
  ∀x ∈ ms.toList,∃K N A:Int,x.key=zOq K N A∧x.val= .int .i64 (zEO K N A)
theorem Book.lt {w:World} {bm:Nat} (h:Book w bm):bm<w.heap.size:=by
 obtain ⟨ms,clock,hm,_⟩:=h
 exact (Array.getElem?_eq_some_iff.1 hm).1
theorem Book.below {w w':World} {bm:Nat} (h:Book w bm) (hb:Below w.heap.size w w'):Book w' bm:=by
 have hl:=h.lt
 obtain ⟨ms,clock,hm,hs,hx⟩:=h
 exact ⟨ms,clock,(hb.block bm hl).trans hm,hs,hx⟩
theorem zC9 {w:World} {bm:Nat} (h:Book w bm) (K N A:Int):
  (Instr.lookup 94 (.map (some bm)) (zOq K N A) true).run Tryz.prog w= .ok (.tuple #[.int .i64 0, .bool false]) w∨
  (Instr.lookup 94 (.map (some bm)) (zOq K N A) true).run Tryz.prog w= .ok (.tuple #[.int .i64 (zEO K N A), .bool true]) w:=by
 obtain ⟨ms,clock,hm,hs,hx⟩:=h
 rcases zGU K N A w ms.toList (fun x h=>by obtain ⟨a,b,c,h,_⟩:=hx x h;exact ⟨a,b,c,h⟩) with ⟨h1,h2⟩|⟨j,e,h1,h2,h3⟩
 ·exact .inl (by simp [Instr.lookup,run_underlying zVN,MapKept.run_getObj_map hm,zDX,h1,zXl,Result.andThen])
 ·obtain ⟨a,b,c,h4,h5⟩:=hx e (List.mem_of_getElem? h2)
  rw [h3] at h4
  obtain ⟨rfl,rfl,rfl⟩:=zOr.1 h4
  exact .inr (by simp [Instr.lookup,run_underlying zVN,MapKept.run_getObj_map hm,zDX,h1,Result.andThen,h5])
theorem zC8 {w:World} {bm:Nat} (h:Book w bm) (K N A:Int):
  ∃w',(Instr.mapUpdate 94 (.map (some bm)) (zOq K N A) (.int .i64 (zEO K N A))).run Tryz.prog w= .ok () w'∧Book w' bm∧But bm w w':=by
 obtain ⟨ms,clock,hm,hs,hx⟩:=h
 have hB: ∀o,But bm w { w with heap:=w.heap.setIfInBounds bm o }:=fun o=>⟨rfl,rfl,rfl,by simp,fun k _ hne=>(MapKept.heap_set hm).2 k hne⟩
 rcases zGU K N A w ms.toList (fun x h=>by obtain ⟨a,b,c,h,_⟩:=hx x h;exact ⟨a,b,c,h⟩) with ⟨h1,h2⟩|⟨j,e,h1,h2,h3⟩
 ·refine ⟨_,by simp [Instr.mapUpdate,run_underlying zVN,MapKept.run_getObj_map hm,zDX,h1,MapKept.run_setObj_map _ hm,Result.andThen];rfl,?_,hB _⟩
  refine ⟨_,_,(MapKept.heap_set hm).1,MapKept.stamped_push hs h2,fun x h=>?_⟩
  rw [Array.toList_push,List.mem_append] at h
  rcases h with h|h
  ·exact hx x h
  ·rw [List.mem_singleton] at h
   subst h
   exact ⟨K,N,A,rfl,rfl⟩
 ·have h2':ms[j]? =some e:=by rw [←Array.getElem?_toList];exact h2
  refine ⟨_,by simp [Instr.mapUpdate,run_underlying zVN,MapKept.run_getObj_map hm,zDX,h1,h2',h3,zUo,MapKept.run_setObj_map _ hm,Result.andThen];rfl,?_,hB _⟩
  refine ⟨_,_,(MapKept.heap_set hm).1,MapKept.stamped_modify hs _ _ (fun _ _=>rfl) (fun x _ hj=>by rw [h2'] at hj;have hj:=Option.some.inj hj;rw [←hj];exact h3.symm),fun x h=>?_⟩
  obtain ⟨i,hi,rfl⟩:=List.getElem_of_mem h
  rw [Array.getElem_toList,Array.getElem_modify]
  split
  ·exact ⟨K,N,A,rfl,rfl⟩
  ·exact hx _ (Array.getElem_mem_toList _)
theorem But.book {bm:Nat} {w w':World} (h:Book w bm) (hb:Below w.heap.size w w'):Book w' bm∧But bm w w':=⟨h.below hb,But.of_below hb⟩
end

section
theorem zDc {K N A:Int} (h:canB K N A=true):0≤A∧A≤4096:=by
 have hN:=zDe h
 have hK:=zDd h
 by_cases h5:5≤K
 ·have:=zDh h h5;omega
 rw [zDg hN] at h
 split at h
 ·simp at h;omega
 ·split at h
  ·simp at h;omega
  ·split at h
   ·simp at h;omega
   ·split at h
    ·unfold copB at h
     rw [decide_eq_true_eq] at h
     omega
    ·omega
theorem zAI.but {w w':World} {G bm:Nat} {t:TypeId} {c:Array Value} (h:zAI w G t c) (hb:But bm w w') (hn:G≠bm):zAI w' G t c:=by
 have hl:=h.lt
 unfold zAI at *
 rw [hb.block G hl hn];exact h
def zAc (F:FuncId) (args:Array Value) (bm:Nat) (c:Int):Prop:= ∀W,Book W bm→Calls Tryz.prog F args W fun e w'=>e= .returned (.int .i64 c)∧Book w' bm∧But bm W w'
theorem zMT (bm:Nat) (K N A:Int) (HK:Hid (zAc 108 #[.map (some bm), .agg #[.int .i64 K, .int .i64 N, .int .i64 A]] bm (zEO K N A))):
  zAc 56 #[.map (some bm), .agg #[.int .i64 K, .int .i64 N, .int .i64 A]] bm (zEO K N A):=fun w hb=>by
 have R1:=zy (lay1 w 36 #[.int .i64 K, .int .i64 N, .int .i64 A])
 have HB1:=zy (hb.below R1.out.2)
 have hlt:=hb.lt
 have HL:=zC9 HB1.out K N A
 have HA:=zy (fun (W:World) (hW:Book W bm)=>zC8 hW K N A)
 unfold zOq at HL HA
 obtain ⟨c,hc⟩: ∃c,c=zEO K N A:=⟨_,rfl⟩
 rw [←hc] at HL HK HA ⊢
 clear hc hb
 rcases HL with hl|hl
 ·go_enter Tryz.func56,Tryz.ntmps56
  go_wp2_with (refine wpList_load_row rfl _ _ rfl _ rfl _ _ _ _ (R1.out.1) Tryz.underlying36 rfl (by exact zT5) ?_)
  refine (HK.out _ HB1.out).mono ?_
  rintro e w2 ⟨rfl,hB2,hbut⟩
  have HR2:=zy (R1.out.1.but hbut (by omega))
  have HT2:=zy (But.trans (But.of_below R1.out.2) hbut)
  obtain ⟨w3,hu,hB3,hbut3⟩:=HA.out w2 hB2
  have HT3:=zy (And.intro hB3 (HT2.out.trans hbut3))
  clear hbut hbut3 hB2 hB3 hl
  go_wp2_with (refine wpList_load_row rfl _ _ rfl _ rfl _ _ _ _ (HR2.out) Tryz.underlying36 rfl (by exact zT5) ?_)
  go_ret
  exact ⟨rfl,HT3.out⟩
 ·go_enter Tryz.func56,Tryz.ntmps56
  go_wp2_with (refine wpList_load_row rfl _ _ rfl _ rfl _ _ _ _ (R1.out.1) Tryz.underlying36 rfl (by exact zT5) ?_)
  go_ret
  exact ⟨rfl,HB1.out,But.of_below R1.out.2⟩
theorem zRw (bm:Nat) (K N A:Int) (hc:canB K N A=true) (h4:K≠4):zAc 108 #[.map (some bm), .agg #[.int .i64 K, .int .i64 N, .int .i64 A]] bm (zEO K N A):=fun w hb=>by
 have hN:=zDe hc
 have hK:=zDd hc
 have hA:=zDc hc
 have h:=zRv (.map (some bm)) K N A (by omega) (by omega) (by omega) (by omega) (by omega) (by omega) hc h4 w
 have e:zEO K N A=zEK K N A:=by unfold zEO;rw [if_neg h4]
 rw [e]
 exact h.mono fun e w' h=>⟨h.1,hb.below h.2,But.of_below h.2⟩
theorem zMC (bm:Nat) (K N A:Int) (hc:canB K N A=true) (h4:K≠4):zAc 56 #[.map (some bm), .agg #[.int .i64 K, .int .i64 N, .int .i64 A]] bm (zEO K N A):=zMT bm K N A (zy (zRw bm K N A hc h4))
theorem zNP {n:Int} (h:1≤n∧n≤1024):zNO n=zEO (if canB 3 n 0=true then 3 else 0) n 0∧canB (if canB 3 n 0=true then 3 else 0) n 0=true:=by
 have e3:canB 3 n 0=zQD n:=by
  rw [zDg h]
  simp only [show ((3:Int)=0)=False by decide,show ((3:Int)=1∨(3:Int)=2)=False by decide,if_false,if_true]
  simp
 have e0:canB 0 n 0=true:=by
  rw [zDg h];simp
 unfold zNO
 by_cases hr:zQD n=true
 ·have e3':canB 3 n 0=true:=by rw [e3,hr]
  rw [if_pos hr,if_pos e3']
  exact ⟨rfl,e3'⟩
 ·have e3': ¬canB 3 n 0=true:=by rw [e3];exact hr
  rw [if_neg hr,if_neg e3']
  exact ⟨rfl,e0⟩
theorem zNS (bm:Nat) (n:Int) (h:1≤n∧n≤1024):zAc 168 #[.map (some bm), .int .i64 n] bm (zNO n):=fun w hb=>by
 have R1:=zy (lay1 w 36 #[.int .i64 3, .int .i64 n, .int .i64 0])
 have HS:=zy (fun W=>zT2 3 n 0 (by omega) (by omega) (by omega) (by omega) (by omega) (by omega) W)
 have hlt:=hb.lt
 have HP:=zNP h
 have HO:=zy (zMC bm (if canB 3 n 0=true then 3 else 0) n 0 HP.2 (by split <;> decide))
 rw [←HP.1] at HO
 obtain ⟨c,hc⟩: ∃c,c=zNO n:=⟨_,rfl⟩
 rw [←hc] at HO ⊢
 clear hc HP
 have HB:=zy hb
 cases hcb:canB 3 n 0 with
 | true=>
  rw [hcb] at HS HO
  rw [if_pos rfl] at HO
  clear hcb hb
  go_enter Tryz.func168,Tryz.ntmps168
  go_wp2_with (refine wpList_load_row rfl _ _ rfl _ rfl _ _ _ _ (R1.out.1) Tryz.underlying36 rfl (by exact zT5) ?_)
  refine (HS.out _).mono ?_
  rintro e w2 ⟨rfl,hB2⟩
  have R2:=zy (And.intro (R1.out.1.keep hB2) (R1.out.2.trans (hB2.mono R1.out.2.size)))
  have HB2:=zy (HB.out.below R2.out.2)
  clear hB2
  go_wp2_with (refine wpList_load_row rfl _ _ rfl _ rfl _ _ _ _ (R2.out.1) Tryz.underlying36 rfl (by exact zT5) ?_)
  refine (HO.out _ HB2.out).mono ?_
  rintro e w3 ⟨rfl,hB3,hbut⟩
  have HT:=zy (And.intro hB3 (But.trans (But.of_below R2.out.2) hbut))
  clear hB3 hbut
  go_wp2
  go_ret
  exact ⟨rfl,HT.out⟩
 | false=>
  rw [hcb] at HS HO
  rw [if_neg (by decide)] at HO
  clear hcb hb
  go_enter Tryz.func168,Tryz.ntmps168
  go_wp2_with (refine wpList_load_row rfl _ _ rfl _ rfl _ _ _ _ (R1.out.1) Tryz.underlying36 rfl (by exact zT5) ?_)
  refine (HS.out _).mono ?_
  rintro e w2 ⟨rfl,hB2⟩
  have R2:=zy (And.intro (R1.out.1.keep hB2) (R1.out.2.trans (hB2.mono R1.out.2.size)))
  have d0:=R2.out.1.cell (i:=0) (v:= .int .i64 3) rfl
  have f0:=R2.out.1.frozen 0
  have R3:=zy (And.intro (R2.out.1.set 0 (.int .i64 0)) (zCn R2.out.2 (Nat.le_refl _) 0 (.int .i64 0)))
  have HB3:=zy (HB.out.below R3.out.2)
  clear hB2
  go_wp2_with (refine wpList_load_row rfl _ _ rfl _ rfl _ _ _ _ (R3.out.1) Tryz.underlying36 rfl (by exact zT5) ?_)
  refine (HO.out _ HB3.out).mono ?_
  rintro e w3 ⟨rfl,hB3,hbut⟩
  have HT:=zy (And.intro hB3 (But.trans (But.of_below R3.out.2) hbut))
  clear hB3 hbut
  go_wp2
  go_ret
  exact ⟨rfl,HT.out⟩
end

section
def zNL (i j:Int):Value:= .agg #[.int .i64 i, .int .i64 j]
theorem zNM {a b c d:Int}:zNL a b=zNL c d↔a=c∧b=d:=by
 simp [zNL]
theorem zGm (a b c d:Int) (w:World):(Op.equalIn 10000 215 (zNL a b) (zNL c d)).run Tryz.prog w= .ok (a == c && b == d) w:=by
 have u3:=Tryz.underlying3
 have a3:=Tryz.isAgg3
 have z3:=Tryz.sizeOf3
 rw [show (10000:Nat)=9999+1 from rfl,Op.equalIn]
 unfold zNL
 simp only [Sem.run_bind,run_underlying Tryz.underlying215,Result.andThen_ok]
 simp only [Std.Legacy.Range.forIn_eq_forIn_range',Std.Legacy.Range.size,Nat.sub_zero,Nat.add_sub_cancel,Nat.div_one,List.range'_succ,List.range'_zero,List.forIn_cons,List.forIn_nil]
 go_simp
 by_cases h1:a=c <;> by_cases h2:b=d <;> simp [h1,h2]
theorem zDW (em:Bool) (n:Nat) (a b:Int) (w:World):(Instr.checkKey em (n+2) 215 (zNL a b)).run Tryz.prog w= .ok () w:=by
 have u3:=Tryz.underlying3
 have a3:=Tryz.isAgg3
 have z3:=Tryz.sizeOf3
 rw [Instr.checkKey]
 unfold zNL
 simp only [Sem.run_bind,run_underlying Tryz.underlying215,Result.andThen_ok]
 simp only [Std.Legacy.Range.forIn_eq_forIn_range',Std.Legacy.Range.size,Nat.sub_zero,Nat.add_sub_cancel,Nat.div_one,List.range'_succ,List.range'_zero,List.forIn_cons,List.forIn_nil]
 simp only [Instr.checkKey]
 go_simp
theorem zDV (em:Bool) (a b:Int) (w:World):(Instr.checkKey em 10000 215 (zNL a b)).run Tryz.prog w= .ok () w:=zDW em 9998 a b w
def zAx (v:Value):Prop:= ∃i j:Int,v=zNL i j
theorem zBJ (K N:Int) (w:World): ∀(l:List MapEntry) (i:Nat),(∀x ∈ l,zAx x.key)→
  ((Instr.findAsking 215 (zNL K N) l i).run Tryz.prog w= .ok none w∧ ∀x ∈ l,x.key≠zNL K N)∨
  (∃j e,(Instr.findAsking 215 (zNL K N) l i).run Tryz.prog w= .ok (some (i+j,e.val)) w∧l[j]? =some e∧e.key=zNL K N)
 | [],i,_=> .inl ⟨rfl,fun x h=>by cases h⟩
 | x :: l,i,h=>by
  obtain ⟨a,b,hx⟩:=h x List.mem_cons_self
  have he:=zGm K N a b w
  rw [←hx] at he
  by_cases hk:x.key=zNL K N
  ·refine .inr ⟨0,x,?_,rfl,hk⟩
   have ht:(K == a && N == b)=true:=by
    rw [hx] at hk
    obtain ⟨rfl,rfl⟩:=zNM.1 hk
    simp
   rw [ht] at he
   simp only [Instr.findAsking,Op.equal,Op.maxDepth,Sem.run_bind,he,Result.andThen_ok]
   rfl
  ·have ht:(K == a && N == b)=false:=by
    rw [Bool.eq_false_iff]
    intro hc
    simp only [Bool.and_eq_true,beq_iff_eq] at hc
    obtain ⟨rfl,rfl⟩:=hc
    exact hk hx
   rw [ht] at he
   have hr:(Instr.findAsking 215 (zNL K N) (x :: l) i).run Tryz.prog w=(Instr.findAsking 215 (zNL K N) l (i+1)).run Tryz.prog w:=by
    simp only [Instr.findAsking,Op.equal,Op.maxDepth,Sem.run_bind,he,Result.andThen_ok]
    rfl
   rw [hr]
   rcases zBJ K N w l (i+1) (fun y hy=>h y (List.mem_cons_of_mem _ hy)) with ⟨h1,h2⟩|⟨j,e,h1,h2,h3⟩
   ·exact .inl ⟨h1,fun y hy=>by
     rcases List.mem_cons.1 hy with rfl|hy
     ·exact hk
     ·exact h2 y hy⟩
   ·exact .inr ⟨j+1,e,by rw [h1,show i+1+j=i+(j+1) by omega],h2,h3⟩
theorem zGT (K N:Int) (w:World) (l:List MapEntry) (h: ∀x ∈ l,zAx x.key):
  ((Instr.findKey 215 (zNL K N) l).run Tryz.prog w= .ok none w∧ ∀x ∈ l,x.key≠zNL K N)∨
  (∃j e,(Instr.findKey 215 (zNL K N) l).run Tryz.prog w= .ok (some (j,e.val)) w∧l[j]? =some e∧e.key=zNL K N):=by
 cases l with
 | nil=>
  refine .inl ⟨?_,fun x h=>by cases h⟩
  simp only [Instr.findKey,Instr.findNow,Sem.run_bind,run_underlying Tryz.underlying215,Result.andThen_ok]
  rfl
 | cons x l=>
  have hr:(Instr.findKey 215 (zNL K N) (x :: l)).run Tryz.prog w=(Instr.findAsking 215 (zNL K N) (x :: l) 0).run Tryz.prog w:=by
   simp only [Instr.findKey,Instr.findNow,Instr.sameNow,Sem.run_bind,run_underlying Tryz.underlying215,Result.andThen_ok]
  rw [hr]
  rcases zBJ K N w (x :: l) 0 h with h1|⟨j,e,h1,h2⟩
  ·exact .inl h1
  ·exact .inr ⟨j,e,by rw [h1,Nat.zero_add],h2⟩
theorem zVP:Tryz.prog.underlying 213=some (.map 215 3):=by kernel_rfl
def zAA (f:Int→Int→Int) (D:Int→Int→Prop) (w:World) (bm:Nat):Prop:=
 ∃ms clock,w.heap[bm]? =some (.map ms clock)∧MapKept.Stamped ms clock∧
  (∀x ∈ ms.toList,∃i j:Int,x.key=zNL i j∧x.val= .int .i64 (f i j)∧D i j)∧ ∀i j,D i j→ ∃x ∈ ms.toList,x.key=zNL i j
theorem zAA.lt {f:Int→Int→Int} {D:Int→Int→Prop} {w:World} {bm:Nat} (h:zAA f D w bm):bm<w.heap.size:=by
 obtain ⟨ms,clock,hm,_⟩:=h
 exact (Array.getElem?_eq_some_iff.1 hm).1
theorem zAA.below {f:Int→Int→Int} {D:Int→Int→Prop} {w w':World} {bm:Nat} (h:zAA f D w bm) (hb:Below w.heap.size w w'):zAA f D w' bm:=by
 have hl:=h.lt
 obtain ⟨ms,clock,hm,hs,hx⟩:=h
 exact ⟨ms,clock,(hb.block bm hl).trans hm,hs,hx⟩
theorem zOi {f:Int→Int→Int} {D:Int→Int→Prop} {w:World} {bm:Nat} (h:zAA f D w bm) {i j:Int} (hd:D i j):
  (Instr.lookup 213 (.map (some bm)) (zNL i j) false).run Tryz.prog w= .ok (.int .i64 (f i j)) w:=by
 obtain ⟨ms,clock,hm,hs,hx,hy⟩:=h
 rcases zGT i j w ms.toList (fun x h=>by obtain ⟨a,b,h,_⟩:=hx x h;exact ⟨a,b,h⟩) with ⟨h1,h2⟩|⟨k,e,h1,h2,h3⟩
 ·obtain ⟨x,hxm,hxk⟩:=hy i j hd
  exact absurd hxk (h2 x hxm)
 ·obtain ⟨a,b,h4,h5,_⟩:=hx e (List.mem_of_getElem? h2)
  rw [h3] at h4
  obtain ⟨rfl,rfl⟩:=zNM.1 h4
  simp [Instr.lookup,run_underlying zVP,MapKept.run_getObj_map hm,zDV,h1,Result.andThen,h5]
theorem zOh {f:Int→Int→Int} {D D':Int→Int→Prop} {w:World} {bm:Nat} (h:zAA f D w bm) {i j:Int} (hnd: ¬D i j) (hD: ∀a b,D' a b↔D a b∨(a=i∧b=j)):
  ∃w',(Instr.mapUpdate 213 (.map (some bm)) (zNL i j) (.int .i64 (f i j))).run Tryz.prog w= .ok () w'∧zAA f D' w' bm∧But bm w w':=by
 obtain ⟨ms,clock,hm,hs,hx,hy⟩:=h
 have hB: ∀o,But bm w { w with heap:=w.heap.setIfInBounds bm o }:=fun o=>⟨rfl,rfl,rfl,by simp,fun k _ hne=>(MapKept.heap_set hm).2 k hne⟩
 rcases zGT i j w ms.toList (fun x h=>by obtain ⟨a,b,h,_⟩:=hx x h;exact ⟨a,b,h⟩) with ⟨h1,h2⟩|⟨k,e,h1,h2,h3⟩
 ·refine ⟨_,by simp [Instr.mapUpdate,run_underlying zVP,MapKept.run_getObj_map hm,zDV,h1,MapKept.run_setObj_map _ hm,Result.andThen];rfl,?_,hB _⟩
  refine ⟨_,_,(MapKept.heap_set hm).1,MapKept.stamped_push hs h2,fun x h=>?_,fun a b hab=>?_⟩
  ·rw [Array.toList_push,List.mem_append] at h
   rcases h with h|h
   ·obtain ⟨a,b,e1,e2,e3⟩:=hx x h
    exact ⟨a,b,e1,e2,(hD a b).2 (.inl e3)⟩
   ·rw [List.mem_singleton] at h
    subst h
    exact ⟨i,j,rfl,rfl,(hD i j).2 (.inr ⟨rfl,rfl⟩)⟩
  ·rcases (hD a b).1 hab with h|⟨rfl,rfl⟩
   ·obtain ⟨x,hxm,hxk⟩:=hy a b h
    exact ⟨x,by rw [Array.toList_push];exact List.mem_append_left _ hxm,hxk⟩
   ·refine ⟨_,by rw [Array.toList_push];exact List.mem_append_right _ (List.mem_singleton.2 rfl),rfl⟩
 ·obtain ⟨a,b,h4,_,h6⟩:=hx e (List.mem_of_getElem? h2)
  rw [h3] at h4
  obtain ⟨rfl,rfl⟩:=zNM.1 h4
  exact absurd h6 hnd
theorem zOj (f:Int→Int→Int) (w:World):zAA f (fun _ _=>False) (w.alloc (.map #[] 0)) w.heap.size:=⟨#[],0,heap_alloc_new w _,MapKept.stamped_empty 0,fun x h=>by simp at h,fun i j h=>h.elim⟩
end

section
theorem zKq {n:Nat} (h:1<n) (h8:ldiv n≠8):ldiv n≤n:=by
 unfold ldiv at *
 split; · omega
 split; · omega
 split; · omega
 split; · omega
 ·rename_i h2 h3 h5 h7
  rw [if_neg h2,if_neg h3,if_neg h5,if_neg h7] at h8
  exact absurd rfl h8
theorem zQP: ∀(n:Nat) (L:List Nat),1≤n→rad n=some L→2^L.length≤n:=fun n=>by
 induction n using Nat.strongRecOn with
 | ind n ih=>
  intro L hn h
  rw [rad] at h
  split at h
  ·cases h;simpa using hn
  ·split at h
   ·cases h
   ·rename_i h1 h2
    cases hr:rad (n/ldiv n) with
    | none=>rw [hr] at h;cases h
    | some M=>
     rw [hr] at h
     injection h with h
     subst h
     have h3:=zKt n
     have h4:=zKq (by omega) h2
     have h5:=ih _ (Nat.div_lt_self (by omega) (by omega)) M (Nat.div_pos h4 (by omega)) hr
     rw [List.length_cons,Nat.pow_succ]
     have h6:2*(n/ldiv n)≤ldiv n*(n/ldiv n):=Nat.mul_le_mul_right _ h3.1
     have h7:=Nat.mul_div_le n (ldiv n)
     omega
theorem zQH {n:Int} (h:1≤n∧n≤1024):0≤radS n∧radS n≤80:=by
 unfold radS
 cases hr:rad n.toNat with
 | none=>simp [sumN]
 | some L=>
  have h1:=zUu (zQO _ _ hr)
  have h2:=zQP _ _ (by omega) hr
  have h3:L.length≤10:=by
   rcases Nat.lt_or_ge 10 L.length with h4|h4
   ·have h5:2^11≤2^L.length:=Nat.pow_le_pow_right (by omega) h4
    omega
   ·exact h4
  simp only [Option.getD_some]
  omega
theorem zNQ {n:Int} (h:1≤n∧n≤1024):0≤zNO n∧zNO n≤1048576:=by
 have h1:=zQH h
 unfold zNO
 split
 ·have h2:=mulb (by omega:(0:Int)≤2*n) (by omega:2*n≤2048) h1.1 h1.2
  show 0≤2*n*radS n+n∧2*n*radS n+n≤1048576
  omega
 ·have h2:=mulb (by omega:(0:Int)≤n) h.2 (by omega:(0:Int)≤n) h.2
  omega
theorem zDf {N A:Int} (h:canB 4 N A=true):1<A∧A<N∧N%A=0:=by
 have hN:=zDe h
 rw [zDg hN] at h
 simp only [show ((4:Int)=0)=False by decide,show ((4:Int)=1∨(4:Int)=2)=False by decide,show ((4:Int)=3)=False by decide,if_false,if_true] at h
 unfold copB at h
 rw [decide_eq_true_eq] at h
 exact ⟨h.1,h.2.1,h.2.2.1⟩
theorem zH9 {N A:Int} (h1:1<A) (h2:A<N) (hN:N≤1024):1≤N/A∧N/A≤1024:=by
 refine ⟨(Int.le_ediv_iff_mul_le (by omega)).2 (by omega),?_⟩
 exact Int.le_trans (Int.ediv_le_self _ (by omega)) hN
def BkW (w:World) (bm g:Nat) (c:Array Value) (wz:World):Prop:=Book wz bm∧But bm w wz∧zAI wz g 36 c∧g≠bm
theorem Book.drewN {w:World} {bm:Nat} (h:Book w bm) (n:Nat):Book (w.drewN n) bm:=h
theorem But.drewQ {w w':World} {bm:Nat} (h:But bm w w') (n:Nat):But bm w (w'.drewN n):=h.trans (But.of_below (below_drewN (Below.refl _ _) n))
theorem BkW.drewN {w wz:World} {bm g:Nat} {c:Array Value} (h:BkW w bm g c wz) (n:Nat):BkW w bm g c (wz.drewN n):=⟨h.1.drewN n,h.2.1.drewQ n,h.2.2.1.drewN n,h.2.2.2⟩
theorem BkW.step {w wz w':World} {bm g:Nat} {c:Array Value} (h:BkW w bm g c wz) (hb:Book w' bm∧But bm wz w'):BkW w bm g c w':=
 ⟨hb.1,h.2.1.trans hb.2,h.2.2.1.but hb.2 h.2.2.2,h.2.2.2⟩
theorem BkW.cell {w wz:World} {bm g:Nat} {c:Array Value} (h:BkW w bm g c wz) {i:Nat} {v:Value} (hc:c[i]? =some v):wz.cell? ⟨g,i,none⟩=some v:=h.2.2.1.cell hc
theorem zRx (bm:Nat) (N A:Int) (hc:canB 4 N A=true):zAc 108 #[.map (some bm), .agg #[.int .i64 4, .int .i64 N, .int .i64 A]] bm (zEO 4 N A):=fun w hb=>by
 have hN:=zDe hc
 obtain ⟨h1,h2,h3⟩:=zDf hc
 have hd:=zH9 h1 h2 hN.2
 have hne:A≠0:=by omega
 have tz:(A == 0)=false:=by simpa using hne
 have q2:N.tdiv A=N/A:=Int.tdiv_eq_ediv_of_nonneg (by omega)
 have HR0:Hid (zEO 4 N A=A*zNO (N/A)+N/A*zNO A+N):=zy rfl
 have hlt:=hb.lt
 have R1:=zy (lay1 w 36 #[.int .i64 4, .int .i64 N, .int .i64 A])
 have HS1:Hid (BkW w bm w.heap.size #[.int .i64 4, .int .i64 N, .int .i64 A] (w.alloc (.cells #[.int .i64 4, .int .i64 N, .int .i64 A] 36))):=zy ⟨hb.below R1.out.2,But.of_below R1.out.2,R1.out.1,by omega⟩
 have HP1:Hid (∀wz,BkW w bm w.heap.size #[.int .i64 4, .int .i64 N, .int .i64 A] wz→Calls Tryz.prog 168 #[.map (some bm), .int .i64 (N/A)] wz fun e w'=>e= .returned (.int .i64 (zNO (N/A)))∧BkW w bm w.heap.size #[.int .i64 4, .int .i64 N, .int .i64 A] w'):=
  zy (fun wz hz=>(zNS bm (N/A) hd wz hz.1).mono fun e w' h=>⟨h.1,hz.step h.2⟩)
 have HP2:Hid (∀wz,BkW w bm w.heap.size #[.int .i64 4, .int .i64 N, .int .i64 A] wz→Calls Tryz.prog 168 #[.map (some bm), .int .i64 A] wz fun e w'=>e= .returned (.int .i64 (zNO A))∧BkW w bm w.heap.size #[.int .i64 4, .int .i64 N, .int .i64 A] w'):=
  zy (fun wz hz=>(zNS bm A (by omega) wz hz.1).mono fun e w' h=>⟨h.1,hz.step h.2⟩)
 have bp1:=zNQ hd
 have bp2:=zNQ (n:=A) (by omega)
 obtain ⟨b,hbe⟩: ∃b,b=N/A:=⟨_,rfl⟩
 rw [←hbe] at hd q2 HR0 HP1 bp1
 obtain ⟨y1,hy1⟩: ∃y,y=zNO b:=⟨_,rfl⟩
 obtain ⟨y2,hy2⟩: ∃y,y=zNO A:=⟨_,rfl⟩
 rw [←hy1] at HR0 HP1 bp1
 rw [←hy2] at HR0 HP2 bp2
 have wb:IntKind.i64.wrap b=b:=IntWalk.i64_in _ (by omega)
 clear hy1 hy2 hbe h3 hb hc
 obtain ⟨x,hx⟩: ∃x:Int,x=A*y1:=⟨_,rfl⟩
 have bdx:0≤x∧x≤1073741824:=by rw [hx];exact by have:=mulb (by omega:(0:Int)≤A) (by omega:A≤1024) (by omega:(0:Int)≤y1) (by omega:y1≤1048576);omega
 have ex:A*y1=x:=hx.symm
 have wx:IntKind.i64.wrap x=x:=IntWalk.i64_in _ (by omega)
 have Hx:=zy hx
 clear hx
 obtain ⟨y,hy⟩: ∃y:Int,y=b*y2:=⟨_,rfl⟩
 have bdy:0≤y∧y≤1073741824:=by rw [hy];exact by have:=mulb (by omega:(0:Int)≤b) (by omega:b≤1024) (by omega:(0:Int)≤y2) (by omega:y2≤1048576);omega
 have ey:b*y2=y:=hy.symm
 have wy:IntKind.i64.wrap y=y:=IntWalk.i64_in _ (by omega)
 have Hy:=zy hy
 clear hy
 obtain ⟨u,hu⟩: ∃u:Int,u=x+y:=⟨_,rfl⟩
 have bdu:0≤u∧u≤2147483648:=by rw [hu];exact (by omega)
 have eu:x+y=u:=hu.symm
 have wu:IntKind.i64.wrap u=u:=IntWalk.i64_in _ (by omega)
 have Hu:=zy hu
 clear hu
 obtain ⟨v,hv⟩: ∃v:Int,v=u+N:=⟨_,rfl⟩
 have bdv:0≤v∧v≤2147484672:=by rw [hv];exact (by omega)
 have ev:u+N=v:=hv.symm
 have wv:IntKind.i64.wrap v=v:=IntWalk.i64_in _ (by omega)
 have Hv:=zy hv
 clear hv
 have HR:Hid (zEO 4 N A=v):=zy (by rw [HR0.out,Hv.out,Hu.out,Hx.out,Hy.out])
 have d0:=HS1.out.cell (i:=0) (v:= .int .i64 4) rfl
 have d1:=HS1.out.cell (i:=1) (v:= .int .i64 N) rfl
 have d2:=HS1.out.cell (i:=2) (v:= .int .i64 A) rfl
 go_enter Tryz.func108,Tryz.ntmps108
 go_wp2_with fail
 go_region_held3 (fun wz=>wz.cell? ⟨w.heap.size,1,none⟩=some (.int .i64 N)∧wz.cell? ⟨w.heap.size,2,none⟩=some (.int .i64 A))
  (first|go_keep|assumption|(refine ⟨?_,?_⟩ <;> first|assumption|go_keep))
  ((go_at_call 168;first
   | ((with_reducible refine (HP1.out _ ?_).mono ?_);(first|assumption|exact HS1.out.drewN 1|exact HS1.out);rintro r w8 ⟨rfl,hS8⟩;have z1:=hS8.cell (i:=1) (v:= .int .i64 N) rfl;have z2:=hS8.cell (i:=2) (v:= .int .i64 A) rfl)
   | ((with_reducible refine (HP2.out _ ?_).mono ?_);(first|assumption|exact HS1.out.drewN 1|exact HS1.out);rintro r w8 ⟨rfl,hS8⟩;have z1:=hS8.cell (i:=1) (v:= .int .i64 N) rfl;have z2:=hS8.cell (i:=2) (v:= .int .i64 A) rfl)))
 have HT:=zy (And.intro hS8.1 hS8.2.1)
 go_wp2
 go_ret
 exact ⟨by rw [HR.out];rfl,HT.out⟩
theorem zMP (bm:Nat) (K N A:Int) (hc:canB K N A=true):zAc 56 #[.map (some bm), .agg #[.int .i64 K, .int .i64 N, .int .i64 A]] bm (zEO K N A):=by
 by_cases h4:K=4
 ·subst h4
  exact zMT bm 4 N A (zy (zRx bm N A hc))
 ·exact zMC bm K N A hc h4
theorem zCA (w:World):Book (w.alloc (.map #[] 0)) w.heap.size:=⟨#[],0,heap_alloc_new w _,MapKept.stamped_empty 0,fun x h=>by simp at h⟩
end

section
theorem zDj {n:Int} (h:1≤n∧n≤1024):canB 3 n 0=zQD n:=by
 rw [zDg h]
 simp only [show ((3:Int)=0)=False by decide,show ((3:Int)=1∨(3:Int)=2)=False by decide,if_false,if_true]
 simp
theorem zPQ (n:Int) (h:1≤n∧n≤1024) (w:World):
  Calls Tryz.prog 60 #[.int .i64 n] w fun e w'=>e= .returned (.int .i64 (zNO n))∧Below w.heap.size w w':=by
 have HCan:=zy (fun W=>zPJ 3 n 0 (by omega) (by omega) (by omega) (by omega) (by omega) (by omega) W)
 have HCo:=zy (fun (hc:canB 3 n 0=true) W=>zPL 3 n 0 (by omega) (by omega) (by omega) (by omega) (by omega) (by omega) hc (by decide) W)
 rw [zDj h] at HCan HCo
 have hp:=zNQ h
 cases hr:zQD n with
 | true=>
  have HR:Hid (zNO n=zEK 3 n 0):=zy (by unfold zNO;rw [if_pos hr])
  have HC:=zy (HCo.out hr)
  rw [hr] at HCan
  obtain ⟨c,hc⟩: ∃c,c=zEK 3 n 0:=⟨_,rfl⟩
  rw [←hc] at HC HR
  clear hc hr HCo hp
  go_enter Tryz.func60,Tryz.ntmps60
  go_wp2_with fail
  refine (HCan.out _).mono ?_
  rintro e w1 ⟨rfl,hB1⟩
  have HB1:=zy hB1
  clear hB1
  go_wp2_with fail
  refine (HC.out _).mono ?_
  rintro e w2 ⟨rfl,hB2⟩
  have HB2:=zy (HB1.out.trans (hB2.mono HB1.out.size))
  clear hB2
  go_wp2
  go_ret
  exact ⟨by rw [HR.out];rfl,HB2.out⟩
 | false=>
  have HR:Hid (zNO n=n*n):=zy (by unfold zNO;rw [if_neg (by rw [hr];decide)])
  rw [hr] at HCan
  rw [HR.out] at hp
  obtain ⟨x,hx⟩: ∃x:Int,x=n*n:=⟨_,rfl⟩
  have bdx:0≤x∧x≤1048576:=by rw [hx];exact hp
  have ex:n*n=x:=hx.symm
  have wx:IntKind.i64.wrap x=x:=IntWalk.i64_in _ (by omega)
  have Hx:=zy hx
  clear hx
  have HR2:Hid (zNO n=x):=zy (by rw [HR.out,Hx.out])
  clear hr HCo hp HR
  go_enter Tryz.func60,Tryz.ntmps60
  go_wp2_with fail
  refine (HCan.out _).mono ?_
  rintro e w1 ⟨rfl,hB1⟩
  have HB1:=zy hB1
  clear hB1
  go_wp2
  go_ret
  exact ⟨by rw [HR2.out];rfl,HB1.out⟩
def BxW (w:World) (g:Nat) (c:Array Value) (wz:World):Prop:=Below w.heap.size w wz∧zAI wz g 27 c
theorem BxW.drewN {w wz:World} {g:Nat} {c:Array Value} (h:BxW w g c wz) (n:Nat):BxW w g c (wz.drewN n):=⟨below_drewN h.1 n,h.2.drewN n⟩
theorem BxW.step {w wz w':World} {g:Nat} {c:Array Value} (h:BxW w g c wz) (hb:Below wz.heap.size wz w'):BxW w g c w':=⟨h.1.trans (hb.mono h.1.size),h.2.keep hb⟩
theorem BxW.cell {w wz:World} {g:Nat} {c:Array Value} (h:BxW w g c wz) {i:Nat} {v:Value} (hc:c[i]? =some v):wz.cell? ⟨g,i,none⟩=some v:=h.2.cell hc
theorem zPM (N A:Int) (hc:canB 4 N A=true) (w:World):
  Calls Tryz.prog 19 #[.agg #[.int .i64 4, .int .i64 N, .int .i64 A]] w fun e w'=>e= .returned (.int .i64 (zEO 4 N A))∧Below w.heap.size w w':=by
 have hN:=zDe hc
 obtain ⟨h1,h2,h3⟩:=zDf hc
 have hd:=zH9 h1 h2 hN.2
 have hne:A≠0:=by omega
 have tz:(A == 0)=false:=by simpa using hne
 have q2:N.tdiv A=N/A:=Int.tdiv_eq_ediv_of_nonneg (by omega)
 have HR0:Hid (zEO 4 N A=A*zNO (N/A)+N/A*zNO A+N):=zy rfl
 have HCan:=zy (fun W=>zPJ 4 N A (by omega) (by omega) (by omega) (by omega) (by omega) (by omega) W)
 rw [hc] at HCan
 have R1:=zy (lay1 w 27 #[.int .i64 4, .int .i64 N, .int .i64 A])
 have HP1:Hid (∀wz,BxW w w.heap.size #[.int .i64 4, .int .i64 N, .int .i64 A] wz→Calls Tryz.prog 60 #[.int .i64 (N/A)] wz fun e w'=>e= .returned (.int .i64 (zNO (N/A)))∧BxW w w.heap.size #[.int .i64 4, .int .i64 N, .int .i64 A] w'):=
  zy (fun wz hz=>(zPQ (N/A) hd wz).mono fun e w' h=>⟨h.1,hz.step h.2⟩)
 have HP2:Hid (∀wz,BxW w w.heap.size #[.int .i64 4, .int .i64 N, .int .i64 A] wz→Calls Tryz.prog 60 #[.int .i64 A] wz fun e w'=>e= .returned (.int .i64 (zNO A))∧BxW w w.heap.size #[.int .i64 4, .int .i64 N, .int .i64 A] w'):=
  zy (fun wz hz=>(zPQ A (by omega) wz).mono fun e w' h=>⟨h.1,hz.step h.2⟩)
 have bp1:=zNQ hd
 have bp2:=zNQ (n:=A) (by omega)
 obtain ⟨b,hbe⟩: ∃b,b=N/A:=⟨_,rfl⟩
 rw [←hbe] at hd q2 HR0 HP1 bp1
 obtain ⟨y1,hy1⟩: ∃y,y=zNO b:=⟨_,rfl⟩
 obtain ⟨y2,hy2⟩: ∃y,y=zNO A:=⟨_,rfl⟩
 rw [←hy1] at HR0 HP1 bp1
 rw [←hy2] at HR0 HP2 bp2
 have wb:IntKind.i64.wrap b=b:=IntWalk.i64_in _ (by omega)
 clear hy1 hy2 hbe h3 hc
 obtain ⟨x,hx⟩: ∃x:Int,x=A*y1:=⟨_,rfl⟩
 have bdx:0≤x∧x≤1073741824:=by rw [hx];exact by have:=mulb (by omega:(0:Int)≤A) (by omega:A≤1024) (by omega:(0:Int)≤y1) (by omega:y1≤1048576);omega
 have ex:A*y1=x:=hx.symm
 have wx:IntKind.i64.wrap x=x:=IntWalk.i64_in _ (by omega)
 have Hx:=zy hx
 clear hx
 obtain ⟨y,hy⟩: ∃y:Int,y=b*y2:=⟨_,rfl⟩
 have bdy:0≤y∧y≤1073741824:=by rw [hy];exact by have:=mulb (by omega:(0:Int)≤b) (by omega:b≤1024) (by omega:(0:Int)≤y2) (by omega:y2≤1048576);omega
 have ey:b*y2=y:=hy.symm
 have wy:IntKind.i64.wrap y=y:=IntWalk.i64_in _ (by omega)
 have Hy:=zy hy
 clear hy
 obtain ⟨u,hu⟩: ∃u:Int,u=x+y:=⟨_,rfl⟩
 have bdu:0≤u∧u≤2147483648:=by rw [hu];exact (by omega)
 have eu:x+y=u:=hu.symm
 have wu:IntKind.i64.wrap u=u:=IntWalk.i64_in _ (by omega)
 have Hu:=zy hu
 clear hu
 obtain ⟨v,hv⟩: ∃v:Int,v=u+N:=⟨_,rfl⟩
 have bdv:0≤v∧v≤2147484672:=by rw [hv];exact (by omega)
 have ev:u+N=v:=hv.symm
 have wv:IntKind.i64.wrap v=v:=IntWalk.i64_in _ (by omega)
 have Hv:=zy hv
 clear hv
 have HR:Hid (zEO 4 N A=v):=zy (by rw [HR0.out,Hv.out,Hu.out,Hx.out,Hy.out])
 go_enter Tryz.func19,Tryz.ntmps19
 go_wp2_with (refine wpList_load_row rfl _ _ rfl _ rfl _ _ _ _ (R1.out.1) Tryz.underlying27 rfl (by exact zT6) ?_)
 refine (HCan.out _).mono ?_
 rintro e w2 ⟨rfl,hB2⟩
 have HS1:Hid (BxW w w.heap.size #[.int .i64 4, .int .i64 N, .int .i64 A] w2):=zy ⟨R1.out.2.trans (hB2.mono R1.out.2.size),R1.out.1.keep hB2⟩
 clear hB2
 have d0:=HS1.out.cell (i:=0) (v:= .int .i64 4) rfl
 have d1:=HS1.out.cell (i:=1) (v:= .int .i64 N) rfl
 have d2:=HS1.out.cell (i:=2) (v:= .int .i64 A) rfl
 go_wp2_with fail
 go_region_held3 (fun wz=>wz.cell? ⟨w.heap.size,1,none⟩=some (.int .i64 N)∧wz.cell? ⟨w.heap.size,2,none⟩=some (.int .i64 A))
  (first|go_keep|assumption|(refine ⟨?_,?_⟩ <;> first|assumption|go_keep))
  ((go_at_call 60;first
   | ((with_reducible refine (HP1.out _ ?_).mono ?_);(first|assumption|exact HS1.out.drewN 1|exact HS1.out);rintro r w8 ⟨rfl,hS8⟩;have z1:=hS8.cell (i:=1) (v:= .int .i64 N) rfl;have z2:=hS8.cell (i:=2) (v:= .int .i64 A) rfl)
   | ((with_reducible refine (HP2.out _ ?_).mono ?_);(first|assumption|exact HS1.out.drewN 1|exact HS1.out);rintro r w8 ⟨rfl,hS8⟩;have z1:=hS8.cell (i:=1) (v:= .int .i64 N) rfl;have z2:=hS8.cell (i:=2) (v:= .int .i64 A) rfl)))
 have HT:=zy hS8.1
 go_wp2
 go_ret
 exact ⟨by rw [HR.out];rfl,HT.out⟩
theorem zPN (K N A:Int) (k0: -9223372036854775808≤K) (k1:K≤9223372036854775807) (n0: -9223372036854775808≤N) (n1:N≤9223372036854775807) (a0: -9223372036854775808≤A) (a1:A≤9223372036854775807) (w:World):
  Calls Tryz.prog 19 #[.agg #[.int .i64 K, .int .i64 N, .int .i64 A]] w fun e w'=>e= .returned (.int .i64 (if canB K N A=true then zEO K N A else 0))∧Below w.heap.size w w':=by
 by_cases hcb:canB K N A=true
 ·rw [if_pos hcb]
  by_cases h4:K=4
  ·subst h4
   exact zPM N A hcb w
  ·have h:=zPL K N A k0 k1 n0 n1 a0 a1 hcb h4 w
   have e:zEO K N A=zEK K N A:=by unfold zEO;rw [if_neg h4]
   rw [e];exact h
 ·rw [if_neg hcb]
  have hcb:canB K N A=false:=by simpa using hcb
  have R1:=zy (lay1 w 27 #[.int .i64 K, .int .i64 N, .int .i64 A])
  have HS:=zy (fun W=>zPJ K N A k0 k1 n0 n1 a0 a1 W)
  rw [hcb] at HS
  clear hcb
  go_enter Tryz.func19,Tryz.ntmps19
  go_wp2_with (refine wpList_load_row rfl _ _ rfl _ rfl _ _ _ _ (R1.out.1) Tryz.underlying27 rfl (by exact zT6) ?_)
  refine (HS.out _).mono ?_
  rintro e w2 ⟨rfl,hB2⟩
  have HB2:=zy (R1.out.2.trans (hB2.mono R1.out.2.size))
  clear hB2
  go_wp2
  go_ret
  exact ⟨rfl,HB2.out⟩
end
end Go.Proofs.YtmalmijdjhkklaaGreat
