/- Maps of entries at uint64 keys: their laws, with no owner. -/
import Derived.Test.YtgdadkkiefkimaaEnt
import Derived.Laws.IdiomRangeMap
namespace Go.Proofs.Ytgdadkkiefkimaa
open Go.RowKit

/-- All blocks stay but one. -/
structure But (bm : Nat) (w w' : World) : Prop where
  os : w'.os = w.os
  tape : w'.tape = w.tape
  output : w'.output = w.output
  size : w.heap.size ≤ w'.heap.size
  block : ∀ k, k < w.heap.size → k ≠ bm → w'.heap[k]? = w.heap[k]?
theorem But.refl (bm : Nat) (w : World) : But bm w w := ⟨rfl, rfl, rfl, Nat.le_refl _, fun _ _ _ => rfl⟩
theorem But.trans {bm : Nat} {a b c : World} (h : But bm a b) (k : But bm b c) : But bm a c :=
  ⟨k.os.trans h.os, k.tape.trans h.tape, k.output.trans h.output, Nat.le_trans h.size k.size, fun i hi hn => (k.block i (Nat.lt_of_lt_of_le hi h.size) hn).trans (h.block i hi hn)⟩
theorem But.of_below {bm : Nat} {w w' : World} (h : Below w.heap.size w w') : But bm w w' := ⟨h.os, h.tape, h.output, h.size, fun k hk _ => h.block k hk⟩
theorem But.below {B bm : Nat} {w w' : World} (h : But bm w w') (hB : B ≤ w.heap.size) (hb : B ≤ bm) : Below B w w' := ⟨h.os, h.tape, h.output, h.size, fun k hk => h.block k (by omega) (by omega)⟩
theorem But.cell {bm b o : Nat} {w w' : World} {v : Value} (h : But bm w w') (hb : b < w.heap.size) (hn : b ≠ bm) (hc : w.cell? ⟨b, o, none⟩ = some v) : w'.cell? ⟨b, o, none⟩ = some v := by
  rw [← hc]
  simp only [World.cell?, h.block b hb hn]
theorem not_map {w : World} {bm o : Nat} {ms : Array MapEntry} {clock : Nat} {v : Value} (h : w.heap[bm]? = some (.map ms clock)) : w.cell? ⟨bm, o, none⟩ ≠ some v := by
  simp [World.cell?, h]
theorem RdPI.but {w w' : World} {B bm : Nat} {A : Option Addr} {fs : List (Int × Int)} {ms : Array MapEntry} {clock : Nat} (h : RdPI w B A fs) (hB : B ≤ w.heap.size) (hm : w.heap[bm]? = some (.map ms clock)) (hb : But bm w w') : RdPI w' B A fs := fun hl => by
  obtain ⟨b, o, e, hlt, hc⟩ := h hl
  have hn : b ≠ bm := fun hx => by subst hx; exact not_map hm (hc 0 hl).1
  exact ⟨b, o, e, hlt, fun j hj => ⟨hb.cell (by omega) hn (hc j hj).1, hb.cell (by omega) hn (hc j hj).2⟩⟩

def entryV (e : Ent) (A : Option Addr) (c : Nat) : Value := .agg #[.int .u64 e.p, .int .u64 e.g, .slice A e.fs.length c]
/-- The map at block bm has these entries, laid in in this order. -/
def MapE (w : World) (bm : Nat) (es : List Ent) : Prop :=
  ∃ ms clock, w.heap[bm]? = some (.map ms clock) ∧ MapKept.Stamped ms clock ∧ ms.size = es.length ∧
    ∀ i, i < es.length → ∃ x A c, ms[i]? = some x ∧ x.key = .int .u64 (es.getD i Ent.none).p ∧ x.val = entryV (es.getD i Ent.none) A c ∧ RdPI w w.heap.size A (es.getD i Ent.none).fs
theorem MapE.lt {w : World} {bm : Nat} {es : List Ent} (h : MapE w bm es) : bm < w.heap.size := by
  obtain ⟨ms, clock, hm, _⟩ := h
  exact (Array.getElem?_eq_some_iff.1 hm).1
theorem MapE.below {w w' : World} {bm : Nat} {es : List Ent} (h : MapE w bm es) (hb : Below w.heap.size w w') : MapE w' bm es := by
  have hl := h.lt
  obtain ⟨ms, clock, hm, hs, hz, hx⟩ := h
  refine ⟨ms, clock, (hb.block bm hl).trans hm, hs, hz, fun i hi => ?_⟩
  obtain ⟨x, A, c, a1, a2, a3, a4⟩ := hx i hi
  exact ⟨x, A, c, a1, a2, a3, (a4.below hb).mono hb.size⟩
theorem mapE_mem {w : World} {es : List Ent} {ms : Array MapEntry} (hz : ms.size = es.length)
    (hx : ∀ i, i < es.length → ∃ x A c, ms[i]? = some x ∧ x.key = .int .u64 (es.getD i Ent.none).p ∧ x.val = entryV (es.getD i Ent.none) A c ∧ RdPI w w.heap.size A (es.getD i Ent.none).fs)
    {x : MapEntry} (h : x ∈ ms.toList) : ∃ i, i < es.length ∧ ms[i]? = some x ∧ x.key = .int .u64 (es.getD i Ent.none).p ∧ ∃ A c, x.val = entryV (es.getD i Ent.none) A c ∧ RdPI w w.heap.size A (es.getD i Ent.none).fs := by
  obtain ⟨i, hi, rfl⟩ := List.getElem_of_mem h
  have hi' : i < es.length := by rw [← hz]; simpa using hi
  obtain ⟨y, A, c, a1, a2, a3, a4⟩ := hx i hi'
  have : ms[i]? = some (ms.toList[i]) := by
    rw [Array.getElem?_eq_getElem (by simpa using hi)]; simp
  rw [this] at a1
  injection a1 with a1
  exact ⟨i, hi', this, by rw [a1]; exact a2, A, c, by rw [a1]; exact a3, a4⟩

theorem und_map : Try.prog.underlying 83 = some (.map 28 71) := by kernel_rfl
theorem und_u64 : Try.prog.underlying 28 = some (.int .u64) := by kernel_rfl
theorem info_ent : (Try.prog.info? 71).map (fun i => (i.zero, i.size)) = some (some (.agg #[.int .u64 0, .int .u64 0, .slice none 0 0]), 3) := by kernel_rfl

def zeroE : Value := .agg #[.int .u64 0, .int .u64 0, .slice none 0 0]
theorem zero_ent (w : World) : (zeroValue 71).run Try.prog w = .ok zeroE w := by kernel_rfl
theorem mapE_look {w : World} {bm : Nat} {es : List Ent} (h : MapE w bm es) (q : Int) :
    ((∀ e ∈ es, e.p ≠ q) ∧ (Instr.lookup 83 (.map (some bm)) (.int .u64 q) true).run Try.prog w = .ok (.tuple #[zeroE, .bool false]) w) ∨
    (∃ i A c, i < es.length ∧ (es.getD i Ent.none).p = q ∧ RdPI w w.heap.size A (es.getD i Ent.none).fs ∧
      (Instr.lookup 83 (.map (some bm)) (.int .u64 q) true).run Try.prog w = .ok (.tuple #[entryV (es.getD i Ent.none) A c, .bool true]) w ∧
      (Instr.lookup 83 (.map (some bm)) (.int .u64 q) false).run Try.prog w = .ok (entryV (es.getD i Ent.none) A c) w) := by
  obtain ⟨ms, clock, hm, hs, hz, hx⟩ := h
  have hk : MapKept.IsKey (.int .u64) (.int .u64 q) := rfl
  have hks : ∀ x ∈ ms.toList, MapKept.IsKey (.int .u64) x.key := fun x h => by
    obtain ⟨i, _, _, e, _⟩ := mapE_mem hz hx h
    rw [e]; rfl
  rcases MapKept.findNow_spec hk ms.toList 0 hks with ⟨h1, h2⟩ | ⟨j, e, h1, h2, h3⟩
  · refine .inl ⟨fun e he hq => ?_, by simp [Instr.lookup, run_underlying und_map, MapKept.run_getObj_map hm, MapKept.run_checkKey und_u64 hk, MapKept.run_findKey und_u64 h1, zeroE, Result.andThen]⟩
    obtain ⟨i, hi, rfl⟩ := List.getElem_of_mem he
    obtain ⟨x, A, c, a1, a2, _⟩ := hx i hi
    have hxm : x ∈ ms.toList := by
      rw [Array.getElem?_eq_some_iff] at a1
      obtain ⟨h, rfl⟩ := a1
      exact Array.getElem_mem_toList h
    refine h2 x hxm ?_
    rw [a2, ← hq]
    simp [List.getD_eq_getElem?_getD, List.getElem?_eq_getElem hi]
  · have hmem := List.mem_of_getElem? h2
    obtain ⟨i, hi, a1, a2, A, c, a3, a4⟩ := mapE_mem hz hx hmem
    rw [h3] at a2
    injection a2 with _ a2
    exact .inr ⟨i, A, c, hi, a2.symm, a4,
      by simp [Instr.lookup, run_underlying und_map, MapKept.run_getObj_map hm, MapKept.run_checkKey und_u64 hk, MapKept.run_findKey und_u64 h1, Result.andThen, a3],
      by simp [Instr.lookup, run_underlying und_map, MapKept.run_getObj_map hm, MapKept.run_checkKey und_u64 hk, MapKept.run_findKey und_u64 h1, Result.andThen, a3]⟩
theorem mapE_add {w : World} {bm : Nat} {es : List Ent} (h : MapE w bm es) (e0 : Ent) (A0 : Option Addr) (c0 : Nat) (hn : ∀ e ∈ es, e.p ≠ e0.p) (hR : RdPI w w.heap.size A0 e0.fs) :
    ∃ w', (Instr.mapUpdate 83 (.map (some bm)) (.int .u64 e0.p) (entryV e0 A0 c0)).run Try.prog w = .ok () w' ∧ MapE w' bm (es ++ [e0]) ∧ But bm w w' := by
  obtain ⟨ms, clock, hm, hs, hz, hx⟩ := h
  have hk : MapKept.IsKey (.int .u64) (.int .u64 e0.p) := rfl
  have hks : ∀ x ∈ ms.toList, MapKept.IsKey (.int .u64) x.key := fun x h => by
    obtain ⟨i, _, _, e, _⟩ := mapE_mem hz hx h
    rw [e]; rfl
  rcases MapKept.findNow_spec hk ms.toList 0 hks with ⟨h1, h2⟩ | ⟨j, e, h1, h2, h3⟩
  · have hB : But bm w { w with heap := w.heap.setIfInBounds bm (.map (ms.push ⟨.int .u64 e0.p, entryV e0 A0 c0, clock⟩) (clock + 1)) } :=
      ⟨rfl, rfl, rfl, by simp, fun k _ hne => (MapKept.heap_set hm).2 k hne⟩
    refine ⟨_, by simp [Instr.mapUpdate, run_underlying und_map, MapKept.run_getObj_map hm, MapKept.run_checkKey und_u64 hk, MapKept.run_findKey und_u64 h1, MapKept.run_setObj_map _ hm, Result.andThen], ?_, hB⟩
    refine ⟨_, _, (MapKept.heap_set hm).1, MapKept.stamped_push hs h2, by simp [hz], fun i hi => ?_⟩
    rw [List.length_append, List.length_singleton] at hi
    rcases Nat.lt_or_ge i es.length with hl | hl
    · obtain ⟨x, A, c, a1, a2, a3, a4⟩ := hx i hl
      have e1 : (es ++ [e0]).getD i Ent.none = es.getD i Ent.none := by simp [List.getD_eq_getElem?_getD, List.getElem?_append_left hl]
      rw [e1]
      refine ⟨x, A, c, ?_, a2, a3, (a4.but (Nat.le_refl _) hm hB).mono hB.size⟩
      rw [Array.getElem?_push_lt (by omega), ← a1, Array.getElem?_eq_getElem (by omega)]
    · have : i = es.length := by omega
      subst this
      have e1 : (es ++ [e0]).getD es.length Ent.none = e0 := by simp [List.getD_eq_getElem?_getD]
      rw [e1]
      refine ⟨_, A0, c0, by rw [← hz]; exact Array.getElem?_push_size, rfl, rfl, (hR.but (Nat.le_refl _) hm hB).mono hB.size⟩
  · have hmem := List.mem_of_getElem? h2
    obtain ⟨i, hi, a1, a2, _⟩ := mapE_mem hz hx hmem
    rw [h3] at a2
    injection a2 with _ a2
    refine absurd a2.symm (hn _ ?_)
    simp [List.getD_eq_getElem?_getD, List.getElem?_eq_getElem hi]
end Go.Proofs.Ytgdadkkiefkimaa
