/- What the laws' helpers rows and made answer. -/
import Derived.Test.YtgdadkkiefkimaaGreatRef06
set_option linter.unusedVariables false
set_option linter.unusedSimpArgs false
set_option linter.unusedSectionVars false
namespace Go.Proofs.YtgdadkkiefkimaaGreat
open Go.RowKit
open Alg

theorem grown_of_below {w w' : World} (h : Below w.heap.size w w') (row : Option Nat) : w.grownBy w' row := ⟨h.os, h.tape, h.output, h.size, fun i hi _ => h.block i hi⟩
theorem own_mono {w : World} {base base' : Nat} {e : TypeId} {size : Nat} {v : Value} {n : Nat} {xs : List Value} (h : w.ownsRow base e size v n xs) (hb : base' ≤ base) : w.ownsRow base' e size v n xs :=
  ⟨h.1, h.2.imp id fun ⟨g, cap, cur, e1, h2, r⟩ => ⟨g, cap, cur, e1, Nat.le_trans hb h2, r⟩⟩
/-- A row of powers of the call's own. -/
def OwnPow (w : World) (B : Nat) (A : Option Addr) (c : Nat) (fs : List (Int × Int)) : Prop := w.ownsRow B 170 2 (.slice A fs.length c) fs.length (powCellsI fs)
theorem OwnPow.kept {w w' : World} {B B' : Nat} {A : Option Addr} {c n : Nat} {fs : List (Int × Int)} {O : Value} {xs : List Value} (h : OwnPow w B A c fs) (hO : w.ownsRow B' 130 3 O n xs) (hg : w.grownBy w' O.ownBlock) : OwnPow w' B A c fs := by
  refine World.ownsRow.kept h hg ?_
  rcases hO.2 with ⟨rfl, _⟩ | ⟨g, cap, cur, rfl, _, hgb, _⟩
  · rcases h.2 with ⟨e, _⟩ | ⟨g', cap', cur', e, _⟩
    · exact .inl (by rw [e]; rfl)
    · exact .inr (by rw [e]; simp [Value.ownBlock])
  · rcases h.2 with ⟨e, _⟩ | ⟨g', cap', cur', e, _, hgb', _⟩
    · exact .inl (by rw [e]; rfl)
    · refine .inr ?_
      rw [e]
      simp only [Value.ownBlock]
      intro hh
      injection hh with hh
      subst hh
      rw [hgb] at hgb'
      injection hgb' with h1
      injection h1 with _ h2
      exact absurd h2 (by decide)
theorem OwnPow.below {w w' : World} {B : Nat} {A : Option Addr} {c : Nat} {fs : List (Int × Int)} (h : OwnPow w B A c fs) (hb : Below w.heap.size w w') : OwnPow w' B A c fs :=
  World.ownsRow.kept h (grown_of_below hb none) (by
    rcases h.2 with ⟨e, _⟩ | ⟨g', cap', cur', e, _⟩
    · exact .inl (by rw [e]; rfl)
    · exact .inr (by rw [e]; simp [Value.ownBlock]))
theorem powCellsI_get (l : List (Int × Int)) : ∀ j, j < l.length → (powCellsI l)[j * 2]? = some (.int .u64 (l.getD j (0, 0)).1) ∧ (powCellsI l)[j * 2 + 1]? = some (.int .i64 (l.getD j (0, 0)).2) := by
  induction l with
  | nil => intro j hj; simp at hj
  | cons x t ih =>
    intro j hj
    have hx : powCellsI (x :: t) = .int .u64 x.1 :: .int .i64 x.2 :: powCellsI t := rfl
    rw [hx]
    cases j with
    | zero => exact ⟨rfl, rfl⟩
    | succ j =>
      have := ih j (by simpa using hj)
      rw [show (j + 1) * 2 = j * 2 + 1 + 1 by omega]
      simpa using this
theorem addr_add0 (g n : Nat) : (⟨g, 0, none⟩ : Addr).add n = ⟨g, 0 + n, none⟩ := by unfold Addr.add; split <;> simp_all
theorem OwnPow.rd {w : World} {B : Nat} {A : Option Addr} {c : Nat} {fs : List (Int × Int)} (h : OwnPow w B A c fs) : RdPI w w.heap.size A fs := by
  intro hl
  rcases h.2 with ⟨e, hz⟩ | ⟨g, cap, cur, e, _, hgb, _⟩
  · omega
  · injection e with e1 _ _
    subst e1
    refine ⟨g, 0, rfl, (Array.getElem?_eq_some_iff.1 hgb).1, fun j hj => ?_⟩
    obtain ⟨c0, c1⟩ := powCellsI_get fs j hj
    have d0 := World.ownsRow.cells h (g := g) rfl (j * 2) _ c0
    have d1 := World.ownsRow.cells h (g := g) rfl (j * 2 + 1) _ c1
    rw [addr_add0] at d0 d1
    exact ⟨d0, by rw [Nat.add_assoc]; exact d1⟩
theorem powCellsI_append (a : List (Int × Int)) (x : Int × Int) : powCellsI (a ++ [x]) = powCellsI a ++ [.int .u64 x.1, .int .i64 x.2] := by simp [powCellsI]
theorem take_snoc_getD {α : Type} (l : List α) (k : Nat) (d : α) (h : k < l.length) : l.take (k + 1) = l.take k ++ [l.getD k d] := by
  rw [List.take_succ_eq_append_getElem h, List.getD_eq_getElem?_getD, List.getElem?_eq_getElem h]; rfl

/-- The rows that were built of the first entries. -/
def RowsB (w : World) (B : Nat) (es : List Ent) (l : List (Ent × Option Addr × Nat)) : Prop :=
  l.length ≤ es.length ∧ ∀ i, i < l.length → (l.getD i (Ent.none, none, 0)).1 = es.getD i Ent.none ∧ OwnPow w B (l.getD i (Ent.none, none, 0)).2.1 (l.getD i (Ent.none, none, 0)).2.2 (l.getD i (Ent.none, none, 0)).1.fs
/-- What rows answers. -/
def RowsP (es : List Ent) (w : World) (r : Ending) (w' : World) : Prop :=
  ∃ A' c', r = .returned (.slice A' es.length c') ∧ es.length ≤ c' ∧ RdE w' w'.heap.size A' es ∧ Below w.heap.size w w'
theorem rows_end {es : List Ent} {l : List (Ent × Option Addr × Nat)} {v : Value} {w wr : World} (hR : RowsB wr w.heap.size es l) (hl : l.length = es.length)
    (hown : wr.ownsRow w.heap.size 130 3 v l.length (entCells l)) (hB : Below w.heap.size w wr) : RowsP es w (.returned v) wr := by
  have h0 := hown
  rcases hown.2 with ⟨rfl, hz⟩ | ⟨gb, cap, cur, rfl, hbase, hgb, r1, r2, r3, r4⟩
  · refine ⟨none, 0, by rw [← hl, hz], by omega, fun h => by omega, hB⟩
  · refine ⟨some ⟨gb, 0, none⟩, cap, by rw [hl], by omega, fun h => ?_, hB⟩
    refine ⟨gb, 0, rfl, (Array.getElem?_eq_some_iff.1 hgb).1, fun j hj => ?_⟩
    have hj' : j < l.length := by omega
    obtain ⟨e0, eo⟩ := hR.2 j hj'
    obtain ⟨c0, c1, c2⟩ := entCells_get l j hj'
    have d0 := World.ownsRow.cells h0 (g := gb) rfl (j * 3) _ c0
    have d1 := World.ownsRow.cells h0 (g := gb) rfl (j * 3 + 1) _ c1
    have d2 := World.ownsRow.cells h0 (g := gb) rfl (j * 3 + 2) _ c2
    rw [addr_add0] at d0 d1 d2
    rw [e0] at d0 d1 d2 eo
    exact ⟨_, _, d0, by rw [Nat.add_assoc]; exact d1, by rw [Nat.add_assoc]; exact d2, eo.rd⟩

theorem FirstE.unique {es : List Ent} {p g g' : Int} (h : FirstE es p g) (h' : FirstE es p g') : g = g' := by
  obtain ⟨a, a1, a2, a3, a4⟩ := h
  obtain ⟨b, b1, b2, b3, b4⟩ := h'
  have : a = b := by
    rcases Nat.lt_trichotomy a b with h | h | h
    · exact absurd a2 (b4 a h)
    · exact h
    · exact absurd b2 (a4 b h)
  subst this
  rw [← a3, ← b3]
theorem Cert.p3 {p g : Int} (h : Cert p g) : 3 ≤ p := by
  obtain ⟨es, hA, k, hk, hp, _⟩ := h
  rw [← hp]; exact (hA.2 k hk).p3
/-- What New answers, by its value. -/
def NewV (es : List Ent) (p : Int) (v : Value) (w' : World) : Prop := ((¬ AllRight es ∨ ∀ e ∈ es, e.p ≠ p) ∧ v = .pointer none) ∨ (∃ g, AllRight es ∧ FirstE es p g ∧ Fd w' w'.heap.size v p g)
theorem NewP.form {es : List Ent} {p : Int} {w w' : World} {r : Ending} (h : NewP es p w r w') : ∃ v er, r = .returned (.tuple #[v, .int .i64 er]) ∧ NewV es p v w' ∧ Below w.heap.size w w' := by
  obtain ⟨hB, ⟨er, a, rfl, _⟩ | ⟨a, b, rfl⟩ | ⟨v, g, a, b, rfl, c⟩⟩ := h
  · exact ⟨_, _, rfl, .inl ⟨.inl a, rfl⟩, hB⟩
  · exact ⟨_, _, rfl, .inl ⟨.inr b, rfl⟩, hB⟩
  · exact ⟨_, _, rfl, .inr ⟨g, a, b, c⟩, hB⟩
/-- What made answers: none; or a field of a certified prime. -/
def MadeR (v : Value) (p g : Int) (w' : World) : Prop := (p = 0 ∧ g = 0 ∧ v = .pointer none) ∨ (3 ≤ p ∧ Cert p g ∧ Fd w' w'.heap.size v p g)
def MadeAll (w : World) (r : Ending) (w' : World) : Prop := ∃ v p g, r = .returned (.tuple #[v, .int .u64 p, .int .u64 g]) ∧ MadeR v p g w' ∧ Below w.heap.size w w'
theorem made_of_list {kind kk p p' g' : Int} {es : List Ent} {v : Value} {w' : World} (k0 : kind ≠ 0) (k1 : kind ≠ 1) (hl : es.length ≤ 40) (hO : OfR kind kk p es p' g') (hN : NewV es p v w') : MadeR v p' g' w' := by
  rcases hO.2.2 k0 k1 with ⟨_, hA, rfl, hF⟩ | ⟨hno, rfl, rfl⟩
  · rcases hN with ⟨h, _⟩ | ⟨g, _, hF', hFd⟩
    · rcases h with h | h
      · exact absurd hA h
      · obtain ⟨k, hk1, hk2, _⟩ := hF
        exact absurd hk2 (h _ (by rw [List.getD_eq_getElem?_getD, List.getElem?_eq_getElem hk1]; simp))
    · have := hF'.unique hF
      subst this
      exact .inr ⟨Cert.p3 ⟨es, hA, hF⟩, ⟨es, hA, hF⟩, hFd⟩
  · rcases hN with ⟨_, rfl⟩ | ⟨g, hA, hF, _⟩
    · exact .inl ⟨rfl, rfl, rfl⟩
    · rcases hno with h | h | h
      · omega
      · exact absurd hA h
      · obtain ⟨k, hk1, hk2, _⟩ := hF
        exact absurd hk2 (h _ (by rw [List.getD_eq_getElem?_getD, List.getElem?_eq_getElem hk1]; simp))
theorem MadeP.form {p g : Int} {w w' : World} {r : Ending} (h : MadeP p g w r w') : ∃ v er, r = .returned (.tuple #[v, .int .i64 er]) ∧ ((p = 0 ∧ v = .pointer none) ∨ (3 ≤ p ∧ Cert p g ∧ Fd w' w'.heap.size v p g)) ∧ Below w.heap.size w w' := by
  obtain ⟨hB, ⟨er, a, b, rfl⟩ | ⟨v, a, b, rfl, c⟩⟩ := h
  · exact ⟨_, _, rfl, .inl ⟨a, rfl⟩, hB⟩
  · exact ⟨_, _, rfl, .inr ⟨a, b, c⟩, hB⟩

end Go.Proofs.YtgdadkkiefkimaaGreat
