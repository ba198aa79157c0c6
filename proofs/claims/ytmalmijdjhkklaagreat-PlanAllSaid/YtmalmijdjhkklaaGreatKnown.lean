/- field.known. -/
import Derived.Test.YtmalmijdjhkklaaGreatWClaimToFit16
import Derived.Test.YtmalmijdjhkklaaGreatWRightKnownMRef04
set_option linter.unusedVariables false
set_option linter.unusedSimpArgs false
set_option linter.unusedSectionVars false
namespace Go.Proofs.YtmalmijdjhkklaaGreat
open Go.RowKit

/-- What known answers. -/
def KnownP (es : List Ent) (p : Int) (w : World) (r : Ending) (w' : World) : Prop :=
  ∃ A c, r = .returned (.tuple #[.slice A es.length c, .int .u64 p]) ∧ es.length ≤ c ∧ Below w.heap.size w w' ∧ RdE w' w'.heap.size A es
set_option maxHeartbeats 4000000 in
set_option maxRecDepth 100000 in
theorem known0_any (w : World) :
    Calls Tryz.prog 98 #[.int .i64 0] w (KnownP (knownE 0) k0.p w) := by
  go_enter Tryz.func98, Tryz.ntmps98
  go_wp2
  go_quiet (fail)
  go_wp2
  go_ret2
  refine ⟨some ⟨w.heap.size + 1 + 1 + 1 + 1 + 1 + 1 + 1 + 1, 0, none⟩, 4, rfl, by decide, ?_, ?_⟩
  · refine below_drewN ?_ _
    repeat (first | exact Below.refl _ _ | refine Below.alloc ?_ (by first | omega | (simp only [World.size_alloc]; omega)) _)
  · intro _
    refine ⟨_, _, rfl, by simp, fun j hj => ?_⟩
    rcases (show j = 0 ∨ j = 1 ∨ j = 2 ∨ j = 3 by have : j < 4 := hj; omega) with rfl | rfl | rfl | rfl
    · refine ⟨some ⟨w.heap.size, 0, none⟩, 1, ?_, ?_, ?_, ?_⟩
      · rw [World.cell?_drewN]; repeat (first | exact World.cell?_alloc_at _ _ _ _ (by first | rfl | (simp only [World.size_alloc]; done) | (simp only [World.size_alloc]; omega)) | rw [World.cell?_alloc_past _ _ _ (by first | omega | (simp only [World.size_alloc]; omega))])
      · rw [World.cell?_drewN]; repeat (first | exact World.cell?_alloc_at _ _ _ _ (by first | rfl | (simp only [World.size_alloc]; done) | (simp only [World.size_alloc]; omega)) | rw [World.cell?_alloc_past _ _ _ (by first | omega | (simp only [World.size_alloc]; omega))])
      · rw [World.cell?_drewN]; repeat (first | exact World.cell?_alloc_at _ _ _ _ (by first | rfl | (simp only [World.size_alloc]; done) | (simp only [World.size_alloc]; omega)) | rw [World.cell?_alloc_past _ _ _ (by first | omega | (simp only [World.size_alloc]; omega))])
      · intro _
        refine ⟨_, _, rfl, by simp <;> omega, fun j hj => ?_⟩
        rcases (show j = 0 by have : j < 1 := hj; omega) with rfl
        constructor
        · rw [World.cell?_drewN]; repeat (first | exact World.cell?_alloc_at _ _ _ _ (by first | rfl | (simp only [World.size_alloc]; done) | (simp only [World.size_alloc]; omega)) | rw [World.cell?_alloc_past _ _ _ (by first | omega | (simp only [World.size_alloc]; omega))])
        · rw [World.cell?_drewN]; repeat (first | exact World.cell?_alloc_at _ _ _ _ (by first | rfl | (simp only [World.size_alloc]; done) | (simp only [World.size_alloc]; omega)) | rw [World.cell?_alloc_past _ _ _ (by first | omega | (simp only [World.size_alloc]; omega))])
    · refine ⟨some ⟨w.heap.size + 1 + 1 + 1 + 1, 0, none⟩, 2, ?_, ?_, ?_, ?_⟩
      · rw [World.cell?_drewN]; repeat (first | exact World.cell?_alloc_at _ _ _ _ (by first | rfl | (simp only [World.size_alloc]; done) | (simp only [World.size_alloc]; omega)) | rw [World.cell?_alloc_past _ _ _ (by first | omega | (simp only [World.size_alloc]; omega))])
      · rw [World.cell?_drewN]; repeat (first | exact World.cell?_alloc_at _ _ _ _ (by first | rfl | (simp only [World.size_alloc]; done) | (simp only [World.size_alloc]; omega)) | rw [World.cell?_alloc_past _ _ _ (by first | omega | (simp only [World.size_alloc]; omega))])
      · rw [World.cell?_drewN]; repeat (first | exact World.cell?_alloc_at _ _ _ _ (by first | rfl | (simp only [World.size_alloc]; done) | (simp only [World.size_alloc]; omega)) | rw [World.cell?_alloc_past _ _ _ (by first | omega | (simp only [World.size_alloc]; omega))])
      · intro _
        refine ⟨_, _, rfl, by simp <;> omega, fun j hj => ?_⟩
        rcases (show j = 0 ∨ j = 1 by have : j < 2 := hj; omega) with rfl | rfl
        · constructor
          · rw [World.cell?_drewN]; repeat (first | exact World.cell?_alloc_at _ _ _ _ (by first | rfl | (simp only [World.size_alloc]; done) | (simp only [World.size_alloc]; omega)) | rw [World.cell?_alloc_past _ _ _ (by first | omega | (simp only [World.size_alloc]; omega))])
          · rw [World.cell?_drewN]; repeat (first | exact World.cell?_alloc_at _ _ _ _ (by first | rfl | (simp only [World.size_alloc]; done) | (simp only [World.size_alloc]; omega)) | rw [World.cell?_alloc_past _ _ _ (by first | omega | (simp only [World.size_alloc]; omega))])
        · constructor
          · rw [World.cell?_drewN]; repeat (first | exact World.cell?_alloc_at _ _ _ _ (by first | rfl | (simp only [World.size_alloc]; done) | (simp only [World.size_alloc]; omega)) | rw [World.cell?_alloc_past _ _ _ (by first | omega | (simp only [World.size_alloc]; omega))])
          · rw [World.cell?_drewN]; repeat (first | exact World.cell?_alloc_at _ _ _ _ (by first | rfl | (simp only [World.size_alloc]; done) | (simp only [World.size_alloc]; omega)) | rw [World.cell?_alloc_past _ _ _ (by first | omega | (simp only [World.size_alloc]; omega))])
    · refine ⟨some ⟨w.heap.size + 1 + 1 + 1 + 1 + 1 + 1, 0, none⟩, 2, ?_, ?_, ?_, ?_⟩
      · rw [World.cell?_drewN]; repeat (first | exact World.cell?_alloc_at _ _ _ _ (by first | rfl | (simp only [World.size_alloc]; done) | (simp only [World.size_alloc]; omega)) | rw [World.cell?_alloc_past _ _ _ (by first | omega | (simp only [World.size_alloc]; omega))])
      · rw [World.cell?_drewN]; repeat (first | exact World.cell?_alloc_at _ _ _ _ (by first | rfl | (simp only [World.size_alloc]; done) | (simp only [World.size_alloc]; omega)) | rw [World.cell?_alloc_past _ _ _ (by first | omega | (simp only [World.size_alloc]; omega))])
      · rw [World.cell?_drewN]; repeat (first | exact World.cell?_alloc_at _ _ _ _ (by first | rfl | (simp only [World.size_alloc]; done) | (simp only [World.size_alloc]; omega)) | rw [World.cell?_alloc_past _ _ _ (by first | omega | (simp only [World.size_alloc]; omega))])
      · intro _
        refine ⟨_, _, rfl, by simp <;> omega, fun j hj => ?_⟩
        rcases (show j = 0 ∨ j = 1 by have : j < 2 := hj; omega) with rfl | rfl
        · constructor
          · rw [World.cell?_drewN]; repeat (first | exact World.cell?_alloc_at _ _ _ _ (by first | rfl | (simp only [World.size_alloc]; done) | (simp only [World.size_alloc]; omega)) | rw [World.cell?_alloc_past _ _ _ (by first | omega | (simp only [World.size_alloc]; omega))])
          · rw [World.cell?_drewN]; repeat (first | exact World.cell?_alloc_at _ _ _ _ (by first | rfl | (simp only [World.size_alloc]; done) | (simp only [World.size_alloc]; omega)) | rw [World.cell?_alloc_past _ _ _ (by first | omega | (simp only [World.size_alloc]; omega))])
        · constructor
          · rw [World.cell?_drewN]; repeat (first | exact World.cell?_alloc_at _ _ _ _ (by first | rfl | (simp only [World.size_alloc]; done) | (simp only [World.size_alloc]; omega)) | rw [World.cell?_alloc_past _ _ _ (by first | omega | (simp only [World.size_alloc]; omega))])
          · rw [World.cell?_drewN]; repeat (first | exact World.cell?_alloc_at _ _ _ _ (by first | rfl | (simp only [World.size_alloc]; done) | (simp only [World.size_alloc]; omega)) | rw [World.cell?_alloc_past _ _ _ (by first | omega | (simp only [World.size_alloc]; omega))])
    · refine ⟨some ⟨w.heap.size + 1 + 1 + 1 + 1 + 1 + 1 + 1, 0, none⟩, 2, ?_, ?_, ?_, ?_⟩
      · rw [World.cell?_drewN]; repeat (first | exact World.cell?_alloc_at _ _ _ _ (by first | rfl | (simp only [World.size_alloc]; done) | (simp only [World.size_alloc]; omega)) | rw [World.cell?_alloc_past _ _ _ (by first | omega | (simp only [World.size_alloc]; omega))])
      · rw [World.cell?_drewN]; repeat (first | exact World.cell?_alloc_at _ _ _ _ (by first | rfl | (simp only [World.size_alloc]; done) | (simp only [World.size_alloc]; omega)) | rw [World.cell?_alloc_past _ _ _ (by first | omega | (simp only [World.size_alloc]; omega))])
      · rw [World.cell?_drewN]; repeat (first | exact World.cell?_alloc_at _ _ _ _ (by first | rfl | (simp only [World.size_alloc]; done) | (simp only [World.size_alloc]; omega)) | rw [World.cell?_alloc_past _ _ _ (by first | omega | (simp only [World.size_alloc]; omega))])
      · intro _
        refine ⟨_, _, rfl, by simp <;> omega, fun j hj => ?_⟩
        rcases (show j = 0 ∨ j = 1 by have : j < 2 := hj; omega) with rfl | rfl
        · constructor
          · rw [World.cell?_drewN]; repeat (first | exact World.cell?_alloc_at _ _ _ _ (by first | rfl | (simp only [World.size_alloc]; done) | (simp only [World.size_alloc]; omega)) | rw [World.cell?_alloc_past _ _ _ (by first | omega | (simp only [World.size_alloc]; omega))])
          · rw [World.cell?_drewN]; repeat (first | exact World.cell?_alloc_at _ _ _ _ (by first | rfl | (simp only [World.size_alloc]; done) | (simp only [World.size_alloc]; omega)) | rw [World.cell?_alloc_past _ _ _ (by first | omega | (simp only [World.size_alloc]; omega))])
        · constructor
          · rw [World.cell?_drewN]; repeat (first | exact World.cell?_alloc_at _ _ _ _ (by first | rfl | (simp only [World.size_alloc]; done) | (simp only [World.size_alloc]; omega)) | rw [World.cell?_alloc_past _ _ _ (by first | omega | (simp only [World.size_alloc]; omega))])
          · rw [World.cell?_drewN]; repeat (first | exact World.cell?_alloc_at _ _ _ _ (by first | rfl | (simp only [World.size_alloc]; done) | (simp only [World.size_alloc]; omega)) | rw [World.cell?_alloc_past _ _ _ (by first | omega | (simp only [World.size_alloc]; omega))])

set_option maxHeartbeats 4000000 in
set_option maxRecDepth 100000 in
theorem known1_any (w : World) :
    Calls Tryz.prog 98 #[.int .i64 1] w (KnownP (knownE 1) k1.p w) := by
  go_enter Tryz.func98, Tryz.ntmps98
  go_wp2
  go_quiet (fail)
  go_wp2
  go_ret2
  refine ⟨some ⟨w.heap.size + 1 + 1 + 1 + 1 + 1 + 1 + 1, 0, none⟩, 2, rfl, by decide, ?_, ?_⟩
  · refine below_drewN ?_ _
    repeat (first | exact Below.refl _ _ | refine Below.alloc ?_ (by first | omega | (simp only [World.size_alloc]; omega)) _)
  · intro _
    refine ⟨_, _, rfl, by simp, fun j hj => ?_⟩
    rcases (show j = 0 ∨ j = 1 by have : j < 2 := hj; omega) with rfl | rfl
    · refine ⟨some ⟨w.heap.size, 0, none⟩, 1, ?_, ?_, ?_, ?_⟩
      · rw [World.cell?_drewN]; repeat (first | exact World.cell?_alloc_at _ _ _ _ (by first | rfl | (simp only [World.size_alloc]; done) | (simp only [World.size_alloc]; omega)) | rw [World.cell?_alloc_past _ _ _ (by first | omega | (simp only [World.size_alloc]; omega))])
      · rw [World.cell?_drewN]; repeat (first | exact World.cell?_alloc_at _ _ _ _ (by first | rfl | (simp only [World.size_alloc]; done) | (simp only [World.size_alloc]; omega)) | rw [World.cell?_alloc_past _ _ _ (by first | omega | (simp only [World.size_alloc]; omega))])
      · rw [World.cell?_drewN]; repeat (first | exact World.cell?_alloc_at _ _ _ _ (by first | rfl | (simp only [World.size_alloc]; done) | (simp only [World.size_alloc]; omega)) | rw [World.cell?_alloc_past _ _ _ (by first | omega | (simp only [World.size_alloc]; omega))])
      · intro _
        refine ⟨_, _, rfl, by simp <;> omega, fun j hj => ?_⟩
        rcases (show j = 0 by have : j < 1 := hj; omega) with rfl
        constructor
        · rw [World.cell?_drewN]; repeat (first | exact World.cell?_alloc_at _ _ _ _ (by first | rfl | (simp only [World.size_alloc]; done) | (simp only [World.size_alloc]; omega)) | rw [World.cell?_alloc_past _ _ _ (by first | omega | (simp only [World.size_alloc]; omega))])
        · rw [World.cell?_drewN]; repeat (first | exact World.cell?_alloc_at _ _ _ _ (by first | rfl | (simp only [World.size_alloc]; done) | (simp only [World.size_alloc]; omega)) | rw [World.cell?_alloc_past _ _ _ (by first | omega | (simp only [World.size_alloc]; omega))])
    · refine ⟨some ⟨w.heap.size + 1 + 1 + 1 + 1 + 1 + 1, 0, none⟩, 2, ?_, ?_, ?_, ?_⟩
      · rw [World.cell?_drewN]; repeat (first | exact World.cell?_alloc_at _ _ _ _ (by first | rfl | (simp only [World.size_alloc]; done) | (simp only [World.size_alloc]; omega)) | rw [World.cell?_alloc_past _ _ _ (by first | omega | (simp only [World.size_alloc]; omega))])
      · rw [World.cell?_drewN]; repeat (first | exact World.cell?_alloc_at _ _ _ _ (by first | rfl | (simp only [World.size_alloc]; done) | (simp only [World.size_alloc]; omega)) | rw [World.cell?_alloc_past _ _ _ (by first | omega | (simp only [World.size_alloc]; omega))])
      · rw [World.cell?_drewN]; repeat (first | exact World.cell?_alloc_at _ _ _ _ (by first | rfl | (simp only [World.size_alloc]; done) | (simp only [World.size_alloc]; omega)) | rw [World.cell?_alloc_past _ _ _ (by first | omega | (simp only [World.size_alloc]; omega))])
      · intro _
        refine ⟨_, _, rfl, by simp <;> omega, fun j hj => ?_⟩
        rcases (show j = 0 ∨ j = 1 by have : j < 2 := hj; omega) with rfl | rfl
        · constructor
          · rw [World.cell?_drewN]; repeat (first | exact World.cell?_alloc_at _ _ _ _ (by first | rfl | (simp only [World.size_alloc]; done) | (simp only [World.size_alloc]; omega)) | rw [World.cell?_alloc_past _ _ _ (by first | omega | (simp only [World.size_alloc]; omega))])
          · rw [World.cell?_drewN]; repeat (first | exact World.cell?_alloc_at _ _ _ _ (by first | rfl | (simp only [World.size_alloc]; done) | (simp only [World.size_alloc]; omega)) | rw [World.cell?_alloc_past _ _ _ (by first | omega | (simp only [World.size_alloc]; omega))])
        · constructor
          · rw [World.cell?_drewN]; repeat (first | exact World.cell?_alloc_at _ _ _ _ (by first | rfl | (simp only [World.size_alloc]; done) | (simp only [World.size_alloc]; omega)) | rw [World.cell?_alloc_past _ _ _ (by first | omega | (simp only [World.size_alloc]; omega))])
          · rw [World.cell?_drewN]; repeat (first | exact World.cell?_alloc_at _ _ _ _ (by first | rfl | (simp only [World.size_alloc]; done) | (simp only [World.size_alloc]; omega)) | rw [World.cell?_alloc_past _ _ _ (by first | omega | (simp only [World.size_alloc]; omega))])

set_option maxHeartbeats 4000000 in
set_option maxRecDepth 100000 in
theorem known2_any (w : World) :
    Calls Tryz.prog 98 #[.int .i64 2] w (KnownP (knownE 2) k2.p w) := by
  go_enter Tryz.func98, Tryz.ntmps98
  go_wp2
  go_quiet (fail)
  go_wp2
  go_ret2
  refine ⟨some ⟨w.heap.size + 1 + 1 + 1 + 1 + 1 + 1 + 1, 0, none⟩, 2, rfl, by decide, ?_, ?_⟩
  · refine below_drewN ?_ _
    repeat (first | exact Below.refl _ _ | refine Below.alloc ?_ (by first | omega | (simp only [World.size_alloc]; omega)) _)
  · intro _
    refine ⟨_, _, rfl, by simp, fun j hj => ?_⟩
    rcases (show j = 0 ∨ j = 1 by have : j < 2 := hj; omega) with rfl | rfl
    · refine ⟨some ⟨w.heap.size + 1 + 1, 0, none⟩, 1, ?_, ?_, ?_, ?_⟩
      · rw [World.cell?_drewN]; repeat (first | exact World.cell?_alloc_at _ _ _ _ (by first | rfl | (simp only [World.size_alloc]; done) | (simp only [World.size_alloc]; omega)) | rw [World.cell?_alloc_past _ _ _ (by first | omega | (simp only [World.size_alloc]; omega))])
      · rw [World.cell?_drewN]; repeat (first | exact World.cell?_alloc_at _ _ _ _ (by first | rfl | (simp only [World.size_alloc]; done) | (simp only [World.size_alloc]; omega)) | rw [World.cell?_alloc_past _ _ _ (by first | omega | (simp only [World.size_alloc]; omega))])
      · rw [World.cell?_drewN]; repeat (first | exact World.cell?_alloc_at _ _ _ _ (by first | rfl | (simp only [World.size_alloc]; done) | (simp only [World.size_alloc]; omega)) | rw [World.cell?_alloc_past _ _ _ (by first | omega | (simp only [World.size_alloc]; omega))])
      · intro _
        refine ⟨_, _, rfl, by simp <;> omega, fun j hj => ?_⟩
        rcases (show j = 0 by have : j < 1 := hj; omega) with rfl
        constructor
        · rw [World.cell?_drewN]; repeat (first | exact World.cell?_alloc_at _ _ _ _ (by first | rfl | (simp only [World.size_alloc]; done) | (simp only [World.size_alloc]; omega)) | rw [World.cell?_alloc_past _ _ _ (by first | omega | (simp only [World.size_alloc]; omega))])
        · rw [World.cell?_drewN]; repeat (first | exact World.cell?_alloc_at _ _ _ _ (by first | rfl | (simp only [World.size_alloc]; done) | (simp only [World.size_alloc]; omega)) | rw [World.cell?_alloc_past _ _ _ (by first | omega | (simp only [World.size_alloc]; omega))])
    · refine ⟨some ⟨w.heap.size + 1 + 1 + 1 + 1 + 1 + 1, 0, none⟩, 2, ?_, ?_, ?_, ?_⟩
      · rw [World.cell?_drewN]; repeat (first | exact World.cell?_alloc_at _ _ _ _ (by first | rfl | (simp only [World.size_alloc]; done) | (simp only [World.size_alloc]; omega)) | rw [World.cell?_alloc_past _ _ _ (by first | omega | (simp only [World.size_alloc]; omega))])
      · rw [World.cell?_drewN]; repeat (first | exact World.cell?_alloc_at _ _ _ _ (by first | rfl | (simp only [World.size_alloc]; done) | (simp only [World.size_alloc]; omega)) | rw [World.cell?_alloc_past _ _ _ (by first | omega | (simp only [World.size_alloc]; omega))])
      · rw [World.cell?_drewN]; repeat (first | exact World.cell?_alloc_at _ _ _ _ (by first | rfl | (simp only [World.size_alloc]; done) | (simp only [World.size_alloc]; omega)) | rw [World.cell?_alloc_past _ _ _ (by first | omega | (simp only [World.size_alloc]; omega))])
      · intro _
        refine ⟨_, _, rfl, by simp <;> omega, fun j hj => ?_⟩
        rcases (show j = 0 ∨ j = 1 by have : j < 2 := hj; omega) with rfl | rfl
        · constructor
          · rw [World.cell?_drewN]; repeat (first | exact World.cell?_alloc_at _ _ _ _ (by first | rfl | (simp only [World.size_alloc]; done) | (simp only [World.size_alloc]; omega)) | rw [World.cell?_alloc_past _ _ _ (by first | omega | (simp only [World.size_alloc]; omega))])
          · rw [World.cell?_drewN]; repeat (first | exact World.cell?_alloc_at _ _ _ _ (by first | rfl | (simp only [World.size_alloc]; done) | (simp only [World.size_alloc]; omega)) | rw [World.cell?_alloc_past _ _ _ (by first | omega | (simp only [World.size_alloc]; omega))])
        · constructor
          · rw [World.cell?_drewN]; repeat (first | exact World.cell?_alloc_at _ _ _ _ (by first | rfl | (simp only [World.size_alloc]; done) | (simp only [World.size_alloc]; omega)) | rw [World.cell?_alloc_past _ _ _ (by first | omega | (simp only [World.size_alloc]; omega))])
          · rw [World.cell?_drewN]; repeat (first | exact World.cell?_alloc_at _ _ _ _ (by first | rfl | (simp only [World.size_alloc]; done) | (simp only [World.size_alloc]; omega)) | rw [World.cell?_alloc_past _ _ _ (by first | omega | (simp only [World.size_alloc]; omega))])

set_option maxHeartbeats 4000000 in
set_option maxRecDepth 100000 in
theorem known3_any (w : World) :
    Calls Tryz.prog 98 #[.int .i64 3] w (KnownP (knownE 3) k3.p w) := by
  go_enter Tryz.func98, Tryz.ntmps98
  go_wp2
  go_quiet (fail)
  go_wp2
  go_ret2
  refine ⟨some ⟨w.heap.size + 1 + 1 + 1 + 1 + 1 + 1 + 1, 0, none⟩, 3, rfl, by decide, ?_, ?_⟩
  · refine below_drewN ?_ _
    repeat (first | exact Below.refl _ _ | refine Below.alloc ?_ (by first | omega | (simp only [World.size_alloc]; omega)) _)
  · intro _
    refine ⟨_, _, rfl, by simp, fun j hj => ?_⟩
    rcases (show j = 0 ∨ j = 1 ∨ j = 2 by have : j < 3 := hj; omega) with rfl | rfl | rfl
    · refine ⟨some ⟨w.heap.size, 0, none⟩, 1, ?_, ?_, ?_, ?_⟩
      · rw [World.cell?_drewN]; repeat (first | exact World.cell?_alloc_at _ _ _ _ (by first | rfl | (simp only [World.size_alloc]; done) | (simp only [World.size_alloc]; omega)) | rw [World.cell?_alloc_past _ _ _ (by first | omega | (simp only [World.size_alloc]; omega))])
      · rw [World.cell?_drewN]; repeat (first | exact World.cell?_alloc_at _ _ _ _ (by first | rfl | (simp only [World.size_alloc]; done) | (simp only [World.size_alloc]; omega)) | rw [World.cell?_alloc_past _ _ _ (by first | omega | (simp only [World.size_alloc]; omega))])
      · rw [World.cell?_drewN]; repeat (first | exact World.cell?_alloc_at _ _ _ _ (by first | rfl | (simp only [World.size_alloc]; done) | (simp only [World.size_alloc]; omega)) | rw [World.cell?_alloc_past _ _ _ (by first | omega | (simp only [World.size_alloc]; omega))])
      · intro _
        refine ⟨_, _, rfl, by simp <;> omega, fun j hj => ?_⟩
        rcases (show j = 0 by have : j < 1 := hj; omega) with rfl
        constructor
        · rw [World.cell?_drewN]; repeat (first | exact World.cell?_alloc_at _ _ _ _ (by first | rfl | (simp only [World.size_alloc]; done) | (simp only [World.size_alloc]; omega)) | rw [World.cell?_alloc_past _ _ _ (by first | omega | (simp only [World.size_alloc]; omega))])
        · rw [World.cell?_drewN]; repeat (first | exact World.cell?_alloc_at _ _ _ _ (by first | rfl | (simp only [World.size_alloc]; done) | (simp only [World.size_alloc]; omega)) | rw [World.cell?_alloc_past _ _ _ (by first | omega | (simp only [World.size_alloc]; omega))])
    · refine ⟨some ⟨w.heap.size + 1 + 1, 0, none⟩, 1, ?_, ?_, ?_, ?_⟩
      · rw [World.cell?_drewN]; repeat (first | exact World.cell?_alloc_at _ _ _ _ (by first | rfl | (simp only [World.size_alloc]; done) | (simp only [World.size_alloc]; omega)) | rw [World.cell?_alloc_past _ _ _ (by first | omega | (simp only [World.size_alloc]; omega))])
      · rw [World.cell?_drewN]; repeat (first | exact World.cell?_alloc_at _ _ _ _ (by first | rfl | (simp only [World.size_alloc]; done) | (simp only [World.size_alloc]; omega)) | rw [World.cell?_alloc_past _ _ _ (by first | omega | (simp only [World.size_alloc]; omega))])
      · rw [World.cell?_drewN]; repeat (first | exact World.cell?_alloc_at _ _ _ _ (by first | rfl | (simp only [World.size_alloc]; done) | (simp only [World.size_alloc]; omega)) | rw [World.cell?_alloc_past _ _ _ (by first | omega | (simp only [World.size_alloc]; omega))])
      · intro _
        refine ⟨_, _, rfl, by simp <;> omega, fun j hj => ?_⟩
        rcases (show j = 0 by have : j < 1 := hj; omega) with rfl
        constructor
        · rw [World.cell?_drewN]; repeat (first | exact World.cell?_alloc_at _ _ _ _ (by first | rfl | (simp only [World.size_alloc]; done) | (simp only [World.size_alloc]; omega)) | rw [World.cell?_alloc_past _ _ _ (by first | omega | (simp only [World.size_alloc]; omega))])
        · rw [World.cell?_drewN]; repeat (first | exact World.cell?_alloc_at _ _ _ _ (by first | rfl | (simp only [World.size_alloc]; done) | (simp only [World.size_alloc]; omega)) | rw [World.cell?_alloc_past _ _ _ (by first | omega | (simp only [World.size_alloc]; omega))])
    · refine ⟨some ⟨w.heap.size + 1 + 1 + 1 + 1 + 1 + 1, 0, none⟩, 3, ?_, ?_, ?_, ?_⟩
      · rw [World.cell?_drewN]; repeat (first | exact World.cell?_alloc_at _ _ _ _ (by first | rfl | (simp only [World.size_alloc]; done) | (simp only [World.size_alloc]; omega)) | rw [World.cell?_alloc_past _ _ _ (by first | omega | (simp only [World.size_alloc]; omega))])
      · rw [World.cell?_drewN]; repeat (first | exact World.cell?_alloc_at _ _ _ _ (by first | rfl | (simp only [World.size_alloc]; done) | (simp only [World.size_alloc]; omega)) | rw [World.cell?_alloc_past _ _ _ (by first | omega | (simp only [World.size_alloc]; omega))])
      · rw [World.cell?_drewN]; repeat (first | exact World.cell?_alloc_at _ _ _ _ (by first | rfl | (simp only [World.size_alloc]; done) | (simp only [World.size_alloc]; omega)) | rw [World.cell?_alloc_past _ _ _ (by first | omega | (simp only [World.size_alloc]; omega))])
      · intro _
        refine ⟨_, _, rfl, by simp <;> omega, fun j hj => ?_⟩
        rcases (show j = 0 ∨ j = 1 ∨ j = 2 by have : j < 3 := hj; omega) with rfl | rfl | rfl
        · constructor
          · rw [World.cell?_drewN]; repeat (first | exact World.cell?_alloc_at _ _ _ _ (by first | rfl | (simp only [World.size_alloc]; done) | (simp only [World.size_alloc]; omega)) | rw [World.cell?_alloc_past _ _ _ (by first | omega | (simp only [World.size_alloc]; omega))])
          · rw [World.cell?_drewN]; repeat (first | exact World.cell?_alloc_at _ _ _ _ (by first | rfl | (simp only [World.size_alloc]; done) | (simp only [World.size_alloc]; omega)) | rw [World.cell?_alloc_past _ _ _ (by first | omega | (simp only [World.size_alloc]; omega))])
        · constructor
          · rw [World.cell?_drewN]; repeat (first | exact World.cell?_alloc_at _ _ _ _ (by first | rfl | (simp only [World.size_alloc]; done) | (simp only [World.size_alloc]; omega)) | rw [World.cell?_alloc_past _ _ _ (by first | omega | (simp only [World.size_alloc]; omega))])
          · rw [World.cell?_drewN]; repeat (first | exact World.cell?_alloc_at _ _ _ _ (by first | rfl | (simp only [World.size_alloc]; done) | (simp only [World.size_alloc]; omega)) | rw [World.cell?_alloc_past _ _ _ (by first | omega | (simp only [World.size_alloc]; omega))])
        · constructor
          · rw [World.cell?_drewN]; repeat (first | exact World.cell?_alloc_at _ _ _ _ (by first | rfl | (simp only [World.size_alloc]; done) | (simp only [World.size_alloc]; omega)) | rw [World.cell?_alloc_past _ _ _ (by first | omega | (simp only [World.size_alloc]; omega))])
          · rw [World.cell?_drewN]; repeat (first | exact World.cell?_alloc_at _ _ _ _ (by first | rfl | (simp only [World.size_alloc]; done) | (simp only [World.size_alloc]; omega)) | rw [World.cell?_alloc_past _ _ _ (by first | omega | (simp only [World.size_alloc]; omega))])

set_option maxHeartbeats 4000000 in
set_option maxRecDepth 100000 in
theorem known4_any (w : World) :
    Calls Tryz.prog 98 #[.int .i64 4] w (KnownP (knownE 4) k4.p w) := by
  go_enter Tryz.func98, Tryz.ntmps98
  go_wp2
  go_quiet (fail)
  go_wp2
  go_ret2
  refine ⟨some ⟨w.heap.size + 1 + 1 + 1 + 1 + 1 + 1 + 1, 0, none⟩, 3, rfl, by decide, ?_, ?_⟩
  · refine below_drewN ?_ _
    repeat (first | exact Below.refl _ _ | refine Below.alloc ?_ (by first | omega | (simp only [World.size_alloc]; omega)) _)
  · intro _
    refine ⟨_, _, rfl, by simp, fun j hj => ?_⟩
    rcases (show j = 0 ∨ j = 1 ∨ j = 2 by have : j < 3 := hj; omega) with rfl | rfl | rfl
    · refine ⟨some ⟨w.heap.size, 0, none⟩, 1, ?_, ?_, ?_, ?_⟩
      · rw [World.cell?_drewN]; repeat (first | exact World.cell?_alloc_at _ _ _ _ (by first | rfl | (simp only [World.size_alloc]; done) | (simp only [World.size_alloc]; omega)) | rw [World.cell?_alloc_past _ _ _ (by first | omega | (simp only [World.size_alloc]; omega))])
      · rw [World.cell?_drewN]; repeat (first | exact World.cell?_alloc_at _ _ _ _ (by first | rfl | (simp only [World.size_alloc]; done) | (simp only [World.size_alloc]; omega)) | rw [World.cell?_alloc_past _ _ _ (by first | omega | (simp only [World.size_alloc]; omega))])
      · rw [World.cell?_drewN]; repeat (first | exact World.cell?_alloc_at _ _ _ _ (by first | rfl | (simp only [World.size_alloc]; done) | (simp only [World.size_alloc]; omega)) | rw [World.cell?_alloc_past _ _ _ (by first | omega | (simp only [World.size_alloc]; omega))])
      · intro _
        refine ⟨_, _, rfl, by simp <;> omega, fun j hj => ?_⟩
        rcases (show j = 0 by have : j < 1 := hj; omega) with rfl
        constructor
        · rw [World.cell?_drewN]; repeat (first | exact World.cell?_alloc_at _ _ _ _ (by first | rfl | (simp only [World.size_alloc]; done) | (simp only [World.size_alloc]; omega)) | rw [World.cell?_alloc_past _ _ _ (by first | omega | (simp only [World.size_alloc]; omega))])
        · rw [World.cell?_drewN]; repeat (first | exact World.cell?_alloc_at _ _ _ _ (by first | rfl | (simp only [World.size_alloc]; done) | (simp only [World.size_alloc]; omega)) | rw [World.cell?_alloc_past _ _ _ (by first | omega | (simp only [World.size_alloc]; omega))])
    · refine ⟨some ⟨w.heap.size + 1 + 1 + 1 + 1, 0, none⟩, 2, ?_, ?_, ?_, ?_⟩
      · rw [World.cell?_drewN]; repeat (first | exact World.cell?_alloc_at _ _ _ _ (by first | rfl | (simp only [World.size_alloc]; done) | (simp only [World.size_alloc]; omega)) | rw [World.cell?_alloc_past _ _ _ (by first | omega | (simp only [World.size_alloc]; omega))])
      · rw [World.cell?_drewN]; repeat (first | exact World.cell?_alloc_at _ _ _ _ (by first | rfl | (simp only [World.size_alloc]; done) | (simp only [World.size_alloc]; omega)) | rw [World.cell?_alloc_past _ _ _ (by first | omega | (simp only [World.size_alloc]; omega))])
      · rw [World.cell?_drewN]; repeat (first | exact World.cell?_alloc_at _ _ _ _ (by first | rfl | (simp only [World.size_alloc]; done) | (simp only [World.size_alloc]; omega)) | rw [World.cell?_alloc_past _ _ _ (by first | omega | (simp only [World.size_alloc]; omega))])
      · intro _
        refine ⟨_, _, rfl, by simp <;> omega, fun j hj => ?_⟩
        rcases (show j = 0 ∨ j = 1 by have : j < 2 := hj; omega) with rfl | rfl
        · constructor
          · rw [World.cell?_drewN]; repeat (first | exact World.cell?_alloc_at _ _ _ _ (by first | rfl | (simp only [World.size_alloc]; done) | (simp only [World.size_alloc]; omega)) | rw [World.cell?_alloc_past _ _ _ (by first | omega | (simp only [World.size_alloc]; omega))])
          · rw [World.cell?_drewN]; repeat (first | exact World.cell?_alloc_at _ _ _ _ (by first | rfl | (simp only [World.size_alloc]; done) | (simp only [World.size_alloc]; omega)) | rw [World.cell?_alloc_past _ _ _ (by first | omega | (simp only [World.size_alloc]; omega))])
        · constructor
          · rw [World.cell?_drewN]; repeat (first | exact World.cell?_alloc_at _ _ _ _ (by first | rfl | (simp only [World.size_alloc]; done) | (simp only [World.size_alloc]; omega)) | rw [World.cell?_alloc_past _ _ _ (by first | omega | (simp only [World.size_alloc]; omega))])
          · rw [World.cell?_drewN]; repeat (first | exact World.cell?_alloc_at _ _ _ _ (by first | rfl | (simp only [World.size_alloc]; done) | (simp only [World.size_alloc]; omega)) | rw [World.cell?_alloc_past _ _ _ (by first | omega | (simp only [World.size_alloc]; omega))])
    · refine ⟨some ⟨w.heap.size + 1 + 1 + 1 + 1 + 1 + 1, 0, none⟩, 2, ?_, ?_, ?_, ?_⟩
      · rw [World.cell?_drewN]; repeat (first | exact World.cell?_alloc_at _ _ _ _ (by first | rfl | (simp only [World.size_alloc]; done) | (simp only [World.size_alloc]; omega)) | rw [World.cell?_alloc_past _ _ _ (by first | omega | (simp only [World.size_alloc]; omega))])
      · rw [World.cell?_drewN]; repeat (first | exact World.cell?_alloc_at _ _ _ _ (by first | rfl | (simp only [World.size_alloc]; done) | (simp only [World.size_alloc]; omega)) | rw [World.cell?_alloc_past _ _ _ (by first | omega | (simp only [World.size_alloc]; omega))])
      · rw [World.cell?_drewN]; repeat (first | exact World.cell?_alloc_at _ _ _ _ (by first | rfl | (simp only [World.size_alloc]; done) | (simp only [World.size_alloc]; omega)) | rw [World.cell?_alloc_past _ _ _ (by first | omega | (simp only [World.size_alloc]; omega))])
      · intro _
        refine ⟨_, _, rfl, by simp <;> omega, fun j hj => ?_⟩
        rcases (show j = 0 ∨ j = 1 by have : j < 2 := hj; omega) with rfl | rfl
        · constructor
          · rw [World.cell?_drewN]; repeat (first | exact World.cell?_alloc_at _ _ _ _ (by first | rfl | (simp only [World.size_alloc]; done) | (simp only [World.size_alloc]; omega)) | rw [World.cell?_alloc_past _ _ _ (by first | omega | (simp only [World.size_alloc]; omega))])
          · rw [World.cell?_drewN]; repeat (first | exact World.cell?_alloc_at _ _ _ _ (by first | rfl | (simp only [World.size_alloc]; done) | (simp only [World.size_alloc]; omega)) | rw [World.cell?_alloc_past _ _ _ (by first | omega | (simp only [World.size_alloc]; omega))])
        · constructor
          · rw [World.cell?_drewN]; repeat (first | exact World.cell?_alloc_at _ _ _ _ (by first | rfl | (simp only [World.size_alloc]; done) | (simp only [World.size_alloc]; omega)) | rw [World.cell?_alloc_past _ _ _ (by first | omega | (simp only [World.size_alloc]; omega))])
          · rw [World.cell?_drewN]; repeat (first | exact World.cell?_alloc_at _ _ _ _ (by first | rfl | (simp only [World.size_alloc]; done) | (simp only [World.size_alloc]; omega)) | rw [World.cell?_alloc_past _ _ _ (by first | omega | (simp only [World.size_alloc]; omega))])

set_option maxHeartbeats 4000000 in
set_option maxRecDepth 100000 in
theorem known5_any (w : World) :
    Calls Tryz.prog 98 #[.int .i64 5] w (KnownP (knownE 5) k5.p w) := by
  go_enter Tryz.func98, Tryz.ntmps98
  go_wp2
  go_quiet (fail)
  go_wp2
  go_ret2
  refine ⟨some ⟨w.heap.size + 1 + 1 + 1 + 1 + 1 + 1 + 1, 0, none⟩, 2, rfl, by decide, ?_, ?_⟩
  · refine below_drewN ?_ _
    repeat (first | exact Below.refl _ _ | refine Below.alloc ?_ (by first | omega | (simp only [World.size_alloc]; omega)) _)
  · intro _
    refine ⟨_, _, rfl, by simp, fun j hj => ?_⟩
    rcases (show j = 0 ∨ j = 1 by have : j < 2 := hj; omega) with rfl | rfl
    · refine ⟨some ⟨w.heap.size + 1 + 1, 0, none⟩, 1, ?_, ?_, ?_, ?_⟩
      · rw [World.cell?_drewN]; repeat (first | exact World.cell?_alloc_at _ _ _ _ (by first | rfl | (simp only [World.size_alloc]; done) | (simp only [World.size_alloc]; omega)) | rw [World.cell?_alloc_past _ _ _ (by first | omega | (simp only [World.size_alloc]; omega))])
      · rw [World.cell?_drewN]; repeat (first | exact World.cell?_alloc_at _ _ _ _ (by first | rfl | (simp only [World.size_alloc]; done) | (simp only [World.size_alloc]; omega)) | rw [World.cell?_alloc_past _ _ _ (by first | omega | (simp only [World.size_alloc]; omega))])
      · rw [World.cell?_drewN]; repeat (first | exact World.cell?_alloc_at _ _ _ _ (by first | rfl | (simp only [World.size_alloc]; done) | (simp only [World.size_alloc]; omega)) | rw [World.cell?_alloc_past _ _ _ (by first | omega | (simp only [World.size_alloc]; omega))])
      · intro _
        refine ⟨_, _, rfl, by simp <;> omega, fun j hj => ?_⟩
        rcases (show j = 0 by have : j < 1 := hj; omega) with rfl
        constructor
        · rw [World.cell?_drewN]; repeat (first | exact World.cell?_alloc_at _ _ _ _ (by first | rfl | (simp only [World.size_alloc]; done) | (simp only [World.size_alloc]; omega)) | rw [World.cell?_alloc_past _ _ _ (by first | omega | (simp only [World.size_alloc]; omega))])
        · rw [World.cell?_drewN]; repeat (first | exact World.cell?_alloc_at _ _ _ _ (by first | rfl | (simp only [World.size_alloc]; done) | (simp only [World.size_alloc]; omega)) | rw [World.cell?_alloc_past _ _ _ (by first | omega | (simp only [World.size_alloc]; omega))])
    · refine ⟨some ⟨w.heap.size + 1 + 1 + 1 + 1 + 1 + 1, 0, none⟩, 2, ?_, ?_, ?_, ?_⟩
      · rw [World.cell?_drewN]; repeat (first | exact World.cell?_alloc_at _ _ _ _ (by first | rfl | (simp only [World.size_alloc]; done) | (simp only [World.size_alloc]; omega)) | rw [World.cell?_alloc_past _ _ _ (by first | omega | (simp only [World.size_alloc]; omega))])
      · rw [World.cell?_drewN]; repeat (first | exact World.cell?_alloc_at _ _ _ _ (by first | rfl | (simp only [World.size_alloc]; done) | (simp only [World.size_alloc]; omega)) | rw [World.cell?_alloc_past _ _ _ (by first | omega | (simp only [World.size_alloc]; omega))])
      · rw [World.cell?_drewN]; repeat (first | exact World.cell?_alloc_at _ _ _ _ (by first | rfl | (simp only [World.size_alloc]; done) | (simp only [World.size_alloc]; omega)) | rw [World.cell?_alloc_past _ _ _ (by first | omega | (simp only [World.size_alloc]; omega))])
      · intro _
        refine ⟨_, _, rfl, by simp <;> omega, fun j hj => ?_⟩
        rcases (show j = 0 ∨ j = 1 by have : j < 2 := hj; omega) with rfl | rfl
        · constructor
          · rw [World.cell?_drewN]; repeat (first | exact World.cell?_alloc_at _ _ _ _ (by first | rfl | (simp only [World.size_alloc]; done) | (simp only [World.size_alloc]; omega)) | rw [World.cell?_alloc_past _ _ _ (by first | omega | (simp only [World.size_alloc]; omega))])
          · rw [World.cell?_drewN]; repeat (first | exact World.cell?_alloc_at _ _ _ _ (by first | rfl | (simp only [World.size_alloc]; done) | (simp only [World.size_alloc]; omega)) | rw [World.cell?_alloc_past _ _ _ (by first | omega | (simp only [World.size_alloc]; omega))])
        · constructor
          · rw [World.cell?_drewN]; repeat (first | exact World.cell?_alloc_at _ _ _ _ (by first | rfl | (simp only [World.size_alloc]; done) | (simp only [World.size_alloc]; omega)) | rw [World.cell?_alloc_past _ _ _ (by first | omega | (simp only [World.size_alloc]; omega))])
          · rw [World.cell?_drewN]; repeat (first | exact World.cell?_alloc_at _ _ _ _ (by first | rfl | (simp only [World.size_alloc]; done) | (simp only [World.size_alloc]; omega)) | rw [World.cell?_alloc_past _ _ _ (by first | omega | (simp only [World.size_alloc]; omega))])

end Go.Proofs.YtmalmijdjhkklaaGreat
