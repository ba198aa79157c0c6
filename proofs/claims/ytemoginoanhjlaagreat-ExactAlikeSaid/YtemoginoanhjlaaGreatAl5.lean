/- What laws' first checks need: the field of 5. -/
import Derived.Test.YtemoginoanhjlaaGreatWSeqToSmall
import Derived.Test.YtemoginoanhjlaaGreatWRef06ToMs24
import Derived.Test.YtemoginoanhjlaaGreatWTwidToRdB
import Derived.Test.YtemoginoanhjlaaGreatWP2ToR2A
set_option linter.unusedVariables false
set_option linter.unusedSimpArgs false
set_option linter.unusedSectionVars false
set_option linter.unusedVariables false
set_option linter.unusedSimpArgs false
namespace Go.Proofs.YtemoginoanhjlaaGreat
open Go.RowKit
open Alg

theorem prime5 : Prime 5 := ⟨by decide, fun d hd => by
  have := Nat.le_of_dvd (by decide) hd
  rcases (show d = 0 ∨ d = 1 ∨ d = 2 ∨ d = 3 ∨ d = 4 ∨ d = 5 by omega) with rfl | rfl | rfl | rfl | rfl | rfl
  · omega
  · exact .inl rfl
  · omega
  · omega
  · omega
  · exact .inr rfl⟩
theorem gen5 : IsGen 5 2 := by
  refine ⟨by omega, fun q hq hd => ?_, fun h a b => by omega⟩
  have h4 := Nat.le_of_dvd (by decide) hd
  have := hq.1
  rcases (show q = 2 ∨ q = 3 ∨ q = 4 by omega) with rfl | rfl | rfl <;> decide
theorem oddP5 : OddP 5 := ⟨by decide, by decide, prime5⟩
theorem alive13_val : lst (p := 5) 4 (tr (zt 5 2) 4 false (rz 5 [1, 2, 3, 4])) = [0, 4, 3, 2] := by decide
theorem fault13_5 : fault13 5 [1, 2, 3, 4] = 0 := by decide
theorem Cert.nat {q : Nat} {g : Int} (h : Cert (q : Int) g) : Prime q ∧ ∀ [NeZero q], Ord (zt q g) (q - 1) := h.prime
/-- A literal list in memory. -/
theorem RdU.lit (w : World) (xs : List Int) : RdI (w.alloc (.cells (ints .u64 xs).toArray 22)) (w.heap.size + 1) .u64 (some ⟨w.heap.size, 0, none⟩) xs := fun _ => by
  refine ⟨w.heap.size, 0, rfl, by omega, fun j hj => ?_⟩
  rw [Nat.zero_add, World.cell?_alloc_at _ _ _ _ rfl]
  simp [ints, hj, List.getD_eq_getElem?_getD]
/-- Small at 5. -/
theorem small5_any (w : World) : Calls Tryz.prog 42 #[.int .u64 5] w fun r w' => ∃ v, r = .returned (.tuple #[v, .int .i64 0]) ∧ Cert 5 2 ∧ Fd w' w'.heap.size v 5 2 ∧ Below w.heap.size w w' := by
  refine (Small_any 5 w (by omega) (by omega)).mono ?_
  rintro r w' (⟨_, g, hg, hM⟩ | ⟨hn, _⟩)
  · obtain rfl : g = 2 := hg.unique gen5
    obtain ⟨hB, ⟨er, h0, _⟩ | ⟨v, _, hc, hr, hF⟩⟩ := hM
    · omega
    · exact ⟨v, hr, hc, hF, hB⟩
  · exact absurd oddP5 hn
theorem MadeR.below' {v : Value} {p g : Int} {w w' : World} (h : MadeR v p g w) (hb : Below w.heap.size w w') : MadeR v p g w' := by
  rcases h with h | ⟨a, b, c⟩
  · exact .inl h
  · exact .inr ⟨a, b, (c.below hb).mono hb.size⟩
end Go.Proofs.YtemoginoanhjlaaGreat
