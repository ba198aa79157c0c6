/- Which error: transforms that are filled up to a power of two. -/
import Derived.Test.YthhkljfgkihfgaaGreatWP2R2ABack
import Derived.Test.YthhkljfgkihfgaaGreatSieve
set_option linter.unusedVariables false
set_option linter.unusedSimpArgs false
set_option linter.unusedSectionVars false
set_option linter.unusedVariables false
set_option linter.unusedSimpArgs false
namespace Go.Proofs.YthhkljfgkihfgaaGreat
open Go.RowKit
open Alg
/-- Whether a length that is filled up to r can be. -/
def fitR (r p : Int) : Bool := decide (0 < r) && ((p - 1) % r == 0)
def faultR (r p : Int) (L : List Int) : Int := if chk p L.length 1024 ≠ 0 then chk p L.length 1024 else if fitR r p = false then 11 else if goodB p L = false then 9 else 0
theorem faultR_parts {r p : Int} {L : List Int} (h : faultR r p L = 0) : chk p L.length 1024 = 0 ∧ fitR r p = true ∧ goodB p L = true := by
  unfold faultR at h
  split at h
  · rename_i h1; exact absurd h h1
  · rename_i h1
    split at h
    · omega
    · rename_i h2
      split at h
      · omega
      · rename_i h3
        exact ⟨by simpa using h1, by simpa using h2, by simpa using h3⟩
theorem faultR_of {r p : Int} {L : List Int} (h1 : chk p L.length 1024 = 0) (h2 : fitR r p = true) (h3 : goodB p L = true) : faultR r p L = 0 := by
  unfold faultR
  rw [if_neg (by simp [h1]), if_neg (by simp [h2]), if_neg (by simp [h3])]
theorem pd_spec {m : Int} (h : m ≤ 4096) : p2 (pd m) = true ∧ m ≤ pd m ∧ 1 ≤ pd m ∧ pd m ≤ 4096 := by
  rcases (show m ≤ 1 ∨ (1 < m ∧ m ≤ 2) ∨ (2 < m ∧ m ≤ 4) ∨ (4 < m ∧ m ≤ 8) ∨ (8 < m ∧ m ≤ 16) ∨ (16 < m ∧ m ≤ 32) ∨ (32 < m ∧ m ≤ 64) ∨ (64 < m ∧ m ≤ 128) ∨ (128 < m ∧ m ≤ 256) ∨ (256 < m ∧ m ≤ 512) ∨ (512 < m ∧ m ≤ 1024) ∨ (1024 < m ∧ m ≤ 2048) ∨ (2048 < m ∧ m ≤ 4096) by omega) with h | h | h | h | h | h | h | h | h | h | h | h | h
  all_goals (unfold pd; (repeat rw [if_neg (by omega)]); (try rw [if_pos (by omega)]); exact ⟨by decide, by omega, by omega, by omega⟩)
theorem fitR_chk {r p : Int} (h : fitR r p = true) (h1 : r ≤ 4096) : chk p r 4096 = 0 := by
  unfold fitR at h
  simp only [Bool.and_eq_true, decide_eq_true_eq, beq_iff_eq] at h
  unfold chk
  rw [if_neg (by omega), if_neg (by omega), if_pos h.2]
end Go.Proofs.YthhkljfgkihfgaaGreat
