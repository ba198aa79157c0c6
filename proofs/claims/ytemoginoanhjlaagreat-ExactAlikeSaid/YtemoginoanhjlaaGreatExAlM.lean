/- The law ExactAlike, in plain Lean: turned lists, lists of sizes; the other way round. -/
import Derived.Test.YtemoginoanhjlaaGreatWExNToExS
import Derived.Test.YtemoginoanhjlaaGreatSp24
import Derived.Test.YtemoginoanhjlaaGreatOpenI
set_option linter.unusedVariables false
set_option linter.unusedSimpArgs false
set_option linter.unusedSectionVars false
set_option linter.unusedVariables false
set_option linter.unusedSimpArgs false
namespace Go.Proofs.YtemoginoanhjlaaGreat
open Go.RowKit
open Alg
theorem info_i64x : (Tryz.prog.info? 3).map (fun i => (i.zero, i.size, i.bytes)) = some (some (.int .i64 0), 1, 8) := by kernel_rfl
theorem ints_snocI {M : List Int} {k : Nat} (h : k < M.length) : ints .i64 (M.take (k + 1)) = ints .i64 (M.take k) ++ [Value.int .i64 (M.getD k 0)] := by
  unfold ints
  rw [List.take_succ_eq_append_getElem h, List.map_append, List.getD_eq_getElem?_getD, List.getElem?_eq_getElem h]
  rfl
def turnL (L : List Int) : List Int := L.map fun x => -x
theorem turnL_length (L : List Int) : (turnL L).length = L.length := by simp [turnL]
theorem turnL_get (L : List Int) (i : Nat) : (turnL L).getD i 0 = -(L.getD i 0) := by
  simp only [turnL, List.getD_eq_getElem?_getD, List.getElem?_map]
  cases L[i]? <;> rfl
theorem nomin_step {L : List Int} {k : Nat} (h : ∀ i, i < k → L.getD i 0 ≠ -9223372036854775808) (hk : L.getD k 0 ≠ -9223372036854775808) : ∀ i, i < k + 1 → L.getD i 0 ≠ -9223372036854775808 := fun i hi => by
  rcases Nat.lt_or_ge i k with h1 | h1
  · exact h i h1
  · obtain rfl : i = k := by omega
    exact hk
/-- No number is the least one. -/
def NoMin (L : List Int) : Prop := ∀ i, i < L.length → L.getD i 0 ≠ -9223372036854775808
theorem i64s_at {L : List Int} (h : I64s L) {k : Nat} (hk : k < L.length) : -9223372036854775808 ≤ L.getD k 0 ∧ L.getD k 0 ≤ 9223372036854775807 :=
  h _ (by rw [List.getD_eq_getElem?_getD, List.getElem?_eq_getElem hk]; exact List.getElem_mem hk)
theorem turnL_i64 {L : List Int} (h : I64s L) (hn : NoMin L) : I64s (turnL L) := fun x hx => by
  obtain ⟨i, hi, rfl⟩ := List.getElem_of_mem hx
  have e : (turnL L)[i] = (turnL L).getD i 0 := by rw [List.getD_eq_getElem?_getD, List.getElem?_eq_getElem hi]; rfl
  rw [turnL_length] at hi
  have h1 := i64s_at h hi
  have h2 := hn i hi
  rw [e, turnL_get]
  omega
theorem sizesL_i64 {L : List Int} (h : I64s L) (hn : NoMin L) : I64s (sizesL L) := fun x hx => by
  obtain ⟨i, hi, rfl⟩ := List.getElem_of_mem hx
  have e : (sizesL L)[i] = (sizesL L).getD i 0 := by rw [List.getD_eq_getElem?_getD, List.getElem?_eq_getElem hi]; rfl
  rw [sizesL_length] at hi
  have h1 := i64s_at h hi
  have h2 := hn i hi
  rw [e, sizesL_get]
  omega
theorem sizesL_turn (L : List Int) : sizesL (turnL L) = sizesL L := by
  unfold sizesL turnL
  rw [List.map_map]
  exact List.map_congr_left fun x _ => by simp
theorem sizesL_twice (L : List Int) : sizesL (sizesL L) = sizesL L := by
  unfold sizesL
  rw [List.map_map]
  exact List.map_congr_left fun x _ => by simp
theorem cI_turn (A B : List Int) (k : Nat) : cI (turnL A) B k = -cI A B k := by
  unfold cI
  rw [← sI_neg]
  exact sI_congr fun i _ => by rw [turnL_get, Int.neg_mul]
theorem fitsB_comm (N : Nat) (c : Int) (a b : Nat) (d : Bool) : fitsB N c b a d = fitsB N c a b d := by
  unfold fitsB; rw [Nat.mul_comm b a]
theorem mnI_comm (n m : Nat) : mnI (m : Int) n = mnI (n : Int) m := by rw [mnI_eq, mnI_eq, Nat.min_comm]
theorem chkX_comm {p q r n m a b : Nat} {d : Bool} (h : chkX p q r n m a b d = 0) : chkX p q r m n b a d = 0 := by
  obtain ⟨h1, h2, h3, h4, h5⟩ := chkX_zero h
  unfold chkX
  rw [if_neg (by omega), if_neg (by omega), show (m : Int) + (n : Int) - 1 = (n : Int) + (m : Int) - 1 by omega, if_neg (by rw [(allFit_iff _ _ _ _).2 h4]; decide), fitsB_comm, mnI_comm, if_neg (by rw [h5]; decide)]
theorem chkX_half {p q r n m a b : Nat} (h : chkX p q r n m a b true = 0) : chkX p q r n m a b false = 0 := by
  obtain ⟨h1, h2, h3, h4, h5⟩ := chkX_zero h
  have h6 : fitsB (p * q * r) (mnI n m) a b false = true := by
    unfold fitsB at h5 ⊢
    rw [Bool.and_eq_true, decide_eq_true_eq, decide_eq_true_eq] at h5 ⊢
    refine ⟨h5.1, ?_⟩
    have := h5.2
    simp only [if_true, Bool.false_eq_true, if_false] at this ⊢
    omega
  unfold chkX
  rw [if_neg (by omega), if_neg (by omega), if_neg (by rw [(allFit_iff _ _ _ _).2 h4]; decide), if_neg (by rw [h6]; decide)]
theorem xres_ok {w w' : World} {e : Ending} {er : Int} {n : Nat} {X : Nat → Nat} (h : XRes w w' e er n X) (h0 : er = 0) : ∃ G, e = .returned (.tuple #[.slice (some ⟨G, 0, none⟩) n n, .int .i64 0]) ∧ w.heap.size ≤ G ∧ R3 w' G n X ∧ Below w.heap.size w w' := by
  obtain ⟨⟨h1, _⟩ | ⟨_, G, e1, e2, e3⟩, hB⟩ := h
  · exact absurd h0 h1
  · exact ⟨G, e1, e2, e3, hB⟩
theorem dif_neg192 (c : Int) : three (dif 0 (w192 c)) = three (w192 (-c)) := by
  rw [← three_mod (dif 0 (w192 c))]
  congr 1
  unfold dif w192
  omega
end Go.Proofs.YtemoginoanhjlaaGreat
