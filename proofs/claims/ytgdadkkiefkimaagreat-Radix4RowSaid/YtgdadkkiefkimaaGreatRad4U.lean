/- The law Radix4Row. -/
import Derived.Test.YtgdadkkiefkimaaGreatRad4Is
import Derived.Below
set_option linter.unusedVariables false
set_option linter.unusedSimpArgs false
set_option linter.unusedSectionVars false
set_option linter.unusedVariables false
set_option linter.unusedSimpArgs false
namespace Go.Proofs.YtgdadkkiefkimaaGreat
open Go.RowKit
open Alg

section
variable {p : Nat} [NeZero p]
/-- A 1 at k, noughts else; the same numbers. -/
def oneL (n k : Nat) : List Int := full n fun i => if i = k then 1 else 0
def allL (n : Nat) (x : Int) : List Int := full n fun _ => x
theorem oneL_length (n k : Nat) : (oneL n k).length = n := full_length _ _
theorem allL_length (n : Nat) (x : Int) : (allL n x).length = n := full_length _ _
theorem oneL_set (n k : Nat) (f : Nat → Int) : (part n f 0).set k 1 = oneL n k :=
  map_range_set _ _ _ _ _ (by simp) fun j _ hj => by simp [hj]
theorem tr_oneL (g : Fin p) {n k i : Nat} (hk : k < n) : tr g n false (rz p (oneL n k)) i = pw (rt g n false) (i * k) := by
  show (1 : Fin p) * dft _ n _ i = _
  unfold dft
  rw [sm_one k hk fun j hj hne => by
    unfold rz oneL
    rw [full_get hj, if_neg hne, zt_zero]; grind]
  unfold rz oneL
  rw [full_get hk, if_pos rfl, zt_one]; grind
theorem tr_allL {g : Fin p} {n i : Nat} (hp : Prime p) (hw : Ord (rt g n false) n) (hi : i < n) (x : Int) : tr g n false (rz p (allL n x)) i = if i = 0 then zt p (x * (n : Int)) else 0 := by
  show (1 : Fin p) * dft _ n _ i = _
  unfold dft
  rw [sm_congr (g := fun j => zt p x * pw (rt g n false) (i * j)) fun j hj => by
    unfold rz allL
    rw [full_get hj]; grind]
  rw [sm_mul, orth hp hw]
  by_cases h : i = 0
  · subst h
    rw [if_pos ⟨0, by simp⟩, if_pos rfl, zt_mul]; grind
  · rw [if_neg (fun hd => by have := Nat.le_of_dvd (by omega) hd; omega), if_neg h]; grind
theorem row_one {g : Int} {n k i : Nat} (hp : Prime p) (hg : Ord (zt p g) (p - 1)) (hd : n ∣ p - 1) (hk : k < n) (hi : i < n) :
    (lst n (tr (zt p g) n false (rz p (oneL n k)))).getD i 0 = (g ^ (((p : Int) - 1) / (n : Int)).toNat % (p : Int)) ^ (i * k) % (p : Int) := by
  have hW : zt p (g ^ (((p : Int) - 1) / (n : Int)).toNat % (p : Int)) = rt (zt p g) n false := RootOf.zt (inv := false) hp hg hd (by omega) ⟨fun _ => rfl, fun h => by cases h⟩
  rw [lst_get hi, tr_oneL _ hk, ← hW, ← zt_pow, zt_val]
theorem row_all {g : Int} {n i : Nat} (hp : Prime p) (hg : Ord (zt p g) (p - 1)) (hd : n ∣ p - 1) (hi : i < n) (x : Int) :
    (lst n (tr (zt p g) n false (rz p (allL n x)))).getD i 0 = if i = 0 then x * (n : Int) % (p : Int) else 0 := by
  rw [lst_get hi, tr_allL hp (rt_ord hg hd (by omega) false) hi]
  split
  · rw [zt_val]
  · rw [← zt_zero, zt_val]; simp
end
theorem oneL_u64 (n k : Nat) : U64s (oneL n k) := full_u64 fun i _ => by split <;> omega
theorem allL_u64 (n : Nat) {x : Int} (h0 : 0 ≤ x) (h1 : x ≤ 18446744073709551615) : U64s (allL n x) := full_u64 fun _ _ => ⟨h0, h1⟩
theorem fault13_same {p : Int} {L M : List Int} (h : fault13 p L = 0) (hl : M.length = L.length) (hg : goodB p M = true) : fault13 p M = 0 := by
  obtain ⟨a, b, _⟩ := fault13_zero h
  unfold fault13
  rw [hl, if_neg (by simp [a]), if_neg (by simp [b]), if_neg (by simp [hg])]
theorem allL_good (n : Nat) {p x : Int} (h : x < p) : goodB p (allL n x) = true := by
  unfold goodB
  rw [List.all_eq_true]
  intro y hy
  obtain ⟨i, _, rfl⟩ := List.mem_map.1 hy
  simp; omega
end Go.Proofs.YtgdadkkiefkimaaGreat
