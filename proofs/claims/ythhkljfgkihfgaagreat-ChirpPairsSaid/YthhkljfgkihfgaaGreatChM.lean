/- The transform of any length, by pairs: it is that of the sum. -/
import Derived.Test.YthhkljfgkihfgaaGreatWR2MToPadM
set_option linter.unusedVariables false
set_option linter.unusedSimpArgs false
set_option linter.unusedSectionVars false
set_option linter.unusedVariables false
set_option linter.unusedSectionVars false
namespace Go.Proofs.YthhkljfgkihfgaaGreat
open Alg
/-- How many pairs so many things have. -/
def tri : Nat → Nat
  | 0 => 0
  | m + 1 => tri m + m
theorem tri_add (j k : Nat) : tri (j + k) = tri j + tri k + j * k := by
  induction k with
  | zero => rw [Nat.mul_zero]; rfl
  | succ k ih => rw [← Nat.add_assoc, tri, ih, tri, Nat.mul_add]; omega
theorem tri_two (m : Nat) : 2 * tri m = m * (m - 1) := by
  induction m with
  | zero => rfl
  | succ m ih =>
    rw [tri, Nat.mul_add, ih, show m + 1 - 1 = m by omega]
    cases m with
    | zero => rfl
    | succ m => rw [show m + 1 - 1 = m by omega, Nat.mul_comm (m + 1) m, ← Nat.add_mul]
theorem tri_div (m : Nat) : m * (m - 1) / 2 = tri m := by rw [← tri_two]; omega
theorem tri_le (m : Nat) : tri m ≤ m * m := by
  have := tri_two m
  have h2 : m * (m - 1) ≤ m * m := Nat.mul_le_mul_left _ (by omega)
  omega
section
variable {p : Nat} [NeZero p]
theorem sm_rev (n : Nat) (F : Nat → Fin p) : sm n (fun j => F (n - 1 - j)) = sm n F :=
  sm_perm n (fun j => n - 1 - j) F (fun i hi => by omega) fun i j hi hj h => by omega
theorem chirp_eq {w v : Fin p} {n : Nat} (hv : w * v = 1) (x : Nat → Fin p) {A B : Nat → Fin p}
    (hA : ∀ i, i < n → A i = pw v (tri (n - 1 - i)) * x (n - 1 - i)) (hA0 : ∀ i, n ≤ i → A i = 0) (hB : ∀ k, k < 2 * n - 1 → B k = pw w (tri k)) (k : Nat) (hk : k < n) :
    pw v (tri k) * cv A B (n - 1 + k) = dft w n x k := by
  have hvn : ∀ m, pw v m * pw w m = 1 := fun m => by rw [← mul_pw, show v * w = w * v by grind, hv, one_pw]
  have e1 : cv A B (n - 1 + k) = sm n fun i => A i * B (n - 1 + k - i) := by
    unfold cv
    rw [show n - 1 + k + 1 = n + k by omega, sm_split]
    have : (sm k fun i => A (n + i) * B (n - 1 + k - (n + i))) = 0 := by
      rw [← sm_const0 k]
      exact sm_congr fun i _ => by rw [hA0 _ (by omega)]; grind
    rw [this]; grind
  rw [e1, ← sm_rev, ← sm_mul]
  refine sm_congr fun j hj => ?_
  rw [hA _ (by omega), hB _ (by omega), show n - 1 - (n - 1 - j) = j by omega, show n - 1 + k - (n - 1 - j) = k + j by omega, tri_add, pw_add, pw_add]
  have h1 := hvn (tri k)
  have h2 := hvn (tri j)
  generalize pw v (tri k) = a1 at *
  generalize pw w (tri k) = b1 at *
  generalize pw v (tri j) = a2 at *
  generalize pw w (tri j) = b2 at *
  have : a1 * (a2 * x j * (b1 * b2 * pw w (k * j))) = (a1 * b1) * (a2 * b2) * (pw w (k * j) * x j) := by grind
  rw [this, h1, h2]; grind
end
end Go.Proofs.YthhkljfgkihfgaaGreat
