/- Centring: plain laws. -/
import Derived.Test.YtjjfiidgjiekpaaGreatWG23AG23BGaM
set_option linter.unusedVariables false
set_option linter.unusedSimpArgs false
set_option linter.unusedSectionVars false
namespace Go.Proofs.YtjjfiidgjiekpaaGreat
open Go.RowKit
open Alg (Prime)
theorem centre_same (x N : Nat) (hx : x < 6277101735386680763835789423207666416102355444464034512896) (hN : 0 < N) (hN' : N < 6277101735386680763835789423207666416102355444464034512896) :
    (if N < x + x then x + turn N else x) % 6277101735386680763835789423207666416102355444464034512896 = (if x ≤ N / 2 then x else dif x N) % 6277101735386680763835789423207666416102355444464034512896 := by
  unfold turn dif
  rw [show (2 : Nat) ^ 192 = 6277101735386680763835789423207666416102355444464034512896 by rfl]
  split <;> split <;> omega
/-- The rest that the law lays for a number with a sign. -/
def sgnR (sz m : Nat) (ng : Bool) : Nat := if ng = true ∧ 0 < sz % m then m - sz % m else sz % m
theorem sgnR_lt {sz m : Nat} {ng : Bool} (hm : 0 < m) : sgnR sz m ng < m := by
  have := Nat.mod_lt sz hm
  unfold sgnR; split <;> omega
theorem sgnR_pos {sz m : Nat} : sgnR sz m false = sz % m := by simp [sgnR]
theorem sgnR_neg {sz m j : Nat} (hm : 0 < m) (h : j % m = sgnR sz m true % m) : (j + sz) % m = 0 := by
  have h1 := Nat.mod_lt sz hm
  rw [Nat.add_mod, h, Nat.mod_eq_of_lt (sgnR_lt hm)]
  unfold sgnR
  by_cases h2 : 0 < sz % m
  · rw [if_pos ⟨rfl, h2⟩, show m - sz % m + sz % m = m by omega, Nat.mod_self]
  · rw [if_neg (fun hh => h2 hh.2), show sz % m + sz % m = 0 by omega, Nat.zero_mod]
theorem centre_pos {p q r j sz N : Nat} (hT : Tri p q r) (hN : N = p * q * r) (hj : j < N) (h2 : sz + sz < N) (e1 : j % p = sz % p) (e2 : j % q = sz % q) (e3 : j % r = sz % r) :
    (if j ≤ N / 2 then j else dif j N) = sz := by
  have h := hT.crt e1 e2 e3
  rw [← hN, Nat.mod_eq_of_lt hj, Nat.mod_eq_of_lt (by omega)] at h
  subst h
  rw [if_pos (by omega)]
theorem centre_neg {p q r j sz N : Nat} (hT : Tri p q r) (hN : N = p * q * r) (hj : j < N) (h0 : 0 < sz) (h2 : sz + sz < N) (e1 : (j + sz) % p = 0) (e2 : (j + sz) % q = 0) (e3 : (j + sz) % r = 0) :
    (if j ≤ N / 2 then j else dif j N) = 6277101735386680763835789423207666416102355444464034512896 - sz := by
  obtain ⟨n0, n1⟩ := hT.lt
  have h := hT.crt (x := j + sz) (y := 0) (by rw [e1, Nat.zero_mod]) (by rw [e2, Nat.zero_mod]) (by rw [e3, Nat.zero_mod])
  rw [← hN, Nat.zero_mod] at h
  rw [← hN] at n0 n1
  have hjs : j + sz = N := by
    obtain ⟨k, hk⟩ := Nat.dvd_of_mod_eq_zero h
    rcases k with _ | _ | k
    · rw [Nat.mul_zero] at hk; omega
    · rw [Nat.zero_add, Nat.mul_one] at hk; exact hk
    · have : N * (k + 1 + 1) = N * k + N + N := by rw [Nat.mul_add, Nat.mul_add, Nat.mul_one]
      omega
  rw [if_neg (by omega)]
  unfold dif
  omega
end Go.Proofs.YtjjfiidgjiekpaaGreat
