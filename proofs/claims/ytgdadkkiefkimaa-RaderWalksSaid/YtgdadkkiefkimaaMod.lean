/- modular.Mul, modular.Pow. -/
import Derived.Test.YtgdadkkiefkimaaDiv64
namespace Go.Proofs.Ytgdadkkiefkimaa
open Go.RowKit

theorem modmul_any (a b m : Int) (w : World) (ha0 : 0 ≤ a) (ha : a ≤ 18446744073709551615) (hb0 : 0 ≤ b) (hb : b ≤ 18446744073709551615) (hm0 : 0 < m) (hm : m ≤ 18446744073709551615) :
    Calls Try.prog 42 #[.int .u64 a, .int .u64 b, .int .u64 m] w fun e w' => e = .returned (.int .u64 (a * b % m)) ∧ ∃ n, w' = w.drewN n := by
  have h0 : (m == 0) = false := beq_eq_false_iff_ne.2 (by omega)
  have hp0 : 0 ≤ a * b := Int.mul_nonneg ha0 hb0
  have hp1 : a * b ≤ 18446744073709551615 * 18446744073709551615 := Int.mul_le_mul ha hb hb0 (by omega)
  have e1 : Hid (a * b / 18446744073709551616 * 18446744073709551616 + a * b % 18446744073709551616 = a * b) := Lib.hid (by omega)
  go_enter Try.func42, Try.ntmps42
  go_wp2_with (first | (go_at_call 49; refine (mul64_any _ _ _ ha0 ha hb0 hb).mono ?_; rintro e w' ⟨rfl, rfl⟩) | (go_at_call 50; refine (rem64_any _ _ _ _ (by omega) (by omega) hm0 (by omega) (by omega) hm).mono ?_; rintro e w' ⟨rfl, n, rfl⟩))
  go_ret
  exact ⟨ret_int (by rw [e1.out]), _, rfl⟩

theorem pow_step (x y z m : Int) (hy : 0 < y) : (if y % 2 = 1 then z * x % m else z) * (x * x % m) ^ (y / 2).toNat % m = z * x ^ y.toNat % m := by
  have hc : ∀ k : Nat, ((x * x % m) ^ k) % m = ((x * x) ^ k) % m := by
    intro k
    induction k with
    | zero => simp
    | succ k ih => rw [Int.pow_succ, Int.pow_succ, Int.mul_emod, ih, Int.emod_emod_of_dvd _ ⟨1, by simp⟩, ← Int.mul_emod]
  have he : x ^ y.toNat = (x * x) ^ (y / 2).toNat * x ^ (y % 2).toNat := by
    have : y.toNat = 2 * (y / 2).toNat + (y % 2).toNat := by omega
    conv => lhs; rw [this]
    rw [Int.pow_add, Int.pow_mul]
    congr 2
    rw [Int.pow_succ, Int.pow_succ, Int.pow_zero]; grind
  rw [he]
  split
  · rename_i h1
    rw [h1, Int.mul_emod, hc, Int.emod_emod_of_dvd _ ⟨1, by simp⟩, ← Int.mul_emod]
    congr 1
    simp; grind
  · have h1 : y % 2 = 0 := by omega
    rw [h1, Int.mul_emod, hc, ← Int.mul_emod]
    congr 1
    simp

theorem and_one (y : Int) (h0 : 0 ≤ y) (h1 : y ≤ 18446744073709551615) : bits .and .u64 y 1 = y % 2 := by go_bits2

set_option maxHeartbeats 400000 in
theorem modpow_any (a b m : Int) (w : World) (ha0 : 0 ≤ a) (ha : a ≤ 18446744073709551615) (hb0 : 0 ≤ b) (hb : b ≤ 18446744073709551615) (hm0 : 0 < m) (hm : m ≤ 18446744073709551615) :
    Calls Try.prog 31 #[.int .u64 a, .int .u64 b, .int .u64 m] w fun e w' => e = .returned (.int .u64 (a ^ b.toNat % m)) ∧ ∃ n, w' = w.drewN n := by
  have h0 : (m == 0) = false := beq_eq_false_iff_ne.2 (by omega)
  go_enter Try.func31, Try.ntmps31
  go_wp2
  go_loopw [0, 1, 7] (fun A E O wr => ∃ x y z : Int, ∃ n, 0 ≤ x ∧ x ≤ 18446744073709551615 ∧ 0 ≤ y ∧ y ≤ 18446744073709551615 ∧ 0 ≤ z ∧ z ≤ 18446744073709551615 ∧ A = .int .u64 x ∧ E = .int .u64 y ∧ O = .int .u64 z ∧ Hid (z * x ^ y.toNat % m = a ^ b.toNat % m) ∧ Hid (z % m = z) ∧ wr = w.drewN n) (fun _ E _ _ => (intOf E).toNat)
  case atStart =>
    have := Int.emod_nonneg 1 (show m ≠ 0 by omega)
    have := Int.emod_lt_of_pos 1 hm0
    exact ⟨a, b, 1 % m, 0, ha0, ha, hb0, hb, by omega, by omega, rfl, rfl, rfl, Lib.hid (by rw [Int.mul_emod, Int.emod_emod_of_dvd _ ⟨1, by simp⟩, ← Int.mul_emod]; simp), Lib.hid (Int.emod_emod_of_dvd _ ⟨1, by simp⟩), rfl⟩
  case round =>
    obtain ⟨x, y, z, n, hx0, hx, hy0, hy, hz0, hz, rfl, rfl, rfl, H, H2, rfl⟩ := hrel
    by_cases hlt : 0 < y
    · have st := Lib.hid (pow_step x y z m hlt)
      have ea := and_one y hy0 hy
      have m0 := Int.emod_nonneg (x * x) (show m ≠ 0 by omega)
      have m1 := Int.emod_lt_of_pos (x * x) hm0
      have m2 := Int.emod_nonneg (z * x) (show m ≠ 0 by omega)
      have m3 := Int.emod_lt_of_pos (z * x) hm0
      have mm := Int.emod_nonneg y (show (2:Int) ≠ 0 by omega)
      by_cases hodd : y % 2 = 1
      · have ho : (bits .and .u64 y 1 == 1) = true := by rw [ea, hodd]; rfl
        rw [if_pos hodd] at st
        clear ea hodd
        go_wp2_with fail
        refine (modmul_any z x m _ hz0 hz hx0 hx hm0 hm).mono ?_
        rintro e w' ⟨rfl, n1, rfl⟩
        go_wp2_with fail
        refine (modmul_any x x m _ hx0 hx hx0 hx hm0 hm).mono ?_
        rintro e w' ⟨rfl, n2, rfl⟩
        go_wp2
        go_roundw
        case rel => exact ⟨x * x % m, y / 2, z * x % m, _, m0, by omega, by omega, by omega, m2, by omega, rfl, rfl, rfl, Lib.hid (by rw [st.out, H.out]), Lib.hid (Int.emod_emod_of_dvd _ ⟨1, by simp⟩), rfl⟩
        case measure => simp [intOf]; omega
      · have ho : (bits .and .u64 y 1 == 1) = false := by rw [ea]; exact beq_eq_false_iff_ne.2 hodd
        rw [if_neg hodd] at st
        clear ea hodd
        go_wp2_with fail
        refine (modmul_any x x m _ hx0 hx hx0 hx hm0 hm).mono ?_
        rintro e w' ⟨rfl, n2, rfl⟩
        go_wp2
        go_roundw
        case rel => exact ⟨x * x % m, y / 2, z, _, m0, by omega, by omega, by omega, hz0, hz, rfl, rfl, rfl, Lib.hid (by rw [st.out, H.out]), H2, rfl⟩
        case measure => simp [intOf]; omega
    · obtain rfl : y = 0 := by omega
      go_wp2
      go_ret
      exact ⟨ret_int (by rw [← H.out]; simp [H2.out]), _, rfl⟩
end Go.Proofs.Ytgdadkkiefkimaa
