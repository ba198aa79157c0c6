/- Powers of two as lengths: radix2.Fits, the document's Fits; the document's Fault of layer 13. -/
import Derived.Test.YtjjfiidgjiekpaaGreatWMontBFopsDft
import Derived.Laws.BitsAllLaws
import Derived.Laws.BitsLemmas
set_option linter.unusedVariables false
set_option linter.unusedSimpArgs false
set_option linter.unusedSectionVars false
set_option linter.unusedVariables false
set_option linter.unusedSimpArgs false
namespace Go.Proofs.YtjjfiidgjiekpaaGreat
open Go.RowKit

theorem ofInt64 (a : Nat) (ha : a < 9223372036854775808) : (BitVec.ofInt 64 (a : Int)).toNat = a := by
  rw [BitVec.ofInt_natCast, BitVec.toNat_ofNat]; exact Nat.mod_eq_of_lt (by omega)
theorem and64 (a b : Nat) (ha : a < 9223372036854775808) (hb : b < 9223372036854775808) : bits .and .i64 (a : Int) (b : Int) = ((a &&& b : Nat) : Int) := by
  have hx : a &&& b < 2 ^ 63 := Nat.and_lt_two_pow _ (by omega)
  show IntKind.i64.wrap ((BitVec.ofInt 64 (a : Int) &&& BitVec.ofInt 64 (b : Int)).toNat : Int) = _
  rw [BitVec.toNat_and, ofInt64 a ha, ofInt64 b hb, IntKind.wrap_i64]
  omega
/-- One of the powers of two, up to 2^12? -/
def p2 (n : Int) : Bool := n == 1 || n == 2 || n == 4 || n == 8 || n == 16 || n == 32 || n == 64 || n == 128 || n == 256 || n == 512 || n == 1024 || n == 2048 || n == 4096
def p2N (n : Nat) : Bool := n == 1 || n == 2 || n == 4 || n == 8 || n == 16 || n == 32 || n == 64 || n == 128 || n == 256 || n == 512 || n == 1024 || n == 2048 || n == 4096
theorem p2_cast (n : Nat) : p2 (n : Int) = p2N n := by
  unfold p2 p2N
  rw [Bool.eq_iff_iff]
  simp only [Bool.or_eq_true, beq_iff_eq]
  omega
theorem p2_table : ((List.range 4097).all fun n => decide (n = 0) || ((n &&& (n - 1)) == 0) == p2N n) = true := by decide +kernel
theorem p2_and (n : Nat) (h1 : 1 ≤ n) (h2 : n ≤ 4096) : ((n &&& (n - 1)) == 0) = p2N n := by
  have h := List.all_eq_true.1 p2_table n (List.mem_range.2 (by omega))
  simp only [Bool.or_eq_true, decide_eq_true_eq, beq_iff_eq] at h
  rcases h with h | h
  · omega
  · exact h
theorem p2_range {n : Int} (h : p2 n = true) : 1 ≤ n ∧ n ≤ 4096 := by
  unfold p2 at h
  simp only [Bool.or_eq_true, beq_iff_eq] at h
  omega
theorem fits2_any (n : Int) (w : World) (h0 : -9223372036854775808 ≤ n) (h1 : n ≤ 9223372036854775807) :
    Calls Tryz.prog 114 #[.int .i64 n] w fun e w' => e = .returned (.bool (p2 n)) ∧ w = w' := by
  by_cases hr : 1 ≤ n ∧ n ≤ 4096
  · obtain ⟨m, rfl⟩ := Int.eq_ofNat_of_zero_le (show 0 ≤ n by omega)
    have e1 : (m : Int) - 1 = ((m - 1 : Nat) : Int) := by omega
    have hb : (bits .and .i64 (m : Int) ((m : Int) - 1) == 0) = p2 m := by
      rw [e1, and64 m (m - 1) (by omega) (by omega), p2_cast, ← p2_and m (by omega) (by omega)]
      rw [Bool.eq_iff_iff]; simp only [beq_iff_eq]; omega
    have HB := Lib.hid hb
    obtain ⟨z, hz⟩ : ∃ z, z = bits .and .i64 (m : Int) ((m : Int) - 1) := ⟨_, rfl⟩
    have hze : bits .and .i64 (m : Int) ((m : Int) - 1) = z := hz.symm
    have HB2 : Hid ((z == 0) = p2 m) := Lib.hid (by rw [hz]; exact hb)
    clear hb e1 hz
    go_enter Tryz.func114, Tryz.ntmps114
    go_wp2
    go_ret
    exact ⟨by rw [← HB2.out]; first | rfl | (rw [hze]), rfl⟩
  · have hz : Hid (p2 n = false) := Lib.hid (by
      rw [Bool.eq_false_iff]; intro h; exact hr (p2_range h))
    have t : decide (0 < n) = false ∨ (decide (0 < n) = true ∧ decide (n ≤ 4096) = false) := by
      by_cases a : 0 < n
      · exact .inr ⟨by simpa using a, by simp; omega⟩
      · exact .inl (by simpa using a)
    clear hr
    rcases t with t | ⟨t, t'⟩
    all_goals
      go_enter Tryz.func114, Tryz.ntmps114
      go_wp2
      go_ret
      exact ⟨by rw [hz.out]; first | rfl | simp, rfl⟩
/-- Those among 1, 2, 4 .. below k. -/
def p2b (n k : Int) : Bool := p2 n && decide (n < k)
theorem r12fits_any (n : Int) (w : World) (h0 : -9223372036854775808 ≤ n) (h1 : n ≤ 9223372036854775807) :
    Calls Tryz.prog 34 #[.int .i64 n] w fun e w' => e = .returned (.bool (p2 n)) ∧ w = w' := by
  go_enter Tryz.func34, Tryz.ntmps34
  go_wp2
  go_loopw [3] (fun K wr => ∃ k : Int, K = .int .i64 k ∧ Hid (p2 k = true ∨ k = 8192) ∧ 1 ≤ k ∧ k ≤ 8192 ∧ Hid (p2b n k = false) ∧ wr = w) (fun K _ => (8192 - intOf K).toNat)
  case atStart => exact ⟨1, rfl, Lib.hid (.inl (by decide)), by omega, by omega, Lib.hid (by
    unfold p2b
    rw [Bool.eq_false_iff]; intro h
    simp only [Bool.and_eq_true, decide_eq_true_eq] at h
    have := p2_range h.1
    omega), rfl⟩
  case round =>
    obtain ⟨k, rfl, hk2, hk1, hk8, hb, rfl⟩ := hrel
    by_cases hlt : k ≤ 4096
    · by_cases he : n = k
      · have t : (n == k) = true := by simp [he]
        have HP : Hid (p2 n = true) := Lib.hid (by
          rcases hk2.out with h | h
          · rw [he]; exact h
          · omega)
        clear he
        go_wp2
        go_ret
        exact ⟨by rw [HP.out]; first | rfl | simp, rfl⟩
      · have t : (n == k) = false := by simp [he]
        have hk3 : Hid (p2 (2 * k) = true ∨ 2 * k = 8192) := Lib.hid (by
          rcases hk2.out with h | h
          · unfold p2 at h ⊢
            simp only [Bool.or_eq_true, beq_iff_eq] at h ⊢
            omega
          · omega)
        have hb3 : Hid (p2b n (2 * k) = false) := Lib.hid (by
          have h2 := hb.out
          have h3 := hk2.out
          rw [Bool.eq_false_iff] at h2 ⊢
          intro h4
          apply h2
          unfold p2b p2 at *
          simp only [Bool.and_eq_true, Bool.or_eq_true, beq_iff_eq, decide_eq_true_eq] at *
          refine ⟨h4.1, ?_⟩
          omega)
        clear he
        go_wp2
        go_roundw
        case rel => exact ⟨2 * k, by first | rfl | go_num, hk3, by omega, by omega, hb3, by trivial⟩
        case measure => simp [intOf]; omega
    · have HP : Hid (p2 n = false) := Lib.hid (by
        have h2 := hb.out
        rw [Bool.eq_false_iff] at h2 ⊢
        intro h4
        apply h2
        have := p2_range h4
        unfold p2b
        rw [h4]; simp; omega)
      go_wp2
      go_ret
      exact ⟨by rw [HP.out]; first | rfl | simp, rfl⟩
/-- The error's number, of a list. -/
def fault13 (p : Int) (L : List Int) : Int := if chk p L.length 4096 ≠ 0 then chk p L.length 4096 else if p2 L.length = false then 11 else if goodB p L = false then 9 else 0
end Go.Proofs.YtjjfiidgjiekpaaGreat
