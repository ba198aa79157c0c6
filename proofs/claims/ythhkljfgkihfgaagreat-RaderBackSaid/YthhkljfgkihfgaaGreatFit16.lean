/- rader.Fits; the document's Fits of layer 16. -/
import Derived.Test.YthhkljfgkihfgaaGreatWClaimFieldDivides
import Derived.Test.YthhkljfgkihfgaaGreatWalk
set_option linter.unusedVariables false
set_option linter.unusedSimpArgs false
set_option linter.unusedSectionVars false
namespace Go.Proofs.YthhkljfgkihfgaaGreat
open Go.RowKit
open Alg

theorem rpad_range (n : Int) : 0 ≤ rpad n ∧ rpad n ≤ 4096 := by
  unfold rpad pd
  repeat (first | omega | split)
theorem fits_nil (n : Int) (w : World) (h0 : -9223372036854775808 ≤ n) (h1 : n ≤ 9223372036854775807) : Calls Tryz.prog 99 #[.pointer none, .int .i64 n] w fun e w' => e = .returned (.bool false) ∧ Below w.heap.size w w' := by
  go_enter Tryz.func99, Tryz.ntmps99
  go_wp2_with fail
  refine (rpad_any _ _ h0 h1).mono ?_
  rintro e w1 ⟨rfl, hB1⟩
  go_wp2_with fail
  refine (divides_nil _ _).mono ?_
  rintro e w2 ⟨rfl, rfl⟩
  go_wp2
  go_ret
  exact ⟨rfl, hB1⟩
theorem fits_fd {w : World} {v : Value} {p g : Int} (h : Fd w w.heap.size v p g) (n : Int) (h0 : -9223372036854775808 ≤ n) (h1 : n ≤ 9223372036854775807) :
    Calls Tryz.prog 99 #[v, .int .i64 n] w fun e w' => e = .returned (.bool (decide (0 < rpad n) && ((p - 1) % rpad n == 0))) ∧ Below w.heap.size w w' := by
  obtain ⟨r0, r1⟩ := rpad_range n
  go_enter Tryz.func99, Tryz.ntmps99
  go_wp2_with fail
  refine (rpad_any _ _ h0 h1).mono ?_
  rintro e w1 ⟨rfl, hB1⟩
  have hF := h.below hB1
  go_wp2_with fail
  refine (divides_fd hF _ (by omega) (by omega)).mono ?_
  rintro e w2 ⟨rfl, rfl⟩
  go_wp2
  go_ret
  exact ⟨rfl, hB1⟩
theorem rfits_any (p n : Int) (w : World) (p1 : 3 ≤ p) (p2 : p < 9223372036854775808) (h0 : -9223372036854775808 ≤ n) (h1 : n ≤ 9223372036854775807) :
    Calls Tryz.prog 102 #[.int .u64 p, .int .i64 n] w fun e w' => e = .returned (.bool (decide (0 < rpad n) && ((p - 1) % rpad n == 0))) ∧ w = w' := by
  have hP := fun w => rpadr_any n w h0 h1
  obtain ⟨r0, r1⟩ := rpad_range n
  generalize rpad n = r at *
  by_cases hn : 0 < r
  · have t1 : decide (0 < r) = true := by simpa using hn
    have t2 : (r == 0) = false := by simp; omega
    have HZ : Hid ((decide (0 < r) && ((p - 1) % r == 0)) = ((p - 1) % r == 0)) := Lib.hid (by rw [t1]; rfl)
    go_enter Tryz.func102, Tryz.ntmps102
    go_wp2_with fail
    refine (hP _).mono ?_
    rintro e w1 ⟨rfl, rfl⟩
    go_wp2_with fail
    refine (hP _).mono ?_
    rintro e w1 ⟨rfl, rfl⟩
    go_wp2
    go_ret
    exact ⟨by rw [HZ.out]; first | rfl | simp, rfl⟩
  · have t1 : decide (0 < r) = false := by simpa using hn
    have HZ : Hid ((decide (0 < r) && ((p - 1) % r == 0)) = false) := Lib.hid (by rw [t1]; rfl)
    clear hn
    go_enter Tryz.func102, Tryz.ntmps102
    go_wp2_with fail
    refine (hP _).mono ?_
    rintro e w1 ⟨rfl, rfl⟩
    go_wp2
    go_ret
    exact ⟨by rw [HZ.out]; first | rfl | simp, rfl⟩
end Go.Proofs.YthhkljfgkihfgaaGreat
