/- The law Radix2Sizes. -/
import Derived.Test.YthhkljfgkihfgaaGreatAl12
import Derived.Test.YthhkljfgkihfgaaGreatWContToRef05
set_option linter.unusedVariables false
set_option linter.unusedSimpArgs false
set_option linter.unusedSectionVars false
set_option linter.unusedVariables false
set_option linter.unusedSimpArgs false
namespace Go.Proofs.YthhkljfgkihfgaaGreat
open Go.RowKit
open Alg
theorem radix2Sizes_walk (w : World) (x0 : Int) (h00 : -9223372036854775808 ≤ x0) (h10 : x0 ≤ 9223372036854775807) :
    Calls Tryz.prog 3 #[.int .i64 x0] w fun e w' => e = .returned (.bool true) ∧ Below w.heap.size w w' := by
  have hA := Lib.hid (alive12_any w)
  go_enter Tryz.func3, Tryz.ntmps3
  go_wp2_with fail
  refine hA.out.mono ?_
  rintro r w1 ⟨rfl, hB1⟩
  have t1 : (p2 x0 == p2 x0) = true := by simp
  have t2 : (pd x0 == pd x0) = true := by simp
  go_wp2_with fail
  refine (fits2_any x0 w1 h00 h10).mono ?_
  rintro r w2 ⟨rfl, rfl⟩
  go_wp2_with fail
  refine (r12fits_any x0 w1 h00 h10).mono ?_
  rintro r w2 ⟨rfl, rfl⟩
  go_wp2_with fail
  refine (pad2_any x0 w1 h00 h10).mono ?_
  rintro r w2 ⟨rfl, rfl⟩
  go_wp2_with fail
  refine (rpad2_any x0 w1 h00 h10).mono ?_
  rintro r w2 ⟨rfl, rfl⟩
  go_wp2
  go_ret
  exact ⟨by first | rfl | simp, hB1⟩
end Go.Proofs.YthhkljfgkihfgaaGreat
