/- The builtins min and max of two whole numbers. -/
import Derived.Tactics
import Derived.ProofKit
set_option linter.unusedVariables false
set_option linter.unusedSimpArgs false
set_option linter.unusedSectionVars false
namespace Go.Proofs.YtemoginoanhjlaaGreat
open Go.RowKit
/-- The smaller one, as the machine finds it. -/
def mnI (x y : Int) : Int := if y < x then y else x
theorem mnI_eq {x y : Nat} : mnI x y = ((min x y : Nat) : Int) := by
  unfold mnI
  split <;> omega
@[go_sem ↓] theorem min_two (ats : Array TypeId) (ty : TypeId) (k k' : IntKind) (x y : Int) : Builtin.min_ ats ty #[.int k x, .int k' y] = pure (.int k (mnI x y)) := rfl
/-- The greater one, as the machine finds it. -/
def mxI (x y : Int) : Int := if x < y then y else x
@[go_sem ↓] theorem max_two (ats : Array TypeId) (ty : TypeId) (k k' : IntKind) (x y : Int) : Builtin.max_ ats ty #[.int k x, .int k' y] = pure (.int k (mxI x y)) := rfl
theorem mxI_eq {x y : Nat} : mxI x y = ((max x y : Nat) : Int) := by
  unfold mxI
  split <;> omega
end Go.Proofs.YtemoginoanhjlaaGreat
