/- The builtins min and max of two whole numbers. -/
import Derived.Tactics
import Derived.ProofKit
set_option linter.unusedVariables false
set_option linter.unusedSimpArgs false
namespace Go.Proofs.YtmalmijdjhkklaaGreat
open Go.RowKit
def mnI (x y:Int):Int:=if y<x then y else x
@[go_sem ↓] theorem zL4 (ats:Array TypeId) (ty:TypeId) (k k':IntKind) (x y:Int):Builtin.min_ ats ty #[.int k x, .int k' y]=pure (.int k (mnI x y)):=rfl
def mxI (x y:Int):Int:=if x<y then y else x
@[go_sem ↓] theorem zL2 (ats:Array TypeId) (ty:TypeId) (k k':IntKind) (x y:Int):Builtin.max_ ats ty #[.int k x, .int k' y]=pure (.int k (mxI x y)):=rfl
end Go.Proofs.YtmalmijdjhkklaaGreat