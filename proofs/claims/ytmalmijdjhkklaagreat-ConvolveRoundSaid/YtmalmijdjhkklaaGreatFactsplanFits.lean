/- Facts of the program that every law's row asks: each by itself, since all at once want too much memory. -/
import Derived.Test.YtmalmijdjhkklaaGreatRows
import Derived.Test.YtmalmijdjhkklaaGreatProg
import Derived.ProofKit
import Derived.JoinedOf
import Derived.KernelRfl
set_option linter.unusedVariables false
set_option linter.unusedSimpArgs false
namespace Go.Proofs.YtmalmijdjhkklaaGreat
theorem ownP:ownKnob Tryz.prog.godebug=none:=by kernel_rfl
theorem zKj:laidOutB Tryz.prog=true:=by kernel_rfl
theorem zLz:mapsRowed Tryz.prog=true:=by kernel_rfl
theorem zIU:Tryz.prog.stopsHeard=true:=by kernel_rfl
theorem zGk:Tryz.prog.mayEnter=true:=by kernel_rfl
theorem zKB:Tryz.prog.liftsFinal=Rows.planFitsRow.lifted:=by kernel_rfl
theorem zLq:Tryz.prog.make=some Rows.planFitsRow.make:=by kernel_rfl
end Go.Proofs.YtmalmijdjhkklaaGreat