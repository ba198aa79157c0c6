/- limbs: sums and differences. -/
import Derived.Test.YtmalmijdjhkklaaGreatArr
import Derived.Test.YtmalmijdjhkklaaGreatWMontToRef04
import Derived.Deep.RegionHeld3
set_option linter.unusedVariables false
set_option linter.unusedSimpArgs false
set_option linter.unusedSectionVars false
section
/- limbs: sums and differences. -/
namespace Go.Proofs.YtmalmijdjhkklaaGreat
open Go.RowKit
end Go.Proofs.YtmalmijdjhkklaaGreat
end

section
/- limbs: products by a word, comparing, rests, halves, signs. -/
namespace Go.Proofs.YtmalmijdjhkklaaGreat
open Go.RowKit
end Go.Proofs.YtmalmijdjhkklaaGreat
end

section
/- limbs: comparing, rests, halves, signs. -/
namespace Go.Proofs.YtmalmijdjhkklaaGreat
open Go.RowKit
end Go.Proofs.YtmalmijdjhkklaaGreat
end
