/- limbs: sums and differences. -/
import Derived.Test.YtmalmijdjhkklaaGreatArr
import Derived.Test.YtmalmijdjhkklaaGreatWMontToModB
import Derived.Deep.RegionHeld3
set_option linter.unusedVariables false
set_option linter.unusedSimpArgs false
set_option linter.unusedSectionVars false
namespace Go.Proofs.YtmalmijdjhkklaaGreat
section
/- limbs: sums and differences. -/
open Go.RowKit
end

section
/- limbs: products by a word, comparing, rests, halves, signs. -/
open Go.RowKit
end

section
/- limbs: comparing, rests, halves, signs. -/
open Go.RowKit
end
end Go.Proofs.YtmalmijdjhkklaaGreat
