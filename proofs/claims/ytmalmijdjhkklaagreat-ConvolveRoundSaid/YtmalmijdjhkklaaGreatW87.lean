/- limbs: sums and differences. -/
import Derived.Test.YtmalmijdjhkklaaGreatArr
import Derived.Test.YtmalmijdjhkklaaGreatW14
import Derived.Deep.RegionHeld3
set_option linter.unusedVariables false
set_option linter.unusedSimpArgs false
namespace Go.Proofs.YtmalmijdjhkklaaGreat
open Go.RowKit
section
end

section
end

section
end
end Go.Proofs.YtmalmijdjhkklaaGreat
