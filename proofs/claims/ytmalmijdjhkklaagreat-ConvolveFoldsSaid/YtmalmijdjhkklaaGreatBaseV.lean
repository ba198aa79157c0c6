/- What the claims of law 21 have in common. -/
import Derived.Test.YtmalmijdjhkklaaGreatWPlUToCvG
import Derived.Test.YtmalmijdjhkklaaGreatWRef06ToMs21
import Derived.Test.YtmalmijdjhkklaaGreatWLinToLinN
import Derived.Test.YtmalmijdjhkklaaGreatWOpenOpenU
import Derived.Test.YtmalmijdjhkklaaGreatClone2
import Derived.Test.YtmalmijdjhkklaaGreatPost
import Derived.Test.YtmalmijdjhkklaaGreatFactsplanFits
set_option linter.unusedVariables false
set_option linter.unusedSimpArgs false
set_option linter.unusedSectionVars false
namespace Go.Proofs.YtmalmijdjhkklaaGreat
theorem zJ6:True:=trivial
end Go.Proofs.YtmalmijdjhkklaaGreat