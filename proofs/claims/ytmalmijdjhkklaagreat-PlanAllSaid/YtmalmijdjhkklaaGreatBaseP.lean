/- What every law on plans uses, in one. -/
import Derived.Test.YtmalmijdjhkklaaGreatAl18
import Derived.Test.YtmalmijdjhkklaaGreatWPlPPlQOf18
import Derived.Test.YtmalmijdjhkklaaGreatWRef06ToMs18
import Derived.Test.YtmalmijdjhkklaaGreatWAl5Sm17
import Derived.Test.YtmalmijdjhkklaaGreatWOpenOpenPOpenU
import Derived.Test.YtmalmijdjhkklaaGreatPost
import Derived.Test.YtmalmijdjhkklaaGreatFactsplanFits
set_option linter.unusedVariables false
set_option linter.unusedSimpArgs false
set_option linter.unusedSectionVars false
namespace Go.Proofs.YtmalmijdjhkklaaGreat
theorem baseP_here : True := trivial
end Go.Proofs.YtmalmijdjhkklaaGreat
