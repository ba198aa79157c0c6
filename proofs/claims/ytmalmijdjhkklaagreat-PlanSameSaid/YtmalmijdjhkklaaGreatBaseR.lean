/- What the laws on plan.Run use, in one (BASE_TAIL of the slimmed set). -/
import Derived.Test.YtmalmijdjhkklaaGreatPlU
import Derived.Test.YtmalmijdjhkklaaGreatPlFi
import Derived.Test.YtmalmijdjhkklaaGreatAl18
import Derived.Test.YtmalmijdjhkklaaGreatWPlOToOf18
import Derived.Test.YtmalmijdjhkklaaGreatWRef06ToMs18
import Derived.Test.YtmalmijdjhkklaaGreatWContToSame18
import Derived.Test.YtmalmijdjhkklaaGreatWAl5Sm17
import Derived.Test.YtmalmijdjhkklaaGreatWOpenOpenPOpenU
import Derived.Test.YtmalmijdjhkklaaGreatPost
import Derived.Test.YtmalmijdjhkklaaGreatWR11PToR11
import Derived.Test.YtmalmijdjhkklaaGreatFactsplanFits
set_option linter.unusedVariables false
set_option linter.unusedSimpArgs false
set_option linter.unusedSectionVars false
namespace Go.Proofs.YtmalmijdjhkklaaGreat
theorem zBW:True:=trivial
end Go.Proofs.YtmalmijdjhkklaaGreat