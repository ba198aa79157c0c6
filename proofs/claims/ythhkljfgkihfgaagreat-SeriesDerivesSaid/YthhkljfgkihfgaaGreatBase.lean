/- What every law of this seat uses, in one. -/
import Derived.Test.YthhkljfgkihfgaaGreatWR2UR2D
import Derived.Test.YthhkljfgkihfgaaGreatAl5
import Derived.Test.YthhkljfgkihfgaaGreatR11
import Derived.Test.YthhkljfgkihfgaaGreatWRef06MadeBArgA
import Derived.Test.YthhkljfgkihfgaaGreatWOpenOpenU
import Derived.Test.YthhkljfgkihfgaaGreatPost
import Derived.Test.YthhkljfgkihfgaaGreatWP2R2ABack
import Derived.Test.YthhkljfgkihfgaaGreatWContToRef05
import Derived.Test.YthhkljfgkihfgaaGreatWClaimFieldDivides
import Derived.Test.YthhkljfgkihfgaaGreatWR2MToPadM
set_option linter.unusedVariables false
set_option linter.unusedSimpArgs false
set_option linter.unusedSectionVars false
namespace Go.Proofs.YthhkljfgkihfgaaGreat
theorem base_here : True := trivial
end Go.Proofs.YthhkljfgkihfgaaGreat
