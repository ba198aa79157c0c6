/- What every law on exact products uses, in one. -/
import Derived.Test.YtemoginoanhjlaaGreatWAl24ExBo
import Derived.Test.YtemoginoanhjlaaGreatEx24A
import Derived.Test.YtemoginoanhjlaaGreatSp24
import Derived.Test.YtemoginoanhjlaaGreatClone2
import Derived.Test.YtemoginoanhjlaaGreatOpenT24
import Derived.Test.YtemoginoanhjlaaGreatOpenI
import Derived.Test.YtemoginoanhjlaaGreatWOpenOpenU
import Derived.Test.YtemoginoanhjlaaGreatPost
import Derived.Test.YtemoginoanhjlaaGreatWRef06ToMs24
import Derived.Test.YtemoginoanhjlaaGreatFactsplanFits
set_option linter.unusedVariables false
set_option linter.unusedSimpArgs false
set_option linter.unusedSectionVars false
namespace Go.Proofs.YtemoginoanhjlaaGreat
theorem baseE_here : True := trivial
end Go.Proofs.YtemoginoanhjlaaGreat
