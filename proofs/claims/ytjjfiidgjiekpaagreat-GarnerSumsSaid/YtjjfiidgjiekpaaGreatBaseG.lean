/- What every law on trios uses, in one. -/
import Derived.Test.YtjjfiidgjiekpaaGreatWG23AG23BGaM
import Derived.Test.YtjjfiidgjiekpaaGreatOpenT23
import Derived.Test.YtjjfiidgjiekpaaGreatPost
import Derived.Test.YtjjfiidgjiekpaaGreatWOpenOpenU
import Derived.Test.YtjjfiidgjiekpaaGreatWMadeBToMs23
import Derived.Test.YtjjfiidgjiekpaaGreatFactsgarnerCentres
set_option linter.unusedVariables false
set_option linter.unusedSimpArgs false
set_option linter.unusedSectionVars false
namespace Go.Proofs.YtjjfiidgjiekpaaGreat
theorem baseG_here : True := trivial
end Go.Proofs.YtjjfiidgjiekpaaGreat
