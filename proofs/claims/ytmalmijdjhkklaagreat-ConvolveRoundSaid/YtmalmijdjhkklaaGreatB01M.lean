/- Numbers of 256 bits, as lists of bits: plain laws. -/
import Derived.WalkKit
set_option linter.unusedVariables false
set_option linter.unusedSimpArgs false
namespace Go.Proofs.YtmalmijdjhkklaaGreat
open Go.RowKit
end Go.Proofs.YtmalmijdjhkklaaGreat