/- Box, Unbox and Right. -/
import Derived.Test.YtoggjieagnlneaaVal
set_option linter.unusedVariables false
set_option linter.unusedSimpArgs false
namespace Go.Proofs.Ytoggjieagnlneaa
open Go.RowKit
end Go.Proofs.Ytoggjieagnlneaa
