/- What Equal and Less of the program, and the reference's Less, return. -/
import Derived.Test.YtoggjieagnlneaaLess
set_option linter.unusedVariables false
set_option linter.unusedSimpArgs false
namespace Go.Proofs.Ytoggjieagnlneaa
open Go.RowKit
end Go.Proofs.Ytoggjieagnlneaa
