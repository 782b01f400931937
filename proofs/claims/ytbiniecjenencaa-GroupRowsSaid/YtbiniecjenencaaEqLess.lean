/- What Equal and Less of the program, and the reference's Less, return. -/
import Derived.Test.YtbiniecjenencaaLess
set_option linter.unusedVariables false
set_option linter.unusedSimpArgs false
set_option maxRecDepth 10000
namespace Go.Proofs.Ytbiniecjenencaa
open Go.RowKit
end Go.Proofs.Ytbiniecjenencaa
