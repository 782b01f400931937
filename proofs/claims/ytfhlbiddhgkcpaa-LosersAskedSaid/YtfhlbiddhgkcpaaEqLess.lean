/- What Equal and Less of the program, and the reference's Less, return. -/
import Derived.Test.YtfhlbiddhgkcpaaLess
set_option linter.unusedVariables false
set_option linter.unusedSimpArgs false
namespace Go.Proofs.Ytfhlbiddhgkcpaa
open Go.RowKit
end Go.Proofs.Ytfhlbiddhgkcpaa
