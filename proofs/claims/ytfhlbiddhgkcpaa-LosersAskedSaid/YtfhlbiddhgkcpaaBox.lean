/- Box, Unbox and Right. -/
import Derived.Test.YtfhlbiddhgkcpaaVal
set_option linter.unusedVariables false
set_option linter.unusedSimpArgs false
namespace Go.Proofs.Ytfhlbiddhgkcpaa
open Go.RowKit
end Go.Proofs.Ytfhlbiddhgkcpaa
