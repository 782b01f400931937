/- What Unbox returns. -/
import Derived.Test.YtfhlbiddhgkcpaaBox
set_option linter.unusedVariables false
set_option linter.unusedSimpArgs false
namespace Go.Proofs.Ytfhlbiddhgkcpaa
open Go.RowKit
def V.zero : V := ⟨0, 0, ByteArray.empty⟩
/-- A value, and whether it is one. -/
def RetV (w : World) (v : V) (ok : Bool) : Ending → World → Prop := fun e w' => e = .returned (.tuple #[v.val, .bool ok]) ∧ Below w.heap.size w w'
end Go.Proofs.Ytfhlbiddhgkcpaa
