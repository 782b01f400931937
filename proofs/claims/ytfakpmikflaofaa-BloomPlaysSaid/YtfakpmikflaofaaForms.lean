/- The contracts of layer 4, with the values written out. -/
import Derived.Test.YtfakpmikflaofaaEqLess
set_option linter.unusedVariables false
set_option linter.unusedSimpArgs false
namespace Go.Proofs.Ytfakpmikflaofaa
open Go.RowKit
theorem right_x (k n : Int) (s : ByteArray) (w : World) : Calls Try.prog 24 #[.agg #[.int .u8 k, .int .i64 n, .string s]] w (fun e w' => e = .returned (.bool (rightB ⟨k, n, s⟩)) ∧ Below w.heap.size w w') := right_any ⟨k, n, s⟩ w
theorem rright_x (k n : Int) (s : ByteArray) (w : World) : Calls Try.prog 29 #[.agg #[.int .u8 k, .int .i64 n, .string s]] w (fun e w' => e = .returned (.bool (rightB ⟨k, n, s⟩)) ∧ Below w.heap.size w w') := rright_any ⟨k, n, s⟩ w
theorem box_x (k n : Int) (s : ByteArray) (w : World) : Calls Try.prog 28 #[.agg #[.int .u8 k, .int .i64 n, .string s]] w (fun e w' => e = .returned (boxV ⟨k, n, s⟩) ∧ Below w.heap.size w w') := box_any ⟨k, n, s⟩ w
end Go.Proofs.Ytfakpmikflaofaa
