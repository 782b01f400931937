/- The contracts of layer 4, with the values written out. -/
import Derived.Test.YtfhlbiddhgkcpaaEqLess
set_option linter.unusedVariables false
set_option linter.unusedSimpArgs false
namespace Go.Proofs.Ytfhlbiddhgkcpaa
open Go.RowKit
theorem compare_x (k n : Int) (s : ByteArray) (k' n' : Int) (s' : ByteArray) (w : World) : Calls Try.prog 41 #[.agg #[.int .u8 k, .int .i64 n, .string s], .agg #[.int .u8 k', .int .i64 n', .string s']] w (fun e w' => e = .returned (.int .i64 (cmpV ⟨k, n, s⟩ ⟨k', n', s'⟩)) ∧ Below w.heap.size w w') := compare_any ⟨k, n, s⟩ ⟨k', n', s'⟩ w
theorem rcompare_x (k n : Int) (s : ByteArray) (k' n' : Int) (s' : ByteArray) (w : World) : Calls Try.prog 34 #[.agg #[.int .u8 k, .int .i64 n, .string s], .agg #[.int .u8 k', .int .i64 n', .string s']] w (fun e w' => e = .returned (.int .i64 (cmpV ⟨k, n, s⟩ ⟨k', n', s'⟩)) ∧ Below w.heap.size w w') := rcompare_any ⟨k, n, s⟩ ⟨k', n', s'⟩ w
end Go.Proofs.Ytfhlbiddhgkcpaa
