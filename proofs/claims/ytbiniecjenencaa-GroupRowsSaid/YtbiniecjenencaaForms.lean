/- The contracts of layer 4, with the values written out. -/
import Derived.Test.YtbiniecjenencaaEqLess
set_option linter.unusedVariables false
set_option linter.unusedSimpArgs false
set_option maxRecDepth 10000
namespace Go.Proofs.Ytbiniecjenencaa
open Go.RowKit
theorem compare_x (k n : Int) (s : ByteArray) (k' n' : Int) (s' : ByteArray) (w : World) : Calls Try.prog 54 #[.agg #[.int .u8 k, .int .i64 n, .string s], .agg #[.int .u8 k', .int .i64 n', .string s']] w (fun e w' => e = .returned (.int .i64 (cmpV ⟨k, n, s⟩ ⟨k', n', s'⟩)) ∧ Below w.heap.size w w') := compare_any ⟨k, n, s⟩ ⟨k', n', s'⟩ w
theorem rcompare_x (k n : Int) (s : ByteArray) (k' n' : Int) (s' : ByteArray) (w : World) : Calls Try.prog 47 #[.agg #[.int .u8 k, .int .i64 n, .string s], .agg #[.int .u8 k', .int .i64 n', .string s']] w (fun e w' => e = .returned (.int .i64 (cmpV ⟨k, n, s⟩ ⟨k', n', s'⟩)) ∧ Below w.heap.size w w') := rcompare_any ⟨k, n, s⟩ ⟨k', n', s'⟩ w
theorem right_x (k n : Int) (s : ByteArray) (w : World) : Calls Try.prog 38 #[.agg #[.int .u8 k, .int .i64 n, .string s]] w (fun e w' => e = .returned (.bool (rightB ⟨k, n, s⟩)) ∧ Below w.heap.size w w') := right_any ⟨k, n, s⟩ w
theorem rright_x (k n : Int) (s : ByteArray) (w : World) : Calls Try.prog 32 #[.agg #[.int .u8 k, .int .i64 n, .string s]] w (fun e w' => e = .returned (.bool (rightB ⟨k, n, s⟩)) ∧ Below w.heap.size w w') := rright_any ⟨k, n, s⟩ w
theorem box_x (k n : Int) (s : ByteArray) (w : World) : Calls Try.prog 51 #[.agg #[.int .u8 k, .int .i64 n, .string s]] w (fun e w' => e = .returned (boxV ⟨k, n, s⟩) ∧ Below w.heap.size w w') := box_any ⟨k, n, s⟩ w
end Go.Proofs.Ytbiniecjenencaa
