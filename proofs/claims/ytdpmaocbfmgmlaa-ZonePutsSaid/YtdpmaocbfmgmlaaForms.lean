/- The contracts of layer 4, with the values written out. -/
import Derived.Test.YtdpmaocbfmgmlaaEqLess
set_option linter.unusedVariables false
set_option linter.unusedSimpArgs false
namespace Go.Proofs.Ytdpmaocbfmgmlaa
open Go.RowKit
theorem compare_x (k n : Int) (s : ByteArray) (k' n' : Int) (s' : ByteArray) (w : World) : Calls Try.prog 35 #[.agg #[.int .u8 k, .int .i64 n, .string s], .agg #[.int .u8 k', .int .i64 n', .string s']] w (fun e w' => e = .returned (.int .i64 (cmpV ⟨k, n, s⟩ ⟨k', n', s'⟩)) ∧ Below w.heap.size w w') := compare_any ⟨k, n, s⟩ ⟨k', n', s'⟩ w
theorem rcompare_x (k n : Int) (s : ByteArray) (k' n' : Int) (s' : ByteArray) (w : World) : Calls Try.prog 34 #[.agg #[.int .u8 k, .int .i64 n, .string s], .agg #[.int .u8 k', .int .i64 n', .string s']] w (fun e w' => e = .returned (.int .i64 (cmpV ⟨k, n, s⟩ ⟨k', n', s'⟩)) ∧ Below w.heap.size w w') := rcompare_any ⟨k, n, s⟩ ⟨k', n', s'⟩ w
theorem equal_x (k n : Int) (s : ByteArray) (k' n' : Int) (s' : ByteArray) (w : World) : Calls Try.prog 22 #[.agg #[.int .u8 k, .int .i64 n, .string s], .agg #[.int .u8 k', .int .i64 n', .string s']] w (fun e w' => e = .returned (.int .u8 (truthV ⟨k, n, s⟩ ⟨k', n', s'⟩ (eqV ⟨k, n, s⟩ ⟨k', n', s'⟩))) ∧ Below w.heap.size w w') := equal_any ⟨k, n, s⟩ ⟨k', n', s'⟩ w
theorem less_x (k n : Int) (s : ByteArray) (k' n' : Int) (s' : ByteArray) (w : World) : Calls Try.prog 23 #[.agg #[.int .u8 k, .int .i64 n, .string s], .agg #[.int .u8 k', .int .i64 n', .string s']] w (fun e w' => e = .returned (.int .u8 (truthV ⟨k, n, s⟩ ⟨k', n', s'⟩ (decide (cmpV ⟨k, n, s⟩ ⟨k', n', s'⟩ < 0)))) ∧ Below w.heap.size w w') := less_any ⟨k, n, s⟩ ⟨k', n', s'⟩ w
theorem right_x (k n : Int) (s : ByteArray) (w : World) : Calls Try.prog 30 #[.agg #[.int .u8 k, .int .i64 n, .string s]] w (fun e w' => e = .returned (.bool (rightB ⟨k, n, s⟩)) ∧ Below w.heap.size w w') := right_any ⟨k, n, s⟩ w
theorem rright_x (k n : Int) (s : ByteArray) (w : World) : Calls Try.prog 64 #[.agg #[.int .u8 k, .int .i64 n, .string s]] w (fun e w' => e = .returned (.bool (rightB ⟨k, n, s⟩)) ∧ Below w.heap.size w w') := rright_any ⟨k, n, s⟩ w
theorem box_x (k n : Int) (s : ByteArray) (w : World) : Calls Try.prog 54 #[.agg #[.int .u8 k, .int .i64 n, .string s]] w (fun e w' => e = .returned (boxV ⟨k, n, s⟩) ∧ Below w.heap.size w w') := box_any ⟨k, n, s⟩ w
end Go.Proofs.Ytdpmaocbfmgmlaa
