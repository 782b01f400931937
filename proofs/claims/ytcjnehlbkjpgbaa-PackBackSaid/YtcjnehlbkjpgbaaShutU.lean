/- Numbers without signs that came in. -/
import Derived.Test.YtcjnehlbkjpgbaaPackP
import Derived.Test.YtcjnehlbkjpgbaaShut
set_option linter.unusedVariables false
set_option linter.unusedSimpArgs false
namespace Go.Proofs.Ytcjnehlbkjpgbaa
open Go.RowKit
theorem nums_of {zs : List Int} (h : ∀ n ∈ zs, (Lit.int .u64 n).wf = true) : zs.map (Value.int .u64) = ucells (zs.map Int.toNat) := by
  unfold ucells
  rw [List.map_map]
  apply List.map_congr_left
  intro n hn
  have := bounds_u64 (h n hn)
  show Value.int .u64 n = Value.int .u64 ((n.toNat : Nat) : Int)
  rw [Int.toNat_of_nonneg (by omega)]
theorem nums_lt {zs : List Int} (h : ∀ n ∈ zs, (Lit.int .u64 n).wf = true) : ∀ x ∈ zs.map Int.toNat, x < 2 ^ 64 := by
  intro x hx
  obtain ⟨n, hn, rfl⟩ := List.mem_map.1 hx
  have := bounds_u64 (h n hn)
  omega
end Go.Proofs.Ytcjnehlbkjpgbaa
