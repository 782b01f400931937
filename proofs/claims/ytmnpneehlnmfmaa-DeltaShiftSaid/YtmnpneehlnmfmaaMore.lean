/- More plain laws on memory. -/
import Derived.Test.YtmnpneehlnmfmaaBase
set_option linter.unusedVariables false
namespace Go.Proofs.Ytmnpneehlnmfmaa
open Go.RowKit
/-- s[k:], as the walk spells its address. -/
theorem Cs.cut {w : World} {ao : Option Addr} {xs : List Value} (h : Cs w ao xs) (k c : Nat) (hc : xs.length ≤ c) : Cs w (if c = k then ao else ao.map fun x => x.add k) (xs.drop k) := by
  by_cases e : c = k
  · rw [if_pos e, List.drop_of_length_le (by omega)]; exact Cs.nil _ _
  · rw [if_neg e]; exact h.dropMap k
theorem bcells_drop (l : List UInt8) (k : Nat) : (bcells l).drop k = bcells (l.drop k) := by simp [bcells]
theorem bcells_take (l : List UInt8) (k : Nat) : (bcells l).take k = bcells (l.take k) := by simp [bcells]
theorem Cs.bcut {w : World} {ao : Option Addr} {l : List UInt8} (h : Cs w ao (bcells l)) (k c : Nat) (hc : l.length ≤ c) : Cs w (if c = k then ao else ao.map fun x => x.add k) (bcells (l.drop k)) := by
  rw [← bcells_drop]; exact h.cut k c (by rw [bcells_length]; exact hc)
end Go.Proofs.Ytmnpneehlnmfmaa
