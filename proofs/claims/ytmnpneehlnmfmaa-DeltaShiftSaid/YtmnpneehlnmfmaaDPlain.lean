/- Steps between numbers, and numbers as bytes by their steps: plain laws. -/
import Derived.Test.YtmnpneehlnmfmaaOct
set_option linter.unusedVariables false
namespace Go.Proofs.Ytmnpneehlnmfmaa
open Go.RowKit
/-- Is the step from a to b a number? -/
def stp (a b : Int) : Bool := decide (-9223372036854775808 ≤ b - a ∧ b - a ≤ 9223372036854775807)
def stN (a b : Int) : Int := if stp a b then b - a else 0
def stE (a b : Int) : Int := if stp a b then 0 else 8
/-- The bytes of numbers behind bytes, by their steps. -/
def putGo : List UInt8 → Int → List Int → Option (List UInt8)
  | acc, _, [] => some acc
  | acc, last, n :: l => if stp last n then putGo (acc ++ intB (n - last)) n l else none
def putO (zs : List Int) : Option (List UInt8) := putGo (numB zs.length) 0 zs
/-- What Put tells: the bytes, and the kind. -/
def putR (zs : List Int) : List UInt8 := if zs.length ≤ 4096 then (putO zs).getD [] else []
def putK (o : Option (List UInt8)) : Int := if o.isSome then 0 else 8
def putC (zs : List Int) : Int := if zs.length ≤ 4096 then putK (putO zs) else 3
theorem putC_range (zs : List Int) : putC zs = 0 ∨ putC zs = 3 ∨ putC zs = 8 := by
  unfold putC putK; split
  · split <;> simp
  · simp
/-- Do numbers rise, or stay? -/
def risesB (zs : List Int) : Bool := (List.range (zs.length - 1)).all fun i => decide (zs.getD i 0 ≤ zs.getD (i + 1) 0)
theorem rises_true {zs : List Int} (h : ∀ i, i + 1 < zs.length → zs.getD i 0 ≤ zs.getD (i + 1) 0) : risesB zs = true := by
  unfold risesB
  rw [List.all_eq_true]
  intro i hi
  rw [List.mem_range] at hi
  exact decide_eq_true (h i (by omega))
theorem rises_false {zs : List Int} (i : Nat) (hi : i + 1 < zs.length) (h : zs.getD (i + 1) 0 < zs.getD i 0) : risesB zs = false := by
  cases hr : risesB zs with
  | false => rfl
  | true =>
    unfold risesB at hr
    rw [List.all_eq_true] at hr
    have := of_decide_eq_true (hr i (by rw [List.mem_range]; omega))
    omega
end Go.Proofs.Ytmnpneehlnmfmaa
