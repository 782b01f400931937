/- Values: how two of them stand to each other; what cmp.Compare, cmp.Or and cell.Compare return. -/
import Derived.Test.YtfakpmikflaofaaBase
import Derived.Test.YtfakpmikflaofaaMix
import Derived.Test.YtfakpmikflaofaaProg
import Derived.WalkLawsBesides
set_option linter.unusedVariables false
set_option linter.unusedSimpArgs false
namespace Go.Proofs.Ytfakpmikflaofaa
open Go.RowKit
/-- A value: its kind, its number, its text. -/
structure V where
  k : Int
  n : Int
  s : ByteArray
def V.val (a : V) : Value := .agg #[.int .u8 a.k, .int .i64 a.n, .string a.s]
def cmpI (a b : Int) : Int := if a < b then -1 else if b < a then 1 else 0
def cmpS (a b : ByteArray) : Int := if Op.bytesLess a.toList b.toList = true then -1 else if a.toList = b.toList then 0 else 1
def or3 (a b c : Int) : Int := if a = 0 then (if b = 0 then c else b) else a
def cmpV (a b : V) : Int := or3 (cmpI a.k b.k) (cmpI a.n b.n) (cmpS a.s b.s)

def orL : List Int → Int
  | [] => 0
  | x :: l => if x = 0 then orL l else x
theorem orL3 (a b c : Int) : orL [a, b, c] = or3 a b c := by
  unfold or3 orL orL orL orL
  by_cases h : c = 0
  · rw [if_pos h, h]
  · rw [if_neg h]
end Go.Proofs.Ytfakpmikflaofaa
