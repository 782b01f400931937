/-
  No cell of these rows narrows 'for every input' (looked for: loops, veiled, ifaces, maps, wideKeys, modest, calm, conditions, laid).
  DERIVED. THE GIVEN ROWS OF THIS SEAT. 6 by the template 'for every input the law returns true; each argument reads behind the call as it read before'; 0 by the template 'total and deterministic' (their statements: YtmnpneehlnmfmaaTotals.lean).
  GIVEN WITH THE SEED: the statements are not yours to turn. If you find one false, say at which input.
  Laid BY PROGRAM, IN A SANDBOX (cutbox-rows.mjs): the forced cells as the released guide's own fill.sh prints them over the translation 722e96a31618cda7… (all of the seat's roots in one cut). By AI agents, Wed Nov 11 2026. No macro, syntax, notation, axiom, sorry.
-/
import Derived.Test.YtmnpneehlnmfmaaChecked
import GoSem.Claim
import GoSem.ClaimJoined
import GoSem.ClaimMapViews
import Derived.JoinedTies
import Derived.KernelRfl
namespace Go.Proofs.Ytmnpneehlnmfmaa
/- THE CELL 'sum', in the pinned program and in every row, IS THE sha256 OF THE DUMP (.gsa) THAT YtmnpneehlnmfmaaProg.lean LOADS. Nothing in Lean hashes anything: it is a label: what it is worth is what the hold of that sum in a sandbox is worth. -/
noncomputable def Try.pinned : Pinned := { name := "ytmnpneehlnmfmaa", sum := "722e96a31618cda756933c317b5072af8165d3af3e5beaddbe4bc08e9ea65217", checked := Try.checked }
namespace Rows
def none {H : Type} : Left H := { results := [], args := [] }

/-- 'warplaw11.DeltaSteps': WHATEVER THE INPUT: true; the input reads as it did. -/
def deltaStepsSpec : ChangeSpec := { name := "deltaSteps", fn := fun _ => fun
  | [d1, d2] => { results := [.lit (.bool true)], args := [d1, d2] }
  | _ => none }
def deltaStepsRow : OpenClaim := { program := "ytmnpneehlnmfmaa", sum := "722e96a31618cda756933c317b5072af8165d3af3e5beaddbe4bc08e9ea65217", func := "warp/warplaw11.DeltaSteps", spec := "deltaSteps", apart := false }
def DeltaStepsSaid : Prop := deltaStepsRow.holds Try.pinned (OpenSpec.ofChange deltaStepsSpec)

/-- ITS FALSE NEIGHBOUR: 'it returns false'. Refute it at one input. -/
def deltaStepsWrong : ChangeSpec := { name := "deltaSteps", fn := fun _ => fun
  | [d1, d2] => { results := [.lit (.bool false)], args := [d1, d2] }
  | _ => none }
def DeltaStepsWrongFalsely : Prop := deltaStepsRow.holds Try.pinned (OpenSpec.ofChange deltaStepsWrong)

/-- 'warplaw11.DeltaPuts': WHATEVER THE INPUT: true; the input reads as it did. -/
def deltaPutsSpec : ChangeSpec := { name := "deltaPuts", fn := fun _ => fun
  | [d1, d2, d3] => { results := [.lit (.bool true)], args := [d1, d2, d3] }
  | _ => none }
def deltaPutsRow : OpenClaim := { program := "ytmnpneehlnmfmaa", sum := "722e96a31618cda756933c317b5072af8165d3af3e5beaddbe4bc08e9ea65217", func := "warp/warplaw11.DeltaPuts", spec := "deltaPuts", apart := false }
def DeltaPutsSaid : Prop := deltaPutsRow.holds Try.pinned (OpenSpec.ofChange deltaPutsSpec)

/-- ITS FALSE NEIGHBOUR: 'it returns false'. Refute it at one input. -/
def deltaPutsWrong : ChangeSpec := { name := "deltaPuts", fn := fun _ => fun
  | [d1, d2, d3] => { results := [.lit (.bool false)], args := [d1, d2, d3] }
  | _ => none }
def DeltaPutsWrongFalsely : Prop := deltaPutsRow.holds Try.pinned (OpenSpec.ofChange deltaPutsWrong)

/-- 'warplaw11.DeltaShift': WHATEVER THE INPUT: true; the input reads as it did. -/
def deltaShiftSpec : ChangeSpec := { name := "deltaShift", fn := fun _ => fun
  | [d1, d2] => { results := [.lit (.bool true)], args := [d1, d2] }
  | _ => none }
def deltaShiftRow : OpenClaim := { program := "ytmnpneehlnmfmaa", sum := "722e96a31618cda756933c317b5072af8165d3af3e5beaddbe4bc08e9ea65217", func := "warp/warplaw11.DeltaShift", spec := "deltaShift", apart := false }
def DeltaShiftSaid : Prop := deltaShiftRow.holds Try.pinned (OpenSpec.ofChange deltaShiftSpec)

/-- ITS FALSE NEIGHBOUR: 'it returns false'. Refute it at one input. -/
def deltaShiftWrong : ChangeSpec := { name := "deltaShift", fn := fun _ => fun
  | [d1, d2] => { results := [.lit (.bool false)], args := [d1, d2] }
  | _ => none }
def DeltaShiftWrongFalsely : Prop := deltaShiftRow.holds Try.pinned (OpenSpec.ofChange deltaShiftWrong)

/-- 'warplaw11.DeltaTakes': WHATEVER THE INPUT: true; the input reads as it did. -/
def deltaTakesSpec : ChangeSpec := { name := "deltaTakes", fn := fun _ => fun
  | [d] => { results := [.lit (.bool true)], args := [d] }
  | _ => none }
def deltaTakesRow : OpenClaim := { program := "ytmnpneehlnmfmaa", sum := "722e96a31618cda756933c317b5072af8165d3af3e5beaddbe4bc08e9ea65217", func := "warp/warplaw11.DeltaTakes", spec := "deltaTakes", apart := false }
def DeltaTakesSaid : Prop := deltaTakesRow.holds Try.pinned (OpenSpec.ofChange deltaTakesSpec)

/-- ITS FALSE NEIGHBOUR: 'it returns false'. Refute it at one input. -/
def deltaTakesWrong : ChangeSpec := { name := "deltaTakes", fn := fun _ => fun
  | [d] => { results := [.lit (.bool false)], args := [d] }
  | _ => none }
def DeltaTakesWrongFalsely : Prop := deltaTakesRow.holds Try.pinned (OpenSpec.ofChange deltaTakesWrong)

/-- 'warplaw11.DeltaBack': WHATEVER THE INPUT: true; the input reads as it did. -/
def deltaBackSpec : ChangeSpec := { name := "deltaBack", fn := fun _ => fun
  | [d1, d2] => { results := [.lit (.bool true)], args := [d1, d2] }
  | _ => none }
def deltaBackRow : OpenClaim := { program := "ytmnpneehlnmfmaa", sum := "722e96a31618cda756933c317b5072af8165d3af3e5beaddbe4bc08e9ea65217", func := "warp/warplaw11.DeltaBack", spec := "deltaBack", apart := false }
def DeltaBackSaid : Prop := deltaBackRow.holds Try.pinned (OpenSpec.ofChange deltaBackSpec)

/-- ITS FALSE NEIGHBOUR: 'it returns false'. Refute it at one input. -/
def deltaBackWrong : ChangeSpec := { name := "deltaBack", fn := fun _ => fun
  | [d1, d2] => { results := [.lit (.bool false)], args := [d1, d2] }
  | _ => none }
def DeltaBackWrongFalsely : Prop := deltaBackRow.holds Try.pinned (OpenSpec.ofChange deltaBackWrong)

/-- 'warplaw11.DeltaSmall': WHATEVER THE INPUT: true; the input reads as it did. -/
def deltaSmallSpec : ChangeSpec := { name := "deltaSmall", fn := fun _ => fun
  | [d] => { results := [.lit (.bool true)], args := [d] }
  | _ => none }
def deltaSmallRow : OpenClaim := { program := "ytmnpneehlnmfmaa", sum := "722e96a31618cda756933c317b5072af8165d3af3e5beaddbe4bc08e9ea65217", func := "warp/warplaw11.DeltaSmall", spec := "deltaSmall", apart := false }
def DeltaSmallSaid : Prop := deltaSmallRow.holds Try.pinned (OpenSpec.ofChange deltaSmallSpec)

/-- ITS FALSE NEIGHBOUR: 'it returns false'. Refute it at one input. -/
def deltaSmallWrong : ChangeSpec := { name := "deltaSmall", fn := fun _ => fun
  | [d] => { results := [.lit (.bool false)], args := [d] }
  | _ => none }
def DeltaSmallWrongFalsely : Prop := deltaSmallRow.holds Try.pinned (OpenSpec.ofChange deltaSmallWrong)

/- THE SECOND FORM. 'bulk': how many values and letters a reading holds, each counted each time it is reached (what is shared counts as often as it is met; a slice's spare places count too). A statement '..UptoSaid' is the law's where the arguments, and the package variables that the reading takes, are together of bulk at most 1048576: NARROWER than '..Said'. Prove '..Said' where nothing that the law and all that it calls make is longer than what came in: it says more and counts as full. Else prove '..UptoSaid'. A law counts once. -/
mutual
def uptoBulk {H : Type} : DataW H → Nat
  | .lit (.string bytes) => bytes.length + 1
  | .lit _ => 1
  | .nil => 1
  | .ptr d => uptoBulk d + 1
  | .slice elems spare => uptoBulkAll elems + uptoBulkAll spare + 1
  | .agg parts => uptoBulkAll parts + 1
  | .iface _ d => uptoBulk d + 1
  | .map entries => uptoBulkEntries entries + 1
  | .held _ => 1
def uptoBulkAll {H : Type} : List (DataW H) → Nat
  | [] => 0
  | d :: r => uptoBulk d + uptoBulkAll r
def uptoBulkEntries {H : Type} : List (Lit × DataW H) → Nat
  | [] => 0
  | x :: r => uptoBulkEntry x + uptoBulkEntries r
def uptoBulkEntry {H : Type} : Lit × DataW H → Nat
  | (.string bytes, d) => bytes.length + uptoBulk d + 1
  | (_, d) => uptoBulk d + 1
 end
def uptoSmall : (H : Type) → List (DataW H) → Bool := fun _ ds => decide (uptoBulkAll ds ≤ 1048576)
def OpenSpec.upto (s : _root_.Go.ChangeSpec) : _root_.Go.OpenSpec := { _root_.Go.OpenSpec.ofChange s with cond := some uptoSmall }

/-- 'warplaw11.DeltaSteps', WHERE WHAT IT READS IS OF BULK AT MOST 1048576: true; the input reads as it did. -/
def deltaStepsUptoRow : OpenClaim := { program := "ytmnpneehlnmfmaa", sum := "722e96a31618cda756933c317b5072af8165d3af3e5beaddbe4bc08e9ea65217", func := "warp/warplaw11.DeltaSteps", spec := "deltaSteps", apart := false, narrowed := true }
def DeltaStepsUptoSaid : Prop := deltaStepsUptoRow.holds Try.pinned (OpenSpec.upto deltaStepsSpec)

/-- 'warplaw11.DeltaPuts', WHERE WHAT IT READS IS OF BULK AT MOST 1048576: true; the input reads as it did. -/
def deltaPutsUptoRow : OpenClaim := { program := "ytmnpneehlnmfmaa", sum := "722e96a31618cda756933c317b5072af8165d3af3e5beaddbe4bc08e9ea65217", func := "warp/warplaw11.DeltaPuts", spec := "deltaPuts", apart := false, narrowed := true }
def DeltaPutsUptoSaid : Prop := deltaPutsUptoRow.holds Try.pinned (OpenSpec.upto deltaPutsSpec)

/-- 'warplaw11.DeltaShift', WHERE WHAT IT READS IS OF BULK AT MOST 1048576: true; the input reads as it did. -/
def deltaShiftUptoRow : OpenClaim := { program := "ytmnpneehlnmfmaa", sum := "722e96a31618cda756933c317b5072af8165d3af3e5beaddbe4bc08e9ea65217", func := "warp/warplaw11.DeltaShift", spec := "deltaShift", apart := false, narrowed := true }
def DeltaShiftUptoSaid : Prop := deltaShiftUptoRow.holds Try.pinned (OpenSpec.upto deltaShiftSpec)

/-- 'warplaw11.DeltaTakes', WHERE WHAT IT READS IS OF BULK AT MOST 1048576: true; the input reads as it did. -/
def deltaTakesUptoRow : OpenClaim := { program := "ytmnpneehlnmfmaa", sum := "722e96a31618cda756933c317b5072af8165d3af3e5beaddbe4bc08e9ea65217", func := "warp/warplaw11.DeltaTakes", spec := "deltaTakes", apart := false, narrowed := true }
def DeltaTakesUptoSaid : Prop := deltaTakesUptoRow.holds Try.pinned (OpenSpec.upto deltaTakesSpec)

/-- 'warplaw11.DeltaBack', WHERE WHAT IT READS IS OF BULK AT MOST 1048576: true; the input reads as it did. -/
def deltaBackUptoRow : OpenClaim := { program := "ytmnpneehlnmfmaa", sum := "722e96a31618cda756933c317b5072af8165d3af3e5beaddbe4bc08e9ea65217", func := "warp/warplaw11.DeltaBack", spec := "deltaBack", apart := false, narrowed := true }
def DeltaBackUptoSaid : Prop := deltaBackUptoRow.holds Try.pinned (OpenSpec.upto deltaBackSpec)

/-- 'warplaw11.DeltaSmall', WHERE WHAT IT READS IS OF BULK AT MOST 1048576: true; the input reads as it did. -/
def deltaSmallUptoRow : OpenClaim := { program := "ytmnpneehlnmfmaa", sum := "722e96a31618cda756933c317b5072af8165d3af3e5beaddbe4bc08e9ea65217", func := "warp/warplaw11.DeltaSmall", spec := "deltaSmall", apart := false, narrowed := true }
def DeltaSmallUptoSaid : Prop := deltaSmallUptoRow.holds Try.pinned (OpenSpec.upto deltaSmallSpec)

end Rows
end Go.Proofs.Ytmnpneehlnmfmaa
