/-
  No cell of these rows narrows 'for every input' (looked for: loops, veiled, ifaces, maps, wideKeys, modest, calm, conditions, laid).
  DERIVED. THE GIVEN ROWS OF THIS SEAT. 7 by the template 'for every input the law returns true; each argument reads behind the call as it read before'; 0 by the template 'total and deterministic' (their statements: YtbikcjjbdgmhpaaTotals.lean).
  GIVEN WITH THE SEED: the statements are not yours to turn. If you find one false, say at which input.
  Laid BY PROGRAM, IN A SANDBOX (cutbox-rows.mjs): the forced cells as the released guide's own fill.sh prints them over the translation 7f459154afd00b51… (all of the seat's roots in one cut). By AI agents, Wed Nov 11 2026. No macro, syntax, notation, axiom, sorry.
-/
import Derived.Test.YtbikcjjbdgmhpaaChecked
import GoSem.Claim
import GoSem.ClaimJoined
import GoSem.ClaimMapViews
import Derived.JoinedTies
import Derived.KernelRfl
namespace Go.Proofs.Ytbikcjjbdgmhpaa
/- THE CELL 'sum', in the pinned program and in every row, IS THE sha256 OF THE DUMP (.gsa) THAT YtbikcjjbdgmhpaaProg.lean LOADS. Nothing in Lean hashes anything: it is a label: what it is worth is what the hold of that sum in a sandbox is worth. -/
noncomputable def Try.pinned : Pinned := { name := "ytbikcjjbdgmhpaa", sum := "7f459154afd00b517ee4ee9c877aeee3eecfef276dad8698fe81004a951f4b59", checked := Try.checked }
namespace Rows
def none {H : Type} : Left H := { results := [], args := [] }

/-- 'warplaw04.CellOrder': WHATEVER THE INPUT: true; the input reads as it did. -/
def cellOrderSpec : ChangeSpec := { name := "cellOrder", fn := fun _ => fun
  | [d1, d2, d3] => { results := [.lit (.bool true)], args := [d1, d2, d3] }
  | _ => none }
def cellOrderRow : OpenClaim := { program := "ytbikcjjbdgmhpaa", sum := "7f459154afd00b517ee4ee9c877aeee3eecfef276dad8698fe81004a951f4b59", func := "warp/warplaw04.CellOrder", spec := "cellOrder", unfollowed := true, recurses := true, apart := false }
def CellOrderSaid : Prop := cellOrderRow.holds Try.pinned (OpenSpec.ofChange cellOrderSpec)

/-- ITS FALSE NEIGHBOUR: 'it returns false'. Refute it at one input. -/
def cellOrderWrong : ChangeSpec := { name := "cellOrder", fn := fun _ => fun
  | [d1, d2, d3] => { results := [.lit (.bool false)], args := [d1, d2, d3] }
  | _ => none }
def CellOrderWrongFalsely : Prop := cellOrderRow.holds Try.pinned (OpenSpec.ofChange cellOrderWrong)

/-- 'warplaw04.CellTruths': WHATEVER THE INPUT: true; the input reads as it did. -/
def cellTruthsSpec : ChangeSpec := { name := "cellTruths", fn := fun _ => fun
  | [d1, d2, d3] => { results := [.lit (.bool true)], args := [d1, d2, d3] }
  | _ => none }
def cellTruthsRow : OpenClaim := { program := "ytbikcjjbdgmhpaa", sum := "7f459154afd00b517ee4ee9c877aeee3eecfef276dad8698fe81004a951f4b59", func := "warp/warplaw04.CellTruths", spec := "cellTruths", unfollowed := true, recurses := true, apart := false }
def CellTruthsSaid : Prop := cellTruthsRow.holds Try.pinned (OpenSpec.ofChange cellTruthsSpec)

/-- ITS FALSE NEIGHBOUR: 'it returns false'. Refute it at one input. -/
def cellTruthsWrong : ChangeSpec := { name := "cellTruths", fn := fun _ => fun
  | [d1, d2, d3] => { results := [.lit (.bool false)], args := [d1, d2, d3] }
  | _ => none }
def CellTruthsWrongFalsely : Prop := cellTruthsRow.holds Try.pinned (OpenSpec.ofChange cellTruthsWrong)

/-- 'warplaw04.CellAsserts': WHATEVER THE INPUT: true; the input reads as it did. -/
def cellAssertsSpec : ChangeSpec := { name := "cellAsserts", fn := fun _ => fun
  | [d] => { results := [.lit (.bool true)], args := [d] }
  | _ => none }
def cellAssertsRow : OpenClaim := { program := "ytbikcjjbdgmhpaa", sum := "7f459154afd00b517ee4ee9c877aeee3eecfef276dad8698fe81004a951f4b59", func := "warp/warplaw04.CellAsserts", spec := "cellAsserts", unfollowed := true, recurses := true, apart := false }
def CellAssertsSaid : Prop := cellAssertsRow.holds Try.pinned (OpenSpec.ofChange cellAssertsSpec)

/-- ITS FALSE NEIGHBOUR: 'it returns false'. Refute it at one input. -/
def cellAssertsWrong : ChangeSpec := { name := "cellAsserts", fn := fun _ => fun
  | [d] => { results := [.lit (.bool false)], args := [d] }
  | _ => none }
def CellAssertsWrongFalsely : Prop := cellAssertsRow.holds Try.pinned (OpenSpec.ofChange cellAssertsWrong)

/-- 'warplaw04.CellBoxes': WHATEVER THE INPUT: true; the input reads as it did. -/
def cellBoxesSpec : ChangeSpec := { name := "cellBoxes", fn := fun _ => fun
  | [d] => { results := [.lit (.bool true)], args := [d] }
  | _ => none }
def cellBoxesRow : OpenClaim := { program := "ytbikcjjbdgmhpaa", sum := "7f459154afd00b517ee4ee9c877aeee3eecfef276dad8698fe81004a951f4b59", func := "warp/warplaw04.CellBoxes", spec := "cellBoxes", unfollowed := true, recurses := true, apart := false }
def CellBoxesSaid : Prop := cellBoxesRow.holds Try.pinned (OpenSpec.ofChange cellBoxesSpec)

/-- ITS FALSE NEIGHBOUR: 'it returns false'. Refute it at one input. -/
def cellBoxesWrong : ChangeSpec := { name := "cellBoxes", fn := fun _ => fun
  | [d] => { results := [.lit (.bool false)], args := [d] }
  | _ => none }
def CellBoxesWrongFalsely : Prop := cellBoxesRow.holds Try.pinned (OpenSpec.ofChange cellBoxesWrong)

/-- 'warplaw04.CellTells': WHATEVER THE INPUT: true; the input reads as it did. -/
def cellTellsSpec : ChangeSpec := { name := "cellTells", fn := fun _ => fun
  | [d1, d2] => { results := [.lit (.bool true)], args := [d1, d2] }
  | _ => none }
def cellTellsRow : OpenClaim := { program := "ytbikcjjbdgmhpaa", sum := "7f459154afd00b517ee4ee9c877aeee3eecfef276dad8698fe81004a951f4b59", func := "warp/warplaw04.CellTells", spec := "cellTells", unfollowed := true, recurses := true, apart := false }
def CellTellsSaid : Prop := cellTellsRow.holds Try.pinned (OpenSpec.ofChange cellTellsSpec)

/-- ITS FALSE NEIGHBOUR: 'it returns false'. Refute it at one input. -/
def cellTellsWrong : ChangeSpec := { name := "cellTells", fn := fun _ => fun
  | [d1, d2] => { results := [.lit (.bool false)], args := [d1, d2] }
  | _ => none }
def CellTellsWrongFalsely : Prop := cellTellsRow.holds Try.pinned (OpenSpec.ofChange cellTellsWrong)

/-- 'warplaw04.CellPuts': WHATEVER THE INPUT: true; the input reads as it did. -/
def cellPutsSpec : ChangeSpec := { name := "cellPuts", fn := fun _ => fun
  | [d1, d2] => { results := [.lit (.bool true)], args := [d1, d2] }
  | _ => none }
def cellPutsRow : OpenClaim := { program := "ytbikcjjbdgmhpaa", sum := "7f459154afd00b517ee4ee9c877aeee3eecfef276dad8698fe81004a951f4b59", func := "warp/warplaw04.CellPuts", spec := "cellPuts", unfollowed := true, recurses := true, apart := false }
def CellPutsSaid : Prop := cellPutsRow.holds Try.pinned (OpenSpec.ofChange cellPutsSpec)

/-- ITS FALSE NEIGHBOUR: 'it returns false'. Refute it at one input. -/
def cellPutsWrong : ChangeSpec := { name := "cellPuts", fn := fun _ => fun
  | [d1, d2] => { results := [.lit (.bool false)], args := [d1, d2] }
  | _ => none }
def CellPutsWrongFalsely : Prop := cellPutsRow.holds Try.pinned (OpenSpec.ofChange cellPutsWrong)

/-- 'warplaw04.CellBack': WHATEVER THE INPUT: true; the input reads as it did. -/
def cellBackSpec : ChangeSpec := { name := "cellBack", fn := fun _ => fun
  | [d] => { results := [.lit (.bool true)], args := [d] }
  | _ => none }
def cellBackRow : OpenClaim := { program := "ytbikcjjbdgmhpaa", sum := "7f459154afd00b517ee4ee9c877aeee3eecfef276dad8698fe81004a951f4b59", func := "warp/warplaw04.CellBack", spec := "cellBack", unfollowed := true, recurses := true, apart := false }
def CellBackSaid : Prop := cellBackRow.holds Try.pinned (OpenSpec.ofChange cellBackSpec)

/-- ITS FALSE NEIGHBOUR: 'it returns false'. Refute it at one input. -/
def cellBackWrong : ChangeSpec := { name := "cellBack", fn := fun _ => fun
  | [d] => { results := [.lit (.bool false)], args := [d] }
  | _ => none }
def CellBackWrongFalsely : Prop := cellBackRow.holds Try.pinned (OpenSpec.ofChange cellBackWrong)

/- THE SECOND FORM. 'bulk': how many values and letters a reading holds, each counted each time it is reached (what is shared counts as often as it is met; a slice's spare places count too). A statement '..UptoSaid' is the law's where the arguments, and the package variables that the reading takes, are together of bulk at most 1048576: NARROWER than '..Said'. Prove '..Said' where nothing that the law and all that it calls make is longer than what came in: it says more and counts as full. Else prove '..UptoSaid'. A law counts once. -/
mutual
def uptoBulk {H : Type} : DataW H → Nat
  | .lit (.string bytes) => bytes.length + 1
  | .lit _ => 1
  | .nil => 1
  | .ptr d => uptoBulk d + 1
  | .slice elems spare => uptoBulkAll elems + uptoBulkAll spare + 1
  | .agg parts => uptoBulkAll parts + 1
  | .iface _ d => uptoBulk d + 1
  | .map entries => uptoBulkEntries entries + 1
  | .held _ => 1
def uptoBulkAll {H : Type} : List (DataW H) → Nat
  | [] => 0
  | d :: r => uptoBulk d + uptoBulkAll r
def uptoBulkEntries {H : Type} : List (Lit × DataW H) → Nat
  | [] => 0
  | x :: r => uptoBulkEntry x + uptoBulkEntries r
def uptoBulkEntry {H : Type} : Lit × DataW H → Nat
  | (.string bytes, d) => bytes.length + uptoBulk d + 1
  | (_, d) => uptoBulk d + 1
 end
def uptoSmall : (H : Type) → List (DataW H) → Bool := fun _ ds => decide (uptoBulkAll ds ≤ 1048576)
def OpenSpec.upto (s : _root_.Go.ChangeSpec) : _root_.Go.OpenSpec := { _root_.Go.OpenSpec.ofChange s with cond := some uptoSmall }

/-- 'warplaw04.CellOrder', WHERE WHAT IT READS IS OF BULK AT MOST 1048576: true; the input reads as it did. -/
def cellOrderUptoRow : OpenClaim := { program := "ytbikcjjbdgmhpaa", sum := "7f459154afd00b517ee4ee9c877aeee3eecfef276dad8698fe81004a951f4b59", func := "warp/warplaw04.CellOrder", spec := "cellOrder", unfollowed := true, recurses := true, apart := false, narrowed := true }
def CellOrderUptoSaid : Prop := cellOrderUptoRow.holds Try.pinned (OpenSpec.upto cellOrderSpec)

/-- 'warplaw04.CellTruths', WHERE WHAT IT READS IS OF BULK AT MOST 1048576: true; the input reads as it did. -/
def cellTruthsUptoRow : OpenClaim := { program := "ytbikcjjbdgmhpaa", sum := "7f459154afd00b517ee4ee9c877aeee3eecfef276dad8698fe81004a951f4b59", func := "warp/warplaw04.CellTruths", spec := "cellTruths", unfollowed := true, recurses := true, apart := false, narrowed := true }
def CellTruthsUptoSaid : Prop := cellTruthsUptoRow.holds Try.pinned (OpenSpec.upto cellTruthsSpec)

/-- 'warplaw04.CellAsserts', WHERE WHAT IT READS IS OF BULK AT MOST 1048576: true; the input reads as it did. -/
def cellAssertsUptoRow : OpenClaim := { program := "ytbikcjjbdgmhpaa", sum := "7f459154afd00b517ee4ee9c877aeee3eecfef276dad8698fe81004a951f4b59", func := "warp/warplaw04.CellAsserts", spec := "cellAsserts", unfollowed := true, recurses := true, apart := false, narrowed := true }
def CellAssertsUptoSaid : Prop := cellAssertsUptoRow.holds Try.pinned (OpenSpec.upto cellAssertsSpec)

/-- 'warplaw04.CellBoxes', WHERE WHAT IT READS IS OF BULK AT MOST 1048576: true; the input reads as it did. -/
def cellBoxesUptoRow : OpenClaim := { program := "ytbikcjjbdgmhpaa", sum := "7f459154afd00b517ee4ee9c877aeee3eecfef276dad8698fe81004a951f4b59", func := "warp/warplaw04.CellBoxes", spec := "cellBoxes", unfollowed := true, recurses := true, apart := false, narrowed := true }
def CellBoxesUptoSaid : Prop := cellBoxesUptoRow.holds Try.pinned (OpenSpec.upto cellBoxesSpec)

/-- 'warplaw04.CellTells', WHERE WHAT IT READS IS OF BULK AT MOST 1048576: true; the input reads as it did. -/
def cellTellsUptoRow : OpenClaim := { program := "ytbikcjjbdgmhpaa", sum := "7f459154afd00b517ee4ee9c877aeee3eecfef276dad8698fe81004a951f4b59", func := "warp/warplaw04.CellTells", spec := "cellTells", unfollowed := true, recurses := true, apart := false, narrowed := true }
def CellTellsUptoSaid : Prop := cellTellsUptoRow.holds Try.pinned (OpenSpec.upto cellTellsSpec)

/-- 'warplaw04.CellPuts', WHERE WHAT IT READS IS OF BULK AT MOST 1048576: true; the input reads as it did. -/
def cellPutsUptoRow : OpenClaim := { program := "ytbikcjjbdgmhpaa", sum := "7f459154afd00b517ee4ee9c877aeee3eecfef276dad8698fe81004a951f4b59", func := "warp/warplaw04.CellPuts", spec := "cellPuts", unfollowed := true, recurses := true, apart := false, narrowed := true }
def CellPutsUptoSaid : Prop := cellPutsUptoRow.holds Try.pinned (OpenSpec.upto cellPutsSpec)

/-- 'warplaw04.CellBack', WHERE WHAT IT READS IS OF BULK AT MOST 1048576: true; the input reads as it did. -/
def cellBackUptoRow : OpenClaim := { program := "ytbikcjjbdgmhpaa", sum := "7f459154afd00b517ee4ee9c877aeee3eecfef276dad8698fe81004a951f4b59", func := "warp/warplaw04.CellBack", spec := "cellBack", unfollowed := true, recurses := true, apart := false, narrowed := true }
def CellBackUptoSaid : Prop := cellBackUptoRow.holds Try.pinned (OpenSpec.upto cellBackSpec)

end Rows
end Go.Proofs.Ytbikcjjbdgmhpaa
