/-
  No cell of these rows narrows 'for every input' (looked for: loops, veiled, ifaces, maps, wideKeys, modest, calm, conditions, laid).
  DERIVED. THE GIVEN ROWS OF THIS SEAT. 5 by the template 'for every input the law returns true; each argument reads behind the call as it read before'; 0 by the template 'total and deterministic' (their statements: YtkgcjafediimnaaTotals.lean).
  GIVEN WITH THE SEED: the statements are not yours to turn. If you find one false, say at which input.
  Laid BY PROGRAM, IN A SANDBOX (cutbox-rows.mjs): the forced cells as the released guide's own fill.sh prints them over the translation a0b2baed6107f6f3… (all of the seat's roots in one cut). By AI agents, Wed Nov 11 2026. No macro, syntax, notation, axiom, sorry.
-/
import Derived.Test.YtkgcjafediimnaaChecked
import GoSem.Claim
import GoSem.ClaimJoined
import GoSem.ClaimMapViews
import Derived.JoinedTies
import Derived.KernelRfl
namespace Go.Proofs.Ytkgcjafediimnaa
/- THE CELL 'sum', in the pinned program and in every row, IS THE sha256 OF THE DUMP (.gsa) THAT YtkgcjafediimnaaProg.lean LOADS. Nothing in Lean hashes anything: it is a label: what it is worth is what the hold of that sum in a sandbox is worth. -/
noncomputable def Try.pinned : Pinned := { name := "ytkgcjafediimnaa", sum := "a0b2baed6107f6f301ac231163e8d2bac1d3821eec5faafea7cd5e1d7892d6c8", checked := Try.checked }
namespace Rows
def none {H : Type} : Left H := { results := [], args := [] }

/-- 'warplaw09.RunsOf': WHATEVER THE INPUT: true; the input reads as it did. -/
def runsOfSpec : ChangeSpec := { name := "runsOf", fn := fun _ => fun
  | [d] => { results := [.lit (.bool true)], args := [d] }
  | _ => none }
def runsOfRow : OpenClaim := { program := "ytkgcjafediimnaa", sum := "a0b2baed6107f6f301ac231163e8d2bac1d3821eec5faafea7cd5e1d7892d6c8", func := "warp/warplaw09.RunsOf", spec := "runsOf", unfollowed := true, recurses := true, apart := false }
def RunsOfSaid : Prop := runsOfRow.holds Try.pinned (OpenSpec.ofChange runsOfSpec)

/-- ITS FALSE NEIGHBOUR: 'it returns false'. Refute it at one input. -/
def runsOfWrong : ChangeSpec := { name := "runsOf", fn := fun _ => fun
  | [d] => { results := [.lit (.bool false)], args := [d] }
  | _ => none }
def RunsOfWrongFalsely : Prop := runsOfRow.holds Try.pinned (OpenSpec.ofChange runsOfWrong)

/-- 'warplaw09.RunsFew': WHATEVER THE INPUT: true; the input reads as it did. -/
def runsFewSpec : ChangeSpec := { name := "runsFew", fn := fun _ => fun
  | [d] => { results := [.lit (.bool true)], args := [d] }
  | _ => none }
def runsFewRow : OpenClaim := { program := "ytkgcjafediimnaa", sum := "a0b2baed6107f6f301ac231163e8d2bac1d3821eec5faafea7cd5e1d7892d6c8", func := "warp/warplaw09.RunsFew", spec := "runsFew", unfollowed := true, recurses := true, apart := false }
def RunsFewSaid : Prop := runsFewRow.holds Try.pinned (OpenSpec.ofChange runsFewSpec)

/-- ITS FALSE NEIGHBOUR: 'it returns false'. Refute it at one input. -/
def runsFewWrong : ChangeSpec := { name := "runsFew", fn := fun _ => fun
  | [d] => { results := [.lit (.bool false)], args := [d] }
  | _ => none }
def RunsFewWrongFalsely : Prop := runsFewRow.holds Try.pinned (OpenSpec.ofChange runsFewWrong)

/-- 'warplaw09.RunsTell': WHATEVER THE INPUT: true; the input reads as it did. -/
def runsTellSpec : ChangeSpec := { name := "runsTell", fn := fun _ => fun
  | [d1, d2] => { results := [.lit (.bool true)], args := [d1, d2] }
  | _ => none }
def runsTellRow : OpenClaim := { program := "ytkgcjafediimnaa", sum := "a0b2baed6107f6f301ac231163e8d2bac1d3821eec5faafea7cd5e1d7892d6c8", func := "warp/warplaw09.RunsTell", spec := "runsTell", unfollowed := true, recurses := true, apart := false }
def RunsTellSaid : Prop := runsTellRow.holds Try.pinned (OpenSpec.ofChange runsTellSpec)

/-- ITS FALSE NEIGHBOUR: 'it returns false'. Refute it at one input. -/
def runsTellWrong : ChangeSpec := { name := "runsTell", fn := fun _ => fun
  | [d1, d2] => { results := [.lit (.bool false)], args := [d1, d2] }
  | _ => none }
def RunsTellWrongFalsely : Prop := runsTellRow.holds Try.pinned (OpenSpec.ofChange runsTellWrong)

/-- 'warplaw09.RunsTake': WHATEVER THE INPUT: true; the input reads as it did. -/
def runsTakeSpec : ChangeSpec := { name := "runsTake", fn := fun _ => fun
  | [d] => { results := [.lit (.bool true)], args := [d] }
  | _ => none }
def runsTakeRow : OpenClaim := { program := "ytkgcjafediimnaa", sum := "a0b2baed6107f6f301ac231163e8d2bac1d3821eec5faafea7cd5e1d7892d6c8", func := "warp/warplaw09.RunsTake", spec := "runsTake", unfollowed := true, recurses := true, apart := false }
def RunsTakeSaid : Prop := runsTakeRow.holds Try.pinned (OpenSpec.ofChange runsTakeSpec)

/-- ITS FALSE NEIGHBOUR: 'it returns false'. Refute it at one input. -/
def runsTakeWrong : ChangeSpec := { name := "runsTake", fn := fun _ => fun
  | [d] => { results := [.lit (.bool false)], args := [d] }
  | _ => none }
def RunsTakeWrongFalsely : Prop := runsTakeRow.holds Try.pinned (OpenSpec.ofChange runsTakeWrong)

/-- 'warplaw09.RunsBack': WHATEVER THE INPUT: true; the input reads as it did. -/
def runsBackSpec : ChangeSpec := { name := "runsBack", fn := fun _ => fun
  | [d1, d2, d3] => { results := [.lit (.bool true)], args := [d1, d2, d3] }
  | _ => none }
def runsBackRow : OpenClaim := { program := "ytkgcjafediimnaa", sum := "a0b2baed6107f6f301ac231163e8d2bac1d3821eec5faafea7cd5e1d7892d6c8", func := "warp/warplaw09.RunsBack", spec := "runsBack", unfollowed := true, recurses := true, apart := false }
def RunsBackSaid : Prop := runsBackRow.holds Try.pinned (OpenSpec.ofChange runsBackSpec)

/-- ITS FALSE NEIGHBOUR: 'it returns false'. Refute it at one input. -/
def runsBackWrong : ChangeSpec := { name := "runsBack", fn := fun _ => fun
  | [d1, d2, d3] => { results := [.lit (.bool false)], args := [d1, d2, d3] }
  | _ => none }
def RunsBackWrongFalsely : Prop := runsBackRow.holds Try.pinned (OpenSpec.ofChange runsBackWrong)

/- THE SECOND FORM. 'bulk': how many values and letters a reading holds, each counted each time it is reached (what is shared counts as often as it is met; a slice's spare places count too). A statement '..UptoSaid' is the law's where the arguments, and the package variables that the reading takes, are together of bulk at most 1048576: NARROWER than '..Said'. Prove '..Said' where nothing that the law and all that it calls make is longer than what came in: it says more and counts as full. Else prove '..UptoSaid'. A law counts once. -/
mutual
def uptoBulk {H : Type} : DataW H → Nat
  | .lit (.string bytes) => bytes.length + 1
  | .lit _ => 1
  | .nil => 1
  | .ptr d => uptoBulk d + 1
  | .slice elems spare => uptoBulkAll elems + uptoBulkAll spare + 1
  | .agg parts => uptoBulkAll parts + 1
  | .iface _ d => uptoBulk d + 1
  | .map entries => uptoBulkEntries entries + 1
  | .held _ => 1
def uptoBulkAll {H : Type} : List (DataW H) → Nat
  | [] => 0
  | d :: r => uptoBulk d + uptoBulkAll r
def uptoBulkEntries {H : Type} : List (Lit × DataW H) → Nat
  | [] => 0
  | x :: r => uptoBulkEntry x + uptoBulkEntries r
def uptoBulkEntry {H : Type} : Lit × DataW H → Nat
  | (.string bytes, d) => bytes.length + uptoBulk d + 1
  | (_, d) => uptoBulk d + 1
 end
def uptoSmall : (H : Type) → List (DataW H) → Bool := fun _ ds => decide (uptoBulkAll ds ≤ 1048576)
def OpenSpec.upto (s : _root_.Go.ChangeSpec) : _root_.Go.OpenSpec := { _root_.Go.OpenSpec.ofChange s with cond := some uptoSmall }

/-- 'warplaw09.RunsOf', WHERE WHAT IT READS IS OF BULK AT MOST 1048576: true; the input reads as it did. -/
def runsOfUptoRow : OpenClaim := { program := "ytkgcjafediimnaa", sum := "a0b2baed6107f6f301ac231163e8d2bac1d3821eec5faafea7cd5e1d7892d6c8", func := "warp/warplaw09.RunsOf", spec := "runsOf", unfollowed := true, recurses := true, apart := false, narrowed := true }
def RunsOfUptoSaid : Prop := runsOfUptoRow.holds Try.pinned (OpenSpec.upto runsOfSpec)

/-- 'warplaw09.RunsFew', WHERE WHAT IT READS IS OF BULK AT MOST 1048576: true; the input reads as it did. -/
def runsFewUptoRow : OpenClaim := { program := "ytkgcjafediimnaa", sum := "a0b2baed6107f6f301ac231163e8d2bac1d3821eec5faafea7cd5e1d7892d6c8", func := "warp/warplaw09.RunsFew", spec := "runsFew", unfollowed := true, recurses := true, apart := false, narrowed := true }
def RunsFewUptoSaid : Prop := runsFewUptoRow.holds Try.pinned (OpenSpec.upto runsFewSpec)

/-- 'warplaw09.RunsTell', WHERE WHAT IT READS IS OF BULK AT MOST 1048576: true; the input reads as it did. -/
def runsTellUptoRow : OpenClaim := { program := "ytkgcjafediimnaa", sum := "a0b2baed6107f6f301ac231163e8d2bac1d3821eec5faafea7cd5e1d7892d6c8", func := "warp/warplaw09.RunsTell", spec := "runsTell", unfollowed := true, recurses := true, apart := false, narrowed := true }
def RunsTellUptoSaid : Prop := runsTellUptoRow.holds Try.pinned (OpenSpec.upto runsTellSpec)

/-- 'warplaw09.RunsTake', WHERE WHAT IT READS IS OF BULK AT MOST 1048576: true; the input reads as it did. -/
def runsTakeUptoRow : OpenClaim := { program := "ytkgcjafediimnaa", sum := "a0b2baed6107f6f301ac231163e8d2bac1d3821eec5faafea7cd5e1d7892d6c8", func := "warp/warplaw09.RunsTake", spec := "runsTake", unfollowed := true, recurses := true, apart := false, narrowed := true }
def RunsTakeUptoSaid : Prop := runsTakeUptoRow.holds Try.pinned (OpenSpec.upto runsTakeSpec)

/-- 'warplaw09.RunsBack', WHERE WHAT IT READS IS OF BULK AT MOST 1048576: true; the input reads as it did. -/
def runsBackUptoRow : OpenClaim := { program := "ytkgcjafediimnaa", sum := "a0b2baed6107f6f301ac231163e8d2bac1d3821eec5faafea7cd5e1d7892d6c8", func := "warp/warplaw09.RunsBack", spec := "runsBack", unfollowed := true, recurses := true, apart := false, narrowed := true }
def RunsBackUptoSaid : Prop := runsBackUptoRow.holds Try.pinned (OpenSpec.upto runsBackSpec)

end Rows
end Go.Proofs.Ytkgcjafediimnaa
