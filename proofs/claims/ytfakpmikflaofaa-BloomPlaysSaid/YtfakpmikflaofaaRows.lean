/-
  No cell of these rows narrows 'for every input' (looked for: loops, veiled, ifaces, maps, wideKeys, modest, calm, conditions, laid).
  DERIVED. THE GIVEN ROWS OF THIS SEAT. 5 by the template 'for every input the law returns true; each argument reads behind the call as it read before'; 0 by the template 'total and deterministic' (their statements: YtfakpmikflaofaaTotals.lean).
  GIVEN WITH THE SEED: the statements are not yours to turn. If you find one false, say at which input.
  Laid BY PROGRAM, IN A SANDBOX (cutbox-rows.mjs): the forced cells as the released guide's own fill.sh prints them over the translation 50d40bd71cfe37e2… (all of the seat's roots in one cut). By AI agents, Wed Nov 11 2026. No macro, syntax, notation, axiom, sorry.
-/
import Derived.Test.YtfakpmikflaofaaChecked
import GoSem.Claim
import GoSem.ClaimJoined
import GoSem.ClaimMapViews
import Derived.JoinedTies
import Derived.KernelRfl
namespace Go.Proofs.Ytfakpmikflaofaa
/- THE CELL 'sum', in the pinned program and in every row, IS THE sha256 OF THE DUMP (.gsa) THAT YtfakpmikflaofaaProg.lean LOADS. Nothing in Lean hashes anything: it is a label: what it is worth is what the hold of that sum in a sandbox is worth. -/
noncomputable def Try.pinned : Pinned := { name := "ytfakpmikflaofaa", sum := "50d40bd71cfe37e26b86bbea847bd77a63bf1ef5f687de4135e25b8b4a5f62d9", checked := Try.checked }
namespace Rows
def none {H : Type} : Left H := { results := [], args := [] }

/-- 'warplaw20.BloomPlays': WHATEVER THE INPUT: true; the input reads as it did. -/
def bloomPlaysSpec : ChangeSpec := { name := "bloomPlays", fn := fun _ => fun
  | [d1, d2, d3, d4] => { results := [.lit (.bool true)], args := [d1, d2, d3, d4] }
  | _ => none }
def bloomPlaysRow : OpenClaim := { program := "ytfakpmikflaofaa", sum := "50d40bd71cfe37e26b86bbea847bd77a63bf1ef5f687de4135e25b8b4a5f62d9", func := "warp/warplaw20.BloomPlays", spec := "bloomPlays", apart := false }
def BloomPlaysSaid : Prop := bloomPlaysRow.holds Try.pinned (OpenSpec.ofChange bloomPlaysSpec)

/-- ITS FALSE NEIGHBOUR: 'it returns false'. Refute it at one input. -/
def bloomPlaysWrong : ChangeSpec := { name := "bloomPlays", fn := fun _ => fun
  | [d1, d2, d3, d4] => { results := [.lit (.bool false)], args := [d1, d2, d3, d4] }
  | _ => none }
def BloomPlaysWrongFalsely : Prop := bloomPlaysRow.holds Try.pinned (OpenSpec.ofChange bloomPlaysWrong)

/-- 'warplaw20.BloomHash': WHATEVER THE INPUT: true; the input reads as it did. -/
def bloomHashSpec : ChangeSpec := { name := "bloomHash", fn := fun _ => fun
  | [d1, d2, d3] => { results := [.lit (.bool true)], args := [d1, d2, d3] }
  | _ => none }
def bloomHashRow : OpenClaim := { program := "ytfakpmikflaofaa", sum := "50d40bd71cfe37e26b86bbea847bd77a63bf1ef5f687de4135e25b8b4a5f62d9", func := "warp/warplaw20.BloomHash", spec := "bloomHash", apart := false }
def BloomHashSaid : Prop := bloomHashRow.holds Try.pinned (OpenSpec.ofChange bloomHashSpec)

/-- ITS FALSE NEIGHBOUR: 'it returns false'. Refute it at one input. -/
def bloomHashWrong : ChangeSpec := { name := "bloomHash", fn := fun _ => fun
  | [d1, d2, d3] => { results := [.lit (.bool false)], args := [d1, d2, d3] }
  | _ => none }
def BloomHashWrongFalsely : Prop := bloomHashRow.holds Try.pinned (OpenSpec.ofChange bloomHashWrong)

/-- 'warplaw20.BloomNever': WHATEVER THE INPUT: true; the input reads as it did. -/
def bloomNeverSpec : ChangeSpec := { name := "bloomNever", fn := fun _ => fun
  | [d1, d2, d3] => { results := [.lit (.bool true)], args := [d1, d2, d3] }
  | _ => none }
def bloomNeverRow : OpenClaim := { program := "ytfakpmikflaofaa", sum := "50d40bd71cfe37e26b86bbea847bd77a63bf1ef5f687de4135e25b8b4a5f62d9", func := "warp/warplaw20.BloomNever", spec := "bloomNever", apart := false }
def BloomNeverSaid : Prop := bloomNeverRow.holds Try.pinned (OpenSpec.ofChange bloomNeverSpec)

/-- ITS FALSE NEIGHBOUR: 'it returns false'. Refute it at one input. -/
def bloomNeverWrong : ChangeSpec := { name := "bloomNever", fn := fun _ => fun
  | [d1, d2, d3] => { results := [.lit (.bool false)], args := [d1, d2, d3] }
  | _ => none }
def BloomNeverWrongFalsely : Prop := bloomNeverRow.holds Try.pinned (OpenSpec.ofChange bloomNeverWrong)

/-- 'warplaw20.BloomOrder': WHATEVER THE INPUT: true; the input reads as it did. -/
def bloomOrderSpec : ChangeSpec := { name := "bloomOrder", fn := fun _ => fun
  | [d1, d2, d3, d4] => { results := [.lit (.bool true)], args := [d1, d2, d3, d4] }
  | _ => none }
def bloomOrderRow : OpenClaim := { program := "ytfakpmikflaofaa", sum := "50d40bd71cfe37e26b86bbea847bd77a63bf1ef5f687de4135e25b8b4a5f62d9", func := "warp/warplaw20.BloomOrder", spec := "bloomOrder", apart := false }
def BloomOrderSaid : Prop := bloomOrderRow.holds Try.pinned (OpenSpec.ofChange bloomOrderSpec)

/-- ITS FALSE NEIGHBOUR: 'it returns false'. Refute it at one input. -/
def bloomOrderWrong : ChangeSpec := { name := "bloomOrder", fn := fun _ => fun
  | [d1, d2, d3, d4] => { results := [.lit (.bool false)], args := [d1, d2, d3, d4] }
  | _ => none }
def BloomOrderWrongFalsely : Prop := bloomOrderRow.holds Try.pinned (OpenSpec.ofChange bloomOrderWrong)

/-- 'warplaw20.BloomEmpty': WHATEVER THE INPUT: true; the input reads as it did. -/
def bloomEmptySpec : ChangeSpec := { name := "bloomEmpty", fn := fun _ => fun
  | [d1, d2, d3] => { results := [.lit (.bool true)], args := [d1, d2, d3] }
  | _ => none }
def bloomEmptyRow : OpenClaim := { program := "ytfakpmikflaofaa", sum := "50d40bd71cfe37e26b86bbea847bd77a63bf1ef5f687de4135e25b8b4a5f62d9", func := "warp/warplaw20.BloomEmpty", spec := "bloomEmpty", apart := false }
def BloomEmptySaid : Prop := bloomEmptyRow.holds Try.pinned (OpenSpec.ofChange bloomEmptySpec)

/-- ITS FALSE NEIGHBOUR: 'it returns false'. Refute it at one input. -/
def bloomEmptyWrong : ChangeSpec := { name := "bloomEmpty", fn := fun _ => fun
  | [d1, d2, d3] => { results := [.lit (.bool false)], args := [d1, d2, d3] }
  | _ => none }
def BloomEmptyWrongFalsely : Prop := bloomEmptyRow.holds Try.pinned (OpenSpec.ofChange bloomEmptyWrong)

/- THE SECOND FORM. 'bulk': how many values and letters a reading holds, each counted each time it is reached (what is shared counts as often as it is met; a slice's spare places count too). A statement '..UptoSaid' is the law's where the arguments, and the package variables that the reading takes, are together of bulk at most 1048576: NARROWER than '..Said'. Prove '..Said' where nothing that the law and all that it calls make is longer than what came in: it says more and counts as full. Else prove '..UptoSaid'. A law counts once. -/
mutual
def uptoBulk {H : Type} : DataW H → Nat
  | .lit (.string bytes) => bytes.length + 1
  | .lit _ => 1
  | .nil => 1
  | .ptr d => uptoBulk d + 1
  | .slice elems spare => uptoBulkAll elems + uptoBulkAll spare + 1
  | .agg parts => uptoBulkAll parts + 1
  | .iface _ d => uptoBulk d + 1
  | .map entries => uptoBulkEntries entries + 1
  | .held _ => 1
def uptoBulkAll {H : Type} : List (DataW H) → Nat
  | [] => 0
  | d :: r => uptoBulk d + uptoBulkAll r
def uptoBulkEntries {H : Type} : List (Lit × DataW H) → Nat
  | [] => 0
  | x :: r => uptoBulkEntry x + uptoBulkEntries r
def uptoBulkEntry {H : Type} : Lit × DataW H → Nat
  | (.string bytes, d) => bytes.length + uptoBulk d + 1
  | (_, d) => uptoBulk d + 1
 end
def uptoSmall : (H : Type) → List (DataW H) → Bool := fun _ ds => decide (uptoBulkAll ds ≤ 1048576)
def OpenSpec.upto (s : _root_.Go.ChangeSpec) : _root_.Go.OpenSpec := { _root_.Go.OpenSpec.ofChange s with cond := some uptoSmall }

/-- 'warplaw20.BloomPlays', WHERE WHAT IT READS IS OF BULK AT MOST 1048576: true; the input reads as it did. -/
def bloomPlaysUptoRow : OpenClaim := { program := "ytfakpmikflaofaa", sum := "50d40bd71cfe37e26b86bbea847bd77a63bf1ef5f687de4135e25b8b4a5f62d9", func := "warp/warplaw20.BloomPlays", spec := "bloomPlays", apart := false, narrowed := true }
def BloomPlaysUptoSaid : Prop := bloomPlaysUptoRow.holds Try.pinned (OpenSpec.upto bloomPlaysSpec)

/-- 'warplaw20.BloomHash', WHERE WHAT IT READS IS OF BULK AT MOST 1048576: true; the input reads as it did. -/
def bloomHashUptoRow : OpenClaim := { program := "ytfakpmikflaofaa", sum := "50d40bd71cfe37e26b86bbea847bd77a63bf1ef5f687de4135e25b8b4a5f62d9", func := "warp/warplaw20.BloomHash", spec := "bloomHash", apart := false, narrowed := true }
def BloomHashUptoSaid : Prop := bloomHashUptoRow.holds Try.pinned (OpenSpec.upto bloomHashSpec)

/-- 'warplaw20.BloomNever', WHERE WHAT IT READS IS OF BULK AT MOST 1048576: true; the input reads as it did. -/
def bloomNeverUptoRow : OpenClaim := { program := "ytfakpmikflaofaa", sum := "50d40bd71cfe37e26b86bbea847bd77a63bf1ef5f687de4135e25b8b4a5f62d9", func := "warp/warplaw20.BloomNever", spec := "bloomNever", apart := false, narrowed := true }
def BloomNeverUptoSaid : Prop := bloomNeverUptoRow.holds Try.pinned (OpenSpec.upto bloomNeverSpec)

/-- 'warplaw20.BloomOrder', WHERE WHAT IT READS IS OF BULK AT MOST 1048576: true; the input reads as it did. -/
def bloomOrderUptoRow : OpenClaim := { program := "ytfakpmikflaofaa", sum := "50d40bd71cfe37e26b86bbea847bd77a63bf1ef5f687de4135e25b8b4a5f62d9", func := "warp/warplaw20.BloomOrder", spec := "bloomOrder", apart := false, narrowed := true }
def BloomOrderUptoSaid : Prop := bloomOrderUptoRow.holds Try.pinned (OpenSpec.upto bloomOrderSpec)

/-- 'warplaw20.BloomEmpty', WHERE WHAT IT READS IS OF BULK AT MOST 1048576: true; the input reads as it did. -/
def bloomEmptyUptoRow : OpenClaim := { program := "ytfakpmikflaofaa", sum := "50d40bd71cfe37e26b86bbea847bd77a63bf1ef5f687de4135e25b8b4a5f62d9", func := "warp/warplaw20.BloomEmpty", spec := "bloomEmpty", apart := false, narrowed := true }
def BloomEmptyUptoSaid : Prop := bloomEmptyUptoRow.holds Try.pinned (OpenSpec.upto bloomEmptySpec)

end Rows
end Go.Proofs.Ytfakpmikflaofaa
