/-
  No cell of these rows narrows 'for every input' (looked for: loops, veiled, ifaces, maps, wideKeys, modest, calm, conditions, laid).
  DERIVED. THE GIVEN ROWS OF THIS SEAT. 4 by the template 'for every input the law returns true; each argument reads behind the call as it read before'; 0 by the template 'total and deterministic' (their statements: YtfhlbiddhgkcpaaTotals.lean).
  GIVEN WITH THE SEED: the statements are not yours to turn. If you find one false, say at which input.
  Laid BY PROGRAM, IN A SANDBOX (cutbox-rows.mjs): the forced cells as the released guide's own fill.sh prints them over the translation ade242e50e0e6543… (all of the seat's roots in one cut). By AI agents, Wed Nov 11 2026. No macro, syntax, notation, axiom, sorry.
-/
import Derived.Test.YtfhlbiddhgkcpaaChecked
import GoSem.Claim
import GoSem.ClaimJoined
import GoSem.ClaimMapViews
import Derived.JoinedTies
import Derived.KernelRfl
namespace Go.Proofs.Ytfhlbiddhgkcpaa
/- THE CELL 'sum', in the pinned program and in every row, IS THE sha256 OF THE DUMP (.gsa) THAT YtfhlbiddhgkcpaaProg.lean LOADS. Nothing in Lean hashes anything: it is a label: what it is worth is what the hold of that sum in a sandbox is worth. -/
noncomputable def Try.pinned : Pinned := { name := "ytfhlbiddhgkcpaa", sum := "ade242e50e0e6543106a079aca4d39ee8fad7b1028f480b5480eb566d5315931", checked := Try.checked }
namespace Rows
def none {H : Type} : Left H := { results := [], args := [] }

/-- 'warplaw16.LosersPlay': WHATEVER THE INPUT: true; the input reads as it did. -/
def losersPlaySpec : ChangeSpec := { name := "losersPlay", fn := fun _ => fun
  | [d1, d2, d3] => { results := [.lit (.bool true)], args := [d1, d2, d3] }
  | _ => none }
def losersPlayRow : OpenClaim := { program := "ytfhlbiddhgkcpaa", sum := "ade242e50e0e6543106a079aca4d39ee8fad7b1028f480b5480eb566d5315931", func := "warp/warplaw16.LosersPlay", spec := "losersPlay", recurses := true, apart := false }
def LosersPlaySaid : Prop := losersPlayRow.holds Try.pinned (OpenSpec.ofChange losersPlaySpec)

/-- ITS FALSE NEIGHBOUR: 'it returns false'. Refute it at one input. -/
def losersPlayWrong : ChangeSpec := { name := "losersPlay", fn := fun _ => fun
  | [d1, d2, d3] => { results := [.lit (.bool false)], args := [d1, d2, d3] }
  | _ => none }
def LosersPlayWrongFalsely : Prop := losersPlayRow.holds Try.pinned (OpenSpec.ofChange losersPlayWrong)

/-- 'warplaw16.LosersAsked': WHATEVER THE INPUT: true; the input reads as it did. -/
def losersAskedSpec : ChangeSpec := { name := "losersAsked", fn := fun _ => fun
  | [d1, d2] => { results := [.lit (.bool true)], args := [d1, d2] }
  | _ => none }
def losersAskedRow : OpenClaim := { program := "ytfhlbiddhgkcpaa", sum := "ade242e50e0e6543106a079aca4d39ee8fad7b1028f480b5480eb566d5315931", func := "warp/warplaw16.LosersAsked", spec := "losersAsked", recurses := true, apart := false }
def LosersAskedSaid : Prop := losersAskedRow.holds Try.pinned (OpenSpec.ofChange losersAskedSpec)

/-- ITS FALSE NEIGHBOUR: 'it returns false'. Refute it at one input. -/
def losersAskedWrong : ChangeSpec := { name := "losersAsked", fn := fun _ => fun
  | [d1, d2] => { results := [.lit (.bool false)], args := [d1, d2] }
  | _ => none }
def LosersAskedWrongFalsely : Prop := losersAskedRow.holds Try.pinned (OpenSpec.ofChange losersAskedWrong)

/-- 'warplaw16.LosersNil': WHATEVER THE INPUT: true; the input reads as it did. -/
def losersNilSpec : ChangeSpec := { name := "losersNil", fn := fun _ => fun
  | [d1, d2] => { results := [.lit (.bool true)], args := [d1, d2] }
  | _ => none }
def losersNilRow : OpenClaim := { program := "ytfhlbiddhgkcpaa", sum := "ade242e50e0e6543106a079aca4d39ee8fad7b1028f480b5480eb566d5315931", func := "warp/warplaw16.LosersNil", spec := "losersNil", recurses := true, apart := false }
def LosersNilSaid : Prop := losersNilRow.holds Try.pinned (OpenSpec.ofChange losersNilSpec)

/-- ITS FALSE NEIGHBOUR: 'it returns false'. Refute it at one input. -/
def losersNilWrong : ChangeSpec := { name := "losersNil", fn := fun _ => fun
  | [d1, d2] => { results := [.lit (.bool false)], args := [d1, d2] }
  | _ => none }
def LosersNilWrongFalsely : Prop := losersNilRow.holds Try.pinned (OpenSpec.ofChange losersNilWrong)

/-- 'warplaw16.LosersSort': WHATEVER THE INPUT: true; the input reads as it did. -/
def losersSortSpec : ChangeSpec := { name := "losersSort", fn := fun _ => fun
  | [d1, d2] => { results := [.lit (.bool true)], args := [d1, d2] }
  | _ => none }
def losersSortRow : OpenClaim := { program := "ytfhlbiddhgkcpaa", sum := "ade242e50e0e6543106a079aca4d39ee8fad7b1028f480b5480eb566d5315931", func := "warp/warplaw16.LosersSort", spec := "losersSort", unfollowed := true, recurses := true, apart := false }
def LosersSortSaid : Prop := losersSortRow.holds Try.pinned (OpenSpec.ofChange losersSortSpec)

/-- ITS FALSE NEIGHBOUR: 'it returns false'. Refute it at one input. -/
def losersSortWrong : ChangeSpec := { name := "losersSort", fn := fun _ => fun
  | [d1, d2] => { results := [.lit (.bool false)], args := [d1, d2] }
  | _ => none }
def LosersSortWrongFalsely : Prop := losersSortRow.holds Try.pinned (OpenSpec.ofChange losersSortWrong)

/- THE SECOND FORM. 'bulk': how many values and letters a reading holds, each counted each time it is reached (what is shared counts as often as it is met; a slice's spare places count too). A statement '..UptoSaid' is the law's where the arguments, and the package variables that the reading takes, are together of bulk at most 1048576: NARROWER than '..Said'. Prove '..Said' where nothing that the law and all that it calls make is longer than what came in: it says more and counts as full. Else prove '..UptoSaid'. A law counts once. -/
mutual
def uptoBulk {H : Type} : DataW H → Nat
  | .lit (.string bytes) => bytes.length + 1
  | .lit _ => 1
  | .nil => 1
  | .ptr d => uptoBulk d + 1
  | .slice elems spare => uptoBulkAll elems + uptoBulkAll spare + 1
  | .agg parts => uptoBulkAll parts + 1
  | .iface _ d => uptoBulk d + 1
  | .map entries => uptoBulkEntries entries + 1
  | .held _ => 1
def uptoBulkAll {H : Type} : List (DataW H) → Nat
  | [] => 0
  | d :: r => uptoBulk d + uptoBulkAll r
def uptoBulkEntries {H : Type} : List (Lit × DataW H) → Nat
  | [] => 0
  | x :: r => uptoBulkEntry x + uptoBulkEntries r
def uptoBulkEntry {H : Type} : Lit × DataW H → Nat
  | (.string bytes, d) => bytes.length + uptoBulk d + 1
  | (_, d) => uptoBulk d + 1
 end
def uptoSmall : (H : Type) → List (DataW H) → Bool := fun _ ds => decide (uptoBulkAll ds ≤ 1048576)
def OpenSpec.upto (s : _root_.Go.ChangeSpec) : _root_.Go.OpenSpec := { _root_.Go.OpenSpec.ofChange s with cond := some uptoSmall }

/-- 'warplaw16.LosersPlay', WHERE WHAT IT READS IS OF BULK AT MOST 1048576: true; the input reads as it did. -/
def losersPlayUptoRow : OpenClaim := { program := "ytfhlbiddhgkcpaa", sum := "ade242e50e0e6543106a079aca4d39ee8fad7b1028f480b5480eb566d5315931", func := "warp/warplaw16.LosersPlay", spec := "losersPlay", recurses := true, apart := false, narrowed := true }
def LosersPlayUptoSaid : Prop := losersPlayUptoRow.holds Try.pinned (OpenSpec.upto losersPlaySpec)

/-- 'warplaw16.LosersAsked', WHERE WHAT IT READS IS OF BULK AT MOST 1048576: true; the input reads as it did. -/
def losersAskedUptoRow : OpenClaim := { program := "ytfhlbiddhgkcpaa", sum := "ade242e50e0e6543106a079aca4d39ee8fad7b1028f480b5480eb566d5315931", func := "warp/warplaw16.LosersAsked", spec := "losersAsked", recurses := true, apart := false, narrowed := true }
def LosersAskedUptoSaid : Prop := losersAskedUptoRow.holds Try.pinned (OpenSpec.upto losersAskedSpec)

/-- 'warplaw16.LosersNil', WHERE WHAT IT READS IS OF BULK AT MOST 1048576: true; the input reads as it did. -/
def losersNilUptoRow : OpenClaim := { program := "ytfhlbiddhgkcpaa", sum := "ade242e50e0e6543106a079aca4d39ee8fad7b1028f480b5480eb566d5315931", func := "warp/warplaw16.LosersNil", spec := "losersNil", recurses := true, apart := false, narrowed := true }
def LosersNilUptoSaid : Prop := losersNilUptoRow.holds Try.pinned (OpenSpec.upto losersNilSpec)

/-- 'warplaw16.LosersSort', WHERE WHAT IT READS IS OF BULK AT MOST 1048576: true; the input reads as it did. -/
def losersSortUptoRow : OpenClaim := { program := "ytfhlbiddhgkcpaa", sum := "ade242e50e0e6543106a079aca4d39ee8fad7b1028f480b5480eb566d5315931", func := "warp/warplaw16.LosersSort", spec := "losersSort", unfollowed := true, recurses := true, apart := false, narrowed := true }
def LosersSortUptoSaid : Prop := losersSortUptoRow.holds Try.pinned (OpenSpec.upto losersSortSpec)

end Rows
end Go.Proofs.Ytfhlbiddhgkcpaa
