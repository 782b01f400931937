/-
  No cell of these rows narrows 'for every input' (looked for: loops, veiled, ifaces, maps, wideKeys, modest, calm, conditions, laid).
  DERIVED. THE GIVEN ROWS OF THIS SEAT. 6 by the template 'for every input the law returns true; each argument reads behind the call as it read before'; 0 by the template 'total and deterministic' (their statements: YtbiniecjenencaaTotals.lean).
  GIVEN WITH THE SEED: the statements are not yours to turn. If you find one false, say at which input.
  Laid BY PROGRAM, IN A SANDBOX (cutbox-rows.mjs): the forced cells as the released guide's own fill.sh prints them over the translation c993c0382cfa1074… (all of the seat's roots in one cut). By AI agents, Wed Nov 11 2026. No macro, syntax, notation, axiom, sorry.
-/
import Derived.Test.YtbiniecjenencaaChecked
import GoSem.Claim
import GoSem.ClaimJoined
import GoSem.ClaimMapViews
import Derived.JoinedTies
import Derived.KernelRfl
namespace Go.Proofs.Ytbiniecjenencaa
/- THE CELL 'sum', in the pinned program and in every row, IS THE sha256 OF THE DUMP (.gsa) THAT YtbiniecjenencaaProg.lean LOADS. Nothing in Lean hashes anything: it is a label: what it is worth is what the hold of that sum in a sandbox is worth. -/
noncomputable def Try.pinned : Pinned := { name := "ytbiniecjenencaa", sum := "c993c0382cfa10746f59fd32bc59f6f25496c4b0325dfa84c86b97a8035f33c7", checked := Try.checked }
namespace Rows
def none {H : Type} : Left H := { results := [], args := [] }

/-- 'warplaw22.GroupCounts': WHATEVER THE INPUT: true; the input reads as it did. -/
def groupCountsSpec : ChangeSpec := { name := "groupCounts", fn := fun _ => fun
  | [d] => { results := [.lit (.bool true)], args := [d] }
  | _ => none }
def groupCountsRow : OpenClaim := { program := "ytbiniecjenencaa", sum := "c993c0382cfa10746f59fd32bc59f6f25496c4b0325dfa84c86b97a8035f33c7", func := "warp/warplaw22.GroupCounts", spec := "groupCounts", inPlace := ["math/bits.Add64"], unfollowed := true, recurses := true, apart := false }
def GroupCountsSaid : Prop := groupCountsRow.holds Try.pinned (OpenSpec.ofChange groupCountsSpec)

/-- ITS FALSE NEIGHBOUR: 'it returns false'. Refute it at one input. -/
def groupCountsWrong : ChangeSpec := { name := "groupCounts", fn := fun _ => fun
  | [d] => { results := [.lit (.bool false)], args := [d] }
  | _ => none }
def GroupCountsWrongFalsely : Prop := groupCountsRow.holds Try.pinned (OpenSpec.ofChange groupCountsWrong)

/-- 'warplaw22.GroupSums': WHATEVER THE INPUT: true; the input reads as it did. -/
def groupSumsSpec : ChangeSpec := { name := "groupSums", fn := fun _ => fun
  | [d1, d2] => { results := [.lit (.bool true)], args := [d1, d2] }
  | _ => none }
def groupSumsRow : OpenClaim := { program := "ytbiniecjenencaa", sum := "c993c0382cfa10746f59fd32bc59f6f25496c4b0325dfa84c86b97a8035f33c7", func := "warp/warplaw22.GroupSums", spec := "groupSums", inPlace := ["math/bits.Add64"], unfollowed := true, recurses := true, apart := false }
def GroupSumsSaid : Prop := groupSumsRow.holds Try.pinned (OpenSpec.ofChange groupSumsSpec)

/-- ITS FALSE NEIGHBOUR: 'it returns false'. Refute it at one input. -/
def groupSumsWrong : ChangeSpec := { name := "groupSums", fn := fun _ => fun
  | [d1, d2] => { results := [.lit (.bool false)], args := [d1, d2] }
  | _ => none }
def GroupSumsWrongFalsely : Prop := groupSumsRow.holds Try.pinned (OpenSpec.ofChange groupSumsWrong)

/-- 'warplaw22.GroupWide': WHATEVER THE INPUT: true; the input reads as it did. -/
def groupWideSpec : ChangeSpec := { name := "groupWide", fn := fun _ => fun
  | [d1, d2] => { results := [.lit (.bool true)], args := [d1, d2] }
  | _ => none }
def groupWideRow : OpenClaim := { program := "ytbiniecjenencaa", sum := "c993c0382cfa10746f59fd32bc59f6f25496c4b0325dfa84c86b97a8035f33c7", func := "warp/warplaw22.GroupWide", spec := "groupWide", inPlace := ["math/bits.Add64"], unfollowed := true, recurses := true, apart := false }
def GroupWideSaid : Prop := groupWideRow.holds Try.pinned (OpenSpec.ofChange groupWideSpec)

/-- ITS FALSE NEIGHBOUR: 'it returns false'. Refute it at one input. -/
def groupWideWrong : ChangeSpec := { name := "groupWide", fn := fun _ => fun
  | [d1, d2] => { results := [.lit (.bool false)], args := [d1, d2] }
  | _ => none }
def GroupWideWrongFalsely : Prop := groupWideRow.holds Try.pinned (OpenSpec.ofChange groupWideWrong)

/-- 'warplaw22.GroupRows': WHATEVER THE INPUT: true; the input reads as it did. -/
def groupRowsSpec : ChangeSpec := { name := "groupRows", fn := fun _ => fun
  | [d] => { results := [.lit (.bool true)], args := [d] }
  | _ => none }
def groupRowsRow : OpenClaim := { program := "ytbiniecjenencaa", sum := "c993c0382cfa10746f59fd32bc59f6f25496c4b0325dfa84c86b97a8035f33c7", func := "warp/warplaw22.GroupRows", spec := "groupRows", inPlace := ["math/bits.Add64"], unfollowed := true, recurses := true, apart := false }
def GroupRowsSaid : Prop := groupRowsRow.holds Try.pinned (OpenSpec.ofChange groupRowsSpec)

/-- ITS FALSE NEIGHBOUR: 'it returns false'. Refute it at one input. -/
def groupRowsWrong : ChangeSpec := { name := "groupRows", fn := fun _ => fun
  | [d] => { results := [.lit (.bool false)], args := [d] }
  | _ => none }
def GroupRowsWrongFalsely : Prop := groupRowsRow.holds Try.pinned (OpenSpec.ofChange groupRowsWrong)

/-- 'warplaw22.GroupOrder': WHATEVER THE INPUT: true; the input reads as it did. -/
def groupOrderSpec : ChangeSpec := { name := "groupOrder", fn := fun _ => fun
  | [d1, d2, d3] => { results := [.lit (.bool true)], args := [d1, d2, d3] }
  | _ => none }
def groupOrderRow : OpenClaim := { program := "ytbiniecjenencaa", sum := "c993c0382cfa10746f59fd32bc59f6f25496c4b0325dfa84c86b97a8035f33c7", func := "warp/warplaw22.GroupOrder", spec := "groupOrder", inPlace := ["math/bits.Add64"], unfollowed := true, recurses := true, apart := false }
def GroupOrderSaid : Prop := groupOrderRow.holds Try.pinned (OpenSpec.ofChange groupOrderSpec)

/-- ITS FALSE NEIGHBOUR: 'it returns false'. Refute it at one input. -/
def groupOrderWrong : ChangeSpec := { name := "groupOrder", fn := fun _ => fun
  | [d1, d2, d3] => { results := [.lit (.bool false)], args := [d1, d2, d3] }
  | _ => none }
def GroupOrderWrongFalsely : Prop := groupOrderRow.holds Try.pinned (OpenSpec.ofChange groupOrderWrong)

/-- 'warplaw22.GroupTwice': WHATEVER THE INPUT: true; the input reads as it did. -/
def groupTwiceSpec : ChangeSpec := { name := "groupTwice", fn := fun _ => fun
  | [d] => { results := [.lit (.bool true)], args := [d] }
  | _ => none }
def groupTwiceRow : OpenClaim := { program := "ytbiniecjenencaa", sum := "c993c0382cfa10746f59fd32bc59f6f25496c4b0325dfa84c86b97a8035f33c7", func := "warp/warplaw22.GroupTwice", spec := "groupTwice", inPlace := ["math/bits.Add64"], unfollowed := true, recurses := true, apart := false }
def GroupTwiceSaid : Prop := groupTwiceRow.holds Try.pinned (OpenSpec.ofChange groupTwiceSpec)

/-- ITS FALSE NEIGHBOUR: 'it returns false'. Refute it at one input. -/
def groupTwiceWrong : ChangeSpec := { name := "groupTwice", fn := fun _ => fun
  | [d] => { results := [.lit (.bool false)], args := [d] }
  | _ => none }
def GroupTwiceWrongFalsely : Prop := groupTwiceRow.holds Try.pinned (OpenSpec.ofChange groupTwiceWrong)

/- THE SECOND FORM. 'bulk': how many values and letters a reading holds, each counted each time it is reached (what is shared counts as often as it is met; a slice's spare places count too). A statement '..UptoSaid' is the law's where the arguments, and the package variables that the reading takes, are together of bulk at most 1048576: NARROWER than '..Said'. Prove '..Said' where nothing that the law and all that it calls make is longer than what came in: it says more and counts as full. Else prove '..UptoSaid'. A law counts once. -/
mutual
def uptoBulk {H : Type} : DataW H → Nat
  | .lit (.string bytes) => bytes.length + 1
  | .lit _ => 1
  | .nil => 1
  | .ptr d => uptoBulk d + 1
  | .slice elems spare => uptoBulkAll elems + uptoBulkAll spare + 1
  | .agg parts => uptoBulkAll parts + 1
  | .iface _ d => uptoBulk d + 1
  | .map entries => uptoBulkEntries entries + 1
  | .held _ => 1
def uptoBulkAll {H : Type} : List (DataW H) → Nat
  | [] => 0
  | d :: r => uptoBulk d + uptoBulkAll r
def uptoBulkEntries {H : Type} : List (Lit × DataW H) → Nat
  | [] => 0
  | x :: r => uptoBulkEntry x + uptoBulkEntries r
def uptoBulkEntry {H : Type} : Lit × DataW H → Nat
  | (.string bytes, d) => bytes.length + uptoBulk d + 1
  | (_, d) => uptoBulk d + 1
 end
def uptoSmall : (H : Type) → List (DataW H) → Bool := fun _ ds => decide (uptoBulkAll ds ≤ 1048576)
def OpenSpec.upto (s : _root_.Go.ChangeSpec) : _root_.Go.OpenSpec := { _root_.Go.OpenSpec.ofChange s with cond := some uptoSmall }

/-- 'warplaw22.GroupCounts', WHERE WHAT IT READS IS OF BULK AT MOST 1048576: true; the input reads as it did. -/
def groupCountsUptoRow : OpenClaim := { program := "ytbiniecjenencaa", sum := "c993c0382cfa10746f59fd32bc59f6f25496c4b0325dfa84c86b97a8035f33c7", func := "warp/warplaw22.GroupCounts", spec := "groupCounts", inPlace := ["math/bits.Add64"], unfollowed := true, recurses := true, apart := false, narrowed := true }
def GroupCountsUptoSaid : Prop := groupCountsUptoRow.holds Try.pinned (OpenSpec.upto groupCountsSpec)

/-- 'warplaw22.GroupSums', WHERE WHAT IT READS IS OF BULK AT MOST 1048576: true; the input reads as it did. -/
def groupSumsUptoRow : OpenClaim := { program := "ytbiniecjenencaa", sum := "c993c0382cfa10746f59fd32bc59f6f25496c4b0325dfa84c86b97a8035f33c7", func := "warp/warplaw22.GroupSums", spec := "groupSums", inPlace := ["math/bits.Add64"], unfollowed := true, recurses := true, apart := false, narrowed := true }
def GroupSumsUptoSaid : Prop := groupSumsUptoRow.holds Try.pinned (OpenSpec.upto groupSumsSpec)

/-- 'warplaw22.GroupWide', WHERE WHAT IT READS IS OF BULK AT MOST 1048576: true; the input reads as it did. -/
def groupWideUptoRow : OpenClaim := { program := "ytbiniecjenencaa", sum := "c993c0382cfa10746f59fd32bc59f6f25496c4b0325dfa84c86b97a8035f33c7", func := "warp/warplaw22.GroupWide", spec := "groupWide", inPlace := ["math/bits.Add64"], unfollowed := true, recurses := true, apart := false, narrowed := true }
def GroupWideUptoSaid : Prop := groupWideUptoRow.holds Try.pinned (OpenSpec.upto groupWideSpec)

/-- 'warplaw22.GroupRows', WHERE WHAT IT READS IS OF BULK AT MOST 1048576: true; the input reads as it did. -/
def groupRowsUptoRow : OpenClaim := { program := "ytbiniecjenencaa", sum := "c993c0382cfa10746f59fd32bc59f6f25496c4b0325dfa84c86b97a8035f33c7", func := "warp/warplaw22.GroupRows", spec := "groupRows", inPlace := ["math/bits.Add64"], unfollowed := true, recurses := true, apart := false, narrowed := true }
def GroupRowsUptoSaid : Prop := groupRowsUptoRow.holds Try.pinned (OpenSpec.upto groupRowsSpec)

/-- 'warplaw22.GroupOrder', WHERE WHAT IT READS IS OF BULK AT MOST 1048576: true; the input reads as it did. -/
def groupOrderUptoRow : OpenClaim := { program := "ytbiniecjenencaa", sum := "c993c0382cfa10746f59fd32bc59f6f25496c4b0325dfa84c86b97a8035f33c7", func := "warp/warplaw22.GroupOrder", spec := "groupOrder", inPlace := ["math/bits.Add64"], unfollowed := true, recurses := true, apart := false, narrowed := true }
def GroupOrderUptoSaid : Prop := groupOrderUptoRow.holds Try.pinned (OpenSpec.upto groupOrderSpec)

/-- 'warplaw22.GroupTwice', WHERE WHAT IT READS IS OF BULK AT MOST 1048576: true; the input reads as it did. -/
def groupTwiceUptoRow : OpenClaim := { program := "ytbiniecjenencaa", sum := "c993c0382cfa10746f59fd32bc59f6f25496c4b0325dfa84c86b97a8035f33c7", func := "warp/warplaw22.GroupTwice", spec := "groupTwice", inPlace := ["math/bits.Add64"], unfollowed := true, recurses := true, apart := false, narrowed := true }
def GroupTwiceUptoSaid : Prop := groupTwiceUptoRow.holds Try.pinned (OpenSpec.upto groupTwiceSpec)

end Rows
end Go.Proofs.Ytbiniecjenencaa
