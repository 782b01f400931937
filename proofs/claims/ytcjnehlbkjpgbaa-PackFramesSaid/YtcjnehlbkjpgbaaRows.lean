/-
  No cell of these rows narrows 'for every input' (looked for: loops, veiled, ifaces, maps, wideKeys, modest, calm, conditions, laid).
  DERIVED. THE GIVEN ROWS OF THIS SEAT. 6 by the template 'for every input the law returns true; each argument reads behind the call as it read before'; 0 by the template 'total and deterministic' (their statements: YtcjnehlbkjpgbaaTotals.lean).
  GIVEN WITH THE SEED: the statements are not yours to turn. If you find one false, say at which input.
  Laid BY PROGRAM, IN A SANDBOX (cutbox-rows.mjs): the forced cells as the released guide's own fill.sh prints them over the translation 138184bf8e66579a… (all of the seat's roots in one cut). By AI agents, Wed Nov 11 2026. No macro, syntax, notation, axiom, sorry.
-/
import Derived.Test.YtcjnehlbkjpgbaaChecked
import GoSem.Claim
import GoSem.ClaimJoined
import GoSem.ClaimMapViews
import Derived.JoinedTies
import Derived.KernelRfl
namespace Go.Proofs.Ytcjnehlbkjpgbaa
/- THE CELL 'sum', in the pinned program and in every row, IS THE sha256 OF THE DUMP (.gsa) THAT YtcjnehlbkjpgbaaProg.lean LOADS. Nothing in Lean hashes anything: it is a label: what it is worth is what the hold of that sum in a sandbox is worth. -/
noncomputable def Try.pinned : Pinned := { name := "ytcjnehlbkjpgbaa", sum := "138184bf8e66579ab4661e2ed7a712e3e578587c32531ea82925ed875adc160e", checked := Try.checked }
namespace Rows
def none {H : Type} : Left H := { results := [], args := [] }

/-- 'warplaw08.PackPacks': WHATEVER THE INPUT: true; the input reads as it did. -/
def packPacksSpec : ChangeSpec := { name := "packPacks", fn := fun _ => fun
  | [d1, d2, d3] => { results := [.lit (.bool true)], args := [d1, d2, d3] }
  | _ => none }
def packPacksRow : OpenClaim := { program := "ytcjnehlbkjpgbaa", sum := "138184bf8e66579ab4661e2ed7a712e3e578587c32531ea82925ed875adc160e", func := "warp/warplaw08.PackPacks", spec := "packPacks", apart := false }
def PackPacksSaid : Prop := packPacksRow.holds Try.pinned (OpenSpec.ofChange packPacksSpec)

/-- ITS FALSE NEIGHBOUR: 'it returns false'. Refute it at one input. -/
def packPacksWrong : ChangeSpec := { name := "packPacks", fn := fun _ => fun
  | [d1, d2, d3] => { results := [.lit (.bool false)], args := [d1, d2, d3] }
  | _ => none }
def PackPacksWrongFalsely : Prop := packPacksRow.holds Try.pinned (OpenSpec.ofChange packPacksWrong)

/-- 'warplaw08.PackUnpacks': WHATEVER THE INPUT: true; the input reads as it did. -/
def packUnpacksSpec : ChangeSpec := { name := "packUnpacks", fn := fun _ => fun
  | [d1, d2, d3] => { results := [.lit (.bool true)], args := [d1, d2, d3] }
  | _ => none }
def packUnpacksRow : OpenClaim := { program := "ytcjnehlbkjpgbaa", sum := "138184bf8e66579ab4661e2ed7a712e3e578587c32531ea82925ed875adc160e", func := "warp/warplaw08.PackUnpacks", spec := "packUnpacks", apart := false }
def PackUnpacksSaid : Prop := packUnpacksRow.holds Try.pinned (OpenSpec.ofChange packUnpacksSpec)

/-- ITS FALSE NEIGHBOUR: 'it returns false'. Refute it at one input. -/
def packUnpacksWrong : ChangeSpec := { name := "packUnpacks", fn := fun _ => fun
  | [d1, d2, d3] => { results := [.lit (.bool false)], args := [d1, d2, d3] }
  | _ => none }
def PackUnpacksWrongFalsely : Prop := packUnpacksRow.holds Try.pinned (OpenSpec.ofChange packUnpacksWrong)

/-- 'warplaw08.PackBack': WHATEVER THE INPUT: true; the input reads as it did. -/
def packBackSpec : ChangeSpec := { name := "packBack", fn := fun _ => fun
  | [d1, d2] => { results := [.lit (.bool true)], args := [d1, d2] }
  | _ => none }
def packBackRow : OpenClaim := { program := "ytcjnehlbkjpgbaa", sum := "138184bf8e66579ab4661e2ed7a712e3e578587c32531ea82925ed875adc160e", func := "warp/warplaw08.PackBack", spec := "packBack", apart := false }
def PackBackSaid : Prop := packBackRow.holds Try.pinned (OpenSpec.ofChange packBackSpec)

/-- ITS FALSE NEIGHBOUR: 'it returns false'. Refute it at one input. -/
def packBackWrong : ChangeSpec := { name := "packBack", fn := fun _ => fun
  | [d1, d2] => { results := [.lit (.bool false)], args := [d1, d2] }
  | _ => none }
def PackBackWrongFalsely : Prop := packBackRow.holds Try.pinned (OpenSpec.ofChange packBackWrong)

/-- 'warplaw08.PackFrames': WHATEVER THE INPUT: true; the input reads as it did. -/
def packFramesSpec : ChangeSpec := { name := "packFrames", fn := fun _ => fun
  | [d1, d2] => { results := [.lit (.bool true)], args := [d1, d2] }
  | _ => none }
def packFramesRow : OpenClaim := { program := "ytcjnehlbkjpgbaa", sum := "138184bf8e66579ab4661e2ed7a712e3e578587c32531ea82925ed875adc160e", func := "warp/warplaw08.PackFrames", spec := "packFrames", apart := false }
def PackFramesSaid : Prop := packFramesRow.holds Try.pinned (OpenSpec.ofChange packFramesSpec)

/-- ITS FALSE NEIGHBOUR: 'it returns false'. Refute it at one input. -/
def packFramesWrong : ChangeSpec := { name := "packFrames", fn := fun _ => fun
  | [d1, d2] => { results := [.lit (.bool false)], args := [d1, d2] }
  | _ => none }
def PackFramesWrongFalsely : Prop := packFramesRow.holds Try.pinned (OpenSpec.ofChange packFramesWrong)

/-- 'warplaw08.PackRound': WHATEVER THE INPUT: true; the input reads as it did. -/
def packRoundSpec : ChangeSpec := { name := "packRound", fn := fun _ => fun
  | [d1, d2] => { results := [.lit (.bool true)], args := [d1, d2] }
  | _ => none }
def packRoundRow : OpenClaim := { program := "ytcjnehlbkjpgbaa", sum := "138184bf8e66579ab4661e2ed7a712e3e578587c32531ea82925ed875adc160e", func := "warp/warplaw08.PackRound", spec := "packRound", apart := false }
def PackRoundSaid : Prop := packRoundRow.holds Try.pinned (OpenSpec.ofChange packRoundSpec)

/-- ITS FALSE NEIGHBOUR: 'it returns false'. Refute it at one input. -/
def packRoundWrong : ChangeSpec := { name := "packRound", fn := fun _ => fun
  | [d1, d2] => { results := [.lit (.bool false)], args := [d1, d2] }
  | _ => none }
def PackRoundWrongFalsely : Prop := packRoundRow.holds Try.pinned (OpenSpec.ofChange packRoundWrong)

/-- 'warplaw08.PackShift': WHATEVER THE INPUT: true; the input reads as it did. -/
def packShiftSpec : ChangeSpec := { name := "packShift", fn := fun _ => fun
  | [d1, d2] => { results := [.lit (.bool true)], args := [d1, d2] }
  | _ => none }
def packShiftRow : OpenClaim := { program := "ytcjnehlbkjpgbaa", sum := "138184bf8e66579ab4661e2ed7a712e3e578587c32531ea82925ed875adc160e", func := "warp/warplaw08.PackShift", spec := "packShift", apart := false }
def PackShiftSaid : Prop := packShiftRow.holds Try.pinned (OpenSpec.ofChange packShiftSpec)

/-- ITS FALSE NEIGHBOUR: 'it returns false'. Refute it at one input. -/
def packShiftWrong : ChangeSpec := { name := "packShift", fn := fun _ => fun
  | [d1, d2] => { results := [.lit (.bool false)], args := [d1, d2] }
  | _ => none }
def PackShiftWrongFalsely : Prop := packShiftRow.holds Try.pinned (OpenSpec.ofChange packShiftWrong)

/- THE SECOND FORM. 'bulk': how many values and letters a reading holds, each counted each time it is reached (what is shared counts as often as it is met; a slice's spare places count too). A statement '..UptoSaid' is the law's where the arguments, and the package variables that the reading takes, are together of bulk at most 1048576: NARROWER than '..Said'. Prove '..Said' where nothing that the law and all that it calls make is longer than what came in: it says more and counts as full. Else prove '..UptoSaid'. A law counts once. -/
mutual
def uptoBulk {H : Type} : DataW H → Nat
  | .lit (.string bytes) => bytes.length + 1
  | .lit _ => 1
  | .nil => 1
  | .ptr d => uptoBulk d + 1
  | .slice elems spare => uptoBulkAll elems + uptoBulkAll spare + 1
  | .agg parts => uptoBulkAll parts + 1
  | .iface _ d => uptoBulk d + 1
  | .map entries => uptoBulkEntries entries + 1
  | .held _ => 1
def uptoBulkAll {H : Type} : List (DataW H) → Nat
  | [] => 0
  | d :: r => uptoBulk d + uptoBulkAll r
def uptoBulkEntries {H : Type} : List (Lit × DataW H) → Nat
  | [] => 0
  | x :: r => uptoBulkEntry x + uptoBulkEntries r
def uptoBulkEntry {H : Type} : Lit × DataW H → Nat
  | (.string bytes, d) => bytes.length + uptoBulk d + 1
  | (_, d) => uptoBulk d + 1
 end
def uptoSmall : (H : Type) → List (DataW H) → Bool := fun _ ds => decide (uptoBulkAll ds ≤ 1048576)
def OpenSpec.upto (s : _root_.Go.ChangeSpec) : _root_.Go.OpenSpec := { _root_.Go.OpenSpec.ofChange s with cond := some uptoSmall }

/-- 'warplaw08.PackPacks', WHERE WHAT IT READS IS OF BULK AT MOST 1048576: true; the input reads as it did. -/
def packPacksUptoRow : OpenClaim := { program := "ytcjnehlbkjpgbaa", sum := "138184bf8e66579ab4661e2ed7a712e3e578587c32531ea82925ed875adc160e", func := "warp/warplaw08.PackPacks", spec := "packPacks", apart := false, narrowed := true }
def PackPacksUptoSaid : Prop := packPacksUptoRow.holds Try.pinned (OpenSpec.upto packPacksSpec)

/-- 'warplaw08.PackUnpacks', WHERE WHAT IT READS IS OF BULK AT MOST 1048576: true; the input reads as it did. -/
def packUnpacksUptoRow : OpenClaim := { program := "ytcjnehlbkjpgbaa", sum := "138184bf8e66579ab4661e2ed7a712e3e578587c32531ea82925ed875adc160e", func := "warp/warplaw08.PackUnpacks", spec := "packUnpacks", apart := false, narrowed := true }
def PackUnpacksUptoSaid : Prop := packUnpacksUptoRow.holds Try.pinned (OpenSpec.upto packUnpacksSpec)

/-- 'warplaw08.PackBack', WHERE WHAT IT READS IS OF BULK AT MOST 1048576: true; the input reads as it did. -/
def packBackUptoRow : OpenClaim := { program := "ytcjnehlbkjpgbaa", sum := "138184bf8e66579ab4661e2ed7a712e3e578587c32531ea82925ed875adc160e", func := "warp/warplaw08.PackBack", spec := "packBack", apart := false, narrowed := true }
def PackBackUptoSaid : Prop := packBackUptoRow.holds Try.pinned (OpenSpec.upto packBackSpec)

/-- 'warplaw08.PackFrames', WHERE WHAT IT READS IS OF BULK AT MOST 1048576: true; the input reads as it did. -/
def packFramesUptoRow : OpenClaim := { program := "ytcjnehlbkjpgbaa", sum := "138184bf8e66579ab4661e2ed7a712e3e578587c32531ea82925ed875adc160e", func := "warp/warplaw08.PackFrames", spec := "packFrames", apart := false, narrowed := true }
def PackFramesUptoSaid : Prop := packFramesUptoRow.holds Try.pinned (OpenSpec.upto packFramesSpec)

/-- 'warplaw08.PackRound', WHERE WHAT IT READS IS OF BULK AT MOST 1048576: true; the input reads as it did. -/
def packRoundUptoRow : OpenClaim := { program := "ytcjnehlbkjpgbaa", sum := "138184bf8e66579ab4661e2ed7a712e3e578587c32531ea82925ed875adc160e", func := "warp/warplaw08.PackRound", spec := "packRound", apart := false, narrowed := true }
def PackRoundUptoSaid : Prop := packRoundUptoRow.holds Try.pinned (OpenSpec.upto packRoundSpec)

/-- 'warplaw08.PackShift', WHERE WHAT IT READS IS OF BULK AT MOST 1048576: true; the input reads as it did. -/
def packShiftUptoRow : OpenClaim := { program := "ytcjnehlbkjpgbaa", sum := "138184bf8e66579ab4661e2ed7a712e3e578587c32531ea82925ed875adc160e", func := "warp/warplaw08.PackShift", spec := "packShift", apart := false, narrowed := true }
def PackShiftUptoSaid : Prop := packShiftUptoRow.holds Try.pinned (OpenSpec.upto packShiftSpec)

end Rows
end Go.Proofs.Ytcjnehlbkjpgbaa
