/-
  No cell of these rows narrows 'for every input' (looked for: loops, veiled, ifaces, maps, wideKeys, modest, calm, conditions, laid).
  DERIVED. THE GIVEN ROWS OF THIS SEAT. 6 by the template 'for every input the law returns true; each argument reads behind the call as it read before'; 0 by the template 'total and deterministic' (their statements: YtdpmaocbfmgmlaaTotals.lean).
  GIVEN WITH THE SEED: the statements are not yours to turn. If you find one false, say at which input.
  Laid BY PROGRAM, IN A SANDBOX (cutbox-rows.mjs): the forced cells as the released guide's own fill.sh prints them over the translation 55de90d9897b97fd… (all of the seat's roots in one cut). By AI agents, Wed Nov 11 2026. No macro, syntax, notation, axiom, sorry.
-/
import Derived.Test.YtdpmaocbfmgmlaaChecked
import GoSem.Claim
import GoSem.ClaimJoined
import GoSem.ClaimMapViews
import Derived.JoinedTies
import Derived.KernelRfl
namespace Go.Proofs.Ytdpmaocbfmgmlaa
/- THE CELL 'sum', in the pinned program and in every row, IS THE sha256 OF THE DUMP (.gsa) THAT YtdpmaocbfmgmlaaProg.lean LOADS. Nothing in Lean hashes anything: it is a label: what it is worth is what the hold of that sum in a sandbox is worth. -/
noncomputable def Try.pinned : Pinned := { name := "ytdpmaocbfmgmlaa", sum := "55de90d9897b97fd2dd7eb8336f90482b6e60775b161016dacd920ba53f5b3f9", checked := Try.checked }
namespace Rows
def none {H : Type} : Left H := { results := [], args := [] }

/-- 'warplaw13.ZoneOf': WHATEVER THE INPUT: true; the input reads as it did. -/
def zoneOfSpec : ChangeSpec := { name := "zoneOf", fn := fun _ => fun
  | [d1, d2, d3] => { results := [.lit (.bool true)], args := [d1, d2, d3] }
  | _ => none }
def zoneOfRow : OpenClaim := { program := "ytdpmaocbfmgmlaa", sum := "55de90d9897b97fd2dd7eb8336f90482b6e60775b161016dacd920ba53f5b3f9", func := "warp/warplaw13.ZoneOf", spec := "zoneOf", apart := false }
def ZoneOfSaid : Prop := zoneOfRow.holds Try.pinned (OpenSpec.ofChange zoneOfSpec)

/-- ITS FALSE NEIGHBOUR: 'it returns false'. Refute it at one input. -/
def zoneOfWrong : ChangeSpec := { name := "zoneOf", fn := fun _ => fun
  | [d1, d2, d3] => { results := [.lit (.bool false)], args := [d1, d2, d3] }
  | _ => none }
def ZoneOfWrongFalsely : Prop := zoneOfRow.holds Try.pinned (OpenSpec.ofChange zoneOfWrong)

/-- 'warplaw13.ZoneParts': WHATEVER THE INPUT: true; the input reads as it did. -/
def zonePartsSpec : ChangeSpec := { name := "zoneParts", fn := fun _ => fun
  | [d1, d2] => { results := [.lit (.bool true)], args := [d1, d2] }
  | _ => none }
def zonePartsRow : OpenClaim := { program := "ytdpmaocbfmgmlaa", sum := "55de90d9897b97fd2dd7eb8336f90482b6e60775b161016dacd920ba53f5b3f9", func := "warp/warplaw13.ZoneParts", spec := "zoneParts", apart := false }
def ZonePartsSaid : Prop := zonePartsRow.holds Try.pinned (OpenSpec.ofChange zonePartsSpec)

/-- ITS FALSE NEIGHBOUR: 'it returns false'. Refute it at one input. -/
def zonePartsWrong : ChangeSpec := { name := "zoneParts", fn := fun _ => fun
  | [d1, d2] => { results := [.lit (.bool false)], args := [d1, d2] }
  | _ => none }
def ZonePartsWrongFalsely : Prop := zonePartsRow.holds Try.pinned (OpenSpec.ofChange zonePartsWrong)

/-- 'warplaw13.ZoneAsks': WHATEVER THE INPUT: true; the input reads as it did. -/
def zoneAsksSpec : ChangeSpec := { name := "zoneAsks", fn := fun _ => fun
  | [d1, d2] => { results := [.lit (.bool true)], args := [d1, d2] }
  | _ => none }
def zoneAsksRow : OpenClaim := { program := "ytdpmaocbfmgmlaa", sum := "55de90d9897b97fd2dd7eb8336f90482b6e60775b161016dacd920ba53f5b3f9", func := "warp/warplaw13.ZoneAsks", spec := "zoneAsks", apart := false }
def ZoneAsksSaid : Prop := zoneAsksRow.holds Try.pinned (OpenSpec.ofChange zoneAsksSpec)

/-- ITS FALSE NEIGHBOUR: 'it returns false'. Refute it at one input. -/
def zoneAsksWrong : ChangeSpec := { name := "zoneAsks", fn := fun _ => fun
  | [d1, d2] => { results := [.lit (.bool false)], args := [d1, d2] }
  | _ => none }
def ZoneAsksWrongFalsely : Prop := zoneAsksRow.holds Try.pinned (OpenSpec.ofChange zoneAsksWrong)

/-- 'warplaw13.ZoneSure': WHATEVER THE INPUT: true; the input reads as it did. -/
def zoneSureSpec : ChangeSpec := { name := "zoneSure", fn := fun _ => fun
  | [d1, d2] => { results := [.lit (.bool true)], args := [d1, d2] }
  | _ => none }
def zoneSureRow : OpenClaim := { program := "ytdpmaocbfmgmlaa", sum := "55de90d9897b97fd2dd7eb8336f90482b6e60775b161016dacd920ba53f5b3f9", func := "warp/warplaw13.ZoneSure", spec := "zoneSure", apart := false }
def ZoneSureSaid : Prop := zoneSureRow.holds Try.pinned (OpenSpec.ofChange zoneSureSpec)

/-- ITS FALSE NEIGHBOUR: 'it returns false'. Refute it at one input. -/
def zoneSureWrong : ChangeSpec := { name := "zoneSure", fn := fun _ => fun
  | [d1, d2] => { results := [.lit (.bool false)], args := [d1, d2] }
  | _ => none }
def ZoneSureWrongFalsely : Prop := zoneSureRow.holds Try.pinned (OpenSpec.ofChange zoneSureWrong)

/-- 'warplaw13.ZonePuts': WHATEVER THE INPUT: true; the input reads as it did. -/
def zonePutsSpec : ChangeSpec := { name := "zonePuts", fn := fun _ => fun
  | [d1, d2, d3] => { results := [.lit (.bool true)], args := [d1, d2, d3] }
  | _ => none }
def zonePutsRow : OpenClaim := { program := "ytdpmaocbfmgmlaa", sum := "55de90d9897b97fd2dd7eb8336f90482b6e60775b161016dacd920ba53f5b3f9", func := "warp/warplaw13.ZonePuts", spec := "zonePuts", apart := false }
def ZonePutsSaid : Prop := zonePutsRow.holds Try.pinned (OpenSpec.ofChange zonePutsSpec)

/-- ITS FALSE NEIGHBOUR: 'it returns false'. Refute it at one input. -/
def zonePutsWrong : ChangeSpec := { name := "zonePuts", fn := fun _ => fun
  | [d1, d2, d3] => { results := [.lit (.bool false)], args := [d1, d2, d3] }
  | _ => none }
def ZonePutsWrongFalsely : Prop := zonePutsRow.holds Try.pinned (OpenSpec.ofChange zonePutsWrong)

/-- 'warplaw13.ZoneBack': WHATEVER THE INPUT: true; the input reads as it did. -/
def zoneBackSpec : ChangeSpec := { name := "zoneBack", fn := fun _ => fun
  | [d1, d2] => { results := [.lit (.bool true)], args := [d1, d2] }
  | _ => none }
def zoneBackRow : OpenClaim := { program := "ytdpmaocbfmgmlaa", sum := "55de90d9897b97fd2dd7eb8336f90482b6e60775b161016dacd920ba53f5b3f9", func := "warp/warplaw13.ZoneBack", spec := "zoneBack", apart := false }
def ZoneBackSaid : Prop := zoneBackRow.holds Try.pinned (OpenSpec.ofChange zoneBackSpec)

/-- ITS FALSE NEIGHBOUR: 'it returns false'. Refute it at one input. -/
def zoneBackWrong : ChangeSpec := { name := "zoneBack", fn := fun _ => fun
  | [d1, d2] => { results := [.lit (.bool false)], args := [d1, d2] }
  | _ => none }
def ZoneBackWrongFalsely : Prop := zoneBackRow.holds Try.pinned (OpenSpec.ofChange zoneBackWrong)

/- THE SECOND FORM. 'bulk': how many values and letters a reading holds, each counted each time it is reached (what is shared counts as often as it is met; a slice's spare places count too). A statement '..UptoSaid' is the law's where the arguments, and the package variables that the reading takes, are together of bulk at most 1048576: NARROWER than '..Said'. Prove '..Said' where nothing that the law and all that it calls make is longer than what came in: it says more and counts as full. Else prove '..UptoSaid'. A law counts once. -/
mutual
def uptoBulk {H : Type} : DataW H → Nat
  | .lit (.string bytes) => bytes.length + 1
  | .lit _ => 1
  | .nil => 1
  | .ptr d => uptoBulk d + 1
  | .slice elems spare => uptoBulkAll elems + uptoBulkAll spare + 1
  | .agg parts => uptoBulkAll parts + 1
  | .iface _ d => uptoBulk d + 1
  | .map entries => uptoBulkEntries entries + 1
  | .held _ => 1
def uptoBulkAll {H : Type} : List (DataW H) → Nat
  | [] => 0
  | d :: r => uptoBulk d + uptoBulkAll r
def uptoBulkEntries {H : Type} : List (Lit × DataW H) → Nat
  | [] => 0
  | x :: r => uptoBulkEntry x + uptoBulkEntries r
def uptoBulkEntry {H : Type} : Lit × DataW H → Nat
  | (.string bytes, d) => bytes.length + uptoBulk d + 1
  | (_, d) => uptoBulk d + 1
 end
def uptoSmall : (H : Type) → List (DataW H) → Bool := fun _ ds => decide (uptoBulkAll ds ≤ 1048576)
def OpenSpec.upto (s : _root_.Go.ChangeSpec) : _root_.Go.OpenSpec := { _root_.Go.OpenSpec.ofChange s with cond := some uptoSmall }

/-- 'warplaw13.ZoneOf', WHERE WHAT IT READS IS OF BULK AT MOST 1048576: true; the input reads as it did. -/
def zoneOfUptoRow : OpenClaim := { program := "ytdpmaocbfmgmlaa", sum := "55de90d9897b97fd2dd7eb8336f90482b6e60775b161016dacd920ba53f5b3f9", func := "warp/warplaw13.ZoneOf", spec := "zoneOf", apart := false, narrowed := true }
def ZoneOfUptoSaid : Prop := zoneOfUptoRow.holds Try.pinned (OpenSpec.upto zoneOfSpec)

/-- 'warplaw13.ZoneParts', WHERE WHAT IT READS IS OF BULK AT MOST 1048576: true; the input reads as it did. -/
def zonePartsUptoRow : OpenClaim := { program := "ytdpmaocbfmgmlaa", sum := "55de90d9897b97fd2dd7eb8336f90482b6e60775b161016dacd920ba53f5b3f9", func := "warp/warplaw13.ZoneParts", spec := "zoneParts", apart := false, narrowed := true }
def ZonePartsUptoSaid : Prop := zonePartsUptoRow.holds Try.pinned (OpenSpec.upto zonePartsSpec)

/-- 'warplaw13.ZoneAsks', WHERE WHAT IT READS IS OF BULK AT MOST 1048576: true; the input reads as it did. -/
def zoneAsksUptoRow : OpenClaim := { program := "ytdpmaocbfmgmlaa", sum := "55de90d9897b97fd2dd7eb8336f90482b6e60775b161016dacd920ba53f5b3f9", func := "warp/warplaw13.ZoneAsks", spec := "zoneAsks", apart := false, narrowed := true }
def ZoneAsksUptoSaid : Prop := zoneAsksUptoRow.holds Try.pinned (OpenSpec.upto zoneAsksSpec)

/-- 'warplaw13.ZoneSure', WHERE WHAT IT READS IS OF BULK AT MOST 1048576: true; the input reads as it did. -/
def zoneSureUptoRow : OpenClaim := { program := "ytdpmaocbfmgmlaa", sum := "55de90d9897b97fd2dd7eb8336f90482b6e60775b161016dacd920ba53f5b3f9", func := "warp/warplaw13.ZoneSure", spec := "zoneSure", apart := false, narrowed := true }
def ZoneSureUptoSaid : Prop := zoneSureUptoRow.holds Try.pinned (OpenSpec.upto zoneSureSpec)

/-- 'warplaw13.ZonePuts', WHERE WHAT IT READS IS OF BULK AT MOST 1048576: true; the input reads as it did. -/
def zonePutsUptoRow : OpenClaim := { program := "ytdpmaocbfmgmlaa", sum := "55de90d9897b97fd2dd7eb8336f90482b6e60775b161016dacd920ba53f5b3f9", func := "warp/warplaw13.ZonePuts", spec := "zonePuts", apart := false, narrowed := true }
def ZonePutsUptoSaid : Prop := zonePutsUptoRow.holds Try.pinned (OpenSpec.upto zonePutsSpec)

/-- 'warplaw13.ZoneBack', WHERE WHAT IT READS IS OF BULK AT MOST 1048576: true; the input reads as it did. -/
def zoneBackUptoRow : OpenClaim := { program := "ytdpmaocbfmgmlaa", sum := "55de90d9897b97fd2dd7eb8336f90482b6e60775b161016dacd920ba53f5b3f9", func := "warp/warplaw13.ZoneBack", spec := "zoneBack", apart := false, narrowed := true }
def ZoneBackUptoSaid : Prop := zoneBackUptoRow.holds Try.pinned (OpenSpec.upto zoneBackSpec)

end Rows
end Go.Proofs.Ytdpmaocbfmgmlaa
