/-
  No cell of these rows narrows 'for every input' (looked for: loops, veiled, ifaces, maps, wideKeys, modest, calm, conditions, laid).
  DERIVED. THE GIVEN ROWS OF THIS SEAT. 6 by the template 'for every input the law returns true; each argument reads behind the call as it read before'; 0 by the template 'total and deterministic' (their statements: YtoggjieagnlneaaTotals.lean).
  GIVEN WITH THE SEED: the statements are not yours to turn. If you find one false, say at which input.
  Laid BY PROGRAM, IN A SANDBOX (cutbox-rows.mjs): the forced cells as the released guide's own fill.sh prints them over the translation c46682174ea432ba… (all of the seat's roots in one cut). By AI agents, Wed Nov 11 2026. No macro, syntax, notation, axiom, sorry.
-/
import Derived.Test.YtoggjieagnlneaaChecked
import GoSem.Claim
import GoSem.ClaimJoined
import GoSem.ClaimMapViews
import Derived.JoinedTies
import Derived.KernelRfl
namespace Go.Proofs.Ytoggjieagnlneaa
/- THE CELL 'sum', in the pinned program and in every row, IS THE sha256 OF THE DUMP (.gsa) THAT YtoggjieagnlneaaProg.lean LOADS. Nothing in Lean hashes anything: it is a label: what it is worth is what the hold of that sum in a sandbox is worth. -/
noncomputable def Try.pinned : Pinned := { name := "ytoggjieagnlneaa", sum := "c46682174ea432ba8fdac798fbb789fc711e50aaf30f3ddf1076962f1b642973", checked := Try.checked }
namespace Rows
def none {H : Type} : Left H := { results := [], args := [] }

/-- 'warplaw15.OrderCompares': WHATEVER THE INPUT: true; the input reads as it did. -/
def orderComparesSpec : ChangeSpec := { name := "orderCompares", fn := fun _ => fun
  | [d1, d2, d3, d4] => { results := [.lit (.bool true)], args := [d1, d2, d3, d4] }
  | _ => none }
def orderComparesRow : OpenClaim := { program := "ytoggjieagnlneaa", sum := "c46682174ea432ba8fdac798fbb789fc711e50aaf30f3ddf1076962f1b642973", func := "warp/warplaw15.OrderCompares", spec := "orderCompares", unfollowed := true, recurses := true, apart := false }
def OrderComparesSaid : Prop := orderComparesRow.holds Try.pinned (OpenSpec.ofChange orderComparesSpec)

/-- ITS FALSE NEIGHBOUR: 'it returns false'. Refute it at one input. -/
def orderComparesWrong : ChangeSpec := { name := "orderCompares", fn := fun _ => fun
  | [d1, d2, d3, d4] => { results := [.lit (.bool false)], args := [d1, d2, d3, d4] }
  | _ => none }
def OrderComparesWrongFalsely : Prop := orderComparesRow.holds Try.pinned (OpenSpec.ofChange orderComparesWrong)

/-- 'warplaw15.OrderKeeps': WHATEVER THE INPUT: true; the input reads as it did. -/
def orderKeepsSpec : ChangeSpec := { name := "orderKeeps", fn := fun _ => fun
  | [d1, d2] => { results := [.lit (.bool true)], args := [d1, d2] }
  | _ => none }
def orderKeepsRow : OpenClaim := { program := "ytoggjieagnlneaa", sum := "c46682174ea432ba8fdac798fbb789fc711e50aaf30f3ddf1076962f1b642973", func := "warp/warplaw15.OrderKeeps", spec := "orderKeeps", unfollowed := true, recurses := true, apart := false }
def OrderKeepsSaid : Prop := orderKeepsRow.holds Try.pinned (OpenSpec.ofChange orderKeepsSpec)

/-- ITS FALSE NEIGHBOUR: 'it returns false'. Refute it at one input. -/
def orderKeepsWrong : ChangeSpec := { name := "orderKeeps", fn := fun _ => fun
  | [d1, d2] => { results := [.lit (.bool false)], args := [d1, d2] }
  | _ => none }
def OrderKeepsWrongFalsely : Prop := orderKeepsRow.holds Try.pinned (OpenSpec.ofChange orderKeepsWrong)

/-- 'warplaw15.OrderMore': WHATEVER THE INPUT: true; the input reads as it did. -/
def orderMoreSpec : ChangeSpec := { name := "orderMore", fn := fun _ => fun
  | [d1, d2, d3] => { results := [.lit (.bool true)], args := [d1, d2, d3] }
  | _ => none }
def orderMoreRow : OpenClaim := { program := "ytoggjieagnlneaa", sum := "c46682174ea432ba8fdac798fbb789fc711e50aaf30f3ddf1076962f1b642973", func := "warp/warplaw15.OrderMore", spec := "orderMore", unfollowed := true, recurses := true, apart := false }
def OrderMoreSaid : Prop := orderMoreRow.holds Try.pinned (OpenSpec.ofChange orderMoreSpec)

/-- ITS FALSE NEIGHBOUR: 'it returns false'. Refute it at one input. -/
def orderMoreWrong : ChangeSpec := { name := "orderMore", fn := fun _ => fun
  | [d1, d2, d3] => { results := [.lit (.bool false)], args := [d1, d2, d3] }
  | _ => none }
def OrderMoreWrongFalsely : Prop := orderMoreRow.holds Try.pinned (OpenSpec.ofChange orderMoreWrong)

/-- 'warplaw15.OrderSorts': WHATEVER THE INPUT: true; the input reads as it did. -/
def orderSortsSpec : ChangeSpec := { name := "orderSorts", fn := fun _ => fun
  | [d1, d2, d3] => { results := [.lit (.bool true)], args := [d1, d2, d3] }
  | _ => none }
def orderSortsRow : OpenClaim := { program := "ytoggjieagnlneaa", sum := "c46682174ea432ba8fdac798fbb789fc711e50aaf30f3ddf1076962f1b642973", func := "warp/warplaw15.OrderSorts", spec := "orderSorts", unfollowed := true, recurses := true, apart := false }
def OrderSortsSaid : Prop := orderSortsRow.holds Try.pinned (OpenSpec.ofChange orderSortsSpec)

/-- ITS FALSE NEIGHBOUR: 'it returns false'. Refute it at one input. -/
def orderSortsWrong : ChangeSpec := { name := "orderSorts", fn := fun _ => fun
  | [d1, d2, d3] => { results := [.lit (.bool false)], args := [d1, d2, d3] }
  | _ => none }
def OrderSortsWrongFalsely : Prop := orderSortsRow.holds Try.pinned (OpenSpec.ofChange orderSortsWrong)

/-- 'warplaw15.OrderBoth': WHATEVER THE INPUT: true; the input reads as it did. -/
def orderBothSpec : ChangeSpec := { name := "orderBoth", fn := fun _ => fun
  | [d1, d2, d3] => { results := [.lit (.bool true)], args := [d1, d2, d3] }
  | _ => none }
def orderBothRow : OpenClaim := { program := "ytoggjieagnlneaa", sum := "c46682174ea432ba8fdac798fbb789fc711e50aaf30f3ddf1076962f1b642973", func := "warp/warplaw15.OrderBoth", spec := "orderBoth", unfollowed := true, recurses := true, apart := false }
def OrderBothSaid : Prop := orderBothRow.holds Try.pinned (OpenSpec.ofChange orderBothSpec)

/-- ITS FALSE NEIGHBOUR: 'it returns false'. Refute it at one input. -/
def orderBothWrong : ChangeSpec := { name := "orderBoth", fn := fun _ => fun
  | [d1, d2, d3] => { results := [.lit (.bool false)], args := [d1, d2, d3] }
  | _ => none }
def OrderBothWrongFalsely : Prop := orderBothRow.holds Try.pinned (OpenSpec.ofChange orderBothWrong)

/-- 'warplaw15.OrderMerges': WHATEVER THE INPUT: true; the input reads as it did. -/
def orderMergesSpec : ChangeSpec := { name := "orderMerges", fn := fun _ => fun
  | [d1, d2, d3, d4] => { results := [.lit (.bool true)], args := [d1, d2, d3, d4] }
  | _ => none }
def orderMergesRow : OpenClaim := { program := "ytoggjieagnlneaa", sum := "c46682174ea432ba8fdac798fbb789fc711e50aaf30f3ddf1076962f1b642973", func := "warp/warplaw15.OrderMerges", spec := "orderMerges", unfollowed := true, recurses := true, apart := false }
def OrderMergesSaid : Prop := orderMergesRow.holds Try.pinned (OpenSpec.ofChange orderMergesSpec)

/-- ITS FALSE NEIGHBOUR: 'it returns false'. Refute it at one input. -/
def orderMergesWrong : ChangeSpec := { name := "orderMerges", fn := fun _ => fun
  | [d1, d2, d3, d4] => { results := [.lit (.bool false)], args := [d1, d2, d3, d4] }
  | _ => none }
def OrderMergesWrongFalsely : Prop := orderMergesRow.holds Try.pinned (OpenSpec.ofChange orderMergesWrong)

/- THE SECOND FORM. 'bulk': how many values and letters a reading holds, each counted each time it is reached (what is shared counts as often as it is met; a slice's spare places count too). A statement '..UptoSaid' is the law's where the arguments, and the package variables that the reading takes, are together of bulk at most 1048576: NARROWER than '..Said'. Prove '..Said' where nothing that the law and all that it calls make is longer than what came in: it says more and counts as full. Else prove '..UptoSaid'. A law counts once. -/
mutual
def uptoBulk {H : Type} : DataW H → Nat
  | .lit (.string bytes) => bytes.length + 1
  | .lit _ => 1
  | .nil => 1
  | .ptr d => uptoBulk d + 1
  | .slice elems spare => uptoBulkAll elems + uptoBulkAll spare + 1
  | .agg parts => uptoBulkAll parts + 1
  | .iface _ d => uptoBulk d + 1
  | .map entries => uptoBulkEntries entries + 1
  | .held _ => 1
def uptoBulkAll {H : Type} : List (DataW H) → Nat
  | [] => 0
  | d :: r => uptoBulk d + uptoBulkAll r
def uptoBulkEntries {H : Type} : List (Lit × DataW H) → Nat
  | [] => 0
  | x :: r => uptoBulkEntry x + uptoBulkEntries r
def uptoBulkEntry {H : Type} : Lit × DataW H → Nat
  | (.string bytes, d) => bytes.length + uptoBulk d + 1
  | (_, d) => uptoBulk d + 1
 end
def uptoSmall : (H : Type) → List (DataW H) → Bool := fun _ ds => decide (uptoBulkAll ds ≤ 1048576)
def OpenSpec.upto (s : _root_.Go.ChangeSpec) : _root_.Go.OpenSpec := { _root_.Go.OpenSpec.ofChange s with cond := some uptoSmall }

/-- 'warplaw15.OrderCompares', WHERE WHAT IT READS IS OF BULK AT MOST 1048576: true; the input reads as it did. -/
def orderComparesUptoRow : OpenClaim := { program := "ytoggjieagnlneaa", sum := "c46682174ea432ba8fdac798fbb789fc711e50aaf30f3ddf1076962f1b642973", func := "warp/warplaw15.OrderCompares", spec := "orderCompares", unfollowed := true, recurses := true, apart := false, narrowed := true }
def OrderComparesUptoSaid : Prop := orderComparesUptoRow.holds Try.pinned (OpenSpec.upto orderComparesSpec)

/-- 'warplaw15.OrderKeeps', WHERE WHAT IT READS IS OF BULK AT MOST 1048576: true; the input reads as it did. -/
def orderKeepsUptoRow : OpenClaim := { program := "ytoggjieagnlneaa", sum := "c46682174ea432ba8fdac798fbb789fc711e50aaf30f3ddf1076962f1b642973", func := "warp/warplaw15.OrderKeeps", spec := "orderKeeps", unfollowed := true, recurses := true, apart := false, narrowed := true }
def OrderKeepsUptoSaid : Prop := orderKeepsUptoRow.holds Try.pinned (OpenSpec.upto orderKeepsSpec)

/-- 'warplaw15.OrderMore', WHERE WHAT IT READS IS OF BULK AT MOST 1048576: true; the input reads as it did. -/
def orderMoreUptoRow : OpenClaim := { program := "ytoggjieagnlneaa", sum := "c46682174ea432ba8fdac798fbb789fc711e50aaf30f3ddf1076962f1b642973", func := "warp/warplaw15.OrderMore", spec := "orderMore", unfollowed := true, recurses := true, apart := false, narrowed := true }
def OrderMoreUptoSaid : Prop := orderMoreUptoRow.holds Try.pinned (OpenSpec.upto orderMoreSpec)

/-- 'warplaw15.OrderSorts', WHERE WHAT IT READS IS OF BULK AT MOST 1048576: true; the input reads as it did. -/
def orderSortsUptoRow : OpenClaim := { program := "ytoggjieagnlneaa", sum := "c46682174ea432ba8fdac798fbb789fc711e50aaf30f3ddf1076962f1b642973", func := "warp/warplaw15.OrderSorts", spec := "orderSorts", unfollowed := true, recurses := true, apart := false, narrowed := true }
def OrderSortsUptoSaid : Prop := orderSortsUptoRow.holds Try.pinned (OpenSpec.upto orderSortsSpec)

/-- 'warplaw15.OrderBoth', WHERE WHAT IT READS IS OF BULK AT MOST 1048576: true; the input reads as it did. -/
def orderBothUptoRow : OpenClaim := { program := "ytoggjieagnlneaa", sum := "c46682174ea432ba8fdac798fbb789fc711e50aaf30f3ddf1076962f1b642973", func := "warp/warplaw15.OrderBoth", spec := "orderBoth", unfollowed := true, recurses := true, apart := false, narrowed := true }
def OrderBothUptoSaid : Prop := orderBothUptoRow.holds Try.pinned (OpenSpec.upto orderBothSpec)

/-- 'warplaw15.OrderMerges', WHERE WHAT IT READS IS OF BULK AT MOST 1048576: true; the input reads as it did. -/
def orderMergesUptoRow : OpenClaim := { program := "ytoggjieagnlneaa", sum := "c46682174ea432ba8fdac798fbb789fc711e50aaf30f3ddf1076962f1b642973", func := "warp/warplaw15.OrderMerges", spec := "orderMerges", unfollowed := true, recurses := true, apart := false, narrowed := true }
def OrderMergesUptoSaid : Prop := orderMergesUptoRow.holds Try.pinned (OpenSpec.upto orderMergesSpec)

end Rows
end Go.Proofs.Ytoggjieagnlneaa
