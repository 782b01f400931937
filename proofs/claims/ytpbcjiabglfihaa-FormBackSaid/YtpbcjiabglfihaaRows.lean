/-
  No cell of these rows narrows 'for every input' (looked for: loops, veiled, ifaces, maps, wideKeys, modest, calm, conditions, laid).
  DERIVED. THE GIVEN ROWS OF THIS SEAT. 6 by the template 'for every input the law returns true; each argument reads behind the call as it read before'; 0 by the template 'total and deterministic' (their statements: YtpbcjiabglfihaaTotals.lean).
  GIVEN WITH THE SEED: the statements are not yours to turn. If you find one false, say at which input.
  Laid BY PROGRAM, IN A SANDBOX (cutbox-rows.mjs): the forced cells as the released guide's own fill.sh prints them over the translation f059c94a5ca07795… (all of the seat's roots in one cut). By AI agents, Wed Nov 11 2026. No macro, syntax, notation, axiom, sorry.
-/
import Derived.Test.YtpbcjiabglfihaaChecked
import GoSem.Claim
import GoSem.ClaimJoined
import GoSem.ClaimMapViews
import Derived.JoinedTies
import Derived.KernelRfl
namespace Go.Proofs.Ytpbcjiabglfihaa
/- THE CELL 'sum', in the pinned program and in every row, IS THE sha256 OF THE DUMP (.gsa) THAT YtpbcjiabglfihaaProg.lean LOADS. Nothing in Lean hashes anything: it is a label: what it is worth is what the hold of that sum in a sandbox is worth. -/
noncomputable def Try.pinned : Pinned := { name := "ytpbcjiabglfihaa", sum := "f059c94a5ca0779559e5461e8ef929e6a54bf8dd52243336ece64588145060f3", checked := Try.checked }
namespace Rows
def none {H : Type} : Left H := { results := [], args := [] }

/-- 'warplaw01.FormLays': WHATEVER THE INPUT: true; the input reads as it did. -/
def formLaysSpec : ChangeSpec := { name := "formLays", fn := fun _ => fun
  | [d1, d2, d3, d4] => { results := [.lit (.bool true)], args := [d1, d2, d3, d4] }
  | _ => none }
def formLaysRow : OpenClaim := { program := "ytpbcjiabglfihaa", sum := "f059c94a5ca0779559e5461e8ef929e6a54bf8dd52243336ece64588145060f3", func := "warp/warplaw01.FormLays", spec := "formLays", apart := false }
def FormLaysSaid : Prop := formLaysRow.holds Try.pinned (OpenSpec.ofChange formLaysSpec)

/-- ITS FALSE NEIGHBOUR: 'it returns false'. Refute it at one input. -/
def formLaysWrong : ChangeSpec := { name := "formLays", fn := fun _ => fun
  | [d1, d2, d3, d4] => { results := [.lit (.bool false)], args := [d1, d2, d3, d4] }
  | _ => none }
def FormLaysWrongFalsely : Prop := formLaysRow.holds Try.pinned (OpenSpec.ofChange formLaysWrong)

/-- 'warplaw01.FormRises': WHATEVER THE INPUT: true; the input reads as it did. -/
def formRisesSpec : ChangeSpec := { name := "formRises", fn := fun _ => fun
  | [d1, d2] => { results := [.lit (.bool true)], args := [d1, d2] }
  | _ => none }
def formRisesRow : OpenClaim := { program := "ytpbcjiabglfihaa", sum := "f059c94a5ca0779559e5461e8ef929e6a54bf8dd52243336ece64588145060f3", func := "warp/warplaw01.FormRises", spec := "formRises", apart := false }
def FormRisesSaid : Prop := formRisesRow.holds Try.pinned (OpenSpec.ofChange formRisesSpec)

/-- ITS FALSE NEIGHBOUR: 'it returns false'. Refute it at one input. -/
def formRisesWrong : ChangeSpec := { name := "formRises", fn := fun _ => fun
  | [d1, d2] => { results := [.lit (.bool false)], args := [d1, d2] }
  | _ => none }
def FormRisesWrongFalsely : Prop := formRisesRow.holds Try.pinned (OpenSpec.ofChange formRisesWrong)

/-- 'warplaw01.FormOnly': WHATEVER THE INPUT: true; the input reads as it did. -/
def formOnlySpec : ChangeSpec := { name := "formOnly", fn := fun _ => fun
  | [d] => { results := [.lit (.bool true)], args := [d] }
  | _ => none }
def formOnlyRow : OpenClaim := { program := "ytpbcjiabglfihaa", sum := "f059c94a5ca0779559e5461e8ef929e6a54bf8dd52243336ece64588145060f3", func := "warp/warplaw01.FormOnly", spec := "formOnly", apart := false }
def FormOnlySaid : Prop := formOnlyRow.holds Try.pinned (OpenSpec.ofChange formOnlySpec)

/-- ITS FALSE NEIGHBOUR: 'it returns false'. Refute it at one input. -/
def formOnlyWrong : ChangeSpec := { name := "formOnly", fn := fun _ => fun
  | [d] => { results := [.lit (.bool false)], args := [d] }
  | _ => none }
def FormOnlyWrongFalsely : Prop := formOnlyRow.holds Try.pinned (OpenSpec.ofChange formOnlyWrong)

/-- 'warplaw01.FormNil': WHATEVER THE INPUT: true; the input reads as it did. -/
def formNilSpec : ChangeSpec := { name := "formNil", fn := fun _ => fun
  | [d] => { results := [.lit (.bool true)], args := [d] }
  | _ => none }
def formNilRow : OpenClaim := { program := "ytpbcjiabglfihaa", sum := "f059c94a5ca0779559e5461e8ef929e6a54bf8dd52243336ece64588145060f3", func := "warp/warplaw01.FormNil", spec := "formNil", apart := false }
def FormNilSaid : Prop := formNilRow.holds Try.pinned (OpenSpec.ofChange formNilSpec)

/-- ITS FALSE NEIGHBOUR: 'it returns false'. Refute it at one input. -/
def formNilWrong : ChangeSpec := { name := "formNil", fn := fun _ => fun
  | [d] => { results := [.lit (.bool false)], args := [d] }
  | _ => none }
def FormNilWrongFalsely : Prop := formNilRow.holds Try.pinned (OpenSpec.ofChange formNilWrong)

/-- 'warplaw01.FormTakes': WHATEVER THE INPUT: true; the input reads as it did. -/
def formTakesSpec : ChangeSpec := { name := "formTakes", fn := fun _ => fun
  | [d1, d2] => { results := [.lit (.bool true)], args := [d1, d2] }
  | _ => none }
def formTakesRow : OpenClaim := { program := "ytpbcjiabglfihaa", sum := "f059c94a5ca0779559e5461e8ef929e6a54bf8dd52243336ece64588145060f3", func := "warp/warplaw01.FormTakes", spec := "formTakes", apart := false }
def FormTakesSaid : Prop := formTakesRow.holds Try.pinned (OpenSpec.ofChange formTakesSpec)

/-- ITS FALSE NEIGHBOUR: 'it returns false'. Refute it at one input. -/
def formTakesWrong : ChangeSpec := { name := "formTakes", fn := fun _ => fun
  | [d1, d2] => { results := [.lit (.bool false)], args := [d1, d2] }
  | _ => none }
def FormTakesWrongFalsely : Prop := formTakesRow.holds Try.pinned (OpenSpec.ofChange formTakesWrong)

/-- 'warplaw01.FormBack': WHATEVER THE INPUT: true; the input reads as it did. -/
def formBackSpec : ChangeSpec := { name := "formBack", fn := fun _ => fun
  | [d1, d2] => { results := [.lit (.bool true)], args := [d1, d2] }
  | _ => none }
def formBackRow : OpenClaim := { program := "ytpbcjiabglfihaa", sum := "f059c94a5ca0779559e5461e8ef929e6a54bf8dd52243336ece64588145060f3", func := "warp/warplaw01.FormBack", spec := "formBack", apart := false }
def FormBackSaid : Prop := formBackRow.holds Try.pinned (OpenSpec.ofChange formBackSpec)

/-- ITS FALSE NEIGHBOUR: 'it returns false'. Refute it at one input. -/
def formBackWrong : ChangeSpec := { name := "formBack", fn := fun _ => fun
  | [d1, d2] => { results := [.lit (.bool false)], args := [d1, d2] }
  | _ => none }
def FormBackWrongFalsely : Prop := formBackRow.holds Try.pinned (OpenSpec.ofChange formBackWrong)

/- THE SECOND FORM. 'bulk': how many values and letters a reading holds, each counted each time it is reached (what is shared counts as often as it is met; a slice's spare places count too). A statement '..UptoSaid' is the law's where the arguments, and the package variables that the reading takes, are together of bulk at most 1048576: NARROWER than '..Said'. Prove '..Said' where nothing that the law and all that it calls make is longer than what came in: it says more and counts as full. Else prove '..UptoSaid'. A law counts once. -/
mutual
def uptoBulk {H : Type} : DataW H → Nat
  | .lit (.string bytes) => bytes.length + 1
  | .lit _ => 1
  | .nil => 1
  | .ptr d => uptoBulk d + 1
  | .slice elems spare => uptoBulkAll elems + uptoBulkAll spare + 1
  | .agg parts => uptoBulkAll parts + 1
  | .iface _ d => uptoBulk d + 1
  | .map entries => uptoBulkEntries entries + 1
  | .held _ => 1
def uptoBulkAll {H : Type} : List (DataW H) → Nat
  | [] => 0
  | d :: r => uptoBulk d + uptoBulkAll r
def uptoBulkEntries {H : Type} : List (Lit × DataW H) → Nat
  | [] => 0
  | x :: r => uptoBulkEntry x + uptoBulkEntries r
def uptoBulkEntry {H : Type} : Lit × DataW H → Nat
  | (.string bytes, d) => bytes.length + uptoBulk d + 1
  | (_, d) => uptoBulk d + 1
 end
def uptoSmall : (H : Type) → List (DataW H) → Bool := fun _ ds => decide (uptoBulkAll ds ≤ 1048576)
def OpenSpec.upto (s : _root_.Go.ChangeSpec) : _root_.Go.OpenSpec := { _root_.Go.OpenSpec.ofChange s with cond := some uptoSmall }

/-- 'warplaw01.FormLays', WHERE WHAT IT READS IS OF BULK AT MOST 1048576: true; the input reads as it did. -/
def formLaysUptoRow : OpenClaim := { program := "ytpbcjiabglfihaa", sum := "f059c94a5ca0779559e5461e8ef929e6a54bf8dd52243336ece64588145060f3", func := "warp/warplaw01.FormLays", spec := "formLays", apart := false, narrowed := true }
def FormLaysUptoSaid : Prop := formLaysUptoRow.holds Try.pinned (OpenSpec.upto formLaysSpec)

/-- 'warplaw01.FormRises', WHERE WHAT IT READS IS OF BULK AT MOST 1048576: true; the input reads as it did. -/
def formRisesUptoRow : OpenClaim := { program := "ytpbcjiabglfihaa", sum := "f059c94a5ca0779559e5461e8ef929e6a54bf8dd52243336ece64588145060f3", func := "warp/warplaw01.FormRises", spec := "formRises", apart := false, narrowed := true }
def FormRisesUptoSaid : Prop := formRisesUptoRow.holds Try.pinned (OpenSpec.upto formRisesSpec)

/-- 'warplaw01.FormOnly', WHERE WHAT IT READS IS OF BULK AT MOST 1048576: true; the input reads as it did. -/
def formOnlyUptoRow : OpenClaim := { program := "ytpbcjiabglfihaa", sum := "f059c94a5ca0779559e5461e8ef929e6a54bf8dd52243336ece64588145060f3", func := "warp/warplaw01.FormOnly", spec := "formOnly", apart := false, narrowed := true }
def FormOnlyUptoSaid : Prop := formOnlyUptoRow.holds Try.pinned (OpenSpec.upto formOnlySpec)

/-- 'warplaw01.FormNil', WHERE WHAT IT READS IS OF BULK AT MOST 1048576: true; the input reads as it did. -/
def formNilUptoRow : OpenClaim := { program := "ytpbcjiabglfihaa", sum := "f059c94a5ca0779559e5461e8ef929e6a54bf8dd52243336ece64588145060f3", func := "warp/warplaw01.FormNil", spec := "formNil", apart := false, narrowed := true }
def FormNilUptoSaid : Prop := formNilUptoRow.holds Try.pinned (OpenSpec.upto formNilSpec)

/-- 'warplaw01.FormTakes', WHERE WHAT IT READS IS OF BULK AT MOST 1048576: true; the input reads as it did. -/
def formTakesUptoRow : OpenClaim := { program := "ytpbcjiabglfihaa", sum := "f059c94a5ca0779559e5461e8ef929e6a54bf8dd52243336ece64588145060f3", func := "warp/warplaw01.FormTakes", spec := "formTakes", apart := false, narrowed := true }
def FormTakesUptoSaid : Prop := formTakesUptoRow.holds Try.pinned (OpenSpec.upto formTakesSpec)

/-- 'warplaw01.FormBack', WHERE WHAT IT READS IS OF BULK AT MOST 1048576: true; the input reads as it did. -/
def formBackUptoRow : OpenClaim := { program := "ytpbcjiabglfihaa", sum := "f059c94a5ca0779559e5461e8ef929e6a54bf8dd52243336ece64588145060f3", func := "warp/warplaw01.FormBack", spec := "formBack", apart := false, narrowed := true }
def FormBackUptoSaid : Prop := formBackUptoRow.holds Try.pinned (OpenSpec.upto formBackSpec)

end Rows
end Go.Proofs.Ytpbcjiabglfihaa
