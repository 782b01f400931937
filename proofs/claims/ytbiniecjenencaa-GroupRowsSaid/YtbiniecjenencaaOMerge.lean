/- Two lists of rows as one. -/
import Derived.Test.YtbiniecjenencaaOConcat
import Derived.Test.YtbiniecjenencaaOSort
import Derived.Test.YtbiniecjenencaaMrgP
import Derived.Test.YtbiniecjenencaaCutR
set_option linter.unusedVariables false
set_option linter.unusedSimpArgs false
set_option maxRecDepth 10000
namespace Go.Proofs.Ytbiniecjenencaa
open Go.RowKit
theorem Own2.up {w w1 w2 : World} {g : Nat} {rs : List Rw} (o : Own2 w1 w2 g rs) (hb : Below w.heap.size w w1) : Own2 w w2 g rs :=
  ⟨o.at_, Nat.le_trans hb.size o.ge, hb.next o.below, fun r hr => ⟨(o.ok r hr).1, fun a ha => ⟨Nat.le_trans hb.size ((o.ok r hr).2 a ha).1, ((o.ok r hr).2 a ha).2⟩⟩, o.fz⟩
end Go.Proofs.Ytbiniecjenencaa
