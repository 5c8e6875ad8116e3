/- Proved: the condition of the law WireIDs' walk holds of every input of the row. -/
import Derived.Test.YtjcllneibeemgaaDoorPWireIDsq
import Derived.Test.YtjcllneibeemgaaDoorPureWireInts
import Derived.IntWalk
import Derived.OpenShut
import Derived.DataShut
namespace Go.Proofs.YtjcllneibeemgaaDoor.Pure
open Go.RowKit Go.Proofs.YtjcllneibeemgaaDoor.PFn Go.Proofs.YtjcllneibeemgaaDoorW.PrintWords Go.Proofs.YtjcllneibeemgaaDoorW.PrintLast Go.Proofs.YtjcllneibeemgaaDoorW.PrintMore
set_option linter.unusedVariables false
set_option linter.unusedSimpArgs false

theorem WireIDs : tributarylaw1_WireIDs.Pure := by
  intro x0 x1 x2 l1 a2 h0 h1 h2 h3
  unfold tributarylaw1_WireIDs.f
  rw [if_pos ⟨okBytes_of h1 h2, okI_of h0.1, okI_of h0.2.1, okI_of h0.2.2⟩]
end Go.Proofs.YtjcllneibeemgaaDoor.Pure
