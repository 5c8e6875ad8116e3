/- Proved: the condition of the law WireForth' walk holds of every input of the row. -/
import Derived.Test.YtjcllneibeemgaaDoorPWireForthq
import Derived.Test.YtjcllneibeemgaaDoorPureWireInts
import Derived.IntWalk
import Derived.OpenShut
import Derived.DataShut
namespace Go.Proofs.YtjcllneibeemgaaDoor.Pure
open Go.RowKit Go.Proofs.YtjcllneibeemgaaDoor.PFn Go.Proofs.YtjcllneibeemgaaDoorW.PrintWords Go.Proofs.YtjcllneibeemgaaDoorW.PrintLast Go.Proofs.YtjcllneibeemgaaDoorW.PrintMore
set_option linter.unusedVariables false
set_option linter.unusedSimpArgs false

theorem WireForth : tributarylaw1_WireForth.Pure := by
  intro l0 a1 h1 h2 h3
  unfold tributarylaw1_WireForth.f
  rw [if_pos (okBytes_of h1 h2)]
end Go.Proofs.YtjcllneibeemgaaDoor.Pure
