/- Proved: the condition of the law OpsRight' walk holds of every input of the row. -/
import Derived.Test.YtemnnnjlllgeeaaDoorPOpsRightq
import Derived.Test.YtemnnnjlllgeeaaDoorOpsPure
import Derived.IntWalk
import Derived.OpenShut
import Derived.DataShut
namespace Go.Proofs.YtemnnnjlllgeeaaDoor.Pure
open Go.RowKit Go.Proofs.YtemnnnjlllgeeaaDoor.POps Go.Proofs.YtemnnnjlllgeeaaDoorW.PrintWords Go.Proofs.YtemnnnjlllgeeaaDoorW.PrintLast Go.Proofs.YtemnnnjlllgeeaaDoorW.PrintMore
set_option linter.unusedVariables false
set_option linter.unusedSimpArgs false

theorem OpsRight : tributarylaw3_OpsRight.Pure := fun _ _ _ _ _ _ => rfl
end Go.Proofs.YtemnnnjlllgeeaaDoor.Pure
