/- Proved: the condition of the law DiskArms' walk holds of every input of the row. -/
import Derived.Test.YtemnnnjlllgeeaaDoorPDiskArmsq
namespace Go.Proofs.YtemnnnjlllgeeaaDoor.Pure
open Go.Proofs.YtemnnnjlllgeeaaDoor.PDsk
theorem DiskArms : tributarylaw7_DiskArms.Pure := fun _ _ _ _ => rfl
end Go.Proofs.YtemnnnjlllgeeaaDoor.Pure
