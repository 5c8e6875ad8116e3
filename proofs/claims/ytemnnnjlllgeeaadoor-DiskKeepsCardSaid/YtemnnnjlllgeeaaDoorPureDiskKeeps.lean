/- Proved: the condition of the law DiskKeeps' walk holds of every input of the row. -/
import Derived.Test.YtemnnnjlllgeeaaDoorPDiskKeepsq
namespace Go.Proofs.YtemnnnjlllgeeaaDoor.Pure
open Go.RowKit Go.Proofs.YtemnnnjlllgeeaaDoor.PDsp Go.Proofs.YtemnnnjlllgeeaaDoor.PDsk
theorem DiskKeeps : tributarylaw7_DiskKeeps.Pure := by
  intro l0 h0 _
  unfold tributarylaw7_DiskKeeps.f
  exact if_pos (fun x hx => (Lit.wf_int_iff .i64 _).1 (h0.2 x hx).2.1)
end Go.Proofs.YtemnnnjlllgeeaaDoor.Pure
