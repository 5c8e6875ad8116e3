/- Proved: the condition of the law DiskPlays' walk holds of every input of the row. -/
import Derived.Test.YtemnnnjlllgeeaaDoorPDiskPlaysq
namespace Go.Proofs.YtemnnnjlllgeeaaDoor.Pure
open Go.RowKit Go.Proofs.YtemnnnjlllgeeaaDoor.PDsp
theorem DiskPlays : tributarylaw7_DiskPlays.Pure := by
  intro a0 l0 _ h0 _
  unfold tributarylaw7_DiskPlays.f
  exact if_pos (fun x hx => (Lit.wf_int_iff .i64 _).1 (h0.2 x hx).2.1)
end Go.Proofs.YtemnnnjlllgeeaaDoor.Pure
