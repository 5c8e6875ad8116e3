/- Proved: the condition of the law DiskApart's walk holds of every input of the row. -/
import Derived.Test.YtemnnnjlllgeeaaDoorPDiskApartq
namespace Go.Proofs.YtemnnnjlllgeeaaDoor.Pure
open Go.RowKit Go.Proofs.YtemnnnjlllgeeaaDoor.PDsq Go.Proofs.YtemnnnjlllgeeaaDoor.PDsk
theorem DiskApart : tributarylaw7_DiskApart.Pure := by
  intro l0 l1 h0 _ h1 _
  unfold tributarylaw7_DiskApart.f
  exact if_pos ⟨fun x hx => (Lit.wf_int_iff .i64 _).1 (h0.2 x hx).2.1, fun x hx => (Lit.wf_int_iff .i64 _).1 (h1.2 x hx).2.1⟩
end Go.Proofs.YtemnnnjlllgeeaaDoor.Pure
