/- Proved: the pure statement of RowsGroups. -/
import Derived.Test.YtbbjkgpilmcldaaRowsGroups
import Derived.Test.YtbbjkgpilmcldaaPRowsGroupsq
namespace Go.Proofs.Ytbbjkgpilmcldaa.Pure
open Go.RowKit Go.Proofs.Ytbbjkgpilmcldaa.PRg
theorem RowsGroups : tributarylaw2_RowsGroups.Pure := by
  intro l0 a1 h0 g0 h1
  have e0 := h0.1
  unfold maxLen at e0
  unfold tributarylaw2_RowsGroups.f
  rw [if_pos ⟨by omega, fun r hr => h0.2 r hr⟩]
end Go.Proofs.Ytbbjkgpilmcldaa.Pure
