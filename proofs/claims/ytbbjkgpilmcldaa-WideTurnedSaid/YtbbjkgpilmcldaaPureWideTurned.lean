/- Proved: the pure statement of WideTurned. -/
import Derived.Test.YtbbjkgpilmcldaaWideTurned
import Derived.Test.YtbbjkgpilmcldaaPWideTurnedq
namespace Go.Proofs.Ytbbjkgpilmcldaa.Pure
open Go.RowKit Go.Proofs.Ytbbjkgpilmcldaa.PWt Go.Proofs.Ytbbjkgpilmcldaa.Seq Go.Proofs.YtbbjkgpilmcldaaW.PrintWords Go.Proofs.YtbbjkgpilmcldaaW.PrintLast Go.Proofs.YtbbjkgpilmcldaaW.PrintMore
theorem WideTurned : tributarylaw4_WideTurned.Pure := by
  intro l0 l1 h0 g0 h1 g1
  unfold tributarylaw4_WideTurned.f
  rw [if_pos ⟨fits_take h0.2 8 (by omega), fits_take h1.2 8 (by omega)⟩]
end Go.Proofs.Ytbbjkgpilmcldaa.Pure
