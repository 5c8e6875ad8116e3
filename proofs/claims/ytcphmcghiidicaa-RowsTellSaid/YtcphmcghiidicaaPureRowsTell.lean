/- Proved: the pure statement of RowsTell. -/
import Derived.Test.YtcphmcghiidicaaRowsTell
import Derived.Test.YtcphmcghiidicaaPRowsTellq
namespace Go.Proofs.Ytcphmcghiidicaa.Pure
open Go.RowKit Go.Proofs.Ytcphmcghiidicaa.PRw
theorem RowsTell : tributarylaw2_RowsTell.Pure := by
  intro l0 l1 a2 x0 x1 x2 y0 y1 y2 h0 g0 h1 g1
  have e0 := h0.1
  have e1 := h1.1
  unfold maxLen at e0 e1
  intros
  unfold tributarylaw2_RowsTell.f
  rw [if_pos ⟨by omega, by omega⟩]
end Go.Proofs.Ytcphmcghiidicaa.Pure
