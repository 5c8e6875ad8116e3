/- Proved: the pure statement of RowsSplits. -/
import Derived.Test.YtcphmcghiidicaaRowsSplits
import Derived.Test.YtcphmcghiidicaaPRowsSplitsq
namespace Go.Proofs.Ytcphmcghiidicaa.Pure
open Go.RowKit Go.Proofs.Ytcphmcghiidicaa.PRw
theorem RowsSplits : tributarylaw2_RowsSplits.Pure := by
  intro l0 l1 a2 h0 g0 h1 g1 h2
  have e0 := h0.1
  have e1 := h1.1
  unfold maxLen at e0 e1
  unfold tributarylaw2_RowsSplits.f
  rw [if_pos ⟨by omega, by omega⟩]
end Go.Proofs.Ytcphmcghiidicaa.Pure
