/- Proved: the condition of the law WalRow's walk holds of every input of the row. -/
import Derived.Test.YtlhjjjpldmekdaaDoorPWalRowq
namespace Go.Proofs.YtlhjjjpldmekdaaDoor.Pure
open Go.RowKit Go.Proofs.YtlhjjjpldmekdaaDoor.PWg
theorem WalRow : tributarylaw9_WalRow.Pure := by
  intro l0 l1 h0 _ _ _
  unfold tributarylaw9_WalRow.f
  exact if_pos (fun x hx r hr => ⟨(Lit.wf_int_iff .i64 r.f0).1 ((h0.2 x hx).2 r hr).1, (Lit.wf_int_iff .i64 r.f1).1 ((h0.2 x hx).2 r hr).2⟩)
end Go.Proofs.YtlhjjjpldmekdaaDoor.Pure
