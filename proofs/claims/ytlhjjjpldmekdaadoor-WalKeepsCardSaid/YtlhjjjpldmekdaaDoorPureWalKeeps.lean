/- Proved: the condition of the law WalKeeps' walk holds of every input of the row. -/
import Derived.Test.YtlhjjjpldmekdaaDoorPWalKeepsq
namespace Go.Proofs.YtlhjjjpldmekdaaDoor.Pure
open Go.RowKit Go.Proofs.YtlhjjjpldmekdaaDoor.PWg
theorem WalKeeps : tributarylaw9_WalKeeps.Pure := by
  intro l0 h0 _
  unfold tributarylaw9_WalKeeps.f
  exact if_pos (fun x hx r hr => ⟨(Lit.wf_int_iff .i64 r.f0).1 (((h0.2 x hx).2.2).2 r hr).1, (Lit.wf_int_iff .i64 r.f1).1 (((h0.2 x hx).2.2).2 r hr).2⟩)
end Go.Proofs.YtlhjjjpldmekdaaDoor.Pure
