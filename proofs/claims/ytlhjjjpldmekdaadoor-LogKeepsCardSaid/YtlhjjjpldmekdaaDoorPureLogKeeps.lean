/- Proved: the condition of the law LogKeeps' walk holds of every input of the row. -/
import Derived.Test.YtlhjjjpldmekdaaDoorPLogKeepsq
namespace Go.Proofs.YtlhjjjpldmekdaaDoor.Pure
open Go.RowKit Go.Proofs.YtlhjjjpldmekdaaDoor.PLg
theorem LogKeeps : tributarylaw8_LogKeeps.Pure := by
  intro l0 h0 _
  unfold tributarylaw8_LogKeeps.f
  refine if_pos (fun x hx y hy => ?_)
  have := (Lit.wf_int_iff .u8 y).1 ((h0.2 x hx).2.2.2 y hy)
  exact this
end Go.Proofs.YtlhjjjpldmekdaaDoor.Pure
