/- Proved: the condition of the law LogAgain's walk holds of every input of the row. -/
import Derived.Test.YtlhjjjpldmekdaaDoorPLogAgainq
namespace Go.Proofs.YtlhjjjpldmekdaaDoor.Pure
open Go.RowKit Go.Proofs.YtlhjjjpldmekdaaDoor.PLg
theorem LogAgain : tributarylaw8_LogAgain.Pure := by
  intro l0 l1 h0 _ _ _
  unfold tributarylaw8_LogAgain.f
  exact if_pos (fun x hx y hy => (Lit.wf_int_iff .u8 y).1 ((h0.2 x hx).2 y hy))
end Go.Proofs.YtlhjjjpldmekdaaDoor.Pure
