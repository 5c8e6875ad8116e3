/- Proved: the condition of the law LogReads' walk holds of every input of the row. -/
import Derived.Test.YtlhjjjpldmekdaaDoorPLogReadsq
namespace Go.Proofs.YtlhjjjpldmekdaaDoor.Pure
open Go.RowKit Go.Proofs.YtlhjjjpldmekdaaDoor.PLg
theorem LogReads : tributarylaw8_LogReads.Pure := by
  intro l0 h0 _
  unfold tributarylaw8_LogReads.f
  exact if_pos (fun x hx y hy => (Lit.wf_int_iff .u8 y).1 ((h0.2 x hx).2 y hy))
end Go.Proofs.YtlhjjjpldmekdaaDoor.Pure
