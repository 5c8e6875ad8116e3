/- Proved: the condition of the law LogPlays' walk holds of every input of the row. -/
import Derived.Test.YtlhjjjpldmekdaaDoorPLogPlaysq
namespace Go.Proofs.YtlhjjjpldmekdaaDoor.Pure
open Go.RowKit Go.Proofs.YtlhjjjpldmekdaaDoor.PLg
theorem LogPlays : tributarylaw8_LogPlays.Pure := by
  intro a0 l1 _ h1 _
  unfold tributarylaw8_LogPlays.f
  exact if_pos (fun x hx y hy => (Lit.wf_int_iff .u8 y).1 ((h1.2 x hx).2.2.2 y hy))
end Go.Proofs.YtlhjjjpldmekdaaDoor.Pure
