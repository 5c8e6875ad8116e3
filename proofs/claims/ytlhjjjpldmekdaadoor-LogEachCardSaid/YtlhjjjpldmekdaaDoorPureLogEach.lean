/- Proved: the condition of the law LogEach' walk holds of every input of the row. -/
import Derived.Test.YtlhjjjpldmekdaaDoorPLogEachq
namespace Go.Proofs.YtlhjjjpldmekdaaDoor.Pure
open Go.RowKit Go.Proofs.YtlhjjjpldmekdaaDoor.PLg
theorem LogEach : tributarylaw8_LogEach.Pure := by
  intro l0 a1 l2 h0 _ _ h2 _
  unfold tributarylaw8_LogEach.f
  exact if_pos ⟨fun x hx y hy => (Lit.wf_int_iff .u8 y).1 ((h0.2 x hx).2 y hy), fun y hy => (Lit.wf_int_iff .u8 y).1 (h2.2 y hy)⟩
end Go.Proofs.YtlhjjjpldmekdaaDoor.Pure
