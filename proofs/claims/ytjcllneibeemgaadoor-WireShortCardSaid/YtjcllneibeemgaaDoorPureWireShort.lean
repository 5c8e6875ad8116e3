/- Proved: the condition of the law WireShort' walk holds of every input of the row. -/
import Derived.Test.YtjcllneibeemgaaDoorPWireShortq
import Derived.Test.YtjcllneibeemgaaDoorPureWireInts
import Derived.IntWalk
import Derived.OpenShut
import Derived.DataShut
namespace Go.Proofs.YtjcllneibeemgaaDoor.Pure
open Go.RowKit Go.Proofs.YtjcllneibeemgaaDoor.PFn Go.Proofs.YtjcllneibeemgaaDoorW.PrintWords Go.Proofs.YtjcllneibeemgaaDoorW.PrintLast Go.Proofs.YtjcllneibeemgaaDoorW.PrintMore
set_option linter.unusedVariables false
set_option linter.unusedSimpArgs false

theorem okRows_of {l : List RowT} (h : l.length ≤ maxLen ∧ ∀ y ∈ l, Q56 y) (h2 : l.length * 16 ≤ 140737488351232) : okRows l = true := by
  refine okRows_iff.2 ⟨by omega, fun x hx => ?_⟩
  have := h.2 x hx
  exact ⟨okI_of this.1, okI_of this.2⟩
theorem WireShort : tributarylaw1_WireShort.Pure := by
  intro a0 a1 l2 a3 h0 h1 h2 h3 h4
  unfold tributarylaw1_WireShort.f
  rw [if_pos ⟨okI_of h0, okI_of h1, okRows_of h2 h3, okI_of h4⟩]
end Go.Proofs.YtjcllneibeemgaaDoor.Pure
