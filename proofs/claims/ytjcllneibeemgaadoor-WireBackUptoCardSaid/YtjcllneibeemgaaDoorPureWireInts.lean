/- Proved: the condition of the law WireInts' walk holds of every input of the row. -/
import Derived.Test.YtjcllneibeemgaaDoorPWireIntsq
import Derived.IntWalk
import Derived.OpenShut
import Derived.DataShut
namespace Go.Proofs.YtjcllneibeemgaaDoor.Pure
open Go.RowKit Go.Proofs.YtjcllneibeemgaaDoor.PFn Go.Proofs.YtjcllneibeemgaaDoorW.PrintWords Go.Proofs.YtjcllneibeemgaaDoorW.PrintLast Go.Proofs.YtjcllneibeemgaaDoorW.PrintMore
set_option linter.unusedVariables false
set_option linter.unusedSimpArgs false

theorem okI_of {n : Int} (h : (Lit.int .i64 n).wf = true) : okI n := by
  have h : -9223372036854775808 ≤ n ∧ n ≤ 9223372036854775807 := (Lit.wf_int_iff .i64 n).1 h
  unfold okI; omega
theorem okBytes_of {l : List Int} (h : l.length ≤ maxLen ∧ ∀ y ∈ l, (Lit.int .u8 y).wf = true) (h2 : l.length * 1 ≤ 140737488351232) : okBytes l = true := by
  refine okBytes_iff.2 ⟨by omega, fun x hx => ?_⟩
  have h : 0 ≤ x ∧ x ≤ 255 := (Lit.wf_int_iff .u8 x).1 (h.2 x hx)
  omega
theorem WireInts : tributarylaw1_WireInts.Pure := by
  intro a0 l1 a2 h0 h1 h2 h3
  unfold tributarylaw1_WireInts.f
  rw [if_pos ⟨okBytes_of h1 h2, decide_eq_true (by omega), okI_of h0⟩]
end Go.Proofs.YtjcllneibeemgaaDoor.Pure
