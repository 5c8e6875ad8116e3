/- Proved: the order of pieces is a total one; no condition. -/
import Derived.Test.YtjcllneibeemgaaPRowsBeforeq
import Derived.IntWalk
import Derived.OpenShut
namespace Go.Proofs.Ytjcllneibeemgaa.Pure
open Go.RowKit Go.Proofs.Ytjcllneibeemgaa.PRowsBefore Go.Proofs.YtjcllneibeemgaaW.PrintWords Go.Proofs.YtjcllneibeemgaaW.PrintLast Go.Proofs.YtjcllneibeemgaaW.PrintMore
set_option linter.unusedVariables false

theorem before_f (a b c x y z : Int) : rows_Before.f a b c x y z = some (if a = x then (if b = y then decide (c < z) else decide (b < y)) else decide (a < x)) := by
  unfold rows_Before.f
  split
  · split <;> rfl
  · rfl

theorem told_f : tributarylaw2_told.f 2 = some true := by decide +kernel

theorem RowsBefore : tributarylaw2_RowsBefore.Pure := by
  intro a b c x y z u v w _ _ _
  refine ⟨2, ?_⟩
  unfold tributarylaw2_RowsBefore.f
  simp only [before_f, told_f, Option.bind_some, if_true, tributarylaw2_RowsBefore.j0]
  by_cases h1 : a = x <;> by_cases h2 : b = y <;> by_cases h3 : c = z <;> grind

end Go.Proofs.Ytjcllneibeemgaa.Pure
