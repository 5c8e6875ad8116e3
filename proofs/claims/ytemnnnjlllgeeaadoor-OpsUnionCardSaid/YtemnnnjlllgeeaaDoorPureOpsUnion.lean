/- Proved: the condition of the law OpsUnion' walk holds of every input of the row. -/
import Derived.Test.YtemnnnjlllgeeaaDoorPOpsUnionq
import Derived.Test.YtemnnnjlllgeeaaDoorOpsPure
import Derived.IntWalk
import Derived.OpenShut
import Derived.DataShut
namespace Go.Proofs.YtemnnnjlllgeeaaDoor.Pure
open Go.RowKit Go.Proofs.YtemnnnjlllgeeaaDoor.POps Go.Proofs.YtemnnnjlllgeeaaDoorW.PrintWords Go.Proofs.YtemnnnjlllgeeaaDoorW.PrintLast Go.Proofs.YtemnnnjlllgeeaaDoorW.PrintMore
set_option linter.unusedVariables false
set_option linter.unusedSimpArgs false

theorem OpsUnion : tributarylaw3_OpsUnion.Pure := by
  intro l0 l1 l2 _ _ _ _ _ _
  refine ⟨400, ?_⟩
  unfold tributarylaw3_OpsUnion.f
  rw [few_eq l0 90 (by decide) (by decide), few_eq l1 90 (by decide) (by decide), few_eq l2 90 (by decide) (by decide), told_eq 400 (by decide)]
  simp only [Option.bind_some, if_true]
  obtain ⟨x, hx⟩ : ∃ x, x = l0.take (90 : Int).toNat := ⟨_, rfl⟩
  obtain ⟨y, hy⟩ : ∃ x, x = l1.take (90 : Int).toNat := ⟨_, rfl⟩
  obtain ⟨z, hz⟩ : ∃ x, x = l2.take (90 : Int).toNat := ⟨_, rfl⟩
  have lx : x.length ≤ 90 := by rw [hx, List.length_take]; exact Nat.min_le_left _ _
  have ly : y.length ≤ 90 := by rw [hy, List.length_take]; exact Nat.min_le_left _ _
  have lz : z.length ≤ 90 := by rw [hz, List.length_take]; exact Nat.min_le_left _ _
  rw [← hx, ← hy, ← hz]
  have e : ∀ a b : List RowT, appS 5 0 0 a b = (a ++ b).take 64 := by
    intro a b; unfold appS; rw [if_neg (by decide), if_pos rfl]
  have l1' := appS_len 5 0 0 x y
  have l2' := appS_len 5 0 0 y z
  rw [app_eq _ _ _ _ _ x y (by omega) (by omega) 400 (by omega)]
  simp only [Option.bind_some]
  rw [app_eq _ _ _ _ _ _ z (by omega) (by omega) 400 (by omega)]
  simp only [Option.bind_some]
  rw [app_eq _ _ _ _ _ y z (by omega) (by omega) 400 (by omega)]
  simp only [Option.bind_some]
  rw [app_eq _ _ _ _ _ x _ (by omega) (by omega) 400 (by omega)]
  simp only [Option.bind_some]
  have l3 := appS_len 5 0 0 x (appS 5 0 0 y z)
  have e3 : appS 5 0 0 (appS 5 0 0 x y) z = appS 5 0 0 x (appS 5 0 0 y z) := by
    rw [e, e, e, e, take_app_l, take_app_r, List.append_assoc]
  rw [e3, same_eq _ (by omega) 400 (by omega)]
  rfl
end Go.Proofs.YtemnnnjlllgeeaaDoor.Pure
