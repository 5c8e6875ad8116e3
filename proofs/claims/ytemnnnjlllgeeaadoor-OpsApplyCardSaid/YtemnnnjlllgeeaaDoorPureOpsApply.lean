/- Proved: the condition of the law OpsApply' walk holds of every input of the row. -/
import Derived.Test.YtemnnnjlllgeeaaDoorPOpsApplyq
import Derived.Test.YtemnnnjlllgeeaaDoorOpsPure
import Derived.IntWalk
import Derived.OpenShut
import Derived.DataShut
namespace Go.Proofs.YtemnnnjlllgeeaaDoor.Pure
open Go.RowKit Go.Proofs.YtemnnnjlllgeeaaDoor.POps Go.Proofs.YtemnnnjlllgeeaaDoorW.PrintWords Go.Proofs.YtemnnnjlllgeeaaDoorW.PrintLast Go.Proofs.YtemnnnjlllgeeaaDoorW.PrintMore
set_option linter.unusedVariables false
set_option linter.unusedSimpArgs false

theorem apply_l0 (l1 l2 x y s : List RowT) (hx : x = l1.take 200) (hy : y = l2.take 200) (hs : s.length ≤ 64) (d : Nat) : ∀ (i k : Nat) (z : List RowT), z.length ≤ 64 → i + d = z.length → d + 300 ≤ k →
    tributarylaw3_OpsApply.l0 k l1 l2 x y z s s (i : Int) = some true := by
  have lx : x.length ≤ 200 := by rw [hx, List.length_take]; omega
  have ly : y.length ≤ 200 := by rw [hy, List.length_take]; omega
  have mx : x.length ≤ l1.length := by rw [hx, List.length_take]; omega
  have my : y.length ≤ l2.length := by rw [hy, List.length_take]; omega
  induction d with
  | zero =>
    intro i k z hz hi hk
    obtain ⟨k, rfl⟩ : ∃ e, k = e + 1 := ⟨k - 1, by omega⟩
    rw [tributarylaw3_OpsApply.l0, if_neg (by omega), same_eq _ (by omega) k (by omega)]
    simp only [Option.bind_some]
    have ex : l1.take (x.length : Int).toNat = x := by rw [Int.toNat_natCast, hx, take_back]
    have ey : l2.take (y.length : Int).toNat = y := by rw [Int.toNat_natCast, hy, take_back]
    rw [if_pos trivial, if_pos (by omega), if_pos (by omega), ex, same_eq _ (by omega) k (by omega)]
    simp only [Option.bind_some, if_true]
    rw [if_pos (by omega), if_pos (by omega), ey, same_eq _ (by omega) k (by omega)]
    rfl
  | succ d ih =>
    intro i k z hz hi hk
    obtain ⟨k, rfl⟩ : ∃ e, k = e + 1 := ⟨k - 1, by omega⟩
    have ew : wrap64 ((i : Int) + 1) = ((i + 1 : Nat) : Int) := by unfold wrap64; omega
    rw [tributarylaw3_OpsApply.l0, if_pos (by omega), if_pos (by omega), ew]
    exact ih (i + 1) k _ (by rw [List.length_set]; omega) (by rw [List.length_set]; omega) (by omega)
theorem OpsApply : tributarylaw3_OpsApply.Pure := by
  intro q0 q1 q2 q3 q4 l1 l2 x0 x1 _ _ _ _ _ _
  refine ⟨1000, ?_⟩
  unfold tributarylaw3_OpsApply.f
  rw [few_eq l1 200 (by decide) (by decide), few_eq l2 200 (by decide) (by decide), told_eq 1000 (by decide)]
  simp only [Option.bind_some]
  obtain ⟨x, hx⟩ : ∃ x, x = l1.take (200 : Int).toNat := ⟨_, rfl⟩
  obtain ⟨y, hy⟩ : ∃ x, x = l2.take (200 : Int).toNat := ⟨_, rfl⟩
  have lx : x.length ≤ 200 := by rw [hx, List.length_take]; exact Nat.min_le_left _ _
  have ly : y.length ≤ 200 := by rw [hy, List.length_take]; exact Nat.min_le_left _ _
  rw [← hx, ← hy]
  have ls := appS_len q0 q3 q4 x y
  rw [app_eq _ _ _ _ _ x y (by omega) (by omega) 1000 (by omega), app2_eq _ _ _ _ _ x y (by omega) (by omega) 1000 (by omega)]
  simp only [Option.bind_some, if_true]
  rw [same_eq _ (by omega) 1000 (by omega)]
  simp only [Option.bind_some, if_true]
  rw [one_eq _ _ _ _ _ _ _ 1000 (by decide), one2_eq _ _ _ _ _ _ _ 1000 (by decide)]
  simp only [Option.bind_some]
  have lo := oneS_len q0 q3 q4 ⟨x0, x1⟩
  rw [same_eq _ (by omega) 1000 (by omega)]
  simp only [Option.bind_some]
  rw [show (1000 : Nat) = 999 + 1 from rfl, tributarylaw3_OpsApply.j0, if_neg (by decide)]
  exact apply_l0 l1 l2 x y _ hx hy ls _ 0 999 _ ls (Nat.zero_add _) (by omega)
end Go.Proofs.YtemnnnjlllgeeaaDoor.Pure
