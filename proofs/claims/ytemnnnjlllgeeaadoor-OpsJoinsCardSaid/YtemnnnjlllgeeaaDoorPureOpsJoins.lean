/- Proved: the condition of the law OpsJoins' walk holds of every input of the row. -/
import Derived.Test.YtemnnnjlllgeeaaDoorPOpsJoinsq
import Derived.Test.YtemnnnjlllgeeaaDoorOpsPure
import Derived.IntWalk
import Derived.OpenShut
import Derived.DataShut
namespace Go.Proofs.YtemnnnjlllgeeaaDoor.Pure
open Go.RowKit Go.Proofs.YtemnnnjlllgeeaaDoor.POps Go.Proofs.YtemnnnjlllgeeaaDoorW.PrintWords Go.Proofs.YtemnnnjlllgeeaaDoorW.PrintLast Go.Proofs.YtemnnnjlllgeeaaDoorW.PrintMore
set_option linter.unusedVariables false
set_option linter.unusedSimpArgs false

theorem joins_j2 (s1 s2 s3 w v : List RowT) (h1 : s1 = w.take 64) (h2 : s2 = v.take 64) (h3 : s3 = (w ++ v).take 64) (hw : w.length ≤ 1000000) (k : Nat) (hk : 200 ≤ k) : tributarylaw3_OpsJoins.j2 k s1 s2 s3 w true = some true := by
  obtain ⟨k, rfl⟩ : ∃ e, k = e + 1 := ⟨k - 1, by omega⟩
  have n1 : s1.length ≤ 64 := by rw [h1, List.length_take]; omega
  have n2 : s2.length ≤ 64 := by rw [h2, List.length_take]; omega
  have n3 : s3.length ≤ 64 := by rw [h3, List.length_take]; omega
  obtain ⟨a1, a2, a3⟩ := take_mn w _ rfl
  rw [tributarylaw3_OpsJoins.j2, if_pos rfl, if_pos a1, if_pos a2, a3, ← h1, same_eq _ (by omega) k (by omega), Option.bind_some, if_pos rfl]
  by_cases h : (w.length : Int) ≤ 64
  · have ew : wrap64 ((w.length : Int) + (s2.length : Int)) = ((w ++ s2).length : Int) := by rw [List.length_append]; unfold wrap64; omega
    obtain ⟨b1, b2, b3⟩ := take_mn (w ++ s2) _ ew
    have e3 : (w ++ s2).take 64 = s3 := by rw [h2, h3, take_app_r]
    rw [if_pos h, if_pos (by omega), Option.bind_some, if_pos b1, if_pos b2, b3, e3, same_eq _ (by omega) k (by omega), Option.bind_some, if_pos rfl, told_eq k (by omega), Option.bind_some, if_pos rfl, decide_eq_true (by omega)]
  · rw [if_neg h, told_eq k (by omega), Option.bind_some, if_pos rfl, decide_eq_true (by omega)]
theorem joins_j2n (w s2 : List RowT) (k : Nat) (hk : 200 ≤ k) : tributarylaw3_OpsJoins.j2 k [] s2 [] w false = some true := by
  obtain ⟨k, rfl⟩ : ∃ e, k = e + 1 := ⟨k - 1, by omega⟩
  rw [tributarylaw3_OpsJoins.j2, if_neg (by decide), if_neg (by decide), if_neg (by decide), told_eq k (by omega)]
  rfl
theorem joins_l0 (q0 q1 q2 q3 q4 : Int) (h5 : q0 ≠ 5) (x y : List RowT) (hx : x.length ≤ 80) (d : Nat) : ∀ (i k : Nat) (w : List RowT), i + d = x.length → w.length ≤ 4 * i → w ++ (x.drop i).flatMap (oneS q0 q3 q4) = x.flatMap (oneS q0 q3 q4) → d + 300 ≤ k →
    tributarylaw3_OpsJoins.l0 k x (appS q0 q3 q4 x []) (appS q0 q3 q4 y []) (appS q0 q3 q4 (x ++ y) []) w (i : Int) q0 q1 q2 q3 q4 = some true := by
  induction d with
  | zero =>
    intro i k w hi hw he hk
    obtain ⟨k, rfl⟩ : ∃ e, k = e + 1 := ⟨k - 1, by omega⟩
    rw [List.drop_of_length_le (by omega), List.flatMap_nil, List.append_nil] at he
    rw [tributarylaw3_OpsJoins.l0, if_neg (by omega), narrow_f]
    unfold ops_Right.f
    simp only [Option.bind_some]
    unfold appS badS
    rw [if_neg h5, if_neg h5, if_neg h5]
    by_cases hn : narrowS q0 = true
    · rw [if_pos hn, hn]
      by_cases hq : wrong q0 q3 q4 = none
      · rw [if_pos (wrongQ_none.2 hq), hq, if_neg (by simp), if_neg (by simp), if_neg (by simp)]
        exact joins_j2 _ _ _ w (y.flatMap (oneS q0 q3 q4)) (by rw [he]) rfl (by rw [he, List.flatMap_append]) (by omega) k (by omega)
      · rw [if_neg (fun h => hq (wrongQ_none.1 h)), Option.isSome_iff_ne_none.2 hq, Bool.true_or, if_pos rfl, if_pos rfl, if_pos rfl]
        exact joins_j2n _ _ k (by omega)
    · rw [if_neg hn, Bool.eq_false_iff.2 hn, Bool.not_false, Bool.or_true, if_pos rfl, if_pos rfl, if_pos rfl]
      exact joins_j2n _ _ k (by omega)
  | succ d ih =>
    intro i k w hi hw he hk
    obtain ⟨k, rfl⟩ : ∃ e, k = e + 1 := ⟨k - 1, by omega⟩
    have ew : wrap64 ((i : Int) + 1) = ((i + 1 : Nat) : Int) := by unfold wrap64; omega
    have hn := oneS_len q0 q3 q4 (rd_T62 x i)
    rw [tributarylaw3_OpsJoins.l0, if_pos (by omega), if_pos (by omega), one_eq _ _ _ _ _ _ _ k (by omega), rowEta]
    simp only [Option.bind_some]
    rw [if_pos (by omega), ew]
    refine ih (i + 1) k _ (by omega) (by rw [List.length_append]; omega) ?_ (by omega)
    rw [← he, rd_cons x i (by omega), List.flatMap_cons, List.append_assoc]
theorem joins_j0 (q0 q1 q2 q3 q4 : Int) (h5 : q0 ≠ 5) (x y : List RowT) (hx : x.length ≤ 80) (hy : y.length ≤ 80) : tributarylaw3_OpsJoins.j0 1000 x y q0 q1 q2 q3 q4 = some true := by
  rw [show (1000 : Nat) = 999 + 1 from rfl, tributarylaw3_OpsJoins.j0, app_eq _ _ _ _ _ x [] (by omega) (by simp) 999 (by omega), app_eq _ _ _ _ _ y [] (by omega) (by simp) 999 (by omega), few_eq x 80 (by decide) (by decide), show x.take (80 : Int).toNat = x from List.take_of_length_le hx]
  simp only [Option.bind_some]
  rw [if_pos (by omega), app_eq _ _ _ _ _ (x ++ y) [] (by rw [List.length_append]; omega) (by simp) 999 (by rw [List.length_append]; omega)]
  simp only [Option.bind_some]
  exact joins_l0 q0 q1 q2 q3 q4 h5 x y hx x.length 0 999 [] (by omega) (by simp) (by simp) (by omega)
theorem OpsJoins : tributarylaw3_OpsJoins.Pure := by
  intro q0 q1 q2 q3 q4 l1 l2 _ _ _ _ _
  refine ⟨1000, ?_⟩
  unfold tributarylaw3_OpsJoins.f
  rw [few_eq l1 80 (by decide) (by decide), few_eq l2 80 (by decide) (by decide)]
  simp only [Option.bind_some]
  have lx : (l1.take (80 : Int).toNat).length ≤ 80 := by rw [List.length_take]; exact Nat.min_le_left _ _
  have ly : (l2.take (80 : Int).toNat).length ≤ 80 := by rw [List.length_take]; exact Nat.min_le_left _ _
  by_cases h5 : q0 = 5
  · rw [if_pos h5]; exact joins_j0 2 q1 q2 q3 q4 (by decide) _ _ lx ly
  · rw [if_neg h5]; exact joins_j0 q0 q1 q2 q3 q4 h5 _ _ lx ly
end Go.Proofs.YtemnnnjlllgeeaaDoor.Pure
