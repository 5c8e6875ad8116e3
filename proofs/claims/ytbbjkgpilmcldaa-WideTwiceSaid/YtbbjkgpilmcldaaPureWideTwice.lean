/- Proved: the pure statement of WideTwice. -/
import Derived.Test.YtbbjkgpilmcldaaWideB
import Derived.Test.YtbbjkgpilmcldaaPWideTwiceq
namespace Go.Proofs.Ytbbjkgpilmcldaa.Pure
open Go.RowKit Go.Proofs.Ytbbjkgpilmcldaa.PWi Go.Proofs.Ytbbjkgpilmcldaa.Seq Go.Proofs.YtbbjkgpilmcldaaW.PrintWords Go.Proofs.YtbbjkgpilmcldaaW.PrintLast Go.Proofs.YtbbjkgpilmcldaaW.PrintMore
set_option linter.unusedVariables false
theorem WideTwice : tributarylaw4_WideTwice.Pure := by
  intro a0 l1 l2 l3 ha h1 g1 h2 g2 h3 g3
  obtain ⟨f, hf, ef⟩ := fnum a0
  obtain ⟨s, hs⟩ : ∃ s, l1.take 20 = s := ⟨_, rfl⟩
  obtain ⟨a, ha⟩ : ∃ a, l2.take 20 = a := ⟨_, rfl⟩
  obtain ⟨b, hb⟩ : ∃ b, l3.take 20 = b := ⟨_, rfl⟩
  have fs : fits s := hs ▸ fits_take h1.2 20 (by omega)
  have fa : fits a := ha ▸ fits_take h2.2 20 (by omega)
  have fb : fits b := hb ▸ fits_take h3.2 20 (by omega)
  have ls : s.length ≤ 20 := by rw [← hs, List.length_take]; omega
  have la : a.length ≤ 20 := by rw [← ha, List.length_take]; omega
  have lb : b.length ≤ 20 := by rw [← hb, List.length_take]; omega
  have n1 : tributarylaw4_few.f l1 20 = some s := by rw [few4_f l1 20 (by omega) (by omega), ← hs]; rfl
  have n2 : tributarylaw4_few.f l2 20 = some a := by rw [few4_f l2 20 (by omega) (by omega), ← ha]; rfl
  have n3 : tributarylaw4_few.f l3 20 = some b := by rw [few4_f l3 20 (by omega) (by omega), ← hb]; rfl
  have fab : fits (a ++ b) := fits_app fa fb (by omega)
  have hx := foldF_len f [] s
  have fx : fits (foldF f [] s) := fits_fold fits_nil fs
  have f1 : fits (foldF f (foldF f [] s) a) := fits_fold fx fa
  have htw : foldF f (foldF f (foldF f [] s) a) b = foldF f (foldF f [] s) (a ++ b) := foldF_twice f _ a b (by simp only [List.length_nil] at hx; omega)
  have lx := foldF_len f (foldF f [] s) (a ++ b)
  have ly := foldF_len f [] (a ++ b)
  obtain ⟨K1, s1⟩ := same_ev (foldF f (foldF f (foldF f [] s) a) b) (foldF f (foldF f [] s) (a ++ b)) (by rw [htw]; omega)
  obtain ⟨K2, s2⟩ := same_ev (foldF f [] (a ++ b)) (foldF f [] (a ++ b)) (by omega)
  obtain ⟨K3, s3⟩ := told_ev
  rw [decide_eq_true htw] at s1
  rw [decide_eq_true rfl] at s2
  dsimp only at s1 s2 s3
  refine ⟨K1 + K2 + K3, ?_⟩
  unfold tributarylaw4_WideTwice.f
  rw [ef, n1, Option.bind_some, fold_f hf fits_nil fs, Option.bind_some, n2, Option.bind_some, fold_f hf fx fa, Option.bind_some, n3, Option.bind_some, fold_f hf f1 fb, Option.bind_some, Option.bind_some, Option.bind_some, if_pos (by omega), Option.bind_some, s3 _ (by omega), Option.bind_some, if_pos rfl, fold_f hf fx fab, Option.bind_some, s1 _ (by omega), Option.bind_some, if_pos rfl, fold_f hf fits_nil fab, Option.bind_some, reduce_f hf fab, Option.bind_some, s2 _ (by omega), Option.bind_some]
end Go.Proofs.Ytbbjkgpilmcldaa.Pure
