/- Proved: the pure statement of WideAgain. -/
import Derived.Test.YtbbjkgpilmcldaaWideB
import Derived.Test.YtbbjkgpilmcldaaPWideAgainq
namespace Go.Proofs.Ytbbjkgpilmcldaa.Pure
open Go.RowKit Go.Proofs.Ytbbjkgpilmcldaa.PWi Go.Proofs.Ytbbjkgpilmcldaa.Seq Go.Proofs.YtbbjkgpilmcldaaW.PrintWords Go.Proofs.YtbbjkgpilmcldaaW.PrintLast Go.Proofs.YtbbjkgpilmcldaaW.PrintMore
set_option linter.unusedVariables false
set_option linter.unusedSimpArgs false
theorem rep_keys (ks : List Int) (g : Int → Int) (h : ks.Pairwise (· < ·)) : keysS (ks.map fun k => (⟨k, g k⟩ : RowT)) = ks :=
  keysS_eq h (fun k => by rw [has_map]; simp)
theorem rep_fold (f : Nat) (hf : f ≠ 3) (ks : List Int) (g : Int → Int) (h : ks.Pairwise (· < ·)) (hl : ks.length ≤ 64) : foldF f [] (ks.map fun k => (⟨k, g k⟩ : RowT)) = ks.map fun k => (⟨k, g k⟩ : RowT) := by
  rw [foldF_map, List.nil_append, rep_keys ks g h, List.take_of_length_le hl]
  refine List.map_congr_left (fun k hk => ?_)
  refine congrArg (PFn.S30.mk k) ?_
  unfold valF
  rw [vals_map ks g (h.imp (fun h => by omega)), if_pos hk]
  show (stepV f (0, false) (g k)).1 = g k
  unfold stepV
  simp [firstV, hf]
theorem rep_on (f : Nat) (ks : List Int) (g : Int → Int) (h : ks.Pairwise (· < ·)) (hl : ks.length ≤ 64) : foldF f (ks.map fun k => (⟨k, g k⟩ : RowT)) [] = ks.map fun k => (⟨k, g k⟩ : RowT) := by
  rw [foldF_map, List.append_nil, rep_keys ks g h, List.take_of_length_le hl]
  refine List.map_congr_left (fun k hk => ?_)
  refine congrArg (PFn.S30.mk k) ?_
  show lastV _ k = g k
  unfold lastV
  rw [vals_map ks g (h.imp (fun h => by omega)), if_pos hk]
  rfl
theorem again_l0 (x : List RowT) (hx : fits x) (d : Nat) : ∀ f : Nat, f + d = 6 → Ev (fun k => tributarylaw4_WideAgain.l0 k x (f : Int)) true := by
  induction d with
  | zero =>
    intro f hf
    refine Ev.step (f := fun k => (tributarylaw4_told.f k).bind fun t => some t) (fun k => ?_) (Ev.bind told_ev (Ev.now true))
    simp only [tributarylaw4_WideAgain.l0]
    rw [if_neg (by omega)]
  | succ d ih =>
    intro f hf
    have h1 := ih (f + 1) (by omega)
    by_cases h3 : f = 3
    · refine Ev.step (fun k => ?_) h1
      simp only [tributarylaw4_WideAgain.l0]
      rw [if_pos (by omega), if_pos (by omega), wrap_nat (n := 6) (by omega) (by omega)]
    · have hks : ((keysS x).take 64).Pairwise (· < ·) := (keysS_lt x).take
      have hkl : ((keysS x).take 64).length ≤ 64 := by rw [List.length_take]; omega
      have e1 : foldF f [] (foldF f [] x) = foldF f [] x := by
        rw [foldF_map f [] x, List.nil_append]
        exact rep_fold f h3 _ _ hks hkl
      have e2 : foldF f (foldF f [] x) [] = foldF f [] x := by
        rw [foldF_map f [] x, List.nil_append]
        exact rep_on f _ _ hks hkl
      have fr : fits (foldF f [] x) := fits_fold fits_nil hx
      have lr := foldF_len f [] x
      have s := same_ev (foldF f [] x) (foldF f [] x) (by omega)
      rw [decide_eq_true rfl] at s
      obtain ⟨r, hr⟩ : ∃ r, foldF f [] x = r := ⟨_, rfl⟩
      rw [hr] at e1 e2 fr lr s
      refine Ev.step (f := fun k => (tributaryref2_Same.f k r r).bind fun t262 => (if t262 = true then ((tributaryref2_Same.f k r r).bind fun t266 => (if t266 = true then ((tributaryref2_Same.f k r r).bind fun t270 => (if t270 = true then (tributarylaw4_WideAgain.l0 k x ((f + 1 : Nat) : Int)) else (some false))) else (some false))) else (some false))) (fun k => ?_) (Ev.bind s (Ev.congr (fun k => if_pos rfl) (Ev.bind s (Ev.congr (fun k => if_pos rfl) (Ev.bind s (Ev.congr (fun k => if_pos rfl) h1))))))
      simp only [tributarylaw4_WideAgain.l0]
      rw [if_pos (by omega), if_neg (by omega), reduce_f (by omega) hx, Option.bind_some, hr, reduce_f (by omega) fr, Option.bind_some, e1, fold_f (by omega) fr fits_nil, Option.bind_some, e2, fold_f (by omega) fits_nil fr, Option.bind_some, e1, wrap_nat (n := 6) (by omega) (by omega)]
theorem WideAgain : tributarylaw4_WideAgain.Pure := by
  intro l0 h0 g0
  have fx : fits (l0.take 100) := fits_take h0.2 100 (by omega)
  obtain ⟨k, hk⟩ := (again_l0 _ fx 6 0 (by omega)).rounds
  refine ⟨k, ?_⟩
  unfold tributarylaw4_WideAgain.f
  rw [few4_f l0 100 (by omega) (by omega), Option.bind_some]
  exact hk
end Go.Proofs.Ytbbjkgpilmcldaa.Pure
