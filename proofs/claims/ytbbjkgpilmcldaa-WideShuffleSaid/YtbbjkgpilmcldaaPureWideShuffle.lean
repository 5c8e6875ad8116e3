/- Proved: the pure statement of WideShuffle. -/
import Derived.Test.YtbbjkgpilmcldaaWideK
import Derived.Test.YtbbjkgpilmcldaaPWideShuffleq
namespace Go.Proofs.Ytbbjkgpilmcldaa.Pure
open Go.RowKit Go.Proofs.Ytbbjkgpilmcldaa.PWm Go.Proofs.Ytbbjkgpilmcldaa.Seq Go.Proofs.YtbbjkgpilmcldaaW.PrintWords Go.Proofs.YtbbjkgpilmcldaaW.PrintLast Go.Proofs.YtbbjkgpilmcldaaW.PrintMore
set_option linter.unusedVariables false
set_option linter.unusedSimpArgs false
theorem shuffle_l0 (f of : Nat) (hf : f ≤ 5) (hof : 1 ≤ of) (h4 : of ≤ 4) (X : List (List RowT)) (hX : X.length ≤ 4) (hx : ∀ l ∈ X, l.length ≤ 100) (fx : fits X.flatten) (hm : X.flatten.length ≤ 64) (R : List RowT) (hR : foldF f [] X.flatten = R) (d : Nat) :
    ∀ p : Nat, p + d = of → Ev (fun k => tributarylaw4_WideShuffle.l0 k (f : Int) (of : Int) X X.flatten ((List.range p).map fun q => mergeP R of q) (p : Int)) true := by
  have lR : R.length ≤ 64 := by have := foldF_len f [] X.flatten; rw [hR] at this; omega
  induction d with
  | zero =>
    intro p hp
    obtain rfl : p = of := by omega
    have g := gath_ev ((List.range p).map fun q => mergeP R p q) (by rw [List.length_map, List.length_range]; omega) (fun l hl => by
      obtain ⟨q, _, rfl⟩ := List.mem_map.1 hl
      have := mergeP_len R p q
      omega)
    rw [gath_parts (by rw [← hR]; exact fold_rising f [] _) p hof] at g
    have s := same_ev R R (by omega)
    rw [decide_eq_true rfl] at s
    refine Ev.step (f := fun k => (tributarylaw4_told.f k).bind fun t297 => (if t297 = true then ((tributarylaw4_gathered.f k ((List.range p).map fun q => mergeP R p q)).bind fun t298 => ((tributaryref2_Same.f k t298 R).bind fun t304 => (some t304))) else (some false))) (fun k => ?_) (Ev.bind told_ev (Ev.congr (fun k => if_pos rfl) (Ev.bind g (Ev.bind s (Ev.now true)))))
    simp only [tributarylaw4_WideShuffle.l0]
    rw [if_neg (by omega), reduce_f hf fx, hR]
    rfl
  | succ d ih =>
    intro p hp
    have h1 := ih (p + 1) (by omega)
    rw [List.range_succ, List.map_append, List.map_singleton] at h1
    have m1 := merge_ev X of p hof (by omega) (fun l hl => by have := hx l hl; omega)
    have ef : foldF f [] (mergeP X.flatten of p) = mergeP R of p := by
      have := fold_part f [] X.flatten of p (by simpa using hm)
      rw [hR] at this
      exact this
    have hl : ((List.range p).map fun q => mergeP R of q).length = p := by rw [List.length_map, List.length_range]
    refine Ev.step (f := fun k => (wide_Merge.f k X (p : Int) (of : Int)).bind fun t => (wide_Reduce.f (f : Int) t).bind fun t291 => (if ((List.range p).map fun q => mergeP R of q).length < 5864062014805 then (tributarylaw4_WideShuffle.l0 k (f : Int) (of : Int) X X.flatten (((List.range p).map fun q => mergeP R of q) ++ [t291]) (wrap64 ((p : Int) + 1))) else (none))) (fun k => ?_) (Ev.bind m1 (Ev.congr (fun k => ?_) h1))
    · simp only [tributarylaw4_WideShuffle.l0]
      rw [if_pos (by omega)]
    · rw [reduce_f hf (fits_mergeP fx of p), Option.bind_some, ef, if_pos (by omega), wrap_nat (n := of) (by omega) (by omega)]
theorem WideShuffle : tributarylaw4_WideShuffle.Pure := by
  intro a0 l1 a2 h0 h1 g1 h2
  obtain ⟨f, hf, ef⟩ := fnum a0
  obtain ⟨of, ho1, ho4, eo⟩ := pnum a2
  have tx := laidS_total l1 of ho1 ho4
  have e0 := shuffle_l0 f of hf ho1 ho4 (laidS l1 of) (by rw [laidS_len]; omega) (fun l hl => by have := laidS_each l1 of l hl; omega) (fits_laidS h1.2 of ho1 ho4) (by omega) _ rfl of 0 (by omega)
  have e := Ev.bind (f := fun k bt1 => tributarylaw4_WideShuffle.l0 k (f : Int) (of : Int) bt1.1 bt1.2 ([] : List (List S30)) 0) (laid_ev l1 of ho1 ho4) e0
  obtain ⟨k, hk⟩ := e.rounds
  refine ⟨k, ?_⟩
  unfold tributarylaw4_WideShuffle.f
  rw [ef, eo]
  exact hk
end Go.Proofs.Ytbbjkgpilmcldaa.Pure
