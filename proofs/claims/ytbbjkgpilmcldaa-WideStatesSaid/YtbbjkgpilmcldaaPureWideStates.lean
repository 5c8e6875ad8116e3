/- Proved: the pure statement of WideStates. -/
import Derived.Test.YtbbjkgpilmcldaaWideK
import Derived.Test.YtbbjkgpilmcldaaPWideStatesq
namespace Go.Proofs.Ytbbjkgpilmcldaa.Pure
open Go.RowKit Go.Proofs.Ytbbjkgpilmcldaa.PWm Go.Proofs.Ytbbjkgpilmcldaa.Seq Go.Proofs.YtbbjkgpilmcldaaW.PrintWords Go.Proofs.YtbbjkgpilmcldaaW.PrintLast Go.Proofs.YtbbjkgpilmcldaaW.PrintMore
set_option linter.unusedVariables false
set_option linter.unusedSimpArgs false
theorem states_l1 (f of p : Nat) (hf : f ≤ 5) (hof : 1 ≤ of) (X Y out : List (List RowT)) (S A bf : List RowT) (hb : ∀ r ∈ bf, partN r.f0 of = p) (hbl : bf.length ≤ 64) (hY : Y.length ≤ 4) (hy : ∀ l ∈ Y, l.length ≤ 100) (fb : fits bf) (fy : fits Y.flatten) (ho : out.length ≤ 4)
    (h : Ev (fun k => tributarylaw4_WideStates.l0 k (f : Int) (of : Int) X S Y A (out ++ [foldF f bf (mergeP Y.flatten of p)]) (wrap64 ((p : Int) + 1))) true) (d : Nat) :
    ∀ j : Nat, j + d = bf.length → Ev (fun k => tributarylaw4_WideStates.l1 k (f : Int) (of : Int) X S Y A out (p : Int) bf (j : Int)) true := by
  induction d with
  | zero =>
    intro j hj
    have m1 := merge_ev Y of p hof (by omega) (fun l hl => by have := hy l hl; omega)
    refine Ev.step (f := fun k => (wide_Merge.f k Y (p : Int) (of : Int)).bind fun t333 => ((wide_Fold.f (f : Int) bf t333).bind fun t336 => (if out.length < 5864062014805 then (tributarylaw4_WideStates.l0 k (f : Int) (of : Int) X S Y A (out ++ [t336]) (wrap64 ((p : Int) + 1))) else (none)))) (fun k => ?_) (Ev.bind m1 (Ev.congr (fun k => ?_) h))
    · simp only [tributarylaw4_WideStates.l1]
      rw [if_neg (by omega)]
    · rw [fold_f hf fb (fits_mergeP fy of p), Option.bind_some, if_pos (by omega)]
  | succ d ih =>
    intro j hj
    have hjl : j < bf.length := by omega
    have hp := hb bf[j] (List.getElem_mem hjl)
    refine Ev.step (fun k => ?_) (ih (j + 1) (by omega))
    simp only [tributarylaw4_WideStates.l1]
    rw [if_pos (by omega), if_pos (by omega), rdT_nat bf j hjl, part_nat _ hof, Option.bind_some, if_pos (by omega), wrap_nat (n := bf.length) (by omega) (by omega)]
theorem states_l0 (f of : Nat) (hf : f ≤ 5) (hof : 1 ≤ of) (h4 : of ≤ 4) (X Y : List (List RowT)) (hX : X.length ≤ 4) (hY : Y.length ≤ 4) (hx : ∀ l ∈ X, l.length ≤ 100) (hy : ∀ l ∈ Y, l.length ≤ 100) (fx : fits X.flatten) (fy : fits Y.flatten) (hm : X.flatten.length + Y.flatten.length ≤ 64) (B R : List RowT) (hB : foldF f [] X.flatten = B) (hR : foldF f B Y.flatten = R) (d : Nat) :
    ∀ p : Nat, p + d = of → Ev (fun k => tributarylaw4_WideStates.l0 k (f : Int) (of : Int) X X.flatten Y Y.flatten ((List.range p).map fun q => mergeP R of q) (p : Int)) true := by
  have lB := foldF_len f [] X.flatten
  rw [hB, List.length_nil] at lB
  have lR := foldF_len f B Y.flatten
  rw [hR] at lR
  have fB : fits B := by rw [← hB]; exact fits_fold fits_nil fx
  induction d with
  | zero =>
    intro p hp
    obtain rfl : p = of := by omega
    have g := gath_ev ((List.range p).map fun q => mergeP R p q) (by rw [List.length_map, List.length_range]; omega) (fun l hl => by
      obtain ⟨q, _, rfl⟩ := List.mem_map.1 hl
      have := mergeP_len R p q
      omega)
    rw [gath_parts (by rw [← hR]; exact fold_rising f B _) p hof] at g
    have s := same_ev R R (by omega)
    rw [decide_eq_true rfl] at s
    refine Ev.step (f := fun k => (tributarylaw4_told.f k).bind fun t297 => (if t297 = true then ((tributarylaw4_gathered.f k ((List.range p).map fun q => mergeP R p q)).bind fun t298 => ((tributaryref2_Same.f k t298 R).bind fun t304 => (some t304))) else (some false))) (fun k => ?_) (Ev.bind told_ev (Ev.congr (fun k => if_pos rfl) (Ev.bind g (Ev.bind s (Ev.now true)))))
    simp only [tributarylaw4_WideStates.l0]
    rw [if_neg (by omega), fold_f hf fits_nil fx, hB]
    simp only [Option.bind_some]
    rw [fold_f hf fB fy, hR]
    rfl
  | succ d ih =>
    intro p hp
    have h1 := ih (p + 1) (by omega)
    rw [List.range_succ, List.map_append, List.map_singleton] at h1
    have m1 := merge_ev X of p hof (by omega) (fun l hl => by have := hx l hl; omega)
    have ef : foldF f [] (mergeP X.flatten of p) = mergeP B of p := by
      have := fold_part f [] X.flatten of p (by rw [List.length_nil]; omega)
      rw [hB] at this
      exact this
    have eg : foldF f (mergeP B of p) (mergeP Y.flatten of p) = mergeP R of p := by
      have := fold_part f B Y.flatten of p (by omega)
      rw [hR] at this
      exact this
    have hl : ((List.range p).map fun q => mergeP R of q).length = p := by rw [List.length_map, List.length_range]
    have hbl := mergeP_len B of p
    have h2 := states_l1 f of p hf hof X Y ((List.range p).map fun q => mergeP R of q) X.flatten Y.flatten (mergeP B of p) (fun r hr => by simpa using (List.mem_filter.1 hr).2) (by omega) hY hy (fits_mergeP fB of p) fy (by omega) (by rw [eg, wrap_nat (n := of) (by omega) (by omega)]; exact h1) (mergeP B of p).length 0 (by omega)
    refine Ev.step (f := fun k => (wide_Merge.f k X (p : Int) (of : Int)).bind fun t => (wide_Fold.f (f : Int) ([] : List S30) t).bind fun t328 => tributarylaw4_WideStates.l1 k (f : Int) (of : Int) X X.flatten Y Y.flatten ((List.range p).map fun q => mergeP R of q) (p : Int) t328 0) (fun k => ?_) (Ev.bind m1 (Ev.congr (fun k => ?_) h2))
    · simp only [tributarylaw4_WideStates.l0]
      rw [if_pos (by omega)]
    · rw [fold_f hf fits_nil (fits_mergeP fx of p), Option.bind_some, ef]
      rfl
theorem WideStates : tributarylaw4_WideStates.Pure := by
  intro a0 l1 l2 a3 h0 h1 g1 h2 g2 h3
  obtain ⟨f, hf, ef⟩ := fnum a0
  obtain ⟨of, ho1, ho4, eo⟩ := pnum a3
  obtain ⟨n1, n2, n3⟩ := mn_take l1 30
  obtain ⟨m1, m2, m3⟩ := mn_take l2 30
  have e30 : ((30 : Nat) : Int) = 30 := rfl
  rw [e30] at n1 n2 n3 m1 m2 m3
  obtain ⟨x, hx⟩ : ∃ x, l1.take 30 = x := ⟨_, rfl⟩
  obtain ⟨y, hy⟩ : ∃ y, l2.take 30 = y := ⟨_, rfl⟩
  have okx : ∀ r ∈ x, okRow r := fun r hr => h1.2 r (List.mem_of_mem_take (hx ▸ hr))
  have oky : ∀ r ∈ y, okRow r := fun r hr => h2.2 r (List.mem_of_mem_take (hy ▸ hr))
  have lx : x.length ≤ 30 := by rw [← hx, List.length_take]; omega
  have ly : y.length ≤ 30 := by rw [← hy, List.length_take]; omega
  have tx := laidS_total x of ho1 ho4
  have ty := laidS_total y of ho1 ho4
  have e0 := states_l0 f of hf ho1 ho4 (laidS x of) (laidS y of) (by rw [laidS_len]; omega) (by rw [laidS_len]; omega) (fun l hl => by have := laidS_each x of l hl; omega) (fun l hl => by have := laidS_each y of l hl; omega) (fits_laidS okx of ho1 ho4) (fits_laidS oky of ho1 ho4) (by omega) _ _ rfl rfl of 0 (by omega)
  have e := Ev.bind (f := fun k bt1 => (tributarylaw4_laid.f k y (of : Int)).bind fun bt2 => tributarylaw4_WideStates.l0 k (f : Int) (of : Int) bt1.1 bt1.2 bt2.1 bt2.2 ([] : List (List S30)) 0) (laid_ev x of ho1 ho4) (Ev.bind (f := fun k bt2 => tributarylaw4_WideStates.l0 k (f : Int) (of : Int) (laidS x of) (laidS x of).flatten bt2.1 bt2.2 ([] : List (List S30)) 0) (laid_ev y of ho1 ho4) e0)
  obtain ⟨k, hk⟩ := e.rounds
  refine ⟨k, ?_⟩
  unfold tributarylaw4_WideStates.f
  rw [ef, eo, if_pos n1, if_pos n2, n3, hx]
  simp only [m1, m2, if_true, m3, hy]
  exact hk
end Go.Proofs.Ytbbjkgpilmcldaa.Pure
