/- Proved: the pure statement of WidePairs. -/
import Derived.Test.YtbbjkgpilmcldaaWideL
import Derived.Test.YtbbjkgpilmcldaaWideJ
import Derived.Test.YtbbjkgpilmcldaaPWidePairsq
namespace Go.Proofs.Ytbbjkgpilmcldaa.Pure
open Go.RowKit Go.Proofs.Ytbbjkgpilmcldaa.PWm Go.Proofs.Ytbbjkgpilmcldaa.Seq Go.Proofs.YtbbjkgpilmcldaaW.PrintWords Go.Proofs.YtbbjkgpilmcldaaW.PrintLast Go.Proofs.YtbbjkgpilmcldaaW.PrintMore
set_option linter.unusedVariables false
set_option linter.unusedSimpArgs false
theorem rows_eq_iff (a b : RowT) : (!(a.f0 == b.f0) || (!(a.f1 == b.f1))) = !decide (a = b) := by
  by_cases h : a = b
  · subst h; simp
  · have : ¬ (a.f0 = b.f0 ∧ a.f1 = b.f1) := fun e => h (by cases a; cases b; simp at e; simp [e])
    by_cases e0 : a.f0 = b.f0
    · have e1 : ¬ a.f1 = b.f1 := fun e => this ⟨e0, e⟩
      simp [h, e0, e1]
    · simp [h, e0]
theorem take_filter_lt (q : RowT → Bool) (l : List RowT) (j : Nat) (hj : j < l.length) (h : q l[j] = true) : ∃ hk : ((l.take j).filter q).length < (l.filter q).length, (l.filter q)[((l.take j).filter q).length] = l[j] := by
  have e : l.filter q = (l.take j).filter q ++ l[j] :: (l.drop (j + 1)).filter q := by
    have := List.take_append_drop j l
    rw [List.drop_eq_getElem_cons hj] at this
    calc l.filter q = (l.take j ++ l[j] :: l.drop (j + 1)).filter q := by rw [this]
      _ = _ := by rw [List.filter_append, List.filter_cons, if_pos h]
  have hl : ((l.take j).filter q).length < (l.filter q).length := by rw [e, List.length_append, List.length_cons]; omega
  refine ⟨hl, ?_⟩
  have : (l.filter q)[((l.take j).filter q).length]? = some l[j] := by
    rw [e, List.getElem?_append_right (Nat.le_refl _), Nat.sub_self]; rfl
  rw [List.getElem?_eq_getElem hl] at this
  exact Option.some.inj this
theorem pairs_l1 (f of p : Nat) (hof : 1 ≤ of) (hp : p < of) (h4 : of ≤ 4) (X Y : List (List RowT)) (all : List RowT) (ha : all.length ≤ 1000) (n : Int) (h : Ev (fun k => tributarylaw4_WidePairs.l0 k (f : Int) (of : Int) X Y all n ((p + 1 : Nat) : Int)) true) (d : Nat) :
    ∀ j : Nat, j + d = all.length → Ev (fun k => tributarylaw4_WidePairs.l1 k (f : Int) (of : Int) X Y all n (p : Int) (mergeP all of p) ((mergeP (all.take j) of p).length : Int) (j : Int)) true := by
  induction d with
  | zero =>
    intro j hj
    rw [List.take_of_length_le (by omega)]
    refine Ev.step (fun k => ?_) h
    simp only [tributarylaw4_WidePairs.l1]
    rw [if_neg (by omega), if_pos trivial, wrap_nat (n := of) (by omega) (by omega)]
  | succ d ih =>
    intro j hj
    have hjl : j < all.length := by omega
    have h1 := ih (j + 1) (by omega)
    have hk : (mergeP (all.take j) of p).length ≤ 1000 := by have := mergeP_len (all.take j) of p; rw [List.length_take] at this; omega
    rw [List.take_succ_eq_append_getElem hjl] at h1
    by_cases e : partN all[j].f0 of = p
    · have e1 : mergeP (all.take j ++ [all[j]]) of p = mergeP (all.take j) of p ++ [all[j]] := by
        unfold mergeP
        rw [List.filter_append, List.filter_cons, if_pos (by simpa using e)]
        rfl
      rw [e1, List.length_append, List.length_singleton] at h1
      obtain ⟨hl, hg⟩ := take_filter_lt (fun r => partN r.f0 of == p) all j hjl (by simpa using e)
      have hl : (mergeP (all.take j) of p).length < (mergeP all of p).length := hl
      have hg : (mergeP all of p)[(mergeP (all.take j) of p).length] = all[j] := hg
      refine Ev.step (fun k => ?_) h1
      simp only [tributarylaw4_WidePairs.l1]
      rw [if_pos (by omega), if_pos (by omega), rdT_nat all j hjl, part_nat _ hof, Option.bind_some, if_pos (by omega), if_neg (by omega), if_pos (by omega), if_pos (by omega), rdT_nat _ _ hl, hg, rows_eq_iff, if_neg (by simp), wrap_nat (i := (mergeP (all.take j) of p).length) (n := 1000) (by omega) (by omega), wrap_nat (i := j) (n := all.length) (by omega) (by omega)]
    · have e1 : mergeP (all.take j ++ [all[j]]) of p = mergeP (all.take j) of p := by
        unfold mergeP
        rw [List.filter_append, List.filter_cons, if_neg (by simpa using e)]
        simp
      rw [e1] at h1
      refine Ev.step (fun k => ?_) h1
      simp only [tributarylaw4_WidePairs.l1]
      rw [if_pos (by omega), if_pos (by omega), rdT_nat all j hjl, part_nat _ hof, Option.bind_some, if_neg (by omega), wrap_nat (n := all.length) (by omega) (by omega)]
theorem pairs_l0 (f of : Nat) (hf : f ≤ 3) (hof : 1 ≤ of) (h4 : of ≤ 4) (X Y : List (List RowT)) (hX : X.length ≤ 4) (hY : Y.length ≤ 4) (hx : ∀ l ∈ X, l.length ≤ 100) (hy : ∀ l ∈ Y, l.length ≤ 100) (fx : fits X.flatten) (fy : fits Y.flatten) (hm : X.flatten.length * Y.flatten.length ≤ 64) (all : List RowT) (ha : all.length ≤ 64) (hall : joinF f X.flatten Y.flatten = all) (d : Nat) :
    ∀ p : Nat, p + d = of → Ev (fun k => tributarylaw4_WidePairs.l0 k (f : Int) (of : Int) X Y all ((((List.range p).flatMap fun q => mergeP all of q).length : Nat) : Int) (p : Int)) true := by
  induction d with
  | zero =>
    intro p hp
    obtain rfl : p = of := by omega
    refine Ev.step (f := fun k => (tributarylaw4_told.f k).bind fun t => if t = true then some (((((List.range p).flatMap fun q => mergeP all p q).length : Nat) : Int) == (all.length : Int)) else some false) (fun k => ?_) (Ev.bind told_ev (Ev.congr (fun k => ?_) (Ev.now true)))
    · simp only [tributarylaw4_WidePairs.l0]
      rw [if_neg (by omega)]
    · rw [if_pos rfl, (merge_alike all p hof).len]
      simp
  | succ d ih =>
    intro p hp
    have h1 := ih (p + 1) (by omega)
    rw [List.range_succ, List.flatMap_append, List.flatMap_singleton, List.length_append] at h1
    have hol : ((List.range p).flatMap fun q => mergeP all of q).length ≤ 1000 := by
      have : ∀ n, n ≤ 4 → ((List.range n).flatMap fun q => mergeP all of q).length ≤ n * 64 := by
        intro n
        induction n with
        | zero => intro _; simp
        | succ n ihn =>
          intro hn
          rw [List.range_succ, List.flatMap_append, List.flatMap_singleton, List.length_append]
          have := ihn (by omega)
          have := mergeP_len all of n
          omega
      have := this p (by omega)
      omega
    have hml := mergeP_len all of p
    have ew : wrap64 (((((List.range p).flatMap fun q => mergeP all of q).length : Nat) : Int) + ((mergeP all of p).length : Int)) = ((((List.range p).flatMap fun q => mergeP all of q).length + (mergeP all of p).length : Nat) : Int) := by unfold wrap64; omega
    have h2 := pairs_l1 f of p hof (by omega) h4 X Y all (by omega) _ h1 all.length 0 (by omega)
    have m1 := merge_ev X of p hof (by omega) (fun l hl => by have := hx l hl; omega)
    have m2 := merge_ev Y of p hof (by omega) (fun l hl => by have := hy l hl; omega)
    refine Ev.step (f := fun k => (wide_Merge.f k X (p : Int) (of : Int)).bind fun t => (wide_Merge.f k Y (p : Int) (of : Int)).bind fun t2 => (wide_Join.f (f : Int) t t2).bind fun t3 => tributarylaw4_WidePairs.l1 k (f : Int) (of : Int) X Y all (wrap64 (((((List.range p).flatMap fun q => mergeP all of q).length : Nat) : Int) + (t3.length : Int))) (p : Int) t3 0 0) (fun k => ?_) (Ev.bind m1 (Ev.bind m2 (Ev.congr (fun k => ?_) h2)))
    · simp only [tributarylaw4_WidePairs.l0]
      rw [if_pos (by omega)]
    · rw [join_f hf (fits_mergeP fx of p) (fits_mergeP fy of p), Option.bind_some, join_part f _ _ of p hm, hall, ew]
      rfl
theorem WidePairs : tributarylaw4_WidePairs.Pure := by
  intro a0 l1 l2 a3 h0 h1 g1 h2 g2 h3
  obtain ⟨f, hf, ef⟩ := fnum3 a0
  obtain ⟨of, ho1, ho4, eo⟩ := pnum a3
  obtain ⟨n1, n2, n3⟩ := mn_take l1 7
  obtain ⟨m1, m2, m3⟩ := mn_take l2 7
  have e7 : ((7 : Nat) : Int) = 7 := rfl
  rw [e7] at n1 n2 n3 m1 m2 m3
  obtain ⟨x, hx⟩ : ∃ x, l1.take 7 = x := ⟨_, rfl⟩
  obtain ⟨y, hy⟩ : ∃ y, l2.take 7 = y := ⟨_, rfl⟩
  have okx : ∀ r ∈ x, okRow r := fun r hr => h1.2 r (List.mem_of_mem_take (hx ▸ hr))
  have oky : ∀ r ∈ y, okRow r := fun r hr => h2.2 r (List.mem_of_mem_take (hy ▸ hr))
  have lx : x.length ≤ 7 := by rw [← hx, List.length_take]; omega
  have ly : y.length ≤ 7 := by rw [← hy, List.length_take]; omega
  have tx := laidS_total x of ho1 ho4
  have ty := laidS_total y of ho1 ho4
  have hm : (laidS x of).flatten.length * (laidS y of).flatten.length ≤ 64 := by
    have : (laidS x of).flatten.length * (laidS y of).flatten.length ≤ 7 * 7 := Nat.mul_le_mul (by omega) (by omega)
    omega
  have la : (joinF f (laidS x of).flatten (laidS y of).flatten).length ≤ 64 := by unfold joinF; rw [List.length_take]; omega
  have e0 := pairs_l0 f of hf ho1 ho4 (laidS x of) (laidS y of) (by rw [laidS_len]; omega) (by rw [laidS_len]; omega) (fun l hl => by have := laidS_each x of l hl; omega) (fun l hl => by have := laidS_each y of l hl; omega) (fits_laidS okx of ho1 ho4) (fits_laidS oky of ho1 ho4) hm _ la rfl of 0 (by omega)
  have eL1 := laid_ev x of ho1 ho4
  have eL2 := laid_ev y of ho1 ho4
  have e := Ev.bind (f := fun k bt1 => (tributarylaw4_laid.f k y (of : Int)).bind fun bt2 => (wide_Join.f (f : Int) bt1.2 bt2.2).bind fun t => tributarylaw4_WidePairs.l0 k (f : Int) (of : Int) bt1.1 bt2.1 t 0 0) eL1 (Ev.bind (f := fun k bt2 => (wide_Join.f (f : Int) (laidS x of).flatten bt2.2).bind fun t => tributarylaw4_WidePairs.l0 k (f : Int) (of : Int) (laidS x of) bt2.1 t 0 0) eL2 (Ev.congr (fun k => by
    rw [join_f hf (fits_laidS okx of ho1 ho4) (fits_laidS oky of ho1 ho4), Option.bind_some]; rfl) e0))
  obtain ⟨k, hk⟩ := e.rounds
  refine ⟨k, ?_⟩
  unfold tributarylaw4_WidePairs.f
  rw [ef, eo, if_pos n1, if_pos n2, n3, hx]
  simp only [m1, m2, if_true, m3, hy]
  exact hk
end Go.Proofs.Ytbbjkgpilmcldaa.Pure
