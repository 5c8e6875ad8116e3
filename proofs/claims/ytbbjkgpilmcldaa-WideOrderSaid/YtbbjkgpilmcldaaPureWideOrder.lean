/- Proved: the pure statement of WideOrder. -/
import Derived.Test.YtbbjkgpilmcldaaWideM
import Derived.Test.YtbbjkgpilmcldaaPWideOrderq
namespace Go.Proofs.Ytbbjkgpilmcldaa.Pure
open Go.RowKit Go.Proofs.Ytbbjkgpilmcldaa.PWm Go.Proofs.Ytbbjkgpilmcldaa.Seq Go.Proofs.YtbbjkgpilmcldaaW.PrintWords Go.Proofs.YtbbjkgpilmcldaaW.PrintLast Go.Proofs.YtbbjkgpilmcldaaW.PrintMore
set_option linter.unusedVariables false
set_option linter.unusedSimpArgs false
theorem order_j4 (f : Nat) (hf : f ≤ 5) (A B : List RowT) (fA : fits A) (fB : fits B) (h : Alike B A) : Ev (fun k => tributarylaw4_WideOrder.j4 k (f : Int) A B false) true := by
  have e := h.fold f
  have l := foldF_len f [] A
  have s := same_ev (foldF f [] A) (foldF f [] B) (by omega)
  rw [decide_eq_true e.symm] at s
  refine Ev.step (f := fun k => (tributaryref2_Same.f k (foldF f [] A) (foldF f [] B)).bind fun t => some t) (fun k => ?_) (Ev.bind s (Ev.now true))
  simp only [tributarylaw4_WideOrder.j4]
  rw [if_neg (by simp), reduce_f hf fA, Option.bind_some, reduce_f hf fB, Option.bind_some]
theorem order_l2 (f of p : Nat) (hof : 1 ≤ of) (In : List (List RowT)) (A out l : List RowT) (hl : ∀ r ∈ l, partN r.f0 of = p) (hln : l.length ≤ 100000) (ho : out.length ≤ 100000) (h : Ev (fun k => tributarylaw4_WideOrder.l1 k (of : Int) (f : Int) In A (out ++ l) (wrap64 ((p : Int) + 1))) true) (d : Nat) :
    ∀ j : Nat, j + d = l.length → Ev (fun k => tributarylaw4_WideOrder.l2 k (of : Int) (f : Int) In A out (p : Int) l (j : Int)) true := by
  induction d with
  | zero =>
    intro j hj
    refine Ev.step (fun k => ?_) h
    simp only [tributarylaw4_WideOrder.l2]
    rw [if_neg (by omega), if_pos (by omega)]
  | succ d ih =>
    intro j hj
    have hjl : j < l.length := by omega
    refine Ev.step (fun k => ?_) (ih (j + 1) (by omega))
    simp only [tributarylaw4_WideOrder.l2]
    have hp := hl l[j] (List.getElem_mem hjl)
    rw [if_pos (by omega), if_pos (by omega), rdT_nat l j hjl, part_nat _ hof, Option.bind_some, if_pos (by omega), wrap_nat (n := l.length) (by omega) (by omega)]
theorem order_l1 (f of : Nat) (hf : f ≤ 5) (hof : 1 ≤ of) (hof4 : of ≤ 4) (In : List (List RowT)) (hIn : In.length ≤ 6) (hIl : ∀ l ∈ In, l.length ≤ 20) (fA : fits In.flatten) (hA : In.flatten.length ≤ 200) (d : Nat) :
    ∀ p : Nat, p + d = of → Ev (fun k => tributarylaw4_WideOrder.l1 k (of : Int) (f : Int) In In.flatten ((List.range p).flatMap fun q => mergeP In.flatten of q) (p : Int)) true := by
  induction d with
  | zero =>
    intro p hp
    obtain rfl : p = of := by omega
    have al := merge_alike In.flatten p hof
    have fB : fits ((List.range p).flatMap fun q => mergeP In.flatten p q) := ⟨by rw [al.len]; exact fA.1, fun r hr => by
      obtain ⟨q, _, hq⟩ := List.mem_flatMap.1 hr
      exact fA.2 r (List.mem_filter.1 hq).1⟩
    have e4 := order_j4 f hf In.flatten _ fA fB al
    have t := told_ev
    refine Ev.step (f := fun k => (tributarylaw4_told.f k).bind fun t => if t = true then tributarylaw4_WideOrder.j4 k (f : Int) In.flatten ((List.range p).flatMap fun q => mergeP In.flatten p q) false else tributarylaw4_WideOrder.j4 k (f : Int) In.flatten ((List.range p).flatMap fun q => mergeP In.flatten p q) true) (fun k => ?_) (Ev.bind t (Ev.congr (fun k => if_pos rfl) e4))
    simp only [tributarylaw4_WideOrder.l1]
    rw [if_neg (by omega), show (((List.range p).flatMap fun q => mergeP In.flatten p q).length : Int) = (In.flatten.length : Int) by rw [al.len], bne_self_eq_false]
  | succ d ih =>
    intro p hp
    have h1 := ih (p + 1) (by omega)
    rw [List.range_succ, List.flatMap_append, List.flatMap_singleton] at h1
    have hol : ((List.range p).flatMap fun q => mergeP In.flatten of q).length ≤ 1000 := by
      have : ∀ n, n ≤ 4 → ((List.range n).flatMap fun q => mergeP In.flatten of q).length ≤ n * 200 := by
        intro n
        induction n with
        | zero => intro _; simp
        | succ n ihn =>
          intro hn
          rw [List.range_succ, List.flatMap_append, List.flatMap_singleton, List.length_append]
          have := ihn (by omega)
          have := mergeP_len In.flatten of n
          omega
      have := this p (by omega)
      omega
    have hml := mergeP_len In.flatten of p
    have h2 := order_l2 f of p hof In In.flatten ((List.range p).flatMap fun q => mergeP In.flatten of q) (mergeP In.flatten of p) (fun r hr => by simpa using (List.mem_filter.1 hr).2) (by omega) (by omega) (by rw [wrap_nat (n := of) (by omega) (by omega)]; exact h1) (mergeP In.flatten of p).length 0 (by omega)
    have hm := merge_ev In of p hof (by omega) (fun l hl => by have := hIl l hl; omega)
    refine Ev.step (f := fun k => (wide_Merge.f k In (p : Int) (of : Int)).bind fun t => tributarylaw4_WideOrder.l2 k (of : Int) (f : Int) In In.flatten ((List.range p).flatMap fun q => mergeP In.flatten of q) (p : Int) t 0) (fun k => ?_) (Ev.bind hm h2)
    simp only [tributarylaw4_WideOrder.l1]
    rw [if_pos (by omega)]
theorem order_l0 (f of : Nat) (L : List (List RowT)) (h : Ev (fun k => tributarylaw4_WideOrder.j1 k (of : Int) (f : Int) ((L.take 6).map (·.take 20)) ((L.take 6).map (·.take 20)).flatten) true) (d : Nat) :
    ∀ i : Nat, i + d = 6 → Ev (fun k => tributarylaw4_WideOrder.l0 k L (of : Int) (f : Int) ((L.take i).map (·.take 20)) ((L.take i).map (·.take 20)).flatten (i : Int)) true := by
  induction d with
  | zero =>
    intro i hi
    obtain rfl : i = 6 := by omega
    refine Ev.step (fun k => ?_) h
    simp only [tributarylaw4_WideOrder.l0]
    split
    · rw [if_neg (by omega)]
    · rfl
  | succ d ih =>
    intro i hi
    by_cases hlt : i < L.length
    · have h1 := ih (i + 1) (by omega)
      rw [List.take_succ_eq_append_getElem hlt, List.map_append, List.flatten_append, List.map_singleton, List.flatten_singleton] at h1
      have hfl : ∀ n, n ≤ 6 → ((L.take n).map (·.take 20)).flatten.length ≤ n * 20 := by
        intro n hn
        rw [List.length_flatten, List.map_map]
        have : ∀ l : List (List RowT), (l.map (List.length ∘ fun x => x.take 20)).sum ≤ l.length * 20 := by
          intro l
          induction l with
          | nil => simp
          | cons a l ih => rw [List.map_cons, List.sum_cons, List.length_cons]; have : (List.length ∘ fun x : List RowT => x.take 20) a ≤ 20 := by simp only [Function.comp, List.length_take]; omega
                           omega
        have h2 := this (L.take n)
        rw [List.length_take] at h2
        omega
      have hfi := hfl i (by omega)
      have hil : ((L.take i).map (·.take 20)).length = i := by rw [List.length_map, List.length_take]; omega
      have hil2 : ((L.take i).map (·.take 20) ++ [L[i].take 20]).length = i + 1 := by rw [List.length_append, hil, List.length_singleton]
      have h20 : (L[i].take 20).length ≤ 20 := by rw [List.length_take]; omega
      have er : rd_L2 ((L.take i).map (·.take 20) ++ [L[i].take 20]) (i : Int) = L[i].take 20 := by
        rw [rdL_nat _ i (by omega), List.getElem_append_right (by omega)]
        simp [hil]
      refine Ev.step (fun k => ?_) h1
      simp only [tributarylaw4_WideOrder.l0]
      rw [if_pos (by omega), if_pos (by omega), if_pos (by omega), rdL_nat L i hlt, few4_f _ _ (by omega) (by omega), Option.bind_some, if_pos (by omega), Option.bind_some, show Int.toNat 20 = 20 from rfl, if_pos (by omega), er, if_pos (by omega), wrap_nat (n := 6) (by omega) (by omega)]
    · have e : ∀ n, i ≤ n → (L.take n) = L := fun n hn => List.take_of_length_le (by omega)
      rw [e 6 (by omega)] at h
      rw [e i (Nat.le_refl _)]
      refine Ev.step (fun k => ?_) h
      simp only [tributarylaw4_WideOrder.l0]
      rw [if_neg (by omega)]
theorem WideOrder : tributarylaw4_WideOrder.Pure := by
  intro L a1 a2 hL hs h1 h2
  obtain ⟨f, hf, ef⟩ := fnum a2
  obtain ⟨of, ho1, ho4, eo⟩ := pnum a1
  obtain ⟨In, hIn⟩ : ∃ In, (L.take 6).map (·.take 20) = In := ⟨_, rfl⟩
  have hIl : ∀ l ∈ In, l.length ≤ 20 := by
    intro l hl
    rw [← hIn] at hl
    obtain ⟨x, _, rfl⟩ := List.mem_map.1 hl
    rw [List.length_take]; omega
  have hI6 : In.length ≤ 6 := by rw [← hIn, List.length_map, List.length_take]; omega
  have hok : ∀ r ∈ In.flatten, okRow r := by
    intro r hr
    obtain ⟨l, hl, hr⟩ := List.mem_flatten.1 hr
    rw [← hIn] at hl
    obtain ⟨x, hx, rfl⟩ := List.mem_map.1 hl
    exact (hL.2 x (List.mem_of_mem_take hx)).2 r (List.mem_of_mem_take hr)
  have hlen : In.flatten.length ≤ 200 := by
    rw [List.length_flatten]
    have : ∀ l : List (List RowT), (∀ x ∈ l, x.length ≤ 20) → (l.map List.length).sum ≤ l.length * 20 := by
      intro l
      induction l with
      | nil => intro _; simp
      | cons a l ih =>
        intro h
        rw [List.map_cons, List.sum_cons, List.length_cons]
        have := h a (by simp)
        have := ih (fun x hx => h x (by simp [hx]))
        omega
    have := this In hIl
    omega
  have fA : fits In.flatten := ⟨by omega, hok⟩
  have e1 := order_l1 f of hf ho1 ho4 In hI6 hIl fA hlen of 0 (by omega)
  have ej : Ev (fun k => tributarylaw4_WideOrder.j1 k (of : Int) (f : Int) In In.flatten) true := by
    refine Ev.step (fun k => ?_) e1
    simp only [tributarylaw4_WideOrder.j1]
    rfl
  have e0 := order_l0 f of L (by rw [hIn]; exact ej) 6 0 (by omega)
  obtain ⟨k, hk⟩ := e0.rounds
  refine ⟨k, ?_⟩
  unfold tributarylaw4_WideOrder.f
  rw [ef, eo]
  exact hk
end Go.Proofs.Ytbbjkgpilmcldaa.Pure
