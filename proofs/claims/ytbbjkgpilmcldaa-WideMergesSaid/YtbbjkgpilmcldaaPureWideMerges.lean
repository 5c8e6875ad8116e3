/- Proved: the pure statement of WideMerges. -/
import Derived.Test.YtbbjkgpilmcldaaWideBs
import Derived.Test.YtbbjkgpilmcldaaPWideMergesq
namespace Go.Proofs.Ytbbjkgpilmcldaa.Pure
open Go.RowKit Go.Proofs.Ytbbjkgpilmcldaa.PWs Go.Proofs.Ytbbjkgpilmcldaa.Seq Go.Proofs.YtbbjkgpilmcldaaW.PrintWords Go.Proofs.YtbbjkgpilmcldaaW.PrintLast Go.Proofs.YtbbjkgpilmcldaaW.PrintMore
set_option linter.unusedVariables false
set_option linter.unusedSimpArgs false
/-- A key's part. -/
def partS (k of : Int) : Int := if of < 2 then 0 else Int.tmod (wrap64 ((IntKind.u64.wrap ((IntKind.u64.wrap k) * 11400714819323198485)) / 8589934592)) of
theorem part_f (k of : Int) : rows_Part.f k of = some (partS k of) := by
  unfold rows_Part.f partS
  by_cases h2 : of < 2
  · rw [if_pos h2, if_pos h2]
  · rw [if_neg h2, if_neg h2, if_neg (by omega)]
theorem u64_nn (x : Int) : 0 ≤ IntKind.u64.wrap x ∧ IntKind.u64.wrap x < 18446744073709551616 := by
  rw [show IntKind.u64.wrap x = x % 18446744073709551616 from rfl]
  omega
theorem ref_part_f (k of : Int) (h1 : -9223372036854775808 ≤ of) (h2 : of ≤ 9223372036854775807) : tributaryref2_Part.f k of = some (partS k of) := by
  unfold tributaryref2_Part.f partS
  by_cases h : of < 2
  · rw [if_pos h, if_pos h]
  · rw [if_neg h, if_neg h]
    obtain ⟨x, hx⟩ : ∃ x, IntKind.u64.wrap ((IntKind.u64.wrap k) * 11400714819323198485) = x := ⟨_, rfl⟩
    have hb := u64_nn ((IntKind.u64.wrap k) * 11400714819323198485)
    rw [hx] at hb ⊢
    have e0 : IntKind.u64.wrap of = of := by
      rw [show IntKind.u64.wrap of = of % 18446744073709551616 from rfl]
      omega
    have e : wrap64 (x / 8589934592) = x / 8589934592 := by unfold wrap64; omega
    rw [e0, if_neg (by omega), e, Int.tmod_eq_emod_of_nonneg (by omega)]
    have := Int.emod_nonneg (x / 8589934592) (b := of) (by omega)
    have := Int.emod_lt_of_pos (x / 8589934592) (b := of) (by omega)
    rw [show wrap64 ((x / 8589934592) % of) = (x / 8589934592) % of by unfold wrap64; omega]
/-- The rows of a part. -/
def mergeG (A : List RowT) (p of : Int) : List RowT := A.filter fun r => partS r.f0 of == p
theorem rdL_nat (l : List (List RowT)) (i : Nat) (h : i < l.length) : rd_L2 l (i : Int) = l[i] := by
  unfold rd_L2
  rw [Int.toNat_natCast, List.getD_eq_getElem?_getD, List.getElem?_eq_getElem h]; rfl
theorem mergeG_len (A : List RowT) (p of : Int) : (mergeG A p of).length ≤ A.length := List.length_filter_le _ _
theorem mergeG_app (A B : List RowT) (p of : Int) : mergeG (A ++ B) p of = mergeG A p of ++ mergeG B p of := List.filter_append ..
theorem mergeG_cons (r : RowT) (A : List RowT) (p of : Int) : mergeG (r :: A) p of = if partS r.f0 of = p then r :: mergeG A p of else mergeG A p of := by
  unfold mergeG
  rw [List.filter_cons]
  by_cases e : partS r.f0 of = p
  · rw [if_pos e, if_pos (by simpa using e)]
  · rw [if_neg e, if_neg (by simpa using e)]
theorem merge_l1 (L : List (List RowT)) (of p : Int) (hL : L.length ≤ 1000) (l : List RowT) (hl : l.length ≤ 1000) (i : Nat) (hi : i < L.length) (res : List RowT) (d : Nat) :
    ∀ (j : Nat) (acc : List RowT), j + d = l.length → acc.length + d ≤ 8000000 →
      Ev (fun k => wide_Merge.l0 k p of (acc ++ mergeG (l.drop j) p of) L (L.length : Int) ((i + 1 : Nat) : Int)) res →
      Ev (fun k => wide_Merge.l1 k p of acc L (L.length : Int) (i : Int) l (l.length : Int) (j : Int)) res := by
  induction d with
  | zero =>
    intro j acc hj ha h
    rw [List.drop_eq_nil_of_le (by omega), show mergeG [] p of = [] from rfl, List.append_nil] at h
    refine Ev.step (fun k => ?_) h
    simp only [wide_Merge.l1]
    rw [if_neg (by omega), wrap_nat (n := L.length) (by omega) (by omega)]
  | succ d ih =>
    intro j acc hj ha h
    have hjl : j < l.length := by omega
    rw [List.drop_eq_getElem_cons hjl, mergeG_cons] at h
    by_cases e : partS l[j].f0 of = p
    · refine Ev.step (fun k => ?_) (ih (j + 1) (acc ++ [l[j]]) (by omega) (by rw [List.length_append, List.length_singleton]; omega) (by
        rw [if_pos e] at h
        rwa [List.append_assoc, List.singleton_append]))
      simp only [wide_Merge.l1]
      rw [if_pos (by omega), if_pos (by omega), if_pos (by omega), rdT_nat l j hjl, part_f, Option.bind_some, if_pos e, if_pos (by omega), wrap_nat (n := l.length) (by omega) (by omega)]
    · refine Ev.step (fun k => ?_) (ih (j + 1) acc (by omega) (by omega) (by rwa [if_neg e] at h))
      simp only [wide_Merge.l1]
      rw [if_pos (by omega), if_pos (by omega), if_pos (by omega), rdT_nat l j hjl, part_f, Option.bind_some, if_neg e, wrap_nat (n := l.length) (by omega) (by omega)]
theorem merge_l0 (L : List (List RowT)) (of p : Int) (hL : L.length ≤ 1000) (hl : ∀ l ∈ L, l.length ≤ 1000) (d : Nat) :
    ∀ (i : Nat) (acc : List RowT), i + d = L.length → acc.length ≤ i * 1000 →
      Ev (fun k => wide_Merge.l0 k p of acc L (L.length : Int) (i : Int)) (acc ++ mergeG (L.drop i).flatten p of) := by
  induction d with
  | zero =>
    intro i acc hi ha
    rw [List.drop_eq_nil_of_le (by omega)]
    refine Ev_some fun k => ?_
    simp only [wide_Merge.l0]
    rw [if_neg (by omega)]
    simp [mergeG]
  | succ d ih =>
    intro i acc hi ha
    have hil : i < L.length := by omega
    have hli := hl L[i] (List.getElem_mem hil)
    have hm := mergeG_len L[i] p of
    have h1 := ih (i + 1) (acc ++ mergeG L[i] p of) (by omega) (by rw [List.length_append]; omega)
    rw [List.drop_eq_getElem_cons hil, List.flatten_cons, mergeG_app, ← List.append_assoc]
    refine Ev.step (fun k => ?_) (merge_l1 L of p hL L[i] hli i hil _ L[i].length 0 acc (by omega) (by omega) (by rw [List.drop_zero]; exact h1))
    simp only [wide_Merge.l0]
    rw [if_pos (by omega), if_pos (by omega), if_pos (by omega), rdL_nat L i hil]
    rfl
theorem merge_ev (L : List (List RowT)) (of p : Int) (hL : L.length ≤ 1000) (hl : ∀ l ∈ L, l.length ≤ 1000) : Ev (fun k => wide_Merge.f k L p of) (mergeG L.flatten p of) := by
  have := merge_l0 L of p hL hl L.length 0 [] (by omega) (by simp)
  rw [List.drop_zero, List.nil_append] at this
  exact this
theorem ref_l1 (L : List (List RowT)) (of p : Int) (o1 : -9223372036854775808 ≤ of) (o2 : of ≤ 9223372036854775807) (hL : L.length ≤ 1000) (i : Nat) (hi : i < L.length) (hl : L[i].length ≤ 1000) (res : List RowT) (d : Nat) :
    ∀ (j : Nat) (acc : List RowT), j + d = L[i].length → acc.length + d ≤ 8000000 →
      Ev (fun k => tributaryref4_Merge.l0 k L p of (acc ++ mergeG (L[i].drop j) p of) ((i + 1 : Nat) : Int)) res →
      Ev (fun k => tributaryref4_Merge.l1 k L p of acc (i : Int) (j : Int)) res := by
  have hrl : rd_L2 L (i : Int) = L[i] := rdL_nat L i hi
  induction d with
  | zero =>
    intro j acc hj ha h
    rw [List.drop_eq_nil_of_le (by omega), show mergeG [] p of = [] from rfl, List.append_nil] at h
    refine Ev.step (fun k => ?_) h
    simp only [tributaryref4_Merge.l1]
    rw [if_pos (by omega), if_pos (by omega), hrl, if_neg (by omega), wrap_nat (n := L.length) (by omega) (by omega)]
  | succ d ih =>
    intro j acc hj ha h
    have hjl : j < L[i].length := by omega
    rw [List.drop_eq_getElem_cons hjl, mergeG_cons] at h
    by_cases e : partS L[i][j].f0 of = p
    · refine Ev.step (fun k => ?_) (ih (j + 1) (acc ++ [L[i][j]]) (by omega) (by rw [List.length_append, List.length_singleton]; omega) (by
        rw [if_pos e] at h
        rwa [List.append_assoc, List.singleton_append]))
      simp only [tributaryref4_Merge.l1]
      rw [if_pos (by omega), if_pos (by omega), hrl, if_pos (by omega), if_pos (by omega), rdT_nat L[i] j hjl, ref_part_f _ _ o1 o2, Option.bind_some, if_pos e, if_pos (by omega), wrap_nat (n := L[i].length) (by omega) (by omega)]
    · refine Ev.step (fun k => ?_) (ih (j + 1) acc (by omega) (by omega) (by rwa [if_neg e] at h))
      simp only [tributaryref4_Merge.l1]
      rw [if_pos (by omega), if_pos (by omega), hrl, if_pos (by omega), if_pos (by omega), rdT_nat L[i] j hjl, ref_part_f _ _ o1 o2, Option.bind_some, if_neg e, wrap_nat (n := L[i].length) (by omega) (by omega)]
theorem ref_l0 (L : List (List RowT)) (of p : Int) (o1 : -9223372036854775808 ≤ of) (o2 : of ≤ 9223372036854775807) (hL : L.length ≤ 1000) (hl : ∀ l ∈ L, l.length ≤ 1000) (d : Nat) :
    ∀ (i : Nat) (acc : List RowT), i + d = L.length → acc.length ≤ i * 1000 →
      Ev (fun k => tributaryref4_Merge.l0 k L p of acc (i : Int)) (acc ++ mergeG (L.drop i).flatten p of) := by
  induction d with
  | zero =>
    intro i acc hi ha
    rw [List.drop_eq_nil_of_le (by omega)]
    refine Ev_some fun k => ?_
    simp only [tributaryref4_Merge.l0]
    rw [if_neg (by omega)]
    simp [mergeG]
  | succ d ih =>
    intro i acc hi ha
    have hil : i < L.length := by omega
    have hli := hl L[i] (List.getElem_mem hil)
    have hm := mergeG_len L[i] p of
    have h1 := ih (i + 1) (acc ++ mergeG L[i] p of) (by omega) (by rw [List.length_append]; omega)
    rw [List.drop_eq_getElem_cons hil, List.flatten_cons, mergeG_app, ← List.append_assoc]
    refine Ev.step (fun k => ?_) (ref_l1 L of p o1 o2 hL i hil hli _ L[i].length 0 acc (by omega) (by omega) (by rw [List.drop_zero]; exact h1))
    simp only [tributaryref4_Merge.l0]
    rw [if_pos (by omega)]
    rfl
theorem ref_ev (L : List (List RowT)) (of p : Int) (o1 : -9223372036854775808 ≤ of) (o2 : of ≤ 9223372036854775807) (hL : L.length ≤ 1000) (hl : ∀ l ∈ L, l.length ≤ 1000) : Ev (fun k => tributaryref4_Merge.f k L p of) (mergeG L.flatten p of) := by
  have := ref_l0 L of p o1 o2 hL hl L.length 0 [] (by omega) (by simp)
  rw [List.drop_zero, List.nil_append] at this
  exact this
theorem merges_l2 (L : List (List RowT)) (W : List RowT) (hL : L.length ≤ 1000) (hl : ∀ l ∈ L, l.length ≤ 1000) (hW : W.length ≤ 1000000) (d : Nat) : ∀ i : Nat, i + d = L.length → Ev (fun k => tributarylaw4_WideMerges.l2 k L L W W (i : Int)) true := by
  induction d with
  | zero =>
    intro i hi
    have s := same_ev W W hW
    rw [decide_eq_true rfl] at s
    refine Ev.step (f := fun k => (tributaryref2_Same.f k W W).bind fun t => some t) (fun k => ?_) (Ev.bind s (Ev.now true))
    simp only [tributarylaw4_WideMerges.l2]
    rw [if_neg (by omega)]
  | succ d ih =>
    intro i hi
    have hil : i < L.length := by omega
    have hli := hl L[i] (List.getElem_mem hil)
    have hrl : rd_L2 L (i : Int) = L[i] := rdL_nat L i hil
    have s := same_ev L[i] L[i] (by omega)
    rw [decide_eq_true rfl] at s
    refine Ev.step (f := fun k => (tributaryref2_Same.f k L[i] L[i]).bind fun t => if t = true then tributarylaw4_WideMerges.l2 k L L W W ((i + 1 : Nat) : Int) else none) (fun k => ?_) (Ev.bind s (Ev.congr (fun k => if_pos rfl) (ih (i + 1) (by omega))))
    simp only [tributarylaw4_WideMerges.l2]
    rw [if_pos (by omega), if_pos (by omega), if_pos (by omega), hrl, wrap_nat (n := L.length) (by omega) (by omega)]
theorem merges_l1 (L : List (List RowT)) (W : List RowT) (h2 : Ev (fun k => tributarylaw4_WideMerges.l2 k L L W W 0) true) (d : Nat) : ∀ (j : Nat) (X : List RowT), X.length ≤ 1000000 → j + d = X.length → Ev (fun k => tributarylaw4_WideMerges.l1 k L L X W W (j : Int)) true := by
  induction d with
  | zero =>
    intro j X hX hj
    refine Ev.step (fun k => ?_) h2
    simp only [tributarylaw4_WideMerges.l1]
    rw [if_neg (by omega)]
  | succ d ih =>
    intro j X hX hj
    refine Ev.step (fun k => ?_) (ih (j + 1) (X.set j ⟨-9, 0⟩) (by rw [List.length_set]; exact hX) (by rw [List.length_set]; omega))
    simp only [tributarylaw4_WideMerges.l1]
    rw [if_pos (by omega), if_pos (by omega), Int.toNat_natCast, wrap_nat (n := X.length) (by omega) (by omega)]
theorem merges_l0 (L : List (List RowT)) (p of : Int) (h : Ev (fun k => tributarylaw4_WideMerges.j1 k L p of ((L.take 8).map (·.take 80)) ((L.take 8).map (·.take 80)) ((min 8 L.length : Nat) : Int) false) true) (d : Nat) :
    ∀ i : Nat, i + d = min 8 L.length → Ev (fun k => tributarylaw4_WideMerges.l0 k L p of ((L.take i).map (·.take 80)) ((L.take i).map (·.take 80)) (i : Int)) true := by
  induction d with
  | zero =>
    intro i hi
    rw [show (L.take 8) = L.take i by rw [List.take_eq_take_iff]; omega, show ((min 8 L.length : Nat) : Int) = (i : Int) by omega] at h
    refine Ev.step (fun k => ?_) h
    simp only [tributarylaw4_WideMerges.l0]
    by_cases hl : i < L.length
    · rw [if_pos (by omega), decide_eq_false (by omega)]
    · rw [if_neg (by omega)]
  | succ d ih =>
    intro i hi
    have hil : i < L.length := by omega
    have h1 := ih (i + 1) (by omega)
    rw [List.take_succ_eq_append_getElem hil, List.map_append, List.map_singleton] at h1
    have hml : ((L.take i).map (·.take 80)).length = i := by rw [List.length_map, List.length_take]; omega
    have ej : Ev (fun k => tributarylaw4_WideMerges.j1 k L p of ((L.take i).map (·.take 80)) ((L.take i).map (·.take 80)) (i : Int) true) true := by
      refine Ev.step (fun k => ?_) h1
      simp only [tributarylaw4_WideMerges.j1]
      rw [if_pos trivial, if_pos (by omega), if_pos (by omega), rdL_nat L i hil, few4_f _ _ (by omega) (by omega), Option.bind_some, if_pos (by omega), Option.bind_some, if_pos (by omega), wrap_nat (n := 8) (by omega) (by omega)]
      rfl
    refine Ev.step (fun k => ?_) ej
    simp only [tributarylaw4_WideMerges.l0]
    rw [if_pos (by omega), decide_eq_true (by omega)]
theorem WideMerges : tributarylaw4_WideMerges.Pure := by
  intro L p of hL hs hp ho
  obtain ⟨o1, o2⟩ : -9223372036854775808 ≤ of ∧ of ≤ 9223372036854775807 := by
    have h : (decide (IntKind.i64.min ≤ of) && decide (of ≤ IntKind.i64.max)) = true := ho
    rw [Bool.and_eq_true, decide_eq_true_eq, decide_eq_true_eq] at h
    exact ⟨h.1, h.2⟩
  obtain ⟨In, hIn⟩ : ∃ In, (L.take 8).map (·.take 80) = In := ⟨_, rfl⟩
  have hIl : ∀ l ∈ In, l.length ≤ 80 := by
    intro l hl
    rw [← hIn] at hl
    obtain ⟨x, _, rfl⟩ := List.mem_map.1 hl
    rw [List.length_take]; omega
  have hI8 : In.length ≤ 8 := by rw [← hIn, List.length_map, List.length_take]; omega
  have hlen : In.flatten.length ≤ 1000 := by
    rw [List.length_flatten]
    have : ∀ l : List (List RowT), (∀ x ∈ l, x.length ≤ 80) → (l.map List.length).sum ≤ l.length * 80 := by
      intro l
      induction l with
      | nil => intro _; simp
      | cons a l ih =>
        intro h
        rw [List.map_cons, List.sum_cons, List.length_cons]
        have := h a (by simp)
        have := ih (fun x hx => h x (by simp [hx]))
        omega
    have := this In hIl
    omega
  have hml := mergeG_len In.flatten p of
  obtain ⟨W, hW⟩ : ∃ W, mergeG In.flatten p of = W := ⟨_, rfl⟩
  rw [hW] at hml
  have m1 := merge_ev In of p (by omega) (fun l hl => by have := hIl l hl; omega)
  have m2 := ref_ev In of p o1 o2 (by omega) (fun l hl => by have := hIl l hl; omega)
  rw [hW] at m1 m2
  have s := same_ev W W (by omega)
  rw [decide_eq_true rfl] at s
  have e2 := merges_l2 In W (by omega) (fun l hl => by have := hIl l hl; omega) (by omega) In.length 0 (by omega)
  have e1 := merges_l1 In W e2 W.length 0 W (by omega) (by omega)
  have ej2 : Ev (fun k => tributarylaw4_WideMerges.j2 k In In W W W false) true := by
    refine Ev.step (fun k => ?_) e1
    simp only [tributarylaw4_WideMerges.j2]
    rw [if_neg (by simp)]
    rfl
  have ej1 : Ev (fun k => tributarylaw4_WideMerges.j1 k L p of In In ((min 8 L.length : Nat) : Int) false) true := by
    refine Ev.step (f := fun k => (wide_Merge.f k In p of).bind fun t221 => ((wide_Merge.f k In p of).bind fun t224 => ((tributaryref4_Merge.f k In p of).bind fun t227 => ((tributarylaw4_told.f k).bind fun t230 => (if t230 = true then ((tributaryref2_Same.f k t221 t227).bind fun t231 => (tributarylaw4_WideMerges.j2 k In In t221 t224 t227 (!t231))) else (tributarylaw4_WideMerges.j2 k In In t221 t224 t227 true)))))) (fun k => ?_) (Ev.bind m1 (Ev.bind m1 (Ev.bind m2 (Ev.bind told_ev (Ev.congr (fun k => if_pos rfl) (Ev.bind s ej2))))))
    simp only [tributarylaw4_WideMerges.j1]
    rw [if_neg (by simp)]
  have e0 := merges_l0 L p of (by rw [hIn]; exact ej1) (min 8 L.length) 0 (by omega)
  obtain ⟨k, hk⟩ := e0.rounds
  exact ⟨k, hk⟩
end Go.Proofs.Ytbbjkgpilmcldaa.Pure
