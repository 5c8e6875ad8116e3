/- Proved: what ops' functions and the document's answers compute, as plain lists; condition: numbers that fit where a filter asks for evenness. -/
import Derived.Test.YtemnnnjlllgeeaaDoorPOpsx4
import Derived.Test.YtemnnnjlllgeeaaDoorPOpsx5
import Derived.Test.YtemnnnjlllgeeaaDoorPOpsx6
import Derived.Test.YtemnnnjlllgeeaaDoorOpsFew
import Derived.Test.YtemnnnjlllgeeaaDoorOpsTold
import Derived.IntWalk
namespace Go.Proofs.YtemnnnjlllgeeaaDoor.POps
open Go.RowKit Go.Proofs.YtemnnnjlllgeeaaDoorW.PrintWords Go.Proofs.YtemnnnjlllgeeaaDoorW.PrintLast Go.Proofs.YtemnnnjlllgeeaaDoorW.PrintMore Go.Proofs.YtemnnnjlllgeeaaDoor.Err
set_option linter.unusedVariables false
set_option linter.unusedSimpArgs false

theorem mapped2_eq (q0 q1 q2 q3 q4 x0 x1 : Int) : tributaryref3_mapped.f q0 q1 q2 q3 q4 x0 x1 = some ((mapS q3 q4 ⟨x0, x1⟩).f0, (mapS q3 q4 ⟨x0, x1⟩).f1) := mapped_eq q0 q1 q2 q3 q4 x0 x1
theorem stays_eq (q0 q1 q2 q3 q4 x0 x1 : Int) : tributaryref3_stays.f q0 q1 q2 q3 q4 x0 x1 = some (keepS q3 q4 ⟨x0, x1⟩) := by
  unfold tributaryref3_stays.f keepS
  rw [i64_and1]
  repeat' split
  all_goals first | rfl | (exfalso; contradiction) | simp_all
theorem exp2_eq (f c : Int) (hf : f = 1 ∨ f = 2 ∨ f = 3 ∨ f = 4) (k : Nat) (hk : 10 ≤ k) (q1 q2 x0 x1 : Int) (q0 : Int) : tributaryref3_One.l0 k [] 0 q0 q1 q2 f c x0 x1 = some (expS f c ⟨x0, x1⟩) := by
  obtain ⟨k, rfl⟩ : ∃ e, k = e + 10 := ⟨k - 10, by omega⟩
  rcases hf with rfl | rfl | rfl | rfl <;>
    simp [tributaryref3_One.l0, expS, List.range_succ, wrap64_in]
theorem cut2_eq (l : List RowT) : tributaryref2_Cut.f l = some (l.take 64) := by
  unfold tributaryref2_Cut.f
  have e : l.take (mn (l.length : Int) 64).toNat = l.take 64 := by
    unfold mn
    split
    · rfl
    · rw [List.take_of_length_le (by omega), List.take_of_length_le (by omega)]
  rw [if_pos (by unfold mn; split <;> omega), if_pos (by unfold mn; split <;> omega), e]
theorem same_l0 (l : List RowT) (hl : l.length ≤ 4611686018427387904) (d : Nat) : ∀ (i k : Nat), i + d = l.length → d < k → tributaryref2_Same.l0 k l l (i : Int) = some true := by
  induction d with
  | zero =>
    intro i k hi hk
    obtain ⟨k, rfl⟩ : ∃ e, k = e + 1 := ⟨k - 1, by omega⟩
    rw [tributaryref2_Same.l0, if_neg (by omega)]
  | succ d ih =>
    intro i k hi hk
    obtain ⟨k, rfl⟩ : ∃ e, k = e + 1 := ⟨k - 1, by omega⟩
    have ew : wrap64 ((i : Int) + 1) = ((i + 1 : Nat) : Int) := by unfold wrap64; omega
    rw [tributaryref2_Same.l0, if_pos (by omega), if_pos (by omega), if_pos (by omega), if_neg (by simp), ew]
    exact ih (i + 1) k (by omega) (by omega)
theorem same_eq (l : List RowT) (hl : l.length ≤ 4611686018427387904) (k : Nat) (hk : l.length < k) : tributaryref2_Same.f k l l = some true := by
  unfold tributaryref2_Same.f
  rw [if_pos rfl]
  exact same_l0 l hl l.length 0 k (by omega) hk

/-! ### the document's Right -/
theorem fun3_eq (q : Int) (k : Nat) (hk : 1 ≤ k) : tributaryref3_functions.f k q = some ((funs q).1, (funs q).2.1) := by
  obtain ⟨k, rfl⟩ : ∃ e, k = e + 1 := ⟨k - 1, by omega⟩
  unfold tributaryref3_functions.f
  rcases (by omega : (q < 1 ∨ 8 < q) ∨ q = 1 ∨ q = 2 ∨ q = 3 ∨ q = 4 ∨ q = 5 ∨ q = 6 ∨ q = 7 ∨ q = 8) with h | rfl | rfl | rfl | rfl | rfl | rfl | rfl | rfl
  · have e : funs q = (0, 0, false) := by
      unfold funs
      simp only [show ¬ (q = 1 ∨ q = 5) by omega, show ¬ (q = 2 ∨ q = 6 ∨ q = 8) by omega, show ¬ q = 3 by omega, show ¬ q = 4 by omega, show ¬ q = 7 by omega, if_false]
    have h8 : (q == 8) = false := beq_false_of_ne (by omega)
    rw [if_neg (by omega), if_neg (by omega), e, h8, tributaryref3_functions.j0, if_neg (by simp), if_neg (by omega), if_neg (by omega), if_neg (by omega)]
  all_goals rfl
def wrongP (q f c : Int) : Int := (wrong q f c).getD (-1)
theorem wrong_ge {q f c p : Int} (h : wrong q f c = some p) : 0 ≤ p ∧ p ≤ 2 := by
  unfold wrong at h
  repeat' split at h
  all_goals (cases h; try decide)
theorem right2_eq (q0 q1 q2 q3 q4 : Int) (k : Nat) (hk : 10 ≤ k) : tributaryref3_Right.f k q0 q1 q2 q3 q4 = some (wrongP q0 q3 q4) := by
  obtain ⟨k, rfl⟩ : ∃ e, k = e + 10 := ⟨k - 10, by omega⟩
  unfold tributaryref3_Right.f wrongP wrong
  by_cases hq : q0 < 1 ∨ 8 < q0
  · have e : funs q0 = (0, 0, false) := by
      unfold funs
      simp only [show ¬ (q0 = 1 ∨ q0 = 5) by omega, show ¬ (q0 = 2 ∨ q0 = 6 ∨ q0 = 8) by omega, show ¬ q0 = 3 by omega, show ¬ q0 = 4 by omega, show ¬ q0 = 7 by omega, if_false]
    rw [e, if_pos rfl]
    by_cases h1 : q0 < 1
    · rw [if_pos h1, tributaryref3_Right.j0, if_pos rfl]; rfl
    · rw [if_neg h1, show decide (q0 > 8) = true from decide_eq_true (by omega), tributaryref3_Right.j0, if_pos rfl]; rfl
  have e : (funs q0).2.2 = true := by
    rcases (by omega : q0 = 1 ∨ q0 = 2 ∨ q0 = 3 ∨ q0 = 4 ∨ q0 = 5 ∨ q0 = 6 ∨ q0 = 7 ∨ q0 = 8) with rfl | rfl | rfl | rfl | rfl | rfl | rfl | rfl <;> decide
  rw [if_neg (show ¬ q0 < 1 by omega), show decide (q0 > 8) = false from decide_eq_false (by omega), tributaryref3_Right.j0, if_neg (show ¬ (false = true) by decide), fun3_eq q0 _ (by omega), e, if_neg (show ¬ (true = false) by decide)]
  simp only [Option.bind_some]
  by_cases h1 : q3 < (funs q0).1
  · rw [if_pos h1, if_pos (Or.inl h1), tributaryref3_Right.j1, if_pos rfl]; rfl
  rw [if_neg h1]
  by_cases h2 : (funs q0).2.1 < q3
  · rw [show decide (q3 > (funs q0).2.1) = true from decide_eq_true h2, if_pos (Or.inr h2), tributaryref3_Right.j1, if_pos rfl]; rfl
  rw [show decide (q3 > (funs q0).2.1) = false from decide_eq_false h2, if_neg (by omega), tributaryref3_Right.j1, if_neg (by decide)]
  by_cases h3 : q4 > 999999999
  · rw [if_pos h3, if_pos (by omega)]; rfl
  rw [if_neg h3]
  by_cases h4 : q4 < -999999999
  · rw [if_pos h4, if_pos (by omega)]; rfl
  rw [if_neg h4]
  by_cases h5 : q4 = 0
  · rw [if_pos h5, if_neg (by omega)]; rfl
  rw [if_neg h5]
  by_cases h6 : q0 = 1
  · rw [if_pos h6, if_pos (by omega)]; rfl
  rw [if_neg h6]
  by_cases h7 : q0 ≥ 5
  · rw [if_pos h7, if_pos (by omega)]; rfl
  rw [if_neg h7, if_neg (by omega)]; rfl
theorem wrongP_neg {q f c : Int} : wrongP q f c ≥ 0 ↔ wrong q f c ≠ none := by
  unfold wrongP
  cases h : wrong q f c with
  | none => simp
  | some p => have := wrong_ge h; simp; omega
theorem one2_eq (q0 q1 q2 q3 q4 x0 x1 : Int) (k : Nat) (hk : 10 ≤ k) : tributaryref3_One.f k q0 q1 q2 q3 q4 x0 x1 = some (oneS q0 q3 q4 ⟨x0, x1⟩) := by
  unfold tributaryref3_One.f oneS
  rw [right2_eq q0 q1 q2 q3 q4 k hk]
  simp only [Option.bind_some]
  by_cases hw : wrong q0 q3 q4 = none
  · rw [if_neg (fun h => (wrongP_neg.1 h) hw), hw]
    simp only [Option.isSome_none, Bool.false_eq_true, if_false]
    by_cases h2 : q0 = 2
    · rw [if_pos h2, if_pos h2, mapped2_eq]; rfl
    rw [if_neg h2, if_neg h2]
    by_cases h3 : q0 = 3
    · rw [if_pos h3, if_pos h3, stays_eq]
      simp only [Option.bind_some]
      split <;> rfl
    rw [if_neg h3, if_neg h3]
    by_cases h4 : q0 = 4
    · rw [if_pos h4, if_neg (by omega), if_pos h4]
      subst h4
      exact exp2_eq q3 q4 (right_exp hw) k hk _ _ _ _ _
    rw [if_neg h4]
    by_cases h5 : q0 = 5
    · rw [if_pos h5, if_pos h5]; rfl
    rw [if_neg h5, if_neg h5, if_neg h4]
  · rw [if_pos (wrongP_neg.2 hw), if_pos (Option.isSome_iff_ne_none.2 hw)]

/-! ### Narrow, Wide, told -/
def narrowS (q : Int) : Bool := decide (2 ≤ q ∧ q ≤ 5)
theorem narrow_eq (q : Int) : (reachS q == 1) = narrowS q := by
  unfold reachS narrowS
  by_cases h : 2 ≤ q ∧ q ≤ 5
  · rw [if_neg (by omega), if_pos (by omega), decide_eq_true h]; rfl
  · rw [decide_eq_false h]
    split
    · rfl
    · rw [if_neg (by omega)]; rfl
def wideS (q : Int) : Bool := decide (6 ≤ q ∧ q ≤ 8)
theorem narrow_f (q : Int) : ops_Narrow.f q = some (narrowS q) := by rw [← narrow_eq]; rfl
theorem wide_f (q : Int) : ops_Wide.f q = some (wideS q) := by
  have : (reachS q == 2) = wideS q := by
    unfold reachS wideS
    by_cases h : 6 ≤ q ∧ q ≤ 8
    · rw [if_pos (by omega), decide_eq_true h]; rfl
    · rw [decide_eq_false h, if_neg (by omega)]
      split <;> rfl
  rw [← this]; rfl
theorem narrow2_f (q : Int) : tributaryref3_Narrow.f q = some (narrowS q) := by
  unfold tributaryref3_Narrow.f narrowS
  by_cases h : q ≥ 2
  · rw [if_pos h]; congr 1; simp only [decide_eq_decide]; omega
  · rw [if_neg h, decide_eq_false (by omega)]
theorem wide2_f (q : Int) : tributaryref3_Wide.f q = some (wideS q) := by
  unfold tributaryref3_Wide.f wideS
  by_cases h : q ≥ 6
  · rw [if_pos h]; congr 1; simp only [decide_eq_decide]; omega
  · rw [if_neg h, decide_eq_false (by omega)]
theorem code_eq (p : Int) : tributarylaw3_code.f (some (p * 256 + 50)) = some 50 := by
  unfold tributarylaw3_code.f erOf
  simp only [Option.map_some]
  rw [show (p * 256 + 50) % 256 = 50 by omega]
  rfl
theorem at_eq (p : Int) : tributarylaw3_at.f (some (p * 256 + 50)) = some p := by
  unfold tributarylaw3_at.f erOf
  simp only [Option.map_some]
  rw [show (p * 256 + 50) / 256 = p by omega]
  rfl
theorem told_eq (k : Nat) (hk : 10 ≤ k) : tributarylaw3_told.f = some true := rfl

/-! ### all rows -/
theorem oneS_len (q f c : Int) (r : RowT) : (oneS q f c r).length ≤ 4 := by
  unfold oneS
  by_cases hw : wrong q f c = none
  · rw [hw, if_neg (by simp)]
    by_cases h2 : q = 2
    · rw [if_pos h2]; simp
    rw [if_neg h2]
    by_cases h3 : q = 3
    · rw [if_pos h3]; split <;> simp
    rw [if_neg h3]
    by_cases h5 : q = 5
    · rw [if_pos h5]; simp
    rw [if_neg h5]
    by_cases h4 : q = 4
    · rw [if_pos h4]
      subst h4
      have := right_exp hw
      unfold expS
      rw [List.length_map, List.length_range]
      omega
    · rw [if_neg h4]; simp
  · rw [if_pos (Option.isSome_iff_ne_none.2 hw)]; simp
def badS (q f c : Int) : Bool := (wrong q f c).isSome || !narrowS q
def appS (q f c : Int) (a b : List RowT) : List RowT :=
  if badS q f c = true then [] else if q = 5 then (a ++ b).take 64 else (a.flatMap (oneS q f c)).take 64
theorem rd_cons (l : List RowT) (i : Nat) (h : i < l.length) : l.drop i = rd_T62 l i :: l.drop (i + 1) := by
  rw [List.drop_eq_getElem_cons h]
  congr 1
  unfold rd_T62
  rw [Int.toNat_natCast, List.getD_eq_getElem?_getD, List.getElem?_eq_getElem h]
  rfl
theorem rowEta (r : RowT) : (⟨r.f0, r.f1⟩ : RowT) = r := by cases r; rfl
theorem app_l0 (q0 q1 q2 q3 q4 : Int) (l : List RowT) (hl : l.length ≤ 4611686018427387904) (d : Nat) : ∀ (i k : Nat) (acc : List RowT), i + d = l.length → acc.length < 64 → d + 11 ≤ k →
    ops_Apply.l0 k acc l (l.length : Int) (i : Int) q0 q1 q2 q3 q4 = some ((acc ++ (l.drop i).flatMap (oneS q0 q3 q4)).take 64) := by
  induction d with
  | zero =>
    intro i k acc hi ha hk
    obtain ⟨k, rfl⟩ : ∃ e, k = e + 1 := ⟨k - 1, by omega⟩
    rw [ops_Apply.l0, if_neg (by omega), cut_eq, List.drop_of_length_le (by omega)]
    simp
  | succ d ih =>
    intro i k acc hi ha hk
    obtain ⟨k, rfl⟩ : ∃ e, k = e + 1 := ⟨k - 1, by omega⟩
    have ew : wrap64 ((i : Int) + 1) = ((i + 1 : Nat) : Int) := by unfold wrap64; omega
    have hn := oneS_len q0 q3 q4 (rd_T62 l i)
    rw [ops_Apply.l0, if_pos (by omega), if_pos (by omega), if_pos (by omega), one_eq _ _ _ _ _ _ _ k (by omega), rowEta]
    simp only [Option.bind_some]
    rw [if_pos (by omega), rd_cons l i (by omega), List.flatMap_cons, ← List.append_assoc]
    by_cases h : (((acc ++ oneS q0 q3 q4 (rd_T62 l i)).length : Nat) : Int) ≥ 64
    · rw [if_pos h, cut_eq]
      simp only [Option.bind_some]
      exact congrArg some (List.take_append_of_le_length (by omega)).symm
    · rw [if_neg h, ew]
      exact ih (i + 1) k _ (by omega) (by omega) (by omega)
theorem app_eq (q0 q1 q2 q3 q4 : Int) (a b : List RowT) (ha : a.length ≤ 1000000) (hb : b.length ≤ 1000000) (k : Nat) (hk : a.length + 12 ≤ k) : ops_Apply.f k q0 q1 q2 q3 q4 a b = some (appS q0 q3 q4 a b) := by
  obtain ⟨k, rfl⟩ : ∃ e, k = e + 1 := ⟨k - 1, by omega⟩
  unfold ops_Apply.f ops_Right.f appS badS
  rw [narrow_f]
  simp only [Option.bind_some]
  by_cases hw : wrong q0 q3 q4 = none
  · rw [if_pos (wrongQ_none.2 hw), hw, ops_Apply.j0]
    simp only [Option.isSome_none, Bool.false_or]
    by_cases hn : (!narrowS q0) = true
    · rw [if_pos hn, if_pos hn]
    rw [if_neg hn, if_neg hn]
    by_cases h5 : q0 = 5
    · rw [if_pos h5, if_pos h5, cut_eq]
      simp only [Option.bind_some]
      rw [if_pos (by rw [List.length_take]; omega), cut_eq]
      simp only [Option.bind_some]
      congr 1
      rw [List.take_append, List.take_append, List.take_take, Nat.min_self, List.length_take]
      congr 1
      by_cases h : a.length ≤ 64
      · rw [show min 64 a.length = a.length by omega]
      · rw [show 64 - min 64 a.length = 0 by omega, show 64 - a.length = 0 by omega]
    · rw [if_neg h5, if_neg h5]
      have := app_l0 q0 q1 q2 q3 q4 a (by omega) a.length 0 k [] (by omega) (by decide) (by omega)
      rw [show ((0 : Nat) : Int) = 0 from rfl] at this
      rw [this, List.drop_zero, List.nil_append]
  · rw [if_neg (fun h => hw (wrongQ_none.1 h)), ops_Apply.j0, if_pos rfl, Option.isSome_iff_ne_none.2 hw]
    rfl
theorem app2_l0 (q0 q1 q2 q3 q4 : Int) (l b : List RowT) (hl : l.length ≤ 1000000) (hb : b.length ≤ 1000000) (d : Nat) : ∀ (i k : Nat) (acc : List RowT), i + d = l.length → acc.length ≤ 4 * i → d + 11 ≤ k →
    tributaryref3_Apply.l0 k l b acc (i : Int) q0 q1 q2 q3 q4 = some (((acc ++ (l.drop i).flatMap (oneS q0 q3 q4)) ++ (if q0 = 5 then b else [])).take 64) := by
  induction d with
  | zero =>
    intro i k acc hi ha hk
    obtain ⟨k, rfl⟩ : ∃ e, k = e + 1 := ⟨k - 1, by omega⟩
    rw [tributaryref3_Apply.l0, if_neg (by omega), List.drop_of_length_le (by omega)]
    by_cases h5 : q0 = 5
    · rw [if_pos h5, if_pos h5, if_pos (by omega), cut2_eq]; simp
    · rw [if_neg h5, if_neg h5, cut2_eq]; simp
  | succ d ih =>
    intro i k acc hi ha hk
    obtain ⟨k, rfl⟩ : ∃ e, k = e + 1 := ⟨k - 1, by omega⟩
    have ew : wrap64 ((i : Int) + 1) = ((i + 1 : Nat) : Int) := by unfold wrap64; omega
    have hn := oneS_len q0 q3 q4 (rd_T62 l i)
    rw [tributaryref3_Apply.l0, if_pos (by omega), if_pos (by omega), one2_eq _ _ _ _ _ _ _ k (by omega), rowEta]
    simp only [Option.bind_some]
    rw [if_pos (by omega), rd_cons l i (by omega), List.flatMap_cons, ← List.append_assoc, ew]
    exact ih (i + 1) k _ (by omega) (by rw [List.length_append]; omega) (by omega)
theorem union_flat (f c : Int) (h : wrong 5 f c = none) (l : List RowT) : l.flatMap (oneS 5 f c) = l := by
  induction l with
  | nil => rfl
  | cons r l ih =>
    rw [List.flatMap_cons, ih]
    have : oneS 5 f c r = [r] := by
      unfold oneS
      rw [h, if_neg (by simp), if_neg (by decide), if_neg (by decide), if_pos rfl]
    rw [this]; rfl
theorem app2_eq (q0 q1 q2 q3 q4 : Int) (a b : List RowT) (ha : a.length ≤ 1000000) (hb : b.length ≤ 1000000) (k : Nat) (hk : a.length + 12 ≤ k) : tributaryref3_Apply.f k q0 q1 q2 q3 q4 a b = some (appS q0 q3 q4 a b) := by
  obtain ⟨k, rfl⟩ : ∃ e, k = e + 1 := ⟨k - 1, by omega⟩
  unfold tributaryref3_Apply.f appS badS
  rw [narrow2_f, right2_eq q0 q1 q2 q3 q4 _ (by omega)]
  simp only [Option.bind_some]
  by_cases hw : wrong q0 q3 q4 = none
  · rw [if_neg (fun h => (wrongP_neg.1 h) hw), hw, tributaryref3_Apply.j0]
    simp only [Option.isSome_none, Bool.false_or]
    by_cases hn : (!narrowS q0) = true
    · rw [if_pos hn, if_pos hn]
    rw [if_neg hn, if_neg hn]
    have := app2_l0 q0 q1 q2 q3 q4 a b ha hb a.length 0 k [] (by omega) (by simp) (by omega)
    rw [show ((0 : Nat) : Int) = 0 from rfl] at this
    rw [this, List.drop_zero, List.nil_append]
    by_cases h5 : q0 = 5
    · subst h5
      rw [if_pos rfl, if_pos rfl, union_flat _ _ hw]
    · rw [if_neg h5, if_neg h5, List.append_nil]
  · rw [if_pos (wrongP_neg.2 hw), tributaryref3_Apply.j0, if_pos rfl, Option.isSome_iff_ne_none.2 hw]
    rfl
theorem appS_len (q f c : Int) (a b : List RowT) : (appS q f c a b).length ≤ 64 := by
  unfold appS
  split
  · simp
  · split <;> (rw [List.length_take]; omega)
theorem take_app_l (a b : List RowT) : ((a.take 64) ++ b).take 64 = (a ++ b).take 64 := by
  rw [List.take_append, List.take_append, List.take_take, Nat.min_self, List.length_take]
  congr 1
  by_cases h : a.length ≤ 64
  · rw [show min 64 a.length = a.length by omega]
  · rw [show 64 - min 64 a.length = 0 by omega, show 64 - a.length = 0 by omega]
theorem take_app_r (a b : List RowT) : (a ++ b.take 64).take 64 = (a ++ b).take 64 := by
  rw [List.take_append, List.take_append, List.take_take, show min (64 - a.length) 64 = 64 - a.length by omega]
theorem take_mn (l : List RowT) (n : Int) (hn : n = (l.length : Int)) : 0 ≤ mn n 64 ∧ mn n 64 ≤ (l.length : Int) ∧ l.take (mn n 64).toNat = l.take 64 := by
  subst hn
  unfold mn
  split
  · exact ⟨by omega, by omega, rfl⟩
  · exact ⟨by omega, by omega, by rw [List.take_of_length_le (by omega), List.take_of_length_le (by omega)]⟩
theorem take_back (l : List RowT) (n : Nat) : l.take (l.take n).length = l.take n := by
  rw [List.length_take]
  by_cases h : n ≤ l.length
  · rw [Nat.min_eq_left h]
  · rw [Nat.min_eq_right (by omega), List.take_length, List.take_of_length_le (by omega)]
end Go.Proofs.YtemnnnjlllgeeaaDoor.POps
