/- Proved: what ops' functions and the document's answers compute, as plain lists; condition: numbers that fit where a filter asks for evenness. -/
import Derived.Test.YtemnnnjlllgeeaaDoorPOpsx2
import Derived.Test.YtemnnnjlllgeeaaDoorPOpsx3
import Derived.IntWalk
namespace Go.Proofs.YtemnnnjlllgeeaaDoor.POps
open Go.RowKit Go.Proofs.YtemnnnjlllgeeaaDoorW.PrintWords Go.Proofs.YtemnnnjlllgeeaaDoorW.PrintLast Go.Proofs.YtemnnnjlllgeeaaDoorW.PrintMore Go.Proofs.YtemnnnjlllgeeaaDoor.Err
set_option linter.unusedVariables false
set_option linter.unusedSimpArgs false

abbrev RowT := S62
theorem wrap64_in (x : Int) (h : -9223372036854775808 ≤ x ∧ x ≤ 9223372036854775807) : wrap64 x = x := by unfold wrap64; omega
theorem few_eq (l : List RowT) (n : Int) (h0 : 0 ≤ n) (hn : n < 8796093022208) : tributarylaw3_few.f l n = some (l.take n.toNat) := by
  unfold tributarylaw3_few.f
  have e : l.take (mn (l.length : Int) n).toNat = l.take n.toNat := by
    unfold mn
    split
    · rfl
    · rw [List.take_of_length_le (by omega), List.take_of_length_le (by omega)]
  rw [if_pos (by unfold mn; split <;> omega), if_pos (by unfold mn; split <;> omega), e]
  simp only [Option.bind_some, List.length_nil, List.nil_append]
  rw [if_pos (by rw [List.length_take]; omega)]
theorem cut_eq (l : List RowT) : rows_Cut.f l = some (l.take 64) := by
  unfold rows_Cut.f
  have e : l.take (mn (l.length : Int) 64).toNat = l.take 64 := by
    unfold mn
    split
    · rfl
    · rw [List.take_of_length_le (by omega), List.take_of_length_le (by omega)]
  rw [if_pos (by unfold mn; split <;> omega), if_pos (by unfold mn; split <;> omega), e]
  simp only [Option.bind_some, List.length_nil, List.nil_append]
  rw [if_pos (by rw [List.length_take]; omega)]

theorem i64_and7 (n : Int) : Go.bits .and .i64 n 7 = n % 8 := by
  have h127 : (BitVec.ofInt 64 7).toNat = 2 ^ 3 - 1 := by decide
  have key : (BitVec.ofInt 64 n &&& BitVec.ofInt 64 7).toNat = (n % ((2 ^ 64 : Nat) : Int)).toNat % 2 ^ 3 := by
    rw [BitVec.toNat_and, BitVec.toNat_ofInt, h127, Nat.and_two_pow_sub_one_eq_mod]
  show IntKind.i64.wrap ((BitVec.ofInt 64 n &&& BitVec.ofInt 64 7).toNat : Nat) = n % 8
  rw [key, IntKind.wrap_i64]
  omega
theorem i64_and1 (n : Int) : Go.bits .and .i64 n 1 = n % 2 := by
  have h127 : (BitVec.ofInt 64 1).toNat = 2 ^ 1 - 1 := by decide
  have key : (BitVec.ofInt 64 n &&& BitVec.ofInt 64 1).toNat = (n % ((2 ^ 64 : Nat) : Int)).toNat % 2 ^ 1 := by
    rw [BitVec.toNat_and, BitVec.toNat_ofInt, h127, Nat.and_two_pow_sub_one_eq_mod]
  show IntKind.i64.wrap ((BitVec.ofInt 64 n &&& BitVec.ofInt 64 1).toNat : Nat) = n % 2
  rw [key, IntKind.wrap_i64]
  omega

/-! ### one row -/
def mapS (f c : Int) (r : RowT) : RowT :=
  if f = 0 then ⟨r.f0, wrap64 (r.f1 + c)⟩ else if f = 1 then ⟨r.f0, wrap64 (r.f1 * c)⟩ else if f = 2 then ⟨wrap64 (r.f0 + c), r.f1⟩ else if f = 3 then ⟨r.f1, r.f0⟩
  else if f = 4 then ⟨Int.tmod (wrap64 ((Int.tmod r.f1 (wrap64 (1 + c % 8))) + (wrap64 (1 + c % 8)))) (wrap64 (1 + c % 8)), r.f1⟩ else ⟨r.f0, r.f0⟩
def keepS (f c : Int) (r : RowT) : Bool :=
  if f = 0 then decide (r.f1 < c) else if f = 1 then decide (r.f1 ≥ c) else if f = 2 then r.f0 == c else if f = 3 then (r.f1 % 2 == 0) else decide (r.f0 < c)
def expS (f c : Int) (r : RowT) : List RowT := (List.range f.toNat).map fun i : Nat => ⟨r.f0, wrap64 (r.f1 + wrap64 ((i : Int) * c))⟩
def oneS (q f c : Int) (r : RowT) : List RowT :=
  if (wrong q f c).isSome = true then [] else if q = 2 then [mapS f c r] else if q = 3 then (if keepS f c r = true then [r] else []) else if q = 5 then [r] else if q = 4 then expS f c r else []
theorem wrongQ_none {q f c : Int} : (wrongQ q f c).isNone = true ↔ wrong q f c = none := by
  unfold wrongQ; cases wrong q f c <;> simp
theorem mapped_eq (q0 q1 q2 q3 q4 x0 x1 : Int) : ops_mapped.f q0 q1 q2 q3 q4 x0 x1 = some ((mapS q3 q4 ⟨x0, x1⟩).f0, (mapS q3 q4 ⟨x0, x1⟩).f1) := by
  unfold ops_mapped.f mapS
  rw [i64_and7]
  have hm : wrap64 (1 + q4 % 8) ≠ 0 := by unfold wrap64; omega
  repeat' split
  all_goals first | rfl | (exfalso; contradiction) | simp_all
theorem tmod2 (x : Int) : (Int.tmod x 2 == 0) = (x % 2 == 0) := by
  by_cases h : x % 2 = 0
  · rw [h, Int.tmod_eq_zero_of_dvd (Int.dvd_of_emod_eq_zero h)]
  · have h2 : ¬ Int.tmod x 2 = 0 := fun h' => h (Int.emod_eq_zero_of_dvd (Int.dvd_of_tmod_eq_zero h'))
    rw [beq_eq_false_iff_ne.2 h, beq_eq_false_iff_ne.2 h2]
theorem kept_eq (q0 q1 q2 q3 q4 x0 x1 : Int) : ops_kept.f q0 q1 q2 q3 q4 x0 x1 = some (keepS q3 q4 ⟨x0, x1⟩) := by
  unfold ops_kept.f keepS
  rw [tmod2]
  repeat' split
  all_goals first | rfl | (exfalso; contradiction) | simp_all
/-- What is wrong, of a kind that is asked: the bounds of an expansion. -/
theorem right_exp {f c : Int} (h : wrong 4 f c = none) : f = 1 ∨ f = 2 ∨ f = 3 ∨ f = 4 := by
  unfold wrong at h
  have e : funs 4 = (1, 4, true) := by decide
  rw [e, if_neg (by simp)] at h
  by_cases h1 : f < 1 ∨ 4 < f
  · rw [if_pos h1] at h; cases h
  · omega
theorem exp_eq (f c : Int) (hf : f = 1 ∨ f = 2 ∨ f = 3 ∨ f = 4) (k : Nat) (hk : 10 ≤ k) (q1 q2 x0 x1 : Int) (q0 : Int) : ops_One.l0 k [] f 0 q0 q1 q2 f c x0 x1 = some (expS f c ⟨x0, x1⟩) := by
  obtain ⟨k, rfl⟩ : ∃ e, k = e + 10 := ⟨k - 10, by omega⟩
  rcases hf with rfl | rfl | rfl | rfl <;>
    simp [ops_One.l0, expS, List.range_succ, wrap64_in]
theorem one_eq (q0 q1 q2 q3 q4 x0 x1 : Int) (k : Nat) (hk : 10 ≤ k) : ops_One.f k q0 q1 q2 q3 q4 x0 x1 = some (oneS q0 q3 q4 ⟨x0, x1⟩) := by
  unfold ops_One.f ops_Right.f oneS
  rw [Option.bind_some]
  by_cases hw : wrong q0 q3 q4 = none
  · rw [if_pos (wrongQ_none.2 hw), hw]
    simp only [Option.isSome_none, Bool.false_eq_true, if_false]
    by_cases h2 : q0 = 2
    · rw [if_pos h2, if_pos h2, mapped_eq]; rfl
    rw [if_neg h2, if_neg h2]
    by_cases h3 : q0 = 3
    · rw [if_pos h3, if_pos h3, kept_eq]
      simp only [Option.bind_some]
      split <;> rfl
    rw [if_neg h3, if_neg h3]
    by_cases h5 : q0 = 5
    · rw [if_pos h5, if_pos h5]
    rw [if_neg h5, if_neg h5]
    by_cases h4 : q0 = 4
    · rw [if_pos h4, if_pos h4]
      subst h4
      exact exp_eq q3 q4 (right_exp hw) k hk _ _ _ _ _
    · rw [if_neg h4, if_neg h4]
  · rw [if_neg (fun h => hw (wrongQ_none.1 h)), if_pos (Option.isSome_iff_ne_none.2 hw)]

end Go.Proofs.YtemnnnjlllgeeaaDoor.POps
