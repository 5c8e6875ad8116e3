/- Proved: the condition of the law OpsShapes' walk holds of every input of the row. -/
import Derived.Test.YtemnnnjlllgeeaaDoorPOpsShapesq
import Derived.Test.YtemnnnjlllgeeaaDoorOpsPure
import Derived.IntWalk
import Derived.OpenShut
import Derived.DataShut
namespace Go.Proofs.YtemnnnjlllgeeaaDoor.Pure
open Go.RowKit Go.Proofs.YtemnnnjlllgeeaaDoor.POps Go.Proofs.YtemnnnjlllgeeaaDoorW.PrintWords Go.Proofs.YtemnnnjlllgeeaaDoorW.PrintLast Go.Proofs.YtemnnnjlllgeeaaDoorW.PrintMore
set_option linter.unusedVariables false
set_option linter.unusedSimpArgs false

def okI (x : Int) : Prop := -9223372036854775808 ≤ x ∧ x ≤ 9223372036854775807
theorem okI_of {x : Int} (h : (Lit.int .i64 x).wf = true) : okI x := by
  have h2 : -9223372036854775808 ≤ x ∧ x ≤ 9223372036854775807 := (Lit.wf_int_iff .i64 x).1 h
  unfold okI
  omega
def okRow (r : RowT) : Prop := okI r.f0 ∧ okI r.f1
theorem bad_none {q f c : Int} (h : badS q f c = false) : wrong q f c = none ∧ narrowS q = true := by
  unfold badS at h
  cases hw : wrong q f c with
  | none => rw [hw] at h; refine ⟨rfl, ?_⟩; simpa using h
  | some p => rw [hw] at h; cases h
theorem flat_len {g : RowT → List RowT} (n : Nat) (h : ∀ r, (g r).length = n) (l : List RowT) : (l.flatMap g).length = n * l.length := by
  induction l with
  | nil => simp
  | cons r l ih => rw [List.flatMap_cons, List.length_append, h, ih, List.length_cons, Nat.mul_succ]; omega
theorem flat_get {g : RowT → List RowT} (n : Nat) (hn : 0 < n) (h : ∀ r, (g r).length = n) (l : List RowT) : ∀ i, i < n * l.length → (l.flatMap g).getD i z62 = (g (l.getD (i / n) z62)).getD (i % n) z62 := by
  induction l with
  | nil => intro i hi; simp at hi
  | cons r l ih =>
    intro i hi
    rw [List.length_cons, Nat.mul_succ] at hi
    rw [List.flatMap_cons]
    by_cases h' : i < n
    · rw [Nat.div_eq_of_lt h', Nat.mod_eq_of_lt h', List.getD_eq_getElem?_getD, List.getElem?_append_left (by rw [h]; exact h'), ← List.getD_eq_getElem?_getD]
      rfl
    · obtain ⟨j, rfl⟩ : ∃ j, i = n + j := ⟨i - n, by omega⟩
      rw [List.getD_eq_getElem?_getD, List.getElem?_append_right (by rw [h]; omega), h, Nat.add_sub_cancel_left, ← List.getD_eq_getElem?_getD, ih j (by omega), Nat.add_div_left _ hn, Nat.add_mod_left]
      rfl
theorem exp_len (f c : Int) (hf : f = 1 ∨ f = 2 ∨ f = 3 ∨ f = 4) (r : RowT) : (expS f c r).length = f.toNat := by
  unfold expS; rw [List.length_map, List.length_range]
theorem exp_get (f c : Int) (r : RowT) (hr : okRow r) (j : Nat) (hj : j < f.toNat) : ((expS f c r).getD j z62).f0 = r.f0 ∧ (j = 0 → (expS f c r).getD j z62 = r) := by
  unfold expS
  rw [List.getD_eq_getElem?_getD, List.getElem?_map, List.getElem?_range hj]
  refine ⟨rfl, ?_⟩
  rintro rfl
  have := hr.2
  unfold okI at this
  cases r with
  | mk f0 f1 =>
    show (⟨f0, wrap64 (f1 + wrap64 (0 * c))⟩ : RowT) = ⟨f0, f1⟩
    rw [Int.zero_mul, show wrap64 0 = 0 by unfold wrap64; omega, Int.add_zero]
    rw [show wrap64 f1 = f1 by unfold wrap64; simp only at this; omega]
theorem shapes_l0 (q1 q2 f c : Int) (hf : f = 1 ∨ f = 2 ∨ f = 3 ∨ f = 4) (x : List RowT) (hx : x.length ≤ 100) (ox : ∀ r ∈ x, okRow r) (d : Nat) : ∀ (i k : Nat), i + d = ((x.flatMap (expS f c)).take 64).length → d + 300 ≤ k →
    tributarylaw3_OpsShapes.l0 k x ((x.flatMap (expS f c)).take 64) (i : Int) 4 q1 q2 f c = some true := by
  obtain ⟨n, hn⟩ : ∃ n : Nat, f = (n : Int) := ⟨f.toNat, by omega⟩
  have n4 : n = 1 ∨ n = 2 ∨ n = 3 ∨ n = 4 := by omega
  have lf : (x.flatMap (expS f c)).length = n * x.length := flat_len n (fun r => by rw [exp_len f c hf r, hn]; rfl) x
  have hget := fun i hi => flat_get n (by omega) (fun r => by rw [exp_len f c hf r, hn]; rfl) x (g := expS f c) i hi
  have hdiv : ∀ i, i < n * x.length → i / n < x.length := fun i hi => (Nat.div_lt_iff_lt_mul (by omega)).2 (by rw [Nat.mul_comm]; exact hi)
  have hfm : f * (x.length : Int) = ((n * x.length : Nat) : Int) := by rw [hn]; push_cast; rfl
  have hp4 : n * x.length ≤ 400 := Nat.le_trans (Nat.mul_le_mul (show n ≤ 4 by omega) hx) (by decide)
  obtain ⟨p, hp⟩ : ∃ p, p = n * x.length := ⟨_, rfl⟩
  rw [← hp] at lf hget hdiv hfm hp4
  clear hp
  obtain ⟨l, hl⟩ : ∃ l, l = (x.flatMap (expS f c)).take 64 := ⟨_, rfl⟩
  have ll : l.length = min 64 p := by rw [hl, List.length_take, lf]
  rw [← hl]
  induction d with
  | zero =>
    intro i k hi hk
    obtain ⟨k, rfl⟩ : ∃ e, k = e + 1 := ⟨k - 1, by omega⟩
    rw [tributarylaw3_OpsShapes.l0, if_neg (by omega), told_eq k (by omega)]
    simp only [Option.bind_some, if_true]
    congr 1
    rw [beq_iff_eq, hfm, wrap64_in _ (by omega), ll]
    unfold mn
    split <;> omega
  | succ d ih =>
    intro i k hi hk
    obtain ⟨k, rfl⟩ : ∃ e, k = e + 1 := ⟨k - 1, by omega⟩
    have hi64 : i < 64 := by omega
    have hin : i < p := by omega
    have hil : (i : Int) < (l.length : Int) := by omega
    have hnext : i + 1 + d = l.length := by omega
    have hk2 : d + 300 ≤ k := by omega
    clear hi hk ll hp4 lf hfm
    have ew : wrap64 ((i : Int) + 1) = ((i + 1 : Nat) : Int) := wrap64_in _ (by omega)
    have n0 : 0 < n := by omega
    have hq : i / n < x.length := hdiv i hin
    have hq64 : i / n ≤ i := Nat.div_le_self _ _
    have ed : wrap64 (Int.tdiv (i : Int) f) = ((i / n : Nat) : Int) := by
      rw [hn, show Int.tdiv (i : Int) (n : Int) = ((i / n : Nat) : Int) from rfl]
      generalize i / n = q at hq64 ⊢
      exact wrap64_in _ (by omega)
    have em : Int.tmod (i : Int) f = ((i % n : Nat) : Int) := by rw [hn]; rfl
    have hr : rd_T62 l (i : Int) = (expS f c (rd_T62 x ((i / n : Nat) : Int))).getD (i % n) z62 := by
      unfold rd_T62
      rw [Int.toNat_natCast, Int.toNat_natCast, hl, List.getD_eq_getElem?_getD, List.getElem?_take_of_lt hi64, ← List.getD_eq_getElem?_getD]
      exact hget i hin
    have hok : okRow (rd_T62 x ((i / n : Nat) : Int)) := by
      unfold rd_T62
      rw [Int.toNat_natCast, List.getD_eq_getElem?_getD, List.getElem?_eq_getElem hq]
      exact ox _ (List.getElem_mem hq)
    have hmod : i % n < f.toNat := by rw [hn, Int.toNat_natCast]; exact Nat.mod_lt _ n0
    obtain ⟨g1, g2⟩ := exp_get f c _ hok (i % n) hmod
    have c1 : (0 : Int) ≤ ((i / n : Nat) : Int) := Int.natCast_nonneg _
    have c2 : ((i / n : Nat) : Int) < (x.length : Int) := Int.ofNat_lt.2 hq
    rw [tributarylaw3_OpsShapes.l0, if_pos hil, if_pos (Int.natCast_nonneg i), if_neg (by omega), ed, em, if_pos c1, if_pos c2, hr, if_pos g1, ew]
    by_cases hz : i % n = 0
    · rw [if_pos (show ((i % n : Nat) : Int) = 0 by rw [hz]; rfl), g2 hz, if_neg (by simp)]
      exact ih (i + 1) k hnext hk2
    · rw [if_neg (show ¬ ((i % n : Nat) : Int) = 0 from fun h => hz (by exact_mod_cast h))]
      exact ih (i + 1) k hnext hk2
theorem sub_ne {a b : RowT} {s t : List RowT} (h : List.Sublist (a :: s) (b :: t)) (hne : b ≠ a) : List.Sublist (a :: s) t := by
  cases h with
  | cons _ h => exact h
  | cons_cons _ h => exact absurd rfl hne
theorem shapes_l12 (q1 q2 f c : Int) (x l : List RowT) (hx : x.length ≤ 100) (hl : l.length ≤ 64) (hs : appS 3 f c l [] = l) (d : Nat) :
    (∀ (j i k : Nat), j + d = x.length → i ≤ l.length → List.Sublist (l.drop i) (x.drop j) → 2 * d + 300 ≤ k → tributarylaw3_OpsShapes.l1 k x l (j : Int) (i : Int) 3 q1 q2 f c = some true) ∧
    (∀ (j i k : Nat), j + d = x.length → i < l.length → List.Sublist (l.drop i) (x.drop j) → 2 * d + 299 ≤ k → tributarylaw3_OpsShapes.l2 k x l (j : Int) (i : Int) 3 q1 q2 f c = some true) := by
  have fin : ∀ (j i k : Nat), i = l.length → 300 ≤ k → tributarylaw3_OpsShapes.l1 k x l (j : Int) (i : Int) 3 q1 q2 f c = some true := by
    intro j i k hi hk
    obtain ⟨k, rfl⟩ : ∃ e, k = e + 1 := ⟨k - 1, by omega⟩
    rw [tributarylaw3_OpsShapes.l1, if_neg (by omega), told_eq k (by omega)]
    simp only [Option.bind_some, if_true]
    rw [app_eq _ _ _ _ _ l [] (by omega) (by simp) k (by omega), hs]
    simp only [Option.bind_some]
    rw [same_eq l (by omega) k (by omega)]
    rfl
  have one : ∀ d, (∀ (j i k : Nat), j + d = x.length → i < l.length → List.Sublist (l.drop i) (x.drop j) → 2 * d + 299 ≤ k → tributarylaw3_OpsShapes.l2 k x l (j : Int) (i : Int) 3 q1 q2 f c = some true) →
      ∀ (j i k : Nat), j + d = x.length → i ≤ l.length → List.Sublist (l.drop i) (x.drop j) → 2 * d + 300 ≤ k → tributarylaw3_OpsShapes.l1 k x l (j : Int) (i : Int) 3 q1 q2 f c = some true := by
    intro d h j i k hj hi hsub hk
    by_cases he : i = l.length
    · exact fin j i k he (by omega)
    · obtain ⟨k, rfl⟩ : ∃ e, k = e + 1 := ⟨k - 1, by omega⟩
      rw [tributarylaw3_OpsShapes.l1, if_pos (by omega)]
      exact h j i k hj (by omega) hsub (by omega)
  suffices h : ∀ d, (∀ (j i k : Nat), j + d = x.length → i < l.length → List.Sublist (l.drop i) (x.drop j) → 2 * d + 299 ≤ k → tributarylaw3_OpsShapes.l2 k x l (j : Int) (i : Int) 3 q1 q2 f c = some true) from ⟨one d (h d), h d⟩
  clear d
  intro d
  induction d with
  | zero =>
    intro j i k hj hi hsub hk
    rw [List.drop_of_length_le (show x.length ≤ j by omega)] at hsub
    have := hsub.length_le
    rw [List.length_drop, List.length_nil] at this
    omega
  | succ d ih =>
    intro j i k hj hi hsub hk
    obtain ⟨k, rfl⟩ : ∃ e, k = e + 1 := ⟨k - 1, by omega⟩
    have ewj : wrap64 ((j : Int) + 1) = ((j + 1 : Nat) : Int) := by unfold wrap64; omega
    have ewi : wrap64 ((i : Int) + 1) = ((i + 1 : Nat) : Int) := by unfold wrap64; omega
    rw [rd_cons l i hi, rd_cons x j (by omega)] at hsub
    rw [tributarylaw3_OpsShapes.l2, if_pos (by omega), if_pos (by omega), if_pos (by omega), if_pos (by omega)]
    by_cases he : rd_T62 x (j : Int) = rd_T62 l (i : Int)
    · rw [he, if_neg (by simp), if_neg (by omega), ewj, ewi]
      rw [he] at hsub
      exact one d ih (j + 1) (i + 1) k (by omega) (by omega) (List.cons_sublist_cons.1 hsub) (by omega)
    · have hne : (!((rd_T62 x (j : Int)).f0 == (rd_T62 l (i : Int)).f0) || !((rd_T62 x (j : Int)).f1 == (rd_T62 l (i : Int)).f1)) = true := by
        by_cases h0 : (rd_T62 x (j : Int)).f0 = (rd_T62 l (i : Int)).f0
        · have h1 : ¬ (rd_T62 x (j : Int)).f1 = (rd_T62 l (i : Int)).f1 := by
            intro h1
            apply he
            rw [← rowEta (rd_T62 x (j : Int)), ← rowEta (rd_T62 l (i : Int)), h0, h1]
          rw [beq_eq_false_iff_ne.2 h1]; simp
        · rw [beq_eq_false_iff_ne.2 h0]; simp
      rw [if_pos hne, ewj]
      refine ih (j + 1) i k (by omega) hi ?_ (by omega)
      rw [rd_cons l i hi]
      exact sub_ne hsub he
theorem flat_keep {p : RowT → Bool} (l : List RowT) : l.flatMap (fun r => if p r = true then [r] else []) = l.filter p := by
  induction l with
  | nil => rfl
  | cons r l ih =>
    rw [List.flatMap_cons, ih, List.filter_cons]
    split <;> simp
theorem shapes_j0 (q0 q1 q2 q3 q4 : Int) (x y : List RowT) (lx : x.length ≤ 100) (ly : y.length ≤ 100) (ox : ∀ r ∈ x, okRow r) (k : Nat) (hk : 900 ≤ k) : tributarylaw3_OpsShapes.j0 (k + 1) x y (appS q0 q3 q4 x y) (badS q0 q3 q4) q0 q1 q2 q3 q4 = some true := by
  rw [tributarylaw3_OpsShapes.j0]
  cases hb : badS q0 q3 q4 with
  | true =>
    have e : appS q0 q3 q4 x y = [] := by unfold appS; rw [hb, if_pos rfl]
    rw [if_pos rfl, told_eq k (by omega), Option.bind_some, if_pos rfl, e]; rfl
  | false =>
    obtain ⟨hw, hn⟩ := bad_none hb
    rw [if_neg (by decide)]
    by_cases h2 : q0 = 2
    · subst h2
      have e : (appS 2 q3 q4 x y).length = min 64 x.length := by
        unfold appS
        rw [hb, if_neg (by decide), if_neg (by decide), List.length_take, flat_len 1 (fun r => by unfold oneS; rw [hw, if_neg (by simp), if_pos rfl]; rfl) x, Nat.one_mul]
      rw [if_pos rfl, told_eq k (by omega), Option.bind_some, if_pos rfl, e]
      congr 1
      rw [beq_iff_eq]
      unfold mn
      split <;> omega
    rw [if_neg h2]
    by_cases h5 : q0 = 5
    · subst h5
      have e : appS 5 q3 q4 x y = (x ++ y).take 64 := by unfold appS; rw [hb, if_neg (by decide), if_pos rfl]
      have ew : wrap64 ((x.length : Int) + (y.length : Int)) = ((x ++ y).length : Int) := by rw [List.length_append]; unfold wrap64; omega
      obtain ⟨b1, b2, b3⟩ := take_mn (x ++ y) _ ew
      have la := appS_len 5 q3 q4 x y
      rw [if_pos rfl, told_eq k (by omega), Option.bind_some, if_pos rfl, if_pos (by omega), Option.bind_some, if_pos b1, if_pos b2, b3, ← e, same_eq _ (by omega) k (by omega)]
      rfl
    rw [if_neg h5]
    by_cases h4 : q0 = 4
    · subst h4
      have hf := right_exp hw
      have e : appS 4 q3 q4 x y = (x.flatMap (expS q3 q4)).take 64 := by
        unfold appS
        rw [hb, if_neg (by decide), if_neg (by decide)]
        have : oneS 4 q3 q4 = expS q3 q4 := by
          funext r
          unfold oneS
          rw [hw, if_neg (by simp), if_neg (by decide), if_neg (by decide), if_neg (by decide), if_pos rfl]
        rw [this]
      rw [if_pos rfl, e]
      have h := shapes_l0 q1 q2 q3 q4 hf x lx ox _ 0 k (Nat.zero_add _) (by rw [List.length_take]; omega)
      rw [show ((0 : Nat) : Int) = 0 from rfl] at h
      exact h
    rw [if_neg h4]
    have h3 : q0 = 3 := by
      unfold narrowS at hn
      have := of_decide_eq_true hn
      omega
    subst h3
    have one3 : oneS 3 q3 q4 = fun r => if keepS q3 q4 r = true then [r] else [] := by
      funext r
      unfold oneS
      rw [hw, if_neg (by simp), if_neg (by decide), if_pos rfl]
    have ap3 : ∀ a b, appS 3 q3 q4 a b = (a.filter (keepS q3 q4)).take 64 := by
      intro a b
      unfold appS
      rw [hb, if_neg (by decide), if_neg (by decide), one3, flat_keep]
    have la := appS_len 3 q3 q4 x y
    have hs : appS 3 q3 q4 (appS 3 q3 q4 x y) [] = appS 3 q3 q4 x y := by
      rw [ap3, ap3, List.filter_eq_self.2, List.take_take, Nat.min_self]
      intro a ha
      exact (List.mem_filter.1 (List.mem_of_mem_take ha)).2
    have hsub : List.Sublist ((appS 3 q3 q4 x y).drop 0) (x.drop 0) := by
      rw [List.drop_zero, List.drop_zero, ap3]
      exact (List.take_sublist _ _).trans List.filter_sublist
    have h := (shapes_l12 q1 q2 q3 q4 x _ lx la hs x.length).1 0 0 k (Nat.zero_add _) (Nat.zero_le _) hsub (by omega)
    rw [show ((0 : Nat) : Int) = 0 from rfl] at h
    exact h
theorem OpsShapes : tributarylaw3_OpsShapes.Pure := by
  intro q0 q1 q2 q3 q4 l1 l2 _ hq _ _ _
  refine ⟨1000, ?_⟩
  unfold tributarylaw3_OpsShapes.f
  rw [few_eq l1 100 (by decide) (by decide), few_eq l2 100 (by decide) (by decide), narrow_f]
  unfold ops_Right.f
  simp only [Option.bind_some]
  obtain ⟨x, hx⟩ : ∃ x, x = l1.take (100 : Int).toNat := ⟨_, rfl⟩
  obtain ⟨y, hy⟩ : ∃ x, x = l2.take (100 : Int).toNat := ⟨_, rfl⟩
  have lx : x.length ≤ 100 := by rw [hx, List.length_take]; exact Nat.min_le_left _ _
  have ly : y.length ≤ 100 := by rw [hy, List.length_take]; exact Nat.min_le_left _ _
  have ox : ∀ r ∈ x, okRow r := by
    intro r hr
    rw [hx] at hr
    have := hq.2 r (List.mem_of_mem_take hr)
    exact ⟨okI_of this.1, okI_of this.2⟩
  rw [← hx, ← hy, app_eq _ _ _ _ _ x y (by omega) (by omega) 1000 (by omega)]
  simp only [Option.bind_some]
  have ej : (if (wrongQ q0 q3 q4).isNone = true then tributarylaw3_OpsShapes.j0 1000 x y (appS q0 q3 q4 x y) (!narrowS q0) q0 q1 q2 q3 q4 else tributarylaw3_OpsShapes.j0 1000 x y (appS q0 q3 q4 x y) true q0 q1 q2 q3 q4) = tributarylaw3_OpsShapes.j0 1000 x y (appS q0 q3 q4 x y) (badS q0 q3 q4) q0 q1 q2 q3 q4 := by
    unfold badS
    by_cases hw : wrong q0 q3 q4 = none
    · rw [if_pos (wrongQ_none.2 hw), hw, Option.isSome_none, Bool.false_or]
    · rw [if_neg (fun h => hw (wrongQ_none.1 h)), Option.isSome_iff_ne_none.2 hw, Bool.true_or]
  rw [ej]
  exact shapes_j0 q0 q1 q2 q3 q4 x y lx ly ox 999 (by decide)
end Go.Proofs.YtemnnnjlllgeeaaDoor.Pure
