/- Proved: the condition of the law OpsBack' walk holds of every input of the row. -/
import Derived.Test.YtemnnnjlllgeeaaDoorPOpsBackq
import Derived.Test.YtemnnnjlllgeeaaDoorOpsPure
import Derived.IntWalk
import Derived.OpenShut
import Derived.DataShut
namespace Go.Proofs.YtemnnnjlllgeeaaDoor.Pure
open Go.RowKit Go.Proofs.YtemnnnjlllgeeaaDoor.POps Go.Proofs.YtemnnnjlllgeeaaDoorW.PrintWords Go.Proofs.YtemnnnjlllgeeaaDoorW.PrintLast Go.Proofs.YtemnnnjlllgeeaaDoorW.PrintMore
set_option linter.unusedVariables false
set_option linter.unusedSimpArgs false

def okI (x : Int) : Prop := -9223372036854775808 ≤ x ∧ x ≤ 9223372036854775807
theorem okI_of {x : Int} (h : (Lit.int .i64 x).wf = true) : okI x := by
  have h2 : -9223372036854775808 ≤ x ∧ x ≤ 9223372036854775807 := (Lit.wf_int_iff .i64 x).1 h
  unfold okI
  omega
def okRow (r : RowT) : Prop := okI r.f0 ∧ okI r.f1
theorem add_back {v c : Int} (hv : okI v) (hc : -999999999 ≤ c ∧ c ≤ 999999999) : wrap64 (wrap64 (v + c) + wrap64 (-c)) = v := by
  unfold okI at hv; unfold wrap64; omega
theorem right_map {f c : Int} (hf : 0 ≤ f ∧ f ≤ 5) (hc : -999999999 ≤ c ∧ c ≤ 999999999) : wrong 2 f c = none := by
  unfold wrong
  rw [show funs 2 = (0, 5, true) by decide, if_neg (by simp), if_neg (by simp only []; omega), if_neg (by omega)]
theorem right_filter {f c : Int} (hf : 0 ≤ f ∧ f ≤ 4) (hc : -999999999 ≤ c ∧ c ≤ 999999999) : wrong 3 f c = none := by
  unfold wrong
  rw [show funs 3 = (0, 4, true) by decide, if_neg (by simp), if_neg (by simp only []; omega), if_neg (by omega)]
theorem flat_one {g : RowT → RowT} (l : List RowT) : l.flatMap (fun r => [g r]) = l.map g := by
  induction l with
  | nil => rfl
  | cons r l ih => rw [List.flatMap_cons, ih]; rfl
theorem flat_keep {p : RowT → Bool} (l : List RowT) : l.flatMap (fun r => if p r = true then [r] else []) = l.filter p := by
  induction l with
  | nil => rfl
  | cons r l ih =>
    rw [List.flatMap_cons, ih, List.filter_cons]
    split <;> simp
theorem app_map {f c : Int} (hf : 0 ≤ f ∧ f ≤ 5) (hc : -999999999 ≤ c ∧ c ≤ 999999999) (x : List RowT) (hx : x.length ≤ 64) : appS 2 f c x [] = x.map (mapS f c) := by
  have hw := right_map hf hc
  unfold appS badS
  rw [hw, if_neg (by decide), if_neg (by decide)]
  have : oneS 2 f c = fun r => [mapS f c r] := by
    funext r
    unfold oneS
    rw [hw, if_neg (by simp), if_pos rfl]
  rw [this, flat_one, List.take_of_length_le (by rw [List.length_map]; omega)]
theorem app_filter {f c : Int} (hf : 0 ≤ f ∧ f ≤ 4) (hc : -999999999 ≤ c ∧ c ≤ 999999999) (x : List RowT) (hx : x.length ≤ 64) : appS 3 f c x [] = x.filter (keepS f c) := by
  have hw := right_filter hf hc
  unfold appS badS
  rw [hw, if_neg (by decide), if_neg (by decide)]
  have : oneS 3 f c = fun r => if keepS f c r = true then [r] else [] := by
    funext r
    unfold oneS
    rw [hw, if_neg (by simp), if_neg (by decide), if_pos rfl]
  rw [this, flat_keep, List.take_of_length_le]
  have := List.length_filter_le (keepS f c) x
  omega
theorem drop_more {l : List RowT} {i : Nat} {a : RowT} {t : List RowT} (h : l.drop i = a :: t) : i < l.length ∧ rd_T62 l (i : Int) = a ∧ l.drop (i + 1) = t := by
  have hi : i < l.length := by
    by_cases h' : i < l.length
    · exact h'
    · rw [List.drop_of_length_le (by omega)] at h; cases h
  rw [rd_cons l i hi] at h
  injection h with h1 h2
  exact ⟨hi, h1, h2⟩
theorem back_l0 (c : Int) (x : List RowT) (hx : x.length ≤ 64) (d : Nat) : ∀ (n k i j : Nat), n + d = x.length → i ≤ (x.filter (keepS 0 c)).length → j ≤ (x.filter (keepS 1 c)).length → (x.filter (keepS 0 c)).drop i = (x.drop n).filter (keepS 0 c) → (x.filter (keepS 1 c)).drop j = (x.drop n).filter (keepS 1 c) → 2 * d + 300 ≤ k →
    tributarylaw3_OpsBack.l0 k c x x x x (x.filter (keepS 0 c)) (x.filter (keepS 1 c)) (i : Int) (j : Int) (n : Int) = some true := by
  obtain ⟨lo, hlo⟩ : ∃ l, l = x.filter (keepS 0 c) := ⟨_, rfl⟩
  obtain ⟨hi_, hhi⟩ : ∃ l, l = x.filter (keepS 1 c) := ⟨_, rfl⟩
  have n0 : lo.length ≤ 64 := by rw [hlo]; have := List.length_filter_le (keepS 0 c) x; omega
  have n1 : hi_.length ≤ 64 := by rw [hhi]; have := List.length_filter_le (keepS 1 c) x; omega
  rw [← hlo, ← hhi]
  induction d with
  | zero =>
    intro n k i j hn hi hj h0 h1 hk
    obtain ⟨k, rfl⟩ : ∃ e, k = e + 1 := ⟨k - 1, by omega⟩
    rw [List.drop_of_length_le (show x.length ≤ n by omega), List.filter_nil] at h0 h1
    have e0 : i = lo.length := by have := congrArg List.length h0; rw [List.length_drop, List.length_nil] at this; omega
    have e1 : j = hi_.length := by have := congrArg List.length h1; rw [List.length_drop, List.length_nil] at this; omega
    have hs := same_eq x (by omega) k (by omega)
    have e2 : (i : Int) = (lo.length : Int) := by omega
    rw [tributarylaw3_OpsBack.l0, if_neg (by omega), told_eq k (by omega), Option.bind_some, if_pos rfl, hs, Option.bind_some, if_pos rfl, Option.bind_some, if_pos rfl, Option.bind_some, if_pos rfl, if_pos e2, e1, beq_self_eq_true]
  | succ d ih =>
    intro n k i j hn hi hj h0 h1 hk
    obtain ⟨k, rfl⟩ : ∃ e, k = e + 2 := ⟨k - 2, by omega⟩
    have ewn : wrap64 ((n : Int) + 1) = ((n + 1 : Nat) : Int) := by unfold wrap64; omega
    have ewi : wrap64 ((i : Int) + 1) = ((i + 1 : Nat) : Int) := by unfold wrap64; omega
    have ewj : wrap64 ((j : Int) + 1) = ((j + 1 : Nat) : Int) := by unfold wrap64; omega
    rw [rd_cons x n (by omega), List.filter_cons] at h0 h1
    obtain ⟨r, hr⟩ : ∃ r, r = rd_T62 x (n : Int) := ⟨_, rfl⟩
    rw [← hr] at h0 h1
    have k0 : keepS 0 c r = decide (r.f1 < c) := rfl
    have k1 : keepS 1 c r = decide (r.f1 ≥ c) := rfl
    rw [tributarylaw3_OpsBack.l0, if_pos (by omega), ← hr]
    by_cases hv : r.f1 < c
    · rw [k0, if_pos (decide_eq_true hv)] at h0
      rw [k1, if_neg (by simp; omega)] at h1
      obtain ⟨a1, a2, a3⟩ := drop_more h0
      have p1 : (i : Int) < (lo.length : Int) := by omega
      have p4 : (r.f0 == r.f0 && (r.f1 == r.f1)) = true := by simp
      rw [if_pos p1, if_pos (Int.natCast_nonneg i), if_pos (Int.natCast_nonneg n), a2, if_pos p4, decide_eq_true hv, tributarylaw3_OpsBack.j1, if_pos rfl, ewi, ewn]
      exact ih (n + 1) k (i + 1) j (by omega) (by omega) (by omega) a3 h1 (by omega)
    · rw [k0, if_neg (show ¬ decide (r.f1 < c) = true from fun h => hv (of_decide_eq_true h))] at h0
      have p3 : r.f1 ≥ c := by omega
      rw [k1, if_pos (decide_eq_true p3)] at h1
      obtain ⟨a1, a2, a3⟩ := drop_more h1
      have q1 : n + 1 + d = x.length := by clear h0 h1 a3 k0 k1 p3 ewn ewi ewj ih; omega
      have q2 : j + 1 ≤ hi_.length := a1
      have q3 : 2 * d + 300 ≤ k := by clear h0 h1 a3 k0 k1 p3 ewn ewi ewj ih; omega
      have fin : tributarylaw3_OpsBack.j1 (k + 1) c x x x x lo hi_ (i : Int) (j : Int) (n : Int) false = some true := by
        have p1 : (j : Int) < (hi_.length : Int) := Int.ofNat_lt.2 a1
        have p2 : (n : Int) < (x.length : Int) := Int.ofNat_lt.2 (by clear h0 h1 a3 k0 k1 p3 ewn ewi ewj ih; omega)
        have p4 : (r.f0 == r.f0 && (r.f1 == r.f1)) = true := by simp
        rw [tributarylaw3_OpsBack.j1, if_neg (show ¬ (false = true) from Bool.noConfusion), if_pos p1, if_pos (Int.natCast_nonneg j), if_pos (Int.natCast_nonneg n), if_pos p2, ← hr, a2, if_pos p4, if_pos p3, ewj, ewn]
        exact ih (n + 1) k i (j + 1) q1 hi q2 h0 a3 q3
      rw [decide_eq_false hv, fin]
      by_cases hl : (i : Int) < (lo.length : Int)
      · rw [if_pos hl, if_pos (Int.natCast_nonneg i), if_pos (Int.natCast_nonneg n), ite_self]
      · rw [if_neg hl]
theorem tmod_bd (a : Int) : -999999999 ≤ Int.tmod a 1000000000 ∧ Int.tmod a 1000000000 ≤ 999999999 := by
  have h1 := Int.tmod_lt_of_pos a (b := 1000000000) (by omega)
  have h2 := Int.lt_tmod_of_pos a (b := 1000000000) (by omega)
  omega
theorem OpsBack : tributarylaw3_OpsBack.Pure := by
  intro a0 l1 _ hq _
  refine ⟨1000, ?_⟩
  unfold tributarylaw3_OpsBack.f
  rw [few_eq l1 64 (by decide) (by decide), Option.bind_some]
  obtain ⟨x, hx⟩ : ∃ x, x = l1.take (64 : Int).toNat := ⟨_, rfl⟩
  have lx : x.length ≤ 64 := by rw [hx, List.length_take]; exact Nat.min_le_left _ _
  have ox : ∀ r ∈ x, okRow r := by
    intro r hr
    rw [hx] at hr
    have := hq.2 r (List.mem_of_mem_take hr)
    exact ⟨okI_of this.1, okI_of this.2⟩
  rw [← hx]
  have bc0 := tmod_bd a0
  generalize Int.tmod a0 1000000000 = c at bc0 ⊢
  have bc : -999999999 ≤ c ∧ c ≤ 999999999 := bc0
  have ec : wrap64 (-c) = -c := by unfold wrap64; omega
  rw [ec]
  have m1 := app_map (f := 0) (by decide) bc x lx
  have m2 := app_map (f := 0) (c := -c) (by decide) (by omega) (x.map (mapS 0 c)) (by rw [List.length_map]; exact lx)
  have m3 := app_map (f := 3) (c := 0) (by decide) (by decide) x lx
  have m4 := app_map (f := 3) (c := 0) (by decide) (by decide) (x.map (mapS 3 0)) (by rw [List.length_map]; exact lx)
  have m5 := app_map (f := 2) (by decide) bc x lx
  have m6 := app_map (f := 2) (c := -c) (by decide) (by omega) (x.map (mapS 2 c)) (by rw [List.length_map]; exact lx)
  have m7 := app_filter (f := 0) (by decide) bc x lx
  have m8 := app_filter (f := 1) (by decide) bc x lx
  have b1 : (x.map (mapS 0 c)).map (mapS 0 (-c)) = x := by
    rw [List.map_map]
    conv => rhs; rw [← List.map_id x]
    refine List.map_congr_left fun r hr => ?_
    obtain ⟨h0, h1⟩ := ox r hr
    cases r with
    | mk f0 f1 =>
      show (⟨f0, wrap64 (wrap64 (f1 + c) + -c)⟩ : RowT) = ⟨f0, f1⟩
      rw [← ec, add_back h1 bc]
  have b2 : (x.map (mapS 3 0)).map (mapS 3 0) = x := by
    rw [List.map_map]
    conv => rhs; rw [← List.map_id x]
    refine List.map_congr_left fun r hr => ?_
    cases r
    rfl
  have b3 : (x.map (mapS 2 c)).map (mapS 2 (-c)) = x := by
    rw [List.map_map]
    conv => rhs; rw [← List.map_id x]
    refine List.map_congr_left fun r hr => ?_
    obtain ⟨h0, h1⟩ := ox r hr
    cases r with
    | mk f0 f1 =>
      show (⟨wrap64 (wrap64 (f0 + c) + -c), f1⟩ : RowT) = ⟨f0, f1⟩
      rw [← ec, add_back h0 bc]
  have A : ∀ (f d : Int) (y : List RowT), y.length ≤ 64 → ∀ q, ops_Apply.f 1000 q 0 0 f d y [] = some (appS q f d y []) := fun f d y hy q => app_eq _ _ _ _ _ y [] (by omega) (by simp) 1000 (by omega)
  rw [A 0 c x lx, m1, Option.bind_some]
  rw [A 0 (-c) _ (by rw [List.length_map]; exact lx), m2, b1, Option.bind_some]
  rw [A 3 0 x lx, m3, Option.bind_some]
  rw [A 3 0 _ (by rw [List.length_map]; exact lx), m4, b2, Option.bind_some]
  rw [A 2 c x lx, m5, Option.bind_some]
  rw [A 2 (-c) _ (by rw [List.length_map]; exact lx), m6, b3, Option.bind_some]
  rw [A 0 c x lx, m7, Option.bind_some, A 1 c x lx, m8, Option.bind_some]
  exact back_l0 c x lx x.length 0 1000 0 0 (by omega) (by omega) (by omega) rfl rfl (by omega)
end Go.Proofs.YtemnnnjlllgeeaaDoor.Pure
