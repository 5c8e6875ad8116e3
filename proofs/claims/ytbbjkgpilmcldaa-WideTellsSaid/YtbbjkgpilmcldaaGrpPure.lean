/- Proved: what the document's grouping comes to, step by step: keys that rise strictly, each with its values; plain lists. -/
import Derived.Test.YtbbjkgpilmcldaaWideF
namespace Go.Proofs.Ytbbjkgpilmcldaa.Seq
open Go.RowKit
set_option linter.unusedVariables false
abbrev GrpP := Int × List Int
def posI (ks : List Int) (key : Int) : Nat := (ks.takeWhile fun k => decide (k < key)).length
theorem posI_le (ks : List Int) (key : Int) : posI ks key ≤ ks.length := by
  unfold posI
  have := List.takeWhile_append_dropWhile (p := fun k => decide (k < key)) (l := ks)
  have h := congrArg List.length this
  rw [List.length_append] at h
  omega
theorem posI_below (ks : List Int) (key : Int) : ∀ x ∈ ks.take (posI ks key), x < key := by
  have e : ks.take (posI ks key) = ks.takeWhile fun k => decide (k < key) := by
    have := List.takeWhile_append_dropWhile (p := fun k => decide (k < key)) (l := ks)
    unfold posI
    calc ks.take _ = ((ks.takeWhile fun k => decide (k < key)) ++ ks.dropWhile fun k => decide (k < key)).take (ks.takeWhile fun k => decide (k < key)).length := by rw [this]
      _ = _ := List.take_left
  rw [e]
  intro x hx
  have := List.all_takeWhile (p := fun k => decide (k < key)) (l := ks)
  rw [List.all_eq_true] at this
  simpa using this x hx
theorem posI_eq {ks : List Int} {key : Int} {k : Nat} (h1 : ∀ (i : Nat) (hi : i < ks.length), i < k → ks[i] < key) (hk : k ≤ ks.length) (h2 : ∀ hk : k < ks.length, ¬ ks[k] < key) : posI ks key = k := by
  unfold posI
  induction ks generalizing k with
  | nil => simp at hk; subst hk; rfl
  | cons a ks ih =>
    rw [List.takeWhile_cons]
    cases k with
    | zero =>
      have := h2 (by simp)
      simp only [List.getElem_cons_zero] at this
      simp [this]
    | succ k =>
      have h0 := h1 0 (by simp) (by omega)
      simp only [List.getElem_cons_zero] at h0
      simp only [h0, decide_true, if_true, List.length_cons]
      rw [ih (k := k) (fun i hi hik => by have := h1 (i + 1) (by simpa using hi) (by omega); simpa using this) (by simpa using hk) (fun hk => by have := h2 (by simpa using hk); simpa using this)]
theorem posI_above {ks : List Int} (hs : ks.Pairwise (· < ·)) (key : Int) : ∀ x ∈ ks.drop (posI ks key), key ≤ x := by
  have e : ks.drop (posI ks key) = ks.dropWhile fun k => decide (k < key) := by
    have := List.takeWhile_append_dropWhile (p := fun k => decide (k < key)) (l := ks)
    unfold posI
    calc ks.drop _ = ((ks.takeWhile fun k => decide (k < key)) ++ ks.dropWhile fun k => decide (k < key)).drop (ks.takeWhile fun k => decide (k < key)).length := by rw [this]
      _ = _ := List.drop_left
  have hp : (ks.drop (posI ks key)).Pairwise (· < ·) := hs.drop
  rw [e] at hp ⊢
  cases hd : ks.dropWhile fun k => decide (k < key) with
  | nil => simp
  | cons a r =>
    rw [hd, List.pairwise_cons] at hp
    have h0 : ¬ a < key := by
      have := List.head?_dropWhile_not (p := fun k => decide (k < key)) ks
      rw [hd] at this
      simpa using this
    intro x hx
    rcases List.mem_cons.1 hx with rfl | hx
    · omega
    · have := hp.1 x hx; omega
/-- A key's group is made sure of. -/
def ensureG (gs : List GrpP) (key : Int) : List GrpP :=
  if (gs.map (·.1))[posI (gs.map (·.1)) key]? = some key then gs else gs.take (posI (gs.map (·.1)) key) ++ (key, []) :: gs.drop (posI (gs.map (·.1)) key)
def pushG (gs : List GrpP) (key v : Int) : List GrpP :=
  (ensureG gs key).set (posI (gs.map (·.1)) key) (key, (((ensureG gs key)[posI (gs.map (·.1)) key]?).getD (key, [])).2 ++ [v])
def groupsOf (l : List RowT) : List GrpP := (keysS l).map fun k => (k, valsOf l k)
theorem groups_keys (l : List RowT) : (groupsOf l).map (·.1) = keysS l := by
  unfold groupsOf
  rw [List.map_map]
  exact List.map_id _
theorem keys_snoc (l : List RowT) (r : RowT) : keysS (l ++ [r]) = if hasK l r.f0 = true then keysS l else (keysS l).take (posI (keysS l) r.f0) ++ r.f0 :: (keysS l).drop (posI (keysS l) r.f0) := by
  by_cases h : hasK l r.f0 = true
  · rw [if_pos h]
    refine keysS_eq (keysS_lt l) (fun k => ?_)
    rw [mem_keysS, hasK_snoc]
    by_cases e : r.f0 = k
    · subst e; simp [h]
    · simp [e]
  · rw [if_neg h]
    have hb := posI_below (keysS l) r.f0
    have ha := posI_above (keysS_lt l) r.f0
    have hn : ∀ x ∈ keysS l, x ≠ r.f0 := fun x hx e => h (by rw [← mem_keysS, ← e]; exact hx)
    refine keysS_eq ?_ (fun k => ?_)
    · rw [List.pairwise_append, List.pairwise_cons]
      refine ⟨(keysS_lt l).take, ⟨fun x hx => ?_, (keysS_lt l).drop⟩, fun x hx y hy => ?_⟩
      · have := ha x hx
        have := hn x (List.mem_of_mem_drop hx)
        omega
      · have h1 := hb x hx
        rcases List.mem_cons.1 hy with rfl | hy
        · exact h1
        · have := ha y hy; omega
    · rw [hasK_snoc, Bool.or_eq_true, ← mem_keysS, beq_iff_eq]
      have e : k ∈ keysS l ↔ k ∈ (keysS l).take (posI (keysS l) r.f0) ∨ k ∈ (keysS l).drop (posI (keysS l) r.f0) := by
        rw [← List.mem_append, List.take_append_drop]
      rw [e, List.mem_append, List.mem_cons]
      constructor
      · rintro (h | rfl | h)
        · exact .inl (.inl h)
        · exact .inr rfl
        · exact .inl (.inr h)
      · rintro ((h | h) | h)
        · exact .inl h
        · exact .inr (.inr h)
        · exact .inr (.inl h.symm)
theorem pos_has (l : List RowT) (key : Int) : (keysS l)[posI (keysS l) key]? = some key ↔ hasK l key = true := by
  constructor
  · intro h
    rw [← mem_keysS]
    exact List.mem_of_getElem? h
  · intro h
    rw [← mem_keysS] at h
    obtain ⟨i, hi, e⟩ := List.getElem_of_mem h
    have : posI (keysS l) key = i := posI_eq (fun j hj hji => by
      have := List.pairwise_iff_getElem.1 (keysS_lt l) j i hj hi hji
      omega) (by omega) (fun _ => by omega)
    rw [this, List.getElem?_eq_getElem hi, e]
/-- **One row more.** -/
theorem push_groups (l : List RowT) (r : RowT) : pushG (groupsOf l) r.f0 r.f1 = groupsOf (l ++ [r]) := by
  unfold pushG
  have hpl := posI_le (keysS l) r.f0
  have hlen : (groupsOf l).length = (keysS l).length := by unfold groupsOf; rw [List.length_map]
  obtain ⟨p, hp⟩ : ∃ p, posI (keysS l) r.f0 = p := ⟨_, rfl⟩
  rw [groups_keys, hp]
  by_cases h : hasK l r.f0 = true
  · have hk : (keysS l)[p]? = some r.f0 := hp ▸ (pos_has l r.f0).2 h
    have e : ensureG (groupsOf l) r.f0 = groupsOf l := by
      unfold ensureG
      rw [groups_keys, hp, if_pos hk]
    rw [e]
    have hg : (groupsOf l)[p]? = some (r.f0, valsOf l r.f0) := by
      unfold groupsOf
      rw [List.getElem?_map, hk]; rfl
    rw [hg]
    have hkl : keysS (l ++ [r]) = keysS l := by rw [keys_snoc, if_pos h]
    apply List.ext_getElem?
    intro i
    rw [List.getElem?_set]
    unfold groupsOf
    rw [hkl, List.getElem?_map, List.getElem?_map, List.length_map]
    have hpl2 : p < (keysS l).length := (List.getElem?_eq_some_iff.1 hk).1
    by_cases e1 : p = i
    · subst e1
      rw [if_pos rfl, if_pos hpl2, hk]
      simp [valsOf_snoc]
    · rw [if_neg e1]
      cases hi : (keysS l)[i]? with
      | none => rfl
      | some k =>
        have hne : ¬ r.f0 = k := by
          intro e
          obtain ⟨h1, h2⟩ := List.getElem?_eq_some_iff.1 hk
          obtain ⟨h3, h4⟩ := List.getElem?_eq_some_iff.1 hi
          rcases Nat.lt_trichotomy p i with h5 | h5 | h5
          · have := List.pairwise_iff_getElem.1 (keysS_lt l) p i h1 h3 h5; omega
          · exact e1 h5
          · have := List.pairwise_iff_getElem.1 (keysS_lt l) i p h3 h1 h5; omega
        simp [valsOf_snoc, hne]
  · have hk : ¬ (keysS l)[p]? = some r.f0 := fun e => h ((pos_has l r.f0).1 (hp ▸ e))
    have hvn : valsOf l r.f0 = [] := valsOf_nil.2 (by cases e : hasK l r.f0 with | true => exact absurd e h | false => rfl)
    have e : ensureG (groupsOf l) r.f0 = (groupsOf l).take p ++ (r.f0, []) :: (groupsOf l).drop p := by
      unfold ensureG
      rw [groups_keys, hp, if_neg hk]
    have hkl : keysS (l ++ [r]) = (keysS l).take p ++ r.f0 :: (keysS l).drop p := by rw [keys_snoc, if_neg h, hp]
    have htl : ((groupsOf l).take p).length = p := by rw [List.length_take]; omega
    rw [e, List.getElem?_append_right (by omega), htl, Nat.sub_self]
    simp only [List.getElem?_cons_zero, Option.getD_some, List.nil_append]
    rw [List.set_append_right _ _ (by omega), htl, Nat.sub_self, List.set_cons_zero]
    have hmap : ∀ ks : List Int, (∀ k ∈ ks, k ∈ keysS l) → (ks.map fun k => (k, valsOf l k)) = ks.map fun k => (k, valsOf (l ++ [r]) k) := fun ks hks => List.map_congr_left (fun k hkm => by
      have : ¬ r.f0 = k := fun e => h (by rw [e, ← mem_keysS]; exact hks k hkm)
      rw [valsOf_snoc, if_neg this])
    unfold groupsOf
    rw [hkl, List.map_append, List.map_cons, ← List.map_take, ← List.map_drop, hmap _ (fun k hk => List.mem_of_mem_take hk), hmap _ (fun k hk => List.mem_of_mem_drop hk), valsOf_snoc, if_pos rfl, hvn, List.nil_append]
theorem groups_nil : groupsOf [] = [] := by
  have h := keys_le []
  unfold groupsOf
  rw [List.eq_nil_of_length_eq_zero (l := keysS []) (by simpa using h)]
  rfl
theorem groups_vals (l : List RowT) : ∀ g ∈ groupsOf l, g.2.length ≤ l.length := by
  intro g hg
  unfold groupsOf at hg
  obtain ⟨k, _, rfl⟩ := List.mem_map.1 hg
  exact valsOf_len l k
theorem groups_len (l : List RowT) : (groupsOf l).length ≤ l.length := by unfold groupsOf; rw [List.length_map]; exact keys_le l
end Go.Proofs.Ytbbjkgpilmcldaa.Seq
