/- Proved: plain facts of what Fold tells (keys, values, running on); no program in sight. -/
import Derived.Test.YtbbjkgpilmcldaaGrMaps
namespace Go.Proofs.Ytbbjkgpilmcldaa.Seq
open Go.RowKit
set_option linter.unusedVariables false
theorem keysS_lt (l : List RowT) : (keysS l).Pairwise (· < ·) := by
  have h1 : (keysS l).Pairwise (fun x y => decide (x ≤ y) = true) := List.pairwise_mergeSort (fun a b c h1 h2 => by simp at *; omega) (fun a b => by simp; omega) _
  have h2 : (keysS l).Nodup := (List.mergeSort_perm _ _).nodup_iff.2 (nodup_dk l)
  refine (h1.and h2).imp (fun {a b} h => ?_)
  have := h.1
  have := h.2
  simp at *
  omega
theorem mem_keysS (l : List RowT) (k : Int) : k ∈ keysS l ↔ hasK l k = true := by
  unfold keysS sorted
  rw [(List.mergeSort_perm _ _).mem_iff, mem_dk]
theorem lt_ext : ∀ (a b : List Int), a.Pairwise (· < ·) → b.Pairwise (· < ·) → (∀ k, k ∈ a ↔ k ∈ b) → a = b
  | [], [], _, _, _ => rfl
  | [], y :: b, _, _, h => absurd ((h y).2 (by simp)) (by simp)
  | x :: a, [], _, _, h => absurd ((h x).1 (by simp)) (by simp)
  | x :: a, y :: b, ha, hb, h => by
    rw [List.pairwise_cons] at ha hb
    have e : x = y := by
      have h1 : x = y ∨ x ∈ b := by simpa using (h x).1 (by simp)
      have h2 : y = x ∨ y ∈ a := by simpa using (h y).2 (by simp)
      rcases h1 with h1 | h1
      · exact h1
      · rcases h2 with h2 | h2
        · exact h2.symm
        · have := ha.1 y h2; have := hb.1 x h1; omega
    subst e
    rw [lt_ext a b ha.2 hb.2 (fun k => ?_)]
    constructor
    · intro hk
      have h1 : k = x ∨ k ∈ b := by simpa using (h k).1 (by simp [hk])
      rcases h1 with rfl | h1
      · have := ha.1 _ hk; omega
      · exact h1
    · intro hk
      have h1 : k = x ∨ k ∈ a := by simpa using (h k).2 (by simp [hk])
      rcases h1 with rfl | h1
      · have := hb.1 _ hk; omega
      · exact h1
theorem keysS_eq {l : List RowT} {ks : List Int} (h1 : ks.Pairwise (· < ·)) (h2 : ∀ k, k ∈ ks ↔ hasK l k = true) : keysS l = ks :=
  lt_ext _ _ (keysS_lt l) h1 (fun k => by rw [mem_keysS, h2])
theorem hasK_append (a b : List RowT) (k : Int) : hasK (a ++ b) k = (hasK a k || hasK b k) := by simp [hasK]
theorem valsOf_append (a b : List RowT) (k : Int) : valsOf (a ++ b) k = valsOf a k ++ valsOf b k := by simp [valsOf]
theorem runV_append (f : Nat) (p : Int × Bool) (a b : List Int) : runV f p (a ++ b) = runV f (runV f p a) b := by simp [runV]
theorem runV_there (f : Nat) (zs : List Int) : ∀ p : Int × Bool, (runV f p zs).2 = (p.2 || !zs.isEmpty) := by
  induction zs with
  | nil => intro p; simp [runV]
  | cons z zs ih =>
    intro p
    show (runV f (stepV f p z) zs).2 = _
    rw [ih]
    unfold stepV
    split <;> simp
theorem lastV_none {l : List RowT} {k : Int} (h : hasK l k = false) : lastV l k = 0 := by
  unfold lastV
  rw [valsOf_nil.2 h]
  rfl
theorem vals_isEmpty (l : List RowT) (k : Int) : (!(valsOf l k).isEmpty) = hasK l k := by
  cases h : hasK l k with
  | false => rw [valsOf_nil.2 h]; rfl
  | true =>
    have : valsOf l k ≠ [] := fun e => by rw [valsOf_nil.1 e] at h; cases h
    cases hv : valsOf l k with
    | nil => exact absurd hv this
    | cons a b => rfl
/-- Rows with each key once, keys as told. -/
theorem vals_map (ks : List Int) (g : Int → Int) (hks : ks.Nodup) (k : Int) : valsOf (ks.map fun k => (⟨k, g k⟩ : RowT)) k = if k ∈ ks then [g k] else [] := by
  induction ks with
  | nil => rfl
  | cons a ks ih =>
    rw [List.nodup_cons] at hks
    have ih := ih hks.2
    unfold valsOf at ih ⊢
    rw [List.map_cons, List.filter_cons]
    by_cases e : a = k
    · subst e
      rw [if_neg hks.1] at ih
      simp only [beq_self_eq_true, if_true, List.map_cons, ih]
      try simp
    · have e' : ¬ k = a := fun h => e h.symm
      simp only [beq_iff_eq, e, if_false, ih, List.mem_cons, e', false_or]
      try simp
theorem has_map (ks : List Int) (g : Int → Int) (k : Int) : hasK (ks.map fun k => (⟨k, g k⟩ : RowT)) k = decide (k ∈ ks) := by
  induction ks with
  | nil => rfl
  | cons a ks ih =>
    unfold hasK at ih ⊢
    rw [List.map_cons, List.any_cons, ih]
    by_cases e : a = k
    · subst e; simp
    · have e' : ¬ k = a := fun h => e h.symm
      simp [e, e']
/-- What is run to at a key. -/
def valF (f : Nat) (bf l : List RowT) (k : Int) : Int := (runV f (lastV bf k, hasK bf k) (valsOf l k)).1
theorem foldF_map (f : Nat) (bf l : List RowT) : foldF f bf l = ((keysS (bf ++ l)).take 64).map fun k => (⟨k, valF f bf l k⟩ : RowT) := rfl
theorem keys_le (l : List RowT) : (keysS l).length ≤ l.length := by rw [keysS_len]; exact dk_len l
theorem foldF_few (f : Nat) (bf l : List RowT) (h : bf.length + l.length ≤ 64) : foldF f bf l = (keysS (bf ++ l)).map fun k => (⟨k, valF f bf l k⟩ : RowT) := by
  rw [foldF_map, List.take_of_length_le]
  have := keys_le (bf ++ l)
  rw [List.length_append] at this
  omega
theorem foldF_len (f : Nat) (bf l : List RowT) : (foldF f bf l).length ≤ 64 ∧ (foldF f bf l).length ≤ bf.length + l.length := by
  rw [foldF_map, List.length_map, List.length_take]
  have := keys_le (bf ++ l)
  rw [List.length_append] at this
  omega
theorem keys_nodup (l : List RowT) : (keysS l).Nodup := (keysS_lt l).imp (fun h => by omega)
theorem foldF_has {f : Nat} {bf l : List RowT} (h : bf.length + l.length ≤ 64) (k : Int) : hasK (foldF f bf l) k = (hasK bf k || hasK l k) := by
  rw [foldF_few f bf l h, has_map]
  have := mem_keysS (bf ++ l) k
  rw [hasK_append] at this
  by_cases e : k ∈ keysS (bf ++ l)
  · rw [this.1 e]; simp [e]
  · have e2 : (hasK bf k || hasK l k) = false := by simpa using fun h => e (this.2 h)
    rw [e2]; simp [e]
theorem foldF_last {f : Nat} {bf l : List RowT} (h : bf.length + l.length ≤ 64) (k : Int) : lastV (foldF f bf l) k = if (hasK bf k || hasK l k) = true then valF f bf l k else 0 := by
  rw [foldF_few f bf l h]
  unfold lastV
  rw [vals_map _ _ (keys_nodup _)]
  have := mem_keysS (bf ++ l) k
  rw [hasK_append] at this
  by_cases e : k ∈ keysS (bf ++ l)
  · rw [if_pos e, if_pos (this.1 e)]; rfl
  · rw [if_neg e, if_neg (fun h => e (this.2 h))]; rfl
/-- **A state that runs on in two steps is the one that runs on in one.** -/
theorem foldF_twice (f : Nat) (x a b : List RowT) (h : x.length + a.length + b.length ≤ 64) : foldF f (foldF f x a) b = foldF f x (a ++ b) := by
  have hl := foldF_len f x a
  rw [foldF_few f _ b (by omega), foldF_few f x (a ++ b) (by rw [List.length_append]; omega)]
  have hk : keysS (foldF f x a ++ b) = keysS (x ++ (a ++ b)) := keysS_eq (keysS_lt _) (fun k => by
    rw [mem_keysS, hasK_append, hasK_append, hasK_append, foldF_has (by omega), Bool.or_assoc])
  rw [hk]
  refine List.map_congr_left (fun k hkm => ?_)
  refine congrArg (PFn.S30.mk k) ?_
  unfold valF
  rw [foldF_last (by omega), foldF_has (by omega), valsOf_append, runV_append]
  have e : (if (hasK x k || hasK a k) = true then valF f x a k else 0, hasK x k || hasK a k) = runV f (lastV x k, hasK x k) (valsOf a k) := by
    refine Prod.ext ?_ ?_
    · show (if _ then _ else _) = _
      by_cases c : (hasK x k || hasK a k) = true
      · rw [if_pos c]; rfl
      · rw [if_neg c]
        have c1 : hasK x k = false := by cases h : hasK x k <;> simp [h] at c ⊢
        have c2 : hasK a k = false := by cases h : hasK a k <;> simp [h] at c ⊢
        rw [valsOf_nil.2 c2, lastV_none c1]
        rfl
    · rw [runV_there, vals_isEmpty]
  rw [e]
/-- What is told fits. -/
theorem lastV_ok {l : List RowT} (h : ∀ r ∈ l, okRow r) (k : Int) : okI (lastV l k) := by
  unfold lastV
  cases hv : (valsOf l k).getLast? with
  | none => show okI 0; unfold okI; decide
  | some x => exact valsOf_ok h k x (List.mem_of_getLast? hv)
theorem runV_ok (f : Nat) (zs : List Int) : ∀ p : Int × Bool, okI p.1 → (∀ z ∈ zs, okI z) → okI (runV f p zs).1 := by
  induction zs with
  | nil => exact fun p hp _ => hp
  | cons z zs ih =>
    intro p hp hz
    refine ih (stepV f p z) ?_ (fun y hy => hz y (List.mem_cons_of_mem _ hy))
    unfold stepV
    split
    · exact nextV_ok hp (hz z (by simp))
    · exact firstV_ok (hz z (by simp))
theorem hasK_ok {l : List RowT} (h : ∀ r ∈ l, okRow r) {k : Int} (hk : hasK l k = true) : okI k := by
  unfold hasK at hk
  rw [List.any_eq_true] at hk
  obtain ⟨r, hr, e⟩ := hk
  rw [beq_iff_eq] at e
  exact e ▸ (h r hr).1
theorem foldF_ok {f : Nat} {bf l : List RowT} (h1 : ∀ r ∈ bf, okRow r) (h2 : ∀ r ∈ l, okRow r) : ∀ r ∈ foldF f bf l, okRow r := by
  intro r hr
  rw [foldF_map] at hr
  obtain ⟨k, hk, rfl⟩ := List.mem_map.1 hr
  have hk := (mem_keysS _ _).1 (List.mem_of_mem_take hk)
  exact ⟨hasK_ok (fun r hr => (List.mem_append.1 hr).elim (h1 r) (h2 r)) hk, runV_ok f _ _ (lastV_ok h1 k) (valsOf_ok h2 k)⟩
end Go.Proofs.Ytbbjkgpilmcldaa.Seq
