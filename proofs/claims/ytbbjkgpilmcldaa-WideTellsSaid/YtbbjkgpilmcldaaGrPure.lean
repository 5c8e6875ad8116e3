/- Proved: the values of a key among rows, and how a map of slices reads that was filled with them; plain lists. -/
import Derived.Test.YtbbjkgpilmcldaaPFnx0
import Derived.Test.YtbbjkgpilmcldaaGrSort
import Derived.Maps.OwnRows
import Derived.Maps.OwnIn
import Derived.Maps.Views
namespace Go.Proofs.Ytbbjkgpilmcldaa.Seq
open Go.RowKit Go.Maps Go.ChangeShapes
set_option linter.unusedVariables false
abbrev RowT := PFn.S30
abbrev kRow := PFn.k30
abbrev okI (x : Int) : Prop := (Lit.int .i64 x).wf = true
def okRow (r : RowT) : Prop := okI r.f0 ∧ okI r.f1
/-- A key's values, in their order. -/
def valsOf (l : List RowT) (k : Int) : List Int := (l.filter fun r => r.f0 == k).map (·.f1)
def hasK (l : List RowT) (k : Int) : Bool := l.any fun r => r.f0 == k
theorem valsOf_snoc (l : List RowT) (r : RowT) (k : Int) : valsOf (l ++ [r]) k = if r.f0 = k then valsOf l k ++ [r.f1] else valsOf l k := by
  unfold valsOf
  rw [List.filter_append, List.map_append]
  by_cases h : r.f0 = k
  · rw [if_pos h]; simp [h]
  · rw [if_neg h]; simp [h]
theorem hasK_snoc (l : List RowT) (r : RowT) (k : Int) : hasK (l ++ [r]) k = (hasK l k || (r.f0 == k)) := by simp [hasK]
theorem valsOf_nil {l : List RowT} {k : Int} : valsOf l k = [] ↔ hasK l k = false := by
  unfold valsOf hasK
  rw [List.map_eq_nil_iff, List.filter_eq_nil_iff, List.any_eq_false]
theorem valsOf_len (l : List RowT) (k : Int) : (valsOf l k).length ≤ l.length := by
  unfold valsOf
  rw [List.length_map]
  exact List.length_filter_le _ _
theorem valsOf_ok {l : List RowT} (h : ∀ r ∈ l, okRow r) (k : Int) : ∀ x ∈ valsOf l k, okI x := by
  intro x hx
  obtain ⟨r, hr, rfl⟩ := List.mem_map.1 hx
  exact (h r (List.mem_filter.1 hr).1).2
/-- The datum of a map of slices that was filled with rows. -/
structure GD (D : DataW Unit) (l : List RowT) : Prop where
  has : ∀ k, Maps.has D (.int .i64 k) = hasK l k
  at_ : ∀ k, okI k → D.atKey (.int .i64 k) .nil = if valsOf l k = [] then .nil else .slice (lits .i64 (valsOf l k)) []
theorem GD.zero : GD (.map []) [] := ⟨fun _ => rfl, fun _ _ => rfl⟩
theorem isKey (k : Int) (h : okI k) : WideAt.IsKeyLit (.int .i64 k) := by trivial
theorem GD.step {D : DataW Unit} {l : List RowT} (h : GD D l) (hm : IsMap D) (r : RowT) (hr : okI r.f0) : GD (D.put (.int .i64 r.f0) (.slice (lits .i64 (valsOf l r.f0 ++ [r.f1])) [])) (l ++ [r]) := by
  refine ⟨fun k => ?_, fun k hk => ?_⟩
  · rw [hasK_snoc]
    by_cases e : r.f0 = k
    · subst e
      rw [has_put_same hm (isKey _ hr)]
      simp
    · rw [has_put_other (fun h => e (by injection h with _ h; exact h.symm)), h.has k]
      simp [e]
  · rw [valsOf_snoc]
    by_cases e : r.f0 = k
    · subst e
      rw [atKey_put_same hm (isKey _ hr), if_pos rfl, if_neg (by simp)]
    · rw [atKey_put_other (fun h => e (by injection h with _ h; exact h.symm)), h.at_ k hk, if_neg e]
theorem lits_inj {a b : List Int} (h : lits (H := Unit) .i64 a = lits .i64 b) : a = b := by
  unfold lits at h
  exact (List.map_inj_right (fun x y e => by injection e with e; injection e)).1 h
/-- What is found at a key. -/
theorem GD.found {D : DataW Unit} {l : List RowT} (h : GD D l) {k : Int} (hk : okI k) {W : World} {base : Nat} {v : Value} {zs : List Int} (hat : D.atKey (.int .i64 k) .nil = rowDatum .i64 v zs) (hoi : W.ownsInts base 3 .i64 v zs) : zs = valsOf l k := by
  rw [h.at_ k hk] at hat
  rcases hoi.datum (H := Unit) with ⟨e, rfl⟩ | e
  · rw [e] at hat
    by_cases g : valsOf l k = []
    · exact g.symm
    · rw [if_neg g] at hat; cases hat
  · rw [e] at hat
    by_cases g : valsOf l k = []
    · rw [if_pos g] at hat; cases hat
    · rw [if_neg g] at hat
      injection hat with hat
      exact (lits_inj hat).symm
/-- The keys. -/
def dk : List RowT → List Int
  | [] => []
  | r :: l => r.f0 :: (dk l).filter (fun k => k != r.f0)
def keysS (l : List RowT) : List Int := sorted (dk l)
theorem mem_dk (l : List RowT) (k : Int) : k ∈ dk l ↔ hasK l k = true := by
  induction l with
  | nil => simp [dk, hasK]
  | cons r l ih =>
    unfold dk
    rw [List.mem_cons, List.mem_filter, ih]
    unfold hasK
    rw [List.any_cons]
    by_cases e : k = r.f0
    · subst e; simp
    · have e' : (r.f0 == k) = false := beq_eq_false_iff_ne.2 (fun h => e h.symm)
      simp [e, e']
theorem nodup_dk (l : List RowT) : (dk l).Nodup := by
  induction l with
  | nil => exact List.nodup_nil
  | cons r l ih => exact List.nodup_cons.2 ⟨by simp, ih.filter _⟩
theorem keys_perm {w : World} {D : DataW Unit} {R : Value → Option (DataW Unit × List MemPlace)} {b n : Nat} {l : List RowT} (h : GD D l) (hown : w.ownsMap Try.prog 3 R b n D) : (dk l).Perm (intKeys D) :=
  CollectedI.perm (left := fun _ => false) ⟨nodup_dk l, fun x => by rw [mem_dk, h.has]; simp⟩ hown (int_keyed Try.underlying3) Try.underlying3 (fun _ => rfl)
theorem sorted_keys {w : World} {D : DataW Unit} {R : Value → Option (DataW Unit × List MemPlace)} {b n : Nat} {l : List RowT} (h : GD D l) (hown : w.ownsMap Try.prog 3 R b n D) {ss : List Int} (hs : ss.Perm (intKeys D)) : sorted ss = keysS l :=
  mergeSort_of_perm_i (hs.trans (keys_perm h hown).symm)
theorem keys_ok {w : World} {D : DataW Unit} {R : Value → Option (DataW Unit × List MemPlace)} {b n : Nat} {l : List RowT} (h : GD D l) (hown : w.ownsMap Try.prog 3 R b n D) : ∀ x ∈ keysS l, okI x := by
  intro x hx
  have h1 : x ∈ dk l := (List.mergeSort_perm _ _).mem_iff.1 hx
  exact intKeys_wf hown Try.underlying3 x ((keys_perm h hown).mem_iff.1 h1)
theorem keys_size {w : World} {D : DataW Unit} {R : Value → Option (DataW Unit × List MemPlace)} {b n : Nat} {l : List RowT} (h : GD D l) (hown : w.ownsMap Try.prog 3 R b n D) : Maps.size D = (dk l).length := by
  have := (keys_perm h hown).length_eq
  obtain ⟨es, rfl, _, _⟩ := hown.entries (int_keyed Try.underlying3)
  rw [this]
  simp [intKeys, Maps.size]
theorem dk_len (l : List RowT) : (dk l).length ≤ l.length := by
  induction l with
  | nil => exact Nat.le_refl _
  | cons r l ih =>
    unfold dk
    rw [List.length_cons, List.length_cons]
    have := List.length_filter_le (fun k => k != r.f0) (dk l)
    omega
theorem keysS_len (l : List RowT) : (keysS l).length = (dk l).length := List.length_mergeSort _
end Go.Proofs.Ytbbjkgpilmcldaa.Seq
