/- Proved: what the bound of an Upto statement gives of a slice's length; condition: the bound. After the seat's own page of lemmas for such statements. -/
import Derived.Test.YtjcllneibeemgaaDoorRows
import Derived.Lib.SmallJoins
namespace Go.Proofs.YtjcllneibeemgaaDoor.bulks
open Go.Joins
theorem one_le {H : Type} (d : DataW H) : 1 ≤ Rows.uptoBulk d := by
  cases d with
  | lit l => cases l <;> simp [Rows.uptoBulk]
  | nil => simp [Rows.uptoBulk]
  | ptr d => simp [Rows.uptoBulk]
  | slice elems spare => simp [Rows.uptoBulk]
  | agg parts => simp [Rows.uptoBulk]
  | iface t d => simp [Rows.uptoBulk]
  | map entries => simp [Rows.uptoBulk]
  | held h => simp [Rows.uptoBulk]
theorem part_le {H : Type} {d : DataW H} {l : List (DataW H)} (h : d ∈ l) : Rows.uptoBulk d ≤ Rows.uptoBulkAll l := by
  induction l with
  | nil => cases h
  | cons x r ih =>
    simp only [Rows.uptoBulkAll]
    cases List.mem_cons.1 h with
    | inl e => subst e; omega
    | inr e => have := ih e; omega
theorem length_le {H : Type} (l : List (DataW H)) : l.length ≤ Rows.uptoBulkAll l := by
  induction l with
  | nil => simp [Rows.uptoBulkAll]
  | cons x r ih => have := one_le x; simp only [Rows.uptoBulkAll, List.length_cons]; omega
theorem len_le {H : Type} {l : List (DataW H)} (hk : Rows.uptoSmall H l = true) {d : DataW H} (hm : d ∈ l) {n : Nat} (h : sliceLen d = n) : n ≤ 1048576 := by
  have h1 : Rows.uptoBulkAll l ≤ 1048576 := of_decide_eq_true hk
  have h2 := part_le hm
  have h3 : sliceLen d ≤ Rows.uptoBulk d := by
    cases d with
    | slice elems spare =>
      have := length_le elems
      simp only [sliceLen, Rows.uptoBulk]
      omega
    | _ => simp [sliceLen]
  omega
end Go.Proofs.YtjcllneibeemgaaDoor.bulks
