/- Proved: the contracts of wide.Fold, wide.Reduce and wide.Join, as the printed texts take them; no condition (where a row is too long, or a number does not fit, or there is no such function, they tell nothing). -/
import Derived.Test.YtbbjkgpilmcldaaGrJoin
import Derived.Test.YtbbjkgpilmcldaaPWix0
namespace Go.Proofs.Ytbbjkgpilmcldaa.PWi
open Go.RowKit Go.Proofs.YtbbjkgpilmcldaaW.PrintWords Go.Proofs.YtbbjkgpilmcldaaW.PrintLast Go.Proofs.YtbbjkgpilmcldaaW.PrintMore Go.Proofs.Ytbbjkgpilmcldaa.Seq
set_option linter.unusedVariables false
instance okRow_dec (r : RowT) : Decidable (okRow r) := inferInstanceAs (Decidable (_ ∧ _))
def fits (l : List S30) : Prop := l.length ≤ 50000 ∧ ∀ r ∈ l, okRow r
instance fits_dec (l : List S30) : Decidable (fits l) := inferInstanceAs (Decidable (_ ∧ _))
def wide_Fold.f (a0 : Int) (l1 l2 : List S30) : Option (List S30) := if (0 ≤ a0 ∧ a0 ≤ 5) ∧ fits l1 ∧ fits l2 then some (foldF a0.toNat l1 l2) else none
def wide_Reduce.f (a0 : Int) (l1 : List S30) : Option (List S30) := wide_Fold.f a0 [] l1
def wide_Join.f (a0 : Int) (l1 l2 : List S30) : Option (List S30) := if (0 ≤ a0 ∧ a0 ≤ 3) ∧ fits l1 ∧ fits l2 then some (joinF a0.toNat l1 l2) else none
theorem wide_Fold.calls (a0 : Int) (A1 : Option Addr) (c1 : Nat) (l1 : List S30) (A2 : Option Addr) (c2 : Nat) (l2 : List S30) (r : List S30) (w : World) (hr1 : Kd.C k30 w A1 l1.length l1) (hc1 : l1.length ≤ c1) (hr2 : Kd.C k30 w A2 l2.length l2) (hc2 : l2.length ≤ c2) (h : wide_Fold.f a0 l1 l2 = some r) :
    Calls Try.prog 19 #[.int .i64 a0, .slice A1 l1.length c1, .slice A2 l2.length c2] w fun e w' => ∃ v0_ : Value, e = .returned v0_ ∧ Kd.R k30 30 w' w.heap.size (fun _ => True) v0_ r ∧ Below w.heap.size w w' := by
  unfold wide_Fold.f at h
  by_cases hc : (0 ≤ a0 ∧ a0 ≤ 5) ∧ fits l1 ∧ fits l2
  · rw [if_pos hc] at h
    obtain ⟨⟨h0, h5⟩, f1, f2⟩ := hc
    obtain ⟨n, rfl⟩ := Int.eq_ofNat_of_zero_le h0
    injection h with h
    subst h
    have := fold_calls n (by omega) A1 c1 A2 c2 l1 l2 w hr1 hr2 (by have := f1.1; have := f2.1; omega) f1.2 f2.2
    simpa using this
  · rw [if_neg hc] at h
    cases h
theorem wide_Join.calls (a0 : Int) (A1 : Option Addr) (c1 : Nat) (l1 : List S30) (A2 : Option Addr) (c2 : Nat) (l2 : List S30) (r : List S30) (w : World) (hr1 : Kd.C k30 w A1 l1.length l1) (hc1 : l1.length ≤ c1) (hr2 : Kd.C k30 w A2 l2.length l2) (hc2 : l2.length ≤ c2) (h : wide_Join.f a0 l1 l2 = some r) :
    Calls Try.prog 24 #[.int .i64 a0, .slice A1 l1.length c1, .slice A2 l2.length c2] w fun e w' => ∃ v0_ : Value, e = .returned v0_ ∧ Kd.R k30 30 w' w.heap.size (fun _ => True) v0_ r ∧ Below w.heap.size w w' := by
  unfold wide_Join.f at h
  by_cases hc : (0 ≤ a0 ∧ a0 ≤ 3) ∧ fits l1 ∧ fits l2
  · rw [if_pos hc] at h
    obtain ⟨⟨h0, h5⟩, f1, f2⟩ := hc
    obtain ⟨n, rfl⟩ := Int.eq_ofNat_of_zero_le h0
    injection h with h
    subst h
    have := join_calls n (by omega) A1 c1 A2 c2 l1 l2 w hr1 hr2 (by have := f1.1; omega) (by have := f2.1; omega) f1.2 f2.2
    simpa using this
  · rw [if_neg hc] at h
    cases h
theorem nil_C (w : World) : Kd.C k30 w none ([] : List S30).length [] := ⟨rfl, by decide, fun h => by cases h⟩
theorem wide_Reduce.calls (a0 : Int) (A1 : Option Addr) (c1 : Nat) (l1 : List S30) (r : List S30) (w : World) (hr1 : Kd.C k30 w A1 l1.length l1) (hc1 : l1.length ≤ c1) (h : wide_Reduce.f a0 l1 = some r) :
    Calls Try.prog 23 #[.int .i64 a0, .slice A1 l1.length c1] w fun e w' => ∃ v0_ : Value, e = .returned v0_ ∧ Kd.R k30 30 w' w.heap.size (fun _ => True) v0_ r ∧ Below w.heap.size w w' := by
  have HC := Aside0.mk (wide_Fold.calls a0 none 0 [] A1 c1 l1 r w (nil_C w) (Nat.le_refl _) hr1 hc1 h)
  clear hr1 h
  go_enter Try.func23, Try.ntmps23
  go_wp2_with (first
    | (go_at_call 19; refine HC.out.mono ?_; rintro e w' ⟨v, rfl, hR, hb⟩))
  go_ret
  exact ⟨v, rfl, hR, hb⟩
end Go.Proofs.Ytbbjkgpilmcldaa.PWi
