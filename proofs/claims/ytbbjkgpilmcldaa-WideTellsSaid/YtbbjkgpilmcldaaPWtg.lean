/- Proved: the contracts of Reduce, Join, Fold and Apply, the program's and the document's, as the printed texts take them; no condition (where a row is too long, or a number does not fit, they tell nothing). -/
import Derived.Test.YtbbjkgpilmcldaaZrc
import Derived.Test.YtbbjkgpilmcldaaPWtx0
namespace Go.Proofs.Ytbbjkgpilmcldaa.PWt
open Go.RowKit Go.Proofs.YtbbjkgpilmcldaaW.PrintWords Go.Proofs.YtbbjkgpilmcldaaW.PrintLast Go.Proofs.YtbbjkgpilmcldaaW.PrintMore Go.Proofs.Ytbbjkgpilmcldaa.Seq
set_option linter.unusedVariables false
instance okRow_dec (r : RowT) : Decidable (okRow r) := inferInstanceAs (Decidable (_ ∧ _))
instance fits_dec (l : List S30) : Decidable (rowsFit l) := inferInstanceAs (Decidable (_ ∧ _))
def wide_Fold.f (a0 : Int) (l1 l2 : List S30) : Option (List S30) := if rowsFit l1 ∧ rowsFit l2 then some (foldA a0 l1 l2) else none
def wide_Reduce.f (a0 : Int) (l1 : List S30) : Option (List S30) := if rowsFit l1 then some (foldA a0 [] l1) else none
def wide_Join.f (a0 : Int) (l1 l2 : List S30) : Option (List S30) := if rowsFit l1 ∧ rowsFit l2 then some (joinA a0 l1 l2) else none
def wide_Apply.f (a0 a1 a2 a3 a4 : Int) (l1 l2 l3 : List S30) : Option (List S30) := if rowsFit l1 ∧ rowsFit l2 ∧ rowsFit l3 then some (appA a0 a3 a4 l1 l2 l3) else none
def tributaryref4_Fold.f := wide_Fold.f
def tributaryref4_Reduce.f := wide_Reduce.f
def tributaryref4_Join.f := wide_Join.f
def tributaryref4_Apply.f := wide_Apply.f
theorem wide_Fold.calls (a0 : Int) (A1 : Option Addr) (c1 : Nat) (l1 : List S30) (A2 : Option Addr) (c2 : Nat) (l2 : List S30) (r : List S30) (w : World) (hr1 : Kd.C k30 w A1 l1.length l1) (hc1 : l1.length ≤ c1) (hr2 : Kd.C k30 w A2 l2.length l2) (hc2 : l2.length ≤ c2) (h : wide_Fold.f a0 l1 l2 = some r) :
    Calls Try.prog 19 #[.int .i64 a0, .slice A1 l1.length c1, .slice A2 l2.length c2] w fun e w' => ∃ v0_ : Value, e = .returned v0_ ∧ Kd.R k30 30 w' w.heap.size (fun _ => True) v0_ r ∧ Below w.heap.size w w' := by
  by_cases hc : rowsFit l1 ∧ rowsFit l2
  · obtain rfl : _ = r := Option.some.inj ((if_pos hc).symm.trans h)
    exact foldA_calls a0 A1 c1 A2 c2 l1 l2 w hr1 hr2 hc.1 hc.2
  · exact absurd ((if_neg hc).symm.trans h) (by simp)
theorem tributaryref4_Fold.calls (a0 : Int) (A1 : Option Addr) (c1 : Nat) (l1 : List S30) (A2 : Option Addr) (c2 : Nat) (l2 : List S30) (r : List S30) (w : World) (hr1 : Kd.C k30 w A1 l1.length l1) (hc1 : l1.length ≤ c1) (hr2 : Kd.C k30 w A2 l2.length l2) (hc2 : l2.length ≤ c2) (h : tributaryref4_Fold.f a0 l1 l2 = some r) :
    Calls Try.prog 34 #[.int .i64 a0, .slice A1 l1.length c1, .slice A2 l2.length c2] w fun e w' => ∃ v0_ : Value, e = .returned v0_ ∧ Kd.R k30 30 w' w.heap.size (fun _ => True) v0_ r ∧ Below w.heap.size w w' := by
  by_cases hc : rowsFit l1 ∧ rowsFit l2
  · obtain rfl : _ = r := Option.some.inj ((if_pos hc).symm.trans h)
    exact fold8A_calls a0 A1 c1 A2 c2 l1 l2 w hr1 hr2 hc.1 hc.2
  · exact absurd ((if_neg hc).symm.trans h) (by simp)
theorem wide_Join.calls (a0 : Int) (A1 : Option Addr) (c1 : Nat) (l1 : List S30) (A2 : Option Addr) (c2 : Nat) (l2 : List S30) (r : List S30) (w : World) (hr1 : Kd.C k30 w A1 l1.length l1) (hc1 : l1.length ≤ c1) (hr2 : Kd.C k30 w A2 l2.length l2) (hc2 : l2.length ≤ c2) (h : wide_Join.f a0 l1 l2 = some r) :
    Calls Try.prog 24 #[.int .i64 a0, .slice A1 l1.length c1, .slice A2 l2.length c2] w fun e w' => ∃ v0_ : Value, e = .returned v0_ ∧ Kd.R k30 30 w' w.heap.size (fun _ => True) v0_ r ∧ Below w.heap.size w w' := by
  by_cases hc : rowsFit l1 ∧ rowsFit l2
  · obtain rfl : _ = r := Option.some.inj ((if_pos hc).symm.trans h)
    exact joinA_calls a0 A1 c1 A2 c2 l1 l2 w hr1 hr2 hc.1 hc.2
  · exact absurd ((if_neg hc).symm.trans h) (by simp)
theorem tributaryref4_Join.calls (a0 : Int) (A1 : Option Addr) (c1 : Nat) (l1 : List S30) (A2 : Option Addr) (c2 : Nat) (l2 : List S30) (r : List S30) (w : World) (hr1 : Kd.C k30 w A1 l1.length l1) (hc1 : l1.length ≤ c1) (hr2 : Kd.C k30 w A2 l2.length l2) (hc2 : l2.length ≤ c2) (h : tributaryref4_Join.f a0 l1 l2 = some r) :
    Calls Try.prog 33 #[.int .i64 a0, .slice A1 l1.length c1, .slice A2 l2.length c2] w fun e w' => ∃ v0_ : Value, e = .returned v0_ ∧ Kd.R k30 30 w' w.heap.size (fun _ => True) v0_ r ∧ Below w.heap.size w w' := by
  by_cases hc : rowsFit l1 ∧ rowsFit l2
  · obtain rfl : _ = r := Option.some.inj ((if_pos hc).symm.trans h)
    exact join8A_calls a0 A1 c1 A2 c2 l1 l2 w hr1 hr2 hc.1 hc.2
  · exact absurd ((if_neg hc).symm.trans h) (by simp)
theorem wide_Reduce.calls (a0 : Int) (A1 : Option Addr) (c1 : Nat) (l1 : List S30) (r : List S30) (w : World) (hr1 : Kd.C k30 w A1 l1.length l1) (hc1 : l1.length ≤ c1) (h : wide_Reduce.f a0 l1 = some r) :
    Calls Try.prog 23 #[.int .i64 a0, .slice A1 l1.length c1] w fun e w' => ∃ v0_ : Value, e = .returned v0_ ∧ Kd.R k30 30 w' w.heap.size (fun _ => True) v0_ r ∧ Below w.heap.size w w' := by
  by_cases hc : rowsFit l1
  · obtain rfl : _ = r := Option.some.inj ((if_pos hc).symm.trans h)
    exact reduceA_calls a0 A1 c1 l1 w hr1 hc
  · exact absurd ((if_neg hc).symm.trans h) (by simp)
theorem tributaryref4_Reduce.calls (a0 : Int) (A1 : Option Addr) (c1 : Nat) (l1 : List S30) (r : List S30) (w : World) (hr1 : Kd.C k30 w A1 l1.length l1) (hc1 : l1.length ≤ c1) (h : tributaryref4_Reduce.f a0 l1 = some r) :
    Calls Try.prog 32 #[.int .i64 a0, .slice A1 l1.length c1] w fun e w' => ∃ v0_ : Value, e = .returned v0_ ∧ Kd.R k30 30 w' w.heap.size (fun _ => True) v0_ r ∧ Below w.heap.size w w' := by
  by_cases hc : rowsFit l1
  · obtain rfl : _ = r := Option.some.inj ((if_pos hc).symm.trans h)
    exact reduce8A_calls a0 A1 c1 l1 w hr1 hc
  · exact absurd ((if_neg hc).symm.trans h) (by simp)
theorem wide_Apply.calls (a0 a1 a2 a3 a4 : Int) (A1 : Option Addr) (c1 : Nat) (l1 : List S30) (A2 : Option Addr) (c2 : Nat) (l2 : List S30) (A3 : Option Addr) (c3 : Nat) (l3 : List S30) (r : List S30) (w : World) (hr1 : Kd.C k30 w A1 l1.length l1) (hc1 : l1.length ≤ c1) (hr2 : Kd.C k30 w A2 l2.length l2) (hc2 : l2.length ≤ c2) (hr3 : Kd.C k30 w A3 l3.length l3) (hc3 : l3.length ≤ c3) (h : wide_Apply.f a0 a1 a2 a3 a4 l1 l2 l3 = some r) :
    Calls Try.prog 31 #[.agg #[.int .i64 a0, .int .i64 a1, .int .i64 a2, .int .i64 a3, .int .i64 a4], .slice A1 l1.length c1, .slice A2 l2.length c2, .slice A3 l3.length c3] w fun e w' => ∃ v0_ : Value, e = .returned v0_ ∧ Kd.R k30 30 w' w.heap.size (fun _ => True) v0_ r ∧ Below w.heap.size w w' := by
  by_cases hc : rowsFit l1 ∧ rowsFit l2 ∧ rowsFit l3
  · obtain rfl : _ = r := Option.some.inj ((if_pos hc).symm.trans h)
    exact applyA_calls a0 a1 a2 a3 a4 A1 c1 A2 c2 A3 c3 l1 l2 l3 w hr1 hr2 hr3 hc.1 hc.2.1 hc.2.2
  · exact absurd ((if_neg hc).symm.trans h) (by simp)
theorem tributaryref4_Apply.calls (a0 a1 a2 a3 a4 : Int) (A1 : Option Addr) (c1 : Nat) (l1 : List S30) (A2 : Option Addr) (c2 : Nat) (l2 : List S30) (A3 : Option Addr) (c3 : Nat) (l3 : List S30) (r : List S30) (w : World) (hr1 : Kd.C k30 w A1 l1.length l1) (hc1 : l1.length ≤ c1) (hr2 : Kd.C k30 w A2 l2.length l2) (hc2 : l2.length ≤ c2) (hr3 : Kd.C k30 w A3 l3.length l3) (hc3 : l3.length ≤ c3) (h : tributaryref4_Apply.f a0 a1 a2 a3 a4 l1 l2 l3 = some r) :
    Calls Try.prog 35 #[.agg #[.int .i64 a0, .int .i64 a1, .int .i64 a2, .int .i64 a3, .int .i64 a4], .slice A1 l1.length c1, .slice A2 l2.length c2, .slice A3 l3.length c3] w fun e w' => ∃ v0_ : Value, e = .returned v0_ ∧ Kd.R k30 30 w' w.heap.size (fun _ => True) v0_ r ∧ Below w.heap.size w w' := by
  by_cases hc : rowsFit l1 ∧ rowsFit l2 ∧ rowsFit l3
  · obtain rfl : _ = r := Option.some.inj ((if_pos hc).symm.trans h)
    exact apply8A_calls a0 a1 a2 a3 a4 A1 c1 A2 c2 A3 c3 l1 l2 l3 w hr1 hr2 hr3 hc.1 hc.2.1 hc.2.2
  · exact absurd ((if_neg hc).symm.trans h) (by simp)
end Go.Proofs.Ytbbjkgpilmcldaa.PWt
