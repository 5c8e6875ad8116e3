import Derived.Test.YtbbjkgpilmcldaaPWix3
namespace Go.Proofs.Ytbbjkgpilmcldaa.PWi
open Go.RowKit Go.Proofs.YtbbjkgpilmcldaaW.PrintWords Go.Proofs.YtbbjkgpilmcldaaW.PrintLast

def Q30 (x : S30) : Prop := (Lit.int .i64 x.f0).wf = true ∧ (Lit.int .i64 x.f1).wf = true
/-- THE ONE PURE STATEMENT of tributarylaw4_WideKeys. -/
def tributarylaw4_WideKeys.Pure : Prop := ∀ (a0 : Int) (l1 : List (S30)) (l2 : List (S30)), (Lit.int .i64 a0).wf = true → ((l1).length ≤ maxLen ∧ ∀ y_ ∈ l1, Q30 y_) → l1.length * 16 ≤ 140737488351232 → ((l2).length ≤ maxLen ∧ ∀ y_ ∈ l2, Q30 y_) → l2.length * 16 ≤ 140737488351232 → ∃ k, tributarylaw4_WideKeys.f k a0 l1 l2 = some true
end Go.Proofs.Ytbbjkgpilmcldaa.PWi
