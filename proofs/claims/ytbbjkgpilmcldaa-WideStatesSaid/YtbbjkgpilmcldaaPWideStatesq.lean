import Derived.Test.YtbbjkgpilmcldaaPWmx7
namespace Go.Proofs.Ytbbjkgpilmcldaa.PWm
open Go.RowKit Go.Proofs.YtbbjkgpilmcldaaW.PrintWords Go.Proofs.YtbbjkgpilmcldaaW.PrintLast

def Q30 (x : S30) : Prop := (Lit.int .i64 x.f0).wf = true ∧ (Lit.int .i64 x.f1).wf = true
/-- THE ONE PURE STATEMENT of tributarylaw4_WideStates. -/
def tributarylaw4_WideStates.Pure : Prop := ∀ (a0 : Int) (l1 : List (S30)) (l2 : List (S30)) (a3 : Int), (Lit.int .i64 a0).wf = true → ((l1).length ≤ maxLen ∧ ∀ y_ ∈ l1, Q30 y_) → l1.length * 16 ≤ 140737488351232 → ((l2).length ≤ maxLen ∧ ∀ y_ ∈ l2, Q30 y_) → l2.length * 16 ≤ 140737488351232 → (Lit.int .i64 a3).wf = true → ∃ k, tributarylaw4_WideStates.f k a0 l1 l2 a3 = some true
end Go.Proofs.Ytbbjkgpilmcldaa.PWm
