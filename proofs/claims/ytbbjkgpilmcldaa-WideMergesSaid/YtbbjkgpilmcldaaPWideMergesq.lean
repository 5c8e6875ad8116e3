import Derived.Test.YtbbjkgpilmcldaaPWsx5
namespace Go.Proofs.Ytbbjkgpilmcldaa.PWs
open Go.RowKit Go.Proofs.YtbbjkgpilmcldaaW.PrintWords Go.Proofs.YtbbjkgpilmcldaaW.PrintLast

def Q30 (x : S30) : Prop := (Lit.int .i64 x.f0).wf = true ∧ (Lit.int .i64 x.f1).wf = true
/-- THE ONE PURE STATEMENT of tributarylaw4_WideMerges. -/
def tributarylaw4_WideMerges.Pure : Prop := ∀ (l0 : List (List (S30))) (a1 : Int) (a2 : Int), ((l0).length ≤ maxLen ∧ ∀ y_ ∈ l0, ((y_).length ≤ maxLen ∧ ∀ y_1 ∈ y_, Q30 y_1)) → l0.length * 24 ≤ 140737488351232 → (Lit.int .i64 a1).wf = true → (Lit.int .i64 a2).wf = true → ∃ k, tributarylaw4_WideMerges.f k l0 a1 a2 = some true
end Go.Proofs.Ytbbjkgpilmcldaa.PWs
