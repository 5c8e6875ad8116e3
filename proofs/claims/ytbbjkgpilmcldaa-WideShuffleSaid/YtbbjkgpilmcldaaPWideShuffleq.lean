import Derived.Test.YtbbjkgpilmcldaaPWmx7
namespace Go.Proofs.Ytbbjkgpilmcldaa.PWm
open Go.RowKit Go.Proofs.YtbbjkgpilmcldaaW.PrintWords Go.Proofs.YtbbjkgpilmcldaaW.PrintLast

def Q30 (x : S30) : Prop := (Lit.int .i64 x.f0).wf = true ∧ (Lit.int .i64 x.f1).wf = true
/-- THE ONE PURE STATEMENT of tributarylaw4_WideShuffle. -/
def tributarylaw4_WideShuffle.Pure : Prop := ∀ (a0 : Int) (l1 : List (S30)) (a2 : Int), (Lit.int .i64 a0).wf = true → ((l1).length ≤ maxLen ∧ ∀ y_ ∈ l1, Q30 y_) → l1.length * 16 ≤ 140737488351232 → (Lit.int .i64 a2).wf = true → ∃ k, tributarylaw4_WideShuffle.f k a0 l1 a2 = some true
end Go.Proofs.Ytbbjkgpilmcldaa.PWm
