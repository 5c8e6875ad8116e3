import Derived.Test.YtbbjkgpilmcldaaPWsx3
namespace Go.Proofs.Ytbbjkgpilmcldaa.PWs
open Go.RowKit Go.Proofs.YtbbjkgpilmcldaaW.PrintWords Go.Proofs.YtbbjkgpilmcldaaW.PrintLast

def Q30 (x : S30) : Prop := (Lit.int .i64 x.f0).wf = true ∧ (Lit.int .i64 x.f1).wf = true
/-- THE ONE PURE STATEMENT of tributarylaw4_WideSums. -/
def tributarylaw4_WideSums.Pure : Prop := ∀ (l0 : List (S30)), ((l0).length ≤ maxLen ∧ ∀ y_ ∈ l0, Q30 y_) → l0.length * 16 ≤ 140737488351232 → ∃ k, tributarylaw4_WideSums.f k l0 = some true
end Go.Proofs.Ytbbjkgpilmcldaa.PWs
