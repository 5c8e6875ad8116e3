import Derived.Test.YtbbjkgpilmcldaaRowsGroups
namespace Go.Proofs.Ytbbjkgpilmcldaa.PRg
open Go.RowKit Go.Proofs.YtbbjkgpilmcldaaW.PrintWords Go.Proofs.YtbbjkgpilmcldaaW.PrintLast

def Q30 (x : S30) : Prop := (Lit.int .i64 x.f0).wf = true ∧ (Lit.int .i64 x.f1).wf = true
/-- THE ONE PURE STATEMENT of tributarylaw2_RowsGroups. -/
def tributarylaw2_RowsGroups.Pure : Prop := ∀ (l0 : List (S30)) (a1 : Int), ((l0).length ≤ maxLen ∧ ∀ y_ ∈ l0, Q30 y_) → l0.length * 16 ≤ 140737488351232 → (Lit.int .i64 a1).wf = true → tributarylaw2_RowsGroups.f l0 a1 = some true
end Go.Proofs.Ytbbjkgpilmcldaa.PRg
