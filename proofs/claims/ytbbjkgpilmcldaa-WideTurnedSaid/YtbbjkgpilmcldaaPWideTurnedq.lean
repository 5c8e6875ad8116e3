import Derived.Test.YtbbjkgpilmcldaaWideTurned
namespace Go.Proofs.Ytbbjkgpilmcldaa.PWt
open Go.RowKit Go.Proofs.YtbbjkgpilmcldaaW.PrintWords Go.Proofs.YtbbjkgpilmcldaaW.PrintLast

def Q30 (x : S30) : Prop := (Lit.int .i64 x.f0).wf = true ∧ (Lit.int .i64 x.f1).wf = true
/-- THE ONE PURE STATEMENT of tributarylaw4_WideTurned. -/
def tributarylaw4_WideTurned.Pure : Prop := ∀ (l0 : List (S30)) (l1 : List (S30)), ((l0).length ≤ maxLen ∧ ∀ y_ ∈ l0, Q30 y_) → l0.length * 16 ≤ 140737488351232 → ((l1).length ≤ maxLen ∧ ∀ y_ ∈ l1, Q30 y_) → l1.length * 16 ≤ 140737488351232 → tributarylaw4_WideTurned.f l0 l1 = some true
end Go.Proofs.Ytbbjkgpilmcldaa.PWt
