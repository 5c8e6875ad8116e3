import Derived.Test.YtjcllneibeemgaaPRowsApartx3
namespace Go.Proofs.Ytjcllneibeemgaa.PRowsApart
open Go.RowKit Go.Proofs.YtjcllneibeemgaaW.PrintWords Go.Proofs.YtjcllneibeemgaaW.PrintLast

def Q30 (x : S30) : Prop := (Lit.int .i64 x.f0).wf = true ∧ (Lit.int .i64 x.f1).wf = true
/-- THE ONE PURE STATEMENT of tributarylaw2_RowsApart. -/
def tributarylaw2_RowsApart.Pure : Prop := ∀ (l0 : List (S30)) (a1 : Int), ((l0).length ≤ maxLen ∧ ∀ y_ ∈ l0, Q30 y_) → l0.length * 16 ≤ 140737488351232 → (Lit.int .i64 a1).wf = true → ∃ k, tributarylaw2_RowsApart.f k l0 a1 = some true
end Go.Proofs.Ytjcllneibeemgaa.PRowsApart
