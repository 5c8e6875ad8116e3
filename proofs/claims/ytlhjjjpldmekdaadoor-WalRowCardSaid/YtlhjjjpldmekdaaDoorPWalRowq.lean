import Derived.Test.YtlhjjjpldmekdaaDoorWalRow
namespace Go.Proofs.YtlhjjjpldmekdaaDoor.PWg
open Go.RowKit Go.Proofs.YtlhjjjpldmekdaaDoorW.PrintWords Go.Proofs.YtlhjjjpldmekdaaDoorW.PrintLast

def Q109 (x : S109) : Prop := (Lit.int .i64 x.f0).wf = true ∧ (Lit.int .i64 x.f1).wf = true
/-- THE ONE PURE STATEMENT of tributarylaw9_WalRow. -/
def tributarylaw9_WalRow.Pure : Prop := ∀ (l0 : List (List (S109))) (l1 : List Int), ((l0).length ≤ maxLen ∧ ∀ y_ ∈ l0, ((y_).length ≤ maxLen ∧ ∀ y_1 ∈ y_, Q109 y_1)) → l0.length * 24 ≤ 140737488351232 → ((l1).length ≤ maxLen ∧ ∀ y_ ∈ l1, (Lit.int .i64 y_).wf = true) → l1.length * 8 ≤ 140737488351232 → tributarylaw9_WalRow.f l0 l1 = some true
end Go.Proofs.YtlhjjjpldmekdaaDoor.PWg
