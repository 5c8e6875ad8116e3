import Derived.Test.YtlhjjjpldmekdaaDoorWalKeeps
namespace Go.Proofs.YtlhjjjpldmekdaaDoor.PWg
open Go.RowKit Go.Proofs.YtlhjjjpldmekdaaDoorW.PrintWords Go.Proofs.YtlhjjjpldmekdaaDoorW.PrintLast

def Q109 (x : S109) : Prop := (Lit.int .i64 x.f0).wf = true ∧ (Lit.int .i64 x.f1).wf = true
def Q78 (x : S78) : Prop := (Lit.int .i64 x.f0).wf = true ∧ (Lit.int .i64 x.f1).wf = true ∧ ((x.f2).length ≤ maxLen ∧ ∀ y_ ∈ x.f2, Q109 y_)
/-- THE ONE PURE STATEMENT of tributarylaw9_WalKeeps. -/
def tributarylaw9_WalKeeps.Pure : Prop := ∀ (l0 : List (S78)), ((l0).length ≤ maxLen ∧ ∀ y_ ∈ l0, Q78 y_) → l0.length * 40 ≤ 140737488351232 → tributarylaw9_WalKeeps.f l0 = some true
end Go.Proofs.YtlhjjjpldmekdaaDoor.PWg
