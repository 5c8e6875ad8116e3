import Derived.Test.YtlhjjjpldmekdaaDoorLogKeeps
namespace Go.Proofs.YtlhjjjpldmekdaaDoor.PLg
open Go.RowKit Go.Proofs.YtlhjjjpldmekdaaDoorW.PrintWords Go.Proofs.YtlhjjjpldmekdaaDoorW.PrintLast

def Q48 (x : S48) : Prop := (Lit.int .i64 x.f0).wf = true ∧ (Lit.int .i64 x.f1).wf = true ∧ ((x.f2).length ≤ maxLen ∧ ∀ y_ ∈ x.f2, (Lit.int .u8 y_).wf = true)
/-- THE ONE PURE STATEMENT of tributarylaw8_LogKeeps. -/
def tributarylaw8_LogKeeps.Pure : Prop := ∀ (l0 : List (S48)), ((l0).length ≤ maxLen ∧ ∀ y_ ∈ l0, Q48 y_) → l0.length * 40 ≤ 140737488351232 → tributarylaw8_LogKeeps.f l0 = some true
end Go.Proofs.YtlhjjjpldmekdaaDoor.PLg
