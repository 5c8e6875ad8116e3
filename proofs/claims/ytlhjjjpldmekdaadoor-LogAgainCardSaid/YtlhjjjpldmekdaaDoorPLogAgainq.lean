import Derived.Test.YtlhjjjpldmekdaaDoorLogAgain
namespace Go.Proofs.YtlhjjjpldmekdaaDoor.PLg
open Go.RowKit Go.Proofs.YtlhjjjpldmekdaaDoorW.PrintWords Go.Proofs.YtlhjjjpldmekdaaDoorW.PrintLast

/-- THE ONE PURE STATEMENT of tributarylaw8_LogAgain. -/
def tributarylaw8_LogAgain.Pure : Prop := ∀ (l0 : List (List Int)) (l1 : List Bool), ((l0).length ≤ maxLen ∧ ∀ y_ ∈ l0, ((y_).length ≤ maxLen ∧ ∀ y_1 ∈ y_, (Lit.int .u8 y_1).wf = true)) → l0.length * 24 ≤ 140737488351232 → ((l1).length ≤ maxLen ∧ ∀ y_ ∈ l1, True) → l1.length * 1 ≤ 140737488351232 → tributarylaw8_LogAgain.f l0 l1 = some true
end Go.Proofs.YtlhjjjpldmekdaaDoor.PLg
