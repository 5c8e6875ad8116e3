import Derived.Test.YtlhjjjpldmekdaaDoorLogEach
namespace Go.Proofs.YtlhjjjpldmekdaaDoor.PLg
open Go.RowKit Go.Proofs.YtlhjjjpldmekdaaDoorW.PrintWords Go.Proofs.YtlhjjjpldmekdaaDoorW.PrintLast

/-- THE ONE PURE STATEMENT of tributarylaw8_LogEach. -/
def tributarylaw8_LogEach.Pure : Prop := ∀ (l0 : List (List Int)) (a1 : Int) (l2 : List Int), ((l0).length ≤ maxLen ∧ ∀ y_ ∈ l0, ((y_).length ≤ maxLen ∧ ∀ y_1 ∈ y_, (Lit.int .u8 y_1).wf = true)) → l0.length * 24 ≤ 140737488351232 → (Lit.int .i64 a1).wf = true → ((l2).length ≤ maxLen ∧ ∀ y_ ∈ l2, (Lit.int .u8 y_).wf = true) → l2.length * 1 ≤ 140737488351232 → tributarylaw8_LogEach.f l0 a1 l2 = some true
end Go.Proofs.YtlhjjjpldmekdaaDoor.PLg
