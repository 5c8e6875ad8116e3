import Derived.Test.YtlhjjjpldmekdaaDoorLogReads
namespace Go.Proofs.YtlhjjjpldmekdaaDoor.PLg
open Go.RowKit Go.Proofs.YtlhjjjpldmekdaaDoorW.PrintWords Go.Proofs.YtlhjjjpldmekdaaDoorW.PrintLast

/-- THE ONE PURE STATEMENT of tributarylaw8_LogReads. -/
def tributarylaw8_LogReads.Pure : Prop := ∀ (l0 : List (List Int)), ((l0).length ≤ maxLen ∧ ∀ y_ ∈ l0, ((y_).length ≤ maxLen ∧ ∀ y_1 ∈ y_, (Lit.int .u8 y_1).wf = true)) → l0.length * 24 ≤ 140737488351232 → tributarylaw8_LogReads.f l0 = some true
end Go.Proofs.YtlhjjjpldmekdaaDoor.PLg
