import Derived.Test.YtlhjjjpldmekdaaDoorLogPlays
namespace Go.Proofs.YtlhjjjpldmekdaaDoor.PLg
open Go.RowKit Go.Proofs.YtlhjjjpldmekdaaDoorW.PrintWords Go.Proofs.YtlhjjjpldmekdaaDoorW.PrintLast

def Q48 (x : S48) : Prop := (Lit.int .i64 x.f0).wf = true ∧ (Lit.int .i64 x.f1).wf = true ∧ ((x.f2).length ≤ maxLen ∧ ∀ y_ ∈ x.f2, (Lit.int .u8 y_).wf = true)
/-- THE ONE PURE STATEMENT of tributarylaw8_LogPlays. -/
def tributarylaw8_LogPlays.Pure : Prop := ∀ (a0 : Int) (l1 : List (S48)), (Lit.int .i64 a0).wf = true → ((l1).length ≤ maxLen ∧ ∀ y_ ∈ l1, Q48 y_) → l1.length * 40 ≤ 140737488351232 → tributarylaw8_LogPlays.f a0 l1 = some true
end Go.Proofs.YtlhjjjpldmekdaaDoor.PLg
