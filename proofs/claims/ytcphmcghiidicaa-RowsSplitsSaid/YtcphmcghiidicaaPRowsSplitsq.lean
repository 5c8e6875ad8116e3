import Derived.Test.YtcphmcghiidicaaRowsSplits
namespace Go.Proofs.Ytcphmcghiidicaa.PRw
open Go.RowKit Go.Proofs.YtcphmcghiidicaaW.PrintWords Go.Proofs.YtcphmcghiidicaaW.PrintLast

def Q35 (x : S35) : Prop := (Lit.int .i64 x.f0).wf = true ∧ (Lit.int .i64 x.f1).wf = true
/-- THE ONE PURE STATEMENT of tributarylaw2_RowsSplits. -/
def tributarylaw2_RowsSplits.Pure : Prop := ∀ (l0 : List (S35)) (l1 : List (S35)) (a2 : Int), ((l0).length ≤ maxLen ∧ ∀ y_ ∈ l0, Q35 y_) → l0.length * 16 ≤ 140737488351232 → ((l1).length ≤ maxLen ∧ ∀ y_ ∈ l1, Q35 y_) → l1.length * 16 ≤ 140737488351232 → (Lit.int .i64 a2).wf = true → tributarylaw2_RowsSplits.f l0 l1 a2 = some true
end Go.Proofs.Ytcphmcghiidicaa.PRw
