import Derived.Test.YtcphmcghiidicaaRowsTell
namespace Go.Proofs.Ytcphmcghiidicaa.PRw
open Go.RowKit Go.Proofs.YtcphmcghiidicaaW.PrintWords Go.Proofs.YtcphmcghiidicaaW.PrintLast

def Q35 (x : S35) : Prop := (Lit.int .i64 x.f0).wf = true ∧ (Lit.int .i64 x.f1).wf = true
def Q31 (x : S31) : Prop := (Lit.int .i64 x.f0).wf = true ∧ (Lit.int .i64 x.f1).wf = true ∧ (Lit.int .i64 x.f2).wf = true
/-- THE ONE PURE STATEMENT of tributarylaw2_RowsTell. -/
def tributarylaw2_RowsTell.Pure : Prop := ∀ (l0 : List (S35)) (l1 : List (S35)) (a2 : Int) (a3_0 : Int) (a3_1 : Int) (a3_2 : Int) (a4_0 : Int) (a4_1 : Int) (a4_2 : Int), ((l0).length ≤ maxLen ∧ ∀ y_ ∈ l0, Q35 y_) → l0.length * 16 ≤ 140737488351232 → ((l1).length ≤ maxLen ∧ ∀ y_ ∈ l1, Q35 y_) → l1.length * 16 ≤ 140737488351232 → (Lit.int .i64 a2).wf = true → ((Lit.int .i64 a3_0).wf = true ∧ (Lit.int .i64 a3_1).wf = true ∧ (Lit.int .i64 a3_2).wf = true) → ((Lit.int .i64 a4_0).wf = true ∧ (Lit.int .i64 a4_1).wf = true ∧ (Lit.int .i64 a4_2).wf = true) → tributarylaw2_RowsTell.f l0 l1 a2 a3_0 a3_1 a3_2 a4_0 a4_1 a4_2 = some true
end Go.Proofs.Ytcphmcghiidicaa.PRw
