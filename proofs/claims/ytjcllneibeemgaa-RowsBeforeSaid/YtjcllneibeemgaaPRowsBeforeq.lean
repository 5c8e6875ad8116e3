import Derived.Test.YtjcllneibeemgaaPRowsBeforex3
namespace Go.Proofs.Ytjcllneibeemgaa.PRowsBefore
open Go.RowKit Go.Proofs.YtjcllneibeemgaaW.PrintWords Go.Proofs.YtjcllneibeemgaaW.PrintLast

def Q34 (x : S34) : Prop := (Lit.int .i64 x.f0).wf = true ∧ (Lit.int .i64 x.f1).wf = true ∧ (Lit.int .i64 x.f2).wf = true
/-- THE ONE PURE STATEMENT of tributarylaw2_RowsBefore. -/
def tributarylaw2_RowsBefore.Pure : Prop := ∀ (a0_0 : Int) (a0_1 : Int) (a0_2 : Int) (a1_0 : Int) (a1_1 : Int) (a1_2 : Int) (a2_0 : Int) (a2_1 : Int) (a2_2 : Int), ((Lit.int .i64 a0_0).wf = true ∧ (Lit.int .i64 a0_1).wf = true ∧ (Lit.int .i64 a0_2).wf = true) → ((Lit.int .i64 a1_0).wf = true ∧ (Lit.int .i64 a1_1).wf = true ∧ (Lit.int .i64 a1_2).wf = true) → ((Lit.int .i64 a2_0).wf = true ∧ (Lit.int .i64 a2_1).wf = true ∧ (Lit.int .i64 a2_2).wf = true) → ∃ k, tributarylaw2_RowsBefore.f k a0_0 a0_1 a0_2 a1_0 a1_1 a1_2 a2_0 a2_1 a2_2 = some true
end Go.Proofs.Ytjcllneibeemgaa.PRowsBefore
