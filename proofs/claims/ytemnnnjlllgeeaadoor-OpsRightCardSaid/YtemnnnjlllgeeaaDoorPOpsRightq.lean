import Derived.Test.YtemnnnjlllgeeaaDoorOpsRight
namespace Go.Proofs.YtemnnnjlllgeeaaDoor.POps
open Go.RowKit Go.Proofs.YtemnnnjlllgeeaaDoorW.PrintWords Go.Proofs.YtemnnnjlllgeeaaDoorW.PrintLast

def Q55 (x : S55) : Prop := (Lit.int .i64 x.f0).wf = true ∧ (Lit.int .i64 x.f1).wf = true ∧ (Lit.int .i64 x.f2).wf = true ∧ (Lit.int .i64 x.f3).wf = true ∧ (Lit.int .i64 x.f4).wf = true
/-- THE ONE PURE STATEMENT of tributarylaw3_OpsRight. -/
def tributarylaw3_OpsRight.Pure : Prop := ∀ (a0_0 : Int) (a0_1 : Int) (a0_2 : Int) (a0_3 : Int) (a0_4 : Int), ((Lit.int .i64 a0_0).wf = true ∧ (Lit.int .i64 a0_1).wf = true ∧ (Lit.int .i64 a0_2).wf = true ∧ (Lit.int .i64 a0_3).wf = true ∧ (Lit.int .i64 a0_4).wf = true) → tributarylaw3_OpsRight.f a0_0 a0_1 a0_2 a0_3 a0_4 = some true
end Go.Proofs.YtemnnnjlllgeeaaDoor.POps
