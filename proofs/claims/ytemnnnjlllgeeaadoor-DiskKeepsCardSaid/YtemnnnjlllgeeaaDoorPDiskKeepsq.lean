import Derived.Test.YtemnnnjlllgeeaaDoorDiskKeeps
namespace Go.Proofs.YtemnnnjlllgeeaaDoor.PDsp
open Go.RowKit Go.Proofs.YtemnnnjlllgeeaaDoorW.PrintWords Go.Proofs.YtemnnnjlllgeeaaDoorW.PrintLast

def Q32 (x : S32) : Prop := (Lit.int .i64 x.f0).wf = true ∧ (Lit.int .i64 x.f1).wf = true ∧ ((x.f2).length ≤ maxLen ∧ ∀ y_ ∈ x.f2, (Lit.int .u8 y_).wf = true)
/-- THE ONE PURE STATEMENT of tributarylaw7_DiskKeeps. -/
def tributarylaw7_DiskKeeps.Pure : Prop := ∀ (l0 : List (S32)), ((l0).length ≤ maxLen ∧ ∀ y_ ∈ l0, Q32 y_) → l0.length * 40 ≤ 140737488351232 → tributarylaw7_DiskKeeps.f l0 = some true
end Go.Proofs.YtemnnnjlllgeeaaDoor.PDsp
