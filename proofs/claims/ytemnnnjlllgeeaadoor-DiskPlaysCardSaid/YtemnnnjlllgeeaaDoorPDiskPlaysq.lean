import Derived.Test.YtemnnnjlllgeeaaDoorDiskPlays
namespace Go.Proofs.YtemnnnjlllgeeaaDoor.PDsp
open Go.RowKit Go.Proofs.YtemnnnjlllgeeaaDoorW.PrintWords Go.Proofs.YtemnnnjlllgeeaaDoorW.PrintLast

def Q32 (x : S32) : Prop := (Lit.int .i64 x.f0).wf = true ∧ (Lit.int .i64 x.f1).wf = true ∧ ((x.f2).length ≤ maxLen ∧ ∀ y_ ∈ x.f2, (Lit.int .u8 y_).wf = true)
/-- THE ONE PURE STATEMENT of tributarylaw7_DiskPlays. -/
def tributarylaw7_DiskPlays.Pure : Prop := ∀ (a0 : Int) (l1 : List (S32)), (Lit.int .i64 a0).wf = true → ((l1).length ≤ maxLen ∧ ∀ y_ ∈ l1, Q32 y_) → l1.length * 40 ≤ 140737488351232 → tributarylaw7_DiskPlays.f a0 l1 = some true
end Go.Proofs.YtemnnnjlllgeeaaDoor.PDsp
