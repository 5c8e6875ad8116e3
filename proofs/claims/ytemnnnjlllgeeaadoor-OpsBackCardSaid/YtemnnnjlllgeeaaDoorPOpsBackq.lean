import Derived.Test.YtemnnnjlllgeeaaDoorPOpsx10
namespace Go.Proofs.YtemnnnjlllgeeaaDoor.POps
open Go.RowKit Go.Proofs.YtemnnnjlllgeeaaDoorW.PrintWords Go.Proofs.YtemnnnjlllgeeaaDoorW.PrintLast

def Q62 (x : S62) : Prop := (Lit.int .i64 x.f0).wf = true ∧ (Lit.int .i64 x.f1).wf = true
/-- THE ONE PURE STATEMENT of tributarylaw3_OpsBack. -/
def tributarylaw3_OpsBack.Pure : Prop := ∀ (a0 : Int) (l1 : List (S62)), (Lit.int .i64 a0).wf = true → ((l1).length ≤ maxLen ∧ ∀ y_ ∈ l1, Q62 y_) → l1.length * 16 ≤ 140737488351232 → ∃ k, tributarylaw3_OpsBack.f k a0 l1 = some true
end Go.Proofs.YtemnnnjlllgeeaaDoor.POps
