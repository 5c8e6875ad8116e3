import Derived.Test.YtemnnnjlllgeeaaDoorPOpsx11
namespace Go.Proofs.YtemnnnjlllgeeaaDoor.POps
open Go.RowKit Go.Proofs.YtemnnnjlllgeeaaDoorW.PrintWords Go.Proofs.YtemnnnjlllgeeaaDoorW.PrintLast

def Q62 (x : S62) : Prop := (Lit.int .i64 x.f0).wf = true ∧ (Lit.int .i64 x.f1).wf = true
/-- THE ONE PURE STATEMENT of tributarylaw3_OpsUnion. -/
def tributarylaw3_OpsUnion.Pure : Prop := ∀ (l0 : List (S62)) (l1 : List (S62)) (l2 : List (S62)), ((l0).length ≤ maxLen ∧ ∀ y_ ∈ l0, Q62 y_) → l0.length * 16 ≤ 140737488351232 → ((l1).length ≤ maxLen ∧ ∀ y_ ∈ l1, Q62 y_) → l1.length * 16 ≤ 140737488351232 → ((l2).length ≤ maxLen ∧ ∀ y_ ∈ l2, Q62 y_) → l2.length * 16 ≤ 140737488351232 → ∃ k, tributarylaw3_OpsUnion.f k l0 l1 l2 = some true
end Go.Proofs.YtemnnnjlllgeeaaDoor.POps
