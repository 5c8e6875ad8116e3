import Derived.Test.YtemnnnjlllgeeaaDoorPOpsx9
namespace Go.Proofs.YtemnnnjlllgeeaaDoor.POps
open Go.RowKit Go.Proofs.YtemnnnjlllgeeaaDoorW.PrintWords Go.Proofs.YtemnnnjlllgeeaaDoorW.PrintLast

def Q55 (x : S55) : Prop := (Lit.int .i64 x.f0).wf = true ∧ (Lit.int .i64 x.f1).wf = true ∧ (Lit.int .i64 x.f2).wf = true ∧ (Lit.int .i64 x.f3).wf = true ∧ (Lit.int .i64 x.f4).wf = true
def Q62 (x : S62) : Prop := (Lit.int .i64 x.f0).wf = true ∧ (Lit.int .i64 x.f1).wf = true
/-- THE ONE PURE STATEMENT of tributarylaw3_OpsShapes. -/
def tributarylaw3_OpsShapes.Pure : Prop := ∀ (a0_0 : Int) (a0_1 : Int) (a0_2 : Int) (a0_3 : Int) (a0_4 : Int) (l1 : List (S62)) (l2 : List (S62)), ((Lit.int .i64 a0_0).wf = true ∧ (Lit.int .i64 a0_1).wf = true ∧ (Lit.int .i64 a0_2).wf = true ∧ (Lit.int .i64 a0_3).wf = true ∧ (Lit.int .i64 a0_4).wf = true) → ((l1).length ≤ maxLen ∧ ∀ y_ ∈ l1, Q62 y_) → l1.length * 16 ≤ 140737488351232 → ((l2).length ≤ maxLen ∧ ∀ y_ ∈ l2, Q62 y_) → l2.length * 16 ≤ 140737488351232 → ∃ k, tributarylaw3_OpsShapes.f k a0_0 a0_1 a0_2 a0_3 a0_4 l1 l2 = some true
end Go.Proofs.YtemnnnjlllgeeaaDoor.POps
