import Derived.Test.YtjcllneibeemgaaDoorWireIDs
namespace Go.Proofs.YtjcllneibeemgaaDoor.PFn
open Go.RowKit Go.Proofs.YtjcllneibeemgaaDoorW.PrintWords Go.Proofs.YtjcllneibeemgaaDoorW.PrintLast

def Q41 (x : S41) : Prop := (Lit.int .i64 x.f0).wf = true ∧ (Lit.int .i64 x.f1).wf = true ∧ (Lit.int .i64 x.f2).wf = true
/-- THE ONE PURE STATEMENT of tributarylaw1_WireIDs. -/
def tributarylaw1_WireIDs.Pure : Prop := ∀ (a0_0 : Int) (a0_1 : Int) (a0_2 : Int) (l1 : List Int) (a2 : Int), ((Lit.int .i64 a0_0).wf = true ∧ (Lit.int .i64 a0_1).wf = true ∧ (Lit.int .i64 a0_2).wf = true) → ((l1).length ≤ maxLen ∧ ∀ y_ ∈ l1, (Lit.int .u8 y_).wf = true) → l1.length * 1 ≤ 140737488351232 → (Lit.int .i64 a2).wf = true → tributarylaw1_WireIDs.f a0_0 a0_1 a0_2 l1 a2 = some true
end Go.Proofs.YtjcllneibeemgaaDoor.PFn
