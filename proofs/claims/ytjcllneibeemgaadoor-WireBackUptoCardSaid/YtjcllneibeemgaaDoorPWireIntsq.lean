import Derived.Test.YtjcllneibeemgaaDoorWireInts
namespace Go.Proofs.YtjcllneibeemgaaDoor.PFn
open Go.RowKit Go.Proofs.YtjcllneibeemgaaDoorW.PrintWords Go.Proofs.YtjcllneibeemgaaDoorW.PrintLast

/-- THE ONE PURE STATEMENT of tributarylaw1_WireInts. -/
def tributarylaw1_WireInts.Pure : Prop := ∀ (a0 : Int) (l1 : List Int) (a2 : Int), (Lit.int .i64 a0).wf = true → ((l1).length ≤ maxLen ∧ ∀ y_ ∈ l1, (Lit.int .u8 y_).wf = true) → l1.length * 1 ≤ 140737488351232 → (Lit.int .i64 a2).wf = true → tributarylaw1_WireInts.f a0 l1 a2 = some true
end Go.Proofs.YtjcllneibeemgaaDoor.PFn
