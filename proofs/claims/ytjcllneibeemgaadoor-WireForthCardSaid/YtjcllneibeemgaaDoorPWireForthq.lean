import Derived.Test.YtjcllneibeemgaaDoorWireForth
namespace Go.Proofs.YtjcllneibeemgaaDoor.PFn
open Go.RowKit Go.Proofs.YtjcllneibeemgaaDoorW.PrintWords Go.Proofs.YtjcllneibeemgaaDoorW.PrintLast

/-- THE ONE PURE STATEMENT of tributarylaw1_WireForth. -/
def tributarylaw1_WireForth.Pure : Prop := ∀ (l0 : List Int) (a1 : Int), ((l0).length ≤ maxLen ∧ ∀ y_ ∈ l0, (Lit.int .u8 y_).wf = true) → l0.length * 1 ≤ 140737488351232 → (Lit.int .i64 a1).wf = true → tributarylaw1_WireForth.f l0 a1 = some true
end Go.Proofs.YtjcllneibeemgaaDoor.PFn
