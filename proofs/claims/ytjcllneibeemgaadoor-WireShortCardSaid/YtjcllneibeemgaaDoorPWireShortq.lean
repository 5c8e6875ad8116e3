import Derived.Test.YtjcllneibeemgaaDoorWireShort
namespace Go.Proofs.YtjcllneibeemgaaDoor.PFn
open Go.RowKit Go.Proofs.YtjcllneibeemgaaDoorW.PrintWords Go.Proofs.YtjcllneibeemgaaDoorW.PrintLast

def Q56 (x : S56) : Prop := (Lit.int .i64 x.f0).wf = true ∧ (Lit.int .i64 x.f1).wf = true
/-- THE ONE PURE STATEMENT of tributarylaw1_WireShort. -/
def tributarylaw1_WireShort.Pure : Prop := ∀ (a0 : Int) (a1 : Int) (l2 : List (S56)) (a3 : Int), (Lit.int .i64 a0).wf = true → (Lit.int .i64 a1).wf = true → ((l2).length ≤ maxLen ∧ ∀ y_ ∈ l2, Q56 y_) → l2.length * 16 ≤ 140737488351232 → (Lit.int .i64 a3).wf = true → tributarylaw1_WireShort.f a0 a1 l2 a3 = some true
end Go.Proofs.YtjcllneibeemgaaDoor.PFn
