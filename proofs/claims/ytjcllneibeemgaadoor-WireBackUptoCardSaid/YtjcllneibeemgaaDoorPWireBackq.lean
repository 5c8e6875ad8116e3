import Derived.Test.YtjcllneibeemgaaDoorWireBack
namespace Go.Proofs.YtjcllneibeemgaaDoor.PFn
open Go.RowKit Go.Proofs.YtjcllneibeemgaaDoorW.PrintWords Go.Proofs.YtjcllneibeemgaaDoorW.PrintLast

def Q56 (x : S56) : Prop := (Lit.int .i64 x.f0).wf = true ∧ (Lit.int .i64 x.f1).wf = true
def Q41 (x : S41) : Prop := (Lit.int .i64 x.f0).wf = true ∧ (Lit.int .i64 x.f1).wf = true ∧ (Lit.int .i64 x.f2).wf = true
/-- THE ONE PURE STATEMENT of tributarylaw1_WireBack. -/
def tributarylaw1_WireBack.Pure : Prop := ∀ (a0 : Int) (l1 : List (S56)) (a2_0 : Int) (a2_1 : Int) (a2_2 : Int) (l3 : List Int) (l4 : List Int), (Lit.int .i64 a0).wf = true → ((l1).length ≤ maxLen ∧ ∀ y_ ∈ l1, Q56 y_) → l1.length * 16 ≤ 140737488351232 → l1.length ≤ 1048576 → ((Lit.int .i64 a2_0).wf = true ∧ (Lit.int .i64 a2_1).wf = true ∧ (Lit.int .i64 a2_2).wf = true) → ((l3).length ≤ maxLen ∧ ∀ y_ ∈ l3, (Lit.int .u8 y_).wf = true) → l3.length * 1 ≤ 140737488351232 → l3.length ≤ 1048576 → ((l4).length ≤ maxLen ∧ ∀ y_ ∈ l4, (Lit.int .u8 y_).wf = true) → l4.length * 1 ≤ 140737488351232 → l4.length ≤ 1048576 → ∃ k, tributarylaw1_WireBack.f k a0 l1 a2_0 a2_1 a2_2 l3 l4 = some true
end Go.Proofs.YtjcllneibeemgaaDoor.PFn
