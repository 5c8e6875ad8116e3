import Derived.Test.YtbbjkgpilmcldaaPWtx5
namespace Go.Proofs.Ytbbjkgpilmcldaa.PWt
open Go.RowKit Go.Proofs.YtbbjkgpilmcldaaW.PrintWords Go.Proofs.YtbbjkgpilmcldaaW.PrintLast

def Q54 (x : S54) : Prop := (Lit.int .i64 x.f0).wf = true ∧ (Lit.int .i64 x.f1).wf = true ∧ (Lit.int .i64 x.f2).wf = true ∧ (Lit.int .i64 x.f3).wf = true ∧ (Lit.int .i64 x.f4).wf = true
def Q30 (x : S30) : Prop := (Lit.int .i64 x.f0).wf = true ∧ (Lit.int .i64 x.f1).wf = true
/-- THE ONE PURE STATEMENT of tributarylaw4_WideTells. -/
def tributarylaw4_WideTells.Pure : Prop := ∀ (a0_0 : Int) (a0_1 : Int) (a0_2 : Int) (a0_3 : Int) (a0_4 : Int) (l1 : List (S30)) (l2 : List (S30)) (l3 : List (S30)), ((Lit.int .i64 a0_0).wf = true ∧ (Lit.int .i64 a0_1).wf = true ∧ (Lit.int .i64 a0_2).wf = true ∧ (Lit.int .i64 a0_3).wf = true ∧ (Lit.int .i64 a0_4).wf = true) → ((l1).length ≤ maxLen ∧ ∀ y_ ∈ l1, Q30 y_) → l1.length * 16 ≤ 140737488351232 → ((l2).length ≤ maxLen ∧ ∀ y_ ∈ l2, Q30 y_) → l2.length * 16 ≤ 140737488351232 → ((l3).length ≤ maxLen ∧ ∀ y_ ∈ l3, Q30 y_) → l3.length * 16 ≤ 140737488351232 → ∃ k, tributarylaw4_WideTells.f k a0_0 a0_1 a0_2 a0_3 a0_4 l1 l2 l3 = some true
end Go.Proofs.Ytbbjkgpilmcldaa.PWt
