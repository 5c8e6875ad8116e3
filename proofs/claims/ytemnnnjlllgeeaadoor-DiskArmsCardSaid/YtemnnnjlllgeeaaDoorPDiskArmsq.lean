import Derived.Test.YtemnnnjlllgeeaaDoorDiskArms
namespace Go.Proofs.YtemnnnjlllgeeaaDoor.PDsk
open Go.RowKit Go.Proofs.YtemnnnjlllgeeaaDoorW.PrintWords Go.Proofs.YtemnnnjlllgeeaaDoorW.PrintLast

/-- THE ONE PURE STATEMENT of tributarylaw7_DiskArms. -/
def tributarylaw7_DiskArms.Pure : Prop := ∀ (a0 : Int) (a1 : Int), (Lit.int .i64 a0).wf = true → (Lit.int .i64 a1).wf = true → tributarylaw7_DiskArms.f a0 a1 = some true
end Go.Proofs.YtemnnnjlllgeeaaDoor.PDsk
