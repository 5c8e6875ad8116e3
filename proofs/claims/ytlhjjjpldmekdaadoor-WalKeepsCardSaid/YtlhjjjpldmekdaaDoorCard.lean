/- Proved: what a row's listed variable gives a walk; a world that meets the row's condition (after the kit's worked text ToyasProofs). -/
import Derived.Test.YtlhjjjpldmekdaaDoorCode
import Derived.Test.YtlhjjjpldmekdaaDoorRows
import Derived.LaidLaws
import Derived.LaidHandle
import Derived.Stop.Joined
namespace Go.Proofs.YtlhjjjpldmekdaaDoor.Err
open Go.ChangeShapes Go.WideShapes Go.RowKit

theorem own : ownKnob Tryd.prog.godebug = none := by kernel_rfl
theorem gErr : Tryd.prog.globalNamed "errors.errorType" = some 0 := by kernel_rfl
theorem tRtype : (Tryd.prog.cutTypes.find? (·.1 == "internal/reflectlite.rtype")).map (·.2) = some 184 := by kernel_rfl
theorem oneRow : ((List.range 231).filter fun t => Tryd.prog.rowNamed t [101, 114, 114, 111, 114]) = [25] := by kernel_rfl
theorem nTypes : Tryd.prog.types.size = 231 := by kernel_rfl
theorem laid_of {W : World} (h : laidMetH Tryd.prog [("errors.errorType", Rows.laid_errors_errorType)] W) : Laid W := by
  have h' : laidMet Tryd.prog [] W ∧ handlesMet Tryd.prog [("errors.errorType", Rows.laid_errors_errorType)] W := h
  obtain ⟨name, u, ty, e1, e2, e3, e4, e5⟩ := h'.2 _ (List.mem_singleton.2 rfl)
  have en : name = [101, 114, 114, 111, 114] := (Option.some.inj e1).symm
  subst en
  obtain rfl := Option.some.inj (tRtype.symm.trans e2)
  have hm : ty ∈ (List.range 231).filter fun t => Tryd.prog.rowNamed t [101, 114, 114, 111, 114] := List.mem_filter.2 ⟨List.mem_range.2 (by rw [← nTypes]; exact e3), e4⟩
  rw [oneRow] at hm
  obtain rfl := List.mem_singleton.1 hm
  have hh : typeHandle Tryd.prog 25 = .pointer (some ⟨1, 25, none⟩) := by kernel_rfl
  rw [hh] at e5
  unfold Laid
  simpa using World.var?_cell gErr e5 0
/-- A world that meets the condition: the settled one, the variable's cell laid. -/
noncomputable def laidWorld (os : Os) : World :=
  let w0 := World.holding Tryd.prog os ⟨#[], #[], []⟩
  { w0 with heap := w0.heap.modify 0 fun
      | .cells _ t frozen => .cells #[.iface 184 (.agg #[.pointer (some ⟨1, 25, none⟩)])] t frozen
      | o => o }
end Go.Proofs.YtlhjjjpldmekdaaDoor.Err
