/- Proved: an append told as a run, and a call, as one step of a walk or of a region that draws its order; no condition. -/
import Derived.Test.YtcphmcghiidicaaRwKeep
import Derived.Test.YtcphmcghiidicaaRwPure
import Derived.Deep.RegionLaw
namespace Go.Proofs.Ytcphmcghiidicaa.PRw
open Go.RowKit Go.Proofs.YtcphmcghiidicaaW.PrintWords Go.Proofs.YtcphmcghiidicaaW.PrintLast Go.Proofs.YtcphmcghiidicaaW.PrintMore
set_option linter.unusedVariables false
section
variable {P : Program} {w : World} {ops : Array Oper} {rest : List Oper} {o : Oper} {a : Act} {Q : Exit → Act → World → Prop} {K : Act → World → Prop} {E : Prop}
theorem wpList_run (hgd : o.guard = none) (s x : Operand) (t : TypeId) (ho : o.op = .call { callee := .builtin .append, args := #[s, x], argTypes := #[t, t] }) (v u v1 : Value) (w1 : World) (hs : a.eval s = v) (hx : a.eval x = u) (hr : (Builtin.append_ #[t, t] o.type #[v, u]).run P w = .ok v1 w1)
    (h : wpList P ops Q rest (a.put o.dst v1) w1) : wpList P ops Q (o :: rest) a w := by
  refine wpList_plain hgd fun K hK => ?_
  unfold Oper.wp execOp
  simp only [ho, resolve, invoke, builtin, Sem.run_bind, Sem.run_pure, Result.andThen_ok, List.map_toArray, List.map_cons, List.map_nil, hs, hx, hr]
  exact hK _ _ h
theorem law_append (hw : Region.wanted o (yielded ops a.tmps) = true) (s x : Operand) (t : TypeId) (ho : o.op = .call { callee := .builtin .append, args := #[s, x], argTypes := #[t, t] }) (v u v1 : Value) (w1 : World) (hs : a.eval s = v) (hx : a.eval x = u) (hr : (Builtin.append_ #[t, t] o.type #[v, u]).run P w = .ok v1 w1)
    (h : K (a.put o.dst v1) w1) : if Region.wanted o (yielded ops a.tmps) = true then Oper.wp P o a w K Q else E := by
  rw [if_pos hw]
  unfold Oper.wp execOp
  simp only [ho, resolve, invoke, builtin, Sem.run_bind, Sem.run_pure, Result.andThen_ok, List.map_toArray, List.map_cons, List.map_nil, hs, hx, hr]
  exact h
theorem law_call {f : FuncId} {args : Array Value} (hw : Region.wanted o (yielded ops a.tmps) = true) (hrun : (execOp a.eval o).run P w = .ok (.enter f args) w)
    (h : Calls P f args w fun e w' => ∃ v, e = .returned v ∧ K (a.put o.dst v) w') : if Region.wanted o (yielded ops a.tmps) = true then Oper.wp P o a w K Q else E := by
  rw [if_pos hw]
  unfold Oper.wp
  rw [hrun, Oper.upon_enter]
  refine h.mono fun e w'' hh => ?_
  obtain ⟨v, rfl, hk⟩ := hh
  exact hk
end
theorem and3 (n : Int) : ∃ of : Nat, 1 ≤ of ∧ of ≤ 4 ∧ wrap64 (Go.bits .and .i64 n 3 + 1) = (of : Int) ∧ Go.bits .and .i64 n 3 + 1 = (of : Int) := by
  have h := Pure.i64_and3 n
  refine ⟨(n % 4 + 1).toNat, by omega, by omega, ?_, by omega⟩
  rw [h]
  unfold wrap64
  omega
abbrev KS := Kd.slice 35 k35
end Go.Proofs.Ytcphmcghiidicaa.PRw
