/- Proved: for every input (as data) the law tributarylaw2.RowsBefore returns true and leaves its arguments as they were. -/
import Derived.Test.YtjcllneibeemgaaRows
import Derived.Test.YtjcllneibeemgaaPRowsBeforeq
import Derived.Test.YtjcllneibeemgaaPureRowsBefore
import Derived.Test.YtjcllneibeemgaaOpen
import Derived.WalkKit
import Derived.ProofKit
import Derived.OpenShut
import Derived.ShutString
import Derived.ChangeOld
import Derived.Below
import Derived.SizedLaws
namespace Go.Proofs.Ytjcllneibeemgaa.rowsBefore
open Go.ChangeShapes Go.WideShapes Go.ChangeAt Go.RowKit Go.Proofs.Ytjcllneibeemgaa.PRowsBefore Go.Proofs.YtjcllneibeemgaaW.PrintWords Go.Proofs.YtjcllneibeemgaaW
open Go.ChangeMaps (open_string shut_string)
set_option linter.unusedVariables false
theorem own : ownKnob Try.prog.godebug = none := by kernel_rfl
theorem laidOut : laidOutB Try.prog = true := by kernel_rfl
theorem cells34 : Try.prog.cellsOf 34 = 3 := by kernel_rfl
theorem opens34 : Open.Opens Try.prog 34 k34 Q34 := Open.opens_struct (Q := fun p_ : Int × Int × Int => (Lit.int .i64 p_.1).wf = true ∧ (Lit.int .i64 p_.2.1).wf = true ∧ (Lit.int .i64 p_.2.2).wf = true) (fun x : S34 => (x.f0, x.f1, x.f2)) (fun p => ⟨p.1, p.2.1, p.2.2⟩) (fun _ => rfl) Try.underlying34 cells34 (by rw [cells34]; exact (Open.opensF_cons rfl (Open.opens_int Try.underlying3 (by kernel_rfl)) (Open.opensF_cons rfl (Open.opens_int Try.underlying3 (by kernel_rfl)) (Open.opensF_one rfl rfl (Open.opens_int Try.underlying3 (by kernel_rfl))))))
set_option maxRecDepth 100000 in
theorem lifted (os : Os) (started : os.Started) (H : Type) (enc : TypeId × Value → H) :
    ReturnsInHanded {} Try.checked os 5 .any (Rows.rowsBeforeSpec.pre6 enc Try.prog Try.f5 Rows.rowsBeforeRow.domain false) (Rows.rowsBeforeSpec.post enc Try.prog Try.f5 false true false false) := by
  refine returnsInHanded_of_change_sized (C := Try.checked) own started (by kernel_rfl) Try.func5
    (ChangeSpec.witness6 (enc := enc) (C := Try.checked) false ⟨#[], #[.agg #[.int .i64 0, .int .i64 0, .int .i64 0], .agg #[.int .i64 0, .int .i64 0, .int .i64 0], .agg #[.int .i64 0, .int .i64 0, .int .i64 0]], []⟩ 8 (by kernel_rfl) (by kernel_rfl) (by kernel_rfl) (by kernel_rfl)) ?_
  intro W base args ds gs before hval0 hW hcnd hsz0 _
  have hsz : (DataW.weightsEach Try.prog (Try.f5.params.toList ++ Rows.rowsBeforeSpec.plain.varTypes Try.prog) (ds ++ gs)).all (· ≤ reachBytes) = true := hsz0
  have hval : ∀ (j : Nat) t v, Try.f5.params[j]? = some t → args[j]? = some v → Value.okWide Try.prog W .any base t v := hval0
  have hW' := hW
  obtain ⟨p, q, hA0, hV, rfl, hfz, hnd⟩ := hW
  have hA : DataW.TrodAll enc Try.prog W 0 (fun _ => true) true Try.f5.params.toList args.toList ds p := hA0
  rw [Try.params5] at hA hval hsz
  obtain ⟨v0, vs0, d0, ds0, p0, q0, hargs, rfl, rfl, h0, r0⟩ := trodAll_cons hA
  obtain ⟨v1, vs1, d1, ds1, p1, q1, rfl, rfl, rfl, h1, r1⟩ := trodAll_cons r0
  obtain ⟨v2, vs2, d2, ds2, p2, q2, rfl, rfl, rfl, h2, r2⟩ := trodAll_cons r1
  obtain ⟨rfl, rfl, rfl⟩ := trodAll_nil r2
  obtain rfl : args = #[v0, v1, v2] := by cases args; simp_all
  obtain ⟨rfl, rfl⟩ := trodVars_none hV
  obtain ⟨cs0, rfl, hz0⟩ := okWide_struct Try.underlying34 (hval 0 34 v0 rfl rfl)
  have k0 := h0
  have lt0 : ∀ x ∈ p0, x.block < W.heap.size := by obtain ⟨m, hm⟩ := k0; exact DataW.trod_lt m _ _ _ hm
  obtain ⟨s0, hK0, w0⟩ := Open.opens_at opens34 h0
  have e0 := k34_open hK0
  obtain rfl : cs0 = #[.int .i64 s0.f0, .int .i64 s0.f1, .int .i64 s0.f2] := by cases cs0; simpa [Value.cells] using e0
  obtain ⟨cs1, rfl, hz1⟩ := okWide_struct Try.underlying34 (hval 1 34 v1 rfl rfl)
  have k1 := h1
  have lt1 : ∀ x ∈ p1, x.block < W.heap.size := by obtain ⟨m, hm⟩ := k1; exact DataW.trod_lt m _ _ _ hm
  obtain ⟨s1, hK1, w1⟩ := Open.opens_at opens34 h1
  have e1 := k34_open hK1
  obtain rfl : cs1 = #[.int .i64 s1.f0, .int .i64 s1.f1, .int .i64 s1.f2] := by cases cs1; simpa [Value.cells] using e1
  obtain ⟨cs2, rfl, hz2⟩ := okWide_struct Try.underlying34 (hval 2 34 v2 rfl rfl)
  have k2 := h2
  have lt2 : ∀ x ∈ p2, x.block < W.heap.size := by obtain ⟨m, hm⟩ := k2; exact DataW.trod_lt m _ _ _ hm
  obtain ⟨s2, hK2, w2⟩ := Open.opens_at opens34 h2
  have e2 := k34_open hK2
  obtain rfl : cs2 = #[.int .i64 s2.f0, .int .i64 s2.f1, .int .i64 s2.f2] := by cases cs2; simpa [Value.cells] using e2
  clear hA0 hval0 hsz0 hsz
  obtain ⟨k, hk⟩ := Pure.RowsBefore (s0.f0) (s0.f1) (s0.f2) (s1.f0) (s1.f1) (s1.f2) (s2.f0) (s2.f1) (s2.f2) w0 w1 w2
  refine (PRowsBefore.tributarylaw2_RowsBefore.calls k (s0.f0) (s0.f1) (s0.f2) (s1.f0) (s1.f1) (s1.f2) (s2.f0) (s2.f1) (s2.f2) true W hk).mono fun e W' ⟨he, bel0⟩ => ?_
  subst he
  have bel : Below W.heap.size W W' := bel0
  exact ⟨_, rfl, _, _, _, [], _, [], hW', trodAll_mk1 (shut_bool Try.underlying4 _), (trodAll_cons_mk (Below.trod laidOut (by kernel_rfl) (of_decide_eq_true (by kernel_rfl)) k0 bel lt0) (trodAll_cons_mk (Below.trod laidOut (by kernel_rfl) (of_decide_eq_true (by kernel_rfl)) k1 bel lt1) (trodAll_cons_mk (Below.trod laidOut (by kernel_rfl) (of_decide_eq_true (by kernel_rfl)) k2 bel lt2) trodAll_mk0))), rfl, bel.frame _, fun h => by cases h⟩
theorem over : Rows.rowsBeforeRow.holds Try.pinned (OpenSpec.ofChange Rows.rowsBeforeSpec) :=
  OpenClaim.holds_of_wide 5 Try.f5 rfl rfl rfl rfl rfl rfl rfl ⟨rfl, rfl, rfl, rfl, rfl⟩ rfl rfl rfl rfl rfl (by kernel_rfl) Try.func5 (by kernel_rfl)
    (of_decide_eq_true (by kernel_rfl)) (by unfold Func.isWrapper; first | (rw [if_pos (by decide +kernel)]; kernel_rfl) | (rw [if_neg (by decide +kernel)]; exact ⟨rfl, rfl⟩))
    (fun os started H enc _ => lifted os started H enc)
theorem proved : Rows.RowsBeforeSaid := over
#print axioms proved
end Go.Proofs.Ytjcllneibeemgaa.rowsBefore
namespace Go.Proofs.Ytjcllneibeemgaa
/-- The row, under a short name, for the claim. -/
theorem rowsBefore_holds : Rows.RowsBeforeSaid := rowsBefore.proved
end Go.Proofs.Ytjcllneibeemgaa
