/- Proved: for every input (as data) the law tributarylaw2.RowsSplits returns true and leaves its arguments as they were. -/
import Derived.Test.YtcphmcghiidicaaRows
import Derived.Test.YtcphmcghiidicaaPRowsSplitsq
import Derived.Test.YtcphmcghiidicaaPureRowsSplits
import Derived.Test.YtcphmcghiidicaaOpen
import Derived.WalkKit
import Derived.ProofKit
import Derived.OpenShut
import Derived.ShutString
import Derived.ChangeOld
import Derived.Below
import Derived.SizedLaws
namespace Go.Proofs.Ytcphmcghiidicaa.rowsSplits
open Go.ChangeShapes Go.WideShapes Go.ChangeAt Go.RowKit Go.Proofs.Ytcphmcghiidicaa.PRw Go.Proofs.YtcphmcghiidicaaW.PrintWords Go.Proofs.YtcphmcghiidicaaW
open Go.ChangeMaps (open_string shut_string)
set_option linter.unusedVariables false
theorem own : ownKnob Try.prog.godebug = none := by kernel_rfl
theorem laidOut : laidOutB Try.prog = true := by kernel_rfl
theorem cells35 : Try.prog.cellsOf 35 = 2 := by kernel_rfl
set_option maxRecDepth 100000 in
theorem opens35 : Open.Opens Try.prog 35 k35 Q35 := Open.opens_struct (Q := fun p_ : Int × Int => (Lit.int .i64 p_.1).wf = true ∧ (Lit.int .i64 p_.2).wf = true) (fun x : S35 => (x.f0, x.f1)) (fun p => ⟨p.1, p.2⟩) (fun _ => rfl) Try.underlying35 cells35 (by rw [cells35]; exact (Open.opensF_cons rfl (Open.opens_int Try.underlying3 (by kernel_rfl)) (Open.opensF_one rfl rfl (Open.opens_int Try.underlying3 (by kernel_rfl)))))
set_option maxRecDepth 100000 in
theorem lifted (os : Os) (started : os.Started) (H : Type) (enc : TypeId × Value → H) :
    ReturnsInHanded {} Try.checked os 3 .any (Rows.rowsSplitsSpec.pre6 enc Try.prog Try.f3 Rows.rowsSplitsRow.domain false) (Rows.rowsSplitsSpec.post enc Try.prog Try.f3 false true false false) := by
  refine returnsInHanded_of_change_sized (C := Try.checked) own started (by kernel_rfl) Try.func3
    (ChangeSpec.witness6 (enc := enc) (C := Try.checked) false ⟨#[], #[.slice none 0 0, .slice none 0 0, .int .i64 0], []⟩ 8 (by kernel_rfl) (by kernel_rfl) (by kernel_rfl) (by kernel_rfl)) ?_
  intro W base args ds gs before hval0 hW hcnd hsz0 _
  have hsz : (DataW.weightsEach Try.prog (Try.f3.params.toList ++ Rows.rowsSplitsSpec.plain.varTypes Try.prog) (ds ++ gs)).all (· ≤ reachBytes) = true := hsz0
  have hval : ∀ (j : Nat) t v, Try.f3.params[j]? = some t → args[j]? = some v → Value.okWide Try.prog W .any base t v := hval0
  have hW' := hW
  obtain ⟨p, q, hA0, hV, rfl, hfz, hnd⟩ := hW
  have hA : DataW.TrodAll enc Try.prog W 0 (fun _ => true) true Try.f3.params.toList args.toList ds p := hA0
  rw [Try.params3] at hA hval hsz
  obtain ⟨v0, vs0, d0, ds0, p0, q0, hargs, rfl, rfl, h0, r0⟩ := trodAll_cons hA
  obtain ⟨v1, vs1, d1, ds1, p1, q1, rfl, rfl, rfl, h1, r1⟩ := trodAll_cons r0
  obtain ⟨v2, vs2, d2, ds2, p2, q2, rfl, rfl, rfl, h2, r2⟩ := trodAll_cons r1
  obtain ⟨rfl, rfl, rfl⟩ := trodAll_nil r2
  obtain rfl : args = #[v0, v1, v2] := by cases args; simp_all
  obtain ⟨rfl, rfl⟩ := trodVars_none hV
  obtain ⟨a0, len0, cap0, rfl⟩ := okWide_slice Try.underlying22 (hval 0 22 v0 rfl rfl)
  have k0 := h0
  have lt0 : ∀ x ∈ p0, x.block < W.heap.size := by obtain ⟨m, hm⟩ := k0; exact DataW.trod_lt m _ _ _ hm
  have y0 : len0 * 16 ≤ 140737488351232 := Open.sized_any hsz (j := 0) (t := 22) rfl rfl Try.underlying22 (by kernel_rfl) h0
  obtain ⟨l0, hl0, hc0, hr0, w0⟩ := Open.opens_slice_at (Open.opens_slice Try.underlying22 (by kernel_rfl) opens35) h0
  subst hl0
  obtain ⟨a1, len1, cap1, rfl⟩ := okWide_slice Try.underlying22 (hval 1 22 v1 rfl rfl)
  have k1 := h1
  have lt1 : ∀ x ∈ p1, x.block < W.heap.size := by obtain ⟨m, hm⟩ := k1; exact DataW.trod_lt m _ _ _ hm
  have y1 : len1 * 16 ≤ 140737488351232 := Open.sized_any hsz (j := 1) (t := 22) rfl rfl Try.underlying22 (by kernel_rfl) h1
  obtain ⟨l1, hl1, hc1, hr1, w1⟩ := Open.opens_slice_at (Open.opens_slice Try.underlying22 (by kernel_rfl) opens35) h1
  subst hl1
  obtain ⟨a2, rfl, rfl, rfl, w2⟩ := open_int Try.underlying3 (hval 2 3 v2 rfl rfl) h2
  clear hA0 hval0 hsz0 hsz
  have hk := Pure.RowsSplits l0 l1 a2 w0 y0 w1 y1 w2
  refine (PRw.tributarylaw2_RowsSplits.calls _ _ l0 _ _ l1 a2 true W hr0 hc0 hr1 hc1 hk).mono fun e W' ⟨he, bel0⟩ => ?_
  subst he
  have bel : Below W.heap.size W W' := bel0
  exact ⟨_, rfl, _, _, _, [], _, [], hW', trodAll_mk1 (shut_bool Try.underlying4 _), (trodAll_cons_mk (Below.trod laidOut (by kernel_rfl) (of_decide_eq_true (by kernel_rfl)) k0 bel lt0) (trodAll_cons_mk (Below.trod laidOut (by kernel_rfl) (of_decide_eq_true (by kernel_rfl)) k1 bel lt1) (trodAll_cons_mk (shut_int Try.underlying3 w2) trodAll_mk0))), rfl, bel.frame _, fun h => by cases h⟩
theorem over : Rows.rowsSplitsRow.holds Try.pinned (OpenSpec.ofChange Rows.rowsSplitsSpec) :=
  OpenClaim.holds_of_wide 3 Try.f3 rfl rfl rfl rfl rfl rfl rfl ⟨rfl, rfl, rfl, rfl, rfl⟩ rfl rfl rfl rfl rfl (by kernel_rfl) Try.func3 (by kernel_rfl)
    (of_decide_eq_true (by kernel_rfl)) (by unfold Func.isWrapper; first | (rw [if_pos (by decide +kernel)]; kernel_rfl) | (rw [if_neg (by decide +kernel)]; exact ⟨rfl, rfl⟩))
    (fun os started H enc _ => lifted os started H enc)
theorem proved : Rows.RowsSplitsSaid := over
#print axioms proved
end Go.Proofs.Ytcphmcghiidicaa.rowsSplits
namespace Go.Proofs.Ytcphmcghiidicaa
/-- The row, under a short name, for the claim. -/
theorem rowsSplits_holds : Rows.RowsSplitsSaid := rowsSplits.proved
end Go.Proofs.Ytcphmcghiidicaa
