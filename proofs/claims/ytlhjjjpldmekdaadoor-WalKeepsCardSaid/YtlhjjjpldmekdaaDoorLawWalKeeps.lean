/- Proved: for every input (as data) the law tributarylaw9.WalKeeps returns true and leaves its arguments as they were. -/
import Derived.Test.YtlhjjjpldmekdaaDoorCards
import Derived.Test.YtlhjjjpldmekdaaDoorTie
import Derived.Test.YtlhjjjpldmekdaaDoorCard
import Derived.Deep.DeepHandedRow
import Derived.SevenTiedAt
import Derived.Deep.DeepWitnessRowRef
import Derived.Test.YtlhjjjpldmekdaaDoorRows
import Derived.Test.YtlhjjjpldmekdaaDoorPWalKeepsq
import Derived.Test.YtlhjjjpldmekdaaDoorPureWalKeeps
import Derived.Test.YtlhjjjpldmekdaaDoorOpen
import Derived.WalkKit
import Derived.ProofKit
import Derived.OpenShut
import Derived.ShutString
import Derived.ChangeOld
import Derived.Below
import Derived.SizedLaws
namespace Go.Proofs.YtlhjjjpldmekdaaDoor.walKeeps
open Go.ChangeShapes Go.WideShapes Go.ChangeAt Go.RowKit Go.Proofs.YtlhjjjpldmekdaaDoor.PWg Go.Proofs.YtlhjjjpldmekdaaDoorW.PrintWords Go.Proofs.YtlhjjjpldmekdaaDoorW
open Go.ChangeMaps (open_string shut_string)
set_option linter.unusedVariables false
set_option linter.unusedSimpArgs false
theorem own : ownKnob Tryd.prog.godebug = none := by kernel_rfl
theorem laidOut : laidOutB Tryd.prog = true := by kernel_rfl
theorem cells109 : Tryd.prog.cellsOf 109 = 2 := by kernel_rfl
set_option maxRecDepth 100000 in
theorem opens109 : Open.Opens Tryd.prog 109 k109 Q109 := Open.opens_struct (Q := fun p_ : Int × Int => (Lit.int .i64 p_.1).wf = true ∧ (Lit.int .i64 p_.2).wf = true) (fun x : S109 => (x.f0, x.f1)) (fun p => ⟨p.1, p.2⟩) (fun _ => rfl) Tryd.underlying109 cells109 (by rw [cells109]; exact (Open.opensF_cons rfl (Open.opens_int Tryd.underlying3 (by kernel_rfl)) (Open.opensF_one rfl rfl (Open.opens_int Tryd.underlying3 (by kernel_rfl)))))
theorem cells78 : Tryd.prog.cellsOf 78 = 3 := by kernel_rfl
set_option maxRecDepth 100000 in
theorem opens78 : Open.Opens Tryd.prog 78 k78 Q78 := Open.opens_struct (Q := fun p_ : Int × Int × (List (S109)) => (Lit.int .i64 p_.1).wf = true ∧ (Lit.int .i64 p_.2.1).wf = true ∧ ((p_.2.2).length ≤ maxLen ∧ ∀ y_ ∈ p_.2.2, Q109 y_)) (fun x : S78 => (x.f0, x.f1, x.f2)) (fun p => ⟨p.1, p.2.1, p.2.2⟩) (fun _ => rfl) Tryd.underlying78 cells78 (by rw [cells78]; exact (Open.opensF_cons rfl (Open.opens_int Tryd.underlying3 (by kernel_rfl)) (Open.opensF_cons rfl (Open.opens_int Tryd.underlying3 (by kernel_rfl)) (Open.opensF_one rfl rfl (Open.opens_slice Tryd.underlying76 (by kernel_rfl) opens109)))))
set_option maxRecDepth 100000 in
/-- What the walk gives, of whatever arguments: the same for both forms. -/
theorem contract (H : Type) (enc : TypeId × Value → H) (W : World) (base : Nat) (args : Array Value) (ds gs : List (DataW H)) (before : List MemPlace)
    (hval0 : ∀ (j : Nat) t v, Tryd.f9.params[j]? = some t → args[j]? = some v → Value.okWide Tryd.prog W .any base t v)
    (hW : DataW.Whole enc Tryd.prog Tryd.f9.params.toList Rows.walKeepsSpec.vars false W args.toList ds gs before)
    (hsz : (DataW.weightsEach Tryd.prog (Tryd.f9.params.toList ++ Rows.walKeepsSpec.plain.varTypes Tryd.prog) (ds ++ gs)).all (· ≤ reachBytes) = true) (hLL : laidMetH Tryd.prog Rows.walKeepsRow.laid W) :
    Calls Tryd.prog 9 args W fun e W' => ∃ v, e = .returned v ∧ Rows.walKeepsSpec.post enc Tryd.prog Tryd.f9 false true false false W args v W' := by
  have hL := Err.laid_of hLL
  have hval : ∀ (j : Nat) t v, Tryd.f9.params[j]? = some t → args[j]? = some v → Value.okWide Tryd.prog W .any base t v := hval0
  have hW' := hW
  obtain ⟨p, q, hA0, hV, rfl, hfz, hnd⟩ := hW
  have hA : DataW.TrodAll enc Tryd.prog W 0 (fun _ => true) true Tryd.f9.params.toList args.toList ds p := hA0
  rw [Tryd.params9] at hA hval hsz
  obtain ⟨v0, vs0, d0, ds0, p0, q0, hargs, rfl, rfl, h0, r0⟩ := trodAll_cons hA
  obtain ⟨rfl, rfl, rfl⟩ := trodAll_nil r0
  obtain rfl : args = #[v0] := by cases args; simp_all
  obtain ⟨rfl, rfl⟩ := trodVars_none hV
  obtain ⟨a0, len0, cap0, rfl⟩ := okWide_slice Tryd.underlying75 (hval 0 75 v0 rfl rfl)
  have k0 := h0
  have lt0 : ∀ x ∈ p0, x.block < W.heap.size := by obtain ⟨m, hm⟩ := k0; exact DataW.trod_lt m _ _ _ hm
  have y0 : len0 * 40 ≤ 140737488351232 := Open.sized_any hsz (j := 0) (t := 75) rfl rfl Tryd.underlying75 (by kernel_rfl) h0
  obtain ⟨l0, hl0, hc0, hr0, w0⟩ := Open.opens_slice_at (Open.opens_slice Tryd.underlying75 (by kernel_rfl) opens78) h0
  subst hl0
  clear hA0 hval0 hsz
  have hk := Pure.WalKeeps l0 w0 y0
  refine (PWg.tributarylaw9_WalKeeps.calls _ _ l0 true W hr0 hc0 hL hk).mono fun e W' ⟨he, bel0⟩ => ?_
  subst he
  have bel : Below W.heap.size W W' := bel0
  exact ⟨_, rfl, _, _, _, [], _, [], hW', trodAll_mk1 (shut_bool Tryd.underlying4 _), (trodAll_cons_mk (Below.trod laidOut (by kernel_rfl) (of_decide_eq_true (by kernel_rfl)) k0 bel lt0) trodAll_mk0), rfl, bel.frame _, fun h => by cases h⟩
theorem laid_met (os : Os) : laidMetH Tryd.prog Rows.walKeepsRow.laid ((Err.laidWorld os).forCall (fun _ _ => 0) ⟨#[], #[.slice none 0 0], []⟩).memory := laidMetH_of_parts (laidMet_nil _ _) (by kernel_rfl)
theorem reads (os : Os) {H : Type} (enc : TypeId × Value → H) : ∃ places, DataW.whole enc Tryd.prog ((Err.laidWorld os).forCall (fun _ _ => 0) ⟨#[], #[.slice none 0 0], []⟩).memory Tryd.f9.params.toList Rows.walKeepsSpec.vars false (#[.slice none 0 0] : Array Value).toList 8 = some ([.nil], [], places) := ⟨[], by kernel_rfl⟩
set_option maxRecDepth 100000 in
theorem lifted (os : Os) (started : os.Started) (H : Type) (enc : TypeId × Value → H) (F : Stop.Interp) :
    ReturnsInHanded {} Tryd.checked os 9 .any ((OpenSpec.ofChange Rows.walKeepsSpec).preRow enc Tryd.prog Tryd.f9 Rows.walKeepsRow.domain false Rows.walKeepsRow.laid) (((OpenSpec.ofChange Rows.walKeepsSpec).at F).post enc Tryd.prog Tryd.f9 false true false false) := by
  obtain ⟨places, hx⟩ := reads os enc
  refine returnsInHanded_of_row (C := Tryd.checked) (s := OpenSpec.ofChange Rows.walKeepsSpec) Err.own started (by kernel_rfl) Tryd.func9
    (witness_row_at (enc := enc) (C := Tryd.checked) false (Err.laidWorld os) #[.slice none 0 0] rfl (by kernel_rfl) (by kernel_rfl) (by kernel_rfl)
      (OpenSpec.preRow_of_cond 8 hx (by kernel_rfl) (fun k hk => by cases hk) (by kernel_rfl) (laid_met os))) ?_
  intro W base args ds gs before hval hW _ hcond hsz hL _ _
  exact contract H enc W base args ds gs before hval hW hsz hL
theorem said : Rows.WalKeepsSaid :=
  OpenClaim.holds_of_cond 9 Tryd.f9 rfl rfl rfl rfl rfl rfl rfl ⟨rfl, rfl, rfl, rfl, rfl⟩ rfl rfl rfl rfl rfl (by kernel_rfl) Tryd.func9 (by kernel_rfl)
    (of_decide_eq_true (by kernel_rfl)) (by unfold Func.isWrapper; first | (rw [if_pos (by decide +kernel)]; kernel_rfl) | (rw [if_neg (by decide +kernel)]; exact ⟨rfl, rfl⟩))
    (fun os started H enc _ F => by rw [OpenClaim.pre_eq_preRow]; exact lifted os started H enc F)
theorem plain (f : FuncId) (fn : Func) (hf : Tryd.pinned.checked.prog.funcNamed "tributary/tributarylaw9.WalKeeps" = some f) (hfn : Tryd.pinned.checked.prog.funcs[f]? = some fn) :
    true = Tryd.pinned.checked.prog.looks [] ∧ ∀ (j : Nat) t, fn.params[j]? = some t → Tryd.pinned.checked.prog.wantsStandIn t = false := by
  obtain rfl : f = 9 := Option.some.inj ((show Tryd.prog.funcNamed "tributary/tributarylaw9.WalKeeps" = some 9 by kernel_rfl).symm.trans hf) |>.symm
  obtain rfl : fn = Tryd.f9 := (Option.some.inj (Tryd.func9.symm.trans hfn)).symm
  refine ⟨by kernel_rfl, fun j t ht => ?_⟩
  rw [Tryd.params9] at ht
  have hm : t ∈ (#[75] : Array Nat) := Array.mem_of_getElem? ht
  have : t ∈ [75] := by simpa using hm
  have key : ∀ t ∈ [75], Tryd.prog.wantsStandIn t = false := by decide +kernel
  exact key t this
theorem card : Rows.WalKeepsCardSaid :=
  Claim7.holds_tied_plain_at .later [] _ _ _ _ said (fun _ h => by cases h) (by kernel_rfl) (fun _ h => by cases h) walKeeps_row_tie rfl ⟨rfl, rfl⟩ (by kernel_rfl) rfl plain (by kernel_rfl)
#print axioms card
end Go.Proofs.YtlhjjjpldmekdaaDoor.walKeeps
namespace Go.Proofs.YtlhjjjpldmekdaaDoor
/-- The card, under a short name, for the claim. -/
theorem walKeeps_holds : Rows.WalKeepsCardSaid := walKeeps.card
end Go.Proofs.YtlhjjjpldmekdaaDoor
