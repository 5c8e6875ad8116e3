/- Proved: for every input (as data) the law tributarylaw3.OpsBack returns true and leaves its arguments as they were. -/
import Derived.Test.YtemnnnjlllgeeaaDoorCards
import Derived.Test.YtemnnnjlllgeeaaDoorTie
import Derived.Test.YtemnnnjlllgeeaaDoorCard
import Derived.Deep.DeepHandedRow
import Derived.SevenTiedAt
import Derived.Deep.DeepWitnessRowRef
import Derived.Test.YtemnnnjlllgeeaaDoorRows
import Derived.Test.YtemnnnjlllgeeaaDoorPOpsBackq
import Derived.Test.YtemnnnjlllgeeaaDoorPureOpsBack
import Derived.Test.YtemnnnjlllgeeaaDoorOpen
import Derived.WalkKit
import Derived.ProofKit
import Derived.OpenShut
import Derived.ShutString
import Derived.ChangeOld
import Derived.Below
import Derived.SizedLaws
namespace Go.Proofs.YtemnnnjlllgeeaaDoor.opsBack
open Go.ChangeShapes Go.WideShapes Go.ChangeAt Go.RowKit Go.Proofs.YtemnnnjlllgeeaaDoor.POps Go.Proofs.YtemnnnjlllgeeaaDoorW.PrintWords Go.Proofs.YtemnnnjlllgeeaaDoorW
open Go.ChangeMaps (open_string shut_string)
set_option linter.unusedVariables false
set_option linter.unusedSimpArgs false
theorem own : ownKnob Tryd.prog.godebug = none := by kernel_rfl
theorem laidOut : laidOutB Tryd.prog = true := by kernel_rfl
theorem cells62 : Tryd.prog.cellsOf 62 = 2 := by kernel_rfl
set_option maxRecDepth 100000 in
theorem opens62 : Open.Opens Tryd.prog 62 k62 Q62 := Open.opens_struct (Q := fun p_ : Int × Int => (Lit.int .i64 p_.1).wf = true ∧ (Lit.int .i64 p_.2).wf = true) (fun x : S62 => (x.f0, x.f1)) (fun p => ⟨p.1, p.2⟩) (fun _ => rfl) Tryd.underlying62 cells62 (by rw [cells62]; exact (Open.opensF_cons rfl (Open.opens_int Tryd.underlying3 (by kernel_rfl)) (Open.opensF_one rfl rfl (Open.opens_int Tryd.underlying3 (by kernel_rfl)))))
set_option maxRecDepth 100000 in
/-- What the walk gives, of whatever arguments: the same for both forms. -/
theorem contract (H : Type) (enc : TypeId × Value → H) (W : World) (base : Nat) (args : Array Value) (ds gs : List (DataW H)) (before : List MemPlace)
    (hval0 : ∀ (j : Nat) t v, Tryd.f11.params[j]? = some t → args[j]? = some v → Value.okWide Tryd.prog W .any base t v)
    (hW : DataW.Whole enc Tryd.prog Tryd.f11.params.toList Rows.opsBackSpec.vars false W args.toList ds gs before)
    (hsz : (DataW.weightsEach Tryd.prog (Tryd.f11.params.toList ++ Rows.opsBackSpec.plain.varTypes Tryd.prog) (ds ++ gs)).all (· ≤ reachBytes) = true) (hLL : laidMetH Tryd.prog Rows.opsBackRow.laid W) :
    Calls Tryd.prog 11 args W fun e W' => ∃ v, e = .returned v ∧ Rows.opsBackSpec.post enc Tryd.prog Tryd.f11 false true false false W args v W' := by
  have hL := Err.laid_of hLL
  have hval : ∀ (j : Nat) t v, Tryd.f11.params[j]? = some t → args[j]? = some v → Value.okWide Tryd.prog W .any base t v := hval0
  have hW' := hW
  obtain ⟨p, q, hA0, hV, rfl, hfz, hnd⟩ := hW
  have hA : DataW.TrodAll enc Tryd.prog W 0 (fun _ => true) true Tryd.f11.params.toList args.toList ds p := hA0
  rw [Tryd.params11] at hA hval hsz
  obtain ⟨v0, vs0, d0, ds0, p0, q0, hargs, rfl, rfl, h0, r0⟩ := trodAll_cons hA
  obtain ⟨v1, vs1, d1, ds1, p1, q1, rfl, rfl, rfl, h1, r1⟩ := trodAll_cons r0
  obtain ⟨rfl, rfl, rfl⟩ := trodAll_nil r1
  obtain rfl : args = #[v0, v1] := by cases args; simp_all
  obtain ⟨rfl, rfl⟩ := trodVars_none hV
  obtain ⟨a0, rfl, rfl, rfl, w0⟩ := open_int Tryd.underlying3 (hval 0 3 v0 rfl rfl) h0
  obtain ⟨a1, len1, cap1, rfl⟩ := okWide_slice Tryd.underlying60 (hval 1 60 v1 rfl rfl)
  have k1 := h1
  have lt1 : ∀ x ∈ p1, x.block < W.heap.size := by obtain ⟨m, hm⟩ := k1; exact DataW.trod_lt m _ _ _ hm
  have y1 : len1 * 16 ≤ 140737488351232 := Open.sized_any hsz (j := 1) (t := 60) rfl rfl Tryd.underlying60 (by kernel_rfl) h1
  obtain ⟨l1, hl1, hc1, hr1, w1⟩ := Open.opens_slice_at (Open.opens_slice Tryd.underlying60 (by kernel_rfl) opens62) h1
  subst hl1
  clear hA0 hval0 hsz
  obtain ⟨k, hk⟩ := Pure.OpsBack a0 l1 w0 w1 y1
  refine (POps.tributarylaw3_OpsBack.calls k a0 _ _ l1 true W hr1 hc1 hL hk).mono fun e W' ⟨he, bel0⟩ => ?_
  subst he
  have bel : Below W.heap.size W W' := bel0
  exact ⟨_, rfl, _, _, _, [], _, [], hW', trodAll_mk1 (shut_bool Tryd.underlying4 _), (trodAll_cons_mk (shut_int Tryd.underlying3 w0) (trodAll_cons_mk (Below.trod laidOut (by kernel_rfl) (of_decide_eq_true (by kernel_rfl)) k1 bel lt1) trodAll_mk0)), rfl, bel.frame _, fun h => by cases h⟩
theorem laid_met (os : Os) : laidMetH Tryd.prog Rows.opsBackRow.laid ((Err.laidWorld os).forCall (fun _ _ => 0) ⟨#[], #[.int .i64 0, .slice none 0 0], []⟩).memory := laidMetH_of_parts (laidMet_nil _ _) (by kernel_rfl)
theorem reads (os : Os) {H : Type} (enc : TypeId × Value → H) : ∃ places, DataW.whole enc Tryd.prog ((Err.laidWorld os).forCall (fun _ _ => 0) ⟨#[], #[.int .i64 0, .slice none 0 0], []⟩).memory Tryd.f11.params.toList Rows.opsBackSpec.vars false (#[.int .i64 0, .slice none 0 0] : Array Value).toList 8 = some ([.lit (.int .i64 0), .nil], [], places) := ⟨[], by kernel_rfl⟩
set_option maxRecDepth 100000 in
theorem lifted (os : Os) (started : os.Started) (H : Type) (enc : TypeId × Value → H) (F : Stop.Interp) :
    ReturnsInHanded {} Tryd.checked os 11 .any ((OpenSpec.ofChange Rows.opsBackSpec).preRow enc Tryd.prog Tryd.f11 Rows.opsBackRow.domain false Rows.opsBackRow.laid) (((OpenSpec.ofChange Rows.opsBackSpec).at F).post enc Tryd.prog Tryd.f11 false true false false) := by
  obtain ⟨places, hx⟩ := reads os enc
  refine returnsInHanded_of_row (C := Tryd.checked) (s := OpenSpec.ofChange Rows.opsBackSpec) Err.own started (by kernel_rfl) Tryd.func11
    (witness_row_at (enc := enc) (C := Tryd.checked) false (Err.laidWorld os) #[.int .i64 0, .slice none 0 0] rfl (by kernel_rfl) (by kernel_rfl) (by kernel_rfl)
      (OpenSpec.preRow_of_cond 8 hx (by kernel_rfl) (fun k hk => by cases hk) (by kernel_rfl) (laid_met os))) ?_
  intro W base args ds gs before hval hW _ hcond hsz hL _ _
  exact contract H enc W base args ds gs before hval hW hsz hL
theorem said : Rows.OpsBackSaid :=
  OpenClaim.holds_of_cond 11 Tryd.f11 rfl rfl rfl rfl rfl rfl rfl ⟨rfl, rfl, rfl, rfl, rfl⟩ rfl rfl rfl rfl rfl (by kernel_rfl) Tryd.func11 (by kernel_rfl)
    (of_decide_eq_true (by kernel_rfl)) (by unfold Func.isWrapper; first | (rw [if_pos (by decide +kernel)]; kernel_rfl) | (rw [if_neg (by decide +kernel)]; exact ⟨rfl, rfl⟩))
    (fun os started H enc _ F => by rw [OpenClaim.pre_eq_preRow]; exact lifted os started H enc F)
theorem plain (f : FuncId) (fn : Func) (hf : Tryd.pinned.checked.prog.funcNamed "tributary/tributarylaw3.OpsBack" = some f) (hfn : Tryd.pinned.checked.prog.funcs[f]? = some fn) :
    true = Tryd.pinned.checked.prog.looks [] ∧ ∀ (j : Nat) t, fn.params[j]? = some t → Tryd.pinned.checked.prog.wantsStandIn t = false := by
  obtain rfl : f = 11 := Option.some.inj ((show Tryd.prog.funcNamed "tributary/tributarylaw3.OpsBack" = some 11 by kernel_rfl).symm.trans hf) |>.symm
  obtain rfl : fn = Tryd.f11 := (Option.some.inj (Tryd.func11.symm.trans hfn)).symm
  refine ⟨by kernel_rfl, fun j t ht => ?_⟩
  rw [Tryd.params11] at ht
  have hm : t ∈ (#[3, 60] : Array Nat) := Array.mem_of_getElem? ht
  have : t ∈ [3, 60] := by simpa using hm
  have key : ∀ t ∈ [3, 60], Tryd.prog.wantsStandIn t = false := by decide +kernel
  exact key t this
theorem card : Rows.OpsBackCardSaid :=
  Claim7.holds_tied_plain_at .later [] _ _ _ _ said (fun _ h => by cases h) (by kernel_rfl) (fun _ h => by cases h) opsBack_row_tie rfl ⟨rfl, rfl⟩ (by kernel_rfl) rfl plain (by kernel_rfl)
#print axioms card
end Go.Proofs.YtemnnnjlllgeeaaDoor.opsBack
namespace Go.Proofs.YtemnnnjlllgeeaaDoor
/-- The card, under a short name, for the claim. -/
theorem opsBack_holds : Rows.OpsBackCardSaid := opsBack.card
end Go.Proofs.YtemnnnjlllgeeaaDoor
