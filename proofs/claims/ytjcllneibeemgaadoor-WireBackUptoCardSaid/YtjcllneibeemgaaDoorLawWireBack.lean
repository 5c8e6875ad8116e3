/- Proved: for every input (as data) the law tributarylaw1.WireBack returns true and leaves its arguments as they were. -/
import Derived.Test.YtjcllneibeemgaaDoorCards
import Derived.Test.YtjcllneibeemgaaDoorTie
import Derived.Test.YtjcllneibeemgaaDoorCard
import Derived.Test.YtjcllneibeemgaaDoorBulk
import Derived.Deep.DeepHandedRow
import Derived.SevenTiedAt
import Derived.Deep.DeepWitnessRowRef
import Derived.Test.YtjcllneibeemgaaDoorRows
import Derived.Test.YtjcllneibeemgaaDoorPWireBackq
import Derived.Test.YtjcllneibeemgaaDoorPureWireBack
import Derived.Test.YtjcllneibeemgaaDoorOpen
import Derived.WalkKit
import Derived.ProofKit
import Derived.OpenShut
import Derived.ShutString
import Derived.ChangeOld
import Derived.Below
import Derived.SizedLaws
namespace Go.Proofs.YtjcllneibeemgaaDoor.wireBack
open Go.ChangeShapes Go.WideShapes Go.ChangeAt Go.RowKit Go.Proofs.YtjcllneibeemgaaDoor.PFn Go.Proofs.YtjcllneibeemgaaDoorW.PrintWords Go.Proofs.YtjcllneibeemgaaDoorW
open Go.ChangeMaps (open_string shut_string)
set_option linter.unusedVariables false
set_option linter.unusedSimpArgs false
theorem own : ownKnob Tryd.prog.godebug = none := by kernel_rfl
theorem laidOut : laidOutB Tryd.prog = true := by kernel_rfl
theorem cells56 : Tryd.prog.cellsOf 56 = 2 := by kernel_rfl
set_option maxRecDepth 100000 in
theorem opens56 : Open.Opens Tryd.prog 56 k56 Q56 := Open.opens_struct (Q := fun p_ : Int × Int => (Lit.int .i64 p_.1).wf = true ∧ (Lit.int .i64 p_.2).wf = true) (fun x : S56 => (x.f0, x.f1)) (fun p => ⟨p.1, p.2⟩) (fun _ => rfl) Tryd.underlying56 cells56 (by rw [cells56]; exact (Open.opensF_cons rfl (Open.opens_int Tryd.underlying3 (by kernel_rfl)) (Open.opensF_one rfl rfl (Open.opens_int Tryd.underlying3 (by kernel_rfl)))))
theorem cells41 : Tryd.prog.cellsOf 41 = 3 := by kernel_rfl
set_option maxRecDepth 100000 in
theorem opens41 : Open.Opens Tryd.prog 41 k41 Q41 := Open.opens_struct (Q := fun p_ : Int × Int × Int => (Lit.int .i64 p_.1).wf = true ∧ (Lit.int .i64 p_.2.1).wf = true ∧ (Lit.int .i64 p_.2.2).wf = true) (fun x : S41 => (x.f0, x.f1, x.f2)) (fun p => ⟨p.1, p.2.1, p.2.2⟩) (fun _ => rfl) Tryd.underlying41 cells41 (by rw [cells41]; exact (Open.opensF_cons rfl (Open.opens_int Tryd.underlying3 (by kernel_rfl)) (Open.opensF_cons rfl (Open.opens_int Tryd.underlying3 (by kernel_rfl)) (Open.opensF_one rfl rfl (Open.opens_int Tryd.underlying3 (by kernel_rfl))))))
set_option maxRecDepth 100000 in
/-- What the walk gives, of whatever arguments: the same for both forms. -/
theorem contract (H : Type) (enc : TypeId × Value → H) (W : World) (base : Nat) (args : Array Value) (ds gs : List (DataW H)) (before : List MemPlace)
    (hval0 : ∀ (j : Nat) t v, Tryd.f6.params[j]? = some t → args[j]? = some v → Value.okWide Tryd.prog W .any base t v)
    (hW : DataW.Whole enc Tryd.prog Tryd.f6.params.toList Rows.wireBackSpec.vars false W args.toList ds gs before) (hk0 : Rows.uptoSmall H (ds ++ gs) = true)
    (hsz : (DataW.weightsEach Tryd.prog (Tryd.f6.params.toList ++ Rows.wireBackSpec.plain.varTypes Tryd.prog) (ds ++ gs)).all (· ≤ reachBytes) = true) (hLL : laidMetH Tryd.prog Rows.wireBackRow.laid W) :
    Calls Tryd.prog 6 args W fun e W' => ∃ v, e = .returned v ∧ Rows.wireBackSpec.post enc Tryd.prog Tryd.f6 false true false false W args v W' := by
  have hL := Err.laid_of hLL
  have hval : ∀ (j : Nat) t v, Tryd.f6.params[j]? = some t → args[j]? = some v → Value.okWide Tryd.prog W .any base t v := hval0
  have hW' := hW
  obtain ⟨p, q, hA0, hV, rfl, hfz, hnd⟩ := hW
  have hA : DataW.TrodAll enc Tryd.prog W 0 (fun _ => true) true Tryd.f6.params.toList args.toList ds p := hA0
  rw [Tryd.params6] at hA hval hsz
  obtain ⟨v0, vs0, d0, ds0, p0, q0, hargs, rfl, rfl, h0, r0⟩ := trodAll_cons hA
  obtain ⟨v1, vs1, d1, ds1, p1, q1, rfl, rfl, rfl, h1, r1⟩ := trodAll_cons r0
  obtain ⟨v2, vs2, d2, ds2, p2, q2, rfl, rfl, rfl, h2, r2⟩ := trodAll_cons r1
  obtain ⟨v3, vs3, d3, ds3, p3, q3, rfl, rfl, rfl, h3, r3⟩ := trodAll_cons r2
  obtain ⟨v4, vs4, d4, ds4, p4, q4, rfl, rfl, rfl, h4, r4⟩ := trodAll_cons r3
  obtain ⟨rfl, rfl, rfl⟩ := trodAll_nil r4
  obtain rfl : args = #[v0, v1, v2, v3, v4] := by cases args; simp_all
  obtain ⟨rfl, rfl⟩ := trodVars_none hV
  obtain ⟨a0, rfl, rfl, rfl, w0⟩ := open_int Tryd.underlying3 (hval 0 3 v0 rfl rfl) h0
  obtain ⟨a1, len1, cap1, rfl⟩ := okWide_slice Tryd.underlying34 (hval 1 34 v1 rfl rfl)
  have k1 := h1
  have lt1 : ∀ x ∈ p1, x.block < W.heap.size := by obtain ⟨m, hm⟩ := k1; exact DataW.trod_lt m _ _ _ hm
  have y1 : len1 * 16 ≤ 140737488351232 := Open.sized_any hsz (j := 1) (t := 34) rfl rfl Tryd.underlying34 (by kernel_rfl) h1
  obtain ⟨l1, hl1, hc1, hr1, w1⟩ := Open.opens_slice_at (Open.opens_slice Tryd.underlying34 (by kernel_rfl) opens56) h1
  have u1 : len1 ≤ 1048576 := bulks.len_le hk0 (d := d1) (by simp) (Go.Joins.sliceLen_Trod Tryd.underlying34 k1)
  subst hl1
  obtain ⟨cs2, rfl, hz2⟩ := okWide_struct Tryd.underlying41 (hval 2 41 v2 rfl rfl)
  have k2 := h2
  have lt2 : ∀ x ∈ p2, x.block < W.heap.size := by obtain ⟨m, hm⟩ := k2; exact DataW.trod_lt m _ _ _ hm
  obtain ⟨s2, hK2, w2⟩ := Open.opens_at opens41 h2
  have e2 := k41_open hK2
  obtain rfl : cs2 = #[.int .i64 s2.f0, .int .i64 s2.f1, .int .i64 s2.f2] := by cases cs2; simpa [Value.cells] using e2
  obtain ⟨a3, len3, cap3, rfl⟩ := okWide_slice Tryd.underlying22 (hval 3 22 v3 rfl rfl)
  have k3 := h3
  have lt3 : ∀ x ∈ p3, x.block < W.heap.size := by obtain ⟨m, hm⟩ := k3; exact DataW.trod_lt m _ _ _ hm
  have y3 : len3 * 1 ≤ 140737488351232 := Open.sized_any hsz (j := 3) (t := 22) rfl rfl Tryd.underlying22 (by kernel_rfl) h3
  obtain ⟨l3, hl3, hc3, hr3, w3⟩ := Open.opens_slice_at (Open.opens_slice Tryd.underlying22 (by kernel_rfl) (Open.opens_int Tryd.underlying5 (by kernel_rfl))) h3
  have u3 : len3 ≤ 1048576 := bulks.len_le hk0 (d := d3) (by simp) (Go.Joins.sliceLen_Trod Tryd.underlying22 k3)
  subst hl3
  obtain ⟨a4, len4, cap4, rfl⟩ := okWide_slice Tryd.underlying22 (hval 4 22 v4 rfl rfl)
  have k4 := h4
  have lt4 : ∀ x ∈ p4, x.block < W.heap.size := by obtain ⟨m, hm⟩ := k4; exact DataW.trod_lt m _ _ _ hm
  have y4 : len4 * 1 ≤ 140737488351232 := Open.sized_any hsz (j := 4) (t := 22) rfl rfl Tryd.underlying22 (by kernel_rfl) h4
  obtain ⟨l4, hl4, hc4, hr4, w4⟩ := Open.opens_slice_at (Open.opens_slice Tryd.underlying22 (by kernel_rfl) (Open.opens_int Tryd.underlying5 (by kernel_rfl))) h4
  have u4 : len4 ≤ 1048576 := bulks.len_le hk0 (d := d4) (by simp) (Go.Joins.sliceLen_Trod Tryd.underlying22 k4)
  subst hl4
  clear hA0 hval0 hsz
  obtain ⟨k, hk⟩ := Pure.WireBack a0 l1 (s2.f0) (s2.f1) (s2.f2) l3 l4 w0 w1 y1 u1 w2 w3 y3 u3 w4 y4 u4
  refine (PFn.tributarylaw1_WireBack.calls k a0 _ _ l1 (s2.f0) (s2.f1) (s2.f2) _ _ l3 _ _ l4 true W hr1 hc1 hr3 hc3 hr4 hc4 hL hk).mono fun e W' ⟨he, bel0⟩ => ?_
  subst he
  have bel : Below W.heap.size W W' := bel0
  exact ⟨_, rfl, _, _, _, [], _, [], hW', trodAll_mk1 (shut_bool Tryd.underlying4 _), (trodAll_cons_mk (shut_int Tryd.underlying3 w0) (trodAll_cons_mk (Below.trod laidOut (by kernel_rfl) (of_decide_eq_true (by kernel_rfl)) k1 bel lt1) (trodAll_cons_mk (Below.trod laidOut (by kernel_rfl) (of_decide_eq_true (by kernel_rfl)) k2 bel lt2) (trodAll_cons_mk (Below.trod laidOut (by kernel_rfl) (of_decide_eq_true (by kernel_rfl)) k3 bel lt3) (trodAll_cons_mk (Below.trod laidOut (by kernel_rfl) (of_decide_eq_true (by kernel_rfl)) k4 bel lt4) trodAll_mk0))))), rfl, bel.frame _, fun h => by cases h⟩
theorem laid_met (os : Os) : laidMetH Tryd.prog Rows.wireBackRow.laid ((Err.laidWorld os).forCall (fun _ _ => 0) ⟨#[], #[.int .i64 0, .slice none 0 0, .agg #[.int .i64 0, .int .i64 0, .int .i64 0], .slice none 0 0, .slice none 0 0], []⟩).memory := laidMetH_of_parts (laidMet_nil _ _) (by kernel_rfl)
theorem reads (os : Os) {H : Type} (enc : TypeId × Value → H) : ∃ places, DataW.whole enc Tryd.prog ((Err.laidWorld os).forCall (fun _ _ => 0) ⟨#[], #[.int .i64 0, .slice none 0 0, .agg #[.int .i64 0, .int .i64 0, .int .i64 0], .slice none 0 0, .slice none 0 0], []⟩).memory Tryd.f6.params.toList Rows.wireBackSpec.vars false (#[.int .i64 0, .slice none 0 0, .agg #[.int .i64 0, .int .i64 0, .int .i64 0], .slice none 0 0, .slice none 0 0] : Array Value).toList 8 = some ([.lit (.int .i64 0), .nil, .agg [.lit (.int .i64 0), .lit (.int .i64 0), .lit (.int .i64 0)], .nil, .nil], [], places) := ⟨[], by kernel_rfl⟩
set_option maxRecDepth 100000 in
theorem lifted (os : Os) (started : os.Started) (H : Type) (enc : TypeId × Value → H) (F : Stop.Interp) :
    ReturnsInHanded {} Tryd.checked os 6 .any ((Rows.OpenSpec.upto Rows.wireBackSpec).preRow enc Tryd.prog Tryd.f6 Rows.wireBackUptoRow.domain false Rows.wireBackUptoRow.laid) (((Rows.OpenSpec.upto Rows.wireBackSpec).at F).post enc Tryd.prog Tryd.f6 false true false false) := by
  obtain ⟨places, hx⟩ := reads os enc
  refine returnsInHanded_of_row (C := Tryd.checked) (s := Rows.OpenSpec.upto Rows.wireBackSpec) Err.own started (by kernel_rfl) Tryd.func6
    (witness_row_at (enc := enc) (C := Tryd.checked) false (Err.laidWorld os) #[.int .i64 0, .slice none 0 0, .agg #[.int .i64 0, .int .i64 0, .int .i64 0], .slice none 0 0, .slice none 0 0] rfl (by kernel_rfl) (by kernel_rfl) (by kernel_rfl)
      (OpenSpec.preRow_of_cond 8 hx (by kernel_rfl) (fun k hk => by cases hk; kernel_rfl) (by kernel_rfl) (laid_met os))) ?_
  intro W base args ds gs before hval hW _ hcond hsz hL _ _
  exact contract H enc W base args ds gs before hval hW (hcond _ rfl) hsz hL
theorem said : Rows.WireBackUptoSaid :=
  OpenClaim.holds_of_cond 6 Tryd.f6 rfl rfl rfl rfl rfl rfl rfl ⟨rfl, rfl, rfl, rfl, rfl⟩ rfl rfl rfl rfl rfl (by kernel_rfl) Tryd.func6 (by kernel_rfl)
    (of_decide_eq_true (by kernel_rfl)) (by unfold Func.isWrapper; first | (rw [if_pos (by decide +kernel)]; kernel_rfl) | (rw [if_neg (by decide +kernel)]; exact ⟨rfl, rfl⟩))
    (fun os started H enc _ F => by rw [OpenClaim.pre_eq_preRow]; exact lifted os started H enc F)
theorem plain (f : FuncId) (fn : Func) (hf : Tryd.pinned.checked.prog.funcNamed "tributary/tributarylaw1.WireBack" = some f) (hfn : Tryd.pinned.checked.prog.funcs[f]? = some fn) :
    true = Tryd.pinned.checked.prog.looks [] ∧ ∀ (j : Nat) t, fn.params[j]? = some t → Tryd.pinned.checked.prog.wantsStandIn t = false := by
  obtain rfl : f = 6 := Option.some.inj ((show Tryd.prog.funcNamed "tributary/tributarylaw1.WireBack" = some 6 by kernel_rfl).symm.trans hf) |>.symm
  obtain rfl : fn = Tryd.f6 := (Option.some.inj (Tryd.func6.symm.trans hfn)).symm
  refine ⟨by kernel_rfl, fun j t ht => ?_⟩
  rw [Tryd.params6] at ht
  have hm : t ∈ (#[3, 34, 41, 22, 22] : Array Nat) := Array.mem_of_getElem? ht
  have : t ∈ [3, 34, 41, 22, 22] := by simpa using hm
  have key : ∀ t ∈ [3, 34, 41, 22, 22], Tryd.prog.wantsStandIn t = false := by decide +kernel
  exact key t this
theorem card : Rows.WireBackUptoCardSaid :=
  Claim7.holds_tied_plain_at .later [] _ _ _ _ said (fun _ h => by cases h) (by kernel_rfl) (fun _ h => by cases h) wireBackUpto_row_tie rfl ⟨rfl, rfl⟩ (by kernel_rfl) rfl plain (by kernel_rfl)
#print axioms card
end Go.Proofs.YtjcllneibeemgaaDoor.wireBack
namespace Go.Proofs.YtjcllneibeemgaaDoor
/-- The card, under a short name, for the claim. -/
theorem wireBack_holds : Rows.WireBackUptoCardSaid := wireBack.card
end Go.Proofs.YtjcllneibeemgaaDoor
