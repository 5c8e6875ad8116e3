/- Proved: the law OpsRight returns true for all numbers: the walk. -/
import Derived.Test.YtemnnnjlllgeeaaDoorOpsPure
import Derived.Test.YtemnnnjlllgeeaaDoorRegInv
namespace Go.Proofs.YtemnnnjlllgeeaaDoor.POps
open Go.RowKit Go.Proofs.YtemnnnjlllgeeaaDoorW.PrintWords Go.Proofs.YtemnnnjlllgeeaaDoorW.PrintLast Go.Proofs.YtemnnnjlllgeeaaDoorW.PrintMore Go.Proofs.YtemnnnjlllgeeaaDoor.Err
attribute [local go_sem] max2_int min2_int max_two min_two max_three min_three max_four min_four
set_option linter.unusedVariables false
set_option linter.unusedSimpArgs false

theorem heap_same {w w' : World} {n : Nat} {B : Nat} {o : Obj} (hb : Below n w w') (hB : B < n) (h : w.heap[B]? = some o) : w'.heap[B]? = some o := (hb.block B hB).trans h
theorem facts5 {W : World} {B : Nat} {t : TypeId} {v0 v1 v2 v3 v4 : Value} (h : W.heap[B]? = some (.cells #[v0, v1, v2, v3, v4] t (0, 0))) :
    W.cell? ⟨B, 0, none⟩ = some v0 ∧ W.cell? ⟨B, 1, none⟩ = some v1 ∧ W.cell? ⟨B, 2, none⟩ = some v2 ∧ W.cell? ⟨B, 3, none⟩ = some v3 ∧ W.cell? ⟨B, 4, none⟩ = some v4 :=
  ⟨blk_cell h 0 _ rfl, blk_cell h 1 _ rfl, blk_cell h 2 _ rfl, blk_cell h 3 _ rfl, blk_cell h 4 _ rfl⟩
def tributarylaw3_OpsRight.f (q0 q1 q2 q3 q4 : Int) : Option Bool := some true
set_option maxHeartbeats 8000000 in
set_option maxRecDepth 100000 in
theorem opsRight_law (q0 q1 q2 q3 q4 : Int) (w : World) (hL : Laid w) : Calls Tryd.prog 7 #[.agg #[.int .i64 q0, .int .i64 q1, .int .i64 q2, .int .i64 q3, .int .i64 q4]] w fun e w' => e = .returned (.bool true) ∧ Below w.heap.size w w' := by
  have HL := Aside0.mk hL
  clear hL
  go_enter Tryd.func7, Tryd.ntmps7
  go_wp2_with fail
  have X1 := Aside0.mk (heap_alloc_new w (Obj.cells #[Value.int IntKind.i64 q0, Value.int IntKind.i64 q1, Value.int IntKind.i64 q2, Value.int IntKind.i64 q3, Value.int IntKind.i64 q4] 55))
  have HB := Aside0.mk ((Below.refl w.heap.size w).alloc (Nat.le_refl _) (Obj.cells #[Value.int IntKind.i64 q0, Value.int IntKind.i64 q1, Value.int IntKind.i64 q2, Value.int IntKind.i64 q3, Value.int IntKind.i64 q4] 55))
  obtain ⟨B, hB⟩ : ∃ b, b = w.heap.size := ⟨_, rfl⟩
  rw [← hB] at X1
  rw [show (⟨w.heap.size, 0, none⟩ : Addr) = ⟨B, 0, none⟩ by rw [hB]]
  clear hB
  generalize w.alloc (Obj.cells #[Value.int IntKind.i64 q0, Value.int IntKind.i64 q1, Value.int IntKind.i64 q2, Value.int IntKind.i64 q3, Value.int IntKind.i64 q4] 55) = W0 at X1 HB ⊢
  refine (ops_Right.calls q0 q1 q2 q3 q4 (wrongQ q0 q3 q4) _ rfl).mono ?_
  rintro en w1 ⟨bq, rfl, hE, hb⟩
  have X2 := Aside0.mk (heap_same hb (Array.getElem?_eq_some_iff.1 X1.out).1 X1.out)
  have HE1 : Aside0 (ErrArg w1 (errV (wrongQ q0 q3 q4) bq) (wrongQ q0 q3 q4) bq) := ⟨by
    cases hq : wrongQ q0 q3 q4 with
    | none => rfl
    | some p => rw [hq] at hE; exact ⟨rfl, hE.2⟩⟩
  have HB1 := Aside0.mk (HB.out.trans (hb.mono HB.out.size))
  clear hE hb X1 HB
  obtain ⟨k0, k1, k2, k3, k4⟩ := facts5 X2.out
  go_wp2_with fail
  refine (tributaryref3_Right.calls 20 q0 q1 q2 q3 q4 _ _ (right2_eq q0 q1 q2 q3 q4 20 (by decide))).mono ?_
  rintro en w2 ⟨rfl, hb⟩
  have X3 := Aside0.mk (heap_same hb (Array.getElem?_eq_some_iff.1 X2.out).1 X2.out)
  have HB2 := Aside0.mk (HB1.out.trans (hb.mono HB1.out.size))
  have HL2 := Aside0.mk (HL.out.below HB2.out (Nat.le_refl _))
  have HE2 : Aside0 (ErrArg w2 (errV (wrongQ q0 q3 q4) bq) (wrongQ q0 q3 q4) bq) := ⟨by
    have h := HE1.out
    revert h
    cases wrongQ q0 q3 q4 with
    | none => exact id
    | some p => exact fun h => ⟨h.1, heap_same hb (Array.getElem?_eq_some_iff.1 h.2).1 h.2⟩⟩
  clear hb X2 HB1 HE1 k0 k1 k2 k3 k4 HL
  obtain ⟨o, ho⟩ : ∃ o, wrong q0 q3 q4 = o := ⟨_, rfl⟩
  have e1 : wrongQ q0 q3 q4 = o.map fun p => p * 256 + 50 := by unfold wrongQ; rw [ho]
  have e2 : wrongP q0 q3 q4 = o.getD (-1) := by unfold wrongP; rw [ho]
  rw [e2, e1]
  rw [e1] at HE2
  have HG : Aside0 (∀ p, o = some p → 0 ≤ p) := ⟨fun p hp => (wrong_ge (ho.trans hp)).1⟩
  clear e1 e2 ho
  cases o with
  | none =>
    rw [show errV (Option.map (fun p : Int => p * 256 + 50) none) bq = .nilIface from rfl, show (none : Option Int).getD (-1) = -1 from rfl]
    rw [show errV (Option.map (fun p : Int => p * 256 + 50) none) bq = .nilIface from rfl] at HE2
    go_wp2_with fail
    refine Reg.region_inv (Reg.tab [(Reg.Is (.bool true)), (Reg.Is (.bool true)), (Reg.Is .nilIface), (Reg.Is (.bool true)), (Reg.Is (.int .i64 (-1))), (Reg.Is (.bool true)), (Reg.Is (.bool true)), (Reg.Is (.bool true)), (Reg.Is (.bool true)), (Reg.Is (.int .i64 (-1))), (Reg.Is (.bool true)), (Reg.Is (.bool true)), (Reg.Is undef), (Reg.Is undef), (Reg.Is undef), (Reg.Is undef), (Reg.Is undef), (Reg.Is undef), (Reg.Is undef), (Reg.Is undef), (Reg.Is undef), (Reg.Is (.bool true)), (Reg.Is (.bool true)), (Reg.Is (.bool true)), (Reg.Is (.pointer (some ⟨B, 0, none⟩))), (Reg.Is (.int .i64 q0)), (Reg.Is (.bool (narrowS q0))), (Reg.Is (.pointer (some ⟨B, 0, none⟩))), (Reg.Is (.int .i64 q0)), (Reg.Is (.bool (narrowS q0))), (Reg.Is (.bool true)), (Reg.Is (.bool true)), (Reg.Is (.bool true)), (Reg.Is (.pointer (some ⟨B, 0, none⟩))), (Reg.Is (.int .i64 q0)), (Reg.Is (.bool (wideS q0))), (Reg.Is (.pointer (some ⟨B, 0, none⟩))), (Reg.Is (.int .i64 q0)), (Reg.Is (.bool (wideS q0))), (Reg.Is (.bool true)), (Reg.Is (.bool true)), (Reg.Is (.bool true))]) (by kernel_rfl) (by kernel_rfl) (Reg.tab_mono ?mono) ?steps ?fin
    case mono => exact ⟨Reg.Is.mono _, Reg.Is.mono _, Reg.Is.mono _, Reg.Is.mono _, Reg.Is.mono _, Reg.Is.mono _, Reg.Is.mono _, Reg.Is.mono _, Reg.Is.mono _, Reg.Is.mono _, Reg.Is.mono _, Reg.Is.mono _, Reg.Is.mono _, Reg.Is.mono _, Reg.Is.mono _, Reg.Is.mono _, Reg.Is.mono _, Reg.Is.mono _, Reg.Is.mono _, Reg.Is.mono _, Reg.Is.mono _, Reg.Is.mono _, Reg.Is.mono _, Reg.Is.mono _, Reg.Is.mono _, Reg.Is.mono _, Reg.Is.mono _, Reg.Is.mono _, Reg.Is.mono _, Reg.Is.mono _, Reg.Is.mono _, Reg.Is.mono _, Reg.Is.mono _, Reg.Is.mono _, Reg.Is.mono _, Reg.Is.mono _, Reg.Is.mono _, Reg.Is.mono _, Reg.Is.mono _, Reg.Is.mono _, Reg.Is.mono _, Reg.Is.mono _, trivial⟩
    case steps =>
      refine ⟨?_, ?_, ?_, ?_, ?_, ?_, ?_, ?_, ?_, ?_, ?_, ?_, ?_, ?_, ?_, ?_, ?_, ?_, ?_, ?_, ?_, ?_, ?_, ?_, ?_, ?_, ?_, ?_, ?_, ?_, ?_, ?_, ?_, ?_, ?_, ?_, ?_, ?_, ?_, ?_, ?_, ?_, trivial⟩
      · intro ac w' hb hd hk   -- 0
        replace hb := Reg.below_undrew hb
        refine Reg.step_call (Reg.wanted_free rfl) (by go_simp; try rfl) ((tributarylaw3_told.calls true _ (HL2.out.below hb (Nat.le_refl _)) rfl).mono ?_)
        rintro en w4 ⟨rfl, hb4⟩
        exact ⟨_, rfl, rfl, hb4⟩
      · intro ac w' hb hd hk   -- 1
        replace hb := Reg.below_undrew hb
        obtain ⟨v9, e9, t9⟩ := hk.2 0 (by kernel_rfl)
        replace e9 : ac.tmps[9]? = some v9 := e9
        replace e9 : ac.tmps[9]? = some (.bool true) := e9.trans (congrArg some t9)
        exact Reg.step_value (Reg.wanted_free rfl) (w1 := w') (by go_simp; try rfl) (Below.refl _ _) rfl
      · intro ac w' hb hd hk   -- 2
        replace hb := Reg.below_undrew hb
        have e3 : ac.tmps[3]? = some .nilIface := (hk.1 3 (by kernel_rfl)).trans rfl
        obtain ⟨v10, e10, t10⟩ := hk.2 1 (by kernel_rfl)
        replace e10 : ac.tmps[10]? = some v10 := e10
        replace e10 : ac.tmps[10]? = some (.bool true) := e10.trans (congrArg some t10)
        exact Reg.step_value ((Reg.wanted_is rfl rfl e10).trans rfl) (w1 := w') (by go_simp; try rfl) (Below.refl _ _) rfl
      · intro ac w' hb hd hk   -- 3
        replace hb := Reg.below_undrew hb
        obtain ⟨v11, e11, t11⟩ := hk.2 2 (by kernel_rfl)
        replace e11 : ac.tmps[11]? = some v11 := e11
        replace e11 : ac.tmps[11]? = some .nilIface := e11.trans (congrArg some t11)
        obtain ⟨v10, e10, t10⟩ := hk.2 1 (by kernel_rfl)
        replace e10 : ac.tmps[10]? = some v10 := e10
        replace e10 : ac.tmps[10]? = some (.bool true) := e10.trans (congrArg some t10)
        exact Reg.step_value ((Reg.wanted_is rfl rfl e10).trans rfl) (w1 := w') (by go_simp; try rfl) (Below.refl _ _) rfl
      · intro ac w' hb hd hk   -- 4
        replace hb := Reg.below_undrew hb
        have e4 : ac.tmps[4]? = some (.int .i64 (-1)) := (hk.1 4 (by kernel_rfl)).trans rfl
        obtain ⟨v10, e10, t10⟩ := hk.2 1 (by kernel_rfl)
        replace e10 : ac.tmps[10]? = some v10 := e10
        replace e10 : ac.tmps[10]? = some (.bool true) := e10.trans (congrArg some t10)
        exact Reg.step_value ((Reg.wanted_is rfl rfl e10).trans rfl) (w1 := w') (by go_simp; try rfl) (Below.refl _ _) rfl
      · intro ac w' hb hd hk   -- 5
        replace hb := Reg.below_undrew hb
        obtain ⟨v13, e13, t13⟩ := hk.2 4 (by kernel_rfl)
        replace e13 : ac.tmps[13]? = some v13 := e13
        replace e13 : ac.tmps[13]? = some (.int .i64 (-1)) := e13.trans (congrArg some t13)
        obtain ⟨v10, e10, t10⟩ := hk.2 1 (by kernel_rfl)
        replace e10 : ac.tmps[10]? = some v10 := e10
        replace e10 : ac.tmps[10]? = some (.bool true) := e10.trans (congrArg some t10)
        exact Reg.step_value ((Reg.wanted_is rfl rfl e10).trans rfl) (w1 := w') (by go_simp; try rfl) (Below.refl _ _) rfl
      · intro ac w' hb hd hk   -- 6
        replace hb := Reg.below_undrew hb
        obtain ⟨v12, e12, t12⟩ := hk.2 3 (by kernel_rfl)
        replace e12 : ac.tmps[12]? = some v12 := e12
        replace e12 : ac.tmps[12]? = some (.bool true) := e12.trans (congrArg some t12)
        obtain ⟨v14, e14, t14⟩ := hk.2 5 (by kernel_rfl)
        replace e14 : ac.tmps[14]? = some v14 := e14
        replace e14 : ac.tmps[14]? = some (.bool true) := e14.trans (congrArg some t14)
        obtain ⟨v10, e10, t10⟩ := hk.2 1 (by kernel_rfl)
        replace e10 : ac.tmps[10]? = some v10 := e10
        replace e10 : ac.tmps[10]? = some (.bool true) := e10.trans (congrArg some t10)
        exact Reg.step_value ((Reg.wanted_is rfl rfl e10).trans rfl) (w1 := w') (by go_simp; try rfl) (Below.refl _ _) rfl
      · intro ac w' hb hd hk   -- 7
        replace hb := Reg.below_undrew hb
        obtain ⟨v10, e10, t10⟩ := hk.2 1 (by kernel_rfl)
        replace e10 : ac.tmps[10]? = some v10 := e10
        replace e10 : ac.tmps[10]? = some (.bool true) := e10.trans (congrArg some t10)
        obtain ⟨v15, e15, t15⟩ := hk.2 6 (by kernel_rfl)
        replace e15 : ac.tmps[15]? = some v15 := e15
        replace e15 : ac.tmps[15]? = some (.bool true) := e15.trans (congrArg some t15)
        exact Reg.step_value (Reg.wanted_free rfl) (w1 := w') (by go_simp; try rfl) (Below.refl _ _) rfl
      · intro ac w' hb hd hk   -- 8
        replace hb := Reg.below_undrew hb
        obtain ⟨v16, e16, t16⟩ := hk.2 7 (by kernel_rfl)
        replace e16 : ac.tmps[16]? = some v16 := e16
        replace e16 : ac.tmps[16]? = some (.bool true) := e16.trans (congrArg some t16)
        exact Reg.step_value (Reg.wanted_free rfl) (w1 := w') (by go_simp; try rfl) (Below.refl _ _) rfl
      · intro ac w' hb hd hk   -- 9
        replace hb := Reg.below_undrew hb
        have e4 : ac.tmps[4]? = some (.int .i64 (-1)) := (hk.1 4 (by kernel_rfl)).trans rfl
        obtain ⟨v17, e17, t17⟩ := hk.2 8 (by kernel_rfl)
        replace e17 : ac.tmps[17]? = some v17 := e17
        replace e17 : ac.tmps[17]? = some (.bool true) := e17.trans (congrArg some t17)
        exact Reg.step_value ((Reg.wanted_is rfl rfl e17).trans rfl) (w1 := w') (by go_simp; try rfl) (Below.refl _ _) rfl
      · intro ac w' hb hd hk   -- 10
        replace hb := Reg.below_undrew hb
        obtain ⟨v18, e18, t18⟩ := hk.2 9 (by kernel_rfl)
        replace e18 : ac.tmps[18]? = some v18 := e18
        replace e18 : ac.tmps[18]? = some (.int .i64 (-1)) := e18.trans (congrArg some t18)
        obtain ⟨v17, e17, t17⟩ := hk.2 8 (by kernel_rfl)
        replace e17 : ac.tmps[17]? = some v17 := e17
        replace e17 : ac.tmps[17]? = some (.bool true) := e17.trans (congrArg some t17)
        exact Reg.step_value ((Reg.wanted_is rfl rfl e17).trans rfl) (w1 := w') (by go_simp; try rfl) (Below.refl _ _) rfl
      · intro ac w' hb hd hk   -- 11
        replace hb := Reg.below_undrew hb
        obtain ⟨v19, e19, t19⟩ := hk.2 10 (by kernel_rfl)
        replace e19 : ac.tmps[19]? = some v19 := e19
        replace e19 : ac.tmps[19]? = some (.bool true) := e19.trans (congrArg some t19)
        obtain ⟨v17, e17, t17⟩ := hk.2 8 (by kernel_rfl)
        replace e17 : ac.tmps[17]? = some v17 := e17
        replace e17 : ac.tmps[17]? = some (.bool true) := e17.trans (congrArg some t17)
        exact Reg.step_value ((Reg.wanted_is rfl rfl e17).trans rfl) (w1 := w') (by go_simp; try rfl) (Below.refl _ _) rfl
      · intro ac w' hb hd hk   -- 12
        replace hb := Reg.below_undrew hb
        obtain ⟨v20, e20, t20⟩ := hk.2 11 (by kernel_rfl)
        replace e20 : ac.tmps[20]? = some v20 := e20
        replace e20 : ac.tmps[20]? = some (.bool true) := e20.trans (congrArg some t20)
        exact Reg.step_off ((Reg.wanted_is rfl rfl e20).trans rfl) rfl
      · intro ac w' hb hd hk   -- 13
        replace hb := Reg.below_undrew hb
        obtain ⟨v20, e20, t20⟩ := hk.2 11 (by kernel_rfl)
        replace e20 : ac.tmps[20]? = some v20 := e20
        replace e20 : ac.tmps[20]? = some (.bool true) := e20.trans (congrArg some t20)
        exact Reg.step_off ((Reg.wanted_is rfl rfl e20).trans rfl) rfl
      · intro ac w' hb hd hk   -- 14
        replace hb := Reg.below_undrew hb
        obtain ⟨v20, e20, t20⟩ := hk.2 11 (by kernel_rfl)
        replace e20 : ac.tmps[20]? = some v20 := e20
        replace e20 : ac.tmps[20]? = some (.bool true) := e20.trans (congrArg some t20)
        exact Reg.step_off ((Reg.wanted_is rfl rfl e20).trans rfl) rfl
      · intro ac w' hb hd hk   -- 15
        replace hb := Reg.below_undrew hb
        obtain ⟨v20, e20, t20⟩ := hk.2 11 (by kernel_rfl)
        replace e20 : ac.tmps[20]? = some v20 := e20
        replace e20 : ac.tmps[20]? = some (.bool true) := e20.trans (congrArg some t20)
        exact Reg.step_off ((Reg.wanted_is rfl rfl e20).trans rfl) rfl
      · intro ac w' hb hd hk   -- 16
        replace hb := Reg.below_undrew hb
        obtain ⟨v24, e24, t24⟩ := hk.2 15 (by kernel_rfl)
        replace e24 : ac.tmps[24]? = some v24 := e24
        replace e24 : ac.tmps[24]? = some undef := e24.trans (congrArg some t24)
        exact Reg.step_off (Reg.wanted_undef rfl rfl e24) rfl
      · intro ac w' hb hd hk   -- 17
        replace hb := Reg.below_undrew hb
        obtain ⟨v24, e24, t24⟩ := hk.2 15 (by kernel_rfl)
        replace e24 : ac.tmps[24]? = some v24 := e24
        replace e24 : ac.tmps[24]? = some undef := e24.trans (congrArg some t24)
        exact Reg.step_off (Reg.wanted_undef rfl rfl e24) rfl
      · intro ac w' hb hd hk   -- 18
        replace hb := Reg.below_undrew hb
        obtain ⟨v24, e24, t24⟩ := hk.2 15 (by kernel_rfl)
        replace e24 : ac.tmps[24]? = some v24 := e24
        replace e24 : ac.tmps[24]? = some undef := e24.trans (congrArg some t24)
        exact Reg.step_off (Reg.wanted_undef rfl rfl e24) rfl
      · intro ac w' hb hd hk   -- 19
        replace hb := Reg.below_undrew hb
        obtain ⟨v24, e24, t24⟩ := hk.2 15 (by kernel_rfl)
        replace e24 : ac.tmps[24]? = some v24 := e24
        replace e24 : ac.tmps[24]? = some undef := e24.trans (congrArg some t24)
        exact Reg.step_off (Reg.wanted_undef rfl rfl e24) rfl
      · intro ac w' hb hd hk   -- 20
        replace hb := Reg.below_undrew hb
        obtain ⟨v20, e20, t20⟩ := hk.2 11 (by kernel_rfl)
        replace e20 : ac.tmps[20]? = some v20 := e20
        replace e20 : ac.tmps[20]? = some (.bool true) := e20.trans (congrArg some t20)
        exact Reg.step_off ((Reg.wanted_is rfl rfl e20).trans rfl) rfl
      · intro ac w' hb hd hk   -- 21
        replace hb := Reg.below_undrew hb
        obtain ⟨v20, e20, t20⟩ := hk.2 11 (by kernel_rfl)
        replace e20 : ac.tmps[20]? = some v20 := e20
        replace e20 : ac.tmps[20]? = some (.bool true) := e20.trans (congrArg some t20)
        obtain ⟨v29, e29, t29⟩ := hk.2 20 (by kernel_rfl)
        replace e29 : ac.tmps[29]? = some v29 := e29
        replace e29 : ac.tmps[29]? = some undef := e29.trans (congrArg some t29)
        obtain ⟨v17, e17, t17⟩ := hk.2 8 (by kernel_rfl)
        replace e17 : ac.tmps[17]? = some v17 := e17
        replace e17 : ac.tmps[17]? = some (.bool true) := e17.trans (congrArg some t17)
        exact Reg.step_value ((Reg.wanted_is rfl rfl e17).trans rfl) (w1 := w') (by go_simp; try rfl) (Below.refl _ _) rfl
      · intro ac w' hb hd hk   -- 22
        replace hb := Reg.below_undrew hb
        obtain ⟨v17, e17, t17⟩ := hk.2 8 (by kernel_rfl)
        replace e17 : ac.tmps[17]? = some v17 := e17
        replace e17 : ac.tmps[17]? = some (.bool true) := e17.trans (congrArg some t17)
        obtain ⟨v30, e30, t30⟩ := hk.2 21 (by kernel_rfl)
        replace e30 : ac.tmps[30]? = some v30 := e30
        replace e30 : ac.tmps[30]? = some (.bool true) := e30.trans (congrArg some t30)
        exact Reg.step_value (Reg.wanted_free rfl) (w1 := w') (by go_simp; try rfl) (Below.refl _ _) rfl
      · intro ac w' hb hd hk   -- 23
        replace hb := Reg.below_undrew hb
        obtain ⟨v31, e31, t31⟩ := hk.2 22 (by kernel_rfl)
        replace e31 : ac.tmps[31]? = some v31 := e31
        replace e31 : ac.tmps[31]? = some (.bool true) := e31.trans (congrArg some t31)
        exact Reg.step_value (Reg.wanted_free rfl) (w1 := w') (by go_simp; try rfl) (Below.refl _ _) rfl
      · intro ac w' hb hd hk   -- 24
        replace hb := Reg.below_undrew hb
        have e1 : ac.tmps[1]? = some (.pointer (some ⟨B, 0, none⟩)) := (hk.1 1 (by kernel_rfl)).trans rfl
        obtain ⟨v32, e32, t32⟩ := hk.2 23 (by kernel_rfl)
        replace e32 : ac.tmps[32]? = some v32 := e32
        replace e32 : ac.tmps[32]? = some (.bool true) := e32.trans (congrArg some t32)
        exact Reg.step_value ((Reg.wanted_is rfl rfl e32).trans rfl) (w1 := w') (by go_simp; try rfl) (Below.refl _ _) rfl
      · intro ac w' hb hd hk   -- 25
        replace hb := Reg.below_undrew hb
        obtain ⟨v33, e33, t33⟩ := hk.2 24 (by kernel_rfl)
        replace e33 : ac.tmps[33]? = some v33 := e33
        replace e33 : ac.tmps[33]? = some (.pointer (some ⟨B, 0, none⟩)) := e33.trans (congrArg some t33)
        obtain ⟨v32, e32, t32⟩ := hk.2 23 (by kernel_rfl)
        replace e32 : ac.tmps[32]? = some v32 := e32
        replace e32 : ac.tmps[32]? = some (.bool true) := e32.trans (congrArg some t32)
        obtain ⟨k0, k1, k2, k3, k4⟩ := facts5 (heap_same hb (Array.getElem?_eq_some_iff.1 X3.out).1 X3.out)
        exact Reg.step_value ((Reg.wanted_is rfl rfl e32).trans rfl) (w1 := w') (by go_simp; try rfl) (Below.refl _ _) rfl
      · intro ac w' hb hd hk   -- 26
        replace hb := Reg.below_undrew hb
        obtain ⟨v34, e34, t34⟩ := hk.2 25 (by kernel_rfl)
        replace e34 : ac.tmps[34]? = some v34 := e34
        replace e34 : ac.tmps[34]? = some (.int .i64 q0) := e34.trans (congrArg some t34)
        obtain ⟨v32, e32, t32⟩ := hk.2 23 (by kernel_rfl)
        replace e32 : ac.tmps[32]? = some v32 := e32
        replace e32 : ac.tmps[32]? = some (.bool true) := e32.trans (congrArg some t32)
        refine Reg.step_call ((Reg.wanted_is rfl rfl e32).trans rfl) (by go_simp; try rfl) ((ops_Narrow.calls q0 _ _ (narrow_f q0)).mono ?_)
        rintro en w4 ⟨rfl, hb4⟩
        exact ⟨_, rfl, rfl, Drawn0.below hb4⟩
      · intro ac w' hb hd hk   -- 27
        replace hb := Reg.below_undrew hb
        have e1 : ac.tmps[1]? = some (.pointer (some ⟨B, 0, none⟩)) := (hk.1 1 (by kernel_rfl)).trans rfl
        obtain ⟨v32, e32, t32⟩ := hk.2 23 (by kernel_rfl)
        replace e32 : ac.tmps[32]? = some v32 := e32
        replace e32 : ac.tmps[32]? = some (.bool true) := e32.trans (congrArg some t32)
        exact Reg.step_value ((Reg.wanted_is rfl rfl e32).trans rfl) (w1 := w') (by go_simp; try rfl) (Below.refl _ _) rfl
      · intro ac w' hb hd hk   -- 28
        replace hb := Reg.below_undrew hb
        obtain ⟨v36, e36, t36⟩ := hk.2 27 (by kernel_rfl)
        replace e36 : ac.tmps[36]? = some v36 := e36
        replace e36 : ac.tmps[36]? = some (.pointer (some ⟨B, 0, none⟩)) := e36.trans (congrArg some t36)
        obtain ⟨v32, e32, t32⟩ := hk.2 23 (by kernel_rfl)
        replace e32 : ac.tmps[32]? = some v32 := e32
        replace e32 : ac.tmps[32]? = some (.bool true) := e32.trans (congrArg some t32)
        obtain ⟨k0, k1, k2, k3, k4⟩ := facts5 (heap_same hb (Array.getElem?_eq_some_iff.1 X3.out).1 X3.out)
        exact Reg.step_value ((Reg.wanted_is rfl rfl e32).trans rfl) (w1 := w') (by go_simp; try rfl) (Below.refl _ _) rfl
      · intro ac w' hb hd hk   -- 29
        replace hb := Reg.below_undrew hb
        obtain ⟨v37, e37, t37⟩ := hk.2 28 (by kernel_rfl)
        replace e37 : ac.tmps[37]? = some v37 := e37
        replace e37 : ac.tmps[37]? = some (.int .i64 q0) := e37.trans (congrArg some t37)
        obtain ⟨v32, e32, t32⟩ := hk.2 23 (by kernel_rfl)
        replace e32 : ac.tmps[32]? = some v32 := e32
        replace e32 : ac.tmps[32]? = some (.bool true) := e32.trans (congrArg some t32)
        refine Reg.step_call ((Reg.wanted_is rfl rfl e32).trans rfl) (by go_simp; try rfl) ((tributaryref3_Narrow.calls q0 _ _ (narrow2_f q0)).mono ?_)
        rintro en w4 ⟨rfl, hb4⟩
        exact ⟨_, rfl, rfl, Drawn0.below hb4⟩
      · intro ac w' hb hd hk   -- 30
        replace hb := Reg.below_undrew hb
        obtain ⟨v35, e35, t35⟩ := hk.2 26 (by kernel_rfl)
        replace e35 : ac.tmps[35]? = some v35 := e35
        replace e35 : ac.tmps[35]? = some (.bool (narrowS q0)) := e35.trans (congrArg some t35)
        obtain ⟨v38, e38, t38⟩ := hk.2 29 (by kernel_rfl)
        replace e38 : ac.tmps[38]? = some v38 := e38
        replace e38 : ac.tmps[38]? = some (.bool (narrowS q0)) := e38.trans (congrArg some t38)
        obtain ⟨v32, e32, t32⟩ := hk.2 23 (by kernel_rfl)
        replace e32 : ac.tmps[32]? = some v32 := e32
        replace e32 : ac.tmps[32]? = some (.bool true) := e32.trans (congrArg some t32)
        exact Reg.step_value ((Reg.wanted_is rfl rfl e32).trans rfl) (w1 := w') (by go_simp; try rfl) (Below.refl _ _) rfl
      · intro ac w' hb hd hk   -- 31
        replace hb := Reg.below_undrew hb
        obtain ⟨v32, e32, t32⟩ := hk.2 23 (by kernel_rfl)
        replace e32 : ac.tmps[32]? = some v32 := e32
        replace e32 : ac.tmps[32]? = some (.bool true) := e32.trans (congrArg some t32)
        obtain ⟨v39, e39, t39⟩ := hk.2 30 (by kernel_rfl)
        replace e39 : ac.tmps[39]? = some v39 := e39
        replace e39 : ac.tmps[39]? = some (.bool true) := e39.trans (congrArg some t39)
        exact Reg.step_value (Reg.wanted_free rfl) (w1 := w') (by go_simp; try rfl) (Below.refl _ _) rfl
      · intro ac w' hb hd hk   -- 32
        replace hb := Reg.below_undrew hb
        obtain ⟨v40, e40, t40⟩ := hk.2 31 (by kernel_rfl)
        replace e40 : ac.tmps[40]? = some v40 := e40
        replace e40 : ac.tmps[40]? = some (.bool true) := e40.trans (congrArg some t40)
        exact Reg.step_value (Reg.wanted_free rfl) (w1 := w') (by go_simp; try rfl) (Below.refl _ _) rfl
      · intro ac w' hb hd hk   -- 33
        replace hb := Reg.below_undrew hb
        have e1 : ac.tmps[1]? = some (.pointer (some ⟨B, 0, none⟩)) := (hk.1 1 (by kernel_rfl)).trans rfl
        obtain ⟨v41, e41, t41⟩ := hk.2 32 (by kernel_rfl)
        replace e41 : ac.tmps[41]? = some v41 := e41
        replace e41 : ac.tmps[41]? = some (.bool true) := e41.trans (congrArg some t41)
        exact Reg.step_value ((Reg.wanted_is rfl rfl e41).trans rfl) (w1 := w') (by go_simp; try rfl) (Below.refl _ _) rfl
      · intro ac w' hb hd hk   -- 34
        replace hb := Reg.below_undrew hb
        obtain ⟨v42, e42, t42⟩ := hk.2 33 (by kernel_rfl)
        replace e42 : ac.tmps[42]? = some v42 := e42
        replace e42 : ac.tmps[42]? = some (.pointer (some ⟨B, 0, none⟩)) := e42.trans (congrArg some t42)
        obtain ⟨v41, e41, t41⟩ := hk.2 32 (by kernel_rfl)
        replace e41 : ac.tmps[41]? = some v41 := e41
        replace e41 : ac.tmps[41]? = some (.bool true) := e41.trans (congrArg some t41)
        obtain ⟨k0, k1, k2, k3, k4⟩ := facts5 (heap_same hb (Array.getElem?_eq_some_iff.1 X3.out).1 X3.out)
        exact Reg.step_value ((Reg.wanted_is rfl rfl e41).trans rfl) (w1 := w') (by go_simp; try rfl) (Below.refl _ _) rfl
      · intro ac w' hb hd hk   -- 35
        replace hb := Reg.below_undrew hb
        obtain ⟨v43, e43, t43⟩ := hk.2 34 (by kernel_rfl)
        replace e43 : ac.tmps[43]? = some v43 := e43
        replace e43 : ac.tmps[43]? = some (.int .i64 q0) := e43.trans (congrArg some t43)
        obtain ⟨v41, e41, t41⟩ := hk.2 32 (by kernel_rfl)
        replace e41 : ac.tmps[41]? = some v41 := e41
        replace e41 : ac.tmps[41]? = some (.bool true) := e41.trans (congrArg some t41)
        refine Reg.step_call ((Reg.wanted_is rfl rfl e41).trans rfl) (by go_simp; try rfl) ((ops_Wide.calls q0 _ _ (wide_f q0)).mono ?_)
        rintro en w4 ⟨rfl, hb4⟩
        exact ⟨_, rfl, rfl, Drawn0.below hb4⟩
      · intro ac w' hb hd hk   -- 36
        replace hb := Reg.below_undrew hb
        have e1 : ac.tmps[1]? = some (.pointer (some ⟨B, 0, none⟩)) := (hk.1 1 (by kernel_rfl)).trans rfl
        obtain ⟨v41, e41, t41⟩ := hk.2 32 (by kernel_rfl)
        replace e41 : ac.tmps[41]? = some v41 := e41
        replace e41 : ac.tmps[41]? = some (.bool true) := e41.trans (congrArg some t41)
        exact Reg.step_value ((Reg.wanted_is rfl rfl e41).trans rfl) (w1 := w') (by go_simp; try rfl) (Below.refl _ _) rfl
      · intro ac w' hb hd hk   -- 37
        replace hb := Reg.below_undrew hb
        obtain ⟨v45, e45, t45⟩ := hk.2 36 (by kernel_rfl)
        replace e45 : ac.tmps[45]? = some v45 := e45
        replace e45 : ac.tmps[45]? = some (.pointer (some ⟨B, 0, none⟩)) := e45.trans (congrArg some t45)
        obtain ⟨v41, e41, t41⟩ := hk.2 32 (by kernel_rfl)
        replace e41 : ac.tmps[41]? = some v41 := e41
        replace e41 : ac.tmps[41]? = some (.bool true) := e41.trans (congrArg some t41)
        obtain ⟨k0, k1, k2, k3, k4⟩ := facts5 (heap_same hb (Array.getElem?_eq_some_iff.1 X3.out).1 X3.out)
        exact Reg.step_value ((Reg.wanted_is rfl rfl e41).trans rfl) (w1 := w') (by go_simp; try rfl) (Below.refl _ _) rfl
      · intro ac w' hb hd hk   -- 38
        replace hb := Reg.below_undrew hb
        obtain ⟨v46, e46, t46⟩ := hk.2 37 (by kernel_rfl)
        replace e46 : ac.tmps[46]? = some v46 := e46
        replace e46 : ac.tmps[46]? = some (.int .i64 q0) := e46.trans (congrArg some t46)
        obtain ⟨v41, e41, t41⟩ := hk.2 32 (by kernel_rfl)
        replace e41 : ac.tmps[41]? = some v41 := e41
        replace e41 : ac.tmps[41]? = some (.bool true) := e41.trans (congrArg some t41)
        refine Reg.step_call ((Reg.wanted_is rfl rfl e41).trans rfl) (by go_simp; try rfl) ((tributaryref3_Wide.calls q0 _ _ (wide2_f q0)).mono ?_)
        rintro en w4 ⟨rfl, hb4⟩
        exact ⟨_, rfl, rfl, Drawn0.below hb4⟩
      · intro ac w' hb hd hk   -- 39
        replace hb := Reg.below_undrew hb
        obtain ⟨v44, e44, t44⟩ := hk.2 35 (by kernel_rfl)
        replace e44 : ac.tmps[44]? = some v44 := e44
        replace e44 : ac.tmps[44]? = some (.bool (wideS q0)) := e44.trans (congrArg some t44)
        obtain ⟨v47, e47, t47⟩ := hk.2 38 (by kernel_rfl)
        replace e47 : ac.tmps[47]? = some v47 := e47
        replace e47 : ac.tmps[47]? = some (.bool (wideS q0)) := e47.trans (congrArg some t47)
        obtain ⟨v41, e41, t41⟩ := hk.2 32 (by kernel_rfl)
        replace e41 : ac.tmps[41]? = some v41 := e41
        replace e41 : ac.tmps[41]? = some (.bool true) := e41.trans (congrArg some t41)
        exact Reg.step_value ((Reg.wanted_is rfl rfl e41).trans rfl) (w1 := w') (by go_simp; try rfl) (Below.refl _ _) rfl
      · intro ac w' hb hd hk   -- 40
        replace hb := Reg.below_undrew hb
        obtain ⟨v41, e41, t41⟩ := hk.2 32 (by kernel_rfl)
        replace e41 : ac.tmps[41]? = some v41 := e41
        replace e41 : ac.tmps[41]? = some (.bool true) := e41.trans (congrArg some t41)
        obtain ⟨v48, e48, t48⟩ := hk.2 39 (by kernel_rfl)
        replace e48 : ac.tmps[48]? = some v48 := e48
        replace e48 : ac.tmps[48]? = some (.bool true) := e48.trans (congrArg some t48)
        exact Reg.step_value (Reg.wanted_free rfl) (w1 := w') (by go_simp; try rfl) (Below.refl _ _) rfl
      · intro ac w' hb hd hk   -- 41
        replace hb := Reg.below_undrew hb
        obtain ⟨v49, e49, t49⟩ := hk.2 40 (by kernel_rfl)
        replace e49 : ac.tmps[49]? = some v49 := e49
        replace e49 : ac.tmps[49]? = some (.bool true) := e49.trans (congrArg some t49)
        exact Reg.step_value (Reg.wanted_free rfl) (w1 := w') (by go_simp; try rfl) (Below.refl _ _) rfl
    case fin =>
      intro w' hb
      replace hb := Reg.below_undrew hb
      rintro _ rfl
      rintro _ rfl
      rintro _ rfl
      rintro _ rfl
      rintro _ rfl
      rintro _ rfl
      rintro _ rfl
      rintro _ rfl
      rintro _ rfl
      rintro _ rfl
      rintro _ rfl
      rintro _ rfl
      rintro _ rfl
      rintro _ rfl
      rintro _ rfl
      rintro _ rfl
      rintro _ rfl
      rintro _ rfl
      rintro _ rfl
      rintro _ rfl
      rintro _ rfl
      rintro _ rfl
      rintro _ rfl
      rintro _ rfl
      rintro _ rfl
      rintro _ rfl
      rintro _ rfl
      rintro _ rfl
      rintro _ rfl
      rintro _ rfl
      rintro _ rfl
      rintro _ rfl
      rintro _ rfl
      rintro _ rfl
      rintro _ rfl
      rintro _ rfl
      rintro _ rfl
      rintro _ rfl
      rintro _ rfl
      rintro _ rfl
      rintro _ rfl
      rintro _ rfl
      refine Reg.done_nil ?_
      simp only [Act.put, List.setIfInBounds_toArray, List.set_cons_zero, List.set_cons_succ]
      go_wp2
      go_ret
      exact ⟨rfl, HB2.out.trans (hb.mono HB2.out.size)⟩
  | some p =>
    have hp := HG.out p rfl
    have HP := Aside0.mk hp
    clear hp
    rw [show errV (Option.map (fun p : Int => p * 256 + 50) (some p)) bq = errV (some (p * 256 + 50)) bq from rfl, errV_some, show (some p : Option Int).getD (-1) = p from rfl]
    rw [show errV (Option.map (fun p : Int => p * 256 + 50) (some p)) bq = errV (some (p * 256 + 50)) bq from rfl, errV_some] at HE2
    go_wp2_with fail
    refine Reg.region_inv (Reg.tab [(Reg.Is (.bool true)), (Reg.Is (.bool true)), (Reg.Is (.iface 80 (.pointer (some ⟨bq, 0, none⟩)))), (Reg.Is (.bool false)), (Reg.Is (.int .i64 p)), (Reg.Is (.bool false)), (Reg.Is (.bool true)), (Reg.Is (.bool true)), (Reg.Is (.bool true)), (Reg.Is (.int .i64 p)), (Reg.Is (.bool false)), (Reg.Is (.bool false)), (Reg.Is (.iface 80 (.pointer (some ⟨bq, 0, none⟩)))), (Reg.Is (.int .i64 50)), (Reg.Is (.bool true)), (Reg.Is (.bool true)), (Reg.Is (.iface 80 (.pointer (some ⟨bq, 0, none⟩)))), (Reg.Is (.int .i64 p)), (Reg.Is (.int .i64 p)), (Reg.Is (.bool true)), (Reg.Is (.bool true)), (Reg.Is (.bool true)), (Reg.Is (.bool true)), (Reg.Is (.bool true)), (Reg.Is (.pointer (some ⟨B, 0, none⟩))), (Reg.Is (.int .i64 q0)), (Reg.Is (.bool (narrowS q0))), (Reg.Is (.pointer (some ⟨B, 0, none⟩))), (Reg.Is (.int .i64 q0)), (Reg.Is (.bool (narrowS q0))), (Reg.Is (.bool true)), (Reg.Is (.bool true)), (Reg.Is (.bool true)), (Reg.Is (.pointer (some ⟨B, 0, none⟩))), (Reg.Is (.int .i64 q0)), (Reg.Is (.bool (wideS q0))), (Reg.Is (.pointer (some ⟨B, 0, none⟩))), (Reg.Is (.int .i64 q0)), (Reg.Is (.bool (wideS q0))), (Reg.Is (.bool true)), (Reg.Is (.bool true)), (Reg.Is (.bool true))]) (by kernel_rfl) (by kernel_rfl) (Reg.tab_mono ?mono) ?steps ?fin
    case mono => exact ⟨Reg.Is.mono _, Reg.Is.mono _, Reg.Is.mono _, Reg.Is.mono _, Reg.Is.mono _, Reg.Is.mono _, Reg.Is.mono _, Reg.Is.mono _, Reg.Is.mono _, Reg.Is.mono _, Reg.Is.mono _, Reg.Is.mono _, Reg.Is.mono _, Reg.Is.mono _, Reg.Is.mono _, Reg.Is.mono _, Reg.Is.mono _, Reg.Is.mono _, Reg.Is.mono _, Reg.Is.mono _, Reg.Is.mono _, Reg.Is.mono _, Reg.Is.mono _, Reg.Is.mono _, Reg.Is.mono _, Reg.Is.mono _, Reg.Is.mono _, Reg.Is.mono _, Reg.Is.mono _, Reg.Is.mono _, Reg.Is.mono _, Reg.Is.mono _, Reg.Is.mono _, Reg.Is.mono _, Reg.Is.mono _, Reg.Is.mono _, Reg.Is.mono _, Reg.Is.mono _, Reg.Is.mono _, Reg.Is.mono _, Reg.Is.mono _, Reg.Is.mono _, trivial⟩
    case steps =>
      refine ⟨?_, ?_, ?_, ?_, ?_, ?_, ?_, ?_, ?_, ?_, ?_, ?_, ?_, ?_, ?_, ?_, ?_, ?_, ?_, ?_, ?_, ?_, ?_, ?_, ?_, ?_, ?_, ?_, ?_, ?_, ?_, ?_, ?_, ?_, ?_, ?_, ?_, ?_, ?_, ?_, ?_, ?_, trivial⟩
      · intro ac w' hb hd hk   -- 0
        replace hb := Reg.below_undrew hb
        refine Reg.step_call (Reg.wanted_free rfl) (by go_simp; try rfl) ((tributarylaw3_told.calls true _ (HL2.out.below hb (Nat.le_refl _)) rfl).mono ?_)
        rintro en w4 ⟨rfl, hb4⟩
        exact ⟨_, rfl, rfl, hb4⟩
      · intro ac w' hb hd hk   -- 1
        replace hb := Reg.below_undrew hb
        obtain ⟨v9, e9, t9⟩ := hk.2 0 (by kernel_rfl)
        replace e9 : ac.tmps[9]? = some v9 := e9
        replace e9 : ac.tmps[9]? = some (.bool true) := e9.trans (congrArg some t9)
        exact Reg.step_value (Reg.wanted_free rfl) (w1 := w') (by go_simp; try rfl) (Below.refl _ _) rfl
      · intro ac w' hb hd hk   -- 2
        replace hb := Reg.below_undrew hb
        have e3 : ac.tmps[3]? = some (.iface 80 (.pointer (some ⟨bq, 0, none⟩))) := (hk.1 3 (by kernel_rfl)).trans rfl
        obtain ⟨v10, e10, t10⟩ := hk.2 1 (by kernel_rfl)
        replace e10 : ac.tmps[10]? = some v10 := e10
        replace e10 : ac.tmps[10]? = some (.bool true) := e10.trans (congrArg some t10)
        exact Reg.step_value ((Reg.wanted_is rfl rfl e10).trans rfl) (w1 := w') (by go_simp; try rfl) (Below.refl _ _) rfl
      · intro ac w' hb hd hk   -- 3
        replace hb := Reg.below_undrew hb
        obtain ⟨v11, e11, t11⟩ := hk.2 2 (by kernel_rfl)
        replace e11 : ac.tmps[11]? = some v11 := e11
        replace e11 : ac.tmps[11]? = some (.iface 80 (.pointer (some ⟨bq, 0, none⟩))) := e11.trans (congrArg some t11)
        obtain ⟨v10, e10, t10⟩ := hk.2 1 (by kernel_rfl)
        replace e10 : ac.tmps[10]? = some v10 := e10
        replace e10 : ac.tmps[10]? = some (.bool true) := e10.trans (congrArg some t10)
        exact Reg.step_value ((Reg.wanted_is rfl rfl e10).trans rfl) (w1 := w') (by go_simp; try rfl) (Below.refl _ _) rfl
      · intro ac w' hb hd hk   -- 4
        replace hb := Reg.below_undrew hb
        have e4 : ac.tmps[4]? = some (.int .i64 p) := (hk.1 4 (by kernel_rfl)).trans rfl
        obtain ⟨v10, e10, t10⟩ := hk.2 1 (by kernel_rfl)
        replace e10 : ac.tmps[10]? = some v10 := e10
        replace e10 : ac.tmps[10]? = some (.bool true) := e10.trans (congrArg some t10)
        exact Reg.step_value ((Reg.wanted_is rfl rfl e10).trans rfl) (w1 := w') (by go_simp; try rfl) (Below.refl _ _) rfl
      · intro ac w' hb hd hk   -- 5
        replace hb := Reg.below_undrew hb
        obtain ⟨v13, e13, t13⟩ := hk.2 4 (by kernel_rfl)
        replace e13 : ac.tmps[13]? = some v13 := e13
        replace e13 : ac.tmps[13]? = some (.int .i64 p) := e13.trans (congrArg some t13)
        obtain ⟨v10, e10, t10⟩ := hk.2 1 (by kernel_rfl)
        replace e10 : ac.tmps[10]? = some v10 := e10
        replace e10 : ac.tmps[10]? = some (.bool true) := e10.trans (congrArg some t10)
        have hx : decide (p < 0) = false := decide_eq_false (by have := HP.out; omega)
        exact Reg.step_value ((Reg.wanted_is rfl rfl e10).trans rfl) (w1 := w') (by go_simp; try rfl) (Below.refl _ _) rfl
      · intro ac w' hb hd hk   -- 6
        replace hb := Reg.below_undrew hb
        obtain ⟨v12, e12, t12⟩ := hk.2 3 (by kernel_rfl)
        replace e12 : ac.tmps[12]? = some v12 := e12
        replace e12 : ac.tmps[12]? = some (.bool false) := e12.trans (congrArg some t12)
        obtain ⟨v14, e14, t14⟩ := hk.2 5 (by kernel_rfl)
        replace e14 : ac.tmps[14]? = some v14 := e14
        replace e14 : ac.tmps[14]? = some (.bool false) := e14.trans (congrArg some t14)
        obtain ⟨v10, e10, t10⟩ := hk.2 1 (by kernel_rfl)
        replace e10 : ac.tmps[10]? = some v10 := e10
        replace e10 : ac.tmps[10]? = some (.bool true) := e10.trans (congrArg some t10)
        exact Reg.step_value ((Reg.wanted_is rfl rfl e10).trans rfl) (w1 := w') (by go_simp; try rfl) (Below.refl _ _) rfl
      · intro ac w' hb hd hk   -- 7
        replace hb := Reg.below_undrew hb
        obtain ⟨v10, e10, t10⟩ := hk.2 1 (by kernel_rfl)
        replace e10 : ac.tmps[10]? = some v10 := e10
        replace e10 : ac.tmps[10]? = some (.bool true) := e10.trans (congrArg some t10)
        obtain ⟨v15, e15, t15⟩ := hk.2 6 (by kernel_rfl)
        replace e15 : ac.tmps[15]? = some v15 := e15
        replace e15 : ac.tmps[15]? = some (.bool true) := e15.trans (congrArg some t15)
        exact Reg.step_value (Reg.wanted_free rfl) (w1 := w') (by go_simp; try rfl) (Below.refl _ _) rfl
      · intro ac w' hb hd hk   -- 8
        replace hb := Reg.below_undrew hb
        obtain ⟨v16, e16, t16⟩ := hk.2 7 (by kernel_rfl)
        replace e16 : ac.tmps[16]? = some v16 := e16
        replace e16 : ac.tmps[16]? = some (.bool true) := e16.trans (congrArg some t16)
        exact Reg.step_value (Reg.wanted_free rfl) (w1 := w') (by go_simp; try rfl) (Below.refl _ _) rfl
      · intro ac w' hb hd hk   -- 9
        replace hb := Reg.below_undrew hb
        have e4 : ac.tmps[4]? = some (.int .i64 p) := (hk.1 4 (by kernel_rfl)).trans rfl
        obtain ⟨v17, e17, t17⟩ := hk.2 8 (by kernel_rfl)
        replace e17 : ac.tmps[17]? = some v17 := e17
        replace e17 : ac.tmps[17]? = some (.bool true) := e17.trans (congrArg some t17)
        exact Reg.step_value ((Reg.wanted_is rfl rfl e17).trans rfl) (w1 := w') (by go_simp; try rfl) (Below.refl _ _) rfl
      · intro ac w' hb hd hk   -- 10
        replace hb := Reg.below_undrew hb
        obtain ⟨v18, e18, t18⟩ := hk.2 9 (by kernel_rfl)
        replace e18 : ac.tmps[18]? = some v18 := e18
        replace e18 : ac.tmps[18]? = some (.int .i64 p) := e18.trans (congrArg some t18)
        obtain ⟨v17, e17, t17⟩ := hk.2 8 (by kernel_rfl)
        replace e17 : ac.tmps[17]? = some v17 := e17
        replace e17 : ac.tmps[17]? = some (.bool true) := e17.trans (congrArg some t17)
        have hx : decide (p < 0) = false := decide_eq_false (by have := HP.out; omega)
        exact Reg.step_value ((Reg.wanted_is rfl rfl e17).trans rfl) (w1 := w') (by go_simp; try rfl) (Below.refl _ _) rfl
      · intro ac w' hb hd hk   -- 11
        replace hb := Reg.below_undrew hb
        obtain ⟨v19, e19, t19⟩ := hk.2 10 (by kernel_rfl)
        replace e19 : ac.tmps[19]? = some v19 := e19
        replace e19 : ac.tmps[19]? = some (.bool false) := e19.trans (congrArg some t19)
        obtain ⟨v17, e17, t17⟩ := hk.2 8 (by kernel_rfl)
        replace e17 : ac.tmps[17]? = some v17 := e17
        replace e17 : ac.tmps[17]? = some (.bool true) := e17.trans (congrArg some t17)
        exact Reg.step_value ((Reg.wanted_is rfl rfl e17).trans rfl) (w1 := w') (by go_simp; try rfl) (Below.refl _ _) rfl
      · intro ac w' hb hd hk   -- 12
        replace hb := Reg.below_undrew hb
        have e3 : ac.tmps[3]? = some (.iface 80 (.pointer (some ⟨bq, 0, none⟩))) := (hk.1 3 (by kernel_rfl)).trans rfl
        obtain ⟨v20, e20, t20⟩ := hk.2 11 (by kernel_rfl)
        replace e20 : ac.tmps[20]? = some v20 := e20
        replace e20 : ac.tmps[20]? = some (.bool false) := e20.trans (congrArg some t20)
        exact Reg.step_value ((Reg.wanted_is rfl rfl e20).trans rfl) (w1 := w') (by go_simp; try rfl) (Below.refl _ _) rfl
      · intro ac w' hb hd hk   -- 13
        replace hb := Reg.below_undrew hb
        obtain ⟨v21, e21, t21⟩ := hk.2 12 (by kernel_rfl)
        replace e21 : ac.tmps[21]? = some v21 := e21
        replace e21 : ac.tmps[21]? = some (.iface 80 (.pointer (some ⟨bq, 0, none⟩))) := e21.trans (congrArg some t21)
        obtain ⟨v20, e20, t20⟩ := hk.2 11 (by kernel_rfl)
        replace e20 : ac.tmps[20]? = some v20 := e20
        replace e20 : ac.tmps[20]? = some (.bool false) := e20.trans (congrArg some t20)
        refine Reg.step_call ((Reg.wanted_is rfl rfl e20).trans rfl) (by go_simp; try rfl) ((tributarylaw3_code.calls (some (p * 256 + 50)) bq 50 _ (show ErrArg w' _ (some (p * 256 + 50)) bq from ⟨rfl, heap_same hb (Array.getElem?_eq_some_iff.1 HE2.out.2).1 HE2.out.2⟩) (HL2.out.below hb (Nat.le_refl _)) (code_eq p)).mono ?_)
        rintro en w4 ⟨rfl, hb4⟩
        exact ⟨_, rfl, rfl, hb4⟩
      · intro ac w' hb hd hk   -- 14
        replace hb := Reg.below_undrew hb
        obtain ⟨v22, e22, t22⟩ := hk.2 13 (by kernel_rfl)
        replace e22 : ac.tmps[22]? = some v22 := e22
        replace e22 : ac.tmps[22]? = some (.int .i64 50) := e22.trans (congrArg some t22)
        obtain ⟨v20, e20, t20⟩ := hk.2 11 (by kernel_rfl)
        replace e20 : ac.tmps[20]? = some v20 := e20
        replace e20 : ac.tmps[20]? = some (.bool false) := e20.trans (congrArg some t20)
        exact Reg.step_value ((Reg.wanted_is rfl rfl e20).trans rfl) (w1 := w') (by go_simp; try rfl) (Below.refl _ _) rfl
      · intro ac w' hb hd hk   -- 15
        replace hb := Reg.below_undrew hb
        obtain ⟨v23, e23, t23⟩ := hk.2 14 (by kernel_rfl)
        replace e23 : ac.tmps[23]? = some v23 := e23
        replace e23 : ac.tmps[23]? = some (.bool true) := e23.trans (congrArg some t23)
        obtain ⟨v20, e20, t20⟩ := hk.2 11 (by kernel_rfl)
        replace e20 : ac.tmps[20]? = some v20 := e20
        replace e20 : ac.tmps[20]? = some (.bool false) := e20.trans (congrArg some t20)
        exact Reg.step_value ((Reg.wanted_is rfl rfl e20).trans rfl) (w1 := w') (by go_simp; try rfl) (Below.refl _ _) rfl
      · intro ac w' hb hd hk   -- 16
        replace hb := Reg.below_undrew hb
        have e3 : ac.tmps[3]? = some (.iface 80 (.pointer (some ⟨bq, 0, none⟩))) := (hk.1 3 (by kernel_rfl)).trans rfl
        obtain ⟨v24, e24, t24⟩ := hk.2 15 (by kernel_rfl)
        replace e24 : ac.tmps[24]? = some v24 := e24
        replace e24 : ac.tmps[24]? = some (.bool true) := e24.trans (congrArg some t24)
        exact Reg.step_value ((Reg.wanted_is rfl rfl e24).trans rfl) (w1 := w') (by go_simp; try rfl) (Below.refl _ _) rfl
      · intro ac w' hb hd hk   -- 17
        replace hb := Reg.below_undrew hb
        obtain ⟨v25, e25, t25⟩ := hk.2 16 (by kernel_rfl)
        replace e25 : ac.tmps[25]? = some v25 := e25
        replace e25 : ac.tmps[25]? = some (.iface 80 (.pointer (some ⟨bq, 0, none⟩))) := e25.trans (congrArg some t25)
        obtain ⟨v24, e24, t24⟩ := hk.2 15 (by kernel_rfl)
        replace e24 : ac.tmps[24]? = some v24 := e24
        replace e24 : ac.tmps[24]? = some (.bool true) := e24.trans (congrArg some t24)
        refine Reg.step_call ((Reg.wanted_is rfl rfl e24).trans rfl) (by go_simp; try rfl) ((tributarylaw3_at.calls (some (p * 256 + 50)) bq p _ (show ErrArg w' _ (some (p * 256 + 50)) bq from ⟨rfl, heap_same hb (Array.getElem?_eq_some_iff.1 HE2.out.2).1 HE2.out.2⟩) (at_eq p)).mono ?_)
        rintro en w4 ⟨rfl, hb4⟩
        exact ⟨_, rfl, rfl, hb4⟩
      · intro ac w' hb hd hk   -- 18
        replace hb := Reg.below_undrew hb
        have e4 : ac.tmps[4]? = some (.int .i64 p) := (hk.1 4 (by kernel_rfl)).trans rfl
        obtain ⟨v24, e24, t24⟩ := hk.2 15 (by kernel_rfl)
        replace e24 : ac.tmps[24]? = some v24 := e24
        replace e24 : ac.tmps[24]? = some (.bool true) := e24.trans (congrArg some t24)
        exact Reg.step_value ((Reg.wanted_is rfl rfl e24).trans rfl) (w1 := w') (by go_simp; try rfl) (Below.refl _ _) rfl
      · intro ac w' hb hd hk   -- 19
        replace hb := Reg.below_undrew hb
        obtain ⟨v26, e26, t26⟩ := hk.2 17 (by kernel_rfl)
        replace e26 : ac.tmps[26]? = some v26 := e26
        replace e26 : ac.tmps[26]? = some (.int .i64 p) := e26.trans (congrArg some t26)
        obtain ⟨v27, e27, t27⟩ := hk.2 18 (by kernel_rfl)
        replace e27 : ac.tmps[27]? = some v27 := e27
        replace e27 : ac.tmps[27]? = some (.int .i64 p) := e27.trans (congrArg some t27)
        obtain ⟨v24, e24, t24⟩ := hk.2 15 (by kernel_rfl)
        replace e24 : ac.tmps[24]? = some v24 := e24
        replace e24 : ac.tmps[24]? = some (.bool true) := e24.trans (congrArg some t24)
        exact Reg.step_value ((Reg.wanted_is rfl rfl e24).trans rfl) (w1 := w') (by go_simp; try rfl) (Below.refl _ _) rfl
      · intro ac w' hb hd hk   -- 20
        replace hb := Reg.below_undrew hb
        obtain ⟨v24, e24, t24⟩ := hk.2 15 (by kernel_rfl)
        replace e24 : ac.tmps[24]? = some v24 := e24
        replace e24 : ac.tmps[24]? = some (.bool true) := e24.trans (congrArg some t24)
        obtain ⟨v28, e28, t28⟩ := hk.2 19 (by kernel_rfl)
        replace e28 : ac.tmps[28]? = some v28 := e28
        replace e28 : ac.tmps[28]? = some (.bool true) := e28.trans (congrArg some t28)
        obtain ⟨v20, e20, t20⟩ := hk.2 11 (by kernel_rfl)
        replace e20 : ac.tmps[20]? = some v20 := e20
        replace e20 : ac.tmps[20]? = some (.bool false) := e20.trans (congrArg some t20)
        exact Reg.step_value ((Reg.wanted_is rfl rfl e20).trans rfl) (w1 := w') (by go_simp; try rfl) (Below.refl _ _) rfl
      · intro ac w' hb hd hk   -- 21
        replace hb := Reg.below_undrew hb
        obtain ⟨v20, e20, t20⟩ := hk.2 11 (by kernel_rfl)
        replace e20 : ac.tmps[20]? = some v20 := e20
        replace e20 : ac.tmps[20]? = some (.bool false) := e20.trans (congrArg some t20)
        obtain ⟨v29, e29, t29⟩ := hk.2 20 (by kernel_rfl)
        replace e29 : ac.tmps[29]? = some v29 := e29
        replace e29 : ac.tmps[29]? = some (.bool true) := e29.trans (congrArg some t29)
        obtain ⟨v17, e17, t17⟩ := hk.2 8 (by kernel_rfl)
        replace e17 : ac.tmps[17]? = some v17 := e17
        replace e17 : ac.tmps[17]? = some (.bool true) := e17.trans (congrArg some t17)
        exact Reg.step_value ((Reg.wanted_is rfl rfl e17).trans rfl) (w1 := w') (by go_simp; try rfl) (Below.refl _ _) rfl
      · intro ac w' hb hd hk   -- 22
        replace hb := Reg.below_undrew hb
        obtain ⟨v17, e17, t17⟩ := hk.2 8 (by kernel_rfl)
        replace e17 : ac.tmps[17]? = some v17 := e17
        replace e17 : ac.tmps[17]? = some (.bool true) := e17.trans (congrArg some t17)
        obtain ⟨v30, e30, t30⟩ := hk.2 21 (by kernel_rfl)
        replace e30 : ac.tmps[30]? = some v30 := e30
        replace e30 : ac.tmps[30]? = some (.bool true) := e30.trans (congrArg some t30)
        exact Reg.step_value (Reg.wanted_free rfl) (w1 := w') (by go_simp; try rfl) (Below.refl _ _) rfl
      · intro ac w' hb hd hk   -- 23
        replace hb := Reg.below_undrew hb
        obtain ⟨v31, e31, t31⟩ := hk.2 22 (by kernel_rfl)
        replace e31 : ac.tmps[31]? = some v31 := e31
        replace e31 : ac.tmps[31]? = some (.bool true) := e31.trans (congrArg some t31)
        exact Reg.step_value (Reg.wanted_free rfl) (w1 := w') (by go_simp; try rfl) (Below.refl _ _) rfl
      · intro ac w' hb hd hk   -- 24
        replace hb := Reg.below_undrew hb
        have e1 : ac.tmps[1]? = some (.pointer (some ⟨B, 0, none⟩)) := (hk.1 1 (by kernel_rfl)).trans rfl
        obtain ⟨v32, e32, t32⟩ := hk.2 23 (by kernel_rfl)
        replace e32 : ac.tmps[32]? = some v32 := e32
        replace e32 : ac.tmps[32]? = some (.bool true) := e32.trans (congrArg some t32)
        exact Reg.step_value ((Reg.wanted_is rfl rfl e32).trans rfl) (w1 := w') (by go_simp; try rfl) (Below.refl _ _) rfl
      · intro ac w' hb hd hk   -- 25
        replace hb := Reg.below_undrew hb
        obtain ⟨v33, e33, t33⟩ := hk.2 24 (by kernel_rfl)
        replace e33 : ac.tmps[33]? = some v33 := e33
        replace e33 : ac.tmps[33]? = some (.pointer (some ⟨B, 0, none⟩)) := e33.trans (congrArg some t33)
        obtain ⟨v32, e32, t32⟩ := hk.2 23 (by kernel_rfl)
        replace e32 : ac.tmps[32]? = some v32 := e32
        replace e32 : ac.tmps[32]? = some (.bool true) := e32.trans (congrArg some t32)
        obtain ⟨k0, k1, k2, k3, k4⟩ := facts5 (heap_same hb (Array.getElem?_eq_some_iff.1 X3.out).1 X3.out)
        exact Reg.step_value ((Reg.wanted_is rfl rfl e32).trans rfl) (w1 := w') (by go_simp; try rfl) (Below.refl _ _) rfl
      · intro ac w' hb hd hk   -- 26
        replace hb := Reg.below_undrew hb
        obtain ⟨v34, e34, t34⟩ := hk.2 25 (by kernel_rfl)
        replace e34 : ac.tmps[34]? = some v34 := e34
        replace e34 : ac.tmps[34]? = some (.int .i64 q0) := e34.trans (congrArg some t34)
        obtain ⟨v32, e32, t32⟩ := hk.2 23 (by kernel_rfl)
        replace e32 : ac.tmps[32]? = some v32 := e32
        replace e32 : ac.tmps[32]? = some (.bool true) := e32.trans (congrArg some t32)
        refine Reg.step_call ((Reg.wanted_is rfl rfl e32).trans rfl) (by go_simp; try rfl) ((ops_Narrow.calls q0 _ _ (narrow_f q0)).mono ?_)
        rintro en w4 ⟨rfl, hb4⟩
        exact ⟨_, rfl, rfl, Drawn0.below hb4⟩
      · intro ac w' hb hd hk   -- 27
        replace hb := Reg.below_undrew hb
        have e1 : ac.tmps[1]? = some (.pointer (some ⟨B, 0, none⟩)) := (hk.1 1 (by kernel_rfl)).trans rfl
        obtain ⟨v32, e32, t32⟩ := hk.2 23 (by kernel_rfl)
        replace e32 : ac.tmps[32]? = some v32 := e32
        replace e32 : ac.tmps[32]? = some (.bool true) := e32.trans (congrArg some t32)
        exact Reg.step_value ((Reg.wanted_is rfl rfl e32).trans rfl) (w1 := w') (by go_simp; try rfl) (Below.refl _ _) rfl
      · intro ac w' hb hd hk   -- 28
        replace hb := Reg.below_undrew hb
        obtain ⟨v36, e36, t36⟩ := hk.2 27 (by kernel_rfl)
        replace e36 : ac.tmps[36]? = some v36 := e36
        replace e36 : ac.tmps[36]? = some (.pointer (some ⟨B, 0, none⟩)) := e36.trans (congrArg some t36)
        obtain ⟨v32, e32, t32⟩ := hk.2 23 (by kernel_rfl)
        replace e32 : ac.tmps[32]? = some v32 := e32
        replace e32 : ac.tmps[32]? = some (.bool true) := e32.trans (congrArg some t32)
        obtain ⟨k0, k1, k2, k3, k4⟩ := facts5 (heap_same hb (Array.getElem?_eq_some_iff.1 X3.out).1 X3.out)
        exact Reg.step_value ((Reg.wanted_is rfl rfl e32).trans rfl) (w1 := w') (by go_simp; try rfl) (Below.refl _ _) rfl
      · intro ac w' hb hd hk   -- 29
        replace hb := Reg.below_undrew hb
        obtain ⟨v37, e37, t37⟩ := hk.2 28 (by kernel_rfl)
        replace e37 : ac.tmps[37]? = some v37 := e37
        replace e37 : ac.tmps[37]? = some (.int .i64 q0) := e37.trans (congrArg some t37)
        obtain ⟨v32, e32, t32⟩ := hk.2 23 (by kernel_rfl)
        replace e32 : ac.tmps[32]? = some v32 := e32
        replace e32 : ac.tmps[32]? = some (.bool true) := e32.trans (congrArg some t32)
        refine Reg.step_call ((Reg.wanted_is rfl rfl e32).trans rfl) (by go_simp; try rfl) ((tributaryref3_Narrow.calls q0 _ _ (narrow2_f q0)).mono ?_)
        rintro en w4 ⟨rfl, hb4⟩
        exact ⟨_, rfl, rfl, Drawn0.below hb4⟩
      · intro ac w' hb hd hk   -- 30
        replace hb := Reg.below_undrew hb
        obtain ⟨v35, e35, t35⟩ := hk.2 26 (by kernel_rfl)
        replace e35 : ac.tmps[35]? = some v35 := e35
        replace e35 : ac.tmps[35]? = some (.bool (narrowS q0)) := e35.trans (congrArg some t35)
        obtain ⟨v38, e38, t38⟩ := hk.2 29 (by kernel_rfl)
        replace e38 : ac.tmps[38]? = some v38 := e38
        replace e38 : ac.tmps[38]? = some (.bool (narrowS q0)) := e38.trans (congrArg some t38)
        obtain ⟨v32, e32, t32⟩ := hk.2 23 (by kernel_rfl)
        replace e32 : ac.tmps[32]? = some v32 := e32
        replace e32 : ac.tmps[32]? = some (.bool true) := e32.trans (congrArg some t32)
        exact Reg.step_value ((Reg.wanted_is rfl rfl e32).trans rfl) (w1 := w') (by go_simp; try rfl) (Below.refl _ _) rfl
      · intro ac w' hb hd hk   -- 31
        replace hb := Reg.below_undrew hb
        obtain ⟨v32, e32, t32⟩ := hk.2 23 (by kernel_rfl)
        replace e32 : ac.tmps[32]? = some v32 := e32
        replace e32 : ac.tmps[32]? = some (.bool true) := e32.trans (congrArg some t32)
        obtain ⟨v39, e39, t39⟩ := hk.2 30 (by kernel_rfl)
        replace e39 : ac.tmps[39]? = some v39 := e39
        replace e39 : ac.tmps[39]? = some (.bool true) := e39.trans (congrArg some t39)
        exact Reg.step_value (Reg.wanted_free rfl) (w1 := w') (by go_simp; try rfl) (Below.refl _ _) rfl
      · intro ac w' hb hd hk   -- 32
        replace hb := Reg.below_undrew hb
        obtain ⟨v40, e40, t40⟩ := hk.2 31 (by kernel_rfl)
        replace e40 : ac.tmps[40]? = some v40 := e40
        replace e40 : ac.tmps[40]? = some (.bool true) := e40.trans (congrArg some t40)
        exact Reg.step_value (Reg.wanted_free rfl) (w1 := w') (by go_simp; try rfl) (Below.refl _ _) rfl
      · intro ac w' hb hd hk   -- 33
        replace hb := Reg.below_undrew hb
        have e1 : ac.tmps[1]? = some (.pointer (some ⟨B, 0, none⟩)) := (hk.1 1 (by kernel_rfl)).trans rfl
        obtain ⟨v41, e41, t41⟩ := hk.2 32 (by kernel_rfl)
        replace e41 : ac.tmps[41]? = some v41 := e41
        replace e41 : ac.tmps[41]? = some (.bool true) := e41.trans (congrArg some t41)
        exact Reg.step_value ((Reg.wanted_is rfl rfl e41).trans rfl) (w1 := w') (by go_simp; try rfl) (Below.refl _ _) rfl
      · intro ac w' hb hd hk   -- 34
        replace hb := Reg.below_undrew hb
        obtain ⟨v42, e42, t42⟩ := hk.2 33 (by kernel_rfl)
        replace e42 : ac.tmps[42]? = some v42 := e42
        replace e42 : ac.tmps[42]? = some (.pointer (some ⟨B, 0, none⟩)) := e42.trans (congrArg some t42)
        obtain ⟨v41, e41, t41⟩ := hk.2 32 (by kernel_rfl)
        replace e41 : ac.tmps[41]? = some v41 := e41
        replace e41 : ac.tmps[41]? = some (.bool true) := e41.trans (congrArg some t41)
        obtain ⟨k0, k1, k2, k3, k4⟩ := facts5 (heap_same hb (Array.getElem?_eq_some_iff.1 X3.out).1 X3.out)
        exact Reg.step_value ((Reg.wanted_is rfl rfl e41).trans rfl) (w1 := w') (by go_simp; try rfl) (Below.refl _ _) rfl
      · intro ac w' hb hd hk   -- 35
        replace hb := Reg.below_undrew hb
        obtain ⟨v43, e43, t43⟩ := hk.2 34 (by kernel_rfl)
        replace e43 : ac.tmps[43]? = some v43 := e43
        replace e43 : ac.tmps[43]? = some (.int .i64 q0) := e43.trans (congrArg some t43)
        obtain ⟨v41, e41, t41⟩ := hk.2 32 (by kernel_rfl)
        replace e41 : ac.tmps[41]? = some v41 := e41
        replace e41 : ac.tmps[41]? = some (.bool true) := e41.trans (congrArg some t41)
        refine Reg.step_call ((Reg.wanted_is rfl rfl e41).trans rfl) (by go_simp; try rfl) ((ops_Wide.calls q0 _ _ (wide_f q0)).mono ?_)
        rintro en w4 ⟨rfl, hb4⟩
        exact ⟨_, rfl, rfl, Drawn0.below hb4⟩
      · intro ac w' hb hd hk   -- 36
        replace hb := Reg.below_undrew hb
        have e1 : ac.tmps[1]? = some (.pointer (some ⟨B, 0, none⟩)) := (hk.1 1 (by kernel_rfl)).trans rfl
        obtain ⟨v41, e41, t41⟩ := hk.2 32 (by kernel_rfl)
        replace e41 : ac.tmps[41]? = some v41 := e41
        replace e41 : ac.tmps[41]? = some (.bool true) := e41.trans (congrArg some t41)
        exact Reg.step_value ((Reg.wanted_is rfl rfl e41).trans rfl) (w1 := w') (by go_simp; try rfl) (Below.refl _ _) rfl
      · intro ac w' hb hd hk   -- 37
        replace hb := Reg.below_undrew hb
        obtain ⟨v45, e45, t45⟩ := hk.2 36 (by kernel_rfl)
        replace e45 : ac.tmps[45]? = some v45 := e45
        replace e45 : ac.tmps[45]? = some (.pointer (some ⟨B, 0, none⟩)) := e45.trans (congrArg some t45)
        obtain ⟨v41, e41, t41⟩ := hk.2 32 (by kernel_rfl)
        replace e41 : ac.tmps[41]? = some v41 := e41
        replace e41 : ac.tmps[41]? = some (.bool true) := e41.trans (congrArg some t41)
        obtain ⟨k0, k1, k2, k3, k4⟩ := facts5 (heap_same hb (Array.getElem?_eq_some_iff.1 X3.out).1 X3.out)
        exact Reg.step_value ((Reg.wanted_is rfl rfl e41).trans rfl) (w1 := w') (by go_simp; try rfl) (Below.refl _ _) rfl
      · intro ac w' hb hd hk   -- 38
        replace hb := Reg.below_undrew hb
        obtain ⟨v46, e46, t46⟩ := hk.2 37 (by kernel_rfl)
        replace e46 : ac.tmps[46]? = some v46 := e46
        replace e46 : ac.tmps[46]? = some (.int .i64 q0) := e46.trans (congrArg some t46)
        obtain ⟨v41, e41, t41⟩ := hk.2 32 (by kernel_rfl)
        replace e41 : ac.tmps[41]? = some v41 := e41
        replace e41 : ac.tmps[41]? = some (.bool true) := e41.trans (congrArg some t41)
        refine Reg.step_call ((Reg.wanted_is rfl rfl e41).trans rfl) (by go_simp; try rfl) ((tributaryref3_Wide.calls q0 _ _ (wide2_f q0)).mono ?_)
        rintro en w4 ⟨rfl, hb4⟩
        exact ⟨_, rfl, rfl, Drawn0.below hb4⟩
      · intro ac w' hb hd hk   -- 39
        replace hb := Reg.below_undrew hb
        obtain ⟨v44, e44, t44⟩ := hk.2 35 (by kernel_rfl)
        replace e44 : ac.tmps[44]? = some v44 := e44
        replace e44 : ac.tmps[44]? = some (.bool (wideS q0)) := e44.trans (congrArg some t44)
        obtain ⟨v47, e47, t47⟩ := hk.2 38 (by kernel_rfl)
        replace e47 : ac.tmps[47]? = some v47 := e47
        replace e47 : ac.tmps[47]? = some (.bool (wideS q0)) := e47.trans (congrArg some t47)
        obtain ⟨v41, e41, t41⟩ := hk.2 32 (by kernel_rfl)
        replace e41 : ac.tmps[41]? = some v41 := e41
        replace e41 : ac.tmps[41]? = some (.bool true) := e41.trans (congrArg some t41)
        exact Reg.step_value ((Reg.wanted_is rfl rfl e41).trans rfl) (w1 := w') (by go_simp; try rfl) (Below.refl _ _) rfl
      · intro ac w' hb hd hk   -- 40
        replace hb := Reg.below_undrew hb
        obtain ⟨v41, e41, t41⟩ := hk.2 32 (by kernel_rfl)
        replace e41 : ac.tmps[41]? = some v41 := e41
        replace e41 : ac.tmps[41]? = some (.bool true) := e41.trans (congrArg some t41)
        obtain ⟨v48, e48, t48⟩ := hk.2 39 (by kernel_rfl)
        replace e48 : ac.tmps[48]? = some v48 := e48
        replace e48 : ac.tmps[48]? = some (.bool true) := e48.trans (congrArg some t48)
        exact Reg.step_value (Reg.wanted_free rfl) (w1 := w') (by go_simp; try rfl) (Below.refl _ _) rfl
      · intro ac w' hb hd hk   -- 41
        replace hb := Reg.below_undrew hb
        obtain ⟨v49, e49, t49⟩ := hk.2 40 (by kernel_rfl)
        replace e49 : ac.tmps[49]? = some v49 := e49
        replace e49 : ac.tmps[49]? = some (.bool true) := e49.trans (congrArg some t49)
        exact Reg.step_value (Reg.wanted_free rfl) (w1 := w') (by go_simp; try rfl) (Below.refl _ _) rfl
    case fin =>
      intro w' hb
      replace hb := Reg.below_undrew hb
      rintro _ rfl
      rintro _ rfl
      rintro _ rfl
      rintro _ rfl
      rintro _ rfl
      rintro _ rfl
      rintro _ rfl
      rintro _ rfl
      rintro _ rfl
      rintro _ rfl
      rintro _ rfl
      rintro _ rfl
      rintro _ rfl
      rintro _ rfl
      rintro _ rfl
      rintro _ rfl
      rintro _ rfl
      rintro _ rfl
      rintro _ rfl
      rintro _ rfl
      rintro _ rfl
      rintro _ rfl
      rintro _ rfl
      rintro _ rfl
      rintro _ rfl
      rintro _ rfl
      rintro _ rfl
      rintro _ rfl
      rintro _ rfl
      rintro _ rfl
      rintro _ rfl
      rintro _ rfl
      rintro _ rfl
      rintro _ rfl
      rintro _ rfl
      rintro _ rfl
      rintro _ rfl
      rintro _ rfl
      rintro _ rfl
      rintro _ rfl
      rintro _ rfl
      rintro _ rfl
      refine Reg.done_nil ?_
      simp only [Act.put, List.setIfInBounds_toArray, List.set_cons_zero, List.set_cons_succ]
      go_wp2
      go_ret
      exact ⟨rfl, HB2.out.trans (hb.mono HB2.out.size)⟩
theorem tributarylaw3_OpsRight.calls (a0_0 a0_1 a0_2 a0_3 a0_4 : Int) (r : Bool) (w : World) (hL : Laid w) (h : tributarylaw3_OpsRight.f a0_0 a0_1 a0_2 a0_3 a0_4 = some r) :
    Calls Tryd.prog 7 #[.agg #[.int .i64 a0_0, .int .i64 a0_1, .int .i64 a0_2, .int .i64 a0_3, .int .i64 a0_4]] w fun e w' => e = .returned (.bool r) ∧ Below w.heap.size w w' := by
  obtain rfl := Option.some.inj h
  exact opsRight_law _ _ _ _ _ w hL
end Go.Proofs.YtemnnnjlllgeeaaDoor.POps
