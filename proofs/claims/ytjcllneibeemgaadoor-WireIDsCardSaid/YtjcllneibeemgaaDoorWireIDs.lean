/- Proved: the law WireIDs returns true for all bytes that fit: the walk. -/
import Derived.Test.YtjcllneibeemgaaDoorWirePure3
import Derived.Test.YtjcllneibeemgaaDoorRegInv
import Derived.Test.YtjcllneibeemgaaDoorWireInts
namespace Go.Proofs.YtjcllneibeemgaaDoor.PFn
open Go.RowKit Go.Proofs.YtjcllneibeemgaaDoorW.PrintWords Go.Proofs.YtjcllneibeemgaaDoorW.PrintLast Go.Proofs.YtjcllneibeemgaaDoorW.PrintMore Go.Proofs.YtjcllneibeemgaaDoor.Err
attribute [local go_sem] max2_int min2_int max_two min_two max_three min_three max_four min_four
set_option linter.unusedVariables false
set_option linter.unusedSimpArgs false

def tributarylaw1_WireIDs.f (x0 x1 x2 : Int) (l : List Int) (a : Int) : Option Bool := if okBytes l = true ∧ okI x0 ∧ okI x1 ∧ okI x2 then some true else none
set_option maxHeartbeats 8000000 in
set_option maxRecDepth 100000 in
theorem wireIDs_law (x0 x1 x2 : Int) (A0 : Option Addr) (c0 : Nat) (l0 : List Int) (a : Int) (w : World) (hr0 : Kd.C (Kd.int .u8) w A0 l0.length l0) (hc0 : l0.length ≤ c0) (hL : Laid w) (hok : okBytes l0 = true) (hx0 : okI x0) (hx1 : okI x1) (hx2 : okI x2) :
    Calls Tryd.prog 5 #[.agg #[.int .i64 x0, .int .i64 x1, .int .i64 x2], .slice A0 l0.length c0, .int .i64 a] w fun e w' => e = .returned (.bool true) ∧ Below w.heap.size w w' := by
  have HL := Aside0.mk hL
  have HR0 := Aside0.mk hr0
  have HX0 := Aside0.mk hx0
  have HX1 := Aside0.mk hx1
  have HX2 := Aside0.mk hx2
  have HOK := Aside0.mk hok
  obtain ⟨hlen, hby⟩ := okBytes_iff.1 hok
  have HBY := Aside0.mk hby
  clear hr0 hL hx0 hx1 hx2 hok hby
  obtain ⟨r0, r1, r2, r3, e, g, hR⟩ : ∃ r0 r1 r2 r3 e g, readID l0 a = (r0, r1, r2, r3, e, g) := ⟨_, _, _, _, _, _, rfl⟩
  have HR := Aside0.mk hR
  obtain ⟨g', hG, hg⟩ := ref1_ReadID_f l0 a HOK.out 40 (by decide)
  rw [hR] at hG hg
  simp only at hG hg
  have HG := Aside0.mk hG
  have Hg := Aside0.mk hg
  clear hR hG hg
  go_enter Tryd.func5, Tryd.ntmps5
  go_wp2_with fail
  have X3 := Aside0.mk (heap_alloc_new w (Obj.cells #[Value.int IntKind.i64 x0, Value.int IntKind.i64 x1, Value.int IntKind.i64 x2] 41))
  have HB := Aside0.mk ((Below.refl w.heap.size w).alloc (Nat.le_refl _) (Obj.cells #[Value.int IntKind.i64 x0, Value.int IntKind.i64 x1, Value.int IntKind.i64 x2] 41))
  have HE0 := Aside0.mk (Nat.le_refl w.heap.size)
  obtain ⟨B3, hB3⟩ : ∃ b, b = w.heap.size := ⟨_, rfl⟩
  rw [← hB3] at X3
  rw [show (⟨w.heap.size, 0, none⟩ : Addr) = ⟨B3, 0, none⟩ by rw [hB3]]
  clear hB3
  generalize w.alloc (Obj.cells #[Value.int IntKind.i64 x0, Value.int IntKind.i64 x1, Value.int IntKind.i64 x2] 41) = W0 at X3 HB ⊢
  refine (readID_calls _ _ l0 a _ (Kd.C_below HR0.out HB.out) hc0 hlen HBY.out _ HR.out).mono ?_
  rintro en w1 ⟨v, rfl, hE, hb, hN⟩
  have HE1 := Aside0.mk hE
  have X31 := Aside0.mk (heap_same hb (Array.getElem?_eq_some_iff.1 X3.out).1 X3.out)
  have HB1 := Aside0.mk (HB.out.trans (hb.mono HB.out.size))
  clear hE hb hN X3 HB
  go_wp2_with fail
  have X7 := Aside0.mk (heap_alloc_new w1 (Obj.cells #[Value.int IntKind.i64 r0, Value.int IntKind.i64 r1, Value.int IntKind.i64 r2] 41))
  have X32 := Aside0.mk ((Below.heap_alloc w1 (Obj.cells #[Value.int IntKind.i64 r0, Value.int IntKind.i64 r1, Value.int IntKind.i64 r2] 41) B3 (Array.getElem?_eq_some_iff.1 X31.out).1).trans X31.out)
  have HB2 := Aside0.mk (HB1.out.alloc HB1.out.size (Obj.cells #[Value.int IntKind.i64 r0, Value.int IntKind.i64 r1, Value.int IntKind.i64 r2] 41))
  have HE2 := Aside0.mk (HE1.out.below ((Below.refl w1.heap.size w1).alloc (Nat.le_refl _) (Obj.cells #[Value.int IntKind.i64 r0, Value.int IntKind.i64 r1, Value.int IntKind.i64 r2] 41)) (Nat.le_refl _))
  obtain ⟨B7, hB7⟩ : ∃ b, b = w1.heap.size := ⟨_, rfl⟩
  rw [← hB7] at X7
  rw [show (⟨w1.heap.size, 0, none⟩ : Addr) = ⟨B7, 0, none⟩ by rw [hB7]]
  clear hB7 X31 HB1 HE1
  generalize w1.alloc (Obj.cells #[Value.int IntKind.i64 r0, Value.int IntKind.i64 r1, Value.int IntKind.i64 r2] 41) = W1 at X7 X32 HB2 HE2 ⊢
  refine (tributaryref1_ReadID.calls 40 A0 c0 l0 a _ _ _ _ _ _ _ (Kd.C_below HR0.out HB2.out) hc0 HG.out).mono ?_
  rintro en w2 ⟨rfl, hb⟩
  have X33 := Aside0.mk (heap_same hb (Array.getElem?_eq_some_iff.1 X32.out).1 X32.out)
  have X71 := Aside0.mk (heap_same hb (Array.getElem?_eq_some_iff.1 X7.out).1 X7.out)
  have HE3 := Aside0.mk (HE2.out.below hb (Nat.le_refl _))
  have HB3 := Aside0.mk (HB2.out.trans (hb.mono HB2.out.size))
  clear hb X7 X32 HB2 HE2
  go_wp2_with fail
  have XA := Aside0.mk (heap_alloc_new w2 (Obj.cells #[Value.int IntKind.i64 r0, Value.int IntKind.i64 r1, Value.int IntKind.i64 r2] 41))
  have X34 := Aside0.mk ((Below.heap_alloc w2 (Obj.cells #[Value.int IntKind.i64 r0, Value.int IntKind.i64 r1, Value.int IntKind.i64 r2] 41) B3 (Array.getElem?_eq_some_iff.1 X33.out).1).trans X33.out)
  have X74 := Aside0.mk ((Below.heap_alloc w2 (Obj.cells #[Value.int IntKind.i64 r0, Value.int IntKind.i64 r1, Value.int IntKind.i64 r2] 41) B7 (Array.getElem?_eq_some_iff.1 X71.out).1).trans X71.out)
  have HB4 := Aside0.mk (HB3.out.alloc HB3.out.size (Obj.cells #[Value.int IntKind.i64 r0, Value.int IntKind.i64 r1, Value.int IntKind.i64 r2] 41))
  have HE4 := Aside0.mk (HE3.out.below ((Below.refl w2.heap.size w2).alloc (Nat.le_refl _) (Obj.cells #[Value.int IntKind.i64 r0, Value.int IntKind.i64 r1, Value.int IntKind.i64 r2] 41)) (Nat.le_refl _))
  obtain ⟨BA, hBA⟩ : ∃ b, b = w2.heap.size := ⟨_, rfl⟩
  rw [← hBA] at XA
  rw [show (⟨w2.heap.size, 0, none⟩ : Addr) = ⟨BA, 0, none⟩ by rw [hBA]]
  clear hBA X33 X71 HB3 HE3
  generalize w2.alloc (Obj.cells #[Value.int IntKind.i64 r0, Value.int IntKind.i64 r1, Value.int IntKind.i64 r2] 41) = w3 at XA X34 X74 HB4 HE4 ⊢
  have HL3 := Aside0.mk (HL.out.below HB4.out (Nat.le_refl _))
  clear HL
  by_cases hz : e = 0
  · refine Reg.region_inv (Reg.tab [(Reg.Is (.bool true)), (Reg.Is (.bool true)), (Reg.Is (.agg #[.int .i64 x0, .int .i64 x1, .int .i64 x2])), (fun v w => Kd.R (Kd.int .u8) 5 w w3.heap.size (fun _ => True) v (encD x0 x1 x2)), (Reg.Is (.string (strOfNums (encD x0 x1 x2)))), (Reg.Is (.agg #[.int .i64 x0, .int .i64 x1, .int .i64 x2])), (fun v w => Kd.R (Kd.int .u8) 5 w w3.heap.size (fun _ => True) v (encD x0 x1 x2)), (Reg.Is (.string (strOfNums (encD x0 x1 x2)))), (Reg.Is (.bool true)), (Reg.Is (.bool true)), (Reg.Is (.bool true)), (Reg.Is (.agg #[.int .i64 r0, .int .i64 r1, .int .i64 r2])), (Reg.Is (.agg #[.int .i64 r0, .int .i64 r1, .int .i64 r2])), (Reg.Is (.bool true)), (Reg.Is (.bool true)), (Reg.Is (.bool true)), (Reg.Is (.int .i64 r3)), (Reg.Is (.int .i64 r3)), (Reg.Is (.bool true)), (Reg.Is (.bool true)), (Reg.Is (.bool true)), (Reg.Is v), (Reg.Is (.int .i64 e)), (Reg.Is (.int .i64 e)), (Reg.Is (.bool true)), (Reg.Is (.bool true)), (Reg.Is (.bool true)), (Reg.Is (.int .i64 e)), (Reg.Is (.bool true)), (Reg.Is (.bool true)), (Reg.Is undef), (Reg.Is undef), (Reg.Is undef), (Reg.Is undef), (Reg.Is (.bool true)), (Reg.Is (.bool true)), (Reg.Is (.bool true))]) (by kernel_rfl) (by kernel_rfl) (Reg.tab_mono ?mono) ?steps ?fin
    case mono => exact ⟨Reg.Is.mono _, Reg.Is.mono _, Reg.Is.mono _, (fun _ _ _ hb h => Kd.R_below h hb), Reg.Is.mono _, Reg.Is.mono _, (fun _ _ _ hb h => Kd.R_below h hb), Reg.Is.mono _, Reg.Is.mono _, Reg.Is.mono _, Reg.Is.mono _, Reg.Is.mono _, Reg.Is.mono _, Reg.Is.mono _, Reg.Is.mono _, Reg.Is.mono _, Reg.Is.mono _, Reg.Is.mono _, Reg.Is.mono _, Reg.Is.mono _, Reg.Is.mono _, Reg.Is.mono _, Reg.Is.mono _, Reg.Is.mono _, Reg.Is.mono _, Reg.Is.mono _, Reg.Is.mono _, Reg.Is.mono _, Reg.Is.mono _, Reg.Is.mono _, Reg.Is.mono _, Reg.Is.mono _, Reg.Is.mono _, Reg.Is.mono _, Reg.Is.mono _, Reg.Is.mono _, Reg.Is.mono _, trivial⟩
    case steps =>
      refine ⟨?_, ?_, ?_, ?_, ?_, ?_, ?_, ?_, ?_, ?_, ?_, ?_, ?_, ?_, ?_, ?_, ?_, ?_, ?_, ?_, ?_, ?_, ?_, ?_, ?_, ?_, ?_, ?_, ?_, ?_, ?_, ?_, ?_, ?_, ?_, ?_, ?_, trivial⟩
      · intro ac w' hb hd hk   -- 0
        replace hb := Reg.below_undrew hb
        refine Reg.step_call (Reg.wanted_free rfl) (by go_simp; try rfl) ((told_law _ (HL3.out.below hb (Nat.le_refl _))).mono ?_)
        rintro en w4 ⟨rfl, hb4⟩
        exact ⟨_, rfl, rfl, hb4⟩
      · intro ac w' hb hd hk   -- 1
        replace hb := Reg.below_undrew hb
        obtain ⟨v29, e29, t29⟩ := hk.2 0 (by kernel_rfl)
        replace e29 : ac.tmps[29]? = some v29 := e29
        replace e29 : ac.tmps[29]? = some (.bool true) := e29.trans (congrArg some t29)
        exact Reg.step_value (Reg.wanted_free rfl) (w1 := w') (by go_simp; try rfl) (Below.refl _ _) rfl
      · intro ac w' hb hd hk   -- 2
        replace hb := Reg.below_undrew hb
        have e3 : ac.tmps[3]? = some (.pointer (some ⟨B3, 0, none⟩)) := (hk.1 3 (by kernel_rfl)).trans rfl
        obtain ⟨v30, e30, t30⟩ := hk.2 1 (by kernel_rfl)
        replace e30 : ac.tmps[30]? = some v30 := e30
        replace e30 : ac.tmps[30]? = some (.bool true) := e30.trans (congrArg some t30)
        obtain ⟨k0, k1, k2, f0, f1, f2, zB⟩ := facts3 (heap_same hb (Array.getElem?_eq_some_iff.1 X34.out).1 X34.out)
        exact Reg.step_value ((Reg.wanted_is rfl rfl e30).trans rfl) (w1 := w') (by go_simp; try rfl) (Below.refl _ _) rfl
      · intro ac w' hb hd hk   -- 3
        replace hb := Reg.below_undrew hb
        obtain ⟨v31, e31, t31⟩ := hk.2 2 (by kernel_rfl)
        replace e31 : ac.tmps[31]? = some v31 := e31
        replace e31 : ac.tmps[31]? = some (.agg #[.int .i64 x0, .int .i64 x1, .int .i64 x2]) := e31.trans (congrArg some t31)
        obtain ⟨v30, e30, t30⟩ := hk.2 1 (by kernel_rfl)
        replace e30 : ac.tmps[30]? = some v30 := e30
        replace e30 : ac.tmps[30]? = some (.bool true) := e30.trans (congrArg some t30)
        refine Reg.step_call ((Reg.wanted_is rfl rfl e30).trans rfl) (by go_simp; try rfl) ((wire_ID.calls 20 x0 x1 x2 _ _ (wire_ID_f _ _ _ HX0.out HX1.out HX2.out 20 (by decide))).mono ?_)
        rintro en w4 ⟨v0, rfl, ho, hb4⟩
        exact ⟨_, rfl, Kd.R_lower ho hb.size, hb4⟩
      · intro ac w' hb hd hk   -- 4
        replace hb := Reg.below_undrew hb
        obtain ⟨v32, e32, t32⟩ := hk.2 3 (by kernel_rfl)
        replace e32 : ac.tmps[32]? = some v32 := e32
        replace t32 : (fun v w => Kd.R (Kd.int .u8) 5 w w3.heap.size (fun _ => True) v (encD x0 x1 x2)) v32 w' := t32
        obtain ⟨v30, e30, t30⟩ := hk.2 1 (by kernel_rfl)
        replace e30 : ac.tmps[30]? = some v30 := e30
        replace e30 : ac.tmps[30]? = some (.bool true) := e30.trans (congrArg some t30)
        have hcv := own_string (P := Tryd.prog) Tryd.underlying22 Tryd.underlying5 Tryd.underlying9 (Kd.own_of_R t32)
        exact Reg.step_value ((Reg.wanted_is rfl rfl e30).trans rfl) (w1 := w') (by go_simp; try rfl) (Below.refl _ _) rfl
      · intro ac w' hb hd hk   -- 5
        replace hb := Reg.below_undrew hb
        have e3 : ac.tmps[3]? = some (.pointer (some ⟨B3, 0, none⟩)) := (hk.1 3 (by kernel_rfl)).trans rfl
        obtain ⟨v30, e30, t30⟩ := hk.2 1 (by kernel_rfl)
        replace e30 : ac.tmps[30]? = some v30 := e30
        replace e30 : ac.tmps[30]? = some (.bool true) := e30.trans (congrArg some t30)
        obtain ⟨k0, k1, k2, f0, f1, f2, zB⟩ := facts3 (heap_same hb (Array.getElem?_eq_some_iff.1 X34.out).1 X34.out)
        exact Reg.step_value ((Reg.wanted_is rfl rfl e30).trans rfl) (w1 := w') (by go_simp; try rfl) (Below.refl _ _) rfl
      · intro ac w' hb hd hk   -- 6
        replace hb := Reg.below_undrew hb
        obtain ⟨v34, e34, t34⟩ := hk.2 5 (by kernel_rfl)
        replace e34 : ac.tmps[34]? = some v34 := e34
        replace e34 : ac.tmps[34]? = some (.agg #[.int .i64 x0, .int .i64 x1, .int .i64 x2]) := e34.trans (congrArg some t34)
        obtain ⟨v30, e30, t30⟩ := hk.2 1 (by kernel_rfl)
        replace e30 : ac.tmps[30]? = some v30 := e30
        replace e30 : ac.tmps[30]? = some (.bool true) := e30.trans (congrArg some t30)
        refine Reg.step_call ((Reg.wanted_is rfl rfl e30).trans rfl) (by go_simp; try rfl) ((tributaryref1_ID.calls 20 x0 x1 x2 _ _ (ref1_ID_f _ _ _ HX0.out HX1.out HX2.out 20 (by decide))).mono ?_)
        rintro en w4 ⟨v0, rfl, ho, hb4⟩
        exact ⟨_, rfl, Kd.R_lower ho hb.size, hb4⟩
      · intro ac w' hb hd hk   -- 7
        replace hb := Reg.below_undrew hb
        obtain ⟨v35, e35, t35⟩ := hk.2 6 (by kernel_rfl)
        replace e35 : ac.tmps[35]? = some v35 := e35
        replace t35 : (fun v w => Kd.R (Kd.int .u8) 5 w w3.heap.size (fun _ => True) v (encD x0 x1 x2)) v35 w' := t35
        obtain ⟨v30, e30, t30⟩ := hk.2 1 (by kernel_rfl)
        replace e30 : ac.tmps[30]? = some v30 := e30
        replace e30 : ac.tmps[30]? = some (.bool true) := e30.trans (congrArg some t30)
        have hcv := own_string (P := Tryd.prog) Tryd.underlying22 Tryd.underlying5 Tryd.underlying9 (Kd.own_of_R t35)
        exact Reg.step_value ((Reg.wanted_is rfl rfl e30).trans rfl) (w1 := w') (by go_simp; try rfl) (Below.refl _ _) rfl
      · intro ac w' hb hd hk   -- 8
        replace hb := Reg.below_undrew hb
        obtain ⟨v33, e33, t33⟩ := hk.2 4 (by kernel_rfl)
        replace e33 : ac.tmps[33]? = some v33 := e33
        replace e33 : ac.tmps[33]? = some (.string (strOfNums (encD x0 x1 x2))) := e33.trans (congrArg some t33)
        obtain ⟨v36, e36, t36⟩ := hk.2 7 (by kernel_rfl)
        replace e36 : ac.tmps[36]? = some v36 := e36
        replace e36 : ac.tmps[36]? = some (.string (strOfNums (encD x0 x1 x2))) := e36.trans (congrArg some t36)
        obtain ⟨v30, e30, t30⟩ := hk.2 1 (by kernel_rfl)
        replace e30 : ac.tmps[30]? = some v30 := e30
        replace e30 : ac.tmps[30]? = some (.bool true) := e30.trans (congrArg some t30)
        exact Reg.step_value ((Reg.wanted_is rfl rfl e30).trans rfl) (w1 := w') (by go_simp; try rfl) (Below.refl _ _) rfl
      · intro ac w' hb hd hk   -- 9
        replace hb := Reg.below_undrew hb
        obtain ⟨v30, e30, t30⟩ := hk.2 1 (by kernel_rfl)
        replace e30 : ac.tmps[30]? = some v30 := e30
        replace e30 : ac.tmps[30]? = some (.bool true) := e30.trans (congrArg some t30)
        obtain ⟨v37, e37, t37⟩ := hk.2 8 (by kernel_rfl)
        replace e37 : ac.tmps[37]? = some v37 := e37
        replace e37 : ac.tmps[37]? = some (.bool true) := e37.trans (congrArg some t37)
        exact Reg.step_value (Reg.wanted_free rfl) (w1 := w') (by go_simp; try rfl) (Below.refl _ _) rfl
      · intro ac w' hb hd hk   -- 10
        replace hb := Reg.below_undrew hb
        obtain ⟨v38, e38, t38⟩ := hk.2 9 (by kernel_rfl)
        replace e38 : ac.tmps[38]? = some v38 := e38
        replace e38 : ac.tmps[38]? = some (.bool true) := e38.trans (congrArg some t38)
        exact Reg.step_value (Reg.wanted_free rfl) (w1 := w') (by go_simp; try rfl) (Below.refl _ _) rfl
      · intro ac w' hb hd hk   -- 11
        replace hb := Reg.below_undrew hb
        have e7 : ac.tmps[7]? = some (.pointer (some ⟨B7, 0, none⟩)) := (hk.1 7 (by kernel_rfl)).trans rfl
        obtain ⟨v39, e39, t39⟩ := hk.2 10 (by kernel_rfl)
        replace e39 : ac.tmps[39]? = some v39 := e39
        replace e39 : ac.tmps[39]? = some (.bool true) := e39.trans (congrArg some t39)
        obtain ⟨k0, k1, k2, f0, f1, f2, zB⟩ := facts3 (heap_same hb (Array.getElem?_eq_some_iff.1 X74.out).1 X74.out)
        exact Reg.step_value ((Reg.wanted_is rfl rfl e39).trans rfl) (w1 := w') (by go_simp; try rfl) (Below.refl _ _) rfl
      · intro ac w' hb hd hk   -- 12
        replace hb := Reg.below_undrew hb
        have e10 : ac.tmps[10]? = some (.pointer (some ⟨BA, 0, none⟩)) := (hk.1 10 (by kernel_rfl)).trans rfl
        obtain ⟨v39, e39, t39⟩ := hk.2 10 (by kernel_rfl)
        replace e39 : ac.tmps[39]? = some v39 := e39
        replace e39 : ac.tmps[39]? = some (.bool true) := e39.trans (congrArg some t39)
        obtain ⟨k0, k1, k2, f0, f1, f2, zB⟩ := facts3 (heap_same hb (Array.getElem?_eq_some_iff.1 XA.out).1 XA.out)
        exact Reg.step_value ((Reg.wanted_is rfl rfl e39).trans rfl) (w1 := w') (by go_simp; try rfl) (Below.refl _ _) rfl
      · intro ac w' hb hd hk   -- 13
        replace hb := Reg.below_undrew hb
        obtain ⟨v40, e40, t40⟩ := hk.2 11 (by kernel_rfl)
        replace e40 : ac.tmps[40]? = some v40 := e40
        replace e40 : ac.tmps[40]? = some (.agg #[.int .i64 r0, .int .i64 r1, .int .i64 r2]) := e40.trans (congrArg some t40)
        obtain ⟨v41, e41, t41⟩ := hk.2 12 (by kernel_rfl)
        replace e41 : ac.tmps[41]? = some v41 := e41
        replace e41 : ac.tmps[41]? = some (.agg #[.int .i64 r0, .int .i64 r1, .int .i64 r2]) := e41.trans (congrArg some t41)
        obtain ⟨v39, e39, t39⟩ := hk.2 10 (by kernel_rfl)
        replace e39 : ac.tmps[39]? = some v39 := e39
        replace e39 : ac.tmps[39]? = some (.bool true) := e39.trans (congrArg some t39)
        exact Reg.step_value ((Reg.wanted_is rfl rfl e39).trans rfl) (w1 := w') (by go_simp; try rfl) (Below.refl _ _) rfl
      · intro ac w' hb hd hk   -- 14
        replace hb := Reg.below_undrew hb
        obtain ⟨v39, e39, t39⟩ := hk.2 10 (by kernel_rfl)
        replace e39 : ac.tmps[39]? = some v39 := e39
        replace e39 : ac.tmps[39]? = some (.bool true) := e39.trans (congrArg some t39)
        obtain ⟨v42, e42, t42⟩ := hk.2 13 (by kernel_rfl)
        replace e42 : ac.tmps[42]? = some v42 := e42
        replace e42 : ac.tmps[42]? = some (.bool true) := e42.trans (congrArg some t42)
        exact Reg.step_value (Reg.wanted_free rfl) (w1 := w') (by go_simp; try rfl) (Below.refl _ _) rfl
      · intro ac w' hb hd hk   -- 15
        replace hb := Reg.below_undrew hb
        obtain ⟨v43, e43, t43⟩ := hk.2 14 (by kernel_rfl)
        replace e43 : ac.tmps[43]? = some v43 := e43
        replace e43 : ac.tmps[43]? = some (.bool true) := e43.trans (congrArg some t43)
        exact Reg.step_value (Reg.wanted_free rfl) (w1 := w') (by go_simp; try rfl) (Below.refl _ _) rfl
      · intro ac w' hb hd hk   -- 16
        replace hb := Reg.below_undrew hb
        have e8 : ac.tmps[8]? = some (.int .i64 r3) := (hk.1 8 (by kernel_rfl)).trans rfl
        obtain ⟨v44, e44, t44⟩ := hk.2 15 (by kernel_rfl)
        replace e44 : ac.tmps[44]? = some v44 := e44
        replace e44 : ac.tmps[44]? = some (.bool true) := e44.trans (congrArg some t44)
        exact Reg.step_value ((Reg.wanted_is rfl rfl e44).trans rfl) (w1 := w') (by go_simp; try rfl) (Below.refl _ _) rfl
      · intro ac w' hb hd hk   -- 17
        replace hb := Reg.below_undrew hb
        have e11 : ac.tmps[11]? = some (.int .i64 r3) := (hk.1 11 (by kernel_rfl)).trans rfl
        obtain ⟨v44, e44, t44⟩ := hk.2 15 (by kernel_rfl)
        replace e44 : ac.tmps[44]? = some v44 := e44
        replace e44 : ac.tmps[44]? = some (.bool true) := e44.trans (congrArg some t44)
        exact Reg.step_value ((Reg.wanted_is rfl rfl e44).trans rfl) (w1 := w') (by go_simp; try rfl) (Below.refl _ _) rfl
      · intro ac w' hb hd hk   -- 18
        replace hb := Reg.below_undrew hb
        obtain ⟨v45, e45, t45⟩ := hk.2 16 (by kernel_rfl)
        replace e45 : ac.tmps[45]? = some v45 := e45
        replace e45 : ac.tmps[45]? = some (.int .i64 r3) := e45.trans (congrArg some t45)
        obtain ⟨v46, e46, t46⟩ := hk.2 17 (by kernel_rfl)
        replace e46 : ac.tmps[46]? = some v46 := e46
        replace e46 : ac.tmps[46]? = some (.int .i64 r3) := e46.trans (congrArg some t46)
        obtain ⟨v44, e44, t44⟩ := hk.2 15 (by kernel_rfl)
        replace e44 : ac.tmps[44]? = some v44 := e44
        replace e44 : ac.tmps[44]? = some (.bool true) := e44.trans (congrArg some t44)
        exact Reg.step_value ((Reg.wanted_is rfl rfl e44).trans rfl) (w1 := w') (by go_simp; try rfl) (Below.refl _ _) rfl
      · intro ac w' hb hd hk   -- 19
        replace hb := Reg.below_undrew hb
        obtain ⟨v44, e44, t44⟩ := hk.2 15 (by kernel_rfl)
        replace e44 : ac.tmps[44]? = some v44 := e44
        replace e44 : ac.tmps[44]? = some (.bool true) := e44.trans (congrArg some t44)
        obtain ⟨v47, e47, t47⟩ := hk.2 18 (by kernel_rfl)
        replace e47 : ac.tmps[47]? = some v47 := e47
        replace e47 : ac.tmps[47]? = some (.bool true) := e47.trans (congrArg some t47)
        exact Reg.step_value (Reg.wanted_free rfl) (w1 := w') (by go_simp; try rfl) (Below.refl _ _) rfl
      · intro ac w' hb hd hk   -- 20
        replace hb := Reg.below_undrew hb
        obtain ⟨v48, e48, t48⟩ := hk.2 19 (by kernel_rfl)
        replace e48 : ac.tmps[48]? = some v48 := e48
        replace e48 : ac.tmps[48]? = some (.bool true) := e48.trans (congrArg some t48)
        exact Reg.step_value (Reg.wanted_free rfl) (w1 := w') (by go_simp; try rfl) (Below.refl _ _) rfl
      · intro ac w' hb hd hk   -- 21
        replace hb := Reg.below_undrew hb
        have e9 : ac.tmps[9]? = some v := (hk.1 9 (by kernel_rfl)).trans rfl
        obtain ⟨v49, e49, t49⟩ := hk.2 20 (by kernel_rfl)
        replace e49 : ac.tmps[49]? = some v49 := e49
        replace e49 : ac.tmps[49]? = some (.bool true) := e49.trans (congrArg some t49)
        exact Reg.step_value ((Reg.wanted_is rfl rfl e49).trans rfl) (w1 := w') (by go_simp; try rfl) (Below.refl _ _) rfl
      · intro ac w' hb hd hk   -- 22
        replace hb := Reg.below_undrew hb
        obtain ⟨v50, e50, t50⟩ := hk.2 21 (by kernel_rfl)
        replace e50 : ac.tmps[50]? = some v50 := e50
        replace e50 : ac.tmps[50]? = some v := e50.trans (congrArg some t50)
        obtain ⟨v49, e49, t49⟩ := hk.2 20 (by kernel_rfl)
        replace e49 : ac.tmps[49]? = some v49 := e49
        replace e49 : ac.tmps[49]? = some (.bool true) := e49.trans (congrArg some t49)
        refine Reg.step_call ((Reg.wanted_is rfl rfl e49).trans rfl) (by go_simp; try rfl) ((code_law (werr g e) v _ (HE4.out.below hb (Nat.le_refl _)) (HL3.out.below hb (Nat.le_refl _))).mono ?_)
        rintro en w4 ⟨rfl, hb4⟩
        exact ⟨_, rfl, by rw [code_werr]; rfl, hb4⟩
      · intro ac w' hb hd hk   -- 23
        replace hb := Reg.below_undrew hb
        have e12 : ac.tmps[12]? = some (.int .i64 e) := (hk.1 12 (by kernel_rfl)).trans rfl
        obtain ⟨v49, e49, t49⟩ := hk.2 20 (by kernel_rfl)
        replace e49 : ac.tmps[49]? = some v49 := e49
        replace e49 : ac.tmps[49]? = some (.bool true) := e49.trans (congrArg some t49)
        exact Reg.step_value ((Reg.wanted_is rfl rfl e49).trans rfl) (w1 := w') (by go_simp; try rfl) (Below.refl _ _) rfl
      · intro ac w' hb hd hk   -- 24
        replace hb := Reg.below_undrew hb
        obtain ⟨v51, e51, t51⟩ := hk.2 22 (by kernel_rfl)
        replace e51 : ac.tmps[51]? = some v51 := e51
        replace e51 : ac.tmps[51]? = some (.int .i64 e) := e51.trans (congrArg some t51)
        obtain ⟨v52, e52, t52⟩ := hk.2 23 (by kernel_rfl)
        replace e52 : ac.tmps[52]? = some v52 := e52
        replace e52 : ac.tmps[52]? = some (.int .i64 e) := e52.trans (congrArg some t52)
        obtain ⟨v49, e49, t49⟩ := hk.2 20 (by kernel_rfl)
        replace e49 : ac.tmps[49]? = some v49 := e49
        replace e49 : ac.tmps[49]? = some (.bool true) := e49.trans (congrArg some t49)
        exact Reg.step_value ((Reg.wanted_is rfl rfl e49).trans rfl) (w1 := w') (by go_simp; try rfl) (Below.refl _ _) rfl
      · intro ac w' hb hd hk   -- 25
        replace hb := Reg.below_undrew hb
        obtain ⟨v49, e49, t49⟩ := hk.2 20 (by kernel_rfl)
        replace e49 : ac.tmps[49]? = some v49 := e49
        replace e49 : ac.tmps[49]? = some (.bool true) := e49.trans (congrArg some t49)
        obtain ⟨v53, e53, t53⟩ := hk.2 24 (by kernel_rfl)
        replace e53 : ac.tmps[53]? = some v53 := e53
        replace e53 : ac.tmps[53]? = some (.bool true) := e53.trans (congrArg some t53)
        exact Reg.step_value (Reg.wanted_free rfl) (w1 := w') (by go_simp; try rfl) (Below.refl _ _) rfl
      · intro ac w' hb hd hk   -- 26
        replace hb := Reg.below_undrew hb
        obtain ⟨v54, e54, t54⟩ := hk.2 25 (by kernel_rfl)
        replace e54 : ac.tmps[54]? = some v54 := e54
        replace e54 : ac.tmps[54]? = some (.bool true) := e54.trans (congrArg some t54)
        exact Reg.step_value (Reg.wanted_free rfl) (w1 := w') (by go_simp; try rfl) (Below.refl _ _) rfl
      · intro ac w' hb hd hk   -- 27
        replace hb := Reg.below_undrew hb
        have e12 : ac.tmps[12]? = some (.int .i64 e) := (hk.1 12 (by kernel_rfl)).trans rfl
        obtain ⟨v55, e55, t55⟩ := hk.2 26 (by kernel_rfl)
        replace e55 : ac.tmps[55]? = some v55 := e55
        replace e55 : ac.tmps[55]? = some (.bool true) := e55.trans (congrArg some t55)
        exact Reg.step_value ((Reg.wanted_is rfl rfl e55).trans rfl) (w1 := w') (by go_simp; try rfl) (Below.refl _ _) rfl
      · intro ac w' hb hd hk   -- 28
        replace hb := Reg.below_undrew hb
        obtain ⟨v56, e56, t56⟩ := hk.2 27 (by kernel_rfl)
        replace e56 : ac.tmps[56]? = some v56 := e56
        replace e56 : ac.tmps[56]? = some (.int .i64 e) := e56.trans (congrArg some t56)
        obtain ⟨v55, e55, t55⟩ := hk.2 26 (by kernel_rfl)
        replace e55 : ac.tmps[55]? = some v55 := e55
        replace e55 : ac.tmps[55]? = some (.bool true) := e55.trans (congrArg some t55)
        have hzb : ((e : Int) == 0) = true := beq_iff_eq.2 hz
        exact Reg.step_value ((Reg.wanted_is rfl rfl e55).trans rfl) (w1 := w') (by go_simp; try rfl) (Below.refl _ _) rfl
      · intro ac w' hb hd hk   -- 29
        replace hb := Reg.below_undrew hb
        obtain ⟨v57, e57, t57⟩ := hk.2 28 (by kernel_rfl)
        replace e57 : ac.tmps[57]? = some v57 := e57
        replace e57 : ac.tmps[57]? = some (.bool true) := e57.trans (congrArg some t57)
        obtain ⟨v55, e55, t55⟩ := hk.2 26 (by kernel_rfl)
        replace e55 : ac.tmps[55]? = some v55 := e55
        replace e55 : ac.tmps[55]? = some (.bool true) := e55.trans (congrArg some t55)
        exact Reg.step_value ((Reg.wanted_is rfl rfl e55).trans rfl) (w1 := w') (by go_simp; try rfl) (Below.refl _ _) rfl
      · intro ac w' hb hd hk   -- 30
        replace hb := Reg.below_undrew hb
        obtain ⟨v58, e58, t58⟩ := hk.2 29 (by kernel_rfl)
        replace e58 : ac.tmps[58]? = some v58 := e58
        replace e58 : ac.tmps[58]? = some (.bool true) := e58.trans (congrArg some t58)
        exact Reg.step_off ((Reg.wanted_is rfl rfl e58).trans rfl) rfl
      · intro ac w' hb hd hk   -- 31
        replace hb := Reg.below_undrew hb
        obtain ⟨v58, e58, t58⟩ := hk.2 29 (by kernel_rfl)
        replace e58 : ac.tmps[58]? = some v58 := e58
        replace e58 : ac.tmps[58]? = some (.bool true) := e58.trans (congrArg some t58)
        exact Reg.step_off ((Reg.wanted_is rfl rfl e58).trans rfl) rfl
      · intro ac w' hb hd hk   -- 32
        replace hb := Reg.below_undrew hb
        obtain ⟨v58, e58, t58⟩ := hk.2 29 (by kernel_rfl)
        replace e58 : ac.tmps[58]? = some v58 := e58
        replace e58 : ac.tmps[58]? = some (.bool true) := e58.trans (congrArg some t58)
        exact Reg.step_off ((Reg.wanted_is rfl rfl e58).trans rfl) rfl
      · intro ac w' hb hd hk   -- 33
        replace hb := Reg.below_undrew hb
        obtain ⟨v58, e58, t58⟩ := hk.2 29 (by kernel_rfl)
        replace e58 : ac.tmps[58]? = some v58 := e58
        replace e58 : ac.tmps[58]? = some (.bool true) := e58.trans (congrArg some t58)
        exact Reg.step_off ((Reg.wanted_is rfl rfl e58).trans rfl) rfl
      · intro ac w' hb hd hk   -- 34
        replace hb := Reg.below_undrew hb
        obtain ⟨v58, e58, t58⟩ := hk.2 29 (by kernel_rfl)
        replace e58 : ac.tmps[58]? = some v58 := e58
        replace e58 : ac.tmps[58]? = some (.bool true) := e58.trans (congrArg some t58)
        obtain ⟨v62, e62, t62⟩ := hk.2 33 (by kernel_rfl)
        replace e62 : ac.tmps[62]? = some v62 := e62
        replace e62 : ac.tmps[62]? = some undef := e62.trans (congrArg some t62)
        obtain ⟨v55, e55, t55⟩ := hk.2 26 (by kernel_rfl)
        replace e55 : ac.tmps[55]? = some v55 := e55
        replace e55 : ac.tmps[55]? = some (.bool true) := e55.trans (congrArg some t55)
        exact Reg.step_value ((Reg.wanted_is rfl rfl e55).trans rfl) (w1 := w') (by go_simp; try rfl) (Below.refl _ _) rfl
      · intro ac w' hb hd hk   -- 35
        replace hb := Reg.below_undrew hb
        obtain ⟨v55, e55, t55⟩ := hk.2 26 (by kernel_rfl)
        replace e55 : ac.tmps[55]? = some v55 := e55
        replace e55 : ac.tmps[55]? = some (.bool true) := e55.trans (congrArg some t55)
        obtain ⟨v63, e63, t63⟩ := hk.2 34 (by kernel_rfl)
        replace e63 : ac.tmps[63]? = some v63 := e63
        replace e63 : ac.tmps[63]? = some (.bool true) := e63.trans (congrArg some t63)
        exact Reg.step_value (Reg.wanted_free rfl) (w1 := w') (by go_simp; try rfl) (Below.refl _ _) rfl
      · intro ac w' hb hd hk   -- 36
        replace hb := Reg.below_undrew hb
        obtain ⟨v64, e64, t64⟩ := hk.2 35 (by kernel_rfl)
        replace e64 : ac.tmps[64]? = some v64 := e64
        replace e64 : ac.tmps[64]? = some (.bool true) := e64.trans (congrArg some t64)
        exact Reg.step_value (Reg.wanted_free rfl) (w1 := w') (by go_simp; try rfl) (Below.refl _ _) rfl
    case fin =>
      intro w' hb
      replace hb := Reg.below_undrew hb
      rintro _ rfl
      rintro _ rfl
      rintro _ rfl
      intro v3 h3
      rintro _ rfl
      rintro _ rfl
      intro v6 h6
      rintro _ rfl
      rintro _ rfl
      rintro _ rfl
      rintro _ rfl
      rintro _ rfl
      rintro _ rfl
      rintro _ rfl
      rintro _ rfl
      rintro _ rfl
      rintro _ rfl
      rintro _ rfl
      rintro _ rfl
      rintro _ rfl
      rintro _ rfl
      rintro _ rfl
      rintro _ rfl
      rintro _ rfl
      rintro _ rfl
      rintro _ rfl
      rintro _ rfl
      rintro _ rfl
      rintro _ rfl
      rintro _ rfl
      rintro _ rfl
      rintro _ rfl
      rintro _ rfl
      rintro _ rfl
      rintro _ rfl
      rintro _ rfl
      rintro _ rfl
      refine Reg.done_nil ?_
      simp only [Act.put, List.setIfInBounds_toArray, List.set_cons_zero, List.set_cons_succ]
      go_wp2
      go_ret
      exact ⟨rfl, HB4.out.trans (hb.mono HB4.out.size)⟩
  · obtain rfl : g = g' := (Hg.out hz).symm
    refine Reg.region_inv (Reg.tab [(Reg.Is (.bool true)), (Reg.Is (.bool true)), (Reg.Is (.agg #[.int .i64 x0, .int .i64 x1, .int .i64 x2])), (fun v w => Kd.R (Kd.int .u8) 5 w w3.heap.size (fun _ => True) v (encD x0 x1 x2)), (Reg.Is (.string (strOfNums (encD x0 x1 x2)))), (Reg.Is (.agg #[.int .i64 x0, .int .i64 x1, .int .i64 x2])), (fun v w => Kd.R (Kd.int .u8) 5 w w3.heap.size (fun _ => True) v (encD x0 x1 x2)), (Reg.Is (.string (strOfNums (encD x0 x1 x2)))), (Reg.Is (.bool true)), (Reg.Is (.bool true)), (Reg.Is (.bool true)), (Reg.Is (.agg #[.int .i64 r0, .int .i64 r1, .int .i64 r2])), (Reg.Is (.agg #[.int .i64 r0, .int .i64 r1, .int .i64 r2])), (Reg.Is (.bool true)), (Reg.Is (.bool true)), (Reg.Is (.bool true)), (Reg.Is (.int .i64 r3)), (Reg.Is (.int .i64 r3)), (Reg.Is (.bool true)), (Reg.Is (.bool true)), (Reg.Is (.bool true)), (Reg.Is v), (Reg.Is (.int .i64 e)), (Reg.Is (.int .i64 e)), (Reg.Is (.bool true)), (Reg.Is (.bool true)), (Reg.Is (.bool true)), (Reg.Is (.int .i64 e)), (Reg.Is (.bool false)), (Reg.Is (.bool false)), (Reg.Is v), (Reg.Is (.int .i64 g)), (Reg.Is (.int .i64 g)), (Reg.Is (.bool true)), (Reg.Is (.bool true)), (Reg.Is (.bool true)), (Reg.Is (.bool true))]) (by kernel_rfl) (by kernel_rfl) (Reg.tab_mono ?mono) ?steps ?fin
    case mono => exact ⟨Reg.Is.mono _, Reg.Is.mono _, Reg.Is.mono _, (fun _ _ _ hb h => Kd.R_below h hb), Reg.Is.mono _, Reg.Is.mono _, (fun _ _ _ hb h => Kd.R_below h hb), Reg.Is.mono _, Reg.Is.mono _, Reg.Is.mono _, Reg.Is.mono _, Reg.Is.mono _, Reg.Is.mono _, Reg.Is.mono _, Reg.Is.mono _, Reg.Is.mono _, Reg.Is.mono _, Reg.Is.mono _, Reg.Is.mono _, Reg.Is.mono _, Reg.Is.mono _, Reg.Is.mono _, Reg.Is.mono _, Reg.Is.mono _, Reg.Is.mono _, Reg.Is.mono _, Reg.Is.mono _, Reg.Is.mono _, Reg.Is.mono _, Reg.Is.mono _, Reg.Is.mono _, Reg.Is.mono _, Reg.Is.mono _, Reg.Is.mono _, Reg.Is.mono _, Reg.Is.mono _, Reg.Is.mono _, trivial⟩
    case steps =>
      refine ⟨?_, ?_, ?_, ?_, ?_, ?_, ?_, ?_, ?_, ?_, ?_, ?_, ?_, ?_, ?_, ?_, ?_, ?_, ?_, ?_, ?_, ?_, ?_, ?_, ?_, ?_, ?_, ?_, ?_, ?_, ?_, ?_, ?_, ?_, ?_, ?_, ?_, trivial⟩
      · intro ac w' hb hd hk   -- 0
        replace hb := Reg.below_undrew hb
        refine Reg.step_call (Reg.wanted_free rfl) (by go_simp; try rfl) ((told_law _ (HL3.out.below hb (Nat.le_refl _))).mono ?_)
        rintro en w4 ⟨rfl, hb4⟩
        exact ⟨_, rfl, rfl, hb4⟩
      · intro ac w' hb hd hk   -- 1
        replace hb := Reg.below_undrew hb
        obtain ⟨v29, e29, t29⟩ := hk.2 0 (by kernel_rfl)
        replace e29 : ac.tmps[29]? = some v29 := e29
        replace e29 : ac.tmps[29]? = some (.bool true) := e29.trans (congrArg some t29)
        exact Reg.step_value (Reg.wanted_free rfl) (w1 := w') (by go_simp; try rfl) (Below.refl _ _) rfl
      · intro ac w' hb hd hk   -- 2
        replace hb := Reg.below_undrew hb
        have e3 : ac.tmps[3]? = some (.pointer (some ⟨B3, 0, none⟩)) := (hk.1 3 (by kernel_rfl)).trans rfl
        obtain ⟨v30, e30, t30⟩ := hk.2 1 (by kernel_rfl)
        replace e30 : ac.tmps[30]? = some v30 := e30
        replace e30 : ac.tmps[30]? = some (.bool true) := e30.trans (congrArg some t30)
        obtain ⟨k0, k1, k2, f0, f1, f2, zB⟩ := facts3 (heap_same hb (Array.getElem?_eq_some_iff.1 X34.out).1 X34.out)
        exact Reg.step_value ((Reg.wanted_is rfl rfl e30).trans rfl) (w1 := w') (by go_simp; try rfl) (Below.refl _ _) rfl
      · intro ac w' hb hd hk   -- 3
        replace hb := Reg.below_undrew hb
        obtain ⟨v31, e31, t31⟩ := hk.2 2 (by kernel_rfl)
        replace e31 : ac.tmps[31]? = some v31 := e31
        replace e31 : ac.tmps[31]? = some (.agg #[.int .i64 x0, .int .i64 x1, .int .i64 x2]) := e31.trans (congrArg some t31)
        obtain ⟨v30, e30, t30⟩ := hk.2 1 (by kernel_rfl)
        replace e30 : ac.tmps[30]? = some v30 := e30
        replace e30 : ac.tmps[30]? = some (.bool true) := e30.trans (congrArg some t30)
        refine Reg.step_call ((Reg.wanted_is rfl rfl e30).trans rfl) (by go_simp; try rfl) ((wire_ID.calls 20 x0 x1 x2 _ _ (wire_ID_f _ _ _ HX0.out HX1.out HX2.out 20 (by decide))).mono ?_)
        rintro en w4 ⟨v0, rfl, ho, hb4⟩
        exact ⟨_, rfl, Kd.R_lower ho hb.size, hb4⟩
      · intro ac w' hb hd hk   -- 4
        replace hb := Reg.below_undrew hb
        obtain ⟨v32, e32, t32⟩ := hk.2 3 (by kernel_rfl)
        replace e32 : ac.tmps[32]? = some v32 := e32
        replace t32 : (fun v w => Kd.R (Kd.int .u8) 5 w w3.heap.size (fun _ => True) v (encD x0 x1 x2)) v32 w' := t32
        obtain ⟨v30, e30, t30⟩ := hk.2 1 (by kernel_rfl)
        replace e30 : ac.tmps[30]? = some v30 := e30
        replace e30 : ac.tmps[30]? = some (.bool true) := e30.trans (congrArg some t30)
        have hcv := own_string (P := Tryd.prog) Tryd.underlying22 Tryd.underlying5 Tryd.underlying9 (Kd.own_of_R t32)
        exact Reg.step_value ((Reg.wanted_is rfl rfl e30).trans rfl) (w1 := w') (by go_simp; try rfl) (Below.refl _ _) rfl
      · intro ac w' hb hd hk   -- 5
        replace hb := Reg.below_undrew hb
        have e3 : ac.tmps[3]? = some (.pointer (some ⟨B3, 0, none⟩)) := (hk.1 3 (by kernel_rfl)).trans rfl
        obtain ⟨v30, e30, t30⟩ := hk.2 1 (by kernel_rfl)
        replace e30 : ac.tmps[30]? = some v30 := e30
        replace e30 : ac.tmps[30]? = some (.bool true) := e30.trans (congrArg some t30)
        obtain ⟨k0, k1, k2, f0, f1, f2, zB⟩ := facts3 (heap_same hb (Array.getElem?_eq_some_iff.1 X34.out).1 X34.out)
        exact Reg.step_value ((Reg.wanted_is rfl rfl e30).trans rfl) (w1 := w') (by go_simp; try rfl) (Below.refl _ _) rfl
      · intro ac w' hb hd hk   -- 6
        replace hb := Reg.below_undrew hb
        obtain ⟨v34, e34, t34⟩ := hk.2 5 (by kernel_rfl)
        replace e34 : ac.tmps[34]? = some v34 := e34
        replace e34 : ac.tmps[34]? = some (.agg #[.int .i64 x0, .int .i64 x1, .int .i64 x2]) := e34.trans (congrArg some t34)
        obtain ⟨v30, e30, t30⟩ := hk.2 1 (by kernel_rfl)
        replace e30 : ac.tmps[30]? = some v30 := e30
        replace e30 : ac.tmps[30]? = some (.bool true) := e30.trans (congrArg some t30)
        refine Reg.step_call ((Reg.wanted_is rfl rfl e30).trans rfl) (by go_simp; try rfl) ((tributaryref1_ID.calls 20 x0 x1 x2 _ _ (ref1_ID_f _ _ _ HX0.out HX1.out HX2.out 20 (by decide))).mono ?_)
        rintro en w4 ⟨v0, rfl, ho, hb4⟩
        exact ⟨_, rfl, Kd.R_lower ho hb.size, hb4⟩
      · intro ac w' hb hd hk   -- 7
        replace hb := Reg.below_undrew hb
        obtain ⟨v35, e35, t35⟩ := hk.2 6 (by kernel_rfl)
        replace e35 : ac.tmps[35]? = some v35 := e35
        replace t35 : (fun v w => Kd.R (Kd.int .u8) 5 w w3.heap.size (fun _ => True) v (encD x0 x1 x2)) v35 w' := t35
        obtain ⟨v30, e30, t30⟩ := hk.2 1 (by kernel_rfl)
        replace e30 : ac.tmps[30]? = some v30 := e30
        replace e30 : ac.tmps[30]? = some (.bool true) := e30.trans (congrArg some t30)
        have hcv := own_string (P := Tryd.prog) Tryd.underlying22 Tryd.underlying5 Tryd.underlying9 (Kd.own_of_R t35)
        exact Reg.step_value ((Reg.wanted_is rfl rfl e30).trans rfl) (w1 := w') (by go_simp; try rfl) (Below.refl _ _) rfl
      · intro ac w' hb hd hk   -- 8
        replace hb := Reg.below_undrew hb
        obtain ⟨v33, e33, t33⟩ := hk.2 4 (by kernel_rfl)
        replace e33 : ac.tmps[33]? = some v33 := e33
        replace e33 : ac.tmps[33]? = some (.string (strOfNums (encD x0 x1 x2))) := e33.trans (congrArg some t33)
        obtain ⟨v36, e36, t36⟩ := hk.2 7 (by kernel_rfl)
        replace e36 : ac.tmps[36]? = some v36 := e36
        replace e36 : ac.tmps[36]? = some (.string (strOfNums (encD x0 x1 x2))) := e36.trans (congrArg some t36)
        obtain ⟨v30, e30, t30⟩ := hk.2 1 (by kernel_rfl)
        replace e30 : ac.tmps[30]? = some v30 := e30
        replace e30 : ac.tmps[30]? = some (.bool true) := e30.trans (congrArg some t30)
        exact Reg.step_value ((Reg.wanted_is rfl rfl e30).trans rfl) (w1 := w') (by go_simp; try rfl) (Below.refl _ _) rfl
      · intro ac w' hb hd hk   -- 9
        replace hb := Reg.below_undrew hb
        obtain ⟨v30, e30, t30⟩ := hk.2 1 (by kernel_rfl)
        replace e30 : ac.tmps[30]? = some v30 := e30
        replace e30 : ac.tmps[30]? = some (.bool true) := e30.trans (congrArg some t30)
        obtain ⟨v37, e37, t37⟩ := hk.2 8 (by kernel_rfl)
        replace e37 : ac.tmps[37]? = some v37 := e37
        replace e37 : ac.tmps[37]? = some (.bool true) := e37.trans (congrArg some t37)
        exact Reg.step_value (Reg.wanted_free rfl) (w1 := w') (by go_simp; try rfl) (Below.refl _ _) rfl
      · intro ac w' hb hd hk   -- 10
        replace hb := Reg.below_undrew hb
        obtain ⟨v38, e38, t38⟩ := hk.2 9 (by kernel_rfl)
        replace e38 : ac.tmps[38]? = some v38 := e38
        replace e38 : ac.tmps[38]? = some (.bool true) := e38.trans (congrArg some t38)
        exact Reg.step_value (Reg.wanted_free rfl) (w1 := w') (by go_simp; try rfl) (Below.refl _ _) rfl
      · intro ac w' hb hd hk   -- 11
        replace hb := Reg.below_undrew hb
        have e7 : ac.tmps[7]? = some (.pointer (some ⟨B7, 0, none⟩)) := (hk.1 7 (by kernel_rfl)).trans rfl
        obtain ⟨v39, e39, t39⟩ := hk.2 10 (by kernel_rfl)
        replace e39 : ac.tmps[39]? = some v39 := e39
        replace e39 : ac.tmps[39]? = some (.bool true) := e39.trans (congrArg some t39)
        obtain ⟨k0, k1, k2, f0, f1, f2, zB⟩ := facts3 (heap_same hb (Array.getElem?_eq_some_iff.1 X74.out).1 X74.out)
        exact Reg.step_value ((Reg.wanted_is rfl rfl e39).trans rfl) (w1 := w') (by go_simp; try rfl) (Below.refl _ _) rfl
      · intro ac w' hb hd hk   -- 12
        replace hb := Reg.below_undrew hb
        have e10 : ac.tmps[10]? = some (.pointer (some ⟨BA, 0, none⟩)) := (hk.1 10 (by kernel_rfl)).trans rfl
        obtain ⟨v39, e39, t39⟩ := hk.2 10 (by kernel_rfl)
        replace e39 : ac.tmps[39]? = some v39 := e39
        replace e39 : ac.tmps[39]? = some (.bool true) := e39.trans (congrArg some t39)
        obtain ⟨k0, k1, k2, f0, f1, f2, zB⟩ := facts3 (heap_same hb (Array.getElem?_eq_some_iff.1 XA.out).1 XA.out)
        exact Reg.step_value ((Reg.wanted_is rfl rfl e39).trans rfl) (w1 := w') (by go_simp; try rfl) (Below.refl _ _) rfl
      · intro ac w' hb hd hk   -- 13
        replace hb := Reg.below_undrew hb
        obtain ⟨v40, e40, t40⟩ := hk.2 11 (by kernel_rfl)
        replace e40 : ac.tmps[40]? = some v40 := e40
        replace e40 : ac.tmps[40]? = some (.agg #[.int .i64 r0, .int .i64 r1, .int .i64 r2]) := e40.trans (congrArg some t40)
        obtain ⟨v41, e41, t41⟩ := hk.2 12 (by kernel_rfl)
        replace e41 : ac.tmps[41]? = some v41 := e41
        replace e41 : ac.tmps[41]? = some (.agg #[.int .i64 r0, .int .i64 r1, .int .i64 r2]) := e41.trans (congrArg some t41)
        obtain ⟨v39, e39, t39⟩ := hk.2 10 (by kernel_rfl)
        replace e39 : ac.tmps[39]? = some v39 := e39
        replace e39 : ac.tmps[39]? = some (.bool true) := e39.trans (congrArg some t39)
        exact Reg.step_value ((Reg.wanted_is rfl rfl e39).trans rfl) (w1 := w') (by go_simp; try rfl) (Below.refl _ _) rfl
      · intro ac w' hb hd hk   -- 14
        replace hb := Reg.below_undrew hb
        obtain ⟨v39, e39, t39⟩ := hk.2 10 (by kernel_rfl)
        replace e39 : ac.tmps[39]? = some v39 := e39
        replace e39 : ac.tmps[39]? = some (.bool true) := e39.trans (congrArg some t39)
        obtain ⟨v42, e42, t42⟩ := hk.2 13 (by kernel_rfl)
        replace e42 : ac.tmps[42]? = some v42 := e42
        replace e42 : ac.tmps[42]? = some (.bool true) := e42.trans (congrArg some t42)
        exact Reg.step_value (Reg.wanted_free rfl) (w1 := w') (by go_simp; try rfl) (Below.refl _ _) rfl
      · intro ac w' hb hd hk   -- 15
        replace hb := Reg.below_undrew hb
        obtain ⟨v43, e43, t43⟩ := hk.2 14 (by kernel_rfl)
        replace e43 : ac.tmps[43]? = some v43 := e43
        replace e43 : ac.tmps[43]? = some (.bool true) := e43.trans (congrArg some t43)
        exact Reg.step_value (Reg.wanted_free rfl) (w1 := w') (by go_simp; try rfl) (Below.refl _ _) rfl
      · intro ac w' hb hd hk   -- 16
        replace hb := Reg.below_undrew hb
        have e8 : ac.tmps[8]? = some (.int .i64 r3) := (hk.1 8 (by kernel_rfl)).trans rfl
        obtain ⟨v44, e44, t44⟩ := hk.2 15 (by kernel_rfl)
        replace e44 : ac.tmps[44]? = some v44 := e44
        replace e44 : ac.tmps[44]? = some (.bool true) := e44.trans (congrArg some t44)
        exact Reg.step_value ((Reg.wanted_is rfl rfl e44).trans rfl) (w1 := w') (by go_simp; try rfl) (Below.refl _ _) rfl
      · intro ac w' hb hd hk   -- 17
        replace hb := Reg.below_undrew hb
        have e11 : ac.tmps[11]? = some (.int .i64 r3) := (hk.1 11 (by kernel_rfl)).trans rfl
        obtain ⟨v44, e44, t44⟩ := hk.2 15 (by kernel_rfl)
        replace e44 : ac.tmps[44]? = some v44 := e44
        replace e44 : ac.tmps[44]? = some (.bool true) := e44.trans (congrArg some t44)
        exact Reg.step_value ((Reg.wanted_is rfl rfl e44).trans rfl) (w1 := w') (by go_simp; try rfl) (Below.refl _ _) rfl
      · intro ac w' hb hd hk   -- 18
        replace hb := Reg.below_undrew hb
        obtain ⟨v45, e45, t45⟩ := hk.2 16 (by kernel_rfl)
        replace e45 : ac.tmps[45]? = some v45 := e45
        replace e45 : ac.tmps[45]? = some (.int .i64 r3) := e45.trans (congrArg some t45)
        obtain ⟨v46, e46, t46⟩ := hk.2 17 (by kernel_rfl)
        replace e46 : ac.tmps[46]? = some v46 := e46
        replace e46 : ac.tmps[46]? = some (.int .i64 r3) := e46.trans (congrArg some t46)
        obtain ⟨v44, e44, t44⟩ := hk.2 15 (by kernel_rfl)
        replace e44 : ac.tmps[44]? = some v44 := e44
        replace e44 : ac.tmps[44]? = some (.bool true) := e44.trans (congrArg some t44)
        exact Reg.step_value ((Reg.wanted_is rfl rfl e44).trans rfl) (w1 := w') (by go_simp; try rfl) (Below.refl _ _) rfl
      · intro ac w' hb hd hk   -- 19
        replace hb := Reg.below_undrew hb
        obtain ⟨v44, e44, t44⟩ := hk.2 15 (by kernel_rfl)
        replace e44 : ac.tmps[44]? = some v44 := e44
        replace e44 : ac.tmps[44]? = some (.bool true) := e44.trans (congrArg some t44)
        obtain ⟨v47, e47, t47⟩ := hk.2 18 (by kernel_rfl)
        replace e47 : ac.tmps[47]? = some v47 := e47
        replace e47 : ac.tmps[47]? = some (.bool true) := e47.trans (congrArg some t47)
        exact Reg.step_value (Reg.wanted_free rfl) (w1 := w') (by go_simp; try rfl) (Below.refl _ _) rfl
      · intro ac w' hb hd hk   -- 20
        replace hb := Reg.below_undrew hb
        obtain ⟨v48, e48, t48⟩ := hk.2 19 (by kernel_rfl)
        replace e48 : ac.tmps[48]? = some v48 := e48
        replace e48 : ac.tmps[48]? = some (.bool true) := e48.trans (congrArg some t48)
        exact Reg.step_value (Reg.wanted_free rfl) (w1 := w') (by go_simp; try rfl) (Below.refl _ _) rfl
      · intro ac w' hb hd hk   -- 21
        replace hb := Reg.below_undrew hb
        have e9 : ac.tmps[9]? = some v := (hk.1 9 (by kernel_rfl)).trans rfl
        obtain ⟨v49, e49, t49⟩ := hk.2 20 (by kernel_rfl)
        replace e49 : ac.tmps[49]? = some v49 := e49
        replace e49 : ac.tmps[49]? = some (.bool true) := e49.trans (congrArg some t49)
        exact Reg.step_value ((Reg.wanted_is rfl rfl e49).trans rfl) (w1 := w') (by go_simp; try rfl) (Below.refl _ _) rfl
      · intro ac w' hb hd hk   -- 22
        replace hb := Reg.below_undrew hb
        obtain ⟨v50, e50, t50⟩ := hk.2 21 (by kernel_rfl)
        replace e50 : ac.tmps[50]? = some v50 := e50
        replace e50 : ac.tmps[50]? = some v := e50.trans (congrArg some t50)
        obtain ⟨v49, e49, t49⟩ := hk.2 20 (by kernel_rfl)
        replace e49 : ac.tmps[49]? = some v49 := e49
        replace e49 : ac.tmps[49]? = some (.bool true) := e49.trans (congrArg some t49)
        refine Reg.step_call ((Reg.wanted_is rfl rfl e49).trans rfl) (by go_simp; try rfl) ((code_law (werr g e) v _ (HE4.out.below hb (Nat.le_refl _)) (HL3.out.below hb (Nat.le_refl _))).mono ?_)
        rintro en w4 ⟨rfl, hb4⟩
        exact ⟨_, rfl, by rw [code_werr]; rfl, hb4⟩
      · intro ac w' hb hd hk   -- 23
        replace hb := Reg.below_undrew hb
        have e12 : ac.tmps[12]? = some (.int .i64 e) := (hk.1 12 (by kernel_rfl)).trans rfl
        obtain ⟨v49, e49, t49⟩ := hk.2 20 (by kernel_rfl)
        replace e49 : ac.tmps[49]? = some v49 := e49
        replace e49 : ac.tmps[49]? = some (.bool true) := e49.trans (congrArg some t49)
        exact Reg.step_value ((Reg.wanted_is rfl rfl e49).trans rfl) (w1 := w') (by go_simp; try rfl) (Below.refl _ _) rfl
      · intro ac w' hb hd hk   -- 24
        replace hb := Reg.below_undrew hb
        obtain ⟨v51, e51, t51⟩ := hk.2 22 (by kernel_rfl)
        replace e51 : ac.tmps[51]? = some v51 := e51
        replace e51 : ac.tmps[51]? = some (.int .i64 e) := e51.trans (congrArg some t51)
        obtain ⟨v52, e52, t52⟩ := hk.2 23 (by kernel_rfl)
        replace e52 : ac.tmps[52]? = some v52 := e52
        replace e52 : ac.tmps[52]? = some (.int .i64 e) := e52.trans (congrArg some t52)
        obtain ⟨v49, e49, t49⟩ := hk.2 20 (by kernel_rfl)
        replace e49 : ac.tmps[49]? = some v49 := e49
        replace e49 : ac.tmps[49]? = some (.bool true) := e49.trans (congrArg some t49)
        exact Reg.step_value ((Reg.wanted_is rfl rfl e49).trans rfl) (w1 := w') (by go_simp; try rfl) (Below.refl _ _) rfl
      · intro ac w' hb hd hk   -- 25
        replace hb := Reg.below_undrew hb
        obtain ⟨v49, e49, t49⟩ := hk.2 20 (by kernel_rfl)
        replace e49 : ac.tmps[49]? = some v49 := e49
        replace e49 : ac.tmps[49]? = some (.bool true) := e49.trans (congrArg some t49)
        obtain ⟨v53, e53, t53⟩ := hk.2 24 (by kernel_rfl)
        replace e53 : ac.tmps[53]? = some v53 := e53
        replace e53 : ac.tmps[53]? = some (.bool true) := e53.trans (congrArg some t53)
        exact Reg.step_value (Reg.wanted_free rfl) (w1 := w') (by go_simp; try rfl) (Below.refl _ _) rfl
      · intro ac w' hb hd hk   -- 26
        replace hb := Reg.below_undrew hb
        obtain ⟨v54, e54, t54⟩ := hk.2 25 (by kernel_rfl)
        replace e54 : ac.tmps[54]? = some v54 := e54
        replace e54 : ac.tmps[54]? = some (.bool true) := e54.trans (congrArg some t54)
        exact Reg.step_value (Reg.wanted_free rfl) (w1 := w') (by go_simp; try rfl) (Below.refl _ _) rfl
      · intro ac w' hb hd hk   -- 27
        replace hb := Reg.below_undrew hb
        have e12 : ac.tmps[12]? = some (.int .i64 e) := (hk.1 12 (by kernel_rfl)).trans rfl
        obtain ⟨v55, e55, t55⟩ := hk.2 26 (by kernel_rfl)
        replace e55 : ac.tmps[55]? = some v55 := e55
        replace e55 : ac.tmps[55]? = some (.bool true) := e55.trans (congrArg some t55)
        exact Reg.step_value ((Reg.wanted_is rfl rfl e55).trans rfl) (w1 := w') (by go_simp; try rfl) (Below.refl _ _) rfl
      · intro ac w' hb hd hk   -- 28
        replace hb := Reg.below_undrew hb
        obtain ⟨v56, e56, t56⟩ := hk.2 27 (by kernel_rfl)
        replace e56 : ac.tmps[56]? = some v56 := e56
        replace e56 : ac.tmps[56]? = some (.int .i64 e) := e56.trans (congrArg some t56)
        obtain ⟨v55, e55, t55⟩ := hk.2 26 (by kernel_rfl)
        replace e55 : ac.tmps[55]? = some v55 := e55
        replace e55 : ac.tmps[55]? = some (.bool true) := e55.trans (congrArg some t55)
        have hzb : ((e : Int) == 0) = false := beq_eq_false_iff_ne.2 hz
        exact Reg.step_value ((Reg.wanted_is rfl rfl e55).trans rfl) (w1 := w') (by go_simp; try rfl) (Below.refl _ _) rfl
      · intro ac w' hb hd hk   -- 29
        replace hb := Reg.below_undrew hb
        obtain ⟨v57, e57, t57⟩ := hk.2 28 (by kernel_rfl)
        replace e57 : ac.tmps[57]? = some v57 := e57
        replace e57 : ac.tmps[57]? = some (.bool false) := e57.trans (congrArg some t57)
        obtain ⟨v55, e55, t55⟩ := hk.2 26 (by kernel_rfl)
        replace e55 : ac.tmps[55]? = some v55 := e55
        replace e55 : ac.tmps[55]? = some (.bool true) := e55.trans (congrArg some t55)
        exact Reg.step_value ((Reg.wanted_is rfl rfl e55).trans rfl) (w1 := w') (by go_simp; try rfl) (Below.refl _ _) rfl
      · intro ac w' hb hd hk   -- 30
        replace hb := Reg.below_undrew hb
        have e9 : ac.tmps[9]? = some v := (hk.1 9 (by kernel_rfl)).trans rfl
        obtain ⟨v58, e58, t58⟩ := hk.2 29 (by kernel_rfl)
        replace e58 : ac.tmps[58]? = some v58 := e58
        replace e58 : ac.tmps[58]? = some (.bool false) := e58.trans (congrArg some t58)
        exact Reg.step_value ((Reg.wanted_is rfl rfl e58).trans rfl) (w1 := w') (by go_simp; try rfl) (Below.refl _ _) rfl
      · intro ac w' hb hd hk   -- 31
        replace hb := Reg.below_undrew hb
        obtain ⟨v59, e59, t59⟩ := hk.2 30 (by kernel_rfl)
        replace e59 : ac.tmps[59]? = some v59 := e59
        replace e59 : ac.tmps[59]? = some v := e59.trans (congrArg some t59)
        obtain ⟨v58, e58, t58⟩ := hk.2 29 (by kernel_rfl)
        replace e58 : ac.tmps[58]? = some v58 := e58
        replace e58 : ac.tmps[58]? = some (.bool false) := e58.trans (congrArg some t58)
        refine Reg.step_call ((Reg.wanted_is rfl rfl e58).trans rfl) (by go_simp; try rfl) ((at_law (werr g e) v _ (HE4.out.below hb (Nat.le_refl _))).mono ?_)
        rintro en w4 ⟨rfl, rfl⟩
        exact ⟨_, rfl, by rw [place_werr hz]; rfl, Below.refl _ _⟩
      · intro ac w' hb hd hk   -- 32
        replace hb := Reg.below_undrew hb
        have e13 : ac.tmps[13]? = some (.int .i64 g) := (hk.1 13 (by kernel_rfl)).trans rfl
        obtain ⟨v58, e58, t58⟩ := hk.2 29 (by kernel_rfl)
        replace e58 : ac.tmps[58]? = some v58 := e58
        replace e58 : ac.tmps[58]? = some (.bool false) := e58.trans (congrArg some t58)
        exact Reg.step_value ((Reg.wanted_is rfl rfl e58).trans rfl) (w1 := w') (by go_simp; try rfl) (Below.refl _ _) rfl
      · intro ac w' hb hd hk   -- 33
        replace hb := Reg.below_undrew hb
        obtain ⟨v60, e60, t60⟩ := hk.2 31 (by kernel_rfl)
        replace e60 : ac.tmps[60]? = some v60 := e60
        replace e60 : ac.tmps[60]? = some (.int .i64 g) := e60.trans (congrArg some t60)
        obtain ⟨v61, e61, t61⟩ := hk.2 32 (by kernel_rfl)
        replace e61 : ac.tmps[61]? = some v61 := e61
        replace e61 : ac.tmps[61]? = some (.int .i64 g) := e61.trans (congrArg some t61)
        obtain ⟨v58, e58, t58⟩ := hk.2 29 (by kernel_rfl)
        replace e58 : ac.tmps[58]? = some v58 := e58
        replace e58 : ac.tmps[58]? = some (.bool false) := e58.trans (congrArg some t58)
        exact Reg.step_value ((Reg.wanted_is rfl rfl e58).trans rfl) (w1 := w') (by go_simp; try rfl) (Below.refl _ _) rfl
      · intro ac w' hb hd hk   -- 34
        replace hb := Reg.below_undrew hb
        obtain ⟨v58, e58, t58⟩ := hk.2 29 (by kernel_rfl)
        replace e58 : ac.tmps[58]? = some v58 := e58
        replace e58 : ac.tmps[58]? = some (.bool false) := e58.trans (congrArg some t58)
        obtain ⟨v62, e62, t62⟩ := hk.2 33 (by kernel_rfl)
        replace e62 : ac.tmps[62]? = some v62 := e62
        replace e62 : ac.tmps[62]? = some (.bool true) := e62.trans (congrArg some t62)
        obtain ⟨v55, e55, t55⟩ := hk.2 26 (by kernel_rfl)
        replace e55 : ac.tmps[55]? = some v55 := e55
        replace e55 : ac.tmps[55]? = some (.bool true) := e55.trans (congrArg some t55)
        exact Reg.step_value ((Reg.wanted_is rfl rfl e55).trans rfl) (w1 := w') (by go_simp; try rfl) (Below.refl _ _) rfl
      · intro ac w' hb hd hk   -- 35
        replace hb := Reg.below_undrew hb
        obtain ⟨v55, e55, t55⟩ := hk.2 26 (by kernel_rfl)
        replace e55 : ac.tmps[55]? = some v55 := e55
        replace e55 : ac.tmps[55]? = some (.bool true) := e55.trans (congrArg some t55)
        obtain ⟨v63, e63, t63⟩ := hk.2 34 (by kernel_rfl)
        replace e63 : ac.tmps[63]? = some v63 := e63
        replace e63 : ac.tmps[63]? = some (.bool true) := e63.trans (congrArg some t63)
        exact Reg.step_value (Reg.wanted_free rfl) (w1 := w') (by go_simp; try rfl) (Below.refl _ _) rfl
      · intro ac w' hb hd hk   -- 36
        replace hb := Reg.below_undrew hb
        obtain ⟨v64, e64, t64⟩ := hk.2 35 (by kernel_rfl)
        replace e64 : ac.tmps[64]? = some v64 := e64
        replace e64 : ac.tmps[64]? = some (.bool true) := e64.trans (congrArg some t64)
        exact Reg.step_value (Reg.wanted_free rfl) (w1 := w') (by go_simp; try rfl) (Below.refl _ _) rfl
    case fin =>
      intro w' hb
      replace hb := Reg.below_undrew hb
      rintro _ rfl
      rintro _ rfl
      rintro _ rfl
      intro v3 h3
      rintro _ rfl
      rintro _ rfl
      intro v6 h6
      rintro _ rfl
      rintro _ rfl
      rintro _ rfl
      rintro _ rfl
      rintro _ rfl
      rintro _ rfl
      rintro _ rfl
      rintro _ rfl
      rintro _ rfl
      rintro _ rfl
      rintro _ rfl
      rintro _ rfl
      rintro _ rfl
      rintro _ rfl
      rintro _ rfl
      rintro _ rfl
      rintro _ rfl
      rintro _ rfl
      rintro _ rfl
      rintro _ rfl
      rintro _ rfl
      rintro _ rfl
      rintro _ rfl
      rintro _ rfl
      rintro _ rfl
      rintro _ rfl
      rintro _ rfl
      rintro _ rfl
      rintro _ rfl
      rintro _ rfl
      refine Reg.done_nil ?_
      simp only [Act.put, List.setIfInBounds_toArray, List.set_cons_zero, List.set_cons_succ]
      go_wp2
      go_ret
      exact ⟨rfl, HB4.out.trans (hb.mono HB4.out.size)⟩
theorem tributarylaw1_WireIDs.calls (a0_0 a0_1 a0_2 : Int) (A1 : Option Addr) (c1 : Nat) (l1 : List Int) (a2 : Int) (r : Bool) (w : World) (hr1 : Kd.C (Kd.int .u8) w A1 l1.length l1) (hc1 : l1.length ≤ c1) (hL : Laid w) (h : tributarylaw1_WireIDs.f a0_0 a0_1 a0_2 l1 a2 = some r) :
    Calls Tryd.prog 5 #[.agg #[.int .i64 a0_0, .int .i64 a0_1, .int .i64 a0_2], .slice A1 l1.length c1, .int .i64 a2] w fun e w' => e = .returned (.bool r) ∧ Below w.heap.size w w' := by
  unfold tributarylaw1_WireIDs.f at h
  by_cases hk : okBytes l1 = true ∧ okI a0_0 ∧ okI a0_1 ∧ okI a0_2
  · rw [if_pos hk] at h
    obtain rfl := Option.some.inj h
    exact wireIDs_law _ _ _ A1 c1 l1 a2 w hr1 hc1 hL hk.1 hk.2.1 hk.2.2.1 hk.2.2.2
  · rw [if_neg hk] at h; cases h
end Go.Proofs.YtjcllneibeemgaaDoor.PFn
