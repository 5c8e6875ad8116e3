/- Proved: the law RowsTell, walked by hand; no condition but that numbers fit. -/
import Derived.Test.YtcphmcghiidicaaRwTellI
namespace Go.Proofs.Ytcphmcghiidicaa.PRw
open Go.RowKit Go.Proofs.YtcphmcghiidicaaW.PrintWords Go.Proofs.YtcphmcghiidicaaW.PrintLast Go.Proofs.YtcphmcghiidicaaW.PrintMore
open Go.Proofs.Ytcphmcghiidicaa.Pure (splitOf inPart befS)
set_option linter.unusedVariables false
set_option linter.unusedSimpArgs false
set_option maxHeartbeats 16000000 in
set_option maxRecDepth 100000 in
theorem tell_law (A0 : Option Addr) (c0 : Nat) (l0 : List S35) (A1 : Option Addr) (c1 : Nat) (l1 : List S35) (a2 x0 x1 x2 y0 y1 y2 : Int) (w : World) (hr0 : Kd.C k35 w A0 l0.length l0) (hc0 : l0.length ≤ c0) (hr1 : Kd.C k35 w A1 l1.length l1) (hc1 : l1.length ≤ c1) (hl0 : l0.length ≤ 9223372036854775807) (hl1 : l1.length ≤ 9223372036854775807) :
    Calls Try.prog 4 #[.slice A0 l0.length c0, .slice A1 l1.length c1, .int .i64 a2, .agg #[.int .i64 x0, .int .i64 x1, .int .i64 x2], .agg #[.int .i64 y0, .int .i64 y1, .int .i64 y2]] w fun e w' => e = .returned (.bool true) ∧ Below w.heap.size w w' := by
  obtain ⟨X, hX⟩ : ∃ X, l0.take 200 = X := ⟨_, rfl⟩
  obtain ⟨Y, hY⟩ : ∃ Y, l1.take 200 = Y := ⟨_, rfl⟩
  have lX : X.length ≤ 200 := by rw [← hX, List.length_take]; omega
  have lY : Y.length ≤ 200 := by rw [← hY, List.length_take]; omega
  obtain ⟨of, ho8, eo⟩ := and7 a2
  have LXY := Aside0.mk (And.intro lX lY)
  obtain ⟨w0, hw0⟩ : ∃ w0, (w.alloc (.cells #[.int .i64 x0, .int .i64 x1, .int .i64 x2] 31)).alloc (.cells #[.int .i64 y0, .int .i64 y1, .int .i64 y2] 31) = w0 := ⟨_, rfl⟩
  have hb0 : Below w.heap.size w w0 := by rw [← hw0]; exact below_alloc (below_alloc (Below.refl _ _) _) _
  have hz0 : w0.heap.size = w.heap.size + 2 := by rw [← hw0]; simp
  have hx8 : w0.heap[w.heap.size]? = some (.cells #[.int .i64 x0, .int .i64 x1, .int .i64 x2] 31 (0, 0)) := by
    rw [← hw0]
    exact ((below_alloc (Below.refl _ (w.alloc (.cells #[.int .i64 x0, .int .i64 x1, .int .i64 x2] 31))) _).block w.heap.size (by simp)).trans (heap_alloc_new w _)
  have hx9 : w0.heap[w.heap.size + 1]? = some (.cells #[.int .i64 y0, .int .i64 y1, .int .i64 y2] 31 (0, 0)) := by
    rw [← hw0]
    have := heap_alloc_new (w.alloc (.cells #[.int .i64 x0, .int .i64 x1, .int .i64 x2] 31)) (Obj.cells #[.int .i64 y0, .int .i64 y1, .int .i64 y2] 31)
    rwa [World.size_alloc] at this
  have HB0 := Aside0.mk hb0
  have H8 := Aside0.mk hx8
  have H9 := Aside0.mk hx9
  have HZ0 := Aside0.mk hz0
  have HR0 := Aside0.mk hr0
  have HR1 := Aside0.mk hr1
  have F1 := Aside0.mk (few2_calls A0 c0 l0 X 200 w0 (Kd.C_below hr0 hb0) hc0 (by omega) hX)
  have HX := Aside0.mk hX
  have HY := Aside0.mk hY
  have EO := Aside0.mk eo
  clear hb0 hx8 hx9 hz0 hr0 hr1 hX hY eo lX lY
  go_enter Try.func4, Try.ntmps4
  go_wp2_with fail
  clear hw0
  refine F1.out.mono ?_
  rintro e w1 ⟨A11, c11, rfl, hI, hb1⟩
  have HI1 := Aside0.mk hI
  have HB1 := Aside0.mk (HB0.out.trans (hb1.mono HB0.out.size))
  have H81 := Aside0.mk ((hb1.block _ (by have := HZ0.out; omega)).trans H8.out)
  have H91 := Aside0.mk ((hb1.block _ (by have := HZ0.out; omega)).trans H9.out)
  have hz1 : w.heap.size + 2 ≤ w1.heap.size := by have := hb1.size; have := HZ0.out; omega
  have F2 := Aside0.mk (few2_calls A1 c1 l1 Y 200 w1 (Kd.C_below HR1.out HB1.out) hc1 (by omega) HY.out)
  clear hI hb1 H8 H9 HB0
  go_wp2_with fail
  refine F2.out.mono ?_
  rintro e w2 ⟨A12, c12, rfl, hO, hb2⟩
  have HB2 := Aside0.mk (HB1.out.trans (hb2.mono HB1.out.size))
  have HI2 := Aside0.mk (Kd.R_below HI1.out hb2)
  have HO2 := Aside0.mk (Kd.R_lower hO (Nat.le_trans (by omega : w.heap.size ≤ w.heap.size + 2) hz1))
  have H82 := Aside0.mk ((hb2.block _ (by omega)).trans H81.out)
  have H92 := Aside0.mk ((hb2.block _ (by omega)).trans H91.out)
  have hz2 : w.heap.size + 2 ≤ w2.heap.size := by have := hb2.size; omega
  clear hO hb2 H81 H91 HB1 HI1 F1 F2
  obtain ⟨Z2, hZ2⟩ : ∃ Z2, w2.heap.size = Z2 := ⟨_, rfl⟩
  have HI : Aside0 (Kd.R k35 35 w2 0 (fun k => k < Z2) (.slice A11 (X.length + 2) c11) (X ++ MK)) := ⟨Kd.R_lower (Kd.R_mono (Kd.R_bound HI2.out) (fun k hk => by rw [← hZ2]; exact hk.2.2.1)) (Nat.zero_le _)⟩
  have HO : Aside0 (Kd.R k35 35 w2 0 (fun k => k < Z2) (.slice A12 (Y.length + 2) c12) (Y ++ MK)) := ⟨Kd.R_lower (Kd.R_mono (Kd.R_bound HO2.out) (fun k hk => by rw [← hZ2]; exact hk.2.2.1)) (Nat.zero_le _)⟩
  have HZ2 := Aside0.mk hZ2
  clear hZ2 HI2 HO2
  have RX : Aside0 (∀ W, Kd.R k35 35 W 0 (fun k => k < Z2) (.slice A11 (X.length + 2) c11) (X ++ MK) → Kd.C k35 W A11 X.length X ∧ X.length ≤ c11) := ⟨fun W h => by
    obtain ⟨hn, hnc, hC⟩ := Kd.R_reads' h
    have := Kd.C_take (m := X.length) hC (by rw [← hn]; omega)
    rw [List.take_left] at this
    exact ⟨this, by omega⟩⟩
  have RY : Aside0 (∀ W, Kd.R k35 35 W 0 (fun k => k < Z2) (.slice A12 (Y.length + 2) c12) (Y ++ MK) → Kd.C k35 W A12 Y.length Y ∧ Y.length ≤ c12) := ⟨fun W h => by
    obtain ⟨hn, hnc, hC⟩ := Kd.R_reads' h
    have := Kd.C_take (m := Y.length) hC (by rw [← hn]; omega)
    rw [List.take_left] at this
    exact ⟨this, by omega⟩⟩
  obtain ⟨T, hT⟩ : ∃ T, X.take 64 = T := ⟨_, rfl⟩
  have C1 := Aside0.mk (show rows_Cut.f X = some T by rw [Pure.cut_f X (by have := LXY.out; omega), hT])
  have HT := Aside0.mk hT
  obtain ⟨K1, s1⟩ := Pure.split_any X of ho8 (by have := LXY.out; omega)
  obtain ⟨K2, s2⟩ := Pure.ref_split_ev X of ho8 (by have := LXY.out; omega)
  have hlP := Pure.splitOf_length X (of : Int)
  rw [Int.toNat_natCast] at hlP
  have SE := Aside0.mk (Pure.splitOf_each X (of : Int))
  obtain ⟨P, hP⟩ : ∃ P, splitOf X (of : Int) = P := ⟨_, rfl⟩
  have S1 := Aside0.mk (s1 K1 (Nat.le_refl _))
  have S2 := Aside0.mk (s2 K2 (Nat.le_refl _))
  rw [hP] at S1 S2 SE hlP
  clear s1 s2 hP hT
  go_wp2_with fail
  rw [EO.out]
  refine (rows_Cut.calls A11 c11 X T w2 (RX.out _ HI.out).1 (RX.out _ HI.out).2 C1.out).mono ?_
  rintro e w3 ⟨v13, rfl, hC, hb3⟩
  have HB3 := Aside0.mk (HB2.out.trans (hb3.mono HB2.out.size))
  have HI3 := Aside0.mk (Kd.R_below HI.out hb3)
  have HO3 := Aside0.mk (Kd.R_below HO.out hb3)
  have H83 := Aside0.mk ((hb3.block _ (by omega)).trans H82.out)
  have H93 := Aside0.mk ((hb3.block _ (by omega)).trans H92.out)
  have hz3 : w.heap.size + 2 ≤ w3.heap.size := by have := hb3.size; omega
  obtain ⟨Z3, hZ3⟩ : ∃ Z3, w3.heap.size = Z3 := ⟨_, rfl⟩
  have hZ23 : Z2 ≤ Z3 := by rw [← hZ3, ← HZ2.out]; exact hb3.size
  have HC : Aside0 (Kd.R k35 35 w3 Z2 (fun k => k < Z3) v13 T) := ⟨by have := hC; rw [HZ2.out] at this; exact Kd.R_mono (Kd.R_bound this) (fun k hk => by rw [← hZ3]; exact hk.2.2.1)⟩
  have HZ3 := Aside0.mk hZ3
  have hzw : w.heap.size + 2 ≤ Z2 := by rw [← HZ2.out]; exact hz2
  clear hC hb3 hZ3 HI HO H82 H92 HB2 C1
  go_wp2_with fail
  refine (rows_Split.calls K1 A11 c11 X (of : Int) P w3 (RX.out _ HI3.out).1 (RX.out _ HI3.out).2 S1.out).mono ?_
  rintro e w4 ⟨v14, rfl, hS, hb4⟩
  have HB4 := Aside0.mk (HB3.out.trans (hb4.mono HB3.out.size))
  have HI4 := Aside0.mk (Kd.R_below HI3.out hb4)
  have HO4 := Aside0.mk (Kd.R_below HO3.out hb4)
  have HC4 := Aside0.mk (Kd.R_below HC.out hb4)
  have H84 := Aside0.mk ((hb4.block _ (by omega)).trans H83.out)
  have H94 := Aside0.mk ((hb4.block _ (by omega)).trans H93.out)
  have hz4 : w.heap.size + 2 ≤ w4.heap.size := by have := hb4.size; omega
  obtain ⟨Z4, hZ4⟩ : ∃ Z4, w4.heap.size = Z4 := ⟨_, rfl⟩
  have hZ34 : Z3 ≤ Z4 := by rw [← hZ4, ← HZ3.out]; exact hb4.size
  have HS : Aside0 (Kd.S KS 22 w4 Z3 (fun k => k < Z4) v14 P) := ⟨by have := hS; rw [HZ3.out] at this; exact Kd.S_mono (Kd.S_bound this) (fun k hk => by rw [← hZ4]; exact hk.2.2.1)⟩
  have HZ4 := Aside0.mk hZ4
  clear hS hb4 hZ4 HI3 HO3 HC H83 H93 HB3 S1
  go_wp2_with fail
  refine (tributaryref2_Split.calls K2 A11 c11 X (of : Int) P w4 (RX.out _ HI4.out).1 (RX.out _ HI4.out).2 S2.out).mono ?_
  rintro e w5 ⟨v15, rfl, hS, hb5⟩
  have HB5 := Aside0.mk (HB4.out.trans (hb5.mono HB4.out.size))
  have HI5 := Aside0.mk (Kd.R_below HI4.out hb5)
  have HO5 := Aside0.mk (Kd.R_below HO4.out hb5)
  have HC5 := Aside0.mk (Kd.R_below HC4.out hb5)
  have HS5 := Aside0.mk (Kd.S_below HS.out hb5)
  have H85 := Aside0.mk ((hb5.block _ (by omega)).trans H84.out)
  have H95 := Aside0.mk ((hb5.block _ (by omega)).trans H94.out)
  have hz5 : w.heap.size + 2 ≤ w5.heap.size := by have := hb5.size; omega
  obtain ⟨Z5, hZ5⟩ : ∃ Z5, w5.heap.size = Z5 := ⟨_, rfl⟩
  have hZ45 : Z4 ≤ Z5 := by rw [← hZ5, ← HZ4.out]; exact hb5.size
  have HW : Aside0 (Kd.S KS 22 w5 Z4 (fun k => Z4 ≤ k ∧ k < Z5) v15 P) := ⟨by have := hS; rw [HZ4.out] at this; exact Kd.S_mono (Kd.S_bound this) (fun k hk => by rw [← hZ5]; exact ⟨hk.2.1, hk.2.2.1⟩)⟩
  have HZ5 := Aside0.mk hZ5
  clear hS hb5 hZ5 HI4 HO4 HC4 HS H84 H94 HB4 S2
  obtain ⟨A13, c13, e13⟩ := Kd.R_slice HC5.out
  obtain ⟨A14, c14, e14⟩ := Kd.S_slice HS5.out
  obtain ⟨A15, c15, e15⟩ := Kd.S_slice HW.out
  subst e13 e14 e15
  rw [hlP] at HS5 HW
  rw [hlP]
  go_wp2_with fail
  have TI5 : Aside0 (TI w w5 Z2 Z3 Z4 Z5 A11 A12 A13 A14 A15 c11 c12 c13 c14 c15 T.length of X Y T P P) := ⟨⟨HI5.out, HO5.out, HC5.out, Kd.S_mono HS5.out (fun _ h => .inl h), HW.out, HB5.out, by have := HZ5.out; omega, by omega⟩⟩
  have lX := LXY.out.1
  have lY := LXY.out.2
  obtain ⟨K4, s4⟩ := Pure.same_ev T T (by rw [← HT.out, List.length_take]; omega)
  have h4 := s4 K4 (Nat.le_refl _)
  rw [decide_eq_true rfl] at h4
  have Q4 := Aside0.mk h4
  obtain ⟨B, hB⟩ : ∃ B, decide (X = Y) = B := ⟨_, rfl⟩
  obtain ⟨K6, s6⟩ := Pure.same_ev X Y (by omega)
  obtain ⟨K7, s7⟩ := Pure.equal_ev X Y (by omega)
  have h6 := s6 K6 (Nat.le_refl _)
  have h7 := s7 K7 (Nat.le_refl _)
  rw [hB] at h6 h7
  have Q6 := Aside0.mk h6
  have Q7 := Aside0.mk h7
  obtain ⟨BF, hBF⟩ : ∃ BF, befS x0 x1 x2 y0 y1 y2 = BF := ⟨_, rfl⟩
  have Q8 := Aside0.mk (show rows_Before.f x0 x1 x2 y0 y1 y2 = some BF by rw [Pure.before_f, hBF])
  have Q9 := Aside0.mk (show tributaryref2_Before.f x0 x1 x2 y0 y1 y2 = some BF by rw [Pure.ref_before_f, hBF])
  obtain ⟨SZ, hSZ⟩ : ∃ SZ, wrap64 (8 + wrap64 (16 * (X.length : Int))) = SZ := ⟨_, rfl⟩
  have Q10 := Aside0.mk (show rows_Size.f X = some SZ by unfold rows_Size.f; rw [hSZ])
  have Q11 := Aside0.mk (show tributaryref2_Size.f X = some SZ by unfold tributaryref2_Size.f; rw [hSZ])
  clear s4 s6 s7 h4 h6 h7 hB hBF hSZ HI5 HO5 HC5 HS5 HW HB5
  refine Reg.region_inv (Reg.tab [(Reg.Is (.bool true)), (Reg.Is (.bool false)), (Reg.Is (.bool false)), (Reg.Is (.slice A13 T.length c13)), (Reg.Is (.slice A11 X.length c11)), (Reg.Is (.slice A11 T.length c11)), (Reg.Is (.bool true)), (Reg.Is (.bool false)), (Reg.Is (.bool false)), (Reg.Is (.bool false)), (Reg.Is (.slice A14 of c14)), (Reg.Is (.int .i64 (of : Int))), (Reg.Is (.slice A15 of c15)), (Reg.Is (.int .i64 (of : Int))), (Reg.Is (.bool false)), (Reg.Is (.bool false)), (Reg.Is (.bool false)), (Reg.Is (.slice A11 X.length c11)), (Reg.Is (.int .i64 SZ)), (Reg.Is (.slice A11 X.length c11)), (Reg.Is (.int .i64 SZ)), (Reg.Is (.bool false)), (Reg.Is (.bool false)), (Reg.Is (.bool false)), (Reg.Is (.slice A11 X.length c11)), (Reg.Is (.slice A12 Y.length c12)), (Reg.Is (.bool B)), (Reg.Is (.slice A11 X.length c11)), (Reg.Is (.slice A12 Y.length c12)), (Reg.Is (.bool B)), (Reg.Is (.bool false)), (Reg.Is (.bool false)), (Reg.Is (.bool false)), (Reg.Is (.agg #[.int .i64 x0, .int .i64 x1, .int .i64 x2])), (Reg.Is (.agg #[.int .i64 y0, .int .i64 y1, .int .i64 y2])), (Reg.Is (.bool BF)), (Reg.Is (.agg #[.int .i64 x0, .int .i64 x1, .int .i64 x2])), (Reg.Is (.agg #[.int .i64 y0, .int .i64 y1, .int .i64 y2])), (Reg.Is (.bool BF)), (Reg.Is (.bool false)), (Reg.Is (.bool false))]) (by kernel_rfl) (by kernel_rfl) (Reg.tab_mono ?mono) ?steps ?fin
  case mono => exact ⟨Reg.Is.mono _, Reg.Is.mono _, Reg.Is.mono _, Reg.Is.mono _, Reg.Is.mono _, Reg.Is.mono _, Reg.Is.mono _, Reg.Is.mono _, Reg.Is.mono _, Reg.Is.mono _, Reg.Is.mono _, Reg.Is.mono _, Reg.Is.mono _, Reg.Is.mono _, Reg.Is.mono _, Reg.Is.mono _, Reg.Is.mono _, Reg.Is.mono _, Reg.Is.mono _, Reg.Is.mono _, Reg.Is.mono _, Reg.Is.mono _, Reg.Is.mono _, Reg.Is.mono _, Reg.Is.mono _, Reg.Is.mono _, Reg.Is.mono _, Reg.Is.mono _, Reg.Is.mono _, Reg.Is.mono _, Reg.Is.mono _, Reg.Is.mono _, Reg.Is.mono _, Reg.Is.mono _, Reg.Is.mono _, Reg.Is.mono _, Reg.Is.mono _, Reg.Is.mono _, Reg.Is.mono _, Reg.Is.mono _, Reg.Is.mono _, trivial⟩
  case steps =>
    refine ⟨?_, ?_, ?_, ?_, ?_, ?_, ?_, ?_, ?_, ?_, ?_, ?_, ?_, ?_, ?_, ?_, ?_, ?_, ?_, ?_, ?_, ?_, ?_, ?_, ?_, ?_, ?_, ?_, ?_, ?_, ?_, ?_, ?_, ?_, ?_, ?_, ?_, ?_, ?_, ?_, ?_, trivial⟩
    · intro ac w' hb hd hk   -- 0
      replace hb := Reg.below_undrew hb
      refine Reg.step_call (Reg.wanted_free rfl) (by go_simp; try rfl) ((tributarylaw2_told.calls 2 true _ Pure.told_f).mono ?_)
      rintro en w6 ⟨rfl, hb6⟩
      exact ⟨_, rfl, rfl, hb6⟩
    · intro ac w' hb hd hk   -- 1
      replace hb := Reg.below_undrew hb
      obtain ⟨v34, e34, t34⟩ := hk.2 0 (by kernel_rfl)
      replace e34 : ac.tmps[34]? = some v34 := e34
      replace e34 : ac.tmps[34]? = some (.bool true) := e34.trans (congrArg some t34)
      exact Reg.step_value (Reg.wanted_free rfl) (w1 := w') (by go_simp; try rfl) (Below.refl _ _) rfl
    · intro ac w' hb hd hk   -- 2
      replace hb := Reg.below_undrew hb
      obtain ⟨v35, e35, t35⟩ := hk.2 1 (by kernel_rfl)
      replace e35 : ac.tmps[35]? = some v35 := e35
      replace e35 : ac.tmps[35]? = some (.bool false) := e35.trans (congrArg some t35)
      exact Reg.step_value (Reg.wanted_free rfl) (w1 := w') (by go_simp; try rfl) (Below.refl _ _) rfl
    · intro ac w' hb hd hk   -- 3
      replace hb := Reg.below_undrew hb
      have e13 : ac.tmps[13]? = some (.slice A13 T.length c13) := (hk.1 13 (by kernel_rfl)).trans rfl
      obtain ⟨v36, e36, t36⟩ := hk.2 2 (by kernel_rfl)
      replace e36 : ac.tmps[36]? = some v36 := e36
      replace e36 : ac.tmps[36]? = some (.bool false) := e36.trans (congrArg some t36)
      exact Reg.step_value ((Reg.wanted_is rfl rfl e36).trans rfl) (w1 := w') (by go_simp; try rfl) (Below.refl _ _) rfl
    · intro ac w' hb hd hk   -- 4
      replace hb := Reg.below_undrew hb
      have e11 : ac.tmps[11]? = some (.slice A11 X.length c11) := (hk.1 11 (by kernel_rfl)).trans rfl
      obtain ⟨v36, e36, t36⟩ := hk.2 2 (by kernel_rfl)
      replace e36 : ac.tmps[36]? = some v36 := e36
      replace e36 : ac.tmps[36]? = some (.bool false) := e36.trans (congrArg some t36)
      exact Reg.step_value ((Reg.wanted_is rfl rfl e36).trans rfl) (w1 := w') (by go_simp; try rfl) (Below.refl _ _) rfl
    · intro ac w' hb hd hk   -- 5
      replace hb := Reg.below_undrew hb
      obtain ⟨v38, e38, t38⟩ := hk.2 4 (by kernel_rfl)
      replace e38 : ac.tmps[38]? = some v38 := e38
      replace e38 : ac.tmps[38]? = some (.slice A11 X.length c11) := e38.trans (congrArg some t38)
      obtain ⟨v36, e36, t36⟩ := hk.2 2 (by kernel_rfl)
      replace e36 : ac.tmps[36]? = some v36 := e36
      replace e36 : ac.tmps[36]? = some (.bool false) := e36.trans (congrArg some t36)
      have h1_ := RX.out _ (Kd.R_below TI5.out.hi hb)
      refine Reg.step_call ((Reg.wanted_is rfl rfl e36).trans rfl) (by go_simp; try rfl) ((refCut_calls A11 c11 X T _ h1_.2 (by omega) HT.out).mono ?_)
      rintro en w6 ⟨rfl, rfl⟩
      exact ⟨_, rfl, rfl, Below.refl _ _⟩
    · intro ac w' hb hd hk   -- 6
      replace hb := Reg.below_undrew hb
      obtain ⟨v37, e37, t37⟩ := hk.2 3 (by kernel_rfl)
      replace e37 : ac.tmps[37]? = some v37 := e37
      replace e37 : ac.tmps[37]? = some (.slice A13 T.length c13) := e37.trans (congrArg some t37)
      obtain ⟨v39, e39, t39⟩ := hk.2 5 (by kernel_rfl)
      replace e39 : ac.tmps[39]? = some v39 := e39
      replace e39 : ac.tmps[39]? = some (.slice A11 T.length c11) := e39.trans (congrArg some t39)
      obtain ⟨v36, e36, t36⟩ := hk.2 2 (by kernel_rfl)
      replace e36 : ac.tmps[36]? = some v36 := e36
      replace e36 : ac.tmps[36]? = some (.bool false) := e36.trans (congrArg some t36)
      have h1_ := RX.out _ (Kd.R_below TI5.out.hi hb)
      have h3_ : Kd.C k35 w' A11 (X.take 64).length (X.take 64) := by
        by_cases h64 : 64 ≤ X.length
        · exact Kd.C_take h1_.1 h64
        · rw [List.take_of_length_le (by omega)]; exact h1_.1
      rw [HT.out] at h3_
      have htl : T.length ≤ X.length := by rw [← HT.out, List.length_take]; omega
      have h4_ := Kd.R_reads' (Kd.R_below TI5.out.hc hb)
      have h5_ := h1_.2
      refine Reg.step_call ((Reg.wanted_is rfl rfl e36).trans rfl) (by go_simp; try rfl) ((tributaryref2_Same.calls K4 _ _ T _ _ T true _ h4_.2.2 h4_.2.1 h3_ (by omega) Q4.out).mono ?_)
      rintro en w6 ⟨rfl, ⟨nd, rfl⟩⟩
      exact ⟨_, rfl, rfl, by apply pw_below_drewN; exact Below.refl _ _⟩
    · intro ac w' hb hd hk   -- 7
      replace hb := Reg.below_undrew hb
      obtain ⟨v40, e40, t40⟩ := hk.2 6 (by kernel_rfl)
      replace e40 : ac.tmps[40]? = some v40 := e40
      replace e40 : ac.tmps[40]? = some (.bool true) := e40.trans (congrArg some t40)
      obtain ⟨v36, e36, t36⟩ := hk.2 2 (by kernel_rfl)
      replace e36 : ac.tmps[36]? = some v36 := e36
      replace e36 : ac.tmps[36]? = some (.bool false) := e36.trans (congrArg some t36)
      exact Reg.step_value ((Reg.wanted_is rfl rfl e36).trans rfl) (w1 := w') (by go_simp; try rfl) (Below.refl _ _) rfl
    · intro ac w' hb hd hk   -- 8
      replace hb := Reg.below_undrew hb
      obtain ⟨v36, e36, t36⟩ := hk.2 2 (by kernel_rfl)
      replace e36 : ac.tmps[36]? = some v36 := e36
      replace e36 : ac.tmps[36]? = some (.bool false) := e36.trans (congrArg some t36)
      obtain ⟨v41, e41, t41⟩ := hk.2 7 (by kernel_rfl)
      replace e41 : ac.tmps[41]? = some v41 := e41
      replace e41 : ac.tmps[41]? = some (.bool false) := e41.trans (congrArg some t41)
      exact Reg.step_value (Reg.wanted_free rfl) (w1 := w') (by go_simp; try rfl) (Below.refl _ _) rfl
    · intro ac w' hb hd hk   -- 9
      replace hb := Reg.below_undrew hb
      obtain ⟨v42, e42, t42⟩ := hk.2 8 (by kernel_rfl)
      replace e42 : ac.tmps[42]? = some v42 := e42
      replace e42 : ac.tmps[42]? = some (.bool false) := e42.trans (congrArg some t42)
      exact Reg.step_value (Reg.wanted_free rfl) (w1 := w') (by go_simp; try rfl) (Below.refl _ _) rfl
    · intro ac w' hb hd hk   -- 10
      replace hb := Reg.below_undrew hb
      have e14 : ac.tmps[14]? = some (.slice A14 of c14) := (hk.1 14 (by kernel_rfl)).trans rfl
      obtain ⟨v43, e43, t43⟩ := hk.2 9 (by kernel_rfl)
      replace e43 : ac.tmps[43]? = some v43 := e43
      replace e43 : ac.tmps[43]? = some (.bool false) := e43.trans (congrArg some t43)
      exact Reg.step_value ((Reg.wanted_is rfl rfl e43).trans rfl) (w1 := w') (by go_simp; try rfl) (Below.refl _ _) rfl
    · intro ac w' hb hd hk   -- 11
      replace hb := Reg.below_undrew hb
      obtain ⟨v44, e44, t44⟩ := hk.2 10 (by kernel_rfl)
      replace e44 : ac.tmps[44]? = some v44 := e44
      replace e44 : ac.tmps[44]? = some (.slice A14 of c14) := e44.trans (congrArg some t44)
      obtain ⟨v43, e43, t43⟩ := hk.2 9 (by kernel_rfl)
      replace e43 : ac.tmps[43]? = some v43 := e43
      replace e43 : ac.tmps[43]? = some (.bool false) := e43.trans (congrArg some t43)
      exact Reg.step_value ((Reg.wanted_is rfl rfl e43).trans rfl) (w1 := w') (by go_simp; try rfl) (Below.refl _ _) rfl
    · intro ac w' hb hd hk   -- 12
      replace hb := Reg.below_undrew hb
      have e15 : ac.tmps[15]? = some (.slice A15 of c15) := (hk.1 15 (by kernel_rfl)).trans rfl
      obtain ⟨v43, e43, t43⟩ := hk.2 9 (by kernel_rfl)
      replace e43 : ac.tmps[43]? = some v43 := e43
      replace e43 : ac.tmps[43]? = some (.bool false) := e43.trans (congrArg some t43)
      exact Reg.step_value ((Reg.wanted_is rfl rfl e43).trans rfl) (w1 := w') (by go_simp; try rfl) (Below.refl _ _) rfl
    · intro ac w' hb hd hk   -- 13
      replace hb := Reg.below_undrew hb
      obtain ⟨v46, e46, t46⟩ := hk.2 12 (by kernel_rfl)
      replace e46 : ac.tmps[46]? = some v46 := e46
      replace e46 : ac.tmps[46]? = some (.slice A15 of c15) := e46.trans (congrArg some t46)
      obtain ⟨v43, e43, t43⟩ := hk.2 9 (by kernel_rfl)
      replace e43 : ac.tmps[43]? = some v43 := e43
      replace e43 : ac.tmps[43]? = some (.bool false) := e43.trans (congrArg some t43)
      exact Reg.step_value ((Reg.wanted_is rfl rfl e43).trans rfl) (w1 := w') (by go_simp; try rfl) (Below.refl _ _) rfl
    · intro ac w' hb hd hk   -- 14
      replace hb := Reg.below_undrew hb
      obtain ⟨v45, e45, t45⟩ := hk.2 11 (by kernel_rfl)
      replace e45 : ac.tmps[45]? = some v45 := e45
      replace e45 : ac.tmps[45]? = some (.int .i64 (of : Int)) := e45.trans (congrArg some t45)
      obtain ⟨v47, e47, t47⟩ := hk.2 13 (by kernel_rfl)
      replace e47 : ac.tmps[47]? = some v47 := e47
      replace e47 : ac.tmps[47]? = some (.int .i64 (of : Int)) := e47.trans (congrArg some t47)
      obtain ⟨v43, e43, t43⟩ := hk.2 9 (by kernel_rfl)
      replace e43 : ac.tmps[43]? = some v43 := e43
      replace e43 : ac.tmps[43]? = some (.bool false) := e43.trans (congrArg some t43)
      exact Reg.step_value ((Reg.wanted_is rfl rfl e43).trans rfl) (w1 := w') (by go_simp; try rfl) (Below.refl _ _) rfl
    · intro ac w' hb hd hk   -- 15
      replace hb := Reg.below_undrew hb
      obtain ⟨v43, e43, t43⟩ := hk.2 9 (by kernel_rfl)
      replace e43 : ac.tmps[43]? = some v43 := e43
      replace e43 : ac.tmps[43]? = some (.bool false) := e43.trans (congrArg some t43)
      obtain ⟨v48, e48, t48⟩ := hk.2 14 (by kernel_rfl)
      replace e48 : ac.tmps[48]? = some v48 := e48
      replace e48 : ac.tmps[48]? = some (.bool false) := e48.trans (congrArg some t48)
      exact Reg.step_value (Reg.wanted_free rfl) (w1 := w') (by go_simp; try rfl) (Below.refl _ _) rfl
    · intro ac w' hb hd hk   -- 16
      replace hb := Reg.below_undrew hb
      obtain ⟨v49, e49, t49⟩ := hk.2 15 (by kernel_rfl)
      replace e49 : ac.tmps[49]? = some v49 := e49
      replace e49 : ac.tmps[49]? = some (.bool false) := e49.trans (congrArg some t49)
      exact Reg.step_value (Reg.wanted_free rfl) (w1 := w') (by go_simp; try rfl) (Below.refl _ _) rfl
    · intro ac w' hb hd hk   -- 17
      replace hb := Reg.below_undrew hb
      have e11 : ac.tmps[11]? = some (.slice A11 X.length c11) := (hk.1 11 (by kernel_rfl)).trans rfl
      obtain ⟨v50, e50, t50⟩ := hk.2 16 (by kernel_rfl)
      replace e50 : ac.tmps[50]? = some v50 := e50
      replace e50 : ac.tmps[50]? = some (.bool false) := e50.trans (congrArg some t50)
      exact Reg.step_value ((Reg.wanted_is rfl rfl e50).trans rfl) (w1 := w') (by go_simp; try rfl) (Below.refl _ _) rfl
    · intro ac w' hb hd hk   -- 18
      replace hb := Reg.below_undrew hb
      obtain ⟨v51, e51, t51⟩ := hk.2 17 (by kernel_rfl)
      replace e51 : ac.tmps[51]? = some v51 := e51
      replace e51 : ac.tmps[51]? = some (.slice A11 X.length c11) := e51.trans (congrArg some t51)
      obtain ⟨v50, e50, t50⟩ := hk.2 16 (by kernel_rfl)
      replace e50 : ac.tmps[50]? = some v50 := e50
      replace e50 : ac.tmps[50]? = some (.bool false) := e50.trans (congrArg some t50)
      have h1_ := RX.out _ (Kd.R_below TI5.out.hi hb)
      refine Reg.step_call ((Reg.wanted_is rfl rfl e50).trans rfl) (by go_simp; try rfl) ((rows_Size.calls A11 c11 X SZ _ h1_.1 h1_.2 Q10.out).mono ?_)
      rintro en w6 ⟨rfl, ⟨nd, rfl⟩⟩
      exact ⟨_, rfl, rfl, by apply pw_below_drewN; exact Below.refl _ _⟩
    · intro ac w' hb hd hk   -- 19
      replace hb := Reg.below_undrew hb
      have e11 : ac.tmps[11]? = some (.slice A11 X.length c11) := (hk.1 11 (by kernel_rfl)).trans rfl
      obtain ⟨v50, e50, t50⟩ := hk.2 16 (by kernel_rfl)
      replace e50 : ac.tmps[50]? = some v50 := e50
      replace e50 : ac.tmps[50]? = some (.bool false) := e50.trans (congrArg some t50)
      exact Reg.step_value ((Reg.wanted_is rfl rfl e50).trans rfl) (w1 := w') (by go_simp; try rfl) (Below.refl _ _) rfl
    · intro ac w' hb hd hk   -- 20
      replace hb := Reg.below_undrew hb
      obtain ⟨v53, e53, t53⟩ := hk.2 19 (by kernel_rfl)
      replace e53 : ac.tmps[53]? = some v53 := e53
      replace e53 : ac.tmps[53]? = some (.slice A11 X.length c11) := e53.trans (congrArg some t53)
      obtain ⟨v50, e50, t50⟩ := hk.2 16 (by kernel_rfl)
      replace e50 : ac.tmps[50]? = some v50 := e50
      replace e50 : ac.tmps[50]? = some (.bool false) := e50.trans (congrArg some t50)
      have h1_ := RX.out _ (Kd.R_below TI5.out.hi hb)
      refine Reg.step_call ((Reg.wanted_is rfl rfl e50).trans rfl) (by go_simp; try rfl) ((tributaryref2_Size.calls A11 c11 X SZ _ h1_.1 h1_.2 Q11.out).mono ?_)
      rintro en w6 ⟨rfl, ⟨nd, rfl⟩⟩
      exact ⟨_, rfl, rfl, by apply pw_below_drewN; exact Below.refl _ _⟩
    · intro ac w' hb hd hk   -- 21
      replace hb := Reg.below_undrew hb
      obtain ⟨v52, e52, t52⟩ := hk.2 18 (by kernel_rfl)
      replace e52 : ac.tmps[52]? = some v52 := e52
      replace e52 : ac.tmps[52]? = some (.int .i64 SZ) := e52.trans (congrArg some t52)
      obtain ⟨v54, e54, t54⟩ := hk.2 20 (by kernel_rfl)
      replace e54 : ac.tmps[54]? = some v54 := e54
      replace e54 : ac.tmps[54]? = some (.int .i64 SZ) := e54.trans (congrArg some t54)
      obtain ⟨v50, e50, t50⟩ := hk.2 16 (by kernel_rfl)
      replace e50 : ac.tmps[50]? = some v50 := e50
      replace e50 : ac.tmps[50]? = some (.bool false) := e50.trans (congrArg some t50)
      exact Reg.step_value ((Reg.wanted_is rfl rfl e50).trans rfl) (w1 := w') (by go_simp; try rfl) (Below.refl _ _) rfl
    · intro ac w' hb hd hk   -- 22
      replace hb := Reg.below_undrew hb
      obtain ⟨v50, e50, t50⟩ := hk.2 16 (by kernel_rfl)
      replace e50 : ac.tmps[50]? = some v50 := e50
      replace e50 : ac.tmps[50]? = some (.bool false) := e50.trans (congrArg some t50)
      obtain ⟨v55, e55, t55⟩ := hk.2 21 (by kernel_rfl)
      replace e55 : ac.tmps[55]? = some v55 := e55
      replace e55 : ac.tmps[55]? = some (.bool false) := e55.trans (congrArg some t55)
      exact Reg.step_value (Reg.wanted_free rfl) (w1 := w') (by go_simp; try rfl) (Below.refl _ _) rfl
    · intro ac w' hb hd hk   -- 23
      replace hb := Reg.below_undrew hb
      obtain ⟨v56, e56, t56⟩ := hk.2 22 (by kernel_rfl)
      replace e56 : ac.tmps[56]? = some v56 := e56
      replace e56 : ac.tmps[56]? = some (.bool false) := e56.trans (congrArg some t56)
      exact Reg.step_value (Reg.wanted_free rfl) (w1 := w') (by go_simp; try rfl) (Below.refl _ _) rfl
    · intro ac w' hb hd hk   -- 24
      replace hb := Reg.below_undrew hb
      have e11 : ac.tmps[11]? = some (.slice A11 X.length c11) := (hk.1 11 (by kernel_rfl)).trans rfl
      obtain ⟨v57, e57, t57⟩ := hk.2 23 (by kernel_rfl)
      replace e57 : ac.tmps[57]? = some v57 := e57
      replace e57 : ac.tmps[57]? = some (.bool false) := e57.trans (congrArg some t57)
      exact Reg.step_value ((Reg.wanted_is rfl rfl e57).trans rfl) (w1 := w') (by go_simp; try rfl) (Below.refl _ _) rfl
    · intro ac w' hb hd hk   -- 25
      replace hb := Reg.below_undrew hb
      have e12 : ac.tmps[12]? = some (.slice A12 Y.length c12) := (hk.1 12 (by kernel_rfl)).trans rfl
      obtain ⟨v57, e57, t57⟩ := hk.2 23 (by kernel_rfl)
      replace e57 : ac.tmps[57]? = some v57 := e57
      replace e57 : ac.tmps[57]? = some (.bool false) := e57.trans (congrArg some t57)
      exact Reg.step_value ((Reg.wanted_is rfl rfl e57).trans rfl) (w1 := w') (by go_simp; try rfl) (Below.refl _ _) rfl
    · intro ac w' hb hd hk   -- 26
      replace hb := Reg.below_undrew hb
      obtain ⟨v58, e58, t58⟩ := hk.2 24 (by kernel_rfl)
      replace e58 : ac.tmps[58]? = some v58 := e58
      replace e58 : ac.tmps[58]? = some (.slice A11 X.length c11) := e58.trans (congrArg some t58)
      obtain ⟨v59, e59, t59⟩ := hk.2 25 (by kernel_rfl)
      replace e59 : ac.tmps[59]? = some v59 := e59
      replace e59 : ac.tmps[59]? = some (.slice A12 Y.length c12) := e59.trans (congrArg some t59)
      obtain ⟨v57, e57, t57⟩ := hk.2 23 (by kernel_rfl)
      replace e57 : ac.tmps[57]? = some v57 := e57
      replace e57 : ac.tmps[57]? = some (.bool false) := e57.trans (congrArg some t57)
      have h1_ := RX.out _ (Kd.R_below TI5.out.hi hb)
      have h2_ := RY.out _ (Kd.R_below TI5.out.ho hb)
      refine Reg.step_call ((Reg.wanted_is rfl rfl e57).trans rfl) (by go_simp; try rfl) ((rows_Same.calls K7 A11 c11 X A12 c12 Y B _ h1_.1 h1_.2 h2_.1 h2_.2 Q7.out).mono ?_)
      rintro en w6 ⟨rfl, ⟨nd, rfl⟩⟩
      exact ⟨_, rfl, rfl, by apply pw_below_drewN; exact Below.refl _ _⟩
    · intro ac w' hb hd hk   -- 27
      replace hb := Reg.below_undrew hb
      have e11 : ac.tmps[11]? = some (.slice A11 X.length c11) := (hk.1 11 (by kernel_rfl)).trans rfl
      obtain ⟨v57, e57, t57⟩ := hk.2 23 (by kernel_rfl)
      replace e57 : ac.tmps[57]? = some v57 := e57
      replace e57 : ac.tmps[57]? = some (.bool false) := e57.trans (congrArg some t57)
      exact Reg.step_value ((Reg.wanted_is rfl rfl e57).trans rfl) (w1 := w') (by go_simp; try rfl) (Below.refl _ _) rfl
    · intro ac w' hb hd hk   -- 28
      replace hb := Reg.below_undrew hb
      have e12 : ac.tmps[12]? = some (.slice A12 Y.length c12) := (hk.1 12 (by kernel_rfl)).trans rfl
      obtain ⟨v57, e57, t57⟩ := hk.2 23 (by kernel_rfl)
      replace e57 : ac.tmps[57]? = some v57 := e57
      replace e57 : ac.tmps[57]? = some (.bool false) := e57.trans (congrArg some t57)
      exact Reg.step_value ((Reg.wanted_is rfl rfl e57).trans rfl) (w1 := w') (by go_simp; try rfl) (Below.refl _ _) rfl
    · intro ac w' hb hd hk   -- 29
      replace hb := Reg.below_undrew hb
      obtain ⟨v61, e61, t61⟩ := hk.2 27 (by kernel_rfl)
      replace e61 : ac.tmps[61]? = some v61 := e61
      replace e61 : ac.tmps[61]? = some (.slice A11 X.length c11) := e61.trans (congrArg some t61)
      obtain ⟨v62, e62, t62⟩ := hk.2 28 (by kernel_rfl)
      replace e62 : ac.tmps[62]? = some v62 := e62
      replace e62 : ac.tmps[62]? = some (.slice A12 Y.length c12) := e62.trans (congrArg some t62)
      obtain ⟨v57, e57, t57⟩ := hk.2 23 (by kernel_rfl)
      replace e57 : ac.tmps[57]? = some v57 := e57
      replace e57 : ac.tmps[57]? = some (.bool false) := e57.trans (congrArg some t57)
      have h1_ := RX.out _ (Kd.R_below TI5.out.hi hb)
      have h2_ := RY.out _ (Kd.R_below TI5.out.ho hb)
      refine Reg.step_call ((Reg.wanted_is rfl rfl e57).trans rfl) (by go_simp; try rfl) ((tributaryref2_Same.calls K6 A11 c11 X A12 c12 Y B _ h1_.1 h1_.2 h2_.1 h2_.2 Q6.out).mono ?_)
      rintro en w6 ⟨rfl, ⟨nd, rfl⟩⟩
      exact ⟨_, rfl, rfl, by apply pw_below_drewN; exact Below.refl _ _⟩
    · intro ac w' hb hd hk   -- 30
      replace hb := Reg.below_undrew hb
      obtain ⟨v60, e60, t60⟩ := hk.2 26 (by kernel_rfl)
      replace e60 : ac.tmps[60]? = some v60 := e60
      replace e60 : ac.tmps[60]? = some (.bool B) := e60.trans (congrArg some t60)
      obtain ⟨v63, e63, t63⟩ := hk.2 29 (by kernel_rfl)
      replace e63 : ac.tmps[63]? = some v63 := e63
      replace e63 : ac.tmps[63]? = some (.bool B) := e63.trans (congrArg some t63)
      obtain ⟨v57, e57, t57⟩ := hk.2 23 (by kernel_rfl)
      replace e57 : ac.tmps[57]? = some v57 := e57
      replace e57 : ac.tmps[57]? = some (.bool false) := e57.trans (congrArg some t57)
      exact Reg.step_value ((Reg.wanted_is rfl rfl e57).trans rfl) (w1 := w') (by go_simp; try rfl) (Below.refl _ _) rfl
    · intro ac w' hb hd hk   -- 31
      replace hb := Reg.below_undrew hb
      obtain ⟨v57, e57, t57⟩ := hk.2 23 (by kernel_rfl)
      replace e57 : ac.tmps[57]? = some v57 := e57
      replace e57 : ac.tmps[57]? = some (.bool false) := e57.trans (congrArg some t57)
      obtain ⟨v64, e64, t64⟩ := hk.2 30 (by kernel_rfl)
      replace e64 : ac.tmps[64]? = some v64 := e64
      replace e64 : ac.tmps[64]? = some (.bool false) := e64.trans (congrArg some t64)
      exact Reg.step_value (Reg.wanted_free rfl) (w1 := w') (by go_simp; try rfl) (Below.refl _ _) rfl
    · intro ac w' hb hd hk   -- 32
      replace hb := Reg.below_undrew hb
      obtain ⟨v65, e65, t65⟩ := hk.2 31 (by kernel_rfl)
      replace e65 : ac.tmps[65]? = some v65 := e65
      replace e65 : ac.tmps[65]? = some (.bool false) := e65.trans (congrArg some t65)
      exact Reg.step_value (Reg.wanted_free rfl) (w1 := w') (by go_simp; try rfl) (Below.refl _ _) rfl
    · intro ac w' hb hd hk   -- 33
      replace hb := Reg.below_undrew hb
      have e8 : ac.tmps[8]? = some (.pointer (some ⟨w.heap.size, 0, none⟩)) := (hk.1 8 (by kernel_rfl)).trans rfl
      obtain ⟨v66, e66, t66⟩ := hk.2 32 (by kernel_rfl)
      replace e66 : ac.tmps[66]? = some v66 := e66
      replace e66 : ac.tmps[66]? = some (.bool false) := e66.trans (congrArg some t66)
      obtain ⟨k0, k1, k2⟩ := facts3 ((hb.block _ (by have := HZ5.out; omega)).trans H85.out)
      exact Reg.step_value ((Reg.wanted_is rfl rfl e66).trans rfl) (w1 := w') (by go_simp; try rfl) (Below.refl _ _) rfl
    · intro ac w' hb hd hk   -- 34
      replace hb := Reg.below_undrew hb
      have e9 : ac.tmps[9]? = some (.pointer (some ⟨w.heap.size + 1, 0, none⟩)) := (hk.1 9 (by kernel_rfl)).trans rfl
      obtain ⟨v66, e66, t66⟩ := hk.2 32 (by kernel_rfl)
      replace e66 : ac.tmps[66]? = some v66 := e66
      replace e66 : ac.tmps[66]? = some (.bool false) := e66.trans (congrArg some t66)
      obtain ⟨k0, k1, k2⟩ := facts3 ((hb.block _ (by have := HZ5.out; omega)).trans H95.out)
      exact Reg.step_value ((Reg.wanted_is rfl rfl e66).trans rfl) (w1 := w') (by go_simp; try rfl) (Below.refl _ _) rfl
    · intro ac w' hb hd hk   -- 35
      replace hb := Reg.below_undrew hb
      obtain ⟨v67, e67, t67⟩ := hk.2 33 (by kernel_rfl)
      replace e67 : ac.tmps[67]? = some v67 := e67
      replace e67 : ac.tmps[67]? = some (.agg #[.int .i64 x0, .int .i64 x1, .int .i64 x2]) := e67.trans (congrArg some t67)
      obtain ⟨v68, e68, t68⟩ := hk.2 34 (by kernel_rfl)
      replace e68 : ac.tmps[68]? = some v68 := e68
      replace e68 : ac.tmps[68]? = some (.agg #[.int .i64 y0, .int .i64 y1, .int .i64 y2]) := e68.trans (congrArg some t68)
      obtain ⟨v66, e66, t66⟩ := hk.2 32 (by kernel_rfl)
      replace e66 : ac.tmps[66]? = some v66 := e66
      replace e66 : ac.tmps[66]? = some (.bool false) := e66.trans (congrArg some t66)
      refine Reg.step_call ((Reg.wanted_is rfl rfl e66).trans rfl) (by go_simp; try rfl) ((rows_Before.calls x0 x1 x2 y0 y1 y2 BF _ Q8.out).mono ?_)
      rintro en w6 ⟨rfl, hb6⟩
      exact ⟨_, rfl, rfl, hb6⟩
    · intro ac w' hb hd hk   -- 36
      replace hb := Reg.below_undrew hb
      have e8 : ac.tmps[8]? = some (.pointer (some ⟨w.heap.size, 0, none⟩)) := (hk.1 8 (by kernel_rfl)).trans rfl
      obtain ⟨v66, e66, t66⟩ := hk.2 32 (by kernel_rfl)
      replace e66 : ac.tmps[66]? = some v66 := e66
      replace e66 : ac.tmps[66]? = some (.bool false) := e66.trans (congrArg some t66)
      obtain ⟨k0, k1, k2⟩ := facts3 ((hb.block _ (by have := HZ5.out; omega)).trans H85.out)
      exact Reg.step_value ((Reg.wanted_is rfl rfl e66).trans rfl) (w1 := w') (by go_simp; try rfl) (Below.refl _ _) rfl
    · intro ac w' hb hd hk   -- 37
      replace hb := Reg.below_undrew hb
      have e9 : ac.tmps[9]? = some (.pointer (some ⟨w.heap.size + 1, 0, none⟩)) := (hk.1 9 (by kernel_rfl)).trans rfl
      obtain ⟨v66, e66, t66⟩ := hk.2 32 (by kernel_rfl)
      replace e66 : ac.tmps[66]? = some v66 := e66
      replace e66 : ac.tmps[66]? = some (.bool false) := e66.trans (congrArg some t66)
      obtain ⟨k0, k1, k2⟩ := facts3 ((hb.block _ (by have := HZ5.out; omega)).trans H95.out)
      exact Reg.step_value ((Reg.wanted_is rfl rfl e66).trans rfl) (w1 := w') (by go_simp; try rfl) (Below.refl _ _) rfl
    · intro ac w' hb hd hk   -- 38
      replace hb := Reg.below_undrew hb
      obtain ⟨v70, e70, t70⟩ := hk.2 36 (by kernel_rfl)
      replace e70 : ac.tmps[70]? = some v70 := e70
      replace e70 : ac.tmps[70]? = some (.agg #[.int .i64 x0, .int .i64 x1, .int .i64 x2]) := e70.trans (congrArg some t70)
      obtain ⟨v71, e71, t71⟩ := hk.2 37 (by kernel_rfl)
      replace e71 : ac.tmps[71]? = some v71 := e71
      replace e71 : ac.tmps[71]? = some (.agg #[.int .i64 y0, .int .i64 y1, .int .i64 y2]) := e71.trans (congrArg some t71)
      obtain ⟨v66, e66, t66⟩ := hk.2 32 (by kernel_rfl)
      replace e66 : ac.tmps[66]? = some v66 := e66
      replace e66 : ac.tmps[66]? = some (.bool false) := e66.trans (congrArg some t66)
      refine Reg.step_call ((Reg.wanted_is rfl rfl e66).trans rfl) (by go_simp; try rfl) ((tributaryref2_Before.calls x0 x1 x2 y0 y1 y2 BF _ Q9.out).mono ?_)
      rintro en w6 ⟨rfl, hb6⟩
      exact ⟨_, rfl, rfl, hb6⟩
    · intro ac w' hb hd hk   -- 39
      replace hb := Reg.below_undrew hb
      obtain ⟨v69, e69, t69⟩ := hk.2 35 (by kernel_rfl)
      replace e69 : ac.tmps[69]? = some v69 := e69
      replace e69 : ac.tmps[69]? = some (.bool BF) := e69.trans (congrArg some t69)
      obtain ⟨v72, e72, t72⟩ := hk.2 38 (by kernel_rfl)
      replace e72 : ac.tmps[72]? = some v72 := e72
      replace e72 : ac.tmps[72]? = some (.bool BF) := e72.trans (congrArg some t72)
      obtain ⟨v66, e66, t66⟩ := hk.2 32 (by kernel_rfl)
      replace e66 : ac.tmps[66]? = some v66 := e66
      replace e66 : ac.tmps[66]? = some (.bool false) := e66.trans (congrArg some t66)
      exact Reg.step_value ((Reg.wanted_is rfl rfl e66).trans rfl) (w1 := w') (by go_simp; try rfl) (Below.refl _ _) rfl
    · intro ac w' hb hd hk   -- 40
      replace hb := Reg.below_undrew hb
      obtain ⟨v66, e66, t66⟩ := hk.2 32 (by kernel_rfl)
      replace e66 : ac.tmps[66]? = some v66 := e66
      replace e66 : ac.tmps[66]? = some (.bool false) := e66.trans (congrArg some t66)
      obtain ⟨v73, e73, t73⟩ := hk.2 39 (by kernel_rfl)
      replace e73 : ac.tmps[73]? = some v73 := e73
      replace e73 : ac.tmps[73]? = some (.bool false) := e73.trans (congrArg some t73)
      exact Reg.step_value (Reg.wanted_free rfl) (w1 := w') (by go_simp; try rfl) (Below.refl _ _) rfl
  case fin =>
    intro w' hb
    replace hb := Reg.below_undrew hb
    rintro _ rfl
    rintro _ rfl
    rintro _ rfl
    rintro _ rfl
    rintro _ rfl
    rintro _ rfl
    rintro _ rfl
    rintro _ rfl
    rintro _ rfl
    rintro _ rfl
    rintro _ rfl
    rintro _ rfl
    rintro _ rfl
    rintro _ rfl
    rintro _ rfl
    rintro _ rfl
    rintro _ rfl
    rintro _ rfl
    rintro _ rfl
    rintro _ rfl
    rintro _ rfl
    rintro _ rfl
    rintro _ rfl
    rintro _ rfl
    rintro _ rfl
    rintro _ rfl
    rintro _ rfl
    rintro _ rfl
    rintro _ rfl
    rintro _ rfl
    rintro _ rfl
    rintro _ rfl
    rintro _ rfl
    rintro _ rfl
    rintro _ rfl
    rintro _ rfl
    rintro _ rfl
    rintro _ rfl
    rintro _ rfl
    rintro _ rfl
    rintro _ rfl
    refine Reg.done_nil ?_
    simp only [Act.put, List.setIfInBounds_toArray, List.set_cons_zero, List.set_cons_succ]
    have TI6 := Aside0.mk (TI5.out.below hb)
    have SEg : Aside0 (∀ i : Nat, (rd_L2 P (i : Int)).length ≤ 200) := ⟨fun i => by
      by_cases hi : i < P.length
      · rw [Pure.rdL_nat P i hi]; have := SE.out _ (List.getElem_mem hi); omega
      · unfold rd_L2; rw [Int.toNat_natCast, List.getD_eq_getElem?_getD, List.getElem?_eq_none (by omega)]; simp⟩
    have lT : T.length ≤ 64 := by rw [← HT.out, List.length_take]; omega
    clear TI5 hb H85 H95 Q4 Q6 Q7 Q8 Q9 Q10 Q11 SE HZ2 HZ3 HZ4 HZ5 EO
    go_wp2_with fail
    go_loopg [16] (T.length + 1) (fun kq v16 wr => ∃ (i : Nat) (T' : List S35), v16 = .int .i64 (i : Int) ∧ i ≤ T.length ∧ T.length - i < kq ∧ Aside0 (TI w wr Z2 Z3 Z4 Z5 A11 A12 A13 A14 A15 c11 c12 c13 c14 c15 T.length of X Y T' P P))
    case atStart => exact ⟨0, T, rfl, by omega, by omega, TI6⟩
    case round =>
      clear TI6
      obtain ⟨i, T', rfl, hi, hik, K⟩ := hrel
      by_cases hlt : i < T.length
      · have q1 : decide ((i : Int) < (T.length : Int)) = true := decide_eq_true (by omega)
        obtain ⟨g, e, ⟨a, b, m0, m1⟩, f0, f1, KN⟩ := K.out.setC i hlt
        have KN := Aside0.mk KN
        subst e
        have p0 : (0 : Int) ≤ (i : Int) := by omega
        have p1 : (i : Int) < (T.length : Int) := by omega
        clear K
        go_wp2
        go_roundg (gk - 1)
        case measure => omega
        case rel => exact ⟨i + 1, _, (by first | rfl | go_num), by omega, by omega, KN⟩
      · obtain rfl : i = T.length := by omega
        have q1 : decide ((T.length : Int) < (T.length : Int)) = false := decide_eq_false (by omega)
        clear hik hi hlt
        go_wp2_with fail
        clear q1
        go_loopg [17] (of + 1) (fun kq v17 wr => ∃ (i : Nat) (P' : List (List S35)), v17 = .int .i64 (i : Int) ∧ i ≤ of ∧ of - i < kq ∧ P'.length = of ∧ Aside0 (∀ j : Nat, (j < i → (rd_L2 P' (j : Int)).length = (rd_L2 P (j : Int)).length + 1) ∧ (i ≤ j → rd_L2 P' (j : Int) = rd_L2 P (j : Int))) ∧ Aside0 (TI w wr Z2 Z3 Z4 Z5 A11 A12 A13 A14 A15 c11 c12 c13 c14 c15 T.length of X Y T' P P'))
        case atStart => exact ⟨0, P, rfl, by omega, by omega, hlP, ⟨fun j => ⟨fun h => by omega, fun _ => rfl⟩⟩, K⟩
        case round =>
          clear K
          obtain ⟨i, P', rfl, hi, hik, hlP', HJ, K⟩ := hrel
          by_cases hlt : i < of
          · have q1 : decide ((i : Int) < (of : Int)) = true := decide_eq_true (by omega)
            obtain ⟨g14, Ai, ci, e1, x14, f14, hci, hC14⟩ := K.out.part i hlt
            obtain ⟨g15, Bi, di, e2, x15, hdi, hC15⟩ := K.out.doc i hlt
            subst e1 e2
            have ePi := (HJ.out i).2 (Nat.le_refl _)
            rw [ePi] at x14 hci hC14
            have hp200 := SEg.out i
            have eset : P'.set i (rd_L2 P (i : Int)) = P' := by
              rw [← ePi]
              unfold rd_L2
              rw [Int.toNat_natCast, List.getD_eq_getElem?_getD, List.getElem?_eq_getElem (by omega), Option.getD_some, List.set_getElem_self]
            have PI := Aside0.mk (rfl : (rd_L2 P (i : Int)).length = (rd_L2 P (i : Int)).length)
            obtain ⟨Pi, hPi⟩ : ∃ Pi, rd_L2 P (i : Int) = Pi := ⟨_, rfl⟩
            rw [hPi] at x14 x15 hci hdi hC14 hC15 hp200 eset
            obtain ⟨K5, s5⟩ := Pure.same_ev Pi Pi (by omega)
            have h5 := s5 K5 (Nat.le_refl _)
            rw [decide_eq_true rfl] at h5
            have HSi : Aside0 (∀ W, Below wr.heap.size wr W → Calls Try.prog 7 #[.slice Ai Pi.length ci, .slice Bi Pi.length di] W (fun e w' => e = .returned (.bool true) ∧ Drawn0 W w')) := ⟨fun W hb => tributaryref2_Same.calls K5 Ai ci Pi Bi di Pi true W (Kd.C_below hC14 hb) hci (Kd.C_below hC15 hb) hdi h5⟩
            have HPI := Aside0.mk hPi
            have HES := Aside0.mk eset
            have p0 : (0 : Int) ≤ (i : Int) := by omega
            have p1 : (i : Int) < (of : Int) := by omega
            clear hPi ePi eset h5 s5 hC14 hC15 PI f14 hci hdi
            go_wp2_with fail
            refine Reg.region_inv (Reg.tab [(Reg.Is (.slice (some ⟨g14, 0, none⟩) of c14)), (Reg.Is (.int .i64 (i : Int))), (Reg.Is (.pointer (some ⟨g14, i, none⟩))), (Reg.Is (.slice Ai Pi.length ci)), (Reg.Is (.slice (some ⟨g15, 0, none⟩) of c15)), (Reg.Is (.int .i64 (i : Int))), (Reg.Is (.pointer (some ⟨g15, i, none⟩))), (Reg.Is (.slice Bi Pi.length di)), (Reg.Is (.bool true)), (Reg.Is (.bool false))]) (by kernel_rfl) (by kernel_rfl) (Reg.tab_mono ?mono) ?steps ?fin
            case mono => exact ⟨Reg.Is.mono _, Reg.Is.mono _, Reg.Is.mono _, Reg.Is.mono _, Reg.Is.mono _, Reg.Is.mono _, Reg.Is.mono _, Reg.Is.mono _, Reg.Is.mono _, Reg.Is.mono _, trivial⟩
            case steps =>
              refine ⟨?_, ?_, ?_, ?_, ?_, ?_, ?_, ?_, ?_, ?_, trivial⟩
              · intro ac w' hb hd hk   -- 0
                replace hb := Reg.below_undrew hb
                have e14 : ac.tmps[14]? = some (.slice (some ⟨g14, 0, none⟩) of c14) := (hk.1 14 (by kernel_rfl)).trans rfl
                exact Reg.step_value (Reg.wanted_free rfl) (w1 := w') (by go_simp; try rfl) (Below.refl _ _) rfl
              · intro ac w' hb hd hk   -- 1
                replace hb := Reg.below_undrew hb
                have e17 : ac.tmps[17]? = some (.int .i64 (i : Int)) := (hk.1 17 (by kernel_rfl)).trans rfl
                exact Reg.step_value (Reg.wanted_free rfl) (w1 := w') (by go_simp; try rfl) (Below.refl _ _) rfl
              · intro ac w' hb hd hk   -- 2
                replace hb := Reg.below_undrew hb
                obtain ⟨v91, e91, t91⟩ := hk.2 0 (by kernel_rfl)
                replace e91 : ac.tmps[91]? = some v91 := e91
                replace e91 : ac.tmps[91]? = some (.slice (some ⟨g14, 0, none⟩) of c14) := e91.trans (congrArg some t91)
                obtain ⟨v92, e92, t92⟩ := hk.2 1 (by kernel_rfl)
                replace e92 : ac.tmps[92]? = some v92 := e92
                replace e92 : ac.tmps[92]? = some (.int .i64 (i : Int)) := e92.trans (congrArg some t92)
                exact Reg.step_value (Reg.wanted_free rfl) (w1 := w') (by go_simp; try rfl) (Below.refl _ _) rfl
              · intro ac w' hb hd hk   -- 3
                replace hb := Reg.below_undrew hb
                obtain ⟨v93, e93, t93⟩ := hk.2 2 (by kernel_rfl)
                replace e93 : ac.tmps[93]? = some v93 := e93
                replace e93 : ac.tmps[93]? = some (.pointer (some ⟨g14, i, none⟩)) := e93.trans (congrArg some t93)
                have k0 := cell_keepB hb x14
                exact Reg.step_value (Reg.wanted_free rfl) (w1 := w') (by go_simp; try rfl) (Below.refl _ _) rfl
              · intro ac w' hb hd hk   -- 4
                replace hb := Reg.below_undrew hb
                have e15 : ac.tmps[15]? = some (.slice (some ⟨g15, 0, none⟩) of c15) := (hk.1 15 (by kernel_rfl)).trans rfl
                exact Reg.step_value (Reg.wanted_free rfl) (w1 := w') (by go_simp; try rfl) (Below.refl _ _) rfl
              · intro ac w' hb hd hk   -- 5
                replace hb := Reg.below_undrew hb
                have e17 : ac.tmps[17]? = some (.int .i64 (i : Int)) := (hk.1 17 (by kernel_rfl)).trans rfl
                exact Reg.step_value (Reg.wanted_free rfl) (w1 := w') (by go_simp; try rfl) (Below.refl _ _) rfl
              · intro ac w' hb hd hk   -- 6
                replace hb := Reg.below_undrew hb
                obtain ⟨v95, e95, t95⟩ := hk.2 4 (by kernel_rfl)
                replace e95 : ac.tmps[95]? = some v95 := e95
                replace e95 : ac.tmps[95]? = some (.slice (some ⟨g15, 0, none⟩) of c15) := e95.trans (congrArg some t95)
                obtain ⟨v96, e96, t96⟩ := hk.2 5 (by kernel_rfl)
                replace e96 : ac.tmps[96]? = some v96 := e96
                replace e96 : ac.tmps[96]? = some (.int .i64 (i : Int)) := e96.trans (congrArg some t96)
                exact Reg.step_value (Reg.wanted_free rfl) (w1 := w') (by go_simp; try rfl) (Below.refl _ _) rfl
              · intro ac w' hb hd hk   -- 7
                replace hb := Reg.below_undrew hb
                obtain ⟨v97, e97, t97⟩ := hk.2 6 (by kernel_rfl)
                replace e97 : ac.tmps[97]? = some v97 := e97
                replace e97 : ac.tmps[97]? = some (.pointer (some ⟨g15, i, none⟩)) := e97.trans (congrArg some t97)
                have k0 := cell_keepB hb x15
                exact Reg.step_value (Reg.wanted_free rfl) (w1 := w') (by go_simp; try rfl) (Below.refl _ _) rfl
              · intro ac w' hb hd hk   -- 8
                replace hb := Reg.below_undrew hb
                obtain ⟨v94, e94, t94⟩ := hk.2 3 (by kernel_rfl)
                replace e94 : ac.tmps[94]? = some v94 := e94
                replace e94 : ac.tmps[94]? = some (.slice Ai Pi.length ci) := e94.trans (congrArg some t94)
                obtain ⟨v98, e98, t98⟩ := hk.2 7 (by kernel_rfl)
                replace e98 : ac.tmps[98]? = some v98 := e98
                replace e98 : ac.tmps[98]? = some (.slice Bi Pi.length di) := e98.trans (congrArg some t98)
                refine Reg.step_call (Reg.wanted_free rfl) (by go_simp; try rfl) ((HSi.out _ hb).mono ?_)
                rintro en w6 ⟨rfl, ⟨nd, rfl⟩⟩
                exact ⟨_, rfl, rfl, by apply pw_below_drewN; exact Below.refl _ _⟩
              · intro ac w' hb hd hk   -- 9
                replace hb := Reg.below_undrew hb
                obtain ⟨v99, e99, t99⟩ := hk.2 8 (by kernel_rfl)
                replace e99 : ac.tmps[99]? = some v99 := e99
                replace e99 : ac.tmps[99]? = some (.bool true) := e99.trans (congrArg some t99)
                exact Reg.step_value (Reg.wanted_free rfl) (w1 := w') (by go_simp; try rfl) (Below.refl _ _) rfl
            case fin =>
              intro w' hb
              replace hb := Reg.below_undrew hb
              rintro _ rfl
              rintro _ rfl
              rintro _ rfl
              rintro _ rfl
              rintro _ rfl
              rintro _ rfl
              rintro _ rfl
              rintro _ rfl
              rintro _ rfl
              rintro _ rfl
              refine Reg.done_nil ?_
              simp only [Act.put, List.setIfInBounds_toArray, List.set_cons_zero, List.set_cons_succ]
              have K2 := Aside0.mk (K.out.below hb)
              have x14' := cell_keepB hb x14
              have XC' := Aside0.mk x14'
              clear hb x14 x15 x14' HSi K
              obtain ⟨gO, hgO⟩ : ∃ gO, gO = gk := ⟨_, rfl⟩
              have HGO := Aside0.mk hgO
              clear hgO
              go_wp2_with fail
              go_loopg [18] (Pi.length + 1) (fun kq v18 ws => ∃ (k : Nat) (Q : List S35), v18 = .int .i64 (k : Int) ∧ k ≤ Pi.length ∧ Pi.length - k < kq ∧ Q.length = Pi.length ∧ Aside0 (TI w ws Z2 Z3 Z4 Z5 A11 A12 A13 (some ⟨g14, 0, none⟩) (some ⟨g15, 0, none⟩) c11 c12 c13 c14 c15 T.length of X Y T' P (P'.set i Q)) ∧ Aside0 (ws.cell? ⟨g14, i, none⟩ = some (.slice Ai Pi.length ci)))
              case atStart => exact ⟨0, Pi, rfl, by omega, by omega, rfl, ⟨by rw [HES.out]; exact K2.out⟩, XC'⟩
              case round =>
                clear K2 XC'
                obtain ⟨k, Q, rfl, hk, hkk, hQ, K, XC⟩ := hrel
                have x14 := XC.out
                have erd : rd_L2 (P'.set i Q) (i : Int) = Q := by
                  unfold rd_L2
                  rw [Int.toNat_natCast, List.getD_eq_getElem?_getD, List.getElem?_set_self (by omega)]; rfl
                by_cases hlk : k < Pi.length
                · have q2 : decide ((k : Int) < (Pi.length : Int)) = true := decide_eq_true (by omega)
                  obtain ⟨_, gi, e3, ⟨a, b, m0, m1⟩, f0, f1, KN, XN⟩ := K.out.setR i hlt k x14 hlk
                  rw [erd, List.set_set] at KN
                  have KN := Aside0.mk KN
                  have XN := Aside0.mk XN
                  subst e3
                  have p2 : (0 : Int) ≤ (k : Int) := by omega
                  have p3 : (k : Int) < (Pi.length : Int) := by omega
                  clear K XC erd
                  go_wp2
                  go_roundg (gk - 1)
                  case measure => omega
                  case rel => exact ⟨k + 1, Q.set k ⟨-9, 0⟩, (by first | rfl | go_num), by omega, by omega, by rw [List.length_set]; exact hQ, KN, XN⟩
                · obtain rfl : k = Pi.length := by omega
                  have q2 : decide ((Pi.length : Int) < (Pi.length : Int)) = false := decide_eq_false (by omega)
                  have hba := below_alloc (Below.refl wr.heap.size wr) (.cells #[.int .i64 (-9), .int .i64 0] 35)
                  obtain ⟨A9_, c9_, w8, hrun, x8, f8, KN⟩ := (K.out.below hba).push i hlt (cell_keepB hba x14) [⟨-9, 0⟩] (some ⟨wr.heap.size, 0, none⟩) 1 1 (one_C wr ⟨-9, 0⟩) (by omega)
                  rw [erd, List.set_set] at KN
                  have KN := Aside0.mk KN
                  clear K XC erd hba hlk hk hkk
                  go_wp2_with (first
                    | (at_builtin; refine wpList_run rfl (.tmp 122) (.tmp 124) 22 rfl (.slice Ai Pi.length ci) (.slice (some ⟨wr.heap.size, 0, none⟩) 1 1) _ w8 rfl rfl hrun ?_))
                  have hgO := HGO.out
                  go_roundg (gO - 1)
                  case measure => omega
                  case rel =>
                    refine ⟨i + 1, P'.set i (Q ++ [⟨-9, 0⟩]), (by first | rfl | go_num), by omega, by omega, by rw [List.length_set]; exact hlP', ⟨fun j => ⟨fun hj => ?_, fun hj => ?_⟩⟩, KN⟩
                    · by_cases e : j = i
                      · subst e
                        unfold rd_L2
                        rw [Int.toNat_natCast, List.getD_eq_getElem?_getD, List.getElem?_set_self (by omega), Option.getD_some, List.length_append, hQ, List.length_singleton]
                        have := HPI.out
                        unfold rd_L2 at this
                        rw [Int.toNat_natCast] at this
                        rw [this]
                      · have := (HJ.out j).1 (by omega)
                        unfold rd_L2 at this ⊢
                        rw [Int.toNat_natCast, List.getD_eq_getElem?_getD, List.getElem?_set_ne (by omega)]
                        rw [Int.toNat_natCast, List.getD_eq_getElem?_getD] at this
                        exact this
                    · have := (HJ.out j).2 (by omega)
                      unfold rd_L2 at this ⊢
                      rw [Int.toNat_natCast, List.getD_eq_getElem?_getD, List.getElem?_set_ne (by omega)]
                      rw [Int.toNat_natCast, List.getD_eq_getElem?_getD] at this
                      exact this
  -- END14
          · obtain rfl : i = of := by omega
            have q1 : decide ((i : Int) < (i : Int)) = false := decide_eq_false (by omega)
            clear hik hi hlt
            go_wp2_with fail
            clear q1
            go_loopg [19] (i + 1) (fun kq v19 wr => ∃ (j : Nat), v19 = .int .i64 (j : Int) ∧ j ≤ i ∧ i - j < kq ∧ Aside0 (TI w wr Z2 Z3 Z4 Z5 A11 A12 A13 A14 A15 c11 c12 c13 c14 c15 T.length i X Y T' P P'))
            case atStart => exact ⟨0, rfl, by omega, by omega, K⟩
            case round =>
              clear K
              obtain ⟨j, rfl, hj, hjk, K⟩ := hrel
              by_cases hlt : j < i
              · have q1 : decide ((j : Int) < (i : Int)) = true := decide_eq_true (by omega)
                obtain ⟨g14, Ai, ci, e1, x14, _, _, _⟩ := K.out.part j hlt
                obtain ⟨g15, Bi, di, e2, x15, _, _⟩ := K.out.doc j hlt
                subst e1 e2
                rw [(HJ.out j).1 hlt] at x14
                have hp200 := SEg.out j
                obtain ⟨n, hn⟩ : ∃ n, (rd_L2 P (j : Int)).length = n := ⟨_, rfl⟩
                rw [hn] at x14 x15 hp200
                clear hn
                have p0 : (0 : Int) ≤ (j : Int) := by omega
                have p1 : (j : Int) < (i : Int) := by omega
                have q2 : (((n + 1 : Nat) : Int) != (n : Int) + 1) = false := by simp
                have q3 : ((n : Int) + 1 != (n : Int) + 1) = false := by simp
                go_wp2_with fail
                go_quiet (fail)
                go_wp2
                go_roundg (gk - 1)
                case measure => omega
                case rel => exact ⟨j + 1, (by first | rfl | go_num), by omega, by omega, ⟨K.out.below (pw_below_drewN (Below.refl _ wr) _)⟩⟩
              · obtain rfl : j = i := by omega
                have q1 : decide ((j : Int) < (j : Int)) = false := decide_eq_false (by omega)
                have W1 := Aside0.mk (fun W' (hb : Below wr.heap.size wr W') => whole_calls A11 c11 A0 c0 l0 X 0 _ W' (Kd.R_below K.out.hi hb) (Kd.C_below HR0.out (K.out.hb.trans (hb.mono K.out.hb.size))) hc0 200 (by omega) HX.out)
                have W2 := Aside0.mk (fun W' (hb : Below wr.heap.size wr W') => whole_calls A12 c12 A1 c1 l1 Y 0 _ W' (Kd.R_below K.out.ho hb) (Kd.C_below HR1.out (K.out.hb.trans (hb.mono K.out.hb.size))) hc1 200 (by omega) HY.out)
                clear hjk hj hlt
                go_wp2_with fail
                refine (W1.out wr (Below.refl _ _)).mono ?_
                rintro e w7 ⟨rfl, hb7⟩
                have HB7 := Aside0.mk hb7
                clear hb7
                go_wp2_with fail
                refine (W2.out w7 HB7.out).mono ?_
                rintro e w8 ⟨rfl, hb8⟩
                have HB8 := Aside0.mk (HB7.out.trans (hb8.mono HB7.out.size))
                clear hb8
                go_wp2_with fail
                go_ret
                exact ⟨rfl, K.out.hb.trans (HB8.out.mono K.out.hb.size)⟩
-- END5
def tributarylaw2_RowsTell.f (l0 l1 : List S35) (a2 x0 x1 x2 y0 y1 y2 : Int) : Option Bool := if l0.length ≤ 9223372036854775807 ∧ l1.length ≤ 9223372036854775807 then some true else none
theorem tributarylaw2_RowsTell.calls (A0 : Option Addr) (c0 : Nat) (l0 : List S35) (A1 : Option Addr) (c1 : Nat) (l1 : List S35) (a2 x0 x1 x2 y0 y1 y2 : Int) (r : Bool) (w : World) (hr0 : Kd.C k35 w A0 l0.length l0) (hc0 : l0.length ≤ c0) (hr1 : Kd.C k35 w A1 l1.length l1) (hc1 : l1.length ≤ c1) (h : tributarylaw2_RowsTell.f l0 l1 a2 x0 x1 x2 y0 y1 y2 = some r) :
    Calls Try.prog 4 #[.slice A0 l0.length c0, .slice A1 l1.length c1, .int .i64 a2, .agg #[.int .i64 x0, .int .i64 x1, .int .i64 x2], .agg #[.int .i64 y0, .int .i64 y1, .int .i64 y2]] w fun e w' => e = .returned (.bool r) ∧ Below w.heap.size w w' := by
  unfold tributarylaw2_RowsTell.f at h
  by_cases hf : l0.length ≤ 9223372036854775807 ∧ l1.length ≤ 9223372036854775807
  · rw [if_pos hf] at h
    obtain rfl := Option.some.inj h
    exact tell_law A0 c0 l0 A1 c1 l1 a2 x0 x1 x2 y0 y1 y2 w hr0 hc0 hr1 hc1 hf.1 hf.2
  · rw [if_neg hf] at h; cases h
end Go.Proofs.Ytcphmcghiidicaa.PRw
