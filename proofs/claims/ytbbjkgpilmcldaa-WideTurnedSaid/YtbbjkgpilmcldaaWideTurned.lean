/- Proved: the law WideTurned, walked by hand; condition: rows of numbers that fit. -/
import Derived.Test.YtbbjkgpilmcldaaWideT
import Derived.Test.YtbbjkgpilmcldaaRegInv
import Derived.Test.YtbbjkgpilmcldaaPWtx0
namespace Go.Proofs.Ytbbjkgpilmcldaa.PWt
open Go.RowKit Go.Proofs.YtbbjkgpilmcldaaW.PrintWords Go.Proofs.YtbbjkgpilmcldaaW.PrintLast Go.Proofs.YtbbjkgpilmcldaaW.PrintMore Go.Proofs.Ytbbjkgpilmcldaa.Seq
open Go.Proofs.Ytbbjkgpilmcldaa.PWi (fits)
open Go.Proofs.Ytbbjkgpilmcldaa.Pure (flipF sortT)
set_option linter.unusedVariables false
set_option linter.unusedSimpArgs false
set_option maxRecDepth 100000 in
theorem idx_f (f : Nat) (hf : f ≤ 3) : ∀ w : World, (Instr.index 42 (.agg #[.int .i64 0, .int .i64 1, .int .i64 3, .int .i64 2]) (.int .i64 (f : Int))).run Try.prog w = .ok (.int .i64 ((flipF f : Nat) : Int)) w := by
  have h : f = 0 ∨ f = 1 ∨ f = 2 ∨ f = 3 := by omega
  rcases h with rfl | rfl | rfl | rfl <;> exact fun _ => by kernel_rfl
theorem flip_le {f : Nat} (hf : f ≤ 3) : flipF f ≤ 3 := by
  have h : f = 0 ∨ f = 1 ∨ f = 2 ∨ f = 3 := by omega
  rcases h with rfl | rfl | rfl | rfl <;> decide
set_option maxHeartbeats 4000000 in
set_option maxRecDepth 100000 in
theorem turned_law (A0 : Option Addr) (c0 : Nat) (l0 : List S30) (A1 : Option Addr) (c1 : Nat) (l1 : List S30) (w : World) (hr0 : Kd.C k30 w A0 l0.length l0) (hc0 : l0.length ≤ c0) (hr1 : Kd.C k30 w A1 l1.length l1) (hc1 : l1.length ≤ c1) (X Y : List RowT) (hX : l0.take 8 = X) (hY : l1.take 8 = Y) (fX : fits X) (fY : fits Y) :
    Calls Try.prog 8 #[.slice A0 l0.length c0, .slice A1 l1.length c1] w fun e w' => e = .returned (.bool true) ∧ Below w.heap.size w w' := by
  have lX : X.length ≤ 8 := by rw [← hX, List.length_take]; omega
  have lY : Y.length ≤ 8 := by rw [← hY, List.length_take]; omega
  have hm : X.length * Y.length ≤ 64 := Nat.le_trans (Nat.mul_le_mul lX lY) (by omega)
  have n1 : PWi.tributarylaw4_few.f l0 8 = some X := by rw [Pure.few4_f l0 8 (by omega) (by omega), ← hX]; rfl
  have n2 : PWi.tributarylaw4_few.f l1 8 = some Y := by rw [Pure.few4_f l1 8 (by omega) (by omega), ← hY]; rfl
  have HM := Aside0.mk hm
  have HFX := Aside0.mk fX
  have HFY := Aside0.mk fY
  have N1 := Aside0.mk n1
  have N2 := Aside0.mk n2
  have HR0 := Aside0.mk hr0
  have HR1 := Aside0.mk hr1
  clear n1 n2 hr0 hr1 hX hY lX lY hm fX fY
  go_enter Try.func8, Try.ntmps8
  go_wp2_with (first
    | (go_at_call 20; (with_reducible refine (PWi.tributarylaw4_few.calls A0 c0 l0 8 X w HR0.out hc0 N1.out).mono ?_); rintro e w1 ⟨v5, rfl, ho1, hb1⟩; have HB1 := Aside0.mk hb1; have HO1 := Aside0.mk ho1; have HR1' := Aside0.mk (Kd.C_below HR1.out hb1); clear hb1 ho1)
    | (go_at_call 20; (with_reducible refine (PWi.tributarylaw4_few.calls A1 c1 l1 8 Y w1 HR1'.out hc1 N2.out).mono ?_); rintro e w2 ⟨v6, rfl, ho2, hb2⟩; have HB2 := Aside0.mk (HB1.out.trans (hb2.mono HB1.out.size)); have HO5 := Aside0.mk (Kd.R_below HO1.out hb2); have HO6 := Aside0.mk (Kd.R_lower ho2 HB1.out.size); clear hb2 ho2 HO1 HR1'))
  obtain ⟨A5, c5, e5⟩ := Kd.R_slice HO5.out
  subst e5
  obtain ⟨A6, c6, e6⟩ := Kd.R_slice HO6.out
  subst e6
  go_loopg [7] 5 (fun kq v7 wr => ∃ f : Nat, v7 = .int .i64 (f : Int) ∧ f ≤ 4 ∧ 4 - f < kq ∧ Aside0 (Kd.R k30 30 wr w.heap.size (fun _ => True) (.slice A5 X.length c5) X) ∧ Aside0 (Kd.R k30 30 wr w.heap.size (fun _ => True) (.slice A6 Y.length c6) Y) ∧ Aside0 (Below w.heap.size w wr))
  case atStart => exact ⟨0, rfl, by omega, by omega, HO5, HO6, HB2⟩
  case round =>
    clear HO5 HO6 HB2 HB1 HR0 HR1 N1 N2
    obtain ⟨f, rfl, hf, hkq, HO5, HO6, HB⟩ := hrel
    by_cases hlt : f ≤ 3
    · have q1 : decide ((f : Int) ≤ 3) = true := decide_eq_true (by omega)
      have hix := idx_f f hlt
      have HF' := Aside0.mk (flip_le hlt)
      have ej := Aside0.mk (Pure.join_flip hlt X Y HM.out)
      have l1 := Pure.joinF_le f X Y
      have l2 := Pure.joinF_le (flipF f) Y X
      obtain ⟨L, hL⟩ : ∃ L, joinF f X Y = L := ⟨_, rfl⟩
      obtain ⟨M, hM⟩ : ∃ M, joinF (flipF f) Y X = M := ⟨_, rfl⟩
      rw [hL] at l1 ej
      rw [hM] at l2 ej
      obtain ⟨K1, s1⟩ := Pure.sorted_ev L (by omega)
      obtain ⟨K2, s2⟩ := Pure.sorted_ev M (by omega)
      obtain ⟨K3, s3⟩ := Pure.same_ev (sortT L []) (sortT M []) (by rw [Pure.sortT_len]; omega)
      have hs3 := s3 K3 (Nat.le_refl _)
      rw [decide_eq_true ej.out] at hs3
      have S1 := Aside0.mk (s1 K1 (Nat.le_refl _))
      have S2 := Aside0.mk (s2 K2 (Nat.le_refl _))
      have S3 := Aside0.mk hs3
      have HL := Aside0.mk hL
      have HMm := Aside0.mk hM
      clear s1 s2 s3 hs3 hL hM ej
      go_wp2
      refine Reg.region_inv (Reg.tab [(Reg.Is (.int .i64 (f : Int))), (Reg.Is (.slice A5 X.length c5)), (Reg.Is (.slice A6 Y.length c6)), (fun v w_ => Kd.R k30 30 w_ w.heap.size (fun _ => True) v L), (Reg.Is (.agg #[.int .i64 0, .int .i64 1, .int .i64 3, .int .i64 2])), (Reg.Is (.int .i64 (f : Int))), (Reg.Is (.int .i64 ((flipF f : Nat) : Int))), (Reg.Is (.slice A6 Y.length c6)), (Reg.Is (.slice A5 X.length c5)), (fun v w_ => Kd.R k30 30 w_ w.heap.size (fun _ => True) v M), (fun v w_ => Kd.R k30 30 w_ w.heap.size (fun _ => True) v L), (fun v w_ => Kd.R k30 30 w_ w.heap.size (fun _ => True) v M)]) (by kernel_rfl) (by kernel_rfl) (Reg.tab_mono ?mono) ?steps ?fin
      case mono => exact ⟨Reg.Is.mono _, Reg.Is.mono _, Reg.Is.mono _, (fun _ _ _ hb h => Kd.R_below h hb), Reg.Is.mono _, Reg.Is.mono _, Reg.Is.mono _, Reg.Is.mono _, Reg.Is.mono _, (fun _ _ _ hb h => Kd.R_below h hb), (fun _ _ _ hb h => Kd.R_below h hb), (fun _ _ _ hb h => Kd.R_below h hb), trivial⟩
      case steps =>
        refine ⟨?_, ?_, ?_, ?_, ?_, ?_, ?_, ?_, ?_, ?_, ?_, ?_, trivial⟩
        · intro ac w' hb hd hk   -- 0
          replace hb := Reg.below_undrew hb
          have e7 : ac.tmps[7]? = some (.int .i64 (f : Int)) := (hk.1 7 (by kernel_rfl)).trans rfl
          exact Reg.step_value (Reg.wanted_free rfl) (w1 := w') (by go_simp; try rfl) (Below.refl _ _) rfl
        · intro ac w' hb hd hk   -- 1
          replace hb := Reg.below_undrew hb
          have e5 : ac.tmps[5]? = some (.slice A5 X.length c5) := (hk.1 5 (by kernel_rfl)).trans rfl
          exact Reg.step_value (Reg.wanted_free rfl) (w1 := w') (by go_simp; try rfl) (Below.refl _ _) rfl
        · intro ac w' hb hd hk   -- 2
          replace hb := Reg.below_undrew hb
          have e6 : ac.tmps[6]? = some (.slice A6 Y.length c6) := (hk.1 6 (by kernel_rfl)).trans rfl
          exact Reg.step_value (Reg.wanted_free rfl) (w1 := w') (by go_simp; try rfl) (Below.refl _ _) rfl
        · intro ac w' hb hd hk   -- 3
          replace hb := Reg.below_undrew hb
          obtain ⟨v18, e18, t18⟩ := hk.2 0 (by kernel_rfl)
          replace e18 : ac.tmps[18]? = some v18 := e18
          replace e18 : ac.tmps[18]? = some (.int .i64 (f : Int)) := e18.trans (congrArg some t18)
          obtain ⟨v19, e19, t19⟩ := hk.2 1 (by kernel_rfl)
          replace e19 : ac.tmps[19]? = some v19 := e19
          replace e19 : ac.tmps[19]? = some (.slice A5 X.length c5) := e19.trans (congrArg some t19)
          obtain ⟨v20, e20, t20⟩ := hk.2 2 (by kernel_rfl)
          replace e20 : ac.tmps[20]? = some v20 := e20
          replace e20 : ac.tmps[20]? = some (.slice A6 Y.length c6) := e20.trans (congrArg some t20)
          have h1_ := Kd.R_below HO5.out hb
          have h2_ := Kd.R_below HO6.out hb
          refine Reg.step_call (Reg.wanted_free rfl) (by go_simp; try rfl) ((PWi.wide_Join.calls (((f : Nat) : Int) : Int) _ _ X _ _ Y L _ (Kd.R_reads' h1_).2.2 (Kd.R_reads' h1_).2.1 (Kd.R_reads' h2_).2.2 (Kd.R_reads' h2_).2.1 (by rw [Pure.join_f hlt HFX.out HFY.out, HL.out])).mono ?_)
          rintro en w4 ⟨v0, rfl, ho, hb4⟩
          exact ⟨_, rfl, Kd.R_lower ho (Nat.le_trans HB.out.size hb.size), hb4⟩
        · intro ac w' hb hd hk   -- 4
          replace hb := Reg.below_undrew hb
          exact Reg.step_value (Reg.wanted_free rfl) (w1 := w') (by go_simp; try rfl) (Below.refl _ _) rfl
        · intro ac w' hb hd hk   -- 5
          replace hb := Reg.below_undrew hb
          have e7 : ac.tmps[7]? = some (.int .i64 (f : Int)) := (hk.1 7 (by kernel_rfl)).trans rfl
          exact Reg.step_value (Reg.wanted_free rfl) (w1 := w') (by go_simp; try rfl) (Below.refl _ _) rfl
        · intro ac w' hb hd hk   -- 6
          replace hb := Reg.below_undrew hb
          obtain ⟨v22, e22, t22⟩ := hk.2 4 (by kernel_rfl)
          replace e22 : ac.tmps[22]? = some v22 := e22
          replace e22 : ac.tmps[22]? = some (.agg #[.int .i64 0, .int .i64 1, .int .i64 3, .int .i64 2]) := e22.trans (congrArg some t22)
          obtain ⟨v23, e23, t23⟩ := hk.2 5 (by kernel_rfl)
          replace e23 : ac.tmps[23]? = some v23 := e23
          replace e23 : ac.tmps[23]? = some (.int .i64 (f : Int)) := e23.trans (congrArg some t23)
          exact Reg.step_value (Reg.wanted_free rfl) (w1 := w') (by go_simp; first | done | rfl | (rw [hix]; rfl)) (Below.refl _ _) rfl
        · intro ac w' hb hd hk   -- 7
          replace hb := Reg.below_undrew hb
          have e6 : ac.tmps[6]? = some (.slice A6 Y.length c6) := (hk.1 6 (by kernel_rfl)).trans rfl
          exact Reg.step_value (Reg.wanted_free rfl) (w1 := w') (by go_simp; try rfl) (Below.refl _ _) rfl
        · intro ac w' hb hd hk   -- 8
          replace hb := Reg.below_undrew hb
          have e5 : ac.tmps[5]? = some (.slice A5 X.length c5) := (hk.1 5 (by kernel_rfl)).trans rfl
          exact Reg.step_value (Reg.wanted_free rfl) (w1 := w') (by go_simp; try rfl) (Below.refl _ _) rfl
        · intro ac w' hb hd hk   -- 9
          replace hb := Reg.below_undrew hb
          obtain ⟨v24, e24, t24⟩ := hk.2 6 (by kernel_rfl)
          replace e24 : ac.tmps[24]? = some v24 := e24
          replace e24 : ac.tmps[24]? = some (.int .i64 ((flipF f : Nat) : Int)) := e24.trans (congrArg some t24)
          obtain ⟨v25, e25, t25⟩ := hk.2 7 (by kernel_rfl)
          replace e25 : ac.tmps[25]? = some v25 := e25
          replace e25 : ac.tmps[25]? = some (.slice A6 Y.length c6) := e25.trans (congrArg some t25)
          obtain ⟨v26, e26, t26⟩ := hk.2 8 (by kernel_rfl)
          replace e26 : ac.tmps[26]? = some v26 := e26
          replace e26 : ac.tmps[26]? = some (.slice A5 X.length c5) := e26.trans (congrArg some t26)
          have h1_ := Kd.R_below HO6.out hb
          have h2_ := Kd.R_below HO5.out hb
          refine Reg.step_call (Reg.wanted_free rfl) (by go_simp; try rfl) ((PWi.wide_Join.calls (((flipF f : Nat) : Int) : Int) _ _ Y _ _ X M _ (Kd.R_reads' h1_).2.2 (Kd.R_reads' h1_).2.1 (Kd.R_reads' h2_).2.2 (Kd.R_reads' h2_).2.1 (by rw [Pure.join_f HF'.out HFY.out HFX.out, HMm.out])).mono ?_)
          rintro en w4 ⟨v0, rfl, ho, hb4⟩
          exact ⟨_, rfl, Kd.R_lower ho (Nat.le_trans HB.out.size hb.size), hb4⟩
        · intro ac w' hb hd hk   -- 10
          replace hb := Reg.below_undrew hb
          obtain ⟨v21, e21, t21⟩ := hk.2 3 (by kernel_rfl)
          replace e21 : ac.tmps[21]? = some v21 := e21
          replace t21 : (fun v w_ => Kd.R k30 30 w_ w.heap.size (fun _ => True) v L) v21 w' := t21
          exact Reg.step_value (Reg.wanted_free rfl) (w1 := w') (by go_simp; try rfl) (Below.refl _ _) t21
        · intro ac w' hb hd hk   -- 11
          replace hb := Reg.below_undrew hb
          obtain ⟨v27, e27, t27⟩ := hk.2 9 (by kernel_rfl)
          replace e27 : ac.tmps[27]? = some v27 := e27
          replace t27 : (fun v w_ => Kd.R k30 30 w_ w.heap.size (fun _ => True) v M) v27 w' := t27
          exact Reg.step_value (Reg.wanted_free rfl) (w1 := w') (by go_simp; try rfl) (Below.refl _ _) t27
      case fin =>
        intro w' hb
        replace hb := Reg.below_undrew hb
        rintro _ rfl
        rintro _ rfl
        rintro _ rfl
        intro v3 h3
        rintro _ rfl
        rintro _ rfl
        rintro _ rfl
        rintro _ rfl
        rintro _ rfl
        intro v9 h9
        intro v10 h10
        intro v11 h11
        refine Reg.done_nil ?_
        simp only [Act.put, List.setIfInBounds_toArray, List.set_cons_zero, List.set_cons_succ]
        have HB2 := Aside0.mk (HB.out.trans (hb.mono HB.out.size))
        have HO5' := Aside0.mk (Kd.R_below HO5.out hb)
        have HO6' := Aside0.mk (Kd.R_below HO6.out hb)
        have HL8 : Aside0 (Kd.R k30 30 w' w.heap.size (fun _ => True) v10 L) := ⟨h10⟩
        have HL9 : Aside0 (Kd.R k30 30 w' w.heap.size (fun _ => True) v11 M) := ⟨h11⟩
        clear HB HO5 HO6 h10 h11 h3 h9 hb
        obtain ⟨A8, c8, e8⟩ := Kd.R_slice HL8.out
        obtain ⟨A9, c9, e9⟩ := Kd.R_slice HL9.out
        subst e8
        subst e9
        go_wp2_with fail
        (with_reducible refine (PWi.tributarylaw4_sorted.calls K1 A8 c8 L (sortT L []) _ (Kd.R_reads' HL8.out).2.2 (Kd.R_reads' HL8.out).2.1 S1.out).mono ?_)
        rintro e w3 ⟨v3, rfl, ho3, hb3⟩
        have HB3 := Aside0.mk (HB2.out.trans (hb3.mono HB2.out.size))
        have P5 := Aside0.mk (Kd.R_below HO5'.out hb3)
        have P6 := Aside0.mk (Kd.R_below HO6'.out hb3)
        have P9 := Aside0.mk (Kd.R_below HL9.out hb3)
        have P3 := Aside0.mk ho3
        clear hb3 ho3 HB2 HO5' HO6' HL8 HL9
        go_wp2_with fail
        (with_reducible refine (PWi.tributarylaw4_sorted.calls K2 A9 c9 M (sortT M []) _ (Kd.R_reads' P9.out).2.2 (Kd.R_reads' P9.out).2.1 S2.out).mono ?_)
        rintro e w4 ⟨v4, rfl, ho4, hb4⟩
        have HB4 := Aside0.mk (HB3.out.trans (hb4.mono HB3.out.size))
        have Q5 := Aside0.mk (Kd.R_below P5.out hb4)
        have Q6 := Aside0.mk (Kd.R_below P6.out hb4)
        have Q3 := Aside0.mk (Kd.R_below P3.out hb4)
        have Q4 := Aside0.mk ho4
        clear hb4 ho4 HB3 P5 P6 P9 P3
        obtain ⟨A10, c10, e10⟩ := Kd.R_slice Q3.out
        obtain ⟨A11, c11, e11⟩ := Kd.R_slice Q4.out
        subst e10
        subst e11
        go_wp2_with fail
        (with_reducible refine (PWi.tributaryref2_Same.calls K3 A10 c10 (sortT L []) A11 c11 (sortT M []) true _ (Kd.R_reads' Q3.out).2.2 (Kd.R_reads' Q3.out).2.1 (Kd.R_reads' Q4.out).2.2 (Kd.R_reads' Q4.out).2.1 S3.out).mono ?_)
        rintro e w5 ⟨rfl, ⟨nd, rfl⟩⟩
        go_wp2_with fail
        go_roundg (gk - 1)
        case measure => omega
        case rel => exact ⟨f + 1, by go_num, by omega, by omega, ⟨Kd.R_drewN Q5.out nd⟩, ⟨Kd.R_drewN Q6.out nd⟩, ⟨by apply pw_below_drewN; exact HB4.out⟩⟩
    · obtain rfl : f = 4 := by omega
      have q1 : decide (((4 : Nat) : Int) ≤ 3) = false := by decide
      obtain ⟨K, hK⟩ := Pure.told_ev
      have HK := Aside0.mk (hK K (Nat.le_refl _))
      clear hK
      go_wp2_with (first
        | (go_at_call 21; (with_reducible refine (PWi.tributarylaw4_told.calls K true _ HK.out).mono ?_); rintro e w3 ⟨rfl, hb⟩))
      go_ret
      exact ⟨rfl, HB.out.trans (hb.mono HB.out.size)⟩
def tributarylaw4_WideTurned.f (l0 l1 : List S30) : Option Bool := if fits (l0.take 8) ∧ fits (l1.take 8) then some true else none
theorem tributarylaw4_WideTurned.calls (A0 : Option Addr) (c0 : Nat) (l0 : List S30) (A1 : Option Addr) (c1 : Nat) (l1 : List S30) (r : Bool) (w : World) (hr0 : Kd.C k30 w A0 l0.length l0) (hc0 : l0.length ≤ c0) (hr1 : Kd.C k30 w A1 l1.length l1) (hc1 : l1.length ≤ c1) (h : tributarylaw4_WideTurned.f l0 l1 = some r) :
    Calls Try.prog 8 #[.slice A0 l0.length c0, .slice A1 l1.length c1] w fun e w' => e = .returned (.bool r) ∧ Below w.heap.size w w' := by
  unfold tributarylaw4_WideTurned.f at h
  by_cases hf : fits (l0.take 8) ∧ fits (l1.take 8)
  · rw [if_pos hf] at h
    obtain rfl := Option.some.inj h
    exact turned_law A0 c0 l0 A1 c1 l1 w hr0 hc0 hr1 hc1 _ _ rfl rfl hf.1 hf.2
  · rw [if_neg hf] at h; cases h
end Go.Proofs.Ytbbjkgpilmcldaa.PWt
