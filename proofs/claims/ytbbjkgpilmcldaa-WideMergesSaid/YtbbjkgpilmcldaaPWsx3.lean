-- written by a program of this session, a turned copy of the print tool
import Derived.Test.YtbbjkgpilmcldaaPWsx0
import Derived.Test.YtbbjkgpilmcldaaPWsx2
import Derived.Test.YtbbjkgpilmcldaaPWsg
namespace Go.Proofs.Ytbbjkgpilmcldaa.PWs
open Go.RowKit Go.Proofs.YtbbjkgpilmcldaaW.PrintWords Go.Proofs.YtbbjkgpilmcldaaW.PrintLast Go.Proofs.YtbbjkgpilmcldaaW.PrintMore
attribute [local go_sem] max2_int min2_int max_two min_two max_three min_three max_four min_four   -- for this text's walks alone
set_option linter.unusedVariables false
set_option linter.unusedSimpArgs false

/-! ### tributarylaw4_WideSums: function 6 -/
mutual
def tributarylaw4_WideSums.l0 : Nat → List (S30) → Int → Int → Int → Option (Bool)
  | 0, _, _, _, _ => none
  | k + 1, x3, x4, x5, x6 => if x6 < (x3.length : Int) then (if 0 ≤ x6 then (tributarylaw4_WideSums.l0 k x3 (wrap64 (x4 + ((rd_T30 x3 x6).f1))) x5 (wrap64 (x6 + 1))) else (none)) else ((wide_Reduce.f 0 x3).bind fun t157 => ((wide_Reduce.f 3 x3).bind fun t160 => ((wide_Reduce.f 1 x3).bind fun t163 => ((wide_Reduce.f 2 x3).bind fun t166 => ((wide_Reduce.f 4 x3).bind fun t169 => ((wide_Reduce.f 5 x3).bind fun t172 => (if (t160.length : Int) = (t157.length : Int) then (if (t163.length : Int) = (t157.length : Int) then (if (t166.length : Int) = (t157.length : Int) then (if (t169.length : Int) = (t157.length : Int) then (tributarylaw4_WideSums.j1 k x3 x4 x5 t157 t160 t163 t166 t169 t172 ((t172.length : Int) != (t157.length : Int))) else (tributarylaw4_WideSums.j1 k x3 x4 x5 t157 t160 t163 t166 t169 t172 true)) else (tributarylaw4_WideSums.j1 k x3 x4 x5 t157 t160 t163 t166 t169 t172 true)) else (tributarylaw4_WideSums.j1 k x3 x4 x5 t157 t160 t163 t166 t169 t172 true)) else (tributarylaw4_WideSums.j1 k x3 x4 x5 t157 t160 t163 t166 t169 t172 true))))))))
def tributarylaw4_WideSums.j1 : Nat → List (S30) → Int → Int → List (S30) → List (S30) → List (S30) → List (S30) → List (S30) → List (S30) → Bool → Option (Bool)
  | 0, _, _, _, _, _, _, _, _, _, _ => none
  | k + 1, x3, x4, x5, x7, x8, x9, x10, x11, x12, x73 => if x73 = true then (none) else (tributarylaw4_WideSums.l1 k x3 x4 x5 x7 x8 x9 x10 x11 x12 0)
def tributarylaw4_WideSums.l1 : Nat → List (S30) → Int → Int → List (S30) → List (S30) → List (S30) → List (S30) → List (S30) → List (S30) → Int → Option (Bool)
  | 0, _, _, _, _, _, _, _, _, _, _ => none
  | k + 1, x3, x4, x5, x7, x8, x9, x10, x11, x12, x13 => if x13 < (x7.length : Int) then (if 0 ≤ x13 then (if x13 < (x8.length : Int) then (if x13 < (x9.length : Int) then (if x13 < (x10.length : Int) then (if ((rd_T30 x9 x13).f1) > ((rd_T30 x10 x13).f1) then (none) else (if x13 < (x11.length : Int) then (if ((rd_T30 x11 x13).f1) < ((rd_T30 x9 x13).f1) then (none) else (if ((rd_T30 x11 x13).f1) > ((rd_T30 x10 x13).f1) then (none) else (if x13 < (x12.length : Int) then (if ((rd_T30 x12 x13).f1) < ((rd_T30 x9 x13).f1) then (none) else (if ((rd_T30 x12 x13).f1) > ((rd_T30 x10 x13).f1) then (none) else (if ((rd_T30 x8 x13).f1) < 1 then (none) else (if ((rd_T30 x8 x13).f0) = ((rd_T30 x7 x13).f0) then (tributarylaw4_WideSums.l1 k x3 (wrap64 (x4 - ((rd_T30 x7 x13).f1))) (wrap64 (x5 + ((rd_T30 x8 x13).f1))) x7 x8 x9 x10 x11 x12 (wrap64 (x13 + 1))) else (none))))) else (none)))) else (none))) else (none)) else (none)) else (none)) else (none)) else ((tributarylaw4_told.f k).bind fun t190 => (if t190 = true then (if x4 = 0 then (some (x5 == (x3.length : Int))) else (none)) else (none)))
end
def tributarylaw4_WideSums.f (k : Nat) (l0 : List (S30)) : Option (Bool) := (tributarylaw4_few.f l0 60).bind fun t153 => (tributarylaw4_WideSums.l0 k t153 0 0 0)
theorem tributarylaw4_WideSums.mono_l : ∀ k, (∀ y0 y1 y2 y3, LeO (tributarylaw4_WideSums.l0 k y0 y1 y2 y3) (tributarylaw4_WideSums.l0 (k + 1) y0 y1 y2 y3)) ∧ (∀ y0 y1 y2 y3 y4 y5 y6 y7 y8 y9, LeO (tributarylaw4_WideSums.j1 k y0 y1 y2 y3 y4 y5 y6 y7 y8 y9) (tributarylaw4_WideSums.j1 (k + 1) y0 y1 y2 y3 y4 y5 y6 y7 y8 y9)) ∧ (∀ y0 y1 y2 y3 y4 y5 y6 y7 y8 y9, LeO (tributarylaw4_WideSums.l1 k y0 y1 y2 y3 y4 y5 y6 y7 y8 y9) (tributarylaw4_WideSums.l1 (k + 1) y0 y1 y2 y3 y4 y5 y6 y7 y8 y9))
  | 0 => ⟨fun _ _ _ _ r h => by simp [tributarylaw4_WideSums.l0] at h, fun _ _ _ _ _ _ _ _ _ _ r h => by simp [tributarylaw4_WideSums.j1] at h, fun _ _ _ _ _ _ _ _ _ _ r h => by simp [tributarylaw4_WideSums.l1] at h⟩
  | k + 1 => by
    obtain ⟨ih0, ih1, ih2⟩ := tributarylaw4_WideSums.mono_l k
    refine ⟨?_, ?_, ?_⟩
    · intro y0 y1 y2 y3
      unfold tributarylaw4_WideSums.l0
      repeat' first
      | (with_reducible exact ih0 _ _ _ _)
      | (with_reducible exact ih1 _ _ _ _ _ _ _ _ _ _)
      | (with_reducible exact ih2 _ _ _ _ _ _ _ _ _ _)
      | (with_reducible exact tributarylaw4_told.mono _)
      | (with_reducible exact LeO.refl _)
      | (with_reducible exact LeO.none _)
      | (with_reducible refine LeO.ite ?_ ?_)
      | (with_reducible refine LeO.bind ?_ (fun _ => ?_))
      | exact ih0 _ _ _ _
      | exact ih1 _ _ _ _ _ _ _ _ _ _
      | exact ih2 _ _ _ _ _ _ _ _ _ _
      | exact tributarylaw4_told.mono _
      | exact LeO.none _
      | refine LeO.ite ?_ ?_
      | refine LeO.bind ?_ (fun _ => ?_)
    · intro y0 y1 y2 y3 y4 y5 y6 y7 y8 y9
      unfold tributarylaw4_WideSums.j1
      repeat' first
      | (with_reducible exact ih0 _ _ _ _)
      | (with_reducible exact ih1 _ _ _ _ _ _ _ _ _ _)
      | (with_reducible exact ih2 _ _ _ _ _ _ _ _ _ _)
      | (with_reducible exact tributarylaw4_told.mono _)
      | (with_reducible exact LeO.refl _)
      | (with_reducible exact LeO.none _)
      | (with_reducible refine LeO.ite ?_ ?_)
      | (with_reducible refine LeO.bind ?_ (fun _ => ?_))
      | exact ih0 _ _ _ _
      | exact ih1 _ _ _ _ _ _ _ _ _ _
      | exact ih2 _ _ _ _ _ _ _ _ _ _
      | exact tributarylaw4_told.mono _
      | exact LeO.none _
      | refine LeO.ite ?_ ?_
      | refine LeO.bind ?_ (fun _ => ?_)
    · intro y0 y1 y2 y3 y4 y5 y6 y7 y8 y9
      unfold tributarylaw4_WideSums.l1
      repeat' first
      | (with_reducible exact ih0 _ _ _ _)
      | (with_reducible exact ih1 _ _ _ _ _ _ _ _ _ _)
      | (with_reducible exact ih2 _ _ _ _ _ _ _ _ _ _)
      | (with_reducible exact tributarylaw4_told.mono _)
      | (with_reducible exact LeO.refl _)
      | (with_reducible exact LeO.none _)
      | (with_reducible refine LeO.ite ?_ ?_)
      | (with_reducible refine LeO.bind ?_ (fun _ => ?_))
      | exact ih0 _ _ _ _
      | exact ih1 _ _ _ _ _ _ _ _ _ _
      | exact ih2 _ _ _ _ _ _ _ _ _ _
      | exact tributarylaw4_told.mono _
      | exact LeO.none _
      | refine LeO.ite ?_ ?_
      | refine LeO.bind ?_ (fun _ => ?_)
theorem tributarylaw4_WideSums.mono : ∀ a0 k, LeO (tributarylaw4_WideSums.f k a0) (tributarylaw4_WideSums.f (k + 1) a0) := by
  intro a0 k
  obtain ⟨ih0, ih1, ih2⟩ := tributarylaw4_WideSums.mono_l k
  unfold tributarylaw4_WideSums.f
  repeat' first
      | (with_reducible exact ih0 _ _ _ _)
      | (with_reducible exact ih1 _ _ _ _ _ _ _ _ _ _)
      | (with_reducible exact ih2 _ _ _ _ _ _ _ _ _ _)
      | (with_reducible exact tributarylaw4_told.mono _)
      | (with_reducible exact LeO.refl _)
      | (with_reducible exact LeO.none _)
      | (with_reducible refine LeO.ite ?_ ?_)
      | (with_reducible refine LeO.bind ?_ (fun _ => ?_))
      | exact ih0 _ _ _ _
      | exact ih1 _ _ _ _ _ _ _ _ _ _
      | exact ih2 _ _ _ _ _ _ _ _ _ _
      | exact tributarylaw4_told.mono _
      | exact LeO.none _
      | refine LeO.ite ?_ ?_
      | refine LeO.bind ?_ (fun _ => ?_)
set_option maxHeartbeats 8000000 in
set_option maxRecDepth 100000 in
theorem tributarylaw4_WideSums.calls (k : Nat) (A0 : Option Addr) (c0 : Nat) (l0 : List (S30)) (r : Bool) (w : World) (hr0 : Kd.C k30 w A0 l0.length l0) (hc0 : l0.length ≤ c0) (h : tributarylaw4_WideSums.f k l0 = some r) :
    Calls Try.prog 6 #[.slice A0 l0.length c0] w fun e w' => e = .returned (.bool r) ∧ Below w.heap.size w w' := by
  have HR0 := Aside0.mk hr0
  have HC0 := Aside0.mk hc0
  clear hr0 hc0
  have HB := Aside0.mk (Below.refl w.heap.size w)
  have H : ((tributarylaw4_few.f l0 60).bind fun t153 => (tributarylaw4_WideSums.l0 k t153 0 0 0)) = some r := h
  clear h
  replace H := Option.bind_eq_some_iff.mp H
  obtain ⟨t153, A20, H⟩ := H
  replace H : (tributarylaw4_WideSums.l0 k t153 0 0 0) = some r := H
  have A2 := Aside0.mk A20
  clear A20
  have H' := Aside0.mk H
  clear H
  go_enter Try.func6, Try.ntmps6
  go_wp2_with (first | (go_at_call 20; (with_reducible refine (tributarylaw4_few.calls _ _ l0 60 t153 _ ?side1 ?side2 A2.out).mono ?_); (case side1 => repeat (first | exact HR0.out | (with_reducible refine Kd.C_alloc ?_ _) | (with_reducible refine Kd.C_drewN ?_ _) | (with_reducible refine Kd.C_drew ?_))); (case side2 => exact HC0.out); rintro e w3 ⟨v154, rfl, ho0, hb⟩; have n0_ := Aside0.mk (Kd.R_lower ho0 (below_size (by repeat (first | (with_reducible first | exact HB.out | apply below_alloc | apply pw_below_drewN | apply below_drew1) | exact HB.out)))); have n1_ := Aside0.mk (below_step (by repeat (first | (with_reducible first | exact HB.out | apply below_alloc | apply pw_below_drewN | apply below_drew1) | exact HB.out)) hb); clear HB; have HO155 := n0_; have HB := n1_; clear n0_ n1_; (try clear hb); (try clear hb2); (try clear hk); (try clear hi); (try clear ho0)))
  repeat (go_quiet (first | (go_at_call 20; (with_reducible refine (tributarylaw4_few.calls _ _ l0 60 t153 _ ?side1 ?side2 A2.out).mono ?_); (case side1 => repeat (first | exact HR0.out | (with_reducible refine Kd.C_alloc ?_ _) | (with_reducible refine Kd.C_drewN ?_ _) | (with_reducible refine Kd.C_drew ?_))); (case side2 => exact HC0.out); rintro e w3 ⟨v154, rfl, ho0, hb⟩; have n0_ := Aside0.mk (Kd.R_lower ho0 (below_size (by repeat (first | (with_reducible first | exact HB.out | apply below_alloc | apply pw_below_drewN | apply below_drew1) | exact HB.out)))); have n1_ := Aside0.mk (below_step (by repeat (first | (with_reducible first | exact HB.out | apply below_alloc | apply pw_below_drewN | apply below_drew1) | exact HB.out)) hb); clear HB; have HO155 := n0_; have HB := n1_; clear n0_ n1_; (try clear hb); (try clear hb2); (try clear hk); (try clear hi); (try clear ho0))); try go_wp2_with (first | (go_at_call 20; (with_reducible refine (tributarylaw4_few.calls _ _ l0 60 t153 _ ?side1 ?side2 A2.out).mono ?_); (case side1 => repeat (first | exact HR0.out | (with_reducible refine Kd.C_alloc ?_ _) | (with_reducible refine Kd.C_drewN ?_ _) | (with_reducible refine Kd.C_drew ?_))); (case side2 => exact HC0.out); rintro e w3 ⟨v154, rfl, ho0, hb⟩; have n0_ := Aside0.mk (Kd.R_lower ho0 (below_size (by repeat (first | (with_reducible first | exact HB.out | apply below_alloc | apply pw_below_drewN | apply below_drew1) | exact HB.out)))); have n1_ := Aside0.mk (below_step (by repeat (first | (with_reducible first | exact HB.out | apply below_alloc | apply pw_below_drewN | apply below_drew1) | exact HB.out)) hb); clear HB; have HO155 := n0_; have HB := n1_; clear n0_ n1_; (try clear hb); (try clear hb2); (try clear hk); (try clear hi); (try clear ho0))))
  go_loopg [4, 6] k (fun kq v4 v6 w' => ∃ (x4_1 : Int) (x6_1 : Int), v4 = .int .i64 x4_1 ∧ v6 = .int .i64 x6_1 ∧ Aside0 (tributarylaw4_WideSums.l0 kq t153 x4_1 0 x6_1 = some r) ∧ Aside0 (kq ≤ k) ∧ Aside0 (Kd.R k30 30 w' w.heap.size (fun _ => True) v154 t153) ∧ Aside0 (Below w.heap.size w w'))
  case atStart => exact ⟨(0), (0), (by first | rfl | (simp; done) | (simp [*]; done)), (by first | rfl | (simp; done) | (simp [*]; done)), H', ⟨Nat.le_refl _⟩, ⟨by (with_reducible repeat (first | apply Kd.R_alloc | apply Kd.R_drewN | apply Kd.R_drew)); exact HO155.out⟩, ⟨by repeat (first | (with_reducible first | exact HB.out | apply below_alloc | apply pw_below_drewN | apply below_drew1) | exact HB.out)⟩⟩
  case round =>
    clear H'
    try clear p2
    obtain ⟨x4_1, x6_1, rfl, rfl, HA, HK1, HO_3, HB⟩ := hrel
    cases gk with
    | zero => exact absurd HA.out (by simp [tributarylaw4_WideSums.l0])
    | succ k1 =>
      have H := HA.out
      clear HA
      simp only [tributarylaw4_WideSums.l0] at H
      by_cases c4 : x6_1 < (t153.length : Int)
      · as_aux_lemma =>
          rw [if_pos c4] at H
          have c4b0 : decide (x6_1 < (t153.length : Int)) = true := decide_eq_true c4
          clear c4
          by_cases c5 : 0 ≤ x6_1
          · as_aux_lemma =>
              rw [if_pos c5] at H
              have c5b0 : decide (0 ≤ x6_1) = true := decide_eq_true c5
              clear c5
              have H' := Aside0.mk H
              clear H
              obtain ⟨Ao6, co6, eo6⟩ := Kd.R_slice HO_3.out
              subst eo6
              have p156 : 0 ≤ (x6_1 : Int) := of_decide_eq_true (by first | (with_reducible assumption) | assumption)
              have q156 : x6_1 < (t153.length : Int) := of_decide_eq_true (by first | (with_reducible assumption) | assumption)
              obtain ⟨ad156, e156, hx156_0, hx156_1⟩ := at_T30 (Kd.R_reads' HO_3.out).2.2 x6_1 p156 q156
              cases e156
              replace p156 := eq_true p156
              replace q156 := eq_true q156
              go_wp2
              repeat (go_quiet (fail); try go_wp2)
              go_roundg k1
              case measure => have := HK1.out; omega
              case rel => exact ⟨(wrap64 (x4_1 + ((rd_T30 t153 x6_1).f1))), (wrap64 (x6_1 + 1)), (by first | rfl | (simp; done) | (simp [*]; done)), (by first | rfl | (simp; done) | (simp [*]; done)), H', ⟨by have := HK1.out; omega⟩, ⟨by (with_reducible repeat (first | apply Kd.R_alloc | apply Kd.R_drewN | apply Kd.R_drew)); exact HO_3.out⟩, ⟨by repeat (first | (with_reducible first | exact HB.out | apply below_alloc | apply pw_below_drewN | apply below_drew1) | exact HB.out)⟩⟩
          · rw [if_neg c5] at H
            exact absurd H (by simp)
      · as_aux_lemma =>
          rw [if_neg c4] at H
          have c4b0 : decide (x6_1 < (t153.length : Int)) = false := decide_eq_false c4
          clear c4
          replace H := Option.bind_eq_some_iff.mp H
          obtain ⟨t157, A70, H⟩ := H
          replace H : ((wide_Reduce.f 3 t153).bind fun t160 => ((wide_Reduce.f 1 t153).bind fun t163 => ((wide_Reduce.f 2 t153).bind fun t166 => ((wide_Reduce.f 4 t153).bind fun t169 => ((wide_Reduce.f 5 t153).bind fun t172 => (if (t160.length : Int) = (t157.length : Int) then (if (t163.length : Int) = (t157.length : Int) then (if (t166.length : Int) = (t157.length : Int) then (if (t169.length : Int) = (t157.length : Int) then (tributarylaw4_WideSums.j1 k1 t153 x4_1 0 t157 t160 t163 t166 t169 t172 ((t172.length : Int) != (t157.length : Int))) else (tributarylaw4_WideSums.j1 k1 t153 x4_1 0 t157 t160 t163 t166 t169 t172 true)) else (tributarylaw4_WideSums.j1 k1 t153 x4_1 0 t157 t160 t163 t166 t169 t172 true)) else (tributarylaw4_WideSums.j1 k1 t153 x4_1 0 t157 t160 t163 t166 t169 t172 true)) else (tributarylaw4_WideSums.j1 k1 t153 x4_1 0 t157 t160 t163 t166 t169 t172 true))))))) = some r := H
          have A7 := Aside0.mk A70
          clear A70
          replace H := Option.bind_eq_some_iff.mp H
          obtain ⟨t160, A80, H⟩ := H
          replace H : ((wide_Reduce.f 1 t153).bind fun t163 => ((wide_Reduce.f 2 t153).bind fun t166 => ((wide_Reduce.f 4 t153).bind fun t169 => ((wide_Reduce.f 5 t153).bind fun t172 => (if (t160.length : Int) = (t157.length : Int) then (if (t163.length : Int) = (t157.length : Int) then (if (t166.length : Int) = (t157.length : Int) then (if (t169.length : Int) = (t157.length : Int) then (tributarylaw4_WideSums.j1 k1 t153 x4_1 0 t157 t160 t163 t166 t169 t172 ((t172.length : Int) != (t157.length : Int))) else (tributarylaw4_WideSums.j1 k1 t153 x4_1 0 t157 t160 t163 t166 t169 t172 true)) else (tributarylaw4_WideSums.j1 k1 t153 x4_1 0 t157 t160 t163 t166 t169 t172 true)) else (tributarylaw4_WideSums.j1 k1 t153 x4_1 0 t157 t160 t163 t166 t169 t172 true)) else (tributarylaw4_WideSums.j1 k1 t153 x4_1 0 t157 t160 t163 t166 t169 t172 true)))))) = some r := H
          have A8 := Aside0.mk A80
          clear A80
          replace H := Option.bind_eq_some_iff.mp H
          obtain ⟨t163, A90, H⟩ := H
          replace H : ((wide_Reduce.f 2 t153).bind fun t166 => ((wide_Reduce.f 4 t153).bind fun t169 => ((wide_Reduce.f 5 t153).bind fun t172 => (if (t160.length : Int) = (t157.length : Int) then (if (t163.length : Int) = (t157.length : Int) then (if (t166.length : Int) = (t157.length : Int) then (if (t169.length : Int) = (t157.length : Int) then (tributarylaw4_WideSums.j1 k1 t153 x4_1 0 t157 t160 t163 t166 t169 t172 ((t172.length : Int) != (t157.length : Int))) else (tributarylaw4_WideSums.j1 k1 t153 x4_1 0 t157 t160 t163 t166 t169 t172 true)) else (tributarylaw4_WideSums.j1 k1 t153 x4_1 0 t157 t160 t163 t166 t169 t172 true)) else (tributarylaw4_WideSums.j1 k1 t153 x4_1 0 t157 t160 t163 t166 t169 t172 true)) else (tributarylaw4_WideSums.j1 k1 t153 x4_1 0 t157 t160 t163 t166 t169 t172 true))))) = some r := H
          have A9 := Aside0.mk A90
          clear A90
          replace H := Option.bind_eq_some_iff.mp H
          obtain ⟨t166, A100, H⟩ := H
          replace H : ((wide_Reduce.f 4 t153).bind fun t169 => ((wide_Reduce.f 5 t153).bind fun t172 => (if (t160.length : Int) = (t157.length : Int) then (if (t163.length : Int) = (t157.length : Int) then (if (t166.length : Int) = (t157.length : Int) then (if (t169.length : Int) = (t157.length : Int) then (tributarylaw4_WideSums.j1 k1 t153 x4_1 0 t157 t160 t163 t166 t169 t172 ((t172.length : Int) != (t157.length : Int))) else (tributarylaw4_WideSums.j1 k1 t153 x4_1 0 t157 t160 t163 t166 t169 t172 true)) else (tributarylaw4_WideSums.j1 k1 t153 x4_1 0 t157 t160 t163 t166 t169 t172 true)) else (tributarylaw4_WideSums.j1 k1 t153 x4_1 0 t157 t160 t163 t166 t169 t172 true)) else (tributarylaw4_WideSums.j1 k1 t153 x4_1 0 t157 t160 t163 t166 t169 t172 true)))) = some r := H
          have A10 := Aside0.mk A100
          clear A100
          replace H := Option.bind_eq_some_iff.mp H
          obtain ⟨t169, A110, H⟩ := H
          replace H : ((wide_Reduce.f 5 t153).bind fun t172 => (if (t160.length : Int) = (t157.length : Int) then (if (t163.length : Int) = (t157.length : Int) then (if (t166.length : Int) = (t157.length : Int) then (if (t169.length : Int) = (t157.length : Int) then (tributarylaw4_WideSums.j1 k1 t153 x4_1 0 t157 t160 t163 t166 t169 t172 ((t172.length : Int) != (t157.length : Int))) else (tributarylaw4_WideSums.j1 k1 t153 x4_1 0 t157 t160 t163 t166 t169 t172 true)) else (tributarylaw4_WideSums.j1 k1 t153 x4_1 0 t157 t160 t163 t166 t169 t172 true)) else (tributarylaw4_WideSums.j1 k1 t153 x4_1 0 t157 t160 t163 t166 t169 t172 true)) else (tributarylaw4_WideSums.j1 k1 t153 x4_1 0 t157 t160 t163 t166 t169 t172 true))) = some r := H
          have A11 := Aside0.mk A110
          clear A110
          replace H := Option.bind_eq_some_iff.mp H
          obtain ⟨t172, A120, H⟩ := H
          replace H : (if (t160.length : Int) = (t157.length : Int) then (if (t163.length : Int) = (t157.length : Int) then (if (t166.length : Int) = (t157.length : Int) then (if (t169.length : Int) = (t157.length : Int) then (tributarylaw4_WideSums.j1 k1 t153 x4_1 0 t157 t160 t163 t166 t169 t172 ((t172.length : Int) != (t157.length : Int))) else (tributarylaw4_WideSums.j1 k1 t153 x4_1 0 t157 t160 t163 t166 t169 t172 true)) else (tributarylaw4_WideSums.j1 k1 t153 x4_1 0 t157 t160 t163 t166 t169 t172 true)) else (tributarylaw4_WideSums.j1 k1 t153 x4_1 0 t157 t160 t163 t166 t169 t172 true)) else (tributarylaw4_WideSums.j1 k1 t153 x4_1 0 t157 t160 t163 t166 t169 t172 true)) = some r := H
          have A12 := Aside0.mk A120
          clear A120
          have HC13 := Aside0.mk H
          clear H
          obtain ⟨Ao14, co14, eo14⟩ := Kd.R_slice HO_3.out
          subst eo14
          go_upto_region 8 with (first | (go_at_call 23; (with_reducible refine (wide_Reduce.calls 0 _ _ t153 t157 _ ?side1 ?side2 A7.out).mono ?_); (case side1 => repeat (first | exact (Kd.R_reads' HO_3.out).2.2 | (with_reducible refine Kd.C_alloc ?_ _) | (with_reducible refine Kd.C_drewN ?_ _) | (with_reducible refine Kd.C_drew ?_))); (case side2 => exact (Kd.R_reads' HO_3.out).2.1); rintro e w15 ⟨v158, rfl, ho0, hb⟩; have n0_ := Aside0.mk (Kd.R_elder' (by (with_reducible repeat (first | apply Kd.R_alloc | apply Kd.R_drewN | apply Kd.R_drew)); exact HO_3.out) (Kd.R_base ho0) hb); have n1_ := Aside0.mk (Kd.R_lower (Kd.R_new' ho0 (Kd.R_lt (by (with_reducible repeat (first | apply Kd.R_alloc | apply Kd.R_drewN | apply Kd.R_drew)); exact HO_3.out))) (below_size (by repeat (first | (with_reducible first | exact HB.out | apply below_alloc | apply pw_below_drewN | apply below_drew1) | exact HB.out)))); have n2_ := Aside0.mk (below_step (by repeat (first | (with_reducible first | exact HB.out | apply below_alloc | apply pw_below_drewN | apply below_drew1) | exact HB.out)) hb); clear HO_3; clear HB; have HO_3 := n0_; have HO159 := n1_; have HB := n2_; clear n0_ n1_ n2_; (try clear hb); (try clear hb2); (try clear hk); (try clear hi); (try clear ho0)) | (go_at_call 23; (with_reducible refine (wide_Reduce.calls 3 _ _ t153 t160 _ ?side1 ?side2 A8.out).mono ?_); (case side1 => repeat (first | exact (Kd.R_reads' HO_3.out).2.2 | (with_reducible refine Kd.C_alloc ?_ _) | (with_reducible refine Kd.C_drewN ?_ _) | (with_reducible refine Kd.C_drew ?_))); (case side2 => exact (Kd.R_reads' HO_3.out).2.1); rintro e w16 ⟨v161, rfl, ho0, hb⟩; have n0_ := Aside0.mk (Kd.R_elder' (by (with_reducible repeat (first | apply Kd.R_alloc | apply Kd.R_drewN | apply Kd.R_drew)); exact HO_3.out) (Kd.R_base ho0) hb); have n1_ := Aside0.mk (Kd.R_elder' (by (with_reducible repeat (first | apply Kd.R_alloc | apply Kd.R_drewN | apply Kd.R_drew)); exact HO159.out) (Kd.R_base ho0) hb); have n2_ := Aside0.mk (Kd.R_lower (Kd.R_new' (Kd.R_new' ho0 (Kd.R_lt (by (with_reducible repeat (first | apply Kd.R_alloc | apply Kd.R_drewN | apply Kd.R_drew)); exact HO_3.out))) (Kd.R_lt (by (with_reducible repeat (first | apply Kd.R_alloc | apply Kd.R_drewN | apply Kd.R_drew)); exact HO159.out))) (below_size (by repeat (first | (with_reducible first | exact HB.out | apply below_alloc | apply pw_below_drewN | apply below_drew1) | exact HB.out)))); have n3_ := Aside0.mk (below_step (by repeat (first | (with_reducible first | exact HB.out | apply below_alloc | apply pw_below_drewN | apply below_drew1) | exact HB.out)) hb); clear HO_3; clear HO159; clear HB; have HO_3 := n0_; have HO159 := n1_; have HO162 := n2_; have HB := n3_; clear n0_ n1_ n2_ n3_; (try clear hb); (try clear hb2); (try clear hk); (try clear hi); (try clear ho0)) | (go_at_call 23; (with_reducible refine (wide_Reduce.calls 1 _ _ t153 t163 _ ?side1 ?side2 A9.out).mono ?_); (case side1 => repeat (first | exact (Kd.R_reads' HO_3.out).2.2 | (with_reducible refine Kd.C_alloc ?_ _) | (with_reducible refine Kd.C_drewN ?_ _) | (with_reducible refine Kd.C_drew ?_))); (case side2 => exact (Kd.R_reads' HO_3.out).2.1); rintro e w17 ⟨v164, rfl, ho0, hb⟩; have n0_ := Aside0.mk (Kd.R_elder' (by (with_reducible repeat (first | apply Kd.R_alloc | apply Kd.R_drewN | apply Kd.R_drew)); exact HO_3.out) (Kd.R_base ho0) hb); have n1_ := Aside0.mk (Kd.R_elder' (by (with_reducible repeat (first | apply Kd.R_alloc | apply Kd.R_drewN | apply Kd.R_drew)); exact HO159.out) (Kd.R_base ho0) hb); have n2_ := Aside0.mk (Kd.R_elder' (by (with_reducible repeat (first | apply Kd.R_alloc | apply Kd.R_drewN | apply Kd.R_drew)); exact HO162.out) (Kd.R_base ho0) hb); have n3_ := Aside0.mk (Kd.R_lower (Kd.R_new' (Kd.R_new' (Kd.R_new' ho0 (Kd.R_lt (by (with_reducible repeat (first | apply Kd.R_alloc | apply Kd.R_drewN | apply Kd.R_drew)); exact HO_3.out))) (Kd.R_lt (by (with_reducible repeat (first | apply Kd.R_alloc | apply Kd.R_drewN | apply Kd.R_drew)); exact HO159.out))) (Kd.R_lt (by (with_reducible repeat (first | apply Kd.R_alloc | apply Kd.R_drewN | apply Kd.R_drew)); exact HO162.out))) (below_size (by repeat (first | (with_reducible first | exact HB.out | apply below_alloc | apply pw_below_drewN | apply below_drew1) | exact HB.out)))); have n4_ := Aside0.mk (below_step (by repeat (first | (with_reducible first | exact HB.out | apply below_alloc | apply pw_below_drewN | apply below_drew1) | exact HB.out)) hb); clear HO_3; clear HO159; clear HO162; clear HB; have HO_3 := n0_; have HO159 := n1_; have HO162 := n2_; have HO165 := n3_; have HB := n4_; clear n0_ n1_ n2_ n3_ n4_; (try clear hb); (try clear hb2); (try clear hk); (try clear hi); (try clear ho0)) | (go_at_call 23; (with_reducible refine (wide_Reduce.calls 2 _ _ t153 t166 _ ?side1 ?side2 A10.out).mono ?_); (case side1 => repeat (first | exact (Kd.R_reads' HO_3.out).2.2 | (with_reducible refine Kd.C_alloc ?_ _) | (with_reducible refine Kd.C_drewN ?_ _) | (with_reducible refine Kd.C_drew ?_))); (case side2 => exact (Kd.R_reads' HO_3.out).2.1); rintro e w18 ⟨v167, rfl, ho0, hb⟩; have n0_ := Aside0.mk (Kd.R_elder' (by (with_reducible repeat (first | apply Kd.R_alloc | apply Kd.R_drewN | apply Kd.R_drew)); exact HO_3.out) (Kd.R_base ho0) hb); have n1_ := Aside0.mk (Kd.R_elder' (by (with_reducible repeat (first | apply Kd.R_alloc | apply Kd.R_drewN | apply Kd.R_drew)); exact HO159.out) (Kd.R_base ho0) hb); have n2_ := Aside0.mk (Kd.R_elder' (by (with_reducible repeat (first | apply Kd.R_alloc | apply Kd.R_drewN | apply Kd.R_drew)); exact HO162.out) (Kd.R_base ho0) hb); have n3_ := Aside0.mk (Kd.R_elder' (by (with_reducible repeat (first | apply Kd.R_alloc | apply Kd.R_drewN | apply Kd.R_drew)); exact HO165.out) (Kd.R_base ho0) hb); have n4_ := Aside0.mk (Kd.R_lower (Kd.R_new' (Kd.R_new' (Kd.R_new' (Kd.R_new' ho0 (Kd.R_lt (by (with_reducible repeat (first | apply Kd.R_alloc | apply Kd.R_drewN | apply Kd.R_drew)); exact HO_3.out))) (Kd.R_lt (by (with_reducible repeat (first | apply Kd.R_alloc | apply Kd.R_drewN | apply Kd.R_drew)); exact HO159.out))) (Kd.R_lt (by (with_reducible repeat (first | apply Kd.R_alloc | apply Kd.R_drewN | apply Kd.R_drew)); exact HO162.out))) (Kd.R_lt (by (with_reducible repeat (first | apply Kd.R_alloc | apply Kd.R_drewN | apply Kd.R_drew)); exact HO165.out))) (below_size (by repeat (first | (with_reducible first | exact HB.out | apply below_alloc | apply pw_below_drewN | apply below_drew1) | exact HB.out)))); have n5_ := Aside0.mk (below_step (by repeat (first | (with_reducible first | exact HB.out | apply below_alloc | apply pw_below_drewN | apply below_drew1) | exact HB.out)) hb); clear HO_3; clear HO159; clear HO162; clear HO165; clear HB; have HO_3 := n0_; have HO159 := n1_; have HO162 := n2_; have HO165 := n3_; have HO168 := n4_; have HB := n5_; clear n0_ n1_ n2_ n3_ n4_ n5_; (try clear hb); (try clear hb2); (try clear hk); (try clear hi); (try clear ho0)) | (go_at_call 23; (with_reducible refine (wide_Reduce.calls 4 _ _ t153 t169 _ ?side1 ?side2 A11.out).mono ?_); (case side1 => repeat (first | exact (Kd.R_reads' HO_3.out).2.2 | (with_reducible refine Kd.C_alloc ?_ _) | (with_reducible refine Kd.C_drewN ?_ _) | (with_reducible refine Kd.C_drew ?_))); (case side2 => exact (Kd.R_reads' HO_3.out).2.1); rintro e w19 ⟨v170, rfl, ho0, hb⟩; have n0_ := Aside0.mk (Kd.R_elder' (by (with_reducible repeat (first | apply Kd.R_alloc | apply Kd.R_drewN | apply Kd.R_drew)); exact HO_3.out) (Kd.R_base ho0) hb); have n1_ := Aside0.mk (Kd.R_elder' (by (with_reducible repeat (first | apply Kd.R_alloc | apply Kd.R_drewN | apply Kd.R_drew)); exact HO159.out) (Kd.R_base ho0) hb); have n2_ := Aside0.mk (Kd.R_elder' (by (with_reducible repeat (first | apply Kd.R_alloc | apply Kd.R_drewN | apply Kd.R_drew)); exact HO162.out) (Kd.R_base ho0) hb); have n3_ := Aside0.mk (Kd.R_elder' (by (with_reducible repeat (first | apply Kd.R_alloc | apply Kd.R_drewN | apply Kd.R_drew)); exact HO165.out) (Kd.R_base ho0) hb); have n4_ := Aside0.mk (Kd.R_elder' (by (with_reducible repeat (first | apply Kd.R_alloc | apply Kd.R_drewN | apply Kd.R_drew)); exact HO168.out) (Kd.R_base ho0) hb); have n5_ := Aside0.mk (Kd.R_lower (Kd.R_new' (Kd.R_new' (Kd.R_new' (Kd.R_new' (Kd.R_new' ho0 (Kd.R_lt (by (with_reducible repeat (first | apply Kd.R_alloc | apply Kd.R_drewN | apply Kd.R_drew)); exact HO_3.out))) (Kd.R_lt (by (with_reducible repeat (first | apply Kd.R_alloc | apply Kd.R_drewN | apply Kd.R_drew)); exact HO159.out))) (Kd.R_lt (by (with_reducible repeat (first | apply Kd.R_alloc | apply Kd.R_drewN | apply Kd.R_drew)); exact HO162.out))) (Kd.R_lt (by (with_reducible repeat (first | apply Kd.R_alloc | apply Kd.R_drewN | apply Kd.R_drew)); exact HO165.out))) (Kd.R_lt (by (with_reducible repeat (first | apply Kd.R_alloc | apply Kd.R_drewN | apply Kd.R_drew)); exact HO168.out))) (below_size (by repeat (first | (with_reducible first | exact HB.out | apply below_alloc | apply pw_below_drewN | apply below_drew1) | exact HB.out)))); have n6_ := Aside0.mk (below_step (by repeat (first | (with_reducible first | exact HB.out | apply below_alloc | apply pw_below_drewN | apply below_drew1) | exact HB.out)) hb); clear HO_3; clear HO159; clear HO162; clear HO165; clear HO168; clear HB; have HO_3 := n0_; have HO159 := n1_; have HO162 := n2_; have HO165 := n3_; have HO168 := n4_; have HO171 := n5_; have HB := n6_; clear n0_ n1_ n2_ n3_ n4_ n5_ n6_; (try clear hb); (try clear hb2); (try clear hk); (try clear hi); (try clear ho0)) | (go_at_call 23; (with_reducible refine (wide_Reduce.calls 5 _ _ t153 t172 _ ?side1 ?side2 A12.out).mono ?_); (case side1 => repeat (first | exact (Kd.R_reads' HO_3.out).2.2 | (with_reducible refine Kd.C_alloc ?_ _) | (with_reducible refine Kd.C_drewN ?_ _) | (with_reducible refine Kd.C_drew ?_))); (case side2 => exact (Kd.R_reads' HO_3.out).2.1); rintro e w20 ⟨v173, rfl, ho0, hb⟩; have n0_ := Aside0.mk (Kd.R_elder' (by (with_reducible repeat (first | apply Kd.R_alloc | apply Kd.R_drewN | apply Kd.R_drew)); exact HO_3.out) (Kd.R_base ho0) hb); have n1_ := Aside0.mk (Kd.R_elder' (by (with_reducible repeat (first | apply Kd.R_alloc | apply Kd.R_drewN | apply Kd.R_drew)); exact HO159.out) (Kd.R_base ho0) hb); have n2_ := Aside0.mk (Kd.R_elder' (by (with_reducible repeat (first | apply Kd.R_alloc | apply Kd.R_drewN | apply Kd.R_drew)); exact HO162.out) (Kd.R_base ho0) hb); have n3_ := Aside0.mk (Kd.R_elder' (by (with_reducible repeat (first | apply Kd.R_alloc | apply Kd.R_drewN | apply Kd.R_drew)); exact HO165.out) (Kd.R_base ho0) hb); have n4_ := Aside0.mk (Kd.R_elder' (by (with_reducible repeat (first | apply Kd.R_alloc | apply Kd.R_drewN | apply Kd.R_drew)); exact HO168.out) (Kd.R_base ho0) hb); have n5_ := Aside0.mk (Kd.R_elder' (by (with_reducible repeat (first | apply Kd.R_alloc | apply Kd.R_drewN | apply Kd.R_drew)); exact HO171.out) (Kd.R_base ho0) hb); have n6_ := Aside0.mk (Kd.R_lower (Kd.R_new' (Kd.R_new' (Kd.R_new' (Kd.R_new' (Kd.R_new' (Kd.R_new' ho0 (Kd.R_lt (by (with_reducible repeat (first | apply Kd.R_alloc | apply Kd.R_drewN | apply Kd.R_drew)); exact HO_3.out))) (Kd.R_lt (by (with_reducible repeat (first | apply Kd.R_alloc | apply Kd.R_drewN | apply Kd.R_drew)); exact HO159.out))) (Kd.R_lt (by (with_reducible repeat (first | apply Kd.R_alloc | apply Kd.R_drewN | apply Kd.R_drew)); exact HO162.out))) (Kd.R_lt (by (with_reducible repeat (first | apply Kd.R_alloc | apply Kd.R_drewN | apply Kd.R_drew)); exact HO165.out))) (Kd.R_lt (by (with_reducible repeat (first | apply Kd.R_alloc | apply Kd.R_drewN | apply Kd.R_drew)); exact HO168.out))) (Kd.R_lt (by (with_reducible repeat (first | apply Kd.R_alloc | apply Kd.R_drewN | apply Kd.R_drew)); exact HO171.out))) (below_size (by repeat (first | (with_reducible first | exact HB.out | apply below_alloc | apply pw_below_drewN | apply below_drew1) | exact HB.out)))); have n7_ := Aside0.mk (below_step (by repeat (first | (with_reducible first | exact HB.out | apply below_alloc | apply pw_below_drewN | apply below_drew1) | exact HB.out)) hb); clear HO_3; clear HO159; clear HO162; clear HO165; clear HO168; clear HO171; clear HB; have HO_3 := n0_; have HO159 := n1_; have HO162 := n2_; have HO165 := n3_; have HO168 := n4_; have HO171 := n5_; have HO174 := n6_; have HB := n7_; clear n0_ n1_ n2_ n3_ n4_ n5_ n6_ n7_; (try clear hb); (try clear hb2); (try clear hk); (try clear hi); (try clear ho0)))
          repeat (go_quiet (first | (go_at_call 23; (with_reducible refine (wide_Reduce.calls 0 _ _ t153 t157 _ ?side1 ?side2 A7.out).mono ?_); (case side1 => repeat (first | exact (Kd.R_reads' HO_3.out).2.2 | (with_reducible refine Kd.C_alloc ?_ _) | (with_reducible refine Kd.C_drewN ?_ _) | (with_reducible refine Kd.C_drew ?_))); (case side2 => exact (Kd.R_reads' HO_3.out).2.1); rintro e w15 ⟨v158, rfl, ho0, hb⟩; have n0_ := Aside0.mk (Kd.R_elder' (by (with_reducible repeat (first | apply Kd.R_alloc | apply Kd.R_drewN | apply Kd.R_drew)); exact HO_3.out) (Kd.R_base ho0) hb); have n1_ := Aside0.mk (Kd.R_lower (Kd.R_new' ho0 (Kd.R_lt (by (with_reducible repeat (first | apply Kd.R_alloc | apply Kd.R_drewN | apply Kd.R_drew)); exact HO_3.out))) (below_size (by repeat (first | (with_reducible first | exact HB.out | apply below_alloc | apply pw_below_drewN | apply below_drew1) | exact HB.out)))); have n2_ := Aside0.mk (below_step (by repeat (first | (with_reducible first | exact HB.out | apply below_alloc | apply pw_below_drewN | apply below_drew1) | exact HB.out)) hb); clear HO_3; clear HB; have HO_3 := n0_; have HO159 := n1_; have HB := n2_; clear n0_ n1_ n2_; (try clear hb); (try clear hb2); (try clear hk); (try clear hi); (try clear ho0)) | (go_at_call 23; (with_reducible refine (wide_Reduce.calls 3 _ _ t153 t160 _ ?side1 ?side2 A8.out).mono ?_); (case side1 => repeat (first | exact (Kd.R_reads' HO_3.out).2.2 | (with_reducible refine Kd.C_alloc ?_ _) | (with_reducible refine Kd.C_drewN ?_ _) | (with_reducible refine Kd.C_drew ?_))); (case side2 => exact (Kd.R_reads' HO_3.out).2.1); rintro e w16 ⟨v161, rfl, ho0, hb⟩; have n0_ := Aside0.mk (Kd.R_elder' (by (with_reducible repeat (first | apply Kd.R_alloc | apply Kd.R_drewN | apply Kd.R_drew)); exact HO_3.out) (Kd.R_base ho0) hb); have n1_ := Aside0.mk (Kd.R_elder' (by (with_reducible repeat (first | apply Kd.R_alloc | apply Kd.R_drewN | apply Kd.R_drew)); exact HO159.out) (Kd.R_base ho0) hb); have n2_ := Aside0.mk (Kd.R_lower (Kd.R_new' (Kd.R_new' ho0 (Kd.R_lt (by (with_reducible repeat (first | apply Kd.R_alloc | apply Kd.R_drewN | apply Kd.R_drew)); exact HO_3.out))) (Kd.R_lt (by (with_reducible repeat (first | apply Kd.R_alloc | apply Kd.R_drewN | apply Kd.R_drew)); exact HO159.out))) (below_size (by repeat (first | (with_reducible first | exact HB.out | apply below_alloc | apply pw_below_drewN | apply below_drew1) | exact HB.out)))); have n3_ := Aside0.mk (below_step (by repeat (first | (with_reducible first | exact HB.out | apply below_alloc | apply pw_below_drewN | apply below_drew1) | exact HB.out)) hb); clear HO_3; clear HO159; clear HB; have HO_3 := n0_; have HO159 := n1_; have HO162 := n2_; have HB := n3_; clear n0_ n1_ n2_ n3_; (try clear hb); (try clear hb2); (try clear hk); (try clear hi); (try clear ho0)) | (go_at_call 23; (with_reducible refine (wide_Reduce.calls 1 _ _ t153 t163 _ ?side1 ?side2 A9.out).mono ?_); (case side1 => repeat (first | exact (Kd.R_reads' HO_3.out).2.2 | (with_reducible refine Kd.C_alloc ?_ _) | (with_reducible refine Kd.C_drewN ?_ _) | (with_reducible refine Kd.C_drew ?_))); (case side2 => exact (Kd.R_reads' HO_3.out).2.1); rintro e w17 ⟨v164, rfl, ho0, hb⟩; have n0_ := Aside0.mk (Kd.R_elder' (by (with_reducible repeat (first | apply Kd.R_alloc | apply Kd.R_drewN | apply Kd.R_drew)); exact HO_3.out) (Kd.R_base ho0) hb); have n1_ := Aside0.mk (Kd.R_elder' (by (with_reducible repeat (first | apply Kd.R_alloc | apply Kd.R_drewN | apply Kd.R_drew)); exact HO159.out) (Kd.R_base ho0) hb); have n2_ := Aside0.mk (Kd.R_elder' (by (with_reducible repeat (first | apply Kd.R_alloc | apply Kd.R_drewN | apply Kd.R_drew)); exact HO162.out) (Kd.R_base ho0) hb); have n3_ := Aside0.mk (Kd.R_lower (Kd.R_new' (Kd.R_new' (Kd.R_new' ho0 (Kd.R_lt (by (with_reducible repeat (first | apply Kd.R_alloc | apply Kd.R_drewN | apply Kd.R_drew)); exact HO_3.out))) (Kd.R_lt (by (with_reducible repeat (first | apply Kd.R_alloc | apply Kd.R_drewN | apply Kd.R_drew)); exact HO159.out))) (Kd.R_lt (by (with_reducible repeat (first | apply Kd.R_alloc | apply Kd.R_drewN | apply Kd.R_drew)); exact HO162.out))) (below_size (by repeat (first | (with_reducible first | exact HB.out | apply below_alloc | apply pw_below_drewN | apply below_drew1) | exact HB.out)))); have n4_ := Aside0.mk (below_step (by repeat (first | (with_reducible first | exact HB.out | apply below_alloc | apply pw_below_drewN | apply below_drew1) | exact HB.out)) hb); clear HO_3; clear HO159; clear HO162; clear HB; have HO_3 := n0_; have HO159 := n1_; have HO162 := n2_; have HO165 := n3_; have HB := n4_; clear n0_ n1_ n2_ n3_ n4_; (try clear hb); (try clear hb2); (try clear hk); (try clear hi); (try clear ho0)) | (go_at_call 23; (with_reducible refine (wide_Reduce.calls 2 _ _ t153 t166 _ ?side1 ?side2 A10.out).mono ?_); (case side1 => repeat (first | exact (Kd.R_reads' HO_3.out).2.2 | (with_reducible refine Kd.C_alloc ?_ _) | (with_reducible refine Kd.C_drewN ?_ _) | (with_reducible refine Kd.C_drew ?_))); (case side2 => exact (Kd.R_reads' HO_3.out).2.1); rintro e w18 ⟨v167, rfl, ho0, hb⟩; have n0_ := Aside0.mk (Kd.R_elder' (by (with_reducible repeat (first | apply Kd.R_alloc | apply Kd.R_drewN | apply Kd.R_drew)); exact HO_3.out) (Kd.R_base ho0) hb); have n1_ := Aside0.mk (Kd.R_elder' (by (with_reducible repeat (first | apply Kd.R_alloc | apply Kd.R_drewN | apply Kd.R_drew)); exact HO159.out) (Kd.R_base ho0) hb); have n2_ := Aside0.mk (Kd.R_elder' (by (with_reducible repeat (first | apply Kd.R_alloc | apply Kd.R_drewN | apply Kd.R_drew)); exact HO162.out) (Kd.R_base ho0) hb); have n3_ := Aside0.mk (Kd.R_elder' (by (with_reducible repeat (first | apply Kd.R_alloc | apply Kd.R_drewN | apply Kd.R_drew)); exact HO165.out) (Kd.R_base ho0) hb); have n4_ := Aside0.mk (Kd.R_lower (Kd.R_new' (Kd.R_new' (Kd.R_new' (Kd.R_new' ho0 (Kd.R_lt (by (with_reducible repeat (first | apply Kd.R_alloc | apply Kd.R_drewN | apply Kd.R_drew)); exact HO_3.out))) (Kd.R_lt (by (with_reducible repeat (first | apply Kd.R_alloc | apply Kd.R_drewN | apply Kd.R_drew)); exact HO159.out))) (Kd.R_lt (by (with_reducible repeat (first | apply Kd.R_alloc | apply Kd.R_drewN | apply Kd.R_drew)); exact HO162.out))) (Kd.R_lt (by (with_reducible repeat (first | apply Kd.R_alloc | apply Kd.R_drewN | apply Kd.R_drew)); exact HO165.out))) (below_size (by repeat (first | (with_reducible first | exact HB.out | apply below_alloc | apply pw_below_drewN | apply below_drew1) | exact HB.out)))); have n5_ := Aside0.mk (below_step (by repeat (first | (with_reducible first | exact HB.out | apply below_alloc | apply pw_below_drewN | apply below_drew1) | exact HB.out)) hb); clear HO_3; clear HO159; clear HO162; clear HO165; clear HB; have HO_3 := n0_; have HO159 := n1_; have HO162 := n2_; have HO165 := n3_; have HO168 := n4_; have HB := n5_; clear n0_ n1_ n2_ n3_ n4_ n5_; (try clear hb); (try clear hb2); (try clear hk); (try clear hi); (try clear ho0)) | (go_at_call 23; (with_reducible refine (wide_Reduce.calls 4 _ _ t153 t169 _ ?side1 ?side2 A11.out).mono ?_); (case side1 => repeat (first | exact (Kd.R_reads' HO_3.out).2.2 | (with_reducible refine Kd.C_alloc ?_ _) | (with_reducible refine Kd.C_drewN ?_ _) | (with_reducible refine Kd.C_drew ?_))); (case side2 => exact (Kd.R_reads' HO_3.out).2.1); rintro e w19 ⟨v170, rfl, ho0, hb⟩; have n0_ := Aside0.mk (Kd.R_elder' (by (with_reducible repeat (first | apply Kd.R_alloc | apply Kd.R_drewN | apply Kd.R_drew)); exact HO_3.out) (Kd.R_base ho0) hb); have n1_ := Aside0.mk (Kd.R_elder' (by (with_reducible repeat (first | apply Kd.R_alloc | apply Kd.R_drewN | apply Kd.R_drew)); exact HO159.out) (Kd.R_base ho0) hb); have n2_ := Aside0.mk (Kd.R_elder' (by (with_reducible repeat (first | apply Kd.R_alloc | apply Kd.R_drewN | apply Kd.R_drew)); exact HO162.out) (Kd.R_base ho0) hb); have n3_ := Aside0.mk (Kd.R_elder' (by (with_reducible repeat (first | apply Kd.R_alloc | apply Kd.R_drewN | apply Kd.R_drew)); exact HO165.out) (Kd.R_base ho0) hb); have n4_ := Aside0.mk (Kd.R_elder' (by (with_reducible repeat (first | apply Kd.R_alloc | apply Kd.R_drewN | apply Kd.R_drew)); exact HO168.out) (Kd.R_base ho0) hb); have n5_ := Aside0.mk (Kd.R_lower (Kd.R_new' (Kd.R_new' (Kd.R_new' (Kd.R_new' (Kd.R_new' ho0 (Kd.R_lt (by (with_reducible repeat (first | apply Kd.R_alloc | apply Kd.R_drewN | apply Kd.R_drew)); exact HO_3.out))) (Kd.R_lt (by (with_reducible repeat (first | apply Kd.R_alloc | apply Kd.R_drewN | apply Kd.R_drew)); exact HO159.out))) (Kd.R_lt (by (with_reducible repeat (first | apply Kd.R_alloc | apply Kd.R_drewN | apply Kd.R_drew)); exact HO162.out))) (Kd.R_lt (by (with_reducible repeat (first | apply Kd.R_alloc | apply Kd.R_drewN | apply Kd.R_drew)); exact HO165.out))) (Kd.R_lt (by (with_reducible repeat (first | apply Kd.R_alloc | apply Kd.R_drewN | apply Kd.R_drew)); exact HO168.out))) (below_size (by repeat (first | (with_reducible first | exact HB.out | apply below_alloc | apply pw_below_drewN | apply below_drew1) | exact HB.out)))); have n6_ := Aside0.mk (below_step (by repeat (first | (with_reducible first | exact HB.out | apply below_alloc | apply pw_below_drewN | apply below_drew1) | exact HB.out)) hb); clear HO_3; clear HO159; clear HO162; clear HO165; clear HO168; clear HB; have HO_3 := n0_; have HO159 := n1_; have HO162 := n2_; have HO165 := n3_; have HO168 := n4_; have HO171 := n5_; have HB := n6_; clear n0_ n1_ n2_ n3_ n4_ n5_ n6_; (try clear hb); (try clear hb2); (try clear hk); (try clear hi); (try clear ho0)) | (go_at_call 23; (with_reducible refine (wide_Reduce.calls 5 _ _ t153 t172 _ ?side1 ?side2 A12.out).mono ?_); (case side1 => repeat (first | exact (Kd.R_reads' HO_3.out).2.2 | (with_reducible refine Kd.C_alloc ?_ _) | (with_reducible refine Kd.C_drewN ?_ _) | (with_reducible refine Kd.C_drew ?_))); (case side2 => exact (Kd.R_reads' HO_3.out).2.1); rintro e w20 ⟨v173, rfl, ho0, hb⟩; have n0_ := Aside0.mk (Kd.R_elder' (by (with_reducible repeat (first | apply Kd.R_alloc | apply Kd.R_drewN | apply Kd.R_drew)); exact HO_3.out) (Kd.R_base ho0) hb); have n1_ := Aside0.mk (Kd.R_elder' (by (with_reducible repeat (first | apply Kd.R_alloc | apply Kd.R_drewN | apply Kd.R_drew)); exact HO159.out) (Kd.R_base ho0) hb); have n2_ := Aside0.mk (Kd.R_elder' (by (with_reducible repeat (first | apply Kd.R_alloc | apply Kd.R_drewN | apply Kd.R_drew)); exact HO162.out) (Kd.R_base ho0) hb); have n3_ := Aside0.mk (Kd.R_elder' (by (with_reducible repeat (first | apply Kd.R_alloc | apply Kd.R_drewN | apply Kd.R_drew)); exact HO165.out) (Kd.R_base ho0) hb); have n4_ := Aside0.mk (Kd.R_elder' (by (with_reducible repeat (first | apply Kd.R_alloc | apply Kd.R_drewN | apply Kd.R_drew)); exact HO168.out) (Kd.R_base ho0) hb); have n5_ := Aside0.mk (Kd.R_elder' (by (with_reducible repeat (first | apply Kd.R_alloc | apply Kd.R_drewN | apply Kd.R_drew)); exact HO171.out) (Kd.R_base ho0) hb); have n6_ := Aside0.mk (Kd.R_lower (Kd.R_new' (Kd.R_new' (Kd.R_new' (Kd.R_new' (Kd.R_new' (Kd.R_new' ho0 (Kd.R_lt (by (with_reducible repeat (first | apply Kd.R_alloc | apply Kd.R_drewN | apply Kd.R_drew)); exact HO_3.out))) (Kd.R_lt (by (with_reducible repeat (first | apply Kd.R_alloc | apply Kd.R_drewN | apply Kd.R_drew)); exact HO159.out))) (Kd.R_lt (by (with_reducible repeat (first | apply Kd.R_alloc | apply Kd.R_drewN | apply Kd.R_drew)); exact HO162.out))) (Kd.R_lt (by (with_reducible repeat (first | apply Kd.R_alloc | apply Kd.R_drewN | apply Kd.R_drew)); exact HO165.out))) (Kd.R_lt (by (with_reducible repeat (first | apply Kd.R_alloc | apply Kd.R_drewN | apply Kd.R_drew)); exact HO168.out))) (Kd.R_lt (by (with_reducible repeat (first | apply Kd.R_alloc | apply Kd.R_drewN | apply Kd.R_drew)); exact HO171.out))) (below_size (by repeat (first | (with_reducible first | exact HB.out | apply below_alloc | apply pw_below_drewN | apply below_drew1) | exact HB.out)))); have n7_ := Aside0.mk (below_step (by repeat (first | (with_reducible first | exact HB.out | apply below_alloc | apply pw_below_drewN | apply below_drew1) | exact HB.out)) hb); clear HO_3; clear HO159; clear HO162; clear HO165; clear HO168; clear HO171; clear HB; have HO_3 := n0_; have HO159 := n1_; have HO162 := n2_; have HO165 := n3_; have HO168 := n4_; have HO171 := n5_; have HO174 := n6_; have HB := n7_; clear n0_ n1_ n2_ n3_ n4_ n5_ n6_ n7_; (try clear hb); (try clear hb2); (try clear hk); (try clear hi); (try clear ho0))); go_upto_region 8 with (first | (go_at_call 23; (with_reducible refine (wide_Reduce.calls 0 _ _ t153 t157 _ ?side1 ?side2 A7.out).mono ?_); (case side1 => repeat (first | exact (Kd.R_reads' HO_3.out).2.2 | (with_reducible refine Kd.C_alloc ?_ _) | (with_reducible refine Kd.C_drewN ?_ _) | (with_reducible refine Kd.C_drew ?_))); (case side2 => exact (Kd.R_reads' HO_3.out).2.1); rintro e w15 ⟨v158, rfl, ho0, hb⟩; have n0_ := Aside0.mk (Kd.R_elder' (by (with_reducible repeat (first | apply Kd.R_alloc | apply Kd.R_drewN | apply Kd.R_drew)); exact HO_3.out) (Kd.R_base ho0) hb); have n1_ := Aside0.mk (Kd.R_lower (Kd.R_new' ho0 (Kd.R_lt (by (with_reducible repeat (first | apply Kd.R_alloc | apply Kd.R_drewN | apply Kd.R_drew)); exact HO_3.out))) (below_size (by repeat (first | (with_reducible first | exact HB.out | apply below_alloc | apply pw_below_drewN | apply below_drew1) | exact HB.out)))); have n2_ := Aside0.mk (below_step (by repeat (first | (with_reducible first | exact HB.out | apply below_alloc | apply pw_below_drewN | apply below_drew1) | exact HB.out)) hb); clear HO_3; clear HB; have HO_3 := n0_; have HO159 := n1_; have HB := n2_; clear n0_ n1_ n2_; (try clear hb); (try clear hb2); (try clear hk); (try clear hi); (try clear ho0)) | (go_at_call 23; (with_reducible refine (wide_Reduce.calls 3 _ _ t153 t160 _ ?side1 ?side2 A8.out).mono ?_); (case side1 => repeat (first | exact (Kd.R_reads' HO_3.out).2.2 | (with_reducible refine Kd.C_alloc ?_ _) | (with_reducible refine Kd.C_drewN ?_ _) | (with_reducible refine Kd.C_drew ?_))); (case side2 => exact (Kd.R_reads' HO_3.out).2.1); rintro e w16 ⟨v161, rfl, ho0, hb⟩; have n0_ := Aside0.mk (Kd.R_elder' (by (with_reducible repeat (first | apply Kd.R_alloc | apply Kd.R_drewN | apply Kd.R_drew)); exact HO_3.out) (Kd.R_base ho0) hb); have n1_ := Aside0.mk (Kd.R_elder' (by (with_reducible repeat (first | apply Kd.R_alloc | apply Kd.R_drewN | apply Kd.R_drew)); exact HO159.out) (Kd.R_base ho0) hb); have n2_ := Aside0.mk (Kd.R_lower (Kd.R_new' (Kd.R_new' ho0 (Kd.R_lt (by (with_reducible repeat (first | apply Kd.R_alloc | apply Kd.R_drewN | apply Kd.R_drew)); exact HO_3.out))) (Kd.R_lt (by (with_reducible repeat (first | apply Kd.R_alloc | apply Kd.R_drewN | apply Kd.R_drew)); exact HO159.out))) (below_size (by repeat (first | (with_reducible first | exact HB.out | apply below_alloc | apply pw_below_drewN | apply below_drew1) | exact HB.out)))); have n3_ := Aside0.mk (below_step (by repeat (first | (with_reducible first | exact HB.out | apply below_alloc | apply pw_below_drewN | apply below_drew1) | exact HB.out)) hb); clear HO_3; clear HO159; clear HB; have HO_3 := n0_; have HO159 := n1_; have HO162 := n2_; have HB := n3_; clear n0_ n1_ n2_ n3_; (try clear hb); (try clear hb2); (try clear hk); (try clear hi); (try clear ho0)) | (go_at_call 23; (with_reducible refine (wide_Reduce.calls 1 _ _ t153 t163 _ ?side1 ?side2 A9.out).mono ?_); (case side1 => repeat (first | exact (Kd.R_reads' HO_3.out).2.2 | (with_reducible refine Kd.C_alloc ?_ _) | (with_reducible refine Kd.C_drewN ?_ _) | (with_reducible refine Kd.C_drew ?_))); (case side2 => exact (Kd.R_reads' HO_3.out).2.1); rintro e w17 ⟨v164, rfl, ho0, hb⟩; have n0_ := Aside0.mk (Kd.R_elder' (by (with_reducible repeat (first | apply Kd.R_alloc | apply Kd.R_drewN | apply Kd.R_drew)); exact HO_3.out) (Kd.R_base ho0) hb); have n1_ := Aside0.mk (Kd.R_elder' (by (with_reducible repeat (first | apply Kd.R_alloc | apply Kd.R_drewN | apply Kd.R_drew)); exact HO159.out) (Kd.R_base ho0) hb); have n2_ := Aside0.mk (Kd.R_elder' (by (with_reducible repeat (first | apply Kd.R_alloc | apply Kd.R_drewN | apply Kd.R_drew)); exact HO162.out) (Kd.R_base ho0) hb); have n3_ := Aside0.mk (Kd.R_lower (Kd.R_new' (Kd.R_new' (Kd.R_new' ho0 (Kd.R_lt (by (with_reducible repeat (first | apply Kd.R_alloc | apply Kd.R_drewN | apply Kd.R_drew)); exact HO_3.out))) (Kd.R_lt (by (with_reducible repeat (first | apply Kd.R_alloc | apply Kd.R_drewN | apply Kd.R_drew)); exact HO159.out))) (Kd.R_lt (by (with_reducible repeat (first | apply Kd.R_alloc | apply Kd.R_drewN | apply Kd.R_drew)); exact HO162.out))) (below_size (by repeat (first | (with_reducible first | exact HB.out | apply below_alloc | apply pw_below_drewN | apply below_drew1) | exact HB.out)))); have n4_ := Aside0.mk (below_step (by repeat (first | (with_reducible first | exact HB.out | apply below_alloc | apply pw_below_drewN | apply below_drew1) | exact HB.out)) hb); clear HO_3; clear HO159; clear HO162; clear HB; have HO_3 := n0_; have HO159 := n1_; have HO162 := n2_; have HO165 := n3_; have HB := n4_; clear n0_ n1_ n2_ n3_ n4_; (try clear hb); (try clear hb2); (try clear hk); (try clear hi); (try clear ho0)) | (go_at_call 23; (with_reducible refine (wide_Reduce.calls 2 _ _ t153 t166 _ ?side1 ?side2 A10.out).mono ?_); (case side1 => repeat (first | exact (Kd.R_reads' HO_3.out).2.2 | (with_reducible refine Kd.C_alloc ?_ _) | (with_reducible refine Kd.C_drewN ?_ _) | (with_reducible refine Kd.C_drew ?_))); (case side2 => exact (Kd.R_reads' HO_3.out).2.1); rintro e w18 ⟨v167, rfl, ho0, hb⟩; have n0_ := Aside0.mk (Kd.R_elder' (by (with_reducible repeat (first | apply Kd.R_alloc | apply Kd.R_drewN | apply Kd.R_drew)); exact HO_3.out) (Kd.R_base ho0) hb); have n1_ := Aside0.mk (Kd.R_elder' (by (with_reducible repeat (first | apply Kd.R_alloc | apply Kd.R_drewN | apply Kd.R_drew)); exact HO159.out) (Kd.R_base ho0) hb); have n2_ := Aside0.mk (Kd.R_elder' (by (with_reducible repeat (first | apply Kd.R_alloc | apply Kd.R_drewN | apply Kd.R_drew)); exact HO162.out) (Kd.R_base ho0) hb); have n3_ := Aside0.mk (Kd.R_elder' (by (with_reducible repeat (first | apply Kd.R_alloc | apply Kd.R_drewN | apply Kd.R_drew)); exact HO165.out) (Kd.R_base ho0) hb); have n4_ := Aside0.mk (Kd.R_lower (Kd.R_new' (Kd.R_new' (Kd.R_new' (Kd.R_new' ho0 (Kd.R_lt (by (with_reducible repeat (first | apply Kd.R_alloc | apply Kd.R_drewN | apply Kd.R_drew)); exact HO_3.out))) (Kd.R_lt (by (with_reducible repeat (first | apply Kd.R_alloc | apply Kd.R_drewN | apply Kd.R_drew)); exact HO159.out))) (Kd.R_lt (by (with_reducible repeat (first | apply Kd.R_alloc | apply Kd.R_drewN | apply Kd.R_drew)); exact HO162.out))) (Kd.R_lt (by (with_reducible repeat (first | apply Kd.R_alloc | apply Kd.R_drewN | apply Kd.R_drew)); exact HO165.out))) (below_size (by repeat (first | (with_reducible first | exact HB.out | apply below_alloc | apply pw_below_drewN | apply below_drew1) | exact HB.out)))); have n5_ := Aside0.mk (below_step (by repeat (first | (with_reducible first | exact HB.out | apply below_alloc | apply pw_below_drewN | apply below_drew1) | exact HB.out)) hb); clear HO_3; clear HO159; clear HO162; clear HO165; clear HB; have HO_3 := n0_; have HO159 := n1_; have HO162 := n2_; have HO165 := n3_; have HO168 := n4_; have HB := n5_; clear n0_ n1_ n2_ n3_ n4_ n5_; (try clear hb); (try clear hb2); (try clear hk); (try clear hi); (try clear ho0)) | (go_at_call 23; (with_reducible refine (wide_Reduce.calls 4 _ _ t153 t169 _ ?side1 ?side2 A11.out).mono ?_); (case side1 => repeat (first | exact (Kd.R_reads' HO_3.out).2.2 | (with_reducible refine Kd.C_alloc ?_ _) | (with_reducible refine Kd.C_drewN ?_ _) | (with_reducible refine Kd.C_drew ?_))); (case side2 => exact (Kd.R_reads' HO_3.out).2.1); rintro e w19 ⟨v170, rfl, ho0, hb⟩; have n0_ := Aside0.mk (Kd.R_elder' (by (with_reducible repeat (first | apply Kd.R_alloc | apply Kd.R_drewN | apply Kd.R_drew)); exact HO_3.out) (Kd.R_base ho0) hb); have n1_ := Aside0.mk (Kd.R_elder' (by (with_reducible repeat (first | apply Kd.R_alloc | apply Kd.R_drewN | apply Kd.R_drew)); exact HO159.out) (Kd.R_base ho0) hb); have n2_ := Aside0.mk (Kd.R_elder' (by (with_reducible repeat (first | apply Kd.R_alloc | apply Kd.R_drewN | apply Kd.R_drew)); exact HO162.out) (Kd.R_base ho0) hb); have n3_ := Aside0.mk (Kd.R_elder' (by (with_reducible repeat (first | apply Kd.R_alloc | apply Kd.R_drewN | apply Kd.R_drew)); exact HO165.out) (Kd.R_base ho0) hb); have n4_ := Aside0.mk (Kd.R_elder' (by (with_reducible repeat (first | apply Kd.R_alloc | apply Kd.R_drewN | apply Kd.R_drew)); exact HO168.out) (Kd.R_base ho0) hb); have n5_ := Aside0.mk (Kd.R_lower (Kd.R_new' (Kd.R_new' (Kd.R_new' (Kd.R_new' (Kd.R_new' ho0 (Kd.R_lt (by (with_reducible repeat (first | apply Kd.R_alloc | apply Kd.R_drewN | apply Kd.R_drew)); exact HO_3.out))) (Kd.R_lt (by (with_reducible repeat (first | apply Kd.R_alloc | apply Kd.R_drewN | apply Kd.R_drew)); exact HO159.out))) (Kd.R_lt (by (with_reducible repeat (first | apply Kd.R_alloc | apply Kd.R_drewN | apply Kd.R_drew)); exact HO162.out))) (Kd.R_lt (by (with_reducible repeat (first | apply Kd.R_alloc | apply Kd.R_drewN | apply Kd.R_drew)); exact HO165.out))) (Kd.R_lt (by (with_reducible repeat (first | apply Kd.R_alloc | apply Kd.R_drewN | apply Kd.R_drew)); exact HO168.out))) (below_size (by repeat (first | (with_reducible first | exact HB.out | apply below_alloc | apply pw_below_drewN | apply below_drew1) | exact HB.out)))); have n6_ := Aside0.mk (below_step (by repeat (first | (with_reducible first | exact HB.out | apply below_alloc | apply pw_below_drewN | apply below_drew1) | exact HB.out)) hb); clear HO_3; clear HO159; clear HO162; clear HO165; clear HO168; clear HB; have HO_3 := n0_; have HO159 := n1_; have HO162 := n2_; have HO165 := n3_; have HO168 := n4_; have HO171 := n5_; have HB := n6_; clear n0_ n1_ n2_ n3_ n4_ n5_ n6_; (try clear hb); (try clear hb2); (try clear hk); (try clear hi); (try clear ho0)) | (go_at_call 23; (with_reducible refine (wide_Reduce.calls 5 _ _ t153 t172 _ ?side1 ?side2 A12.out).mono ?_); (case side1 => repeat (first | exact (Kd.R_reads' HO_3.out).2.2 | (with_reducible refine Kd.C_alloc ?_ _) | (with_reducible refine Kd.C_drewN ?_ _) | (with_reducible refine Kd.C_drew ?_))); (case side2 => exact (Kd.R_reads' HO_3.out).2.1); rintro e w20 ⟨v173, rfl, ho0, hb⟩; have n0_ := Aside0.mk (Kd.R_elder' (by (with_reducible repeat (first | apply Kd.R_alloc | apply Kd.R_drewN | apply Kd.R_drew)); exact HO_3.out) (Kd.R_base ho0) hb); have n1_ := Aside0.mk (Kd.R_elder' (by (with_reducible repeat (first | apply Kd.R_alloc | apply Kd.R_drewN | apply Kd.R_drew)); exact HO159.out) (Kd.R_base ho0) hb); have n2_ := Aside0.mk (Kd.R_elder' (by (with_reducible repeat (first | apply Kd.R_alloc | apply Kd.R_drewN | apply Kd.R_drew)); exact HO162.out) (Kd.R_base ho0) hb); have n3_ := Aside0.mk (Kd.R_elder' (by (with_reducible repeat (first | apply Kd.R_alloc | apply Kd.R_drewN | apply Kd.R_drew)); exact HO165.out) (Kd.R_base ho0) hb); have n4_ := Aside0.mk (Kd.R_elder' (by (with_reducible repeat (first | apply Kd.R_alloc | apply Kd.R_drewN | apply Kd.R_drew)); exact HO168.out) (Kd.R_base ho0) hb); have n5_ := Aside0.mk (Kd.R_elder' (by (with_reducible repeat (first | apply Kd.R_alloc | apply Kd.R_drewN | apply Kd.R_drew)); exact HO171.out) (Kd.R_base ho0) hb); have n6_ := Aside0.mk (Kd.R_lower (Kd.R_new' (Kd.R_new' (Kd.R_new' (Kd.R_new' (Kd.R_new' (Kd.R_new' ho0 (Kd.R_lt (by (with_reducible repeat (first | apply Kd.R_alloc | apply Kd.R_drewN | apply Kd.R_drew)); exact HO_3.out))) (Kd.R_lt (by (with_reducible repeat (first | apply Kd.R_alloc | apply Kd.R_drewN | apply Kd.R_drew)); exact HO159.out))) (Kd.R_lt (by (with_reducible repeat (first | apply Kd.R_alloc | apply Kd.R_drewN | apply Kd.R_drew)); exact HO162.out))) (Kd.R_lt (by (with_reducible repeat (first | apply Kd.R_alloc | apply Kd.R_drewN | apply Kd.R_drew)); exact HO165.out))) (Kd.R_lt (by (with_reducible repeat (first | apply Kd.R_alloc | apply Kd.R_drewN | apply Kd.R_drew)); exact HO168.out))) (Kd.R_lt (by (with_reducible repeat (first | apply Kd.R_alloc | apply Kd.R_drewN | apply Kd.R_drew)); exact HO171.out))) (below_size (by repeat (first | (with_reducible first | exact HB.out | apply below_alloc | apply pw_below_drewN | apply below_drew1) | exact HB.out)))); have n7_ := Aside0.mk (below_step (by repeat (first | (with_reducible first | exact HB.out | apply below_alloc | apply pw_below_drewN | apply below_drew1) | exact HB.out)) hb); clear HO_3; clear HO159; clear HO162; clear HO165; clear HO168; clear HO171; clear HB; have HO_3 := n0_; have HO159 := n1_; have HO162 := n2_; have HO165 := n3_; have HO168 := n4_; have HO171 := n5_; have HO174 := n6_; have HB := n7_; clear n0_ n1_ n2_ n3_ n4_ n5_ n6_ n7_; (try clear hb); (try clear hb2); (try clear hk); (try clear hi); (try clear ho0))))
          (try simp only [Act.put, List.setIfInBounds_toArray, List.set_cons_zero, List.set_cons_succ])
          go_cut [73] (fun v73 wc => ∃ (kq : Nat) (x73_12 : Bool), v73 = .bool x73_12 ∧ Aside0 (tributarylaw4_WideSums.j1 kq t153 x4_1 0 t157 t160 t163 t166 t169 t172 x73_12 = some r) ∧ Aside0 (kq ≤ k1) ∧ Aside0 (Kd.R k30 30 wc w.heap.size (fun k_ => some k_ ≠ (v158 : Value).ownBlock ∧ some k_ ≠ (v161 : Value).ownBlock ∧ some k_ ≠ (v164 : Value).ownBlock ∧ some k_ ≠ (v167 : Value).ownBlock ∧ some k_ ≠ (v170 : Value).ownBlock ∧ some k_ ≠ (v173 : Value).ownBlock) (.slice Ao14 t153.length co14) t153) ∧ Aside0 (Kd.R k30 30 wc w.heap.size (fun k_ => some k_ ≠ ((.slice Ao14 t153.length co14) : Value).ownBlock ∧ some k_ ≠ (v161 : Value).ownBlock ∧ some k_ ≠ (v164 : Value).ownBlock ∧ some k_ ≠ (v167 : Value).ownBlock ∧ some k_ ≠ (v170 : Value).ownBlock ∧ some k_ ≠ (v173 : Value).ownBlock) v158 t157) ∧ Aside0 (Kd.R k30 30 wc w.heap.size (fun k_ => some k_ ≠ ((.slice Ao14 t153.length co14) : Value).ownBlock ∧ some k_ ≠ (v158 : Value).ownBlock ∧ some k_ ≠ (v164 : Value).ownBlock ∧ some k_ ≠ (v167 : Value).ownBlock ∧ some k_ ≠ (v170 : Value).ownBlock ∧ some k_ ≠ (v173 : Value).ownBlock) v161 t160) ∧ Aside0 (Kd.R k30 30 wc w.heap.size (fun k_ => some k_ ≠ ((.slice Ao14 t153.length co14) : Value).ownBlock ∧ some k_ ≠ (v158 : Value).ownBlock ∧ some k_ ≠ (v161 : Value).ownBlock ∧ some k_ ≠ (v167 : Value).ownBlock ∧ some k_ ≠ (v170 : Value).ownBlock ∧ some k_ ≠ (v173 : Value).ownBlock) v164 t163) ∧ Aside0 (Kd.R k30 30 wc w.heap.size (fun k_ => some k_ ≠ ((.slice Ao14 t153.length co14) : Value).ownBlock ∧ some k_ ≠ (v158 : Value).ownBlock ∧ some k_ ≠ (v161 : Value).ownBlock ∧ some k_ ≠ (v164 : Value).ownBlock ∧ some k_ ≠ (v170 : Value).ownBlock ∧ some k_ ≠ (v173 : Value).ownBlock) v167 t166) ∧ Aside0 (Kd.R k30 30 wc w.heap.size (fun k_ => some k_ ≠ ((.slice Ao14 t153.length co14) : Value).ownBlock ∧ some k_ ≠ (v158 : Value).ownBlock ∧ some k_ ≠ (v161 : Value).ownBlock ∧ some k_ ≠ (v164 : Value).ownBlock ∧ some k_ ≠ (v167 : Value).ownBlock ∧ some k_ ≠ (v173 : Value).ownBlock) v170 t169) ∧ Aside0 (Kd.R k30 30 wc w.heap.size (fun k_ => some k_ ≠ ((.slice Ao14 t153.length co14) : Value).ownBlock ∧ some k_ ≠ (v158 : Value).ownBlock ∧ some k_ ≠ (v161 : Value).ownBlock ∧ some k_ ≠ (v164 : Value).ownBlock ∧ some k_ ≠ (v167 : Value).ownBlock ∧ some k_ ≠ (v170 : Value).ownBlock) v173 t172) ∧ Aside0 (Below w.heap.size w wc))
          case first =>
            have H := HC13.out
            clear HC13
            by_cases c21 : (t160.length : Int) = (t157.length : Int)
            · as_aux_lemma =>
                rw [if_pos c21] at H
                have c21b0 : ((t160.length : Int) == (t157.length : Int)) = true := beq_iff_eq.mpr c21
                have c21b1 : ((t160.length : Int) != (t157.length : Int)) = false := bne_eq_false_iff_eq.mpr c21
                have c21b2 : (t160.length == t157.length) = true := by first | simpa using c21 | (simp at c21 ⊢; omega)
                clear c21
                (first | rw [c21b0] | (simp only [i64_w, i32_w]; rw [c21b0]) | skip)
                by_cases c22 : (t163.length : Int) = (t157.length : Int)
                · as_aux_lemma =>
                    rw [if_pos c22] at H
                    have c22b0 : ((t163.length : Int) == (t157.length : Int)) = true := beq_iff_eq.mpr c22
                    have c22b1 : ((t163.length : Int) != (t157.length : Int)) = false := bne_eq_false_iff_eq.mpr c22
                    have c22b2 : (t163.length == t157.length) = true := by first | simpa using c22 | (simp at c22 ⊢; omega)
                    clear c22
                    by_cases c23 : (t166.length : Int) = (t157.length : Int)
                    · as_aux_lemma =>
                        rw [if_pos c23] at H
                        have c23b0 : ((t166.length : Int) == (t157.length : Int)) = true := beq_iff_eq.mpr c23
                        have c23b1 : ((t166.length : Int) != (t157.length : Int)) = false := bne_eq_false_iff_eq.mpr c23
                        have c23b2 : (t166.length == t157.length) = true := by first | simpa using c23 | (simp at c23 ⊢; omega)
                        clear c23
                        by_cases c24 : (t169.length : Int) = (t157.length : Int)
                        · as_aux_lemma =>
                            rw [if_pos c24] at H
                            have c24b0 : ((t169.length : Int) == (t157.length : Int)) = true := beq_iff_eq.mpr c24
                            have c24b1 : ((t169.length : Int) != (t157.length : Int)) = false := bne_eq_false_iff_eq.mpr c24
                            have c24b2 : (t169.length == t157.length) = true := by first | simpa using c24 | (simp at c24 ⊢; omega)
                            clear c24
                            have H' := Aside0.mk H
                            clear H
                            obtain ⟨Ao25, co25, eo25⟩ := Kd.R_slice HO162.out
                            subst eo25
                            obtain ⟨Ao26, co26, eo26⟩ := Kd.R_slice HO159.out
                            subst eo26
                            obtain ⟨Ao27, co27, eo27⟩ := Kd.R_slice HO165.out
                            subst eo27
                            obtain ⟨Ao28, co28, eo28⟩ := Kd.R_slice HO168.out
                            subst eo28
                            obtain ⟨Ao29, co29, eo29⟩ := Kd.R_slice HO171.out
                            subst eo29
                            obtain ⟨Ao30, co30, eo30⟩ := Kd.R_slice HO174.out
                            subst eo30
                            go_wp2
                            repeat (go_quiet (fail); try go_wp2)
                            go_meet
                            case rel => exact ⟨_, (((t172.length : Int) != (t157.length : Int))), (by first | rfl | (simp; done) | (simp [*]; done)), H', ⟨by have := HK1.out; first | omega | exact Nat.le_refl _⟩, ⟨by (with_reducible repeat (first | apply Kd.R_alloc | apply Kd.R_drewN | apply Kd.R_drew)); exact Kd.R_mono HO_3.out (fun _ hk => ⟨hk.1.1.1.1.1.2, ⟨hk.1.1.1.1.2, ⟨hk.1.1.1.2, ⟨hk.1.1.2, ⟨hk.1.2, hk.2⟩⟩⟩⟩⟩)⟩, ⟨by (with_reducible repeat (first | apply Kd.R_alloc | apply Kd.R_drewN | apply Kd.R_drew)); exact Kd.R_mono HO159.out (fun _ hk => ⟨hk.1.1.1.1.1.2, ⟨hk.1.1.1.1.2, ⟨hk.1.1.1.2, ⟨hk.1.1.2, ⟨hk.1.2, hk.2⟩⟩⟩⟩⟩)⟩, ⟨by (with_reducible repeat (first | apply Kd.R_alloc | apply Kd.R_drewN | apply Kd.R_drew)); exact Kd.R_mono HO162.out (fun _ hk => ⟨hk.1.1.1.1.1.2, ⟨hk.1.1.1.1.2, ⟨hk.1.1.1.2, ⟨hk.1.1.2, ⟨hk.1.2, hk.2⟩⟩⟩⟩⟩)⟩, ⟨by (with_reducible repeat (first | apply Kd.R_alloc | apply Kd.R_drewN | apply Kd.R_drew)); exact Kd.R_mono HO165.out (fun _ hk => ⟨hk.1.1.1.1.1.2, ⟨hk.1.1.1.1.2, ⟨hk.1.1.1.2, ⟨hk.1.1.2, ⟨hk.1.2, hk.2⟩⟩⟩⟩⟩)⟩, ⟨by (with_reducible repeat (first | apply Kd.R_alloc | apply Kd.R_drewN | apply Kd.R_drew)); exact Kd.R_mono HO168.out (fun _ hk => ⟨hk.1.1.1.1.1.2, ⟨hk.1.1.1.1.2, ⟨hk.1.1.1.2, ⟨hk.1.1.2, ⟨hk.1.2, hk.2⟩⟩⟩⟩⟩)⟩, ⟨by (with_reducible repeat (first | apply Kd.R_alloc | apply Kd.R_drewN | apply Kd.R_drew)); exact Kd.R_mono HO171.out (fun _ hk => ⟨hk.1.1.1.1.1.2, ⟨hk.1.1.1.1.2, ⟨hk.1.1.1.2, ⟨hk.1.1.2, ⟨hk.1.2, hk.2⟩⟩⟩⟩⟩)⟩, ⟨by (with_reducible repeat (first | apply Kd.R_alloc | apply Kd.R_drewN | apply Kd.R_drew)); exact Kd.R_mono HO174.out (fun _ hk => ⟨hk.1.1.1.1.1.2, ⟨hk.1.1.1.1.2, ⟨hk.1.1.1.2, ⟨hk.1.1.2, ⟨hk.1.2, hk.2⟩⟩⟩⟩⟩)⟩, ⟨by repeat (first | (with_reducible first | exact HB.out | apply below_alloc | apply pw_below_drewN | apply below_drew1) | exact HB.out)⟩⟩
                        · as_aux_lemma =>
                            rw [if_neg c24] at H
                            have c24b0 : ((t169.length : Int) == (t157.length : Int)) = false := beq_eq_false_iff_ne.mpr c24
                            have c24b1 : ((t169.length : Int) != (t157.length : Int)) = true := bne_iff_ne.mpr c24
                            have c24b2 : (t169.length == t157.length) = false := by first | simpa using c24 | (simp at c24 ⊢; omega)
                            have H' := Aside0.mk H
                            clear H
                            obtain ⟨Ao31, co31, eo31⟩ := Kd.R_slice HO162.out
                            subst eo31
                            obtain ⟨Ao32, co32, eo32⟩ := Kd.R_slice HO159.out
                            subst eo32
                            obtain ⟨Ao33, co33, eo33⟩ := Kd.R_slice HO165.out
                            subst eo33
                            obtain ⟨Ao34, co34, eo34⟩ := Kd.R_slice HO168.out
                            subst eo34
                            obtain ⟨Ao35, co35, eo35⟩ := Kd.R_slice HO171.out
                            subst eo35
                            go_wp2
                            repeat (go_quiet (fail); try go_wp2)
                            go_meet
                            case rel => exact ⟨_, (true), (by first | rfl | (simp; done) | (simp [*]; done)), H', ⟨by have := HK1.out; first | omega | exact Nat.le_refl _⟩, ⟨by (with_reducible repeat (first | apply Kd.R_alloc | apply Kd.R_drewN | apply Kd.R_drew)); exact Kd.R_mono HO_3.out (fun _ hk => ⟨hk.1.1.1.1.1.2, ⟨hk.1.1.1.1.2, ⟨hk.1.1.1.2, ⟨hk.1.1.2, ⟨hk.1.2, hk.2⟩⟩⟩⟩⟩)⟩, ⟨by (with_reducible repeat (first | apply Kd.R_alloc | apply Kd.R_drewN | apply Kd.R_drew)); exact Kd.R_mono HO159.out (fun _ hk => ⟨hk.1.1.1.1.1.2, ⟨hk.1.1.1.1.2, ⟨hk.1.1.1.2, ⟨hk.1.1.2, ⟨hk.1.2, hk.2⟩⟩⟩⟩⟩)⟩, ⟨by (with_reducible repeat (first | apply Kd.R_alloc | apply Kd.R_drewN | apply Kd.R_drew)); exact Kd.R_mono HO162.out (fun _ hk => ⟨hk.1.1.1.1.1.2, ⟨hk.1.1.1.1.2, ⟨hk.1.1.1.2, ⟨hk.1.1.2, ⟨hk.1.2, hk.2⟩⟩⟩⟩⟩)⟩, ⟨by (with_reducible repeat (first | apply Kd.R_alloc | apply Kd.R_drewN | apply Kd.R_drew)); exact Kd.R_mono HO165.out (fun _ hk => ⟨hk.1.1.1.1.1.2, ⟨hk.1.1.1.1.2, ⟨hk.1.1.1.2, ⟨hk.1.1.2, ⟨hk.1.2, hk.2⟩⟩⟩⟩⟩)⟩, ⟨by (with_reducible repeat (first | apply Kd.R_alloc | apply Kd.R_drewN | apply Kd.R_drew)); exact Kd.R_mono HO168.out (fun _ hk => ⟨hk.1.1.1.1.1.2, ⟨hk.1.1.1.1.2, ⟨hk.1.1.1.2, ⟨hk.1.1.2, ⟨hk.1.2, hk.2⟩⟩⟩⟩⟩)⟩, ⟨by (with_reducible repeat (first | apply Kd.R_alloc | apply Kd.R_drewN | apply Kd.R_drew)); exact Kd.R_mono HO171.out (fun _ hk => ⟨hk.1.1.1.1.1.2, ⟨hk.1.1.1.1.2, ⟨hk.1.1.1.2, ⟨hk.1.1.2, ⟨hk.1.2, hk.2⟩⟩⟩⟩⟩)⟩, ⟨by (with_reducible repeat (first | apply Kd.R_alloc | apply Kd.R_drewN | apply Kd.R_drew)); exact Kd.R_mono HO174.out (fun _ hk => ⟨hk.1.1.1.1.1.2, ⟨hk.1.1.1.1.2, ⟨hk.1.1.1.2, ⟨hk.1.1.2, ⟨hk.1.2, hk.2⟩⟩⟩⟩⟩)⟩, ⟨by repeat (first | (with_reducible first | exact HB.out | apply below_alloc | apply pw_below_drewN | apply below_drew1) | exact HB.out)⟩⟩
                    · as_aux_lemma =>
                        rw [if_neg c23] at H
                        have c23b0 : ((t166.length : Int) == (t157.length : Int)) = false := beq_eq_false_iff_ne.mpr c23
                        have c23b1 : ((t166.length : Int) != (t157.length : Int)) = true := bne_iff_ne.mpr c23
                        have c23b2 : (t166.length == t157.length) = false := by first | simpa using c23 | (simp at c23 ⊢; omega)
                        have H' := Aside0.mk H
                        clear H
                        obtain ⟨Ao36, co36, eo36⟩ := Kd.R_slice HO162.out
                        subst eo36
                        obtain ⟨Ao37, co37, eo37⟩ := Kd.R_slice HO159.out
                        subst eo37
                        obtain ⟨Ao38, co38, eo38⟩ := Kd.R_slice HO165.out
                        subst eo38
                        obtain ⟨Ao39, co39, eo39⟩ := Kd.R_slice HO168.out
                        subst eo39
                        go_wp2
                        repeat (go_quiet (fail); try go_wp2)
                        go_meet
                        case rel => exact ⟨_, (true), (by first | rfl | (simp; done) | (simp [*]; done)), H', ⟨by have := HK1.out; first | omega | exact Nat.le_refl _⟩, ⟨by (with_reducible repeat (first | apply Kd.R_alloc | apply Kd.R_drewN | apply Kd.R_drew)); exact Kd.R_mono HO_3.out (fun _ hk => ⟨hk.1.1.1.1.1.2, ⟨hk.1.1.1.1.2, ⟨hk.1.1.1.2, ⟨hk.1.1.2, ⟨hk.1.2, hk.2⟩⟩⟩⟩⟩)⟩, ⟨by (with_reducible repeat (first | apply Kd.R_alloc | apply Kd.R_drewN | apply Kd.R_drew)); exact Kd.R_mono HO159.out (fun _ hk => ⟨hk.1.1.1.1.1.2, ⟨hk.1.1.1.1.2, ⟨hk.1.1.1.2, ⟨hk.1.1.2, ⟨hk.1.2, hk.2⟩⟩⟩⟩⟩)⟩, ⟨by (with_reducible repeat (first | apply Kd.R_alloc | apply Kd.R_drewN | apply Kd.R_drew)); exact Kd.R_mono HO162.out (fun _ hk => ⟨hk.1.1.1.1.1.2, ⟨hk.1.1.1.1.2, ⟨hk.1.1.1.2, ⟨hk.1.1.2, ⟨hk.1.2, hk.2⟩⟩⟩⟩⟩)⟩, ⟨by (with_reducible repeat (first | apply Kd.R_alloc | apply Kd.R_drewN | apply Kd.R_drew)); exact Kd.R_mono HO165.out (fun _ hk => ⟨hk.1.1.1.1.1.2, ⟨hk.1.1.1.1.2, ⟨hk.1.1.1.2, ⟨hk.1.1.2, ⟨hk.1.2, hk.2⟩⟩⟩⟩⟩)⟩, ⟨by (with_reducible repeat (first | apply Kd.R_alloc | apply Kd.R_drewN | apply Kd.R_drew)); exact Kd.R_mono HO168.out (fun _ hk => ⟨hk.1.1.1.1.1.2, ⟨hk.1.1.1.1.2, ⟨hk.1.1.1.2, ⟨hk.1.1.2, ⟨hk.1.2, hk.2⟩⟩⟩⟩⟩)⟩, ⟨by (with_reducible repeat (first | apply Kd.R_alloc | apply Kd.R_drewN | apply Kd.R_drew)); exact Kd.R_mono HO171.out (fun _ hk => ⟨hk.1.1.1.1.1.2, ⟨hk.1.1.1.1.2, ⟨hk.1.1.1.2, ⟨hk.1.1.2, ⟨hk.1.2, hk.2⟩⟩⟩⟩⟩)⟩, ⟨by (with_reducible repeat (first | apply Kd.R_alloc | apply Kd.R_drewN | apply Kd.R_drew)); exact Kd.R_mono HO174.out (fun _ hk => ⟨hk.1.1.1.1.1.2, ⟨hk.1.1.1.1.2, ⟨hk.1.1.1.2, ⟨hk.1.1.2, ⟨hk.1.2, hk.2⟩⟩⟩⟩⟩)⟩, ⟨by repeat (first | (with_reducible first | exact HB.out | apply below_alloc | apply pw_below_drewN | apply below_drew1) | exact HB.out)⟩⟩
                · as_aux_lemma =>
                    rw [if_neg c22] at H
                    have c22b0 : ((t163.length : Int) == (t157.length : Int)) = false := beq_eq_false_iff_ne.mpr c22
                    have c22b1 : ((t163.length : Int) != (t157.length : Int)) = true := bne_iff_ne.mpr c22
                    have c22b2 : (t163.length == t157.length) = false := by first | simpa using c22 | (simp at c22 ⊢; omega)
                    have H' := Aside0.mk H
                    clear H
                    obtain ⟨Ao40, co40, eo40⟩ := Kd.R_slice HO162.out
                    subst eo40
                    obtain ⟨Ao41, co41, eo41⟩ := Kd.R_slice HO159.out
                    subst eo41
                    obtain ⟨Ao42, co42, eo42⟩ := Kd.R_slice HO165.out
                    subst eo42
                    go_wp2
                    repeat (go_quiet (fail); try go_wp2)
                    go_meet
                    case rel => exact ⟨_, (true), (by first | rfl | (simp; done) | (simp [*]; done)), H', ⟨by have := HK1.out; first | omega | exact Nat.le_refl _⟩, ⟨by (with_reducible repeat (first | apply Kd.R_alloc | apply Kd.R_drewN | apply Kd.R_drew)); exact Kd.R_mono HO_3.out (fun _ hk => ⟨hk.1.1.1.1.1.2, ⟨hk.1.1.1.1.2, ⟨hk.1.1.1.2, ⟨hk.1.1.2, ⟨hk.1.2, hk.2⟩⟩⟩⟩⟩)⟩, ⟨by (with_reducible repeat (first | apply Kd.R_alloc | apply Kd.R_drewN | apply Kd.R_drew)); exact Kd.R_mono HO159.out (fun _ hk => ⟨hk.1.1.1.1.1.2, ⟨hk.1.1.1.1.2, ⟨hk.1.1.1.2, ⟨hk.1.1.2, ⟨hk.1.2, hk.2⟩⟩⟩⟩⟩)⟩, ⟨by (with_reducible repeat (first | apply Kd.R_alloc | apply Kd.R_drewN | apply Kd.R_drew)); exact Kd.R_mono HO162.out (fun _ hk => ⟨hk.1.1.1.1.1.2, ⟨hk.1.1.1.1.2, ⟨hk.1.1.1.2, ⟨hk.1.1.2, ⟨hk.1.2, hk.2⟩⟩⟩⟩⟩)⟩, ⟨by (with_reducible repeat (first | apply Kd.R_alloc | apply Kd.R_drewN | apply Kd.R_drew)); exact Kd.R_mono HO165.out (fun _ hk => ⟨hk.1.1.1.1.1.2, ⟨hk.1.1.1.1.2, ⟨hk.1.1.1.2, ⟨hk.1.1.2, ⟨hk.1.2, hk.2⟩⟩⟩⟩⟩)⟩, ⟨by (with_reducible repeat (first | apply Kd.R_alloc | apply Kd.R_drewN | apply Kd.R_drew)); exact Kd.R_mono HO168.out (fun _ hk => ⟨hk.1.1.1.1.1.2, ⟨hk.1.1.1.1.2, ⟨hk.1.1.1.2, ⟨hk.1.1.2, ⟨hk.1.2, hk.2⟩⟩⟩⟩⟩)⟩, ⟨by (with_reducible repeat (first | apply Kd.R_alloc | apply Kd.R_drewN | apply Kd.R_drew)); exact Kd.R_mono HO171.out (fun _ hk => ⟨hk.1.1.1.1.1.2, ⟨hk.1.1.1.1.2, ⟨hk.1.1.1.2, ⟨hk.1.1.2, ⟨hk.1.2, hk.2⟩⟩⟩⟩⟩)⟩, ⟨by (with_reducible repeat (first | apply Kd.R_alloc | apply Kd.R_drewN | apply Kd.R_drew)); exact Kd.R_mono HO174.out (fun _ hk => ⟨hk.1.1.1.1.1.2, ⟨hk.1.1.1.1.2, ⟨hk.1.1.1.2, ⟨hk.1.1.2, ⟨hk.1.2, hk.2⟩⟩⟩⟩⟩)⟩, ⟨by repeat (first | (with_reducible first | exact HB.out | apply below_alloc | apply pw_below_drewN | apply below_drew1) | exact HB.out)⟩⟩
            · as_aux_lemma =>
                rw [if_neg c21] at H
                have c21b0 : ((t160.length : Int) == (t157.length : Int)) = false := beq_eq_false_iff_ne.mpr c21
                have c21b1 : ((t160.length : Int) != (t157.length : Int)) = true := bne_iff_ne.mpr c21
                have c21b2 : (t160.length == t157.length) = false := by first | simpa using c21 | (simp at c21 ⊢; omega)
                (first | rw [c21b0] | (simp only [i64_w, i32_w]; rw [c21b0]) | skip)
                have H' := Aside0.mk H
                clear H
                obtain ⟨Ao43, co43, eo43⟩ := Kd.R_slice HO162.out
                subst eo43
                obtain ⟨Ao44, co44, eo44⟩ := Kd.R_slice HO159.out
                subst eo44
                go_wp2
                repeat (go_quiet (fail); try go_wp2)
                go_meet
                case rel => exact ⟨_, (true), (by first | rfl | (simp; done) | (simp [*]; done)), H', ⟨by have := HK1.out; first | omega | exact Nat.le_refl _⟩, ⟨by (with_reducible repeat (first | apply Kd.R_alloc | apply Kd.R_drewN | apply Kd.R_drew)); exact Kd.R_mono HO_3.out (fun _ hk => ⟨hk.1.1.1.1.1.2, ⟨hk.1.1.1.1.2, ⟨hk.1.1.1.2, ⟨hk.1.1.2, ⟨hk.1.2, hk.2⟩⟩⟩⟩⟩)⟩, ⟨by (with_reducible repeat (first | apply Kd.R_alloc | apply Kd.R_drewN | apply Kd.R_drew)); exact Kd.R_mono HO159.out (fun _ hk => ⟨hk.1.1.1.1.1.2, ⟨hk.1.1.1.1.2, ⟨hk.1.1.1.2, ⟨hk.1.1.2, ⟨hk.1.2, hk.2⟩⟩⟩⟩⟩)⟩, ⟨by (with_reducible repeat (first | apply Kd.R_alloc | apply Kd.R_drewN | apply Kd.R_drew)); exact Kd.R_mono HO162.out (fun _ hk => ⟨hk.1.1.1.1.1.2, ⟨hk.1.1.1.1.2, ⟨hk.1.1.1.2, ⟨hk.1.1.2, ⟨hk.1.2, hk.2⟩⟩⟩⟩⟩)⟩, ⟨by (with_reducible repeat (first | apply Kd.R_alloc | apply Kd.R_drewN | apply Kd.R_drew)); exact Kd.R_mono HO165.out (fun _ hk => ⟨hk.1.1.1.1.1.2, ⟨hk.1.1.1.1.2, ⟨hk.1.1.1.2, ⟨hk.1.1.2, ⟨hk.1.2, hk.2⟩⟩⟩⟩⟩)⟩, ⟨by (with_reducible repeat (first | apply Kd.R_alloc | apply Kd.R_drewN | apply Kd.R_drew)); exact Kd.R_mono HO168.out (fun _ hk => ⟨hk.1.1.1.1.1.2, ⟨hk.1.1.1.1.2, ⟨hk.1.1.1.2, ⟨hk.1.1.2, ⟨hk.1.2, hk.2⟩⟩⟩⟩⟩)⟩, ⟨by (with_reducible repeat (first | apply Kd.R_alloc | apply Kd.R_drewN | apply Kd.R_drew)); exact Kd.R_mono HO171.out (fun _ hk => ⟨hk.1.1.1.1.1.2, ⟨hk.1.1.1.1.2, ⟨hk.1.1.1.2, ⟨hk.1.1.2, ⟨hk.1.2, hk.2⟩⟩⟩⟩⟩)⟩, ⟨by (with_reducible repeat (first | apply Kd.R_alloc | apply Kd.R_drewN | apply Kd.R_drew)); exact Kd.R_mono HO174.out (fun _ hk => ⟨hk.1.1.1.1.1.2, ⟨hk.1.1.1.1.2, ⟨hk.1.1.1.2, ⟨hk.1.1.2, ⟨hk.1.2, hk.2⟩⟩⟩⟩⟩)⟩, ⟨by repeat (first | (with_reducible first | exact HB.out | apply below_alloc | apply pw_below_drewN | apply below_drew1) | exact HB.out)⟩⟩
          case rest =>
            clear HC13
            try clear p1
            try clear q1
            try clear hx1
            try clear c2
            try clear p2
            try clear c4
            try clear c4b0
            try clear c5
            try clear c5b0
            try clear c6
            try clear p6
            try clear p15
            try clear q15
            try clear hx15
            try clear c21
            try clear c21b0
            try clear c21b1
            try clear c21b2
            try clear c22
            try clear c22b0
            try clear c22b1
            try clear c22b2
            try clear c23
            try clear c23b0
            try clear c23b1
            try clear c23b2
            try clear c24
            try clear c24b0
            try clear c24b1
            try clear c24b2
            try clear hx156_0
            try clear hx156_1
            try clear p156
            try clear p2
            try clear q156
            obtain ⟨kq, x73_12, rfl, HA, HJ12, HO_3, HO_7, HO_8, HO_9, HO_10, HO_11, HO_12, HB⟩ := hcut
            cases kq with
            | zero => exact absurd HA.out (by simp [tributarylaw4_WideSums.j1])
            | succ kj12 =>
              have H := HA.out
              clear HA
              simp only [tributarylaw4_WideSums.j1] at H
              by_cases c45 : x73_12 = true
              · as_aux_lemma =>
                  subst c45
                  have H1 : (none) = some r := by rw [if_pos rfl] at H; exact H
                  clear H
                  have H := H1
                  clear H1
                  exact absurd H (by simp)
              · as_aux_lemma =>
                  replace c45 := Bool.eq_false_iff.mpr c45
                  subst c45
                  have H1 : (tributarylaw4_WideSums.l1 kj12 t153 x4_1 0 t157 t160 t163 t166 t169 t172 0) = some r := by rw [if_neg (show ¬ (false = true) by decide)] at H; exact H
                  clear H
                  have H := H1
                  clear H1
                  have H' := Aside0.mk H
                  clear H
                  go_wp2
                  repeat (go_quiet (fail); try go_wp2)
                  go_loopg [4, 5, 13] kj12 (fun kq v4 v5 v13 w' => ∃ (x4_3 : Int) (x5_3 : Int) (x13_3 : Int), v4 = .int .i64 x4_3 ∧ v5 = .int .i64 x5_3 ∧ v13 = .int .i64 x13_3 ∧ Aside0 (tributarylaw4_WideSums.l1 kq t153 x4_3 x5_3 t157 t160 t163 t166 t169 t172 x13_3 = some r) ∧ Aside0 (kq ≤ kj12) ∧ Aside0 (Kd.R k30 30 w' w.heap.size (fun k_ => some k_ ≠ (v158 : Value).ownBlock ∧ some k_ ≠ (v161 : Value).ownBlock ∧ some k_ ≠ (v164 : Value).ownBlock ∧ some k_ ≠ (v167 : Value).ownBlock ∧ some k_ ≠ (v170 : Value).ownBlock ∧ some k_ ≠ (v173 : Value).ownBlock) (.slice Ao14 t153.length co14) t153) ∧ Aside0 (Kd.R k30 30 w' w.heap.size (fun k_ => some k_ ≠ ((.slice Ao14 t153.length co14) : Value).ownBlock ∧ some k_ ≠ (v161 : Value).ownBlock ∧ some k_ ≠ (v164 : Value).ownBlock ∧ some k_ ≠ (v167 : Value).ownBlock ∧ some k_ ≠ (v170 : Value).ownBlock ∧ some k_ ≠ (v173 : Value).ownBlock) v158 t157) ∧ Aside0 (Kd.R k30 30 w' w.heap.size (fun k_ => some k_ ≠ ((.slice Ao14 t153.length co14) : Value).ownBlock ∧ some k_ ≠ (v158 : Value).ownBlock ∧ some k_ ≠ (v164 : Value).ownBlock ∧ some k_ ≠ (v167 : Value).ownBlock ∧ some k_ ≠ (v170 : Value).ownBlock ∧ some k_ ≠ (v173 : Value).ownBlock) v161 t160) ∧ Aside0 (Kd.R k30 30 w' w.heap.size (fun k_ => some k_ ≠ ((.slice Ao14 t153.length co14) : Value).ownBlock ∧ some k_ ≠ (v158 : Value).ownBlock ∧ some k_ ≠ (v161 : Value).ownBlock ∧ some k_ ≠ (v167 : Value).ownBlock ∧ some k_ ≠ (v170 : Value).ownBlock ∧ some k_ ≠ (v173 : Value).ownBlock) v164 t163) ∧ Aside0 (Kd.R k30 30 w' w.heap.size (fun k_ => some k_ ≠ ((.slice Ao14 t153.length co14) : Value).ownBlock ∧ some k_ ≠ (v158 : Value).ownBlock ∧ some k_ ≠ (v161 : Value).ownBlock ∧ some k_ ≠ (v164 : Value).ownBlock ∧ some k_ ≠ (v170 : Value).ownBlock ∧ some k_ ≠ (v173 : Value).ownBlock) v167 t166) ∧ Aside0 (Kd.R k30 30 w' w.heap.size (fun k_ => some k_ ≠ ((.slice Ao14 t153.length co14) : Value).ownBlock ∧ some k_ ≠ (v158 : Value).ownBlock ∧ some k_ ≠ (v161 : Value).ownBlock ∧ some k_ ≠ (v164 : Value).ownBlock ∧ some k_ ≠ (v167 : Value).ownBlock ∧ some k_ ≠ (v173 : Value).ownBlock) v170 t169) ∧ Aside0 (Kd.R k30 30 w' w.heap.size (fun k_ => some k_ ≠ ((.slice Ao14 t153.length co14) : Value).ownBlock ∧ some k_ ≠ (v158 : Value).ownBlock ∧ some k_ ≠ (v161 : Value).ownBlock ∧ some k_ ≠ (v164 : Value).ownBlock ∧ some k_ ≠ (v167 : Value).ownBlock ∧ some k_ ≠ (v170 : Value).ownBlock) v173 t172) ∧ Aside0 (Below w.heap.size w w'))
                  case atStart => exact ⟨(x4_1), (0), (0), (by first | rfl | (simp; done) | (simp [*]; done)), (by first | rfl | (simp; done) | (simp [*]; done)), (by first | rfl | (simp; done) | (simp [*]; done)), H', ⟨Nat.le_refl _⟩, ⟨by (with_reducible repeat (first | apply Kd.R_alloc | apply Kd.R_drewN | apply Kd.R_drew)); exact HO_3.out⟩, ⟨by (with_reducible repeat (first | apply Kd.R_alloc | apply Kd.R_drewN | apply Kd.R_drew)); exact HO_7.out⟩, ⟨by (with_reducible repeat (first | apply Kd.R_alloc | apply Kd.R_drewN | apply Kd.R_drew)); exact HO_8.out⟩, ⟨by (with_reducible repeat (first | apply Kd.R_alloc | apply Kd.R_drewN | apply Kd.R_drew)); exact HO_9.out⟩, ⟨by (with_reducible repeat (first | apply Kd.R_alloc | apply Kd.R_drewN | apply Kd.R_drew)); exact HO_10.out⟩, ⟨by (with_reducible repeat (first | apply Kd.R_alloc | apply Kd.R_drewN | apply Kd.R_drew)); exact HO_11.out⟩, ⟨by (with_reducible repeat (first | apply Kd.R_alloc | apply Kd.R_drewN | apply Kd.R_drew)); exact HO_12.out⟩, ⟨by repeat (first | (with_reducible first | exact HB.out | apply below_alloc | apply pw_below_drewN | apply below_drew1) | exact HB.out)⟩⟩
                  case round =>
                    clear H'
                    try clear p1
                    try clear q1
                    try clear hx1
                    try clear c2
                    try clear p2
                    try clear c4
                    try clear c4b0
                    try clear c5
                    try clear c5b0
                    try clear c6
                    try clear p6
                    try clear p15
                    try clear q15
                    try clear hx15
                    try clear c21
                    try clear c21b0
                    try clear c21b1
                    try clear c21b2
                    try clear c22
                    try clear c22b0
                    try clear c22b1
                    try clear c22b2
                    try clear c23
                    try clear c23b0
                    try clear c23b1
                    try clear c23b2
                    try clear c24
                    try clear c24b0
                    try clear c24b1
                    try clear c24b2
                    try clear c45
                    try clear hx156_0
                    try clear hx156_1
                    try clear p1
                    try clear p15
                    try clear p156
                    try clear p2
                    try clear p6
                    try clear q1
                    try clear q15
                    try clear q156
                    obtain ⟨x4_3, x5_3, x13_3, rfl, rfl, rfl, HA, HK3, HO_3, HO_7, HO_8, HO_9, HO_10, HO_11, HO_12, HB⟩ := hrel
                    cases gk with
                    | zero => exact absurd HA.out (by simp [tributarylaw4_WideSums.l1])
                    | succ k3 =>
                      have H := HA.out
                      clear HA
                      simp only [tributarylaw4_WideSums.l1] at H
                      by_cases c46 : x13_3 < (t157.length : Int)
                      · as_aux_lemma =>
                          rw [if_pos c46] at H
                          have c46b0 : decide (x13_3 < (t157.length : Int)) = true := decide_eq_true c46
                          clear c46
                          by_cases c47 : 0 ≤ x13_3
                          · as_aux_lemma =>
                              rw [if_pos c47] at H
                              have c47b0 : decide (0 ≤ x13_3) = true := decide_eq_true c47
                              clear c47
                              by_cases c48 : x13_3 < (t160.length : Int)
                              · as_aux_lemma =>
                                  rw [if_pos c48] at H
                                  have c48b0 : decide (x13_3 < (t160.length : Int)) = true := decide_eq_true c48
                                  clear c48
                                  by_cases c49 : x13_3 < (t163.length : Int)
                                  · as_aux_lemma =>
                                      rw [if_pos c49] at H
                                      have c49b0 : decide (x13_3 < (t163.length : Int)) = true := decide_eq_true c49
                                      clear c49
                                      by_cases c50 : x13_3 < (t166.length : Int)
                                      · as_aux_lemma =>
                                          rw [if_pos c50] at H
                                          have c50b0 : decide (x13_3 < (t166.length : Int)) = true := decide_eq_true c50
                                          clear c50
                                          by_cases c51 : ((rd_T30 t163 x13_3).f1) > ((rd_T30 t166 x13_3).f1)
                                          · rw [if_pos c51] at H
                                            exact absurd H (by simp)
                                          · as_aux_lemma =>
                                              rw [if_neg c51] at H
                                              have c51b0 : decide (((rd_T30 t166 x13_3).f1) < ((rd_T30 t163 x13_3).f1)) = false := decide_eq_false c51
                                              clear c51
                                              by_cases c52 : x13_3 < (t169.length : Int)
                                              · as_aux_lemma =>
                                                  rw [if_pos c52] at H
                                                  have c52b0 : decide (x13_3 < (t169.length : Int)) = true := decide_eq_true c52
                                                  clear c52
                                                  by_cases c53 : ((rd_T30 t169 x13_3).f1) < ((rd_T30 t163 x13_3).f1)
                                                  · rw [if_pos c53] at H
                                                    exact absurd H (by simp)
                                                  · as_aux_lemma =>
                                                      rw [if_neg c53] at H
                                                      have c53b0 : decide (((rd_T30 t169 x13_3).f1) < ((rd_T30 t163 x13_3).f1)) = false := decide_eq_false c53
                                                      clear c53
                                                      by_cases c54 : ((rd_T30 t169 x13_3).f1) > ((rd_T30 t166 x13_3).f1)
                                                      · rw [if_pos c54] at H
                                                        exact absurd H (by simp)
                                                      · as_aux_lemma =>
                                                          rw [if_neg c54] at H
                                                          have c54b0 : decide (((rd_T30 t166 x13_3).f1) < ((rd_T30 t169 x13_3).f1)) = false := decide_eq_false c54
                                                          clear c54
                                                          by_cases c55 : x13_3 < (t172.length : Int)
                                                          · as_aux_lemma =>
                                                              rw [if_pos c55] at H
                                                              have c55b0 : decide (x13_3 < (t172.length : Int)) = true := decide_eq_true c55
                                                              clear c55
                                                              by_cases c56 : ((rd_T30 t172 x13_3).f1) < ((rd_T30 t163 x13_3).f1)
                                                              · rw [if_pos c56] at H
                                                                exact absurd H (by simp)
                                                              · as_aux_lemma =>
                                                                  rw [if_neg c56] at H
                                                                  have c56b0 : decide (((rd_T30 t172 x13_3).f1) < ((rd_T30 t163 x13_3).f1)) = false := decide_eq_false c56
                                                                  clear c56
                                                                  by_cases c57 : ((rd_T30 t172 x13_3).f1) > ((rd_T30 t166 x13_3).f1)
                                                                  · rw [if_pos c57] at H
                                                                    exact absurd H (by simp)
                                                                  · as_aux_lemma =>
                                                                      rw [if_neg c57] at H
                                                                      have c57b0 : decide (((rd_T30 t166 x13_3).f1) < ((rd_T30 t172 x13_3).f1)) = false := decide_eq_false c57
                                                                      clear c57
                                                                      by_cases c58 : ((rd_T30 t160 x13_3).f1) < 1
                                                                      · rw [if_pos c58] at H
                                                                        exact absurd H (by simp)
                                                                      · as_aux_lemma =>
                                                                          rw [if_neg c58] at H
                                                                          have c58b0 : decide (((rd_T30 t160 x13_3).f1) < 1) = false := decide_eq_false c58
                                                                          clear c58
                                                                          by_cases c59 : ((rd_T30 t160 x13_3).f0) = ((rd_T30 t157 x13_3).f0)
                                                                          · as_aux_lemma =>
                                                                              rw [if_pos c59] at H
                                                                              have c59b0 : (((rd_T30 t160 x13_3).f0) == ((rd_T30 t157 x13_3).f0)) = true := beq_iff_eq.mpr c59
                                                                              have c59b1 : (((rd_T30 t160 x13_3).f0) != ((rd_T30 t157 x13_3).f0)) = false := bne_eq_false_iff_eq.mpr c59
                                                                              clear c59
                                                                              have H' := Aside0.mk H
                                                                              clear H
                                                                              obtain ⟨Ao60, co60, eo60⟩ := Kd.R_slice HO_7.out
                                                                              subst eo60
                                                                              have p175 : 0 ≤ (x13_3 : Int) := of_decide_eq_true (by first | (with_reducible assumption) | assumption)
                                                                              have q175 : x13_3 < (t157.length : Int) := of_decide_eq_true (by first | (with_reducible assumption) | assumption)
                                                                              obtain ⟨ad175, e175, hx175_0, hx175_1⟩ := at_T30 (Kd.R_reads' HO_7.out).2.2 x13_3 p175 q175
                                                                              cases e175
                                                                              replace p175 := eq_true p175
                                                                              replace q175 := eq_true q175
                                                                              obtain ⟨Ao61, co61, eo61⟩ := Kd.R_slice HO_8.out
                                                                              subst eo61
                                                                              have p176 : 0 ≤ (x13_3 : Int) := of_decide_eq_true (by first | (with_reducible assumption) | assumption)
                                                                              have q176 : x13_3 < (t160.length : Int) := of_decide_eq_true (by first | (with_reducible assumption) | assumption)
                                                                              obtain ⟨ad176, e176, hx176_0, hx176_1⟩ := at_T30 (Kd.R_reads' HO_8.out).2.2 x13_3 p176 q176
                                                                              cases e176
                                                                              replace p176 := eq_true p176
                                                                              replace q176 := eq_true q176
                                                                              obtain ⟨Ao62, co62, eo62⟩ := Kd.R_slice HO_9.out
                                                                              subst eo62
                                                                              have p177 : 0 ≤ (x13_3 : Int) := of_decide_eq_true (by first | (with_reducible assumption) | assumption)
                                                                              have q177 : x13_3 < (t163.length : Int) := of_decide_eq_true (by first | (with_reducible assumption) | assumption)
                                                                              obtain ⟨ad177, e177, hx177_0, hx177_1⟩ := at_T30 (Kd.R_reads' HO_9.out).2.2 x13_3 p177 q177
                                                                              cases e177
                                                                              replace p177 := eq_true p177
                                                                              replace q177 := eq_true q177
                                                                              obtain ⟨Ao63, co63, eo63⟩ := Kd.R_slice HO_10.out
                                                                              subst eo63
                                                                              have p178 : 0 ≤ (x13_3 : Int) := of_decide_eq_true (by first | (with_reducible assumption) | assumption)
                                                                              have q178 : x13_3 < (t166.length : Int) := of_decide_eq_true (by first | (with_reducible assumption) | assumption)
                                                                              obtain ⟨ad178, e178, hx178_0, hx178_1⟩ := at_T30 (Kd.R_reads' HO_10.out).2.2 x13_3 p178 q178
                                                                              cases e178
                                                                              replace p178 := eq_true p178
                                                                              replace q178 := eq_true q178
                                                                              obtain ⟨Ao64, co64, eo64⟩ := Kd.R_slice HO_11.out
                                                                              subst eo64
                                                                              have p179 : 0 ≤ (x13_3 : Int) := of_decide_eq_true (by first | (with_reducible assumption) | assumption)
                                                                              have q179 : x13_3 < (t169.length : Int) := of_decide_eq_true (by first | (with_reducible assumption) | assumption)
                                                                              obtain ⟨ad179, e179, hx179_0, hx179_1⟩ := at_T30 (Kd.R_reads' HO_11.out).2.2 x13_3 p179 q179
                                                                              cases e179
                                                                              replace p179 := eq_true p179
                                                                              replace q179 := eq_true q179
                                                                              have p180 : 0 ≤ (x13_3 : Int) := of_decide_eq_true (by first | (with_reducible assumption) | assumption)
                                                                              have q180 : x13_3 < (t163.length : Int) := of_decide_eq_true (by first | (with_reducible assumption) | assumption)
                                                                              obtain ⟨ad180, e180, hx180_0, hx180_1⟩ := at_T30 (Kd.R_reads' HO_9.out).2.2 x13_3 p180 q180
                                                                              obtain rfl : ad177 = ad180 := (by injection e180)
                                                                              replace p180 := eq_true p180
                                                                              replace q180 := eq_true q180
                                                                              have p181 : 0 ≤ (x13_3 : Int) := of_decide_eq_true (by first | (with_reducible assumption) | assumption)
                                                                              have q181 : x13_3 < (t169.length : Int) := of_decide_eq_true (by first | (with_reducible assumption) | assumption)
                                                                              obtain ⟨ad181, e181, hx181_0, hx181_1⟩ := at_T30 (Kd.R_reads' HO_11.out).2.2 x13_3 p181 q181
                                                                              obtain rfl : ad179 = ad181 := (by injection e181)
                                                                              replace p181 := eq_true p181
                                                                              replace q181 := eq_true q181
                                                                              have p182 : 0 ≤ (x13_3 : Int) := of_decide_eq_true (by first | (with_reducible assumption) | assumption)
                                                                              have q182 : x13_3 < (t166.length : Int) := of_decide_eq_true (by first | (with_reducible assumption) | assumption)
                                                                              obtain ⟨ad182, e182, hx182_0, hx182_1⟩ := at_T30 (Kd.R_reads' HO_10.out).2.2 x13_3 p182 q182
                                                                              obtain rfl : ad178 = ad182 := (by injection e182)
                                                                              replace p182 := eq_true p182
                                                                              replace q182 := eq_true q182
                                                                              obtain ⟨Ao65, co65, eo65⟩ := Kd.R_slice HO_12.out
                                                                              subst eo65
                                                                              have p183 : 0 ≤ (x13_3 : Int) := of_decide_eq_true (by first | (with_reducible assumption) | assumption)
                                                                              have q183 : x13_3 < (t172.length : Int) := of_decide_eq_true (by first | (with_reducible assumption) | assumption)
                                                                              obtain ⟨ad183, e183, hx183_0, hx183_1⟩ := at_T30 (Kd.R_reads' HO_12.out).2.2 x13_3 p183 q183
                                                                              cases e183
                                                                              replace p183 := eq_true p183
                                                                              replace q183 := eq_true q183
                                                                              have p184 : 0 ≤ (x13_3 : Int) := of_decide_eq_true (by first | (with_reducible assumption) | assumption)
                                                                              have q184 : x13_3 < (t163.length : Int) := of_decide_eq_true (by first | (with_reducible assumption) | assumption)
                                                                              obtain ⟨ad184, e184, hx184_0, hx184_1⟩ := at_T30 (Kd.R_reads' HO_9.out).2.2 x13_3 p184 q184
                                                                              obtain rfl : ad177 = ad184 := (by injection e184)
                                                                              replace p184 := eq_true p184
                                                                              replace q184 := eq_true q184
                                                                              have p185 : 0 ≤ (x13_3 : Int) := of_decide_eq_true (by first | (with_reducible assumption) | assumption)
                                                                              have q185 : x13_3 < (t172.length : Int) := of_decide_eq_true (by first | (with_reducible assumption) | assumption)
                                                                              obtain ⟨ad185, e185, hx185_0, hx185_1⟩ := at_T30 (Kd.R_reads' HO_12.out).2.2 x13_3 p185 q185
                                                                              obtain rfl : ad183 = ad185 := (by injection e185)
                                                                              replace p185 := eq_true p185
                                                                              replace q185 := eq_true q185
                                                                              have p186 : 0 ≤ (x13_3 : Int) := of_decide_eq_true (by first | (with_reducible assumption) | assumption)
                                                                              have q186 : x13_3 < (t166.length : Int) := of_decide_eq_true (by first | (with_reducible assumption) | assumption)
                                                                              obtain ⟨ad186, e186, hx186_0, hx186_1⟩ := at_T30 (Kd.R_reads' HO_10.out).2.2 x13_3 p186 q186
                                                                              obtain rfl : ad178 = ad186 := (by injection e186)
                                                                              replace p186 := eq_true p186
                                                                              replace q186 := eq_true q186
                                                                              have p187 : 0 ≤ (x13_3 : Int) := of_decide_eq_true (by first | (with_reducible assumption) | assumption)
                                                                              have q187 : x13_3 < (t160.length : Int) := of_decide_eq_true (by first | (with_reducible assumption) | assumption)
                                                                              obtain ⟨ad187, e187, hx187_0, hx187_1⟩ := at_T30 (Kd.R_reads' HO_8.out).2.2 x13_3 p187 q187
                                                                              obtain rfl : ad176 = ad187 := (by injection e187)
                                                                              replace p187 := eq_true p187
                                                                              replace q187 := eq_true q187
                                                                              have p188 : 0 ≤ (x13_3 : Int) := of_decide_eq_true (by first | (with_reducible assumption) | assumption)
                                                                              have q188 : x13_3 < (t160.length : Int) := of_decide_eq_true (by first | (with_reducible assumption) | assumption)
                                                                              obtain ⟨ad188, e188, hx188_0, hx188_1⟩ := at_T30 (Kd.R_reads' HO_8.out).2.2 x13_3 p188 q188
                                                                              obtain rfl : ad176 = ad188 := (by injection e188)
                                                                              replace p188 := eq_true p188
                                                                              replace q188 := eq_true q188
                                                                              have p189 : 0 ≤ (x13_3 : Int) := of_decide_eq_true (by first | (with_reducible assumption) | assumption)
                                                                              have q189 : x13_3 < (t157.length : Int) := of_decide_eq_true (by first | (with_reducible assumption) | assumption)
                                                                              obtain ⟨ad189, e189, hx189_0, hx189_1⟩ := at_T30 (Kd.R_reads' HO_7.out).2.2 x13_3 p189 q189
                                                                              obtain rfl : ad175 = ad189 := (by injection e189)
                                                                              replace p189 := eq_true p189
                                                                              replace q189 := eq_true q189
                                                                              go_wp2
                                                                              repeat (go_quiet (fail); try go_wp2)
                                                                              go_roundg k3
                                                                              case measure => have := HK1.out; have := HJ12.out; have := HK3.out; omega
                                                                              case rel => exact ⟨(wrap64 (x4_3 - ((rd_T30 t157 x13_3).f1))), (wrap64 (x5_3 + ((rd_T30 t160 x13_3).f1))), (wrap64 (x13_3 + 1)), (by first | rfl | (simp; done) | (simp [*]; done)), (by first | rfl | (simp; done) | (simp [*]; done)), (by first | rfl | (simp; done) | (simp [*]; done)), H', ⟨by have := HK1.out; have := HJ12.out; have := HK3.out; omega⟩, ⟨by (with_reducible repeat (first | apply Kd.R_alloc | apply Kd.R_drewN | apply Kd.R_drew)); exact HO_3.out⟩, ⟨by (with_reducible repeat (first | apply Kd.R_alloc | apply Kd.R_drewN | apply Kd.R_drew)); exact HO_7.out⟩, ⟨by (with_reducible repeat (first | apply Kd.R_alloc | apply Kd.R_drewN | apply Kd.R_drew)); exact HO_8.out⟩, ⟨by (with_reducible repeat (first | apply Kd.R_alloc | apply Kd.R_drewN | apply Kd.R_drew)); exact HO_9.out⟩, ⟨by (with_reducible repeat (first | apply Kd.R_alloc | apply Kd.R_drewN | apply Kd.R_drew)); exact HO_10.out⟩, ⟨by (with_reducible repeat (first | apply Kd.R_alloc | apply Kd.R_drewN | apply Kd.R_drew)); exact HO_11.out⟩, ⟨by (with_reducible repeat (first | apply Kd.R_alloc | apply Kd.R_drewN | apply Kd.R_drew)); exact HO_12.out⟩, ⟨by repeat (first | (with_reducible first | exact HB.out | apply below_alloc | apply pw_below_drewN | apply below_drew1) | exact HB.out)⟩⟩
                                                                          · rw [if_neg c59] at H
                                                                            exact absurd H (by simp)
                                                          · rw [if_neg c55] at H
                                                            exact absurd H (by simp)
                                              · rw [if_neg c52] at H
                                                exact absurd H (by simp)
                                      · rw [if_neg c50] at H
                                        exact absurd H (by simp)
                                  · rw [if_neg c49] at H
                                    exact absurd H (by simp)
                              · rw [if_neg c48] at H
                                exact absurd H (by simp)
                          · rw [if_neg c47] at H
                            exact absurd H (by simp)
                      · as_aux_lemma =>
                          rw [if_neg c46] at H
                          have c46b0 : decide (x13_3 < (t157.length : Int)) = false := decide_eq_false c46
                          clear c46
                          replace H := Option.bind_eq_some_iff.mp H
                          obtain ⟨t190, A660, H⟩ := H
                          replace H : (if t190 = true then (if x4_3 = 0 then (some (x5_3 == (t153.length : Int))) else (none)) else (none)) = some r := H
                          have A66 := Aside0.mk A660
                          clear A660
                          by_cases c67 : t190 = true
                          · as_aux_lemma =>
                              subst c67
                              have H1 : (if x4_3 = 0 then (some (x5_3 == (t153.length : Int))) else (none)) = some r := by rw [if_pos rfl] at H; exact H
                              clear H
                              have H := H1
                              clear H1
                              by_cases c68 : x4_3 = 0
                              · as_aux_lemma =>
                                  rw [if_pos c68] at H
                                  have c68b0 : (x4_3 == 0) = true := beq_iff_eq.mpr c68
                                  have c68b1 : (x4_3 != 0) = false := bne_eq_false_iff_eq.mpr c68
                                  clear c68
                                  obtain rfl := Option.some.inj H
                                  obtain ⟨Ao69, co69, eo69⟩ := Kd.R_slice HO_7.out
                                  subst eo69
                                  go_wp2_with (first | (go_at_call 21; (with_reducible refine (tributarylaw4_told.calls k3  true _ A66.out).mono ?_); rintro e w70 ⟨rfl, hb⟩; have n0_ := Aside0.mk (Kd.R_below (by (with_reducible repeat (first | apply Kd.R_alloc | apply Kd.R_drewN | apply Kd.R_drew)); exact HO_3.out) hb); have n1_ := Aside0.mk (Kd.R_below (by (with_reducible repeat (first | apply Kd.R_alloc | apply Kd.R_drewN | apply Kd.R_drew)); exact HO_7.out) hb); have n2_ := Aside0.mk (Kd.R_below (by (with_reducible repeat (first | apply Kd.R_alloc | apply Kd.R_drewN | apply Kd.R_drew)); exact HO_8.out) hb); have n3_ := Aside0.mk (Kd.R_below (by (with_reducible repeat (first | apply Kd.R_alloc | apply Kd.R_drewN | apply Kd.R_drew)); exact HO_9.out) hb); have n4_ := Aside0.mk (Kd.R_below (by (with_reducible repeat (first | apply Kd.R_alloc | apply Kd.R_drewN | apply Kd.R_drew)); exact HO_10.out) hb); have n5_ := Aside0.mk (Kd.R_below (by (with_reducible repeat (first | apply Kd.R_alloc | apply Kd.R_drewN | apply Kd.R_drew)); exact HO_11.out) hb); have n6_ := Aside0.mk (Kd.R_below (by (with_reducible repeat (first | apply Kd.R_alloc | apply Kd.R_drewN | apply Kd.R_drew)); exact HO_12.out) hb); have n7_ := Aside0.mk (below_step (by repeat (first | (with_reducible first | exact HB.out | apply below_alloc | apply pw_below_drewN | apply below_drew1) | exact HB.out)) hb); clear HO_3; clear HO_7; clear HO_8; clear HO_9; clear HO_10; clear HO_11; clear HO_12; clear HB; have HO_3 := n0_; have HO_7 := n1_; have HO_8 := n2_; have HO_9 := n3_; have HO_10 := n4_; have HO_11 := n5_; have HO_12 := n6_; have HB := n7_; clear n0_ n1_ n2_ n3_ n4_ n5_ n6_ n7_; (try clear hb); (try clear hb2); (try clear hk); (try clear hi)))
                                  repeat (go_quiet (first | (go_at_call 21; (with_reducible refine (tributarylaw4_told.calls k3  true _ A66.out).mono ?_); rintro e w70 ⟨rfl, hb⟩; have n0_ := Aside0.mk (Kd.R_below (by (with_reducible repeat (first | apply Kd.R_alloc | apply Kd.R_drewN | apply Kd.R_drew)); exact HO_3.out) hb); have n1_ := Aside0.mk (Kd.R_below (by (with_reducible repeat (first | apply Kd.R_alloc | apply Kd.R_drewN | apply Kd.R_drew)); exact HO_7.out) hb); have n2_ := Aside0.mk (Kd.R_below (by (with_reducible repeat (first | apply Kd.R_alloc | apply Kd.R_drewN | apply Kd.R_drew)); exact HO_8.out) hb); have n3_ := Aside0.mk (Kd.R_below (by (with_reducible repeat (first | apply Kd.R_alloc | apply Kd.R_drewN | apply Kd.R_drew)); exact HO_9.out) hb); have n4_ := Aside0.mk (Kd.R_below (by (with_reducible repeat (first | apply Kd.R_alloc | apply Kd.R_drewN | apply Kd.R_drew)); exact HO_10.out) hb); have n5_ := Aside0.mk (Kd.R_below (by (with_reducible repeat (first | apply Kd.R_alloc | apply Kd.R_drewN | apply Kd.R_drew)); exact HO_11.out) hb); have n6_ := Aside0.mk (Kd.R_below (by (with_reducible repeat (first | apply Kd.R_alloc | apply Kd.R_drewN | apply Kd.R_drew)); exact HO_12.out) hb); have n7_ := Aside0.mk (below_step (by repeat (first | (with_reducible first | exact HB.out | apply below_alloc | apply pw_below_drewN | apply below_drew1) | exact HB.out)) hb); clear HO_3; clear HO_7; clear HO_8; clear HO_9; clear HO_10; clear HO_11; clear HO_12; clear HB; have HO_3 := n0_; have HO_7 := n1_; have HO_8 := n2_; have HO_9 := n3_; have HO_10 := n4_; have HO_11 := n5_; have HO_12 := n6_; have HB := n7_; clear n0_ n1_ n2_ n3_ n4_ n5_ n6_ n7_; (try clear hb); (try clear hb2); (try clear hk); (try clear hi))); try go_wp2_with (first | (go_at_call 21; (with_reducible refine (tributarylaw4_told.calls k3  true _ A66.out).mono ?_); rintro e w70 ⟨rfl, hb⟩; have n0_ := Aside0.mk (Kd.R_below (by (with_reducible repeat (first | apply Kd.R_alloc | apply Kd.R_drewN | apply Kd.R_drew)); exact HO_3.out) hb); have n1_ := Aside0.mk (Kd.R_below (by (with_reducible repeat (first | apply Kd.R_alloc | apply Kd.R_drewN | apply Kd.R_drew)); exact HO_7.out) hb); have n2_ := Aside0.mk (Kd.R_below (by (with_reducible repeat (first | apply Kd.R_alloc | apply Kd.R_drewN | apply Kd.R_drew)); exact HO_8.out) hb); have n3_ := Aside0.mk (Kd.R_below (by (with_reducible repeat (first | apply Kd.R_alloc | apply Kd.R_drewN | apply Kd.R_drew)); exact HO_9.out) hb); have n4_ := Aside0.mk (Kd.R_below (by (with_reducible repeat (first | apply Kd.R_alloc | apply Kd.R_drewN | apply Kd.R_drew)); exact HO_10.out) hb); have n5_ := Aside0.mk (Kd.R_below (by (with_reducible repeat (first | apply Kd.R_alloc | apply Kd.R_drewN | apply Kd.R_drew)); exact HO_11.out) hb); have n6_ := Aside0.mk (Kd.R_below (by (with_reducible repeat (first | apply Kd.R_alloc | apply Kd.R_drewN | apply Kd.R_drew)); exact HO_12.out) hb); have n7_ := Aside0.mk (below_step (by repeat (first | (with_reducible first | exact HB.out | apply below_alloc | apply pw_below_drewN | apply below_drew1) | exact HB.out)) hb); clear HO_3; clear HO_7; clear HO_8; clear HO_9; clear HO_10; clear HO_11; clear HO_12; clear HB; have HO_3 := n0_; have HO_7 := n1_; have HO_8 := n2_; have HO_9 := n3_; have HO_10 := n4_; have HO_11 := n5_; have HO_12 := n6_; have HB := n7_; clear n0_ n1_ n2_ n3_ n4_ n5_ n6_ n7_; (try clear hb); (try clear hb2); (try clear hk); (try clear hi))))
                                  go_ret
                                  exact ⟨by first | rfl | (simp [errW_none, errW_some] <;> rfl) | (simp [*, errW_none, errW_some] <;> rfl), by repeat (first | (with_reducible first | exact HB.out | apply below_alloc | apply pw_below_drewN | apply below_drew1) | exact HB.out)⟩
                              · rw [if_neg c68] at H
                                exact absurd H (by simp)
                          · as_aux_lemma =>
                              replace c67 := Bool.eq_false_iff.mpr c67
                              subst c67
                              have H1 : (none) = some r := by rw [if_neg (show ¬ (false = true) by decide)] at H; exact H
                              clear H
                              have H := H1
                              clear H1
                              exact absurd H (by simp)

/-! ### rows_Part: function 28 -/
def rows_Part.f (a0 : Int) (a1 : Int) : Option (Int) := if a1 < 2 then (some 0) else (if a1 = 0 then (none) else (some (Int.tmod (wrap64 ((IntKind.u64.wrap ((IntKind.u64.wrap (a0)) * 11400714819323198485)) / 8589934592)) a1)))
set_option maxHeartbeats 8000000 in
set_option maxRecDepth 100000 in
theorem rows_Part.calls (a0 : Int) (a1 : Int) (r : Int) (w : World) (h : rows_Part.f a0 a1 = some r) :
    Calls Try.prog 28 #[.int .i64 a0, .int .i64 a1] w fun e w' => e = .returned (.int .i64 r) ∧ Drawn0 w w' := by
  have H : (if a1 < 2 then (some 0) else (if a1 = 0 then (none) else (some (Int.tmod (wrap64 ((IntKind.u64.wrap ((IntKind.u64.wrap (a0)) * 11400714819323198485)) / 8589934592)) a1)))) = some r := h
  clear h
  by_cases c3 : a1 < 2
  · rw [if_pos c3] at H
    have c3b0 : decide (a1 < 2) = true := decide_eq_true c3
    clear c3
    obtain rfl := Option.some.inj H
    go_enter Try.func28, Try.ntmps28
    go_wp2
    go_ret
    exact ⟨by first | rfl | (simp; done) | (simp [*]; done), by repeat (first | exact Drawn0.refl _ | apply Drawn0.step)⟩
  · rw [if_neg c3] at H
    have c3b0 : decide (a1 < 2) = false := decide_eq_false c3
    clear c3
    by_cases c4 : a1 = 0
    · rw [if_pos c4] at H
      exact absurd H (by simp)
    · rw [if_neg c4] at H
      have c4b0 : (a1 == 0) = false := beq_eq_false_iff_ne.mpr c4
      have c4b1 : (a1 != 0) = true := bne_iff_ne.mpr c4
      obtain rfl := Option.some.inj H
      go_enter Try.func28, Try.ntmps28
      go_wp2
      go_ret
      exact ⟨by first | rfl | (simp; done) | (simp [*]; done), by repeat (first | exact Drawn0.refl _ | apply Drawn0.step)⟩

end Go.Proofs.Ytbbjkgpilmcldaa.PWs
