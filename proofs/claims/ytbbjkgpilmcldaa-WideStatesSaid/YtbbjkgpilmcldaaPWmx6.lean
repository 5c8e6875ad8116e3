-- written by a program of this session, a turned copy of the print tool
import Derived.Test.YtbbjkgpilmcldaaPWmx0
import Derived.Test.YtbbjkgpilmcldaaPWmg
namespace Go.Proofs.Ytbbjkgpilmcldaa.PWm
open Go.RowKit Go.Proofs.YtbbjkgpilmcldaaW.PrintWords Go.Proofs.YtbbjkgpilmcldaaW.PrintLast Go.Proofs.YtbbjkgpilmcldaaW.PrintMore
attribute [local go_sem] max2_int min2_int max_two min_two max_three min_three max_four min_four   -- for this text's walks alone
set_option linter.unusedVariables false
set_option linter.unusedSimpArgs false

/-! ### tributarylaw4_laid: function 29 -/
mutual
def tributarylaw4_laid.l0 : Nat → List (S30) → Int → List (List (S30)) → Int → Option ((List (List (S30))) × (List (S30)))
  | 0, _, _, _, _ => none
  | k + 1, x0, x1, x6, x7 => if x7 < x1 then (tributarylaw4_laid.l1 k x0 x1 x6 x7 ([] : List (S30)) x7) else (tributarylaw4_laid.l2 k x1 x6 ([] : List (S30)) 0)
def tributarylaw4_laid.l1 : Nat → List (S30) → Int → List (List (S30)) → Int → List (S30) → Int → Option ((List (List (S30))) × (List (S30)))
  | 0, _, _, _, _, _, _ => none
  | k + 1, x0, x1, x6, x7, x8, x9 => if x9 < (x0.length : Int) then (if x9 < 60 then (if 0 ≤ x9 then (if x8.length < 8796093022208 then (tributarylaw4_laid.l1 k x0 x1 x6 x7 (x8 ++ [(⟨(rd_T30 x0 x9).f0, (rd_T30 x0 x9).f1⟩ : S30)]) (wrap64 (x9 + x1))) else (none)) else (none)) else (if x6.length < 5864062014805 then (tributarylaw4_laid.l0 k x0 x1 (x6 ++ [x8]) (wrap64 (x7 + 1))) else (none))) else (if x6.length < 5864062014805 then (tributarylaw4_laid.l0 k x0 x1 (x6 ++ [x8]) (wrap64 (x7 + 1))) else (none))
def tributarylaw4_laid.l2 : Nat → Int → List (List (S30)) → List (S30) → Int → Option ((List (List (S30))) × (List (S30)))
  | 0, _, _, _, _ => none
  | k + 1, x1, x6, x10, x11 => if x11 < x1 then (if 0 ≤ x11 then (if x11 < (x6.length : Int) then (if x10.length + (rd_L2 x6 x11).length < 8796093022208 then (tributarylaw4_laid.l2 k x1 x6 (x10 ++ (rd_L2 x6 x11)) (wrap64 (x11 + 1))) else (none)) else (none)) else (none)) else (some (x6, x10))
end
def tributarylaw4_laid.f (k : Nat) (l0 : List (S30)) (a1 : Int) : Option ((List (List (S30))) × (List (S30))) := tributarylaw4_laid.l0 k l0 a1 ([] : List (List (S30))) 0
theorem tributarylaw4_laid.mono_l : ∀ k, (∀ y0 y1 y2 y3, LeO (tributarylaw4_laid.l0 k y0 y1 y2 y3) (tributarylaw4_laid.l0 (k + 1) y0 y1 y2 y3)) ∧ (∀ y0 y1 y2 y3 y4 y5, LeO (tributarylaw4_laid.l1 k y0 y1 y2 y3 y4 y5) (tributarylaw4_laid.l1 (k + 1) y0 y1 y2 y3 y4 y5)) ∧ (∀ y0 y1 y2 y3, LeO (tributarylaw4_laid.l2 k y0 y1 y2 y3) (tributarylaw4_laid.l2 (k + 1) y0 y1 y2 y3))
  | 0 => ⟨fun _ _ _ _ r h => by simp [tributarylaw4_laid.l0] at h, fun _ _ _ _ _ _ r h => by simp [tributarylaw4_laid.l1] at h, fun _ _ _ _ r h => by simp [tributarylaw4_laid.l2] at h⟩
  | k + 1 => by
    obtain ⟨ih0, ih1, ih2⟩ := tributarylaw4_laid.mono_l k
    refine ⟨?_, ?_, ?_⟩
    · intro y0 y1 y2 y3
      unfold tributarylaw4_laid.l0
      repeat' first
      | (with_reducible exact ih0 _ _ _ _)
      | (with_reducible exact ih1 _ _ _ _ _ _)
      | (with_reducible exact ih2 _ _ _ _)
      | (with_reducible exact LeO.refl _)
      | (with_reducible exact LeO.none _)
      | (with_reducible refine LeO.ite ?_ ?_)
      | (with_reducible refine LeO.bind ?_ (fun _ => ?_))
      | exact ih0 _ _ _ _
      | exact ih1 _ _ _ _ _ _
      | exact ih2 _ _ _ _
      | exact LeO.none _
      | refine LeO.ite ?_ ?_
      | refine LeO.bind ?_ (fun _ => ?_)
    · intro y0 y1 y2 y3 y4 y5
      unfold tributarylaw4_laid.l1
      repeat' first
      | (with_reducible exact ih0 _ _ _ _)
      | (with_reducible exact ih1 _ _ _ _ _ _)
      | (with_reducible exact ih2 _ _ _ _)
      | (with_reducible exact LeO.refl _)
      | (with_reducible exact LeO.none _)
      | (with_reducible refine LeO.ite ?_ ?_)
      | (with_reducible refine LeO.bind ?_ (fun _ => ?_))
      | exact ih0 _ _ _ _
      | exact ih1 _ _ _ _ _ _
      | exact ih2 _ _ _ _
      | exact LeO.none _
      | refine LeO.ite ?_ ?_
      | refine LeO.bind ?_ (fun _ => ?_)
    · intro y0 y1 y2 y3
      unfold tributarylaw4_laid.l2
      repeat' first
      | (with_reducible exact ih0 _ _ _ _)
      | (with_reducible exact ih1 _ _ _ _ _ _)
      | (with_reducible exact ih2 _ _ _ _)
      | (with_reducible exact LeO.refl _)
      | (with_reducible exact LeO.none _)
      | (with_reducible refine LeO.ite ?_ ?_)
      | (with_reducible refine LeO.bind ?_ (fun _ => ?_))
      | exact ih0 _ _ _ _
      | exact ih1 _ _ _ _ _ _
      | exact ih2 _ _ _ _
      | exact LeO.none _
      | refine LeO.ite ?_ ?_
      | refine LeO.bind ?_ (fun _ => ?_)
theorem tributarylaw4_laid.mono : ∀ a0 a1 k, LeO (tributarylaw4_laid.f k a0 a1) (tributarylaw4_laid.f (k + 1) a0 a1) := by
  intro a0 a1 k
  obtain ⟨ih0, ih1, ih2⟩ := tributarylaw4_laid.mono_l k
  unfold tributarylaw4_laid.f
  repeat' first
      | (with_reducible exact ih0 _ _ _ _)
      | (with_reducible exact ih1 _ _ _ _ _ _)
      | (with_reducible exact ih2 _ _ _ _)
      | (with_reducible exact LeO.refl _)
      | (with_reducible exact LeO.none _)
      | (with_reducible refine LeO.ite ?_ ?_)
      | (with_reducible refine LeO.bind ?_ (fun _ => ?_))
      | exact ih0 _ _ _ _
      | exact ih1 _ _ _ _ _ _
      | exact ih2 _ _ _ _
      | exact LeO.none _
      | refine LeO.ite ?_ ?_
      | refine LeO.bind ?_ (fun _ => ?_)
set_option maxHeartbeats 8000000 in
set_option maxRecDepth 100000 in
theorem tributarylaw4_laid.calls (k : Nat) (A0 : Option Addr) (c0 : Nat) (l0 : List (S30)) (a1 : Int) (r1 : List (List (S30))) (r2 : List (S30)) (w : World) (hr0 : Kd.C k30 w A0 l0.length l0) (hc0 : l0.length ≤ c0) (h : tributarylaw4_laid.f k l0 a1 = some (r1, r2)) :
    Calls Try.prog 29 #[.slice A0 l0.length c0, .int .i64 a1] w fun e w' => ∃ v0_ v1_ : Value, e = .returned (.tuple #[v0_, v1_]) ∧ Kd.S (Kd.slice 30 k30) 22 w' w.heap.size (fun k_ => some k_ ≠ (v1_ : Value).ownBlock) v0_ r1 ∧ Kd.R k30 30 w' w.heap.size (fun _ => True) v1_ r2 ∧ Below w.heap.size w w' := by
  have hu30 := Try.underlying30
  have HR0 := Aside0.mk hr0
  have HC0 := Aside0.mk hc0
  clear hr0 hc0
  have HB := Aside0.mk (Below.refl w.heap.size w)
  have H : (tributarylaw4_laid.l0 k l0 a1 ([] : List (List (S30))) 0) = some (r1, r2) := h
  clear h
  have H' := Aside0.mk H
  clear H
  go_enter Try.func29, Try.ntmps29
  go_wp2
  go_loopg [6, 7] k (fun kq v6 v7 w' => ∃ (x6_1 : List (List (S30))) (x7_1 : Int), v7 = .int .i64 x7_1 ∧ Aside0 (tributarylaw4_laid.l0 kq l0 a1 x6_1 x7_1 = some (r1, r2)) ∧ Aside0 (kq ≤ k) ∧ Aside0 (Kd.S (Kd.slice 30 k30) 22 w' w.heap.size (fun _ => True) v6 x6_1) ∧ Aside0 (Below w.heap.size w w'))
  case atStart => exact ⟨(([] : List (List (S30)))), (0), (by first | rfl | (simp; done) | (simp [*]; done)), H', ⟨Nat.le_refl _⟩, ⟨by first | exact Kd.S_nil _ _ _ _ _ | exact Kd.N_nil _ _ _ _ _ | exact Kd.V_nil _ _ _ _ _ | exact Kd.Q_nil _ _ _ _ _ | exact Kd.R_nil _ _ _ _ _⟩, ⟨by repeat (first | (with_reducible first | exact HB.out | apply below_alloc | apply pw_below_drewN | apply below_drew1) | exact HB.out)⟩⟩
  case round =>
    clear H'
    try clear c2
    try clear p2
    obtain ⟨x6_1, x7_1, rfl, HA, HK1, HO_6, HB⟩ := hrel
    cases gk with
    | zero => exact absurd HA.out (by simp [tributarylaw4_laid.l0])
    | succ k1 =>
      have H := HA.out
      clear HA
      simp only [tributarylaw4_laid.l0] at H
      by_cases c3 : x7_1 < a1
      · rw [if_pos c3] at H
        have c3b0 : decide (x7_1 < a1) = true := decide_eq_true c3
        clear c3
        have H' := Aside0.mk H
        clear H
        go_wp2
        go_loopg [8, 9] k1 (fun kq v8 v9 w' => ∃ (x8_2 : List (S30)) (x9_2 : Int), v9 = .int .i64 x9_2 ∧ Aside0 (tributarylaw4_laid.l1 kq l0 a1 x6_1 x7_1 x8_2 x9_2 = some (r1, r2)) ∧ Aside0 (kq ≤ k1) ∧ Aside0 (Kd.S (Kd.slice 30 k30) 22 w' w.heap.size (fun k_ => some k_ ≠ (v8 : Value).ownBlock) u6 x6_1) ∧ Aside0 (Kd.R k30 30 w' w.heap.size (fun _ => True) v8 x8_2) ∧ Aside0 (Below w.heap.size w w'))
        case atStart => exact ⟨(([] : List (S30))), (x7_1), (by first | rfl | (simp; done) | (simp [*]; done)), H', ⟨Nat.le_refl _⟩, ⟨by (with_reducible repeat (first | apply Kd.S_alloc | apply Kd.S_drewN | apply Kd.S_drew)); exact Kd.S_mono HO_6.out (fun _ hk => (by simp [Value.ownBlock]))⟩, ⟨by first | exact Kd.R_nil _ _ _ _ _ | exact Kd.N_nil _ _ _ _ _ | exact Kd.V_nil _ _ _ _ _ | exact Kd.Q_nil _ _ _ _ _ | exact Kd.S_nil _ _ _ _ _⟩, ⟨by repeat (first | (with_reducible first | exact HB.out | apply below_alloc | apply pw_below_drewN | apply below_drew1) | exact HB.out)⟩⟩
        case round =>
          clear H'
          try clear c2
          try clear p2
          try clear c3
          try clear c3b0
          try clear p2
          obtain ⟨x8_2, x9_2, rfl, HA, HK2, HO_6, HO_8, HB⟩ := hrel
          cases gk with
          | zero => exact absurd HA.out (by simp [tributarylaw4_laid.l1])
          | succ k2 =>
            have H := HA.out
            clear HA
            simp only [tributarylaw4_laid.l1] at H
            by_cases c4 : x9_2 < (l0.length : Int)
            · rw [if_pos c4] at H
              have c4b0 : decide (x9_2 < (l0.length : Int)) = true := decide_eq_true c4
              clear c4
              by_cases c5 : x9_2 < 60
              · rw [if_pos c5] at H
                have c5b0 : decide (x9_2 < 60) = true := decide_eq_true c5
                clear c5
                by_cases c6 : 0 ≤ x9_2
                · rw [if_pos c6] at H
                  have c6b0 : decide (0 ≤ x9_2) = true := decide_eq_true c6
                  clear c6
                  by_cases c7 : x8_2.length < 8796093022208
                  · rw [if_pos c7] at H
                    have LMc7 := Aside0.mk c7
                    clear c7
                    obtain ⟨y227, hy227⟩ : ∃ y_ : List (S30), y_ = (x8_2 ++ [(⟨(rd_T30 l0 x9_2).f0, (rd_T30 l0 x9_2).f1⟩ : S30)]) := ⟨_, rfl⟩
                    replace H : (tributarylaw4_laid.l1 k2 l0 a1 x6_1 x7_1 y227 (wrap64 (x9_2 + a1))) = some (r1, r2) := by first | (rw [hy227]; with_reducible exact H) | (have H2_ := (Option.bind_some _ _).symm.trans H; rw [hy227]; with_reducible exact H2_) | (have H2_ := (Option.bind_some _ _).symm.trans H; with_reducible exact H2_) | with_reducible exact H | (rw [hy227]; exact H) | exact H
                    have Ny227 := Aside0.mk hy227
                    clear hy227
                    have H' := Aside0.mk H
                    clear H
                    have p226 : 0 ≤ (x9_2 : Int) := of_decide_eq_true (by first | (with_reducible assumption) | assumption)
                    have q226 : x9_2 < (l0.length : Int) := of_decide_eq_true (by first | (with_reducible assumption) | assumption)
                    obtain ⟨ad226, e226, hx226_0, hx226_1⟩ := at_T30 HR0.out x9_2 p226 q226
                    cases e226
                    replace hx226_0 := (HB.out.cell (World.block_lt_of_cell? w _ hx226_0)).trans hx226_0
                    replace hx226_1 := (HB.out.cell (World.block_lt_of_cell? w _ hx226_1)).trans hx226_1
                    replace p226 := eq_true p226
                    replace q226 := eq_true q226
                    go_wp2_with (first | ((with_reducible refine gate_builtin (b := .append) (xs := #[.tmp 29, .tmp 34]) rfl ?_); at_builtin; refine Kd.R_append k30 (w0 := w) w.heap.size rfl (.tmp 29) (.tmp 34) 22 30 (.agg #[(.int .i64 0), (.int .i64 0)]) 16 rfl Try.underlying22 info30 rfl (by decide) (by omega) u8 x8_2 (⟨(rd_T30 l0 x9_2).f0, (rd_T30 l0 x9_2).f1⟩ : S30) [.int .i64 ((rd_T30 l0 x9_2).f0), .int .i64 ((rd_T30 l0 x9_2).f1)] (fun _ => True) (fun _ => False) rfl rfl ?aP (fun _ hk => hk.elim) ?aF ?aO ?aB ?aS ?aL ?_; (case aP => exact k30_mkM _ _ _ (⟨(rd_T30 l0 x9_2).f0, (rd_T30 l0 x9_2).f1⟩ : S30)); (case aB => exact (by repeat (first | (with_reducible first | exact HB.out | apply below_alloc | apply pw_below_drewN | apply below_drew1) | exact HB.out))); (case aF => exact (fun _ _ => trivial)); (case aO => exact (by (with_reducible repeat (first | apply Kd.R_alloc | apply Kd.R_drewN | apply Kd.R_drew)); exact HO_8.out)); (case aS => exact (below_size (by repeat (first | (with_reducible first | exact HB.out | apply below_alloc | apply pw_below_drewN | apply below_drew1) | exact HB.out)))); (case aL => have := LMc7.out; omega); intro v228 w8 ho hb hg hat; rw [← Ny227.out] at ho; have n0_ := Aside0.mk (Kd.S_after (ok := (fun _ => True)) (by (with_reducible repeat (first | apply Kd.S_alloc | apply Kd.S_drewN | apply Kd.S_drew)); exact Kd.S_mono HO_6.out (fun _ hk => ⟨trivial, hk⟩)) hg hat); have n1_ := Aside0.mk (hb); have n2_ := Aside0.mk (ho); clear HO_6; clear HB; clear HO_8; have HO_6 := n0_; have HB := n1_; have HO229 := n2_; clear n0_ n1_ n2_; clear ho hb hg hat))
                    go_roundg k2
                    case measure => have := HK1.out; have := HK2.out; omega
                    case rel => exact ⟨(y227), (wrap64 (x9_2 + a1)), (by first | rfl | (simp; done) | (simp [*]; done)), H', ⟨by have := HK1.out; have := HK2.out; omega⟩, ⟨by (with_reducible repeat (first | apply Kd.S_alloc | apply Kd.S_drewN | apply Kd.S_drew)); exact Kd.S_mono HO_6.out (fun _ hk => hk.2)⟩, ⟨by (with_reducible repeat (first | apply Kd.R_alloc | apply Kd.R_drewN | apply Kd.R_drew)); exact HO229.out⟩, ⟨by repeat (first | (with_reducible first | exact HB.out | apply below_alloc | apply pw_below_drewN | apply below_drew1) | exact HB.out)⟩⟩
                  · rw [if_neg c7] at H
                    exact absurd H (by simp)
                · rw [if_neg c6] at H
                  exact absurd H (by simp)
              · rw [if_neg c5] at H
                have c5b0 : decide (x9_2 < 60) = false := decide_eq_false c5
                clear c5
                by_cases c9 : x6_1.length < 5864062014805
                · rw [if_pos c9] at H
                  have LMc9 := Aside0.mk c9
                  clear c9
                  obtain ⟨y230, hy230⟩ : ∃ y_ : List (List (S30)), y_ = (x6_1 ++ [x8_2]) := ⟨_, rfl⟩
                  replace H : (tributarylaw4_laid.l0 k2 l0 a1 y230 (wrap64 (x7_1 + 1))) = some (r1, r2) := by first | (rw [hy230]; with_reducible exact H) | (have H2_ := (Option.bind_some _ _).symm.trans H; rw [hy230]; with_reducible exact H2_) | (have H2_ := (Option.bind_some _ _).symm.trans H; with_reducible exact H2_) | with_reducible exact H | (rw [hy230]; exact H) | exact H
                  have Ny230 := Aside0.mk hy230
                  clear hy230
                  have H' := Aside0.mk H
                  clear H
                  obtain ⟨Ao11, co11, eo11⟩ := Kd.R_slice HO_8.out
                  subst eo11
                  go_wp2_with (first | ((with_reducible refine gate_builtin (b := .append) (xs := #[.tmp 36, .tmp 38]) rfl ?_); at_builtin; refine Kd.S_append (Kd.slice 30 k30) (w0 := w) w.heap.size rfl (.tmp 36) (.tmp 38) 44 22 (.slice none 0 0) 24 rfl Try.underlying44 info22 rfl (by decide) (by omega) u6 x6_1 x8_2 [.slice Ao11 x8_2.length co11] (fun _ => True) (fun k_ => some k_ = (.slice Ao11 x8_2.length co11 : Value).ownBlock) rfl rfl ?aP (fun k_ hk_ => ((Kd.R_mono (ok' := fun k_ => ((fun _ => True)) k_ ∧ some k_ ≠ (u6 : Value).ownBlock) (Kd.R_apart' (HO_8.out) (Kd.S_typed HO_6.out) (by decide)) (fun k_ hk => ⟨trivial, hk.2⟩))).1 k_ hk_.symm) ?aF ?aO ?aB ?aS ?aL ?_; (case aP => exact Kd.M_row (Kd.R_mono (Kd.R_tight rfl (Kd.R_mono (ok' := fun k_ => ((fun _ => True)) k_ ∧ some k_ ≠ (u6 : Value).ownBlock) (Kd.R_apart' (HO_8.out) (Kd.S_typed HO_6.out) (by decide)) (fun k_ hk => ⟨trivial, hk.2⟩))) (fun _ h_ => h_))); (case aB => exact (by repeat (first | (with_reducible first | exact HB.out | apply below_alloc | apply pw_below_drewN | apply below_drew1) | exact HB.out))); (case aF => exact (fun _ _ => trivial)); (case aO => exact (by (with_reducible repeat (first | apply Kd.S_alloc | apply Kd.S_drewN | apply Kd.S_drew)); exact Kd.S_mono HO_6.out (fun k_ hk => ⟨trivial, fun e_ => hk e_⟩))); (case aS => exact (below_size (by repeat (first | (with_reducible first | exact HB.out | apply below_alloc | apply pw_below_drewN | apply below_drew1) | exact HB.out)))); (case aL => have := LMc9.out; omega); intro v231 w10 ho hb hg hat; rw [← Ny230.out] at ho; have n0_ := Aside0.mk (hb); have n1_ := Aside0.mk (ho); clear HB; clear HO_6; clear HO_8; have HB := n0_; have HO232 := n1_; clear n0_ n1_; clear ho hb hg hat))
                  go_roundg k2
                  case measure => have := HK1.out; have := HK2.out; omega
                  case rel => exact ⟨(y230), (wrap64 (x7_1 + 1)), (by first | rfl | (simp; done) | (simp [*]; done)), H', ⟨by have := HK1.out; have := HK2.out; omega⟩, ⟨by (with_reducible repeat (first | apply Kd.S_alloc | apply Kd.S_drewN | apply Kd.S_drew)); exact HO232.out⟩, ⟨by repeat (first | (with_reducible first | exact HB.out | apply below_alloc | apply pw_below_drewN | apply below_drew1) | exact HB.out)⟩⟩
                · rw [if_neg c9] at H
                  exact absurd H (by simp)
            · rw [if_neg c4] at H
              have c4b0 : decide (x9_2 < (l0.length : Int)) = false := decide_eq_false c4
              clear c4
              by_cases c12 : x6_1.length < 5864062014805
              · rw [if_pos c12] at H
                have LMc12 := Aside0.mk c12
                clear c12
                obtain ⟨y233, hy233⟩ : ∃ y_ : List (List (S30)), y_ = (x6_1 ++ [x8_2]) := ⟨_, rfl⟩
                replace H : (tributarylaw4_laid.l0 k2 l0 a1 y233 (wrap64 (x7_1 + 1))) = some (r1, r2) := by first | (rw [hy233]; with_reducible exact H) | (have H2_ := (Option.bind_some _ _).symm.trans H; rw [hy233]; with_reducible exact H2_) | (have H2_ := (Option.bind_some _ _).symm.trans H; with_reducible exact H2_) | with_reducible exact H | (rw [hy233]; exact H) | exact H
                have Ny233 := Aside0.mk hy233
                clear hy233
                have H' := Aside0.mk H
                clear H
                obtain ⟨Ao14, co14, eo14⟩ := Kd.R_slice HO_8.out
                subst eo14
                go_wp2_with (first | ((with_reducible refine gate_builtin (b := .append) (xs := #[.tmp 36, .tmp 38]) rfl ?_); at_builtin; refine Kd.S_append (Kd.slice 30 k30) (w0 := w) w.heap.size rfl (.tmp 36) (.tmp 38) 44 22 (.slice none 0 0) 24 rfl Try.underlying44 info22 rfl (by decide) (by omega) u6 x6_1 x8_2 [.slice Ao14 x8_2.length co14] (fun _ => True) (fun k_ => some k_ = (.slice Ao14 x8_2.length co14 : Value).ownBlock) rfl rfl ?aP (fun k_ hk_ => ((Kd.R_mono (ok' := fun k_ => ((fun _ => True)) k_ ∧ some k_ ≠ (u6 : Value).ownBlock) (Kd.R_apart' (HO_8.out) (Kd.S_typed HO_6.out) (by decide)) (fun k_ hk => ⟨trivial, hk.2⟩))).1 k_ hk_.symm) ?aF ?aO ?aB ?aS ?aL ?_; (case aP => exact Kd.M_row (Kd.R_mono (Kd.R_tight rfl (Kd.R_mono (ok' := fun k_ => ((fun _ => True)) k_ ∧ some k_ ≠ (u6 : Value).ownBlock) (Kd.R_apart' (HO_8.out) (Kd.S_typed HO_6.out) (by decide)) (fun k_ hk => ⟨trivial, hk.2⟩))) (fun _ h_ => h_))); (case aB => exact (by repeat (first | (with_reducible first | exact HB.out | apply below_alloc | apply pw_below_drewN | apply below_drew1) | exact HB.out))); (case aF => exact (fun _ _ => trivial)); (case aO => exact (by (with_reducible repeat (first | apply Kd.S_alloc | apply Kd.S_drewN | apply Kd.S_drew)); exact Kd.S_mono HO_6.out (fun k_ hk => ⟨trivial, fun e_ => hk e_⟩))); (case aS => exact (below_size (by repeat (first | (with_reducible first | exact HB.out | apply below_alloc | apply pw_below_drewN | apply below_drew1) | exact HB.out)))); (case aL => have := LMc12.out; omega); intro v234 w13 ho hb hg hat; rw [← Ny233.out] at ho; have n0_ := Aside0.mk (hb); have n1_ := Aside0.mk (ho); clear HB; clear HO_6; clear HO_8; have HB := n0_; have HO235 := n1_; clear n0_ n1_; clear ho hb hg hat))
                go_roundg k2
                case measure => have := HK1.out; have := HK2.out; omega
                case rel => exact ⟨(y233), (wrap64 (x7_1 + 1)), (by first | rfl | (simp; done) | (simp [*]; done)), H', ⟨by have := HK1.out; have := HK2.out; omega⟩, ⟨by (with_reducible repeat (first | apply Kd.S_alloc | apply Kd.S_drewN | apply Kd.S_drew)); exact HO235.out⟩, ⟨by repeat (first | (with_reducible first | exact HB.out | apply below_alloc | apply pw_below_drewN | apply below_drew1) | exact HB.out)⟩⟩
              · rw [if_neg c12] at H
                exact absurd H (by simp)
      · rw [if_neg c3] at H
        have c3b0 : decide (x7_1 < a1) = false := decide_eq_false c3
        clear c3
        have H' := Aside0.mk H
        clear H
        go_wp2
        go_loopg [10, 11] k1 (fun kq v10 v11 w' => ∃ (x10_2 : List (S30)) (x11_2 : Int), v11 = .int .i64 x11_2 ∧ Aside0 (tributarylaw4_laid.l2 kq a1 x6_1 x10_2 x11_2 = some (r1, r2)) ∧ Aside0 (kq ≤ k1) ∧ Aside0 (Kd.S (Kd.slice 30 k30) 22 w' w.heap.size (fun k_ => some k_ ≠ (v10 : Value).ownBlock) u6 x6_1) ∧ Aside0 (Kd.R k30 30 w' w.heap.size (fun _ => True) v10 x10_2) ∧ Aside0 (Below w.heap.size w w'))
        case atStart => exact ⟨(([] : List (S30))), (0), (by first | rfl | (simp; done) | (simp [*]; done)), H', ⟨Nat.le_refl _⟩, ⟨by (with_reducible repeat (first | apply Kd.S_alloc | apply Kd.S_drewN | apply Kd.S_drew)); exact Kd.S_mono HO_6.out (fun _ hk => (by simp [Value.ownBlock]))⟩, ⟨by first | exact Kd.R_nil _ _ _ _ _ | exact Kd.N_nil _ _ _ _ _ | exact Kd.V_nil _ _ _ _ _ | exact Kd.Q_nil _ _ _ _ _ | exact Kd.S_nil _ _ _ _ _⟩, ⟨by repeat (first | (with_reducible first | exact HB.out | apply below_alloc | apply pw_below_drewN | apply below_drew1) | exact HB.out)⟩⟩
        case round =>
          clear H'
          try clear c1
          try clear c2
          try clear p2
          try clear q2
          try clear hx2
          try clear c3
          try clear c3b0
          try clear c4
          try clear c4b0
          try clear c5
          try clear c5b0
          try clear c6
          try clear c6b0
          try clear p6
          try clear c7
          try clear c9
          try clear c12
          try clear hx226_0
          try clear hx226_1
          try clear p2
          try clear p226
          try clear q226
          obtain ⟨x10_2, x11_2, rfl, HA, HK2, HO_6, HO_10, HB⟩ := hrel
          cases gk with
          | zero => exact absurd HA.out (by simp [tributarylaw4_laid.l2])
          | succ k2 =>
            have H := HA.out
            clear HA
            simp only [tributarylaw4_laid.l2] at H
            by_cases c15 : x11_2 < a1
            · rw [if_pos c15] at H
              have c15b0 : decide (x11_2 < a1) = true := decide_eq_true c15
              clear c15
              by_cases c16 : 0 ≤ x11_2
              · rw [if_pos c16] at H
                have c16b0 : decide (0 ≤ x11_2) = true := decide_eq_true c16
                clear c16
                by_cases c17 : x11_2 < (x6_1.length : Int)
                · rw [if_pos c17] at H
                  have c17b0 : decide (x11_2 < (x6_1.length : Int)) = true := decide_eq_true c17
                  clear c17
                  by_cases c18 : x10_2.length + (rd_L2 x6_1 x11_2).length < 8796093022208
                  · rw [if_pos c18] at H
                    have LMc18 := Aside0.mk c18
                    clear c18
                    obtain ⟨y237, hy237⟩ : ∃ y_ : List (S30), y_ = (x10_2 ++ (rd_L2 x6_1 x11_2)) := ⟨_, rfl⟩
                    replace H : (tributarylaw4_laid.l2 k2 a1 x6_1 y237 (wrap64 (x11_2 + 1))) = some (r1, r2) := by first | (rw [hy237]; with_reducible exact H) | (have H2_ := (Option.bind_some _ _).symm.trans H; rw [hy237]; with_reducible exact H2_) | (have H2_ := (Option.bind_some _ _).symm.trans H; with_reducible exact H2_) | with_reducible exact H | (rw [hy237]; exact H) | exact H
                    have Ny237 := Aside0.mk hy237
                    clear hy237
                    have H' := Aside0.mk H
                    clear H
                    obtain ⟨Ao19, co19, eo19⟩ := Kd.S_slice HO_6.out
                    subst eo19
                    have p236 : 0 ≤ (x11_2 : Int) := of_decide_eq_true (by first | (with_reducible assumption) | assumption)
                    have q236 : x11_2 < (x6_1.length : Int) := of_decide_eq_true (by first | (with_reducible assumption) | assumption)
                    obtain ⟨ad236, A236_0, c236_0, e236, hx236_0, hl236_0, hi236_0⟩ := at_L2 (Kd.S_reads' HO_6.out).2.2 x11_2 p236 q236
                    cases e236
                    obtain ⟨ce236, hce236, hMe236, hcc236⟩ := Kd.S_get HO_6.out [] x11_2 p236 (by first | exact q236 | exact of_decide_eq_true (by first | (with_reducible assumption) | assumption) | (have e_ := (Kd.S_reads' HO_6.out).1; omega))
                    obtain ⟨ve236_0, rfl, ge236_0⟩ := hMe236
                    have hv236_0 := hcc236 0 _ rfl
                    rw [Nat.add_zero, show ((Kd.slice 30 k30)).sz = 1 from rfl, Nat.mul_one] at hv236_0
                    replace hv236_0 := Option.some.inj (hv236_0.symm.trans hx236_0)
                    rw [hv236_0] at ge236_0
                    have HL236_0 := Aside0.mk (show Kd.R k30 30 _ _ _ _ (rd_L2 x6_1 x11_2) from ge236_0)
                    clear hv236_0 ge236_0
                    clear hcc236 hce236
                    have HR236_0 := Aside0.mk hi236_0
                    have HC236_0 := Aside0.mk hl236_0
                    clear hi236_0 hl236_0
                    replace p236 := eq_true p236
                    replace q236 := eq_true q236
                    go_wp2_with (first | ((with_reducible refine gate_builtin (b := .append) (xs := #[.tmp 45, .tmp 49]) rfl ?_); at_builtin; refine Kd.R_append_rows k30 (w0 := w) w.heap.size rfl (.tmp 45) (.tmp 49) 22 30 (.agg #[(.int .i64 0), (.int .i64 0)]) 16 rfl Try.underlying22 info30 rfl (by decide) (by omega) u10 x10_2 (rd_L2 x6_1 x11_2) _ _ _ (fun _ => True) (fun _ => False) rfl rfl ?aO ?aR (fun _ _ h => h) (fun _ h => h.elim) ?aF ?aB ?aS ?aL ?_; (case aR => repeat (first | exact (by repeat (first | (with_reducible exact HR236_0.out) | (with_reducible refine Kd.C_alloc ?_ _) | (with_reducible refine Kd.C_drewN ?_ _) | (with_reducible refine Kd.C_drew ?_) | exact HR236_0.out)) | (with_reducible refine Kd.C_alloc ?_ _) | (with_reducible refine Kd.C_drewN ?_ _) | (with_reducible refine Kd.C_drew ?_))); (case aB => exact (by repeat (first | (with_reducible first | exact HB.out | apply below_alloc | apply pw_below_drewN | apply below_drew1) | exact HB.out))); (case aF => exact (fun _ _ => trivial)); (case aO => exact (by (with_reducible repeat (first | apply Kd.R_alloc | apply Kd.R_drewN | apply Kd.R_drew)); exact HO_10.out)); (case aS => exact (below_size (by repeat (first | (with_reducible first | exact HB.out | apply below_alloc | apply pw_below_drewN | apply below_drew1) | exact HB.out)))); (case aL => have := LMc18.out; omega); intro v238 w20 ho hb hg hat; rw [← Ny237.out] at ho; have n0_ := Aside0.mk (Kd.S_after (ok := (fun _ => True)) (by (with_reducible repeat (first | apply Kd.S_alloc | apply Kd.S_drewN | apply Kd.S_drew)); exact Kd.S_mono HO_6.out (fun _ hk => ⟨trivial, hk⟩)) hg hat); have n1_ := Aside0.mk (Kd.R_after (ok := (fun k_ => some k_ ≠ (.slice (some ad236) x6_1.length co19 : Value).ownBlock)) (by (with_reducible repeat (first | apply Kd.R_alloc | apply Kd.R_drewN | apply Kd.R_drew)); exact Kd.R_mono HL236_0.out (fun _ hk => ⟨hk.2, hk.1⟩)) hg hat); have n2_ := Aside0.mk (hb); have n3_ := Aside0.mk (ho); clear HO_6; clear HL236_0; clear HB; clear HO_10; have HO_6 := n0_; have HL236_0 := n1_; have HB := n2_; have HO239 := n3_; clear n0_ n1_ n2_ n3_; clear ho hb hg hat))
                    go_roundg k2
                    case measure => have := HK1.out; have := HK2.out; omega
                    case rel => exact ⟨(y237), (wrap64 (x11_2 + 1)), (by first | rfl | (simp; done) | (simp [*]; done)), H', ⟨by have := HK1.out; have := HK2.out; omega⟩, ⟨by (with_reducible repeat (first | apply Kd.S_alloc | apply Kd.S_drewN | apply Kd.S_drew)); exact Kd.S_mono HO_6.out (fun _ hk => hk.2)⟩, ⟨by (with_reducible repeat (first | apply Kd.R_alloc | apply Kd.R_drewN | apply Kd.R_drew)); exact HO239.out⟩, ⟨by repeat (first | (with_reducible first | exact HB.out | apply below_alloc | apply pw_below_drewN | apply below_drew1) | exact HB.out)⟩⟩
                  · rw [if_neg c18] at H
                    exact absurd H (by simp)
                · rw [if_neg c17] at H
                  exact absurd H (by simp)
              · rw [if_neg c16] at H
                exact absurd H (by simp)
            · rw [if_neg c15] at H
              have c15b0 : decide (x11_2 < a1) = false := decide_eq_false c15
              clear c15
              simp only [Option.some.injEq, Prod.mk.injEq] at H
              obtain ⟨rfl, rfl⟩ := H
              go_wp2
              go_ret2
              exact ⟨_, _, by first | rfl | (simp [errW_none, errW_some] <;> rfl) | (simp [*, errW_none, errW_some] <;> rfl), by (with_reducible repeat (first | apply Kd.S_alloc | apply Kd.S_drewN | apply Kd.S_drew)); exact HO_6.out, by (with_reducible repeat (first | apply Kd.R_alloc | apply Kd.R_drewN | apply Kd.R_drew)); exact HO_10.out, by repeat (first | (with_reducible first | exact HB.out | apply below_alloc | apply pw_below_drewN | apply below_drew1) | exact HB.out)⟩

/-! ### tributarylaw4_gathered: function 30 -/
mutual
def tributarylaw4_gathered.l0 : Nat → List (List (S30)) → List (S30) → Int → Option ((List (S30)))
  | 0, _, _, _ => none
  | k + 1, x0, x3, x4 => if x4 < (x0.length : Int) then (tributarylaw4_gathered.l1 k x0 x3 x4 0) else (some x3)
def tributarylaw4_gathered.l1 : Nat → List (List (S30)) → List (S30) → Int → Int → Option ((List (S30)))
  | 0, _, _, _, _ => none
  | k + 1, x0, x3, x4, x5 => if 0 ≤ x4 then (if x4 < (x0.length : Int) then (if x5 < ((rd_L2 x0 x4).length : Int) then (tributarylaw4_gathered.l2 k x0 x3 x4 x5 (x3.length : Int)) else (tributarylaw4_gathered.l0 k x0 x3 (wrap64 (x4 + 1)))) else (none)) else (none)
def tributarylaw4_gathered.l2 : Nat → List (List (S30)) → List (S30) → Int → Int → Int → Option ((List (S30)))
  | 0, _, _, _, _, _ => none
  | k + 1, x0, x3, x4, x5, x6 => if x6 > 0 then (if 0 ≤ (wrap64 (x6 - 1)) then (if (wrap64 (x6 - 1)) < (x3.length : Int) then (if 0 ≤ x4 then (if x4 < (x0.length : Int) then (if 0 ≤ x5 then (if x5 < ((rd_L2 x0 x4).length : Int) then (if ((rd_T30 x3 (wrap64 (x6 - 1))).f0) > ((rd_T30 (rd_L2 x0 x4) x5).f0) then (tributarylaw4_gathered.l2 k x0 x3 x4 x5 (wrap64 (x6 - 1))) else (if 0 ≤ x6 then (if x6 ≤ (x3.length : Int) then ((some (x3.take (x6 : Int).toNat : List (S30))).bind fun y244 => (if ([] : List (S30)).length + y244.length < 8796093022208 then ((some (([] : List (S30)) ++ y244 : List (S30))).bind fun y248 => (if y248.length < 8796093022208 then ((some (y248 ++ [(⟨(rd_T30 (rd_L2 x0 x4) x5).f0, (rd_T30 (rd_L2 x0 x4) x5).f1⟩ : S30)] : List (S30))).bind fun y253 => ((some (x3.drop (x6 : Int).toNat : List (S30))).bind fun y256 => (if y253.length + y256.length < 8796093022208 then (tributarylaw4_gathered.l1 k x0 (y253 ++ y256) x4 (wrap64 (x5 + 1))) else (none)))) else (none))) else (none))) else (none)) else (none))) else (none)) else (none)) else (none)) else (none)) else (none)) else (none)) else (if 0 ≤ x6 then (if x6 ≤ (x3.length : Int) then ((some (x3.take (x6 : Int).toNat : List (S30))).bind fun y263 => (if ([] : List (S30)).length + y263.length < 8796093022208 then ((some (([] : List (S30)) ++ y263 : List (S30))).bind fun y267 => (if 0 ≤ x4 then (if x4 < (x0.length : Int) then (if 0 ≤ x5 then (if x5 < ((rd_L2 x0 x4).length : Int) then (if y267.length < 8796093022208 then ((some (y267 ++ [(⟨(rd_T30 (rd_L2 x0 x4) x5).f0, (rd_T30 (rd_L2 x0 x4) x5).f1⟩ : S30)] : List (S30))).bind fun y272 => ((some (x3.drop (x6 : Int).toNat : List (S30))).bind fun y275 => (if y272.length + y275.length < 8796093022208 then (tributarylaw4_gathered.l1 k x0 (y272 ++ y275) x4 (wrap64 (x5 + 1))) else (none)))) else (none)) else (none)) else (none)) else (none)) else (none))) else (none))) else (none)) else (none))
end
def tributarylaw4_gathered.f (k : Nat) (l0 : List (List (S30))) : Option ((List (S30))) := tributarylaw4_gathered.l0 k l0 ([] : List (S30)) 0
theorem tributarylaw4_gathered.mono_l : ∀ k, (∀ y0 y1 y2, LeO (tributarylaw4_gathered.l0 k y0 y1 y2) (tributarylaw4_gathered.l0 (k + 1) y0 y1 y2)) ∧ (∀ y0 y1 y2 y3, LeO (tributarylaw4_gathered.l1 k y0 y1 y2 y3) (tributarylaw4_gathered.l1 (k + 1) y0 y1 y2 y3)) ∧ (∀ y0 y1 y2 y3 y4, LeO (tributarylaw4_gathered.l2 k y0 y1 y2 y3 y4) (tributarylaw4_gathered.l2 (k + 1) y0 y1 y2 y3 y4))
  | 0 => ⟨fun _ _ _ r h => by simp [tributarylaw4_gathered.l0] at h, fun _ _ _ _ r h => by simp [tributarylaw4_gathered.l1] at h, fun _ _ _ _ _ r h => by simp [tributarylaw4_gathered.l2] at h⟩
  | k + 1 => by
    obtain ⟨ih0, ih1, ih2⟩ := tributarylaw4_gathered.mono_l k
    refine ⟨?_, ?_, ?_⟩
    · intro y0 y1 y2
      unfold tributarylaw4_gathered.l0
      repeat' first
      | (with_reducible exact ih0 _ _ _)
      | (with_reducible exact ih1 _ _ _ _)
      | (with_reducible exact ih2 _ _ _ _ _)
      | (with_reducible exact LeO.refl _)
      | (with_reducible exact LeO.none _)
      | (with_reducible refine LeO.ite ?_ ?_)
      | (with_reducible refine LeO.bind ?_ (fun _ => ?_))
      | exact ih0 _ _ _
      | exact ih1 _ _ _ _
      | exact ih2 _ _ _ _ _
      | exact LeO.none _
      | refine LeO.ite ?_ ?_
      | refine LeO.bind ?_ (fun _ => ?_)
    · intro y0 y1 y2 y3
      unfold tributarylaw4_gathered.l1
      repeat' first
      | (with_reducible exact ih0 _ _ _)
      | (with_reducible exact ih1 _ _ _ _)
      | (with_reducible exact ih2 _ _ _ _ _)
      | (with_reducible exact LeO.refl _)
      | (with_reducible exact LeO.none _)
      | (with_reducible refine LeO.ite ?_ ?_)
      | (with_reducible refine LeO.bind ?_ (fun _ => ?_))
      | exact ih0 _ _ _
      | exact ih1 _ _ _ _
      | exact ih2 _ _ _ _ _
      | exact LeO.none _
      | refine LeO.ite ?_ ?_
      | refine LeO.bind ?_ (fun _ => ?_)
    · intro y0 y1 y2 y3 y4
      unfold tributarylaw4_gathered.l2
      repeat' first
      | (with_reducible exact ih0 _ _ _)
      | (with_reducible exact ih1 _ _ _ _)
      | (with_reducible exact ih2 _ _ _ _ _)
      | (with_reducible exact LeO.refl _)
      | (with_reducible exact LeO.none _)
      | (with_reducible refine LeO.ite ?_ ?_)
      | (with_reducible refine LeO.bind ?_ (fun _ => ?_))
      | exact ih0 _ _ _
      | exact ih1 _ _ _ _
      | exact ih2 _ _ _ _ _
      | exact LeO.none _
      | refine LeO.ite ?_ ?_
      | refine LeO.bind ?_ (fun _ => ?_)
theorem tributarylaw4_gathered.mono : ∀ a0 k, LeO (tributarylaw4_gathered.f k a0) (tributarylaw4_gathered.f (k + 1) a0) := by
  intro a0 k
  obtain ⟨ih0, ih1, ih2⟩ := tributarylaw4_gathered.mono_l k
  unfold tributarylaw4_gathered.f
  repeat' first
      | (with_reducible exact ih0 _ _ _)
      | (with_reducible exact ih1 _ _ _ _)
      | (with_reducible exact ih2 _ _ _ _ _)
      | (with_reducible exact LeO.refl _)
      | (with_reducible exact LeO.none _)
      | (with_reducible refine LeO.ite ?_ ?_)
      | (with_reducible refine LeO.bind ?_ (fun _ => ?_))
      | exact ih0 _ _ _
      | exact ih1 _ _ _ _
      | exact ih2 _ _ _ _ _
      | exact LeO.none _
      | refine LeO.ite ?_ ?_
      | refine LeO.bind ?_ (fun _ => ?_)
set_option maxHeartbeats 8000000 in
set_option maxRecDepth 100000 in
theorem tributarylaw4_gathered.calls (k : Nat) (A0 : Option Addr) (c0 : Nat) (l0 : List (List (S30))) (r : List (S30)) (w : World) (hr0 : Kd.C (Kd.slice 30 k30) w A0 l0.length l0) (hc0 : l0.length ≤ c0) (h : tributarylaw4_gathered.f k l0 = some r) :
    Calls Try.prog 30 #[.slice A0 l0.length c0] w fun e w' => ∃ v0_ : Value, e = .returned (v0_) ∧ Kd.R k30 30 w' w.heap.size (fun _ => True) v0_ r ∧ Below w.heap.size w w' := by
  have hu30 := Try.underlying30
  have HR0 := Aside0.mk hr0
  have HC0 := Aside0.mk hc0
  clear hr0 hc0
  have HB := Aside0.mk (Below.refl w.heap.size w)
  have H : (tributarylaw4_gathered.l0 k l0 ([] : List (S30)) 0) = some r := h
  clear h
  have H' := Aside0.mk H
  clear H
  go_enter Try.func30, Try.ntmps30
  go_wp2
  repeat (go_quiet (fail); try go_wp2)
  go_loopg [3, 4] k (fun kq v3 v4 w' => ∃ (x3_1 : List (S30)) (x4_1 : Int), v4 = .int .i64 x4_1 ∧ Aside0 (tributarylaw4_gathered.l0 kq l0 x3_1 x4_1 = some r) ∧ Aside0 (kq ≤ k) ∧ Aside0 (Kd.R k30 30 w' w.heap.size (fun _ => True) v3 x3_1) ∧ Aside0 (Below w.heap.size w w'))
  case atStart => exact ⟨(([] : List (S30))), (0), (by first | rfl | (simp; done) | (simp [*]; done)), H', ⟨Nat.le_refl _⟩, ⟨by first | exact Kd.R_nil _ _ _ _ _ | exact Kd.N_nil _ _ _ _ _ | exact Kd.V_nil _ _ _ _ _ | exact Kd.Q_nil _ _ _ _ _ | exact Kd.S_nil _ _ _ _ _⟩, ⟨by repeat (first | (with_reducible first | exact HB.out | apply below_alloc | apply pw_below_drewN | apply below_drew1) | exact HB.out)⟩⟩
  case round =>
    clear H'
    obtain ⟨x3_1, x4_1, rfl, HA, HK1, HO_3, HB⟩ := hrel
    cases gk with
    | zero => exact absurd HA.out (by simp [tributarylaw4_gathered.l0])
    | succ k1 =>
      have H := HA.out
      clear HA
      simp only [tributarylaw4_gathered.l0] at H
      by_cases c2 : x4_1 < (l0.length : Int)
      · rw [if_pos c2] at H
        have c2b0 : decide (x4_1 < (l0.length : Int)) = true := decide_eq_true c2
        clear c2
        have H' := Aside0.mk H
        clear H
        go_wp2
        repeat (go_quiet (fail); try go_wp2)
        go_loopg [3, 5] k1 (fun kq v3 v5 w' => ∃ (x3_2 : List (S30)) (x5_2 : Int), v5 = .int .i64 x5_2 ∧ Aside0 (tributarylaw4_gathered.l1 kq l0 x3_2 x4_1 x5_2 = some r) ∧ Aside0 (kq ≤ k1) ∧ Aside0 (Kd.R k30 30 w' w.heap.size (fun _ => True) v3 x3_2) ∧ Aside0 (Below w.heap.size w w'))
        case atStart => exact ⟨(x3_1), (0), (by first | rfl | (simp; done) | (simp [*]; done)), H', ⟨Nat.le_refl _⟩, ⟨by (with_reducible repeat (first | apply Kd.R_alloc | apply Kd.R_drewN | apply Kd.R_drew)); exact HO_3.out⟩, ⟨by repeat (first | (with_reducible first | exact HB.out | apply below_alloc | apply pw_below_drewN | apply below_drew1) | exact HB.out)⟩⟩
        case round =>
          clear H'
          try clear c2
          try clear c2b0
          try clear p2
          obtain ⟨x3_2, x5_2, rfl, HA, HK2, HO_3, HB⟩ := hrel
          cases gk with
          | zero => exact absurd HA.out (by simp [tributarylaw4_gathered.l1])
          | succ k2 =>
            have H := HA.out
            clear HA
            simp only [tributarylaw4_gathered.l1] at H
            by_cases c3 : 0 ≤ x4_1
            · rw [if_pos c3] at H
              have c3b0 : decide (0 ≤ x4_1) = true := decide_eq_true c3
              clear c3
              by_cases c4 : x4_1 < (l0.length : Int)
              · rw [if_pos c4] at H
                have c4b0 : decide (x4_1 < (l0.length : Int)) = true := decide_eq_true c4
                clear c4
                by_cases c5 : x5_2 < ((rd_L2 l0 x4_1).length : Int)
                · rw [if_pos c5] at H
                  have c5b0 : decide (x5_2 < ((rd_L2 l0 x4_1).length : Int)) = true := decide_eq_true c5
                  clear c5
                  have H' := Aside0.mk H
                  clear H
                  have p240 : 0 ≤ (x4_1 : Int) := of_decide_eq_true (by first | (with_reducible assumption) | assumption)
                  have q240 : x4_1 < (l0.length : Int) := of_decide_eq_true (by first | (with_reducible assumption) | assumption)
                  obtain ⟨ad240, A240_0, c240_0, e240, hx240_0, hl240_0, hi240_0⟩ := at_L2 HR0.out x4_1 p240 q240
                  cases e240
                  replace hx240_0 := (HB.out.cell (World.block_lt_of_cell? w _ hx240_0)).trans hx240_0
                  have HR240_0 := Aside0.mk hi240_0
                  have HC240_0 := Aside0.mk hl240_0
                  clear hi240_0 hl240_0
                  replace p240 := eq_true p240
                  replace q240 := eq_true q240
                  obtain ⟨Ao6, co6, eo6⟩ := Kd.R_slice HO_3.out
                  subst eo6
                  go_wp2
                  repeat (go_quiet (fail); try go_wp2)
                  go_loopg [6] k2 (fun kq v6 w' => ∃ (x6_3 : Int), v6 = .int .i64 x6_3 ∧ Aside0 (tributarylaw4_gathered.l2 kq l0 x3_2 x4_1 x5_2 x6_3 = some r) ∧ Aside0 (kq ≤ k2) ∧ Aside0 (Kd.R k30 30 w' w.heap.size (fun _ => True) (.slice Ao6 x3_2.length co6) x3_2) ∧ Aside0 (Below w.heap.size w w'))
                  case atStart => exact ⟨((x3_2.length : Int)), (by first | rfl | (simp; done) | (simp [*]; done)), H', ⟨Nat.le_refl _⟩, ⟨by (with_reducible repeat (first | apply Kd.R_alloc | apply Kd.R_drewN | apply Kd.R_drew)); exact HO_3.out⟩, ⟨by repeat (first | (with_reducible first | exact HB.out | apply below_alloc | apply pw_below_drewN | apply below_drew1) | exact HB.out)⟩⟩
                  case round =>
                    clear H'
                    try clear c2
                    try clear c2b0
                    try clear p2
                    try clear q2
                    try clear hx2
                    try clear c3
                    try clear c3b0
                    try clear c4
                    try clear c4b0
                    try clear c5
                    try clear c5b0
                    try clear hx240_0
                    try clear p2
                    try clear p240
                    try clear q240
                    obtain ⟨x6_3, rfl, HA, HK3, HO_3, HB⟩ := hrel
                    cases gk with
                    | zero => exact absurd HA.out (by simp [tributarylaw4_gathered.l2])
                    | succ k3 =>
                      have H := HA.out
                      clear HA
                      simp only [tributarylaw4_gathered.l2] at H
                      by_cases c7 : x6_3 > 0
                      · rw [if_pos c7] at H
                        have c7b0 : decide (0 < x6_3) = true := decide_eq_true c7
                        clear c7
                        obtain ⟨ji8, hji8⟩ : ∃ j_ : Int, (wrap64 (x6_3 - 1)) = j_ := ⟨_, rfl⟩
                        replace H : (if 0 ≤ (ji8) then (if (ji8) < (x3_2.length : Int) then (if 0 ≤ x4_1 then (if x4_1 < (l0.length : Int) then (if 0 ≤ x5_2 then (if x5_2 < ((rd_L2 l0 x4_1).length : Int) then (if ((rd_T30 x3_2 (ji8)).f0) > ((rd_T30 (rd_L2 l0 x4_1) x5_2).f0) then (tributarylaw4_gathered.l2 k3 l0 x3_2 x4_1 x5_2 ji8) else (if 0 ≤ x6_3 then (if x6_3 ≤ (x3_2.length : Int) then ((some (x3_2.take (x6_3 : Int).toNat : List (S30))).bind fun y244 => (if ([] : List (S30)).length + y244.length < 8796093022208 then ((some (([] : List (S30)) ++ y244 : List (S30))).bind fun y248 => (if y248.length < 8796093022208 then ((some (y248 ++ [(⟨(rd_T30 (rd_L2 l0 x4_1) x5_2).f0, (rd_T30 (rd_L2 l0 x4_1) x5_2).f1⟩ : S30)] : List (S30))).bind fun y253 => ((some (x3_2.drop (x6_3 : Int).toNat : List (S30))).bind fun y256 => (if y253.length + y256.length < 8796093022208 then (tributarylaw4_gathered.l1 k3 l0 (y253 ++ y256) x4_1 (wrap64 (x5_2 + 1))) else (none)))) else (none))) else (none))) else (none)) else (none))) else (none)) else (none)) else (none)) else (none)) else (none)) else (none)) = some r := by first | (rw [hji8] at H; exact H) | (simp only [hji8] at H ⊢; exact H)
                        have hji8w : (IntKind.i64.wrap (x6_3 - 1)) = ji8 := (i64_w _).trans hji8
                        by_cases c9 : 0 ≤ (ji8)
                        · rw [if_pos c9] at H
                          have c9b0 : decide (0 ≤ (ji8)) = true := decide_eq_true c9
                          clear c9
                          by_cases c10 : (ji8) < (x3_2.length : Int)
                          · rw [if_pos c10] at H
                            have c10b0 : decide ((ji8) < (x3_2.length : Int)) = true := decide_eq_true c10
                            clear c10
                            by_cases c11 : 0 ≤ x4_1
                            · rw [if_pos c11] at H
                              have c11b0 : decide (0 ≤ x4_1) = true := decide_eq_true c11
                              clear c11
                              by_cases c12 : x4_1 < (l0.length : Int)
                              · rw [if_pos c12] at H
                                have c12b0 : decide (x4_1 < (l0.length : Int)) = true := decide_eq_true c12
                                clear c12
                                by_cases c13 : 0 ≤ x5_2
                                · rw [if_pos c13] at H
                                  have c13b0 : decide (0 ≤ x5_2) = true := decide_eq_true c13
                                  clear c13
                                  by_cases c14 : x5_2 < ((rd_L2 l0 x4_1).length : Int)
                                  · rw [if_pos c14] at H
                                    have c14b0 : decide (x5_2 < ((rd_L2 l0 x4_1).length : Int)) = true := decide_eq_true c14
                                    clear c14
                                    by_cases c15 : ((rd_T30 x3_2 (ji8)).f0) > ((rd_T30 (rd_L2 l0 x4_1) x5_2).f0)
                                    · rw [if_pos c15] at H
                                      have c15b0 : decide (((rd_T30 (rd_L2 l0 x4_1) x5_2).f0) < ((rd_T30 x3_2 (ji8)).f0)) = true := decide_eq_true c15
                                      clear c15
                                      have H' := Aside0.mk H
                                      clear H
                                      have p241 : 0 ≤ ((ji8) : Int) := of_decide_eq_true (by first | (with_reducible assumption) | assumption)
                                      have q241 : (ji8) < (x3_2.length : Int) := of_decide_eq_true (by first | (with_reducible assumption) | assumption)
                                      obtain ⟨ad241, e241, hx241_0, hx241_1⟩ := at_T30 (Kd.R_reads' HO_3.out).2.2 (ji8) p241 q241
                                      cases e241
                                      replace p241 := eq_true p241
                                      replace q241 := eq_true q241
                                      have p242 : 0 ≤ (x4_1 : Int) := of_decide_eq_true (by first | (with_reducible assumption) | assumption)
                                      have q242 : x4_1 < (l0.length : Int) := of_decide_eq_true (by first | (with_reducible assumption) | assumption)
                                      obtain ⟨ad242, A242_0, c242_0, e242, hx242_0, hl242_0, hi242_0⟩ := at_L2 HR0.out x4_1 p242 q242
                                      obtain rfl : ad240 = ad242 := (by injection e242)
                                      replace hx242_0 := (HB.out.cell (World.block_lt_of_cell? w _ hx242_0)).trans hx242_0
                                      have HR242_0 := Aside0.mk hi242_0
                                      have HC242_0 := Aside0.mk hl242_0
                                      clear hi242_0 hl242_0
                                      replace p242 := eq_true p242
                                      replace q242 := eq_true q242
                                      have p243 : 0 ≤ (x5_2 : Int) := of_decide_eq_true (by first | (with_reducible assumption) | assumption)
                                      have q243 : x5_2 < ((rd_L2 l0 x4_1).length : Int) := of_decide_eq_true (by first | (with_reducible assumption) | assumption)
                                      obtain ⟨ad243, e243, hx243_0, hx243_1⟩ := at_T30 HR242_0.out x5_2 p243 q243
                                      cases e243
                                      replace hx243_0 := (HB.out.cell (World.block_lt_of_cell? w _ hx243_0)).trans hx243_0
                                      replace hx243_1 := (HB.out.cell (World.block_lt_of_cell? w _ hx243_1)).trans hx243_1
                                      replace p243 := eq_true p243
                                      replace q243 := eq_true q243
                                      go_wp2
                                      repeat (go_quiet (fail); try go_wp2)
                                      go_roundg k3
                                      case measure => have := HK1.out; have := HK2.out; have := HK3.out; omega
                                      case rel => exact ⟨(ji8), (by first | rfl | (simp; done) | (simp only [← hji8] <;> (first | rfl | simp)) | (simp [*]; done)), H', ⟨by have := HK1.out; have := HK2.out; have := HK3.out; omega⟩, ⟨by (with_reducible repeat (first | apply Kd.R_alloc | apply Kd.R_drewN | apply Kd.R_drew)); exact HO_3.out⟩, ⟨by repeat (first | (with_reducible first | exact HB.out | apply below_alloc | apply pw_below_drewN | apply below_drew1) | exact HB.out)⟩⟩
                                    · rw [if_neg c15] at H
                                      have c15b0 : decide (((rd_T30 (rd_L2 l0 x4_1) x5_2).f0) < ((rd_T30 x3_2 (ji8)).f0)) = false := decide_eq_false c15
                                      clear c15
                                      by_cases c16 : 0 ≤ x6_3
                                      · rw [if_pos c16] at H
                                        have c16b0 := eq_true c16
                                        have c16b1 : decide (0 ≤ x6_3) = true := decide_eq_true c16
                                        clear c16
                                        by_cases c17 : x6_3 ≤ (x3_2.length : Int)
                                        · rw [if_pos c17] at H
                                          have c17b0 := eq_true c17
                                          have c17b1 : decide (x6_3 ≤ (x3_2.length : Int)) = true := decide_eq_true c17
                                          clear c17
                                          obtain ⟨y244, hy244⟩ : ∃ y_ : List (S30), y_ = (x3_2.take (x6_3 : Int).toNat) := ⟨_, rfl⟩
                                          replace H : (if ([] : List (S30)).length + y244.length < 8796093022208 then ((some (([] : List (S30)) ++ y244 : List (S30))).bind fun y248 => (if y248.length < 8796093022208 then ((some (y248 ++ [(⟨(rd_T30 (rd_L2 l0 x4_1) x5_2).f0, (rd_T30 (rd_L2 l0 x4_1) x5_2).f1⟩ : S30)] : List (S30))).bind fun y253 => ((some (x3_2.drop (x6_3 : Int).toNat : List (S30))).bind fun y256 => (if y253.length + y256.length < 8796093022208 then (tributarylaw4_gathered.l1 k3 l0 (y253 ++ y256) x4_1 (wrap64 (x5_2 + 1))) else (none)))) else (none))) else (none)) = some r := by first | (rw [hy244]; with_reducible exact H) | (have H2_ := (Option.bind_some _ _).symm.trans H; rw [hy244]; with_reducible exact H2_) | (have H2_ := (Option.bind_some _ _).symm.trans H; with_reducible exact H2_) | with_reducible exact H | (rw [hy244]; exact H) | exact H
                                          have Ny244 := Aside0.mk hy244
                                          clear hy244
                                          by_cases c18 : ([] : List (S30)).length + y244.length < 8796093022208
                                          · rw [if_pos c18] at H
                                            have LMc18 := Aside0.mk c18
                                            clear c18
                                            obtain ⟨y248, hy248⟩ : ∃ y_ : List (S30), y_ = (([] : List (S30)) ++ y244) := ⟨_, rfl⟩
                                            replace H : (if y248.length < 8796093022208 then ((some (y248 ++ [(⟨(rd_T30 (rd_L2 l0 x4_1) x5_2).f0, (rd_T30 (rd_L2 l0 x4_1) x5_2).f1⟩ : S30)] : List (S30))).bind fun y253 => ((some (x3_2.drop (x6_3 : Int).toNat : List (S30))).bind fun y256 => (if y253.length + y256.length < 8796093022208 then (tributarylaw4_gathered.l1 k3 l0 (y253 ++ y256) x4_1 (wrap64 (x5_2 + 1))) else (none)))) else (none)) = some r := by first | (rw [hy248]; with_reducible exact H) | (have H2_ := (Option.bind_some _ _).symm.trans H; rw [hy248]; with_reducible exact H2_) | (have H2_ := (Option.bind_some _ _).symm.trans H; with_reducible exact H2_) | with_reducible exact H | (rw [hy248]; exact H) | exact H
                                            have Ny248 := Aside0.mk hy248
                                            clear hy248
                                            by_cases c19 : y248.length < 8796093022208
                                            · rw [if_pos c19] at H
                                              have LMc19 := Aside0.mk c19
                                              clear c19
                                              obtain ⟨y253, hy253⟩ : ∃ y_ : List (S30), y_ = (y248 ++ [(⟨(rd_T30 (rd_L2 l0 x4_1) x5_2).f0, (rd_T30 (rd_L2 l0 x4_1) x5_2).f1⟩ : S30)]) := ⟨_, rfl⟩
                                              replace H : ((some (x3_2.drop (x6_3 : Int).toNat : List (S30))).bind fun y256 => (if y253.length + y256.length < 8796093022208 then (tributarylaw4_gathered.l1 k3 l0 (y253 ++ y256) x4_1 (wrap64 (x5_2 + 1))) else (none))) = some r := by first | (rw [hy253]; with_reducible exact H) | (have H2_ := (Option.bind_some _ _).symm.trans H; rw [hy253]; with_reducible exact H2_) | (have H2_ := (Option.bind_some _ _).symm.trans H; with_reducible exact H2_) | with_reducible exact H | (rw [hy253]; exact H) | exact H
                                              have Ny253 := Aside0.mk hy253
                                              clear hy253
                                              have c20b0 := eq_true (of_decide_eq_true (by first | (with_reducible assumption) | assumption) : 0 ≤ x6_3)
                                              have c21b0 := eq_true (of_decide_eq_true (by first | (with_reducible assumption) | assumption) : x6_3 ≤ (x3_2.length : Int))
                                              obtain ⟨y256, hy256⟩ : ∃ y_ : List (S30), y_ = (x3_2.drop (x6_3 : Int).toNat) := ⟨_, rfl⟩
                                              replace H : (if y253.length + y256.length < 8796093022208 then (tributarylaw4_gathered.l1 k3 l0 (y253 ++ y256) x4_1 (wrap64 (x5_2 + 1))) else (none)) = some r := by first | (rw [hy256]; with_reducible exact H) | (have H2_ := (Option.bind_some _ _).symm.trans H; rw [hy256]; with_reducible exact H2_) | (have H2_ := (Option.bind_some _ _).symm.trans H; with_reducible exact H2_) | with_reducible exact H | (rw [hy256]; exact H) | exact H
                                              have Ny256 := Aside0.mk hy256
                                              clear hy256
                                              by_cases c22 : y253.length + y256.length < 8796093022208
                                              · rw [if_pos c22] at H
                                                have LMc22 := Aside0.mk c22
                                                clear c22
                                                obtain ⟨y260, hy260⟩ : ∃ y_ : List (S30), y_ = (y253 ++ y256) := ⟨_, rfl⟩
                                                replace H : (tributarylaw4_gathered.l1 k3 l0 y260 x4_1 (wrap64 (x5_2 + 1))) = some r := by first | (rw [hy260]; with_reducible exact H) | (have H2_ := (Option.bind_some _ _).symm.trans H; rw [hy260]; with_reducible exact H2_) | (have H2_ := (Option.bind_some _ _).symm.trans H; with_reducible exact H2_) | with_reducible exact H | (rw [hy260]; exact H) | exact H
                                                have Ny260 := Aside0.mk hy260
                                                clear hy260
                                                have H' := Aside0.mk H
                                                clear H
                                                have p241 : 0 ≤ ((ji8) : Int) := of_decide_eq_true (by first | (with_reducible assumption) | assumption)
                                                have q241 : (ji8) < (x3_2.length : Int) := of_decide_eq_true (by first | (with_reducible assumption) | assumption)
                                                obtain ⟨ad241, e241, hx241_0, hx241_1⟩ := at_T30 (Kd.R_reads' HO_3.out).2.2 (ji8) p241 q241
                                                cases e241
                                                replace p241 := eq_true p241
                                                replace q241 := eq_true q241
                                                have p242 : 0 ≤ (x4_1 : Int) := of_decide_eq_true (by first | (with_reducible assumption) | assumption)
                                                have q242 : x4_1 < (l0.length : Int) := of_decide_eq_true (by first | (with_reducible assumption) | assumption)
                                                obtain ⟨ad242, A242_0, c242_0, e242, hx242_0, hl242_0, hi242_0⟩ := at_L2 HR0.out x4_1 p242 q242
                                                obtain rfl : ad240 = ad242 := (by injection e242)
                                                replace hx242_0 := (HB.out.cell (World.block_lt_of_cell? w _ hx242_0)).trans hx242_0
                                                have HR242_0 := Aside0.mk hi242_0
                                                have HC242_0 := Aside0.mk hl242_0
                                                clear hi242_0 hl242_0
                                                replace p242 := eq_true p242
                                                replace q242 := eq_true q242
                                                have p243 : 0 ≤ (x5_2 : Int) := of_decide_eq_true (by first | (with_reducible assumption) | assumption)
                                                have q243 : x5_2 < ((rd_L2 l0 x4_1).length : Int) := of_decide_eq_true (by first | (with_reducible assumption) | assumption)
                                                obtain ⟨ad243, e243, hx243_0, hx243_1⟩ := at_T30 HR242_0.out x5_2 p243 q243
                                                cases e243
                                                replace hx243_0 := (HB.out.cell (World.block_lt_of_cell? w _ hx243_0)).trans hx243_0
                                                replace hx243_1 := (HB.out.cell (World.block_lt_of_cell? w _ hx243_1)).trans hx243_1
                                                replace p243 := eq_true p243
                                                replace q243 := eq_true q243
                                                have q23 : (x6_3 : Int) ≤ ((x3_2.length : Int) : Int) := of_decide_eq_true (by first | (with_reducible assumption) | assumption)
                                                obtain ⟨i023, hi023, _, hsz23, _⟩ := info_parts info30
                                                have hroom23 : x3_2.length ≤ co6 := (Kd.R_reads' HO_3.out).2.1
                                                have hC23 : Kd.C k30 _ (some ad241) x3_2.length x3_2 := (Kd.R_reads' HO_3.out).2.2
                                                have hcut23 := cut_to (P := Try.prog) 22 30 .i64 Try.underlying22 hi023 (some ad241) x3_2.length co6 x6_3 (of_decide_eq_true (by first | (with_reducible assumption) | assumption)) q23 hroom23
                                                have hr23 := Kd.C_take (m := (x6_3 : Int).toNat) hC23 (by omega)
                                                have hy23 : y244.length = (x6_3 : Int).toNat := (by rw [Ny244.out, List.length_take]; omega)
                                                rw [← Ny244.out] at hr23
                                                rw [← hy23] at hcut23
                                                have HR247 := Aside0.mk hr23
                                                have HC247 := Aside0.mk (show y244.length ≤ co6 from by omega)
                                                clear hr23 hC23 hroom23 hi023 hsz23
                                                have KY23 := Aside0.mk hy23
                                                clear hy23
                                                have KL23 := Aside0.mk (show (x6_3 : Int).toNat ≤ x3_2.length from by omega)
                                                replace q23 := eq_true q23
                                                go_wp2_with (first | ((with_reducible refine gate_builtin (b := .append) (xs := #[.tmp 46, .tmp 49]) rfl ?_); at_builtin; refine Kd.R_append_rows k30 (w0 := w) w.heap.size rfl (.tmp 46) (.tmp 49) 22 30 (.agg #[(.int .i64 0), (.int .i64 0)]) 16 rfl Try.underlying22 info30 rfl (by decide) (by omega) (.slice none 0 0) ([] : List (S30)) y244 _ _ _ (fun k_ => some k_ ≠ (.slice (some ad241) x3_2.length co6 : Value).ownBlock) (fun _ => False) rfl rfl ?aO ?aR (fun _ _ h => h) (fun _ h => h.elim) ?aF ?aB ?aS ?aL ?_; (case aR => repeat (first | exact (by repeat (first | (with_reducible exact HR247.out) | (with_reducible refine Kd.C_alloc ?_ _) | (with_reducible refine Kd.C_drewN ?_ _) | (with_reducible refine Kd.C_drew ?_) | exact HR247.out)) | (with_reducible refine Kd.C_alloc ?_ _) | (with_reducible refine Kd.C_drewN ?_ _) | (with_reducible refine Kd.C_drew ?_))); (case aB => exact (by repeat (first | (with_reducible first | exact HB.out | apply below_alloc | apply pw_below_drewN | apply below_drew1) | exact HB.out))); (case aF => exact (fun k_ hk => Kd.fresh' (Kd.R_lt (by (with_reducible repeat (first | apply Kd.R_alloc | apply Kd.R_drewN | apply Kd.R_drew)); exact HO_3.out)) k_ hk)); (case aO => exact ((Kd.R_nil _ _ _ _ (fun k_ => some k_ ≠ (.slice (some ad241) x3_2.length co6 : Value).ownBlock)))); (case aS => exact (below_size (by repeat (first | (with_reducible first | exact HB.out | apply below_alloc | apply pw_below_drewN | apply below_drew1) | exact HB.out)))); (case aL => have := LMc18.out; omega); intro v249 w24 ho hb hg hat; rw [← Ny248.out] at ho; have n0_ := Aside0.mk (Kd.R_after (Kd.R_apart_nil (by (with_reducible repeat (first | apply Kd.R_alloc | apply Kd.R_drewN | apply Kd.R_drew)); exact HO_3.out)) hg hat); have n1_ := Aside0.mk (hb); have n2_ := Aside0.mk ((show Kd.C k30 w24 (some ad241) y244.length y244 from by rw [Ny244.out]; exact Kd.C_take (m := (x6_3 : Int).toNat) ((Kd.R_reads' (Kd.R_after (Kd.R_apart_nil (by (with_reducible repeat (first | apply Kd.R_alloc | apply Kd.R_drewN | apply Kd.R_drew)); exact HO_3.out)) hg hat)).2.2) KL23.out)); have n3_ := Aside0.mk (ho); clear HO_3; clear HB; clear HR247; have HO_3 := n0_; have HB := n1_; have HR247 := n2_; have HO250 := n3_; clear n0_ n1_ n2_ n3_; clear ho hb hg hat; have p251 : 0 ≤ (x4_1 : Int) := of_decide_eq_true (by first | (with_reducible assumption) | assumption); have q251 : x4_1 < (l0.length : Int) := of_decide_eq_true (by first | (with_reducible assumption) | assumption); obtain ⟨ad251, A251_0, c251_0, e251, hx251_0, hl251_0, hi251_0⟩ := at_L2 HR0.out x4_1 p251 q251; obtain rfl : ad240 = ad251 := (by injection e251); replace hx251_0 := (HB.out.cell (World.block_lt_of_cell? w _ hx251_0)).trans hx251_0; have HR251_0 := Aside0.mk hi251_0; have HC251_0 := Aside0.mk hl251_0; clear hi251_0 hl251_0; replace p251 := eq_true p251; replace q251 := eq_true q251; have p252 : 0 ≤ (x5_2 : Int) := of_decide_eq_true (by first | (with_reducible assumption) | assumption); have q252 : x5_2 < ((rd_L2 l0 x4_1).length : Int) := of_decide_eq_true (by first | (with_reducible assumption) | assumption); obtain ⟨ad252, e252, hx252_0, hx252_1⟩ := at_T30 HR251_0.out x5_2 p252 q252; cases e252; replace hx252_0 := (HB.out.cell (World.block_lt_of_cell? w _ hx252_0)).trans hx252_0; replace hx252_1 := (HB.out.cell (World.block_lt_of_cell? w _ hx252_1)).trans hx252_1; replace p252 := eq_true p252; replace q252 := eq_true q252) | ((with_reducible refine gate_builtin (b := .append) (xs := #[.tmp 51, .tmp 59]) rfl ?_); at_builtin; refine Kd.R_append k30 (w0 := w) w.heap.size rfl (.tmp 51) (.tmp 59) 22 30 (.agg #[(.int .i64 0), (.int .i64 0)]) 16 rfl Try.underlying22 info30 rfl (by decide) (by omega) v249 y248 (⟨(rd_T30 (rd_L2 l0 x4_1) x5_2).f0, (rd_T30 (rd_L2 l0 x4_1) x5_2).f1⟩ : S30) [.int .i64 ((rd_T30 (rd_L2 l0 x4_1) x5_2).f0), .int .i64 ((rd_T30 (rd_L2 l0 x4_1) x5_2).f1)] (fun k_ => some k_ ≠ (.slice (some ad241) x3_2.length co6 : Value).ownBlock) (fun _ => False) rfl rfl ?aP (fun _ hk => hk.elim) ?aF ?aO ?aB ?aS ?aL ?_; (case aP => exact k30_mkM _ _ _ (⟨(rd_T30 (rd_L2 l0 x4_1) x5_2).f0, (rd_T30 (rd_L2 l0 x4_1) x5_2).f1⟩ : S30)); (case aB => exact (by repeat (first | (with_reducible first | exact HB.out | apply below_alloc | apply pw_below_drewN | apply below_drew1) | exact HB.out))); (case aF => exact (fun k_ hk => Kd.fresh' (Kd.R_lt (by (with_reducible repeat (first | apply Kd.R_alloc | apply Kd.R_drewN | apply Kd.R_drew)); exact HO_3.out)) k_ hk)); (case aO => exact (by (with_reducible repeat (first | apply Kd.R_alloc | apply Kd.R_drewN | apply Kd.R_drew)); exact HO250.out)); (case aS => exact (below_size (by repeat (first | (with_reducible first | exact HB.out | apply below_alloc | apply pw_below_drewN | apply below_drew1) | exact HB.out)))); (case aL => have := LMc19.out; omega); intro v254 w25 ho hb hg hat; rw [← Ny253.out] at ho; have n0_ := Aside0.mk (Kd.R_after (ok := (fun _ => True)) (by (with_reducible repeat (first | apply Kd.R_alloc | apply Kd.R_drewN | apply Kd.R_drew)); exact HO_3.out) hg hat); have n1_ := Aside0.mk (hb); have n2_ := Aside0.mk ((show Kd.C k30 w25 (some ad241) y244.length y244 from by rw [Ny244.out]; exact Kd.C_take (m := (x6_3 : Int).toNat) ((Kd.R_reads' (Kd.R_after (ok := (fun _ => True)) (by (with_reducible repeat (first | apply Kd.R_alloc | apply Kd.R_drewN | apply Kd.R_drew)); exact HO_3.out) hg hat)).2.2) KL23.out)); have n3_ := Aside0.mk (ho); clear HO_3; clear HB; clear HR247; clear HO250; have HO_3 := n0_; have HB := n1_; have HR247 := n2_; have HO255 := n3_; clear n0_ n1_ n2_ n3_; clear ho hb hg hat; have q26 : (x6_3 : Int) ≤ ((x3_2.length : Int) : Int) := of_decide_eq_true (by first | (with_reducible assumption) | assumption); obtain ⟨i026, hi026, _, hsz26, _⟩ := info_parts info30; have hroom26 : x3_2.length ≤ co6 := (Kd.R_reads' HO_3.out).2.1; have hC26 : Kd.C k30 _ (some ad241) x3_2.length x3_2 := (Kd.R_reads' HO_3.out).2.2; have q026 : (0 : Int) ≤ (x6_3 : Int) := of_decide_eq_true (by first | (with_reducible assumption) | assumption); have hcut26 := cut_from (P := Try.prog) 22 30 .i64 Try.underlying22 hi026 2 hsz26 (some ad241) x3_2.length co6 x6_3 q026 q26; have hr26 := Kd.C_drop (m := (x6_3 : Int).toNat) (c := co6) hC26 (by omega) hroom26; obtain ⟨A26, hA26⟩ : ∃ A1, A1 = (if co6 = (x6_3 : Int).toNat then (some ad241) else ((some ad241) : Option Addr).map (·.add ((x6_3 : Int).toNat * 2))) := ⟨_, rfl⟩; obtain ⟨c26, hc26⟩ : ∃ c1, c1 = co6 - (x6_3 : Int).toNat := ⟨_, rfl⟩; have hy26 : y256.length = x3_2.length - (x6_3 : Int).toNat := (by rw [Ny256.out, List.length_drop] <;> omega); rw [show (x3_2).drop (x6_3 : Int).toNat = y256 from Ny256.out.symm] at hr26; replace hr26 : Kd.C k30 _ A26 y256.length y256 := (by rw [hA26]; exact hr26); rw [← hy26, ← hA26, ← hc26] at hcut26; have HR259 := Aside0.mk hr26; have HC259 := Aside0.mk (show y256.length ≤ c26 from by rw [hy26, hc26]; exact Nat.sub_le_sub_right hroom26 _); clear hr26 hC26 hroom26 hi026 hsz26 hc26; have KY26 := Aside0.mk hy26; have KA26 := Aside0.mk hA26; clear hy26 hA26; have KL26 := Aside0.mk (show (x6_3 : Int).toNat ≤ x3_2.length from by omega); replace q26 := eq_true q26) | ((with_reducible refine gate_builtin (b := .append) (xs := #[.tmp 61, .tmp 64]) rfl ?_); at_builtin; refine Kd.R_append_rows k30 (w0 := w) w.heap.size rfl (.tmp 61) (.tmp 64) 22 30 (.agg #[(.int .i64 0), (.int .i64 0)]) 16 rfl Try.underlying22 info30 rfl (by decide) (by omega) v254 y253 y256 _ _ _ (fun k_ => some k_ ≠ (.slice (some ad241) x3_2.length co6 : Value).ownBlock) (fun _ => False) rfl rfl ?aO ?aR (fun _ _ h => h) (fun _ h => h.elim) ?aF ?aB ?aS ?aL ?_; (case aR => repeat (first | exact (by repeat (first | (with_reducible exact HR259.out) | (with_reducible refine Kd.C_alloc ?_ _) | (with_reducible refine Kd.C_drewN ?_ _) | (with_reducible refine Kd.C_drew ?_) | exact HR259.out)) | (with_reducible refine Kd.C_alloc ?_ _) | (with_reducible refine Kd.C_drewN ?_ _) | (with_reducible refine Kd.C_drew ?_))); (case aB => exact (by repeat (first | (with_reducible first | exact HB.out | apply below_alloc | apply pw_below_drewN | apply below_drew1) | exact HB.out))); (case aF => exact (fun k_ hk => Kd.fresh' (Kd.R_lt (by (with_reducible repeat (first | apply Kd.R_alloc | apply Kd.R_drewN | apply Kd.R_drew)); exact HO_3.out)) k_ hk)); (case aO => exact (by (with_reducible repeat (first | apply Kd.R_alloc | apply Kd.R_drewN | apply Kd.R_drew)); exact HO255.out)); (case aS => exact (below_size (by repeat (first | (with_reducible first | exact HB.out | apply below_alloc | apply pw_below_drewN | apply below_drew1) | exact HB.out)))); (case aL => have := LMc22.out; omega); intro v261 w27 ho hb hg hat; rw [← Ny260.out] at ho; have n0_ := Aside0.mk (Kd.R_after (ok := (fun _ => True)) (by (with_reducible repeat (first | apply Kd.R_alloc | apply Kd.R_drewN | apply Kd.R_drew)); exact HO_3.out) hg hat); have n1_ := Aside0.mk (hb); have n2_ := Aside0.mk ((show Kd.C k30 w27 (some ad241) y244.length y244 from by rw [Ny244.out]; exact Kd.C_take (m := (x6_3 : Int).toNat) ((Kd.R_reads' (Kd.R_after (ok := (fun _ => True)) (by (with_reducible repeat (first | apply Kd.R_alloc | apply Kd.R_drewN | apply Kd.R_drew)); exact HO_3.out) hg hat)).2.2) KL23.out)); have n3_ := Aside0.mk ((show Kd.C k30 w27 A26 y256.length y256 from by rw [Ny256.out, KA26.out]; exact Kd.C_drop (m := (x6_3 : Int).toNat) (c := co6) ((Kd.R_reads' (Kd.R_after (ok := (fun _ => True)) (by (with_reducible repeat (first | apply Kd.R_alloc | apply Kd.R_drewN | apply Kd.R_drew)); exact HO_3.out) hg hat)).2.2) KL26.out ((Kd.R_reads' (Kd.R_after (ok := (fun _ => True)) (by (with_reducible repeat (first | apply Kd.R_alloc | apply Kd.R_drewN | apply Kd.R_drew)); exact HO_3.out) hg hat)).2.1))); have n4_ := Aside0.mk (ho); clear HO_3; clear HB; clear HR247; clear HR259; clear HO255; have HO_3 := n0_; have HB := n1_; have HR247 := n2_; have HR259 := n3_; have HO262 := n4_; clear n0_ n1_ n2_ n3_ n4_; clear ho hb hg hat))
                                                repeat (go_quiet (first | ((with_reducible refine gate_builtin (b := .append) (xs := #[.tmp 46, .tmp 49]) rfl ?_); at_builtin; refine Kd.R_append_rows k30 (w0 := w) w.heap.size rfl (.tmp 46) (.tmp 49) 22 30 (.agg #[(.int .i64 0), (.int .i64 0)]) 16 rfl Try.underlying22 info30 rfl (by decide) (by omega) (.slice none 0 0) ([] : List (S30)) y244 _ _ _ (fun k_ => some k_ ≠ (.slice (some ad241) x3_2.length co6 : Value).ownBlock) (fun _ => False) rfl rfl ?aO ?aR (fun _ _ h => h) (fun _ h => h.elim) ?aF ?aB ?aS ?aL ?_; (case aR => repeat (first | exact (by repeat (first | (with_reducible exact HR247.out) | (with_reducible refine Kd.C_alloc ?_ _) | (with_reducible refine Kd.C_drewN ?_ _) | (with_reducible refine Kd.C_drew ?_) | exact HR247.out)) | (with_reducible refine Kd.C_alloc ?_ _) | (with_reducible refine Kd.C_drewN ?_ _) | (with_reducible refine Kd.C_drew ?_))); (case aB => exact (by repeat (first | (with_reducible first | exact HB.out | apply below_alloc | apply pw_below_drewN | apply below_drew1) | exact HB.out))); (case aF => exact (fun k_ hk => Kd.fresh' (Kd.R_lt (by (with_reducible repeat (first | apply Kd.R_alloc | apply Kd.R_drewN | apply Kd.R_drew)); exact HO_3.out)) k_ hk)); (case aO => exact ((Kd.R_nil _ _ _ _ (fun k_ => some k_ ≠ (.slice (some ad241) x3_2.length co6 : Value).ownBlock)))); (case aS => exact (below_size (by repeat (first | (with_reducible first | exact HB.out | apply below_alloc | apply pw_below_drewN | apply below_drew1) | exact HB.out)))); (case aL => have := LMc18.out; omega); intro v249 w24 ho hb hg hat; rw [← Ny248.out] at ho; have n0_ := Aside0.mk (Kd.R_after (Kd.R_apart_nil (by (with_reducible repeat (first | apply Kd.R_alloc | apply Kd.R_drewN | apply Kd.R_drew)); exact HO_3.out)) hg hat); have n1_ := Aside0.mk (hb); have n2_ := Aside0.mk ((show Kd.C k30 w24 (some ad241) y244.length y244 from by rw [Ny244.out]; exact Kd.C_take (m := (x6_3 : Int).toNat) ((Kd.R_reads' (Kd.R_after (Kd.R_apart_nil (by (with_reducible repeat (first | apply Kd.R_alloc | apply Kd.R_drewN | apply Kd.R_drew)); exact HO_3.out)) hg hat)).2.2) KL23.out)); have n3_ := Aside0.mk (ho); clear HO_3; clear HB; clear HR247; have HO_3 := n0_; have HB := n1_; have HR247 := n2_; have HO250 := n3_; clear n0_ n1_ n2_ n3_; clear ho hb hg hat; have p251 : 0 ≤ (x4_1 : Int) := of_decide_eq_true (by first | (with_reducible assumption) | assumption); have q251 : x4_1 < (l0.length : Int) := of_decide_eq_true (by first | (with_reducible assumption) | assumption); obtain ⟨ad251, A251_0, c251_0, e251, hx251_0, hl251_0, hi251_0⟩ := at_L2 HR0.out x4_1 p251 q251; obtain rfl : ad240 = ad251 := (by injection e251); replace hx251_0 := (HB.out.cell (World.block_lt_of_cell? w _ hx251_0)).trans hx251_0; have HR251_0 := Aside0.mk hi251_0; have HC251_0 := Aside0.mk hl251_0; clear hi251_0 hl251_0; replace p251 := eq_true p251; replace q251 := eq_true q251; have p252 : 0 ≤ (x5_2 : Int) := of_decide_eq_true (by first | (with_reducible assumption) | assumption); have q252 : x5_2 < ((rd_L2 l0 x4_1).length : Int) := of_decide_eq_true (by first | (with_reducible assumption) | assumption); obtain ⟨ad252, e252, hx252_0, hx252_1⟩ := at_T30 HR251_0.out x5_2 p252 q252; cases e252; replace hx252_0 := (HB.out.cell (World.block_lt_of_cell? w _ hx252_0)).trans hx252_0; replace hx252_1 := (HB.out.cell (World.block_lt_of_cell? w _ hx252_1)).trans hx252_1; replace p252 := eq_true p252; replace q252 := eq_true q252) | ((with_reducible refine gate_builtin (b := .append) (xs := #[.tmp 51, .tmp 59]) rfl ?_); at_builtin; refine Kd.R_append k30 (w0 := w) w.heap.size rfl (.tmp 51) (.tmp 59) 22 30 (.agg #[(.int .i64 0), (.int .i64 0)]) 16 rfl Try.underlying22 info30 rfl (by decide) (by omega) v249 y248 (⟨(rd_T30 (rd_L2 l0 x4_1) x5_2).f0, (rd_T30 (rd_L2 l0 x4_1) x5_2).f1⟩ : S30) [.int .i64 ((rd_T30 (rd_L2 l0 x4_1) x5_2).f0), .int .i64 ((rd_T30 (rd_L2 l0 x4_1) x5_2).f1)] (fun k_ => some k_ ≠ (.slice (some ad241) x3_2.length co6 : Value).ownBlock) (fun _ => False) rfl rfl ?aP (fun _ hk => hk.elim) ?aF ?aO ?aB ?aS ?aL ?_; (case aP => exact k30_mkM _ _ _ (⟨(rd_T30 (rd_L2 l0 x4_1) x5_2).f0, (rd_T30 (rd_L2 l0 x4_1) x5_2).f1⟩ : S30)); (case aB => exact (by repeat (first | (with_reducible first | exact HB.out | apply below_alloc | apply pw_below_drewN | apply below_drew1) | exact HB.out))); (case aF => exact (fun k_ hk => Kd.fresh' (Kd.R_lt (by (with_reducible repeat (first | apply Kd.R_alloc | apply Kd.R_drewN | apply Kd.R_drew)); exact HO_3.out)) k_ hk)); (case aO => exact (by (with_reducible repeat (first | apply Kd.R_alloc | apply Kd.R_drewN | apply Kd.R_drew)); exact HO250.out)); (case aS => exact (below_size (by repeat (first | (with_reducible first | exact HB.out | apply below_alloc | apply pw_below_drewN | apply below_drew1) | exact HB.out)))); (case aL => have := LMc19.out; omega); intro v254 w25 ho hb hg hat; rw [← Ny253.out] at ho; have n0_ := Aside0.mk (Kd.R_after (ok := (fun _ => True)) (by (with_reducible repeat (first | apply Kd.R_alloc | apply Kd.R_drewN | apply Kd.R_drew)); exact HO_3.out) hg hat); have n1_ := Aside0.mk (hb); have n2_ := Aside0.mk ((show Kd.C k30 w25 (some ad241) y244.length y244 from by rw [Ny244.out]; exact Kd.C_take (m := (x6_3 : Int).toNat) ((Kd.R_reads' (Kd.R_after (ok := (fun _ => True)) (by (with_reducible repeat (first | apply Kd.R_alloc | apply Kd.R_drewN | apply Kd.R_drew)); exact HO_3.out) hg hat)).2.2) KL23.out)); have n3_ := Aside0.mk (ho); clear HO_3; clear HB; clear HR247; clear HO250; have HO_3 := n0_; have HB := n1_; have HR247 := n2_; have HO255 := n3_; clear n0_ n1_ n2_ n3_; clear ho hb hg hat; have q26 : (x6_3 : Int) ≤ ((x3_2.length : Int) : Int) := of_decide_eq_true (by first | (with_reducible assumption) | assumption); obtain ⟨i026, hi026, _, hsz26, _⟩ := info_parts info30; have hroom26 : x3_2.length ≤ co6 := (Kd.R_reads' HO_3.out).2.1; have hC26 : Kd.C k30 _ (some ad241) x3_2.length x3_2 := (Kd.R_reads' HO_3.out).2.2; have q026 : (0 : Int) ≤ (x6_3 : Int) := of_decide_eq_true (by first | (with_reducible assumption) | assumption); have hcut26 := cut_from (P := Try.prog) 22 30 .i64 Try.underlying22 hi026 2 hsz26 (some ad241) x3_2.length co6 x6_3 q026 q26; have hr26 := Kd.C_drop (m := (x6_3 : Int).toNat) (c := co6) hC26 (by omega) hroom26; obtain ⟨A26, hA26⟩ : ∃ A1, A1 = (if co6 = (x6_3 : Int).toNat then (some ad241) else ((some ad241) : Option Addr).map (·.add ((x6_3 : Int).toNat * 2))) := ⟨_, rfl⟩; obtain ⟨c26, hc26⟩ : ∃ c1, c1 = co6 - (x6_3 : Int).toNat := ⟨_, rfl⟩; have hy26 : y256.length = x3_2.length - (x6_3 : Int).toNat := (by rw [Ny256.out, List.length_drop] <;> omega); rw [show (x3_2).drop (x6_3 : Int).toNat = y256 from Ny256.out.symm] at hr26; replace hr26 : Kd.C k30 _ A26 y256.length y256 := (by rw [hA26]; exact hr26); rw [← hy26, ← hA26, ← hc26] at hcut26; have HR259 := Aside0.mk hr26; have HC259 := Aside0.mk (show y256.length ≤ c26 from by rw [hy26, hc26]; exact Nat.sub_le_sub_right hroom26 _); clear hr26 hC26 hroom26 hi026 hsz26 hc26; have KY26 := Aside0.mk hy26; have KA26 := Aside0.mk hA26; clear hy26 hA26; have KL26 := Aside0.mk (show (x6_3 : Int).toNat ≤ x3_2.length from by omega); replace q26 := eq_true q26) | ((with_reducible refine gate_builtin (b := .append) (xs := #[.tmp 61, .tmp 64]) rfl ?_); at_builtin; refine Kd.R_append_rows k30 (w0 := w) w.heap.size rfl (.tmp 61) (.tmp 64) 22 30 (.agg #[(.int .i64 0), (.int .i64 0)]) 16 rfl Try.underlying22 info30 rfl (by decide) (by omega) v254 y253 y256 _ _ _ (fun k_ => some k_ ≠ (.slice (some ad241) x3_2.length co6 : Value).ownBlock) (fun _ => False) rfl rfl ?aO ?aR (fun _ _ h => h) (fun _ h => h.elim) ?aF ?aB ?aS ?aL ?_; (case aR => repeat (first | exact (by repeat (first | (with_reducible exact HR259.out) | (with_reducible refine Kd.C_alloc ?_ _) | (with_reducible refine Kd.C_drewN ?_ _) | (with_reducible refine Kd.C_drew ?_) | exact HR259.out)) | (with_reducible refine Kd.C_alloc ?_ _) | (with_reducible refine Kd.C_drewN ?_ _) | (with_reducible refine Kd.C_drew ?_))); (case aB => exact (by repeat (first | (with_reducible first | exact HB.out | apply below_alloc | apply pw_below_drewN | apply below_drew1) | exact HB.out))); (case aF => exact (fun k_ hk => Kd.fresh' (Kd.R_lt (by (with_reducible repeat (first | apply Kd.R_alloc | apply Kd.R_drewN | apply Kd.R_drew)); exact HO_3.out)) k_ hk)); (case aO => exact (by (with_reducible repeat (first | apply Kd.R_alloc | apply Kd.R_drewN | apply Kd.R_drew)); exact HO255.out)); (case aS => exact (below_size (by repeat (first | (with_reducible first | exact HB.out | apply below_alloc | apply pw_below_drewN | apply below_drew1) | exact HB.out)))); (case aL => have := LMc22.out; omega); intro v261 w27 ho hb hg hat; rw [← Ny260.out] at ho; have n0_ := Aside0.mk (Kd.R_after (ok := (fun _ => True)) (by (with_reducible repeat (first | apply Kd.R_alloc | apply Kd.R_drewN | apply Kd.R_drew)); exact HO_3.out) hg hat); have n1_ := Aside0.mk (hb); have n2_ := Aside0.mk ((show Kd.C k30 w27 (some ad241) y244.length y244 from by rw [Ny244.out]; exact Kd.C_take (m := (x6_3 : Int).toNat) ((Kd.R_reads' (Kd.R_after (ok := (fun _ => True)) (by (with_reducible repeat (first | apply Kd.R_alloc | apply Kd.R_drewN | apply Kd.R_drew)); exact HO_3.out) hg hat)).2.2) KL23.out)); have n3_ := Aside0.mk ((show Kd.C k30 w27 A26 y256.length y256 from by rw [Ny256.out, KA26.out]; exact Kd.C_drop (m := (x6_3 : Int).toNat) (c := co6) ((Kd.R_reads' (Kd.R_after (ok := (fun _ => True)) (by (with_reducible repeat (first | apply Kd.R_alloc | apply Kd.R_drewN | apply Kd.R_drew)); exact HO_3.out) hg hat)).2.2) KL26.out ((Kd.R_reads' (Kd.R_after (ok := (fun _ => True)) (by (with_reducible repeat (first | apply Kd.R_alloc | apply Kd.R_drewN | apply Kd.R_drew)); exact HO_3.out) hg hat)).2.1))); have n4_ := Aside0.mk (ho); clear HO_3; clear HB; clear HR247; clear HR259; clear HO255; have HO_3 := n0_; have HB := n1_; have HR247 := n2_; have HR259 := n3_; have HO262 := n4_; clear n0_ n1_ n2_ n3_ n4_; clear ho hb hg hat)); try go_wp2_with (first | ((with_reducible refine gate_builtin (b := .append) (xs := #[.tmp 46, .tmp 49]) rfl ?_); at_builtin; refine Kd.R_append_rows k30 (w0 := w) w.heap.size rfl (.tmp 46) (.tmp 49) 22 30 (.agg #[(.int .i64 0), (.int .i64 0)]) 16 rfl Try.underlying22 info30 rfl (by decide) (by omega) (.slice none 0 0) ([] : List (S30)) y244 _ _ _ (fun k_ => some k_ ≠ (.slice (some ad241) x3_2.length co6 : Value).ownBlock) (fun _ => False) rfl rfl ?aO ?aR (fun _ _ h => h) (fun _ h => h.elim) ?aF ?aB ?aS ?aL ?_; (case aR => repeat (first | exact (by repeat (first | (with_reducible exact HR247.out) | (with_reducible refine Kd.C_alloc ?_ _) | (with_reducible refine Kd.C_drewN ?_ _) | (with_reducible refine Kd.C_drew ?_) | exact HR247.out)) | (with_reducible refine Kd.C_alloc ?_ _) | (with_reducible refine Kd.C_drewN ?_ _) | (with_reducible refine Kd.C_drew ?_))); (case aB => exact (by repeat (first | (with_reducible first | exact HB.out | apply below_alloc | apply pw_below_drewN | apply below_drew1) | exact HB.out))); (case aF => exact (fun k_ hk => Kd.fresh' (Kd.R_lt (by (with_reducible repeat (first | apply Kd.R_alloc | apply Kd.R_drewN | apply Kd.R_drew)); exact HO_3.out)) k_ hk)); (case aO => exact ((Kd.R_nil _ _ _ _ (fun k_ => some k_ ≠ (.slice (some ad241) x3_2.length co6 : Value).ownBlock)))); (case aS => exact (below_size (by repeat (first | (with_reducible first | exact HB.out | apply below_alloc | apply pw_below_drewN | apply below_drew1) | exact HB.out)))); (case aL => have := LMc18.out; omega); intro v249 w24 ho hb hg hat; rw [← Ny248.out] at ho; have n0_ := Aside0.mk (Kd.R_after (Kd.R_apart_nil (by (with_reducible repeat (first | apply Kd.R_alloc | apply Kd.R_drewN | apply Kd.R_drew)); exact HO_3.out)) hg hat); have n1_ := Aside0.mk (hb); have n2_ := Aside0.mk ((show Kd.C k30 w24 (some ad241) y244.length y244 from by rw [Ny244.out]; exact Kd.C_take (m := (x6_3 : Int).toNat) ((Kd.R_reads' (Kd.R_after (Kd.R_apart_nil (by (with_reducible repeat (first | apply Kd.R_alloc | apply Kd.R_drewN | apply Kd.R_drew)); exact HO_3.out)) hg hat)).2.2) KL23.out)); have n3_ := Aside0.mk (ho); clear HO_3; clear HB; clear HR247; have HO_3 := n0_; have HB := n1_; have HR247 := n2_; have HO250 := n3_; clear n0_ n1_ n2_ n3_; clear ho hb hg hat; have p251 : 0 ≤ (x4_1 : Int) := of_decide_eq_true (by first | (with_reducible assumption) | assumption); have q251 : x4_1 < (l0.length : Int) := of_decide_eq_true (by first | (with_reducible assumption) | assumption); obtain ⟨ad251, A251_0, c251_0, e251, hx251_0, hl251_0, hi251_0⟩ := at_L2 HR0.out x4_1 p251 q251; obtain rfl : ad240 = ad251 := (by injection e251); replace hx251_0 := (HB.out.cell (World.block_lt_of_cell? w _ hx251_0)).trans hx251_0; have HR251_0 := Aside0.mk hi251_0; have HC251_0 := Aside0.mk hl251_0; clear hi251_0 hl251_0; replace p251 := eq_true p251; replace q251 := eq_true q251; have p252 : 0 ≤ (x5_2 : Int) := of_decide_eq_true (by first | (with_reducible assumption) | assumption); have q252 : x5_2 < ((rd_L2 l0 x4_1).length : Int) := of_decide_eq_true (by first | (with_reducible assumption) | assumption); obtain ⟨ad252, e252, hx252_0, hx252_1⟩ := at_T30 HR251_0.out x5_2 p252 q252; cases e252; replace hx252_0 := (HB.out.cell (World.block_lt_of_cell? w _ hx252_0)).trans hx252_0; replace hx252_1 := (HB.out.cell (World.block_lt_of_cell? w _ hx252_1)).trans hx252_1; replace p252 := eq_true p252; replace q252 := eq_true q252) | ((with_reducible refine gate_builtin (b := .append) (xs := #[.tmp 51, .tmp 59]) rfl ?_); at_builtin; refine Kd.R_append k30 (w0 := w) w.heap.size rfl (.tmp 51) (.tmp 59) 22 30 (.agg #[(.int .i64 0), (.int .i64 0)]) 16 rfl Try.underlying22 info30 rfl (by decide) (by omega) v249 y248 (⟨(rd_T30 (rd_L2 l0 x4_1) x5_2).f0, (rd_T30 (rd_L2 l0 x4_1) x5_2).f1⟩ : S30) [.int .i64 ((rd_T30 (rd_L2 l0 x4_1) x5_2).f0), .int .i64 ((rd_T30 (rd_L2 l0 x4_1) x5_2).f1)] (fun k_ => some k_ ≠ (.slice (some ad241) x3_2.length co6 : Value).ownBlock) (fun _ => False) rfl rfl ?aP (fun _ hk => hk.elim) ?aF ?aO ?aB ?aS ?aL ?_; (case aP => exact k30_mkM _ _ _ (⟨(rd_T30 (rd_L2 l0 x4_1) x5_2).f0, (rd_T30 (rd_L2 l0 x4_1) x5_2).f1⟩ : S30)); (case aB => exact (by repeat (first | (with_reducible first | exact HB.out | apply below_alloc | apply pw_below_drewN | apply below_drew1) | exact HB.out))); (case aF => exact (fun k_ hk => Kd.fresh' (Kd.R_lt (by (with_reducible repeat (first | apply Kd.R_alloc | apply Kd.R_drewN | apply Kd.R_drew)); exact HO_3.out)) k_ hk)); (case aO => exact (by (with_reducible repeat (first | apply Kd.R_alloc | apply Kd.R_drewN | apply Kd.R_drew)); exact HO250.out)); (case aS => exact (below_size (by repeat (first | (with_reducible first | exact HB.out | apply below_alloc | apply pw_below_drewN | apply below_drew1) | exact HB.out)))); (case aL => have := LMc19.out; omega); intro v254 w25 ho hb hg hat; rw [← Ny253.out] at ho; have n0_ := Aside0.mk (Kd.R_after (ok := (fun _ => True)) (by (with_reducible repeat (first | apply Kd.R_alloc | apply Kd.R_drewN | apply Kd.R_drew)); exact HO_3.out) hg hat); have n1_ := Aside0.mk (hb); have n2_ := Aside0.mk ((show Kd.C k30 w25 (some ad241) y244.length y244 from by rw [Ny244.out]; exact Kd.C_take (m := (x6_3 : Int).toNat) ((Kd.R_reads' (Kd.R_after (ok := (fun _ => True)) (by (with_reducible repeat (first | apply Kd.R_alloc | apply Kd.R_drewN | apply Kd.R_drew)); exact HO_3.out) hg hat)).2.2) KL23.out)); have n3_ := Aside0.mk (ho); clear HO_3; clear HB; clear HR247; clear HO250; have HO_3 := n0_; have HB := n1_; have HR247 := n2_; have HO255 := n3_; clear n0_ n1_ n2_ n3_; clear ho hb hg hat; have q26 : (x6_3 : Int) ≤ ((x3_2.length : Int) : Int) := of_decide_eq_true (by first | (with_reducible assumption) | assumption); obtain ⟨i026, hi026, _, hsz26, _⟩ := info_parts info30; have hroom26 : x3_2.length ≤ co6 := (Kd.R_reads' HO_3.out).2.1; have hC26 : Kd.C k30 _ (some ad241) x3_2.length x3_2 := (Kd.R_reads' HO_3.out).2.2; have q026 : (0 : Int) ≤ (x6_3 : Int) := of_decide_eq_true (by first | (with_reducible assumption) | assumption); have hcut26 := cut_from (P := Try.prog) 22 30 .i64 Try.underlying22 hi026 2 hsz26 (some ad241) x3_2.length co6 x6_3 q026 q26; have hr26 := Kd.C_drop (m := (x6_3 : Int).toNat) (c := co6) hC26 (by omega) hroom26; obtain ⟨A26, hA26⟩ : ∃ A1, A1 = (if co6 = (x6_3 : Int).toNat then (some ad241) else ((some ad241) : Option Addr).map (·.add ((x6_3 : Int).toNat * 2))) := ⟨_, rfl⟩; obtain ⟨c26, hc26⟩ : ∃ c1, c1 = co6 - (x6_3 : Int).toNat := ⟨_, rfl⟩; have hy26 : y256.length = x3_2.length - (x6_3 : Int).toNat := (by rw [Ny256.out, List.length_drop] <;> omega); rw [show (x3_2).drop (x6_3 : Int).toNat = y256 from Ny256.out.symm] at hr26; replace hr26 : Kd.C k30 _ A26 y256.length y256 := (by rw [hA26]; exact hr26); rw [← hy26, ← hA26, ← hc26] at hcut26; have HR259 := Aside0.mk hr26; have HC259 := Aside0.mk (show y256.length ≤ c26 from by rw [hy26, hc26]; exact Nat.sub_le_sub_right hroom26 _); clear hr26 hC26 hroom26 hi026 hsz26 hc26; have KY26 := Aside0.mk hy26; have KA26 := Aside0.mk hA26; clear hy26 hA26; have KL26 := Aside0.mk (show (x6_3 : Int).toNat ≤ x3_2.length from by omega); replace q26 := eq_true q26) | ((with_reducible refine gate_builtin (b := .append) (xs := #[.tmp 61, .tmp 64]) rfl ?_); at_builtin; refine Kd.R_append_rows k30 (w0 := w) w.heap.size rfl (.tmp 61) (.tmp 64) 22 30 (.agg #[(.int .i64 0), (.int .i64 0)]) 16 rfl Try.underlying22 info30 rfl (by decide) (by omega) v254 y253 y256 _ _ _ (fun k_ => some k_ ≠ (.slice (some ad241) x3_2.length co6 : Value).ownBlock) (fun _ => False) rfl rfl ?aO ?aR (fun _ _ h => h) (fun _ h => h.elim) ?aF ?aB ?aS ?aL ?_; (case aR => repeat (first | exact (by repeat (first | (with_reducible exact HR259.out) | (with_reducible refine Kd.C_alloc ?_ _) | (with_reducible refine Kd.C_drewN ?_ _) | (with_reducible refine Kd.C_drew ?_) | exact HR259.out)) | (with_reducible refine Kd.C_alloc ?_ _) | (with_reducible refine Kd.C_drewN ?_ _) | (with_reducible refine Kd.C_drew ?_))); (case aB => exact (by repeat (first | (with_reducible first | exact HB.out | apply below_alloc | apply pw_below_drewN | apply below_drew1) | exact HB.out))); (case aF => exact (fun k_ hk => Kd.fresh' (Kd.R_lt (by (with_reducible repeat (first | apply Kd.R_alloc | apply Kd.R_drewN | apply Kd.R_drew)); exact HO_3.out)) k_ hk)); (case aO => exact (by (with_reducible repeat (first | apply Kd.R_alloc | apply Kd.R_drewN | apply Kd.R_drew)); exact HO255.out)); (case aS => exact (below_size (by repeat (first | (with_reducible first | exact HB.out | apply below_alloc | apply pw_below_drewN | apply below_drew1) | exact HB.out)))); (case aL => have := LMc22.out; omega); intro v261 w27 ho hb hg hat; rw [← Ny260.out] at ho; have n0_ := Aside0.mk (Kd.R_after (ok := (fun _ => True)) (by (with_reducible repeat (first | apply Kd.R_alloc | apply Kd.R_drewN | apply Kd.R_drew)); exact HO_3.out) hg hat); have n1_ := Aside0.mk (hb); have n2_ := Aside0.mk ((show Kd.C k30 w27 (some ad241) y244.length y244 from by rw [Ny244.out]; exact Kd.C_take (m := (x6_3 : Int).toNat) ((Kd.R_reads' (Kd.R_after (ok := (fun _ => True)) (by (with_reducible repeat (first | apply Kd.R_alloc | apply Kd.R_drewN | apply Kd.R_drew)); exact HO_3.out) hg hat)).2.2) KL23.out)); have n3_ := Aside0.mk ((show Kd.C k30 w27 A26 y256.length y256 from by rw [Ny256.out, KA26.out]; exact Kd.C_drop (m := (x6_3 : Int).toNat) (c := co6) ((Kd.R_reads' (Kd.R_after (ok := (fun _ => True)) (by (with_reducible repeat (first | apply Kd.R_alloc | apply Kd.R_drewN | apply Kd.R_drew)); exact HO_3.out) hg hat)).2.2) KL26.out ((Kd.R_reads' (Kd.R_after (ok := (fun _ => True)) (by (with_reducible repeat (first | apply Kd.R_alloc | apply Kd.R_drewN | apply Kd.R_drew)); exact HO_3.out) hg hat)).2.1))); have n4_ := Aside0.mk (ho); clear HO_3; clear HB; clear HR247; clear HR259; clear HO255; have HO_3 := n0_; have HB := n1_; have HR247 := n2_; have HR259 := n3_; have HO262 := n4_; clear n0_ n1_ n2_ n3_ n4_; clear ho hb hg hat)))
                                                go_roundg k3
                                                case measure => have := HK1.out; have := HK2.out; have := HK3.out; omega
                                                case rel => exact ⟨(y260), (wrap64 (x5_2 + 1)), (by first | rfl | (simp; done) | (simp [*]; done)), H', ⟨by have := HK1.out; have := HK2.out; have := HK3.out; omega⟩, ⟨by (with_reducible repeat (first | apply Kd.R_alloc | apply Kd.R_drewN | apply Kd.R_drew)); exact Kd.R_mono HO262.out (fun _ hk => trivial)⟩, ⟨by repeat (first | (with_reducible first | exact HB.out | apply below_alloc | apply pw_below_drewN | apply below_drew1) | exact HB.out)⟩⟩
                                              · rw [if_neg c22] at H
                                                exact absurd H (by simp)
                                            · rw [if_neg c19] at H
                                              exact absurd H (by simp)
                                          · rw [if_neg c18] at H
                                            exact absurd H (by simp)
                                        · rw [if_neg c17] at H
                                          exact absurd H (by simp)
                                      · rw [if_neg c16] at H
                                        exact absurd H (by simp)
                                  · rw [if_neg c14] at H
                                    exact absurd H (by simp)
                                · rw [if_neg c13] at H
                                  exact absurd H (by simp)
                              · rw [if_neg c12] at H
                                exact absurd H (by simp)
                            · rw [if_neg c11] at H
                              exact absurd H (by simp)
                          · rw [if_neg c10] at H
                            exact absurd H (by simp)
                        · rw [if_neg c9] at H
                          exact absurd H (by simp)
                      · rw [if_neg c7] at H
                        have c7b0 : decide (0 < x6_3) = false := decide_eq_false c7
                        clear c7
                        by_cases c28 : 0 ≤ x6_3
                        · rw [if_pos c28] at H
                          have c28b0 := eq_true c28
                          have c28b1 : decide (0 ≤ x6_3) = true := decide_eq_true c28
                          clear c28
                          by_cases c29 : x6_3 ≤ (x3_2.length : Int)
                          · rw [if_pos c29] at H
                            have c29b0 := eq_true c29
                            have c29b1 : decide (x6_3 ≤ (x3_2.length : Int)) = true := decide_eq_true c29
                            clear c29
                            obtain ⟨y263, hy263⟩ : ∃ y_ : List (S30), y_ = (x3_2.take (x6_3 : Int).toNat) := ⟨_, rfl⟩
                            replace H : (if ([] : List (S30)).length + y263.length < 8796093022208 then ((some (([] : List (S30)) ++ y263 : List (S30))).bind fun y267 => (if 0 ≤ x4_1 then (if x4_1 < (l0.length : Int) then (if 0 ≤ x5_2 then (if x5_2 < ((rd_L2 l0 x4_1).length : Int) then (if y267.length < 8796093022208 then ((some (y267 ++ [(⟨(rd_T30 (rd_L2 l0 x4_1) x5_2).f0, (rd_T30 (rd_L2 l0 x4_1) x5_2).f1⟩ : S30)] : List (S30))).bind fun y272 => ((some (x3_2.drop (x6_3 : Int).toNat : List (S30))).bind fun y275 => (if y272.length + y275.length < 8796093022208 then (tributarylaw4_gathered.l1 k3 l0 (y272 ++ y275) x4_1 (wrap64 (x5_2 + 1))) else (none)))) else (none)) else (none)) else (none)) else (none)) else (none))) else (none)) = some r := by first | (rw [hy263]; with_reducible exact H) | (have H2_ := (Option.bind_some _ _).symm.trans H; rw [hy263]; with_reducible exact H2_) | (have H2_ := (Option.bind_some _ _).symm.trans H; with_reducible exact H2_) | with_reducible exact H | (rw [hy263]; exact H) | exact H
                            have Ny263 := Aside0.mk hy263
                            clear hy263
                            by_cases c30 : ([] : List (S30)).length + y263.length < 8796093022208
                            · rw [if_pos c30] at H
                              have LMc30 := Aside0.mk c30
                              clear c30
                              obtain ⟨y267, hy267⟩ : ∃ y_ : List (S30), y_ = (([] : List (S30)) ++ y263) := ⟨_, rfl⟩
                              replace H : (if 0 ≤ x4_1 then (if x4_1 < (l0.length : Int) then (if 0 ≤ x5_2 then (if x5_2 < ((rd_L2 l0 x4_1).length : Int) then (if y267.length < 8796093022208 then ((some (y267 ++ [(⟨(rd_T30 (rd_L2 l0 x4_1) x5_2).f0, (rd_T30 (rd_L2 l0 x4_1) x5_2).f1⟩ : S30)] : List (S30))).bind fun y272 => ((some (x3_2.drop (x6_3 : Int).toNat : List (S30))).bind fun y275 => (if y272.length + y275.length < 8796093022208 then (tributarylaw4_gathered.l1 k3 l0 (y272 ++ y275) x4_1 (wrap64 (x5_2 + 1))) else (none)))) else (none)) else (none)) else (none)) else (none)) else (none)) = some r := by first | (rw [hy267]; with_reducible exact H) | (have H2_ := (Option.bind_some _ _).symm.trans H; rw [hy267]; with_reducible exact H2_) | (have H2_ := (Option.bind_some _ _).symm.trans H; with_reducible exact H2_) | with_reducible exact H | (rw [hy267]; exact H) | exact H
                              have Ny267 := Aside0.mk hy267
                              clear hy267
                              by_cases c31 : 0 ≤ x4_1
                              · rw [if_pos c31] at H
                                have c31b0 : decide (0 ≤ x4_1) = true := decide_eq_true c31
                                clear c31
                                by_cases c32 : x4_1 < (l0.length : Int)
                                · rw [if_pos c32] at H
                                  have c32b0 : decide (x4_1 < (l0.length : Int)) = true := decide_eq_true c32
                                  clear c32
                                  by_cases c33 : 0 ≤ x5_2
                                  · rw [if_pos c33] at H
                                    have c33b0 : decide (0 ≤ x5_2) = true := decide_eq_true c33
                                    clear c33
                                    by_cases c34 : x5_2 < ((rd_L2 l0 x4_1).length : Int)
                                    · rw [if_pos c34] at H
                                      have c34b0 : decide (x5_2 < ((rd_L2 l0 x4_1).length : Int)) = true := decide_eq_true c34
                                      clear c34
                                      by_cases c35 : y267.length < 8796093022208
                                      · rw [if_pos c35] at H
                                        have LMc35 := Aside0.mk c35
                                        clear c35
                                        obtain ⟨y272, hy272⟩ : ∃ y_ : List (S30), y_ = (y267 ++ [(⟨(rd_T30 (rd_L2 l0 x4_1) x5_2).f0, (rd_T30 (rd_L2 l0 x4_1) x5_2).f1⟩ : S30)]) := ⟨_, rfl⟩
                                        replace H : ((some (x3_2.drop (x6_3 : Int).toNat : List (S30))).bind fun y275 => (if y272.length + y275.length < 8796093022208 then (tributarylaw4_gathered.l1 k3 l0 (y272 ++ y275) x4_1 (wrap64 (x5_2 + 1))) else (none))) = some r := by first | (rw [hy272]; with_reducible exact H) | (have H2_ := (Option.bind_some _ _).symm.trans H; rw [hy272]; with_reducible exact H2_) | (have H2_ := (Option.bind_some _ _).symm.trans H; with_reducible exact H2_) | with_reducible exact H | (rw [hy272]; exact H) | exact H
                                        have Ny272 := Aside0.mk hy272
                                        clear hy272
                                        have c36b0 := eq_true (of_decide_eq_true (by first | (with_reducible assumption) | assumption) : 0 ≤ x6_3)
                                        have c37b0 := eq_true (of_decide_eq_true (by first | (with_reducible assumption) | assumption) : x6_3 ≤ (x3_2.length : Int))
                                        obtain ⟨y275, hy275⟩ : ∃ y_ : List (S30), y_ = (x3_2.drop (x6_3 : Int).toNat) := ⟨_, rfl⟩
                                        replace H : (if y272.length + y275.length < 8796093022208 then (tributarylaw4_gathered.l1 k3 l0 (y272 ++ y275) x4_1 (wrap64 (x5_2 + 1))) else (none)) = some r := by first | (rw [hy275]; with_reducible exact H) | (have H2_ := (Option.bind_some _ _).symm.trans H; rw [hy275]; with_reducible exact H2_) | (have H2_ := (Option.bind_some _ _).symm.trans H; with_reducible exact H2_) | with_reducible exact H | (rw [hy275]; exact H) | exact H
                                        have Ny275 := Aside0.mk hy275
                                        clear hy275
                                        by_cases c38 : y272.length + y275.length < 8796093022208
                                        · rw [if_pos c38] at H
                                          have LMc38 := Aside0.mk c38
                                          clear c38
                                          obtain ⟨y279, hy279⟩ : ∃ y_ : List (S30), y_ = (y272 ++ y275) := ⟨_, rfl⟩
                                          replace H : (tributarylaw4_gathered.l1 k3 l0 y279 x4_1 (wrap64 (x5_2 + 1))) = some r := by first | (rw [hy279]; with_reducible exact H) | (have H2_ := (Option.bind_some _ _).symm.trans H; rw [hy279]; with_reducible exact H2_) | (have H2_ := (Option.bind_some _ _).symm.trans H; with_reducible exact H2_) | with_reducible exact H | (rw [hy279]; exact H) | exact H
                                          have Ny279 := Aside0.mk hy279
                                          clear hy279
                                          have H' := Aside0.mk H
                                          clear H
                                          have q39 : (x6_3 : Int) ≤ ((x3_2.length : Int) : Int) := of_decide_eq_true (by first | (with_reducible assumption) | assumption)
                                          obtain ⟨i039, hi039, _, hsz39, _⟩ := info_parts info30
                                          have hroom39 : x3_2.length ≤ co6 := (Kd.R_reads' HO_3.out).2.1
                                          have hC39 : Kd.C k30 _ Ao6 x3_2.length x3_2 := (Kd.R_reads' HO_3.out).2.2
                                          have hcut39 := cut_to (P := Try.prog) 22 30 .i64 Try.underlying22 hi039 Ao6 x3_2.length co6 x6_3 (of_decide_eq_true (by first | (with_reducible assumption) | assumption)) q39 hroom39
                                          have hr39 := Kd.C_take (m := (x6_3 : Int).toNat) hC39 (by omega)
                                          have hy39 : y263.length = (x6_3 : Int).toNat := (by rw [Ny263.out, List.length_take]; omega)
                                          rw [← Ny263.out] at hr39
                                          rw [← hy39] at hcut39
                                          have HR266 := Aside0.mk hr39
                                          have HC266 := Aside0.mk (show y263.length ≤ co6 from by omega)
                                          clear hr39 hC39 hroom39 hi039 hsz39
                                          have KY39 := Aside0.mk hy39
                                          clear hy39
                                          have KL39 := Aside0.mk (show (x6_3 : Int).toNat ≤ x3_2.length from by omega)
                                          replace q39 := eq_true q39
                                          go_wp2_with (first | ((with_reducible refine gate_builtin (b := .append) (xs := #[.tmp 46, .tmp 49]) rfl ?_); at_builtin; refine Kd.R_append_rows k30 (w0 := w) w.heap.size rfl (.tmp 46) (.tmp 49) 22 30 (.agg #[(.int .i64 0), (.int .i64 0)]) 16 rfl Try.underlying22 info30 rfl (by decide) (by omega) (.slice none 0 0) ([] : List (S30)) y263 _ _ _ (fun k_ => some k_ ≠ (.slice Ao6 x3_2.length co6 : Value).ownBlock) (fun _ => False) rfl rfl ?aO ?aR (fun _ _ h => h) (fun _ h => h.elim) ?aF ?aB ?aS ?aL ?_; (case aR => repeat (first | exact (by repeat (first | (with_reducible exact HR266.out) | (with_reducible refine Kd.C_alloc ?_ _) | (with_reducible refine Kd.C_drewN ?_ _) | (with_reducible refine Kd.C_drew ?_) | exact HR266.out)) | (with_reducible refine Kd.C_alloc ?_ _) | (with_reducible refine Kd.C_drewN ?_ _) | (with_reducible refine Kd.C_drew ?_))); (case aB => exact (by repeat (first | (with_reducible first | exact HB.out | apply below_alloc | apply pw_below_drewN | apply below_drew1) | exact HB.out))); (case aF => exact (fun k_ hk => Kd.fresh' (Kd.R_lt (by (with_reducible repeat (first | apply Kd.R_alloc | apply Kd.R_drewN | apply Kd.R_drew)); exact HO_3.out)) k_ hk)); (case aO => exact ((Kd.R_nil _ _ _ _ (fun k_ => some k_ ≠ (.slice Ao6 x3_2.length co6 : Value).ownBlock)))); (case aS => exact (below_size (by repeat (first | (with_reducible first | exact HB.out | apply below_alloc | apply pw_below_drewN | apply below_drew1) | exact HB.out)))); (case aL => have := LMc30.out; omega); intro v268 w40 ho hb hg hat; rw [← Ny267.out] at ho; have n0_ := Aside0.mk (Kd.R_after (Kd.R_apart_nil (by (with_reducible repeat (first | apply Kd.R_alloc | apply Kd.R_drewN | apply Kd.R_drew)); exact HO_3.out)) hg hat); have n1_ := Aside0.mk (hb); have n2_ := Aside0.mk ((show Kd.C k30 w40 Ao6 y263.length y263 from by rw [Ny263.out]; exact Kd.C_take (m := (x6_3 : Int).toNat) ((Kd.R_reads' (Kd.R_after (Kd.R_apart_nil (by (with_reducible repeat (first | apply Kd.R_alloc | apply Kd.R_drewN | apply Kd.R_drew)); exact HO_3.out)) hg hat)).2.2) KL39.out)); have n3_ := Aside0.mk (ho); clear HO_3; clear HB; clear HR266; have HO_3 := n0_; have HB := n1_; have HR266 := n2_; have HO269 := n3_; clear n0_ n1_ n2_ n3_; clear ho hb hg hat; have p270 : 0 ≤ (x4_1 : Int) := of_decide_eq_true (by first | (with_reducible assumption) | assumption); have q270 : x4_1 < (l0.length : Int) := of_decide_eq_true (by first | (with_reducible assumption) | assumption); obtain ⟨ad270, A270_0, c270_0, e270, hx270_0, hl270_0, hi270_0⟩ := at_L2 HR0.out x4_1 p270 q270; obtain rfl : ad240 = ad270 := (by injection e270); replace hx270_0 := (HB.out.cell (World.block_lt_of_cell? w _ hx270_0)).trans hx270_0; have HR270_0 := Aside0.mk hi270_0; have HC270_0 := Aside0.mk hl270_0; clear hi270_0 hl270_0; replace p270 := eq_true p270; replace q270 := eq_true q270; have p271 : 0 ≤ (x5_2 : Int) := of_decide_eq_true (by first | (with_reducible assumption) | assumption); have q271 : x5_2 < ((rd_L2 l0 x4_1).length : Int) := of_decide_eq_true (by first | (with_reducible assumption) | assumption); obtain ⟨ad271, e271, hx271_0, hx271_1⟩ := at_T30 HR270_0.out x5_2 p271 q271; cases e271; replace hx271_0 := (HB.out.cell (World.block_lt_of_cell? w _ hx271_0)).trans hx271_0; replace hx271_1 := (HB.out.cell (World.block_lt_of_cell? w _ hx271_1)).trans hx271_1; replace p271 := eq_true p271; replace q271 := eq_true q271) | ((with_reducible refine gate_builtin (b := .append) (xs := #[.tmp 51, .tmp 59]) rfl ?_); at_builtin; refine Kd.R_append k30 (w0 := w) w.heap.size rfl (.tmp 51) (.tmp 59) 22 30 (.agg #[(.int .i64 0), (.int .i64 0)]) 16 rfl Try.underlying22 info30 rfl (by decide) (by omega) v268 y267 (⟨(rd_T30 (rd_L2 l0 x4_1) x5_2).f0, (rd_T30 (rd_L2 l0 x4_1) x5_2).f1⟩ : S30) [.int .i64 ((rd_T30 (rd_L2 l0 x4_1) x5_2).f0), .int .i64 ((rd_T30 (rd_L2 l0 x4_1) x5_2).f1)] (fun k_ => some k_ ≠ (.slice Ao6 x3_2.length co6 : Value).ownBlock) (fun _ => False) rfl rfl ?aP (fun _ hk => hk.elim) ?aF ?aO ?aB ?aS ?aL ?_; (case aP => exact k30_mkM _ _ _ (⟨(rd_T30 (rd_L2 l0 x4_1) x5_2).f0, (rd_T30 (rd_L2 l0 x4_1) x5_2).f1⟩ : S30)); (case aB => exact (by repeat (first | (with_reducible first | exact HB.out | apply below_alloc | apply pw_below_drewN | apply below_drew1) | exact HB.out))); (case aF => exact (fun k_ hk => Kd.fresh' (Kd.R_lt (by (with_reducible repeat (first | apply Kd.R_alloc | apply Kd.R_drewN | apply Kd.R_drew)); exact HO_3.out)) k_ hk)); (case aO => exact (by (with_reducible repeat (first | apply Kd.R_alloc | apply Kd.R_drewN | apply Kd.R_drew)); exact HO269.out)); (case aS => exact (below_size (by repeat (first | (with_reducible first | exact HB.out | apply below_alloc | apply pw_below_drewN | apply below_drew1) | exact HB.out)))); (case aL => have := LMc35.out; omega); intro v273 w41 ho hb hg hat; rw [← Ny272.out] at ho; have n0_ := Aside0.mk (Kd.R_after (ok := (fun _ => True)) (by (with_reducible repeat (first | apply Kd.R_alloc | apply Kd.R_drewN | apply Kd.R_drew)); exact HO_3.out) hg hat); have n1_ := Aside0.mk (hb); have n2_ := Aside0.mk ((show Kd.C k30 w41 Ao6 y263.length y263 from by rw [Ny263.out]; exact Kd.C_take (m := (x6_3 : Int).toNat) ((Kd.R_reads' (Kd.R_after (ok := (fun _ => True)) (by (with_reducible repeat (first | apply Kd.R_alloc | apply Kd.R_drewN | apply Kd.R_drew)); exact HO_3.out) hg hat)).2.2) KL39.out)); have n3_ := Aside0.mk (ho); clear HO_3; clear HB; clear HR266; clear HO269; have HO_3 := n0_; have HB := n1_; have HR266 := n2_; have HO274 := n3_; clear n0_ n1_ n2_ n3_; clear ho hb hg hat; have q42 : (x6_3 : Int) ≤ ((x3_2.length : Int) : Int) := of_decide_eq_true (by first | (with_reducible assumption) | assumption); obtain ⟨i042, hi042, _, hsz42, _⟩ := info_parts info30; have hroom42 : x3_2.length ≤ co6 := (Kd.R_reads' HO_3.out).2.1; have hC42 : Kd.C k30 _ Ao6 x3_2.length x3_2 := (Kd.R_reads' HO_3.out).2.2; have q042 : (0 : Int) ≤ (x6_3 : Int) := of_decide_eq_true (by first | (with_reducible assumption) | assumption); have hcut42 := cut_from (P := Try.prog) 22 30 .i64 Try.underlying22 hi042 2 hsz42 Ao6 x3_2.length co6 x6_3 q042 q42; have hr42 := Kd.C_drop (m := (x6_3 : Int).toNat) (c := co6) hC42 (by omega) hroom42; obtain ⟨A42, hA42⟩ : ∃ A1, A1 = (if co6 = (x6_3 : Int).toNat then Ao6 else (Ao6 : Option Addr).map (·.add ((x6_3 : Int).toNat * 2))) := ⟨_, rfl⟩; obtain ⟨c42, hc42⟩ : ∃ c1, c1 = co6 - (x6_3 : Int).toNat := ⟨_, rfl⟩; have hy42 : y275.length = x3_2.length - (x6_3 : Int).toNat := (by rw [Ny275.out, List.length_drop] <;> omega); rw [show (x3_2).drop (x6_3 : Int).toNat = y275 from Ny275.out.symm] at hr42; replace hr42 : Kd.C k30 _ A42 y275.length y275 := (by rw [hA42]; exact hr42); rw [← hy42, ← hA42, ← hc42] at hcut42; have HR278 := Aside0.mk hr42; have HC278 := Aside0.mk (show y275.length ≤ c42 from by rw [hy42, hc42]; exact Nat.sub_le_sub_right hroom42 _); clear hr42 hC42 hroom42 hi042 hsz42 hc42; have KY42 := Aside0.mk hy42; have KA42 := Aside0.mk hA42; clear hy42 hA42; have KL42 := Aside0.mk (show (x6_3 : Int).toNat ≤ x3_2.length from by omega); replace q42 := eq_true q42) | ((with_reducible refine gate_builtin (b := .append) (xs := #[.tmp 61, .tmp 64]) rfl ?_); at_builtin; refine Kd.R_append_rows k30 (w0 := w) w.heap.size rfl (.tmp 61) (.tmp 64) 22 30 (.agg #[(.int .i64 0), (.int .i64 0)]) 16 rfl Try.underlying22 info30 rfl (by decide) (by omega) v273 y272 y275 _ _ _ (fun k_ => some k_ ≠ (.slice Ao6 x3_2.length co6 : Value).ownBlock) (fun _ => False) rfl rfl ?aO ?aR (fun _ _ h => h) (fun _ h => h.elim) ?aF ?aB ?aS ?aL ?_; (case aR => repeat (first | exact (by repeat (first | (with_reducible exact HR278.out) | (with_reducible refine Kd.C_alloc ?_ _) | (with_reducible refine Kd.C_drewN ?_ _) | (with_reducible refine Kd.C_drew ?_) | exact HR278.out)) | (with_reducible refine Kd.C_alloc ?_ _) | (with_reducible refine Kd.C_drewN ?_ _) | (with_reducible refine Kd.C_drew ?_))); (case aB => exact (by repeat (first | (with_reducible first | exact HB.out | apply below_alloc | apply pw_below_drewN | apply below_drew1) | exact HB.out))); (case aF => exact (fun k_ hk => Kd.fresh' (Kd.R_lt (by (with_reducible repeat (first | apply Kd.R_alloc | apply Kd.R_drewN | apply Kd.R_drew)); exact HO_3.out)) k_ hk)); (case aO => exact (by (with_reducible repeat (first | apply Kd.R_alloc | apply Kd.R_drewN | apply Kd.R_drew)); exact HO274.out)); (case aS => exact (below_size (by repeat (first | (with_reducible first | exact HB.out | apply below_alloc | apply pw_below_drewN | apply below_drew1) | exact HB.out)))); (case aL => have := LMc38.out; omega); intro v280 w43 ho hb hg hat; rw [← Ny279.out] at ho; have n0_ := Aside0.mk (Kd.R_after (ok := (fun _ => True)) (by (with_reducible repeat (first | apply Kd.R_alloc | apply Kd.R_drewN | apply Kd.R_drew)); exact HO_3.out) hg hat); have n1_ := Aside0.mk (hb); have n2_ := Aside0.mk ((show Kd.C k30 w43 Ao6 y263.length y263 from by rw [Ny263.out]; exact Kd.C_take (m := (x6_3 : Int).toNat) ((Kd.R_reads' (Kd.R_after (ok := (fun _ => True)) (by (with_reducible repeat (first | apply Kd.R_alloc | apply Kd.R_drewN | apply Kd.R_drew)); exact HO_3.out) hg hat)).2.2) KL39.out)); have n3_ := Aside0.mk ((show Kd.C k30 w43 A42 y275.length y275 from by rw [Ny275.out, KA42.out]; exact Kd.C_drop (m := (x6_3 : Int).toNat) (c := co6) ((Kd.R_reads' (Kd.R_after (ok := (fun _ => True)) (by (with_reducible repeat (first | apply Kd.R_alloc | apply Kd.R_drewN | apply Kd.R_drew)); exact HO_3.out) hg hat)).2.2) KL42.out ((Kd.R_reads' (Kd.R_after (ok := (fun _ => True)) (by (with_reducible repeat (first | apply Kd.R_alloc | apply Kd.R_drewN | apply Kd.R_drew)); exact HO_3.out) hg hat)).2.1))); have n4_ := Aside0.mk (ho); clear HO_3; clear HB; clear HR266; clear HR278; clear HO274; have HO_3 := n0_; have HB := n1_; have HR266 := n2_; have HR278 := n3_; have HO281 := n4_; clear n0_ n1_ n2_ n3_ n4_; clear ho hb hg hat))
                                          repeat (go_quiet (first | ((with_reducible refine gate_builtin (b := .append) (xs := #[.tmp 46, .tmp 49]) rfl ?_); at_builtin; refine Kd.R_append_rows k30 (w0 := w) w.heap.size rfl (.tmp 46) (.tmp 49) 22 30 (.agg #[(.int .i64 0), (.int .i64 0)]) 16 rfl Try.underlying22 info30 rfl (by decide) (by omega) (.slice none 0 0) ([] : List (S30)) y263 _ _ _ (fun k_ => some k_ ≠ (.slice Ao6 x3_2.length co6 : Value).ownBlock) (fun _ => False) rfl rfl ?aO ?aR (fun _ _ h => h) (fun _ h => h.elim) ?aF ?aB ?aS ?aL ?_; (case aR => repeat (first | exact (by repeat (first | (with_reducible exact HR266.out) | (with_reducible refine Kd.C_alloc ?_ _) | (with_reducible refine Kd.C_drewN ?_ _) | (with_reducible refine Kd.C_drew ?_) | exact HR266.out)) | (with_reducible refine Kd.C_alloc ?_ _) | (with_reducible refine Kd.C_drewN ?_ _) | (with_reducible refine Kd.C_drew ?_))); (case aB => exact (by repeat (first | (with_reducible first | exact HB.out | apply below_alloc | apply pw_below_drewN | apply below_drew1) | exact HB.out))); (case aF => exact (fun k_ hk => Kd.fresh' (Kd.R_lt (by (with_reducible repeat (first | apply Kd.R_alloc | apply Kd.R_drewN | apply Kd.R_drew)); exact HO_3.out)) k_ hk)); (case aO => exact ((Kd.R_nil _ _ _ _ (fun k_ => some k_ ≠ (.slice Ao6 x3_2.length co6 : Value).ownBlock)))); (case aS => exact (below_size (by repeat (first | (with_reducible first | exact HB.out | apply below_alloc | apply pw_below_drewN | apply below_drew1) | exact HB.out)))); (case aL => have := LMc30.out; omega); intro v268 w40 ho hb hg hat; rw [← Ny267.out] at ho; have n0_ := Aside0.mk (Kd.R_after (Kd.R_apart_nil (by (with_reducible repeat (first | apply Kd.R_alloc | apply Kd.R_drewN | apply Kd.R_drew)); exact HO_3.out)) hg hat); have n1_ := Aside0.mk (hb); have n2_ := Aside0.mk ((show Kd.C k30 w40 Ao6 y263.length y263 from by rw [Ny263.out]; exact Kd.C_take (m := (x6_3 : Int).toNat) ((Kd.R_reads' (Kd.R_after (Kd.R_apart_nil (by (with_reducible repeat (first | apply Kd.R_alloc | apply Kd.R_drewN | apply Kd.R_drew)); exact HO_3.out)) hg hat)).2.2) KL39.out)); have n3_ := Aside0.mk (ho); clear HO_3; clear HB; clear HR266; have HO_3 := n0_; have HB := n1_; have HR266 := n2_; have HO269 := n3_; clear n0_ n1_ n2_ n3_; clear ho hb hg hat; have p270 : 0 ≤ (x4_1 : Int) := of_decide_eq_true (by first | (with_reducible assumption) | assumption); have q270 : x4_1 < (l0.length : Int) := of_decide_eq_true (by first | (with_reducible assumption) | assumption); obtain ⟨ad270, A270_0, c270_0, e270, hx270_0, hl270_0, hi270_0⟩ := at_L2 HR0.out x4_1 p270 q270; obtain rfl : ad240 = ad270 := (by injection e270); replace hx270_0 := (HB.out.cell (World.block_lt_of_cell? w _ hx270_0)).trans hx270_0; have HR270_0 := Aside0.mk hi270_0; have HC270_0 := Aside0.mk hl270_0; clear hi270_0 hl270_0; replace p270 := eq_true p270; replace q270 := eq_true q270; have p271 : 0 ≤ (x5_2 : Int) := of_decide_eq_true (by first | (with_reducible assumption) | assumption); have q271 : x5_2 < ((rd_L2 l0 x4_1).length : Int) := of_decide_eq_true (by first | (with_reducible assumption) | assumption); obtain ⟨ad271, e271, hx271_0, hx271_1⟩ := at_T30 HR270_0.out x5_2 p271 q271; cases e271; replace hx271_0 := (HB.out.cell (World.block_lt_of_cell? w _ hx271_0)).trans hx271_0; replace hx271_1 := (HB.out.cell (World.block_lt_of_cell? w _ hx271_1)).trans hx271_1; replace p271 := eq_true p271; replace q271 := eq_true q271) | ((with_reducible refine gate_builtin (b := .append) (xs := #[.tmp 51, .tmp 59]) rfl ?_); at_builtin; refine Kd.R_append k30 (w0 := w) w.heap.size rfl (.tmp 51) (.tmp 59) 22 30 (.agg #[(.int .i64 0), (.int .i64 0)]) 16 rfl Try.underlying22 info30 rfl (by decide) (by omega) v268 y267 (⟨(rd_T30 (rd_L2 l0 x4_1) x5_2).f0, (rd_T30 (rd_L2 l0 x4_1) x5_2).f1⟩ : S30) [.int .i64 ((rd_T30 (rd_L2 l0 x4_1) x5_2).f0), .int .i64 ((rd_T30 (rd_L2 l0 x4_1) x5_2).f1)] (fun k_ => some k_ ≠ (.slice Ao6 x3_2.length co6 : Value).ownBlock) (fun _ => False) rfl rfl ?aP (fun _ hk => hk.elim) ?aF ?aO ?aB ?aS ?aL ?_; (case aP => exact k30_mkM _ _ _ (⟨(rd_T30 (rd_L2 l0 x4_1) x5_2).f0, (rd_T30 (rd_L2 l0 x4_1) x5_2).f1⟩ : S30)); (case aB => exact (by repeat (first | (with_reducible first | exact HB.out | apply below_alloc | apply pw_below_drewN | apply below_drew1) | exact HB.out))); (case aF => exact (fun k_ hk => Kd.fresh' (Kd.R_lt (by (with_reducible repeat (first | apply Kd.R_alloc | apply Kd.R_drewN | apply Kd.R_drew)); exact HO_3.out)) k_ hk)); (case aO => exact (by (with_reducible repeat (first | apply Kd.R_alloc | apply Kd.R_drewN | apply Kd.R_drew)); exact HO269.out)); (case aS => exact (below_size (by repeat (first | (with_reducible first | exact HB.out | apply below_alloc | apply pw_below_drewN | apply below_drew1) | exact HB.out)))); (case aL => have := LMc35.out; omega); intro v273 w41 ho hb hg hat; rw [← Ny272.out] at ho; have n0_ := Aside0.mk (Kd.R_after (ok := (fun _ => True)) (by (with_reducible repeat (first | apply Kd.R_alloc | apply Kd.R_drewN | apply Kd.R_drew)); exact HO_3.out) hg hat); have n1_ := Aside0.mk (hb); have n2_ := Aside0.mk ((show Kd.C k30 w41 Ao6 y263.length y263 from by rw [Ny263.out]; exact Kd.C_take (m := (x6_3 : Int).toNat) ((Kd.R_reads' (Kd.R_after (ok := (fun _ => True)) (by (with_reducible repeat (first | apply Kd.R_alloc | apply Kd.R_drewN | apply Kd.R_drew)); exact HO_3.out) hg hat)).2.2) KL39.out)); have n3_ := Aside0.mk (ho); clear HO_3; clear HB; clear HR266; clear HO269; have HO_3 := n0_; have HB := n1_; have HR266 := n2_; have HO274 := n3_; clear n0_ n1_ n2_ n3_; clear ho hb hg hat; have q42 : (x6_3 : Int) ≤ ((x3_2.length : Int) : Int) := of_decide_eq_true (by first | (with_reducible assumption) | assumption); obtain ⟨i042, hi042, _, hsz42, _⟩ := info_parts info30; have hroom42 : x3_2.length ≤ co6 := (Kd.R_reads' HO_3.out).2.1; have hC42 : Kd.C k30 _ Ao6 x3_2.length x3_2 := (Kd.R_reads' HO_3.out).2.2; have q042 : (0 : Int) ≤ (x6_3 : Int) := of_decide_eq_true (by first | (with_reducible assumption) | assumption); have hcut42 := cut_from (P := Try.prog) 22 30 .i64 Try.underlying22 hi042 2 hsz42 Ao6 x3_2.length co6 x6_3 q042 q42; have hr42 := Kd.C_drop (m := (x6_3 : Int).toNat) (c := co6) hC42 (by omega) hroom42; obtain ⟨A42, hA42⟩ : ∃ A1, A1 = (if co6 = (x6_3 : Int).toNat then Ao6 else (Ao6 : Option Addr).map (·.add ((x6_3 : Int).toNat * 2))) := ⟨_, rfl⟩; obtain ⟨c42, hc42⟩ : ∃ c1, c1 = co6 - (x6_3 : Int).toNat := ⟨_, rfl⟩; have hy42 : y275.length = x3_2.length - (x6_3 : Int).toNat := (by rw [Ny275.out, List.length_drop] <;> omega); rw [show (x3_2).drop (x6_3 : Int).toNat = y275 from Ny275.out.symm] at hr42; replace hr42 : Kd.C k30 _ A42 y275.length y275 := (by rw [hA42]; exact hr42); rw [← hy42, ← hA42, ← hc42] at hcut42; have HR278 := Aside0.mk hr42; have HC278 := Aside0.mk (show y275.length ≤ c42 from by rw [hy42, hc42]; exact Nat.sub_le_sub_right hroom42 _); clear hr42 hC42 hroom42 hi042 hsz42 hc42; have KY42 := Aside0.mk hy42; have KA42 := Aside0.mk hA42; clear hy42 hA42; have KL42 := Aside0.mk (show (x6_3 : Int).toNat ≤ x3_2.length from by omega); replace q42 := eq_true q42) | ((with_reducible refine gate_builtin (b := .append) (xs := #[.tmp 61, .tmp 64]) rfl ?_); at_builtin; refine Kd.R_append_rows k30 (w0 := w) w.heap.size rfl (.tmp 61) (.tmp 64) 22 30 (.agg #[(.int .i64 0), (.int .i64 0)]) 16 rfl Try.underlying22 info30 rfl (by decide) (by omega) v273 y272 y275 _ _ _ (fun k_ => some k_ ≠ (.slice Ao6 x3_2.length co6 : Value).ownBlock) (fun _ => False) rfl rfl ?aO ?aR (fun _ _ h => h) (fun _ h => h.elim) ?aF ?aB ?aS ?aL ?_; (case aR => repeat (first | exact (by repeat (first | (with_reducible exact HR278.out) | (with_reducible refine Kd.C_alloc ?_ _) | (with_reducible refine Kd.C_drewN ?_ _) | (with_reducible refine Kd.C_drew ?_) | exact HR278.out)) | (with_reducible refine Kd.C_alloc ?_ _) | (with_reducible refine Kd.C_drewN ?_ _) | (with_reducible refine Kd.C_drew ?_))); (case aB => exact (by repeat (first | (with_reducible first | exact HB.out | apply below_alloc | apply pw_below_drewN | apply below_drew1) | exact HB.out))); (case aF => exact (fun k_ hk => Kd.fresh' (Kd.R_lt (by (with_reducible repeat (first | apply Kd.R_alloc | apply Kd.R_drewN | apply Kd.R_drew)); exact HO_3.out)) k_ hk)); (case aO => exact (by (with_reducible repeat (first | apply Kd.R_alloc | apply Kd.R_drewN | apply Kd.R_drew)); exact HO274.out)); (case aS => exact (below_size (by repeat (first | (with_reducible first | exact HB.out | apply below_alloc | apply pw_below_drewN | apply below_drew1) | exact HB.out)))); (case aL => have := LMc38.out; omega); intro v280 w43 ho hb hg hat; rw [← Ny279.out] at ho; have n0_ := Aside0.mk (Kd.R_after (ok := (fun _ => True)) (by (with_reducible repeat (first | apply Kd.R_alloc | apply Kd.R_drewN | apply Kd.R_drew)); exact HO_3.out) hg hat); have n1_ := Aside0.mk (hb); have n2_ := Aside0.mk ((show Kd.C k30 w43 Ao6 y263.length y263 from by rw [Ny263.out]; exact Kd.C_take (m := (x6_3 : Int).toNat) ((Kd.R_reads' (Kd.R_after (ok := (fun _ => True)) (by (with_reducible repeat (first | apply Kd.R_alloc | apply Kd.R_drewN | apply Kd.R_drew)); exact HO_3.out) hg hat)).2.2) KL39.out)); have n3_ := Aside0.mk ((show Kd.C k30 w43 A42 y275.length y275 from by rw [Ny275.out, KA42.out]; exact Kd.C_drop (m := (x6_3 : Int).toNat) (c := co6) ((Kd.R_reads' (Kd.R_after (ok := (fun _ => True)) (by (with_reducible repeat (first | apply Kd.R_alloc | apply Kd.R_drewN | apply Kd.R_drew)); exact HO_3.out) hg hat)).2.2) KL42.out ((Kd.R_reads' (Kd.R_after (ok := (fun _ => True)) (by (with_reducible repeat (first | apply Kd.R_alloc | apply Kd.R_drewN | apply Kd.R_drew)); exact HO_3.out) hg hat)).2.1))); have n4_ := Aside0.mk (ho); clear HO_3; clear HB; clear HR266; clear HR278; clear HO274; have HO_3 := n0_; have HB := n1_; have HR266 := n2_; have HR278 := n3_; have HO281 := n4_; clear n0_ n1_ n2_ n3_ n4_; clear ho hb hg hat)); try go_wp2_with (first | ((with_reducible refine gate_builtin (b := .append) (xs := #[.tmp 46, .tmp 49]) rfl ?_); at_builtin; refine Kd.R_append_rows k30 (w0 := w) w.heap.size rfl (.tmp 46) (.tmp 49) 22 30 (.agg #[(.int .i64 0), (.int .i64 0)]) 16 rfl Try.underlying22 info30 rfl (by decide) (by omega) (.slice none 0 0) ([] : List (S30)) y263 _ _ _ (fun k_ => some k_ ≠ (.slice Ao6 x3_2.length co6 : Value).ownBlock) (fun _ => False) rfl rfl ?aO ?aR (fun _ _ h => h) (fun _ h => h.elim) ?aF ?aB ?aS ?aL ?_; (case aR => repeat (first | exact (by repeat (first | (with_reducible exact HR266.out) | (with_reducible refine Kd.C_alloc ?_ _) | (with_reducible refine Kd.C_drewN ?_ _) | (with_reducible refine Kd.C_drew ?_) | exact HR266.out)) | (with_reducible refine Kd.C_alloc ?_ _) | (with_reducible refine Kd.C_drewN ?_ _) | (with_reducible refine Kd.C_drew ?_))); (case aB => exact (by repeat (first | (with_reducible first | exact HB.out | apply below_alloc | apply pw_below_drewN | apply below_drew1) | exact HB.out))); (case aF => exact (fun k_ hk => Kd.fresh' (Kd.R_lt (by (with_reducible repeat (first | apply Kd.R_alloc | apply Kd.R_drewN | apply Kd.R_drew)); exact HO_3.out)) k_ hk)); (case aO => exact ((Kd.R_nil _ _ _ _ (fun k_ => some k_ ≠ (.slice Ao6 x3_2.length co6 : Value).ownBlock)))); (case aS => exact (below_size (by repeat (first | (with_reducible first | exact HB.out | apply below_alloc | apply pw_below_drewN | apply below_drew1) | exact HB.out)))); (case aL => have := LMc30.out; omega); intro v268 w40 ho hb hg hat; rw [← Ny267.out] at ho; have n0_ := Aside0.mk (Kd.R_after (Kd.R_apart_nil (by (with_reducible repeat (first | apply Kd.R_alloc | apply Kd.R_drewN | apply Kd.R_drew)); exact HO_3.out)) hg hat); have n1_ := Aside0.mk (hb); have n2_ := Aside0.mk ((show Kd.C k30 w40 Ao6 y263.length y263 from by rw [Ny263.out]; exact Kd.C_take (m := (x6_3 : Int).toNat) ((Kd.R_reads' (Kd.R_after (Kd.R_apart_nil (by (with_reducible repeat (first | apply Kd.R_alloc | apply Kd.R_drewN | apply Kd.R_drew)); exact HO_3.out)) hg hat)).2.2) KL39.out)); have n3_ := Aside0.mk (ho); clear HO_3; clear HB; clear HR266; have HO_3 := n0_; have HB := n1_; have HR266 := n2_; have HO269 := n3_; clear n0_ n1_ n2_ n3_; clear ho hb hg hat; have p270 : 0 ≤ (x4_1 : Int) := of_decide_eq_true (by first | (with_reducible assumption) | assumption); have q270 : x4_1 < (l0.length : Int) := of_decide_eq_true (by first | (with_reducible assumption) | assumption); obtain ⟨ad270, A270_0, c270_0, e270, hx270_0, hl270_0, hi270_0⟩ := at_L2 HR0.out x4_1 p270 q270; obtain rfl : ad240 = ad270 := (by injection e270); replace hx270_0 := (HB.out.cell (World.block_lt_of_cell? w _ hx270_0)).trans hx270_0; have HR270_0 := Aside0.mk hi270_0; have HC270_0 := Aside0.mk hl270_0; clear hi270_0 hl270_0; replace p270 := eq_true p270; replace q270 := eq_true q270; have p271 : 0 ≤ (x5_2 : Int) := of_decide_eq_true (by first | (with_reducible assumption) | assumption); have q271 : x5_2 < ((rd_L2 l0 x4_1).length : Int) := of_decide_eq_true (by first | (with_reducible assumption) | assumption); obtain ⟨ad271, e271, hx271_0, hx271_1⟩ := at_T30 HR270_0.out x5_2 p271 q271; cases e271; replace hx271_0 := (HB.out.cell (World.block_lt_of_cell? w _ hx271_0)).trans hx271_0; replace hx271_1 := (HB.out.cell (World.block_lt_of_cell? w _ hx271_1)).trans hx271_1; replace p271 := eq_true p271; replace q271 := eq_true q271) | ((with_reducible refine gate_builtin (b := .append) (xs := #[.tmp 51, .tmp 59]) rfl ?_); at_builtin; refine Kd.R_append k30 (w0 := w) w.heap.size rfl (.tmp 51) (.tmp 59) 22 30 (.agg #[(.int .i64 0), (.int .i64 0)]) 16 rfl Try.underlying22 info30 rfl (by decide) (by omega) v268 y267 (⟨(rd_T30 (rd_L2 l0 x4_1) x5_2).f0, (rd_T30 (rd_L2 l0 x4_1) x5_2).f1⟩ : S30) [.int .i64 ((rd_T30 (rd_L2 l0 x4_1) x5_2).f0), .int .i64 ((rd_T30 (rd_L2 l0 x4_1) x5_2).f1)] (fun k_ => some k_ ≠ (.slice Ao6 x3_2.length co6 : Value).ownBlock) (fun _ => False) rfl rfl ?aP (fun _ hk => hk.elim) ?aF ?aO ?aB ?aS ?aL ?_; (case aP => exact k30_mkM _ _ _ (⟨(rd_T30 (rd_L2 l0 x4_1) x5_2).f0, (rd_T30 (rd_L2 l0 x4_1) x5_2).f1⟩ : S30)); (case aB => exact (by repeat (first | (with_reducible first | exact HB.out | apply below_alloc | apply pw_below_drewN | apply below_drew1) | exact HB.out))); (case aF => exact (fun k_ hk => Kd.fresh' (Kd.R_lt (by (with_reducible repeat (first | apply Kd.R_alloc | apply Kd.R_drewN | apply Kd.R_drew)); exact HO_3.out)) k_ hk)); (case aO => exact (by (with_reducible repeat (first | apply Kd.R_alloc | apply Kd.R_drewN | apply Kd.R_drew)); exact HO269.out)); (case aS => exact (below_size (by repeat (first | (with_reducible first | exact HB.out | apply below_alloc | apply pw_below_drewN | apply below_drew1) | exact HB.out)))); (case aL => have := LMc35.out; omega); intro v273 w41 ho hb hg hat; rw [← Ny272.out] at ho; have n0_ := Aside0.mk (Kd.R_after (ok := (fun _ => True)) (by (with_reducible repeat (first | apply Kd.R_alloc | apply Kd.R_drewN | apply Kd.R_drew)); exact HO_3.out) hg hat); have n1_ := Aside0.mk (hb); have n2_ := Aside0.mk ((show Kd.C k30 w41 Ao6 y263.length y263 from by rw [Ny263.out]; exact Kd.C_take (m := (x6_3 : Int).toNat) ((Kd.R_reads' (Kd.R_after (ok := (fun _ => True)) (by (with_reducible repeat (first | apply Kd.R_alloc | apply Kd.R_drewN | apply Kd.R_drew)); exact HO_3.out) hg hat)).2.2) KL39.out)); have n3_ := Aside0.mk (ho); clear HO_3; clear HB; clear HR266; clear HO269; have HO_3 := n0_; have HB := n1_; have HR266 := n2_; have HO274 := n3_; clear n0_ n1_ n2_ n3_; clear ho hb hg hat; have q42 : (x6_3 : Int) ≤ ((x3_2.length : Int) : Int) := of_decide_eq_true (by first | (with_reducible assumption) | assumption); obtain ⟨i042, hi042, _, hsz42, _⟩ := info_parts info30; have hroom42 : x3_2.length ≤ co6 := (Kd.R_reads' HO_3.out).2.1; have hC42 : Kd.C k30 _ Ao6 x3_2.length x3_2 := (Kd.R_reads' HO_3.out).2.2; have q042 : (0 : Int) ≤ (x6_3 : Int) := of_decide_eq_true (by first | (with_reducible assumption) | assumption); have hcut42 := cut_from (P := Try.prog) 22 30 .i64 Try.underlying22 hi042 2 hsz42 Ao6 x3_2.length co6 x6_3 q042 q42; have hr42 := Kd.C_drop (m := (x6_3 : Int).toNat) (c := co6) hC42 (by omega) hroom42; obtain ⟨A42, hA42⟩ : ∃ A1, A1 = (if co6 = (x6_3 : Int).toNat then Ao6 else (Ao6 : Option Addr).map (·.add ((x6_3 : Int).toNat * 2))) := ⟨_, rfl⟩; obtain ⟨c42, hc42⟩ : ∃ c1, c1 = co6 - (x6_3 : Int).toNat := ⟨_, rfl⟩; have hy42 : y275.length = x3_2.length - (x6_3 : Int).toNat := (by rw [Ny275.out, List.length_drop] <;> omega); rw [show (x3_2).drop (x6_3 : Int).toNat = y275 from Ny275.out.symm] at hr42; replace hr42 : Kd.C k30 _ A42 y275.length y275 := (by rw [hA42]; exact hr42); rw [← hy42, ← hA42, ← hc42] at hcut42; have HR278 := Aside0.mk hr42; have HC278 := Aside0.mk (show y275.length ≤ c42 from by rw [hy42, hc42]; exact Nat.sub_le_sub_right hroom42 _); clear hr42 hC42 hroom42 hi042 hsz42 hc42; have KY42 := Aside0.mk hy42; have KA42 := Aside0.mk hA42; clear hy42 hA42; have KL42 := Aside0.mk (show (x6_3 : Int).toNat ≤ x3_2.length from by omega); replace q42 := eq_true q42) | ((with_reducible refine gate_builtin (b := .append) (xs := #[.tmp 61, .tmp 64]) rfl ?_); at_builtin; refine Kd.R_append_rows k30 (w0 := w) w.heap.size rfl (.tmp 61) (.tmp 64) 22 30 (.agg #[(.int .i64 0), (.int .i64 0)]) 16 rfl Try.underlying22 info30 rfl (by decide) (by omega) v273 y272 y275 _ _ _ (fun k_ => some k_ ≠ (.slice Ao6 x3_2.length co6 : Value).ownBlock) (fun _ => False) rfl rfl ?aO ?aR (fun _ _ h => h) (fun _ h => h.elim) ?aF ?aB ?aS ?aL ?_; (case aR => repeat (first | exact (by repeat (first | (with_reducible exact HR278.out) | (with_reducible refine Kd.C_alloc ?_ _) | (with_reducible refine Kd.C_drewN ?_ _) | (with_reducible refine Kd.C_drew ?_) | exact HR278.out)) | (with_reducible refine Kd.C_alloc ?_ _) | (with_reducible refine Kd.C_drewN ?_ _) | (with_reducible refine Kd.C_drew ?_))); (case aB => exact (by repeat (first | (with_reducible first | exact HB.out | apply below_alloc | apply pw_below_drewN | apply below_drew1) | exact HB.out))); (case aF => exact (fun k_ hk => Kd.fresh' (Kd.R_lt (by (with_reducible repeat (first | apply Kd.R_alloc | apply Kd.R_drewN | apply Kd.R_drew)); exact HO_3.out)) k_ hk)); (case aO => exact (by (with_reducible repeat (first | apply Kd.R_alloc | apply Kd.R_drewN | apply Kd.R_drew)); exact HO274.out)); (case aS => exact (below_size (by repeat (first | (with_reducible first | exact HB.out | apply below_alloc | apply pw_below_drewN | apply below_drew1) | exact HB.out)))); (case aL => have := LMc38.out; omega); intro v280 w43 ho hb hg hat; rw [← Ny279.out] at ho; have n0_ := Aside0.mk (Kd.R_after (ok := (fun _ => True)) (by (with_reducible repeat (first | apply Kd.R_alloc | apply Kd.R_drewN | apply Kd.R_drew)); exact HO_3.out) hg hat); have n1_ := Aside0.mk (hb); have n2_ := Aside0.mk ((show Kd.C k30 w43 Ao6 y263.length y263 from by rw [Ny263.out]; exact Kd.C_take (m := (x6_3 : Int).toNat) ((Kd.R_reads' (Kd.R_after (ok := (fun _ => True)) (by (with_reducible repeat (first | apply Kd.R_alloc | apply Kd.R_drewN | apply Kd.R_drew)); exact HO_3.out) hg hat)).2.2) KL39.out)); have n3_ := Aside0.mk ((show Kd.C k30 w43 A42 y275.length y275 from by rw [Ny275.out, KA42.out]; exact Kd.C_drop (m := (x6_3 : Int).toNat) (c := co6) ((Kd.R_reads' (Kd.R_after (ok := (fun _ => True)) (by (with_reducible repeat (first | apply Kd.R_alloc | apply Kd.R_drewN | apply Kd.R_drew)); exact HO_3.out) hg hat)).2.2) KL42.out ((Kd.R_reads' (Kd.R_after (ok := (fun _ => True)) (by (with_reducible repeat (first | apply Kd.R_alloc | apply Kd.R_drewN | apply Kd.R_drew)); exact HO_3.out) hg hat)).2.1))); have n4_ := Aside0.mk (ho); clear HO_3; clear HB; clear HR266; clear HR278; clear HO274; have HO_3 := n0_; have HB := n1_; have HR266 := n2_; have HR278 := n3_; have HO281 := n4_; clear n0_ n1_ n2_ n3_ n4_; clear ho hb hg hat)))
                                          go_roundg k3
                                          case measure => have := HK1.out; have := HK2.out; have := HK3.out; omega
                                          case rel => exact ⟨(y279), (wrap64 (x5_2 + 1)), (by first | rfl | (simp; done) | (simp [*]; done)), H', ⟨by have := HK1.out; have := HK2.out; have := HK3.out; omega⟩, ⟨by (with_reducible repeat (first | apply Kd.R_alloc | apply Kd.R_drewN | apply Kd.R_drew)); exact Kd.R_mono HO281.out (fun _ hk => trivial)⟩, ⟨by repeat (first | (with_reducible first | exact HB.out | apply below_alloc | apply pw_below_drewN | apply below_drew1) | exact HB.out)⟩⟩
                                        · rw [if_neg c38] at H
                                          exact absurd H (by simp)
                                      · rw [if_neg c35] at H
                                        exact absurd H (by simp)
                                    · rw [if_neg c34] at H
                                      exact absurd H (by simp)
                                  · rw [if_neg c33] at H
                                    exact absurd H (by simp)
                                · rw [if_neg c32] at H
                                  exact absurd H (by simp)
                              · rw [if_neg c31] at H
                                exact absurd H (by simp)
                            · rw [if_neg c30] at H
                              exact absurd H (by simp)
                          · rw [if_neg c29] at H
                            exact absurd H (by simp)
                        · rw [if_neg c28] at H
                          exact absurd H (by simp)
                · rw [if_neg c5] at H
                  have c5b0 : decide (x5_2 < ((rd_L2 l0 x4_1).length : Int)) = false := decide_eq_false c5
                  clear c5
                  have H' := Aside0.mk H
                  clear H
                  have p240 : 0 ≤ (x4_1 : Int) := of_decide_eq_true (by first | (with_reducible assumption) | assumption)
                  have q240 : x4_1 < (l0.length : Int) := of_decide_eq_true (by first | (with_reducible assumption) | assumption)
                  obtain ⟨ad240, A240_0, c240_0, e240, hx240_0, hl240_0, hi240_0⟩ := at_L2 HR0.out x4_1 p240 q240
                  cases e240
                  replace hx240_0 := (HB.out.cell (World.block_lt_of_cell? w _ hx240_0)).trans hx240_0
                  have HR240_0 := Aside0.mk hi240_0
                  have HC240_0 := Aside0.mk hl240_0
                  clear hi240_0 hl240_0
                  replace p240 := eq_true p240
                  replace q240 := eq_true q240
                  go_wp2
                  repeat (go_quiet (fail); try go_wp2)
                  go_roundg k2
                  case measure => have := HK1.out; have := HK2.out; omega
                  case rel => exact ⟨(x3_2), (wrap64 (x4_1 + 1)), (by first | rfl | (simp; done) | (simp [*]; done)), H', ⟨by have := HK1.out; have := HK2.out; omega⟩, ⟨by (with_reducible repeat (first | apply Kd.R_alloc | apply Kd.R_drewN | apply Kd.R_drew)); exact HO_3.out⟩, ⟨by repeat (first | (with_reducible first | exact HB.out | apply below_alloc | apply pw_below_drewN | apply below_drew1) | exact HB.out)⟩⟩
              · rw [if_neg c4] at H
                exact absurd H (by simp)
            · rw [if_neg c3] at H
              exact absurd H (by simp)
      · rw [if_neg c2] at H
        have c2b0 : decide (x4_1 < (l0.length : Int)) = false := decide_eq_false c2
        clear c2
        obtain rfl := Option.some.inj H
        go_wp2
        repeat (go_quiet (fail); try go_wp2)
        go_ret
        exact ⟨_, by first | rfl | (simp [errW_none, errW_some] <;> rfl) | (simp [*, errW_none, errW_some] <;> rfl), by (with_reducible repeat (first | apply Kd.R_alloc | apply Kd.R_drewN | apply Kd.R_drew)); exact HO_3.out, by repeat (first | (with_reducible first | exact HB.out | apply below_alloc | apply pw_below_drewN | apply below_drew1) | exact HB.out)⟩

end Go.Proofs.Ytbbjkgpilmcldaa.PWm
