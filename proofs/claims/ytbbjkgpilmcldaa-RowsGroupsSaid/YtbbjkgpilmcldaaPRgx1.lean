-- written by a program of this session, a turned copy of the print tool
import Derived.Test.YtbbjkgpilmcldaaPRgx0
namespace Go.Proofs.Ytbbjkgpilmcldaa.PRg
open Go.RowKit Go.Proofs.YtbbjkgpilmcldaaW.PrintWords Go.Proofs.YtbbjkgpilmcldaaW.PrintLast Go.Proofs.YtbbjkgpilmcldaaW.PrintMore
attribute [local go_sem] max2_int min2_int max_two min_two max_three min_three max_four min_four   -- for this text's walks alone
set_option linter.unusedVariables false
set_option linter.unusedSimpArgs false

/-! ### tributarylaw2_few: function 15 -/
def tributarylaw2_few.f (l0 : List (S30)) (a1 : Int) : Option ((List (S30))) := if 0 ≤ (mn (l0.length : Int) a1) then (if (mn (l0.length : Int) a1) ≤ (l0.length : Int) then ((some (l0.take ((mn (l0.length : Int) a1) : Int).toNat : List (S30))).bind fun y101 => (if ([] : List (S30)).length + y101.length < 8796093022208 then ((some (([] : List (S30)) ++ y101 : List (S30))).bind fun y105 => ((some (([(⟨(-7), 0⟩ : S30), (⟨(-8), 0⟩ : S30)] : List (S30)) : List (S30))).bind fun y108 => (if y105.length + y108.length < 8796093022208 then ((some (y105 ++ y108 : List (S30))).bind fun y111 => (if (mn (l0.length : Int) a1) ≤ (y111.length : Int) then (some (y111.take ((mn (l0.length : Int) a1) : Int).toNat)) else (none))) else (none)))) else (none))) else (none)) else (none)
set_option maxHeartbeats 8000000 in
set_option maxRecDepth 100000 in
theorem tributarylaw2_few.calls (A0 : Option Addr) (c0 : Nat) (l0 : List (S30)) (a1 : Int) (r : List (S30)) (w : World) (hr0 : Kd.C k30 w A0 l0.length l0) (hc0 : l0.length ≤ c0) (h : tributarylaw2_few.f l0 a1 = some r) :
    Calls Try.prog 15 #[.slice A0 l0.length c0, .int .i64 a1] w fun e w' => ∃ v0_ : Value, e = .returned (v0_) ∧ Kd.R k30 30 w' w.heap.size (fun _ => True) v0_ r ∧ Below w.heap.size w w' := by
  have hu30 := Try.underlying30
  have HR0 := Aside0.mk hr0
  have HC0 := Aside0.mk hc0
  clear hr0 hc0
  have HB := Aside0.mk (Below.refl w.heap.size w)
  have H : (if 0 ≤ (mn (l0.length : Int) a1) then (if (mn (l0.length : Int) a1) ≤ (l0.length : Int) then ((some (l0.take ((mn (l0.length : Int) a1) : Int).toNat : List (S30))).bind fun y101 => (if ([] : List (S30)).length + y101.length < 8796093022208 then ((some (([] : List (S30)) ++ y101 : List (S30))).bind fun y105 => ((some (([(⟨(-7), 0⟩ : S30), (⟨(-8), 0⟩ : S30)] : List (S30)) : List (S30))).bind fun y108 => (if y105.length + y108.length < 8796093022208 then ((some (y105 ++ y108 : List (S30))).bind fun y111 => (if (mn (l0.length : Int) a1) ≤ (y111.length : Int) then (some (y111.take ((mn (l0.length : Int) a1) : Int).toNat)) else (none))) else (none)))) else (none))) else (none)) else (none)) = some r := h
  clear h
  obtain ⟨ji3, hji3⟩ : ∃ j_ : Int, (mn (l0.length : Int) a1) = j_ := ⟨_, rfl⟩
  replace H : (if 0 ≤ (ji3) then (if (ji3) ≤ (l0.length : Int) then ((some (l0.take ((ji3) : Int).toNat : List (S30))).bind fun y101 => (if ([] : List (S30)).length + y101.length < 8796093022208 then ((some (([] : List (S30)) ++ y101 : List (S30))).bind fun y105 => ((some (([(⟨(-7), 0⟩ : S30), (⟨(-8), 0⟩ : S30)] : List (S30)) : List (S30))).bind fun y108 => (if y105.length + y108.length < 8796093022208 then ((some (y105 ++ y108 : List (S30))).bind fun y111 => (if (ji3) ≤ (y111.length : Int) then (some (y111.take ((ji3) : Int).toNat)) else (none))) else (none)))) else (none))) else (none)) else (none)) = some r := by first | (rw [hji3] at H; exact H) | (simp only [hji3] at H ⊢; exact H)
  have hji3_ : (if a1 < (l0.length : Int) then a1 else (l0.length : Int)) = ji3 := hji3
  by_cases c4 : 0 ≤ (ji3)
  · rw [if_pos c4] at H
    have c4b0 := eq_true c4
    have c4b1 : decide (0 ≤ (ji3)) = true := decide_eq_true c4
    clear c4
    by_cases c5 : (ji3) ≤ (l0.length : Int)
    · rw [if_pos c5] at H
      have c5b0 := eq_true c5
      have c5b1 : decide ((ji3) ≤ (l0.length : Int)) = true := decide_eq_true c5
      clear c5
      obtain ⟨y101, hy101⟩ : ∃ y_ : List (S30), y_ = (l0.take ((ji3) : Int).toNat) := ⟨_, rfl⟩
      replace H : (if ([] : List (S30)).length + y101.length < 8796093022208 then ((some (([] : List (S30)) ++ y101 : List (S30))).bind fun y105 => ((some (([(⟨(-7), 0⟩ : S30), (⟨(-8), 0⟩ : S30)] : List (S30)) : List (S30))).bind fun y108 => (if y105.length + y108.length < 8796093022208 then ((some (y105 ++ y108 : List (S30))).bind fun y111 => (if (ji3) ≤ (y111.length : Int) then (some (y111.take ((ji3) : Int).toNat)) else (none))) else (none)))) else (none)) = some r := by first | (rw [hy101]; with_reducible exact H) | (have H2_ := (Option.bind_some _ _).symm.trans H; rw [hy101]; with_reducible exact H2_) | (have H2_ := (Option.bind_some _ _).symm.trans H; with_reducible exact H2_) | with_reducible exact H | (rw [hy101]; exact H) | exact H
      have Ny101 := Aside0.mk hy101
      clear hy101
      by_cases c6 : ([] : List (S30)).length + y101.length < 8796093022208
      · rw [if_pos c6] at H
        have LMc6 := Aside0.mk c6
        clear c6
        obtain ⟨y105, hy105⟩ : ∃ y_ : List (S30), y_ = (([] : List (S30)) ++ y101) := ⟨_, rfl⟩
        replace H : ((some (([(⟨(-7), 0⟩ : S30), (⟨(-8), 0⟩ : S30)] : List (S30)) : List (S30))).bind fun y108 => (if y105.length + y108.length < 8796093022208 then ((some (y105 ++ y108 : List (S30))).bind fun y111 => (if (ji3) ≤ (y111.length : Int) then (some (y111.take ((ji3) : Int).toNat)) else (none))) else (none))) = some r := by first | (rw [hy105]; with_reducible exact H) | (have H2_ := (Option.bind_some _ _).symm.trans H; rw [hy105]; with_reducible exact H2_) | (have H2_ := (Option.bind_some _ _).symm.trans H; with_reducible exact H2_) | with_reducible exact H | (rw [hy105]; exact H) | exact H
        have Ny105 := Aside0.mk hy105
        clear hy105
        obtain ⟨y108, hy108⟩ : ∃ y_ : List (S30), y_ = (([(⟨(-7), 0⟩ : S30), (⟨(-8), 0⟩ : S30)] : List (S30))) := ⟨_, rfl⟩
        replace H : (if y105.length + y108.length < 8796093022208 then ((some (y105 ++ y108 : List (S30))).bind fun y111 => (if (ji3) ≤ (y111.length : Int) then (some (y111.take ((ji3) : Int).toNat)) else (none))) else (none)) = some r := by first | (rw [hy108]; with_reducible exact H) | (have H2_ := (Option.bind_some _ _).symm.trans H; rw [hy108]; with_reducible exact H2_) | (have H2_ := (Option.bind_some _ _).symm.trans H; with_reducible exact H2_) | with_reducible exact H | (rw [hy108]; exact H) | exact H
        have Ny108 := Aside0.mk hy108
        clear hy108
        by_cases c7 : y105.length + y108.length < 8796093022208
        · rw [if_pos c7] at H
          have LMc7 := Aside0.mk c7
          clear c7
          obtain ⟨y111, hy111⟩ : ∃ y_ : List (S30), y_ = (y105 ++ y108) := ⟨_, rfl⟩
          replace H : (if (ji3) ≤ (y111.length : Int) then (some (y111.take ((ji3) : Int).toNat)) else (none)) = some r := by first | (rw [hy111]; with_reducible exact H) | (have H2_ := (Option.bind_some _ _).symm.trans H; rw [hy111]; with_reducible exact H2_) | (have H2_ := (Option.bind_some _ _).symm.trans H; with_reducible exact H2_) | with_reducible exact H | (rw [hy111]; exact H) | exact H
          have Ny111 := Aside0.mk hy111
          clear hy111
          by_cases c8 : (ji3) ≤ (y111.length : Int)
          · rw [if_pos c8] at H
            have c8b0 := eq_true c8
            have c8b1 : decide ((ji3) ≤ (y111.length : Int)) = true := decide_eq_true c8
            clear c8
            obtain ⟨y114, hy114⟩ : ∃ y_ : List (S30), y_ = (y111.take ((ji3) : Int).toNat) := ⟨_, rfl⟩
            replace H : (some y114) = some r := by first | (rw [hy114]; with_reducible exact H) | (have H2_ := (Option.bind_some _ _).symm.trans H; rw [hy114]; with_reducible exact H2_) | (have H2_ := (Option.bind_some _ _).symm.trans H; with_reducible exact H2_) | with_reducible exact H | (rw [hy114]; exact H) | exact H
            have Ny114 := Aside0.mk hy114
            clear hy114
            obtain rfl := Option.some.inj H
            have q9 : ((ji3) : Int) ≤ ((l0.length : Int) : Int) := of_decide_eq_true (by first | (with_reducible assumption) | assumption)
            obtain ⟨i09, hi09, _, hsz9, _⟩ := info_parts info30
            have hroom9 : l0.length ≤ c0 := HC0.out
            have hC9 : Kd.C k30 _ A0 l0.length l0 := HR0.out
            have hcut9 := cut_to (P := Try.prog) 22 30 .i64 Try.underlying22 hi09 A0 l0.length c0 (ji3) (of_decide_eq_true (by first | (with_reducible assumption) | assumption)) q9 hroom9
            have hr9 := Kd.C_take (m := ((ji3) : Int).toNat) hC9 (by omega)
            have hy9 : y101.length = ((ji3) : Int).toNat := (by rw [Ny101.out, List.length_take]; omega)
            rw [← Ny101.out] at hr9
            rw [← hy9] at hcut9
            have HR104 := Aside0.mk hr9
            have HC104 := Aside0.mk (show y101.length ≤ c0 from by omega)
            clear hr9 hC9 hroom9 hi09 hsz9
            have KY9 := Aside0.mk hy9
            clear hy9
            replace q9 := eq_true q9
            go_enter Try.func15, Try.ntmps15
            go_wp2_with (first | ((with_reducible refine gate_builtin (b := .append) (xs := #[.tmp 11, .tmp 14]) rfl ?_); at_builtin; refine Kd.R_append_rows k30 (w0 := w) w.heap.size rfl (.tmp 11) (.tmp 14) 22 30 (.agg #[(.int .i64 0), (.int .i64 0)]) 16 rfl Try.underlying22 info30 rfl (by decide) (by omega) (.slice none 0 0) ([] : List (S30)) y101 _ _ _ (fun _ => True) (fun _ => False) rfl rfl ?aO ?aR (fun _ _ h => h) (fun _ h => h.elim) ?aF ?aB ?aS ?aL ?_; (case aR => repeat (first | exact HR104.out | (with_reducible refine Kd.C_alloc ?_ _) | (with_reducible refine Kd.C_drewN ?_ _) | (with_reducible refine Kd.C_drew ?_))); (case aB => exact (by repeat (first | (with_reducible first | exact HB.out | apply below_alloc | apply pw_below_drewN | apply below_drew1) | exact HB.out))); (case aF => exact (fun _ _ => trivial)); (case aO => exact ((Kd.R_nil _ _ _ _ (fun _ => True)))); (case aS => exact (below_size (by repeat (first | (with_reducible first | exact HB.out | apply below_alloc | apply pw_below_drewN | apply below_drew1) | exact HB.out)))); (case aL => have := LMc6.out; omega); intro v106 w10 ho hb hg hat; rw [← Ny105.out] at ho; have n0_ := Aside0.mk (hb); have n1_ := Aside0.mk (ho); clear HB; have HB := n0_; have HO107 := n1_; clear n0_ n1_; clear ho hb hg hat) | ((with_reducible refine gate_dst (N := 19) rfl ?_); refine Kd.R_lit k30 _ 30 ?hg (N := 19) ?hd (xs := ([(⟨(-7), 0⟩ : S30), (⟨(-8), 0⟩ : S30)] : List (S30))) (inner := [.int .i64 (-7), .int .i64 0, .int .i64 (-8), .int .i64 0]) (ok := fun _ => True) (okp := fun _ => True) ?hr ?hp (fun _ hk => hk) trivial (Below.refl _ _) (Nat.le_refl _) (by simp) ?_; (case hd => rfl); (case hg => rfl); (case hr => first | (go_simp; done) | (go_simp; rfl)); (case hp => exact (Reps.c2 (show Kd.M k30 _ _ _ (⟨(-7), 0⟩ : S30) [.int .i64 (-7), .int .i64 0] from (k30_mkM _ _ _ (⟨(-7), 0⟩ : S30) )) (Reps.c2 (show Kd.M k30 _ _ _ (⟨(-8), 0⟩ : S30) [.int .i64 (-8), .int .i64 0] from (k30_mkM _ _ _ (⟨(-8), 0⟩ : S30) )) (Reps.none _ _)))); intro v109 w11 ho12 hb hg_ hnew_; clear hg_ hnew_; (first | rw [← Ny108.out] at ho12 | (simp only [Int.reduceToNat] at ho12; rw [← Ny108.out] at ho12)); have n0_ := Aside0.mk (Kd.R_elder' (by (with_reducible repeat (first | apply Kd.R_alloc | apply Kd.R_drewN | apply Kd.R_drew)); exact HO107.out) (Kd.R_base ho12) hb); have n1_ := Aside0.mk (Kd.R_lower (Kd.R_new' ho12 (Kd.R_lt (by (with_reducible repeat (first | apply Kd.R_alloc | apply Kd.R_drewN | apply Kd.R_drew)); exact HO107.out))) (below_size (by repeat (first | (with_reducible first | exact HB.out | apply below_alloc | apply pw_below_drewN | apply below_drew1) | exact HB.out)))); have n2_ := Aside0.mk (below_step (by repeat (first | (with_reducible first | exact HB.out | apply below_alloc | apply pw_below_drewN | apply below_drew1) | exact HB.out)) hb); clear HO107; clear HB; have HO107 := n0_; have HO110 := n1_; have HB := n2_; clear n0_ n1_ n2_; clear hb ho12; obtain ⟨Ao14, co14, eo14⟩ := Kd.R_slice HO110.out; subst eo14) | ((with_reducible refine gate_builtin (b := .append) (xs := #[.tmp 16, .tmp 19]) rfl ?_); at_builtin; refine Kd.R_append_rows k30 (w0 := w) w.heap.size rfl (.tmp 16) (.tmp 19) 22 30 (.agg #[(.int .i64 0), (.int .i64 0)]) 16 rfl Try.underlying22 info30 rfl (by decide) (by omega) v106 y105 y108 _ _ _ (fun k_ => some k_ ≠ (.slice Ao14 y108.length co14 : Value).ownBlock) (fun _ => False) rfl rfl ?aO ?aR (fun _ _ h => h) (fun _ h => h.elim) ?aF ?aB ?aS ?aL ?_; (case aR => repeat (first | exact (Kd.R_reads' HO110.out).2.2 | (with_reducible refine Kd.C_alloc ?_ _) | (with_reducible refine Kd.C_drewN ?_ _) | (with_reducible refine Kd.C_drew ?_))); (case aB => exact (by repeat (first | (with_reducible first | exact HB.out | apply below_alloc | apply pw_below_drewN | apply below_drew1) | exact HB.out))); (case aF => exact (fun k_ hk => Kd.fresh' (Kd.R_lt (by (with_reducible repeat (first | apply Kd.R_alloc | apply Kd.R_drewN | apply Kd.R_drew)); exact HO110.out)) k_ hk)); (case aO => exact (by (with_reducible repeat (first | apply Kd.R_alloc | apply Kd.R_drewN | apply Kd.R_drew)); exact Kd.R_mono HO107.out (fun _ hk => hk.2))); (case aS => exact (below_size (by repeat (first | (with_reducible first | exact HB.out | apply below_alloc | apply pw_below_drewN | apply below_drew1) | exact HB.out)))); (case aL => have := LMc7.out; omega); intro v112 w13 ho hb hg hat; rw [← Ny111.out] at ho; have n0_ := Aside0.mk (Kd.R_after (ok := (fun _ => True)) (by (with_reducible repeat (first | apply Kd.R_alloc | apply Kd.R_drewN | apply Kd.R_drew)); exact HO110.out) hg hat); have n1_ := Aside0.mk (hb); have n2_ := Aside0.mk (ho); clear HO110; clear HB; clear HO107; have HO110 := n0_; have HB := n1_; have HO113 := n2_; clear n0_ n1_ n2_; clear ho hb hg hat; obtain ⟨Ao15, co15, eo15⟩ := Kd.R_slice HO113.out; subst eo15; have q16 : ((ji3) : Int) ≤ ((y111.length : Int) : Int) := of_decide_eq_true (by first | (with_reducible assumption) | assumption); obtain ⟨i016, hi016, _, hsz16, _⟩ := info_parts info30; have hcut16 := cut_to (P := Try.prog) 22 30 .i64 Try.underlying22 hi016 Ao15 y111.length co15 (ji3) (of_decide_eq_true (by first | (with_reducible assumption) | assumption)) q16 (Kd.R_reads' HO113.out).2.1; have hr16 := Kd.R_take (m := ((ji3) : Int).toNat) HO113.out (by omega); have hy16 : y114.length = ((ji3) : Int).toNat := (by rw [Ny114.out, List.length_take]; omega); rw [← Ny114.out] at hr16; rw [← hy16] at hr16 hcut16; clear hy16 hi016 hsz16 HO113; have HO116 := Aside0.mk hr16; clear hr16; replace q16 := eq_true q16))
            go_ret
            exact ⟨_, by first | rfl | (simp [errW_none, errW_some] <;> rfl) | (simp only [← hji3]; first | rfl | (simp [errW_none, errW_some] <;> rfl)) | (simp [*, errW_none, errW_some] <;> rfl), by (with_reducible repeat (first | apply Kd.R_alloc | apply Kd.R_drewN | apply Kd.R_drew)); exact Kd.R_mono HO116.out (fun _ hk => trivial), by repeat (first | (with_reducible first | exact HB.out | apply below_alloc | apply pw_below_drewN | apply below_drew1) | exact HB.out)⟩
          · rw [if_neg c8] at H
            exact absurd H (by simp)
        · rw [if_neg c7] at H
          exact absurd H (by simp)
      · rw [if_neg c6] at H
        exact absurd H (by simp)
    · rw [if_neg c5] at H
      exact absurd H (by simp)
  · rw [if_neg c4] at H
    exact absurd H (by simp)

/-! ### rows_Part: function 28 -/
def rows_Part.f (a0 : Int) (a1 : Int) : Option (Int) := if a1 < 2 then (some 0) else (if a1 = 0 then (none) else (some (Int.tmod (wrap64 ((IntKind.u64.wrap ((IntKind.u64.wrap (a0)) * 11400714819323198485)) / 8589934592)) a1)))
set_option maxHeartbeats 8000000 in
set_option maxRecDepth 100000 in
theorem rows_Part.calls (a0 : Int) (a1 : Int) (r : Int) (w : World) (h : rows_Part.f a0 a1 = some r) :
    Calls Try.prog 28 #[.int .i64 a0, .int .i64 a1] w fun e w' => e = .returned (.int .i64 r) ∧ Drawn0 w w' := by
  have H : (if a1 < 2 then (some 0) else (if a1 = 0 then (none) else (some (Int.tmod (wrap64 ((IntKind.u64.wrap ((IntKind.u64.wrap (a0)) * 11400714819323198485)) / 8589934592)) a1)))) = some r := h
  clear h
  by_cases c3 : a1 < 2
  · rw [if_pos c3] at H
    have c3b0 : decide (a1 < 2) = true := decide_eq_true c3
    clear c3
    obtain rfl := Option.some.inj H
    go_enter Try.func28, Try.ntmps28
    go_wp2
    go_ret
    exact ⟨by first | rfl | (simp; done) | (simp [*]; done), by repeat (first | exact Drawn0.refl _ | apply Drawn0.step)⟩
  · rw [if_neg c3] at H
    have c3b0 : decide (a1 < 2) = false := decide_eq_false c3
    clear c3
    by_cases c4 : a1 = 0
    · rw [if_pos c4] at H
      exact absurd H (by simp)
    · rw [if_neg c4] at H
      have c4b0 : (a1 == 0) = false := beq_eq_false_iff_ne.mpr c4
      have c4b1 : (a1 != 0) = true := bne_iff_ne.mpr c4
      obtain rfl := Option.some.inj H
      go_enter Try.func28, Try.ntmps28
      go_wp2
      go_ret
      exact ⟨by first | rfl | (simp; done) | (simp [*]; done), by repeat (first | exact Drawn0.refl _ | apply Drawn0.step)⟩

/-! ### rows_Size: function 38 -/
def rows_Size.f (l0 : List (S30)) : Option (Int) := some (wrap64 (8 + (wrap64 (16 * (l0.length : Int)))))
set_option maxHeartbeats 8000000 in
set_option maxRecDepth 100000 in
theorem rows_Size.calls (A0 : Option Addr) (c0 : Nat) (l0 : List (S30)) (r : Int) (w : World) (hr0 : Kd.C k30 w A0 l0.length l0) (hc0 : l0.length ≤ c0) (h : rows_Size.f l0 = some r) :
    Calls Try.prog 38 #[.slice A0 l0.length c0] w fun e w' => e = .returned (.int .i64 r) ∧ Drawn0 w w' := by
  have HR0 := Aside0.mk hr0
  have HC0 := Aside0.mk hc0
  clear hr0 hc0
  have H : (some (wrap64 (8 + (wrap64 (16 * (l0.length : Int)))))) = some r := h
  clear h
  obtain rfl := Option.some.inj H
  go_enter Try.func38, Try.ntmps38
  go_wp2
  go_ret
  exact ⟨by first | rfl | (simp; done) | (simp [*]; done), by repeat (first | exact Drawn0.refl _ | apply Drawn0.step)⟩

/-! ### rows_Before: function 39 -/
def rows_Before.f (a0_0 : Int) (a0_1 : Int) (a0_2 : Int) (a1_0 : Int) (a1_1 : Int) (a1_2 : Int) : Option (Bool) := if a0_0 = a1_0 then (if a0_1 = a1_1 then (some (decide (a0_2 < a1_2))) else (some (decide (a0_1 < a1_1)))) else (some (decide (a0_0 < a1_0)))
set_option maxHeartbeats 8000000 in
set_option maxRecDepth 100000 in
theorem rows_Before.calls (a0_0 : Int) (a0_1 : Int) (a0_2 : Int) (a1_0 : Int) (a1_1 : Int) (a1_2 : Int) (r : Bool) (w : World) (h : rows_Before.f a0_0 a0_1 a0_2 a1_0 a1_1 a1_2 = some r) :
    Calls Try.prog 39 #[.agg #[.int .i64 a0_0, .int .i64 a0_1, .int .i64 a0_2], .agg #[.int .i64 a1_0, .int .i64 a1_1, .int .i64 a1_2]] w fun e w' => e = .returned (.bool r) ∧ Below w.heap.size w w' := by
  have hu65 := Try.underlying65
  have HB := Aside0.mk (Below.refl w.heap.size w)
  have H : (if a0_0 = a1_0 then (if a0_1 = a1_1 then (some (decide (a0_2 < a1_2))) else (some (decide (a0_1 < a1_1)))) else (some (decide (a0_0 < a1_0)))) = some r := h
  clear h
  by_cases c3 : a0_0 = a1_0
  · rw [if_pos c3] at H
    have c3b0 : (a0_0 == a1_0) = true := beq_iff_eq.mpr c3
    have c3b1 : (a0_0 != a1_0) = false := bne_eq_false_iff_eq.mpr c3
    clear c3
    by_cases c4 : a0_1 = a1_1
    · rw [if_pos c4] at H
      have c4b0 : (a0_1 == a1_1) = true := beq_iff_eq.mpr c4
      have c4b1 : (a0_1 != a1_1) = false := bne_eq_false_iff_eq.mpr c4
      clear c4
      obtain rfl := Option.some.inj H
      go_enter Try.func39, Try.ntmps39
      go_wp2_with (first | ((with_reducible refine gate_dst (N := 2) rfl ?_); refine box_event ?hg (N := 2) ?hd (cs := #[.int .i64 a0_0, .int .i64 a0_1, .int .i64 a0_2]) (t := 65) ?hr ?_; (case hd => rfl); (case hg => rfl); (case hr => first | (go_simp; done) | (go_simp; rfl)); intro gb117 hg w5 hbox hb; have n0_ := Aside0.mk (below_step (by repeat (first | (with_reducible first | exact HB.out | apply below_alloc | apply pw_below_drewN | apply below_drew1) | exact HB.out)) hb); have n1_ := Aside0.mk (hbox); have n2_ := Aside0.mk ((by rw [hg]; exact (below_size (by repeat (first | (with_reducible first | exact HB.out | apply below_alloc | apply pw_below_drewN | apply below_drew1) | exact HB.out))) : w.heap.size ≤ gb117)); have n3_ := Aside0.mk ((by rw [hg]; exact (below_size (by repeat (first | (with_reducible first | exact HB.out | apply below_alloc | apply pw_below_drewN | apply below_drew1) | exact HB.out))) : w.heap.size ≤ gb117)); clear HB; have HB := n0_; have BK117 := n1_; have GW117 := n2_; have GE117 := n3_; clear n0_ n1_ n2_ n3_; clear hb hbox hg) | ((with_reducible refine gate_dst (N := 3) rfl ?_); refine box_event ?hg (N := 3) ?hd (cs := #[.int .i64 a1_0, .int .i64 a1_1, .int .i64 a1_2]) (t := 65) ?hr ?_; (case hd => rfl); (case hg => rfl); (case hr => first | (go_simp; done) | (go_simp; rfl)); intro gb118 hg w6 hbox hb; have n0_ := Aside0.mk (blk_below (g := gb117) (o := .cells #[.int .i64 a0_0, .int .i64 a0_1, .int .i64 a0_2] 65 (0, 0)) (by (with_reducible repeat (first | refine blk_drewN ?_ _ | refine blk_drew ?_ | refine blk_alloc ?_ _)); exact BK117.out) hb); have n1_ := Aside0.mk (below_step (by repeat (first | (with_reducible first | exact HB.out | apply below_alloc | apply pw_below_drewN | apply below_drew1 | refine below_set ?_ GE117.out) | exact HB.out)) hb); have n2_ := Aside0.mk (hbox); have n3_ := Aside0.mk ((by rw [hg]; exact (below_size (by repeat (first | (with_reducible first | exact HB.out | apply below_alloc | apply pw_below_drewN | apply below_drew1 | refine below_set ?_ GE117.out) | exact HB.out))) : w.heap.size ≤ gb118)); have n4_ := Aside0.mk ((by rw [hg]; exact (below_size (by repeat (first | (with_reducible first | exact HB.out | apply below_alloc | apply pw_below_drewN | apply below_drew1 | refine below_set ?_ GE117.out) | exact HB.out))) : w.heap.size ≤ gb118)); have n5_ := Aside0.mk ((by rw [hg]; exact Nat.ne_of_lt (blk_lt (g := gb117) (o := .cells #[.int .i64 a0_0, .int .i64 a0_1, .int .i64 a0_2] 65 (0, 0)) (by (with_reducible repeat (first | refine blk_drewN ?_ _ | refine blk_drew ?_ | refine blk_alloc ?_ _)); exact BK117.out)) : gb117 ≠ gb118)); have n6_ := Aside0.mk ((by rw [hg]; exact Nat.ne_of_gt (blk_lt (g := gb117) (o := .cells #[.int .i64 a0_0, .int .i64 a0_1, .int .i64 a0_2] 65 (0, 0)) (by (with_reducible repeat (first | refine blk_drewN ?_ _ | refine blk_drew ?_ | refine blk_alloc ?_ _)); exact BK117.out)) : gb118 ≠ gb117)); clear BK117; clear HB; have BK117 := n0_; have HB := n1_; have BK118 := n2_; have GW118 := n3_; have GE118 := n4_; have NB117_118 := n5_; have NB118_117 := n6_; clear n0_ n1_ n2_ n3_ n4_ n5_ n6_; clear hb hbox hg; have hnb7 := NB117_118.out; have hnc7 := NB118_117.out; have hcz8_0 : w6.cell? ⟨gb117, 0, none⟩ = some (.int .i64 a0_0) := (blk_cell BK117.out 0).trans rfl; have hcz8_1 : w6.cell? ⟨gb117, 1, none⟩ = some (.int .i64 a0_1) := (blk_cell BK117.out 1).trans rfl; have hcz8_2 : w6.cell? ⟨gb117, 2, none⟩ = some (.int .i64 a0_2) := (blk_cell BK117.out 2).trans rfl; have hfz8_0 := blk_frozen BK117.out 0; have hfz8_1 := blk_frozen BK117.out 1; have hfz8_2 := blk_frozen BK117.out 2; have hcz9_0 : w6.cell? ⟨gb118, 0, none⟩ = some (.int .i64 a1_0) := (blk_cell BK118.out 0).trans rfl; have hcz9_1 : w6.cell? ⟨gb118, 1, none⟩ = some (.int .i64 a1_1) := (blk_cell BK118.out 1).trans rfl; have hcz9_2 : w6.cell? ⟨gb118, 2, none⟩ = some (.int .i64 a1_2) := (blk_cell BK118.out 2).trans rfl; have hfz9_0 := blk_frozen BK118.out 0; have hfz9_1 := blk_frozen BK118.out 1; have hfz9_2 := blk_frozen BK118.out 2))
      go_ret
      exact ⟨by first | rfl | (simp [errW_none, errW_some] <;> rfl) | (simp [*, errW_none, errW_some] <;> rfl), by repeat (first | (with_reducible first | exact HB.out | apply below_alloc | apply pw_below_drewN | apply below_drew1 | refine below_set ?_ GE117.out | refine below_set ?_ GE118.out) | exact HB.out)⟩
    · rw [if_neg c4] at H
      have c4b0 : (a0_1 == a1_1) = false := beq_eq_false_iff_ne.mpr c4
      have c4b1 : (a0_1 != a1_1) = true := bne_iff_ne.mpr c4
      obtain rfl := Option.some.inj H
      go_enter Try.func39, Try.ntmps39
      go_wp2_with (first | ((with_reducible refine gate_dst (N := 2) rfl ?_); refine box_event ?hg (N := 2) ?hd (cs := #[.int .i64 a0_0, .int .i64 a0_1, .int .i64 a0_2]) (t := 65) ?hr ?_; (case hd => rfl); (case hg => rfl); (case hr => first | (go_simp; done) | (go_simp; rfl)); intro gb117 hg w10 hbox hb; have n0_ := Aside0.mk (below_step (by repeat (first | (with_reducible first | exact HB.out | apply below_alloc | apply pw_below_drewN | apply below_drew1) | exact HB.out)) hb); have n1_ := Aside0.mk (hbox); have n2_ := Aside0.mk ((by rw [hg]; exact (below_size (by repeat (first | (with_reducible first | exact HB.out | apply below_alloc | apply pw_below_drewN | apply below_drew1) | exact HB.out))) : w.heap.size ≤ gb117)); have n3_ := Aside0.mk ((by rw [hg]; exact (below_size (by repeat (first | (with_reducible first | exact HB.out | apply below_alloc | apply pw_below_drewN | apply below_drew1) | exact HB.out))) : w.heap.size ≤ gb117)); clear HB; have HB := n0_; have BK117 := n1_; have GW117 := n2_; have GE117 := n3_; clear n0_ n1_ n2_ n3_; clear hb hbox hg) | ((with_reducible refine gate_dst (N := 3) rfl ?_); refine box_event ?hg (N := 3) ?hd (cs := #[.int .i64 a1_0, .int .i64 a1_1, .int .i64 a1_2]) (t := 65) ?hr ?_; (case hd => rfl); (case hg => rfl); (case hr => first | (go_simp; done) | (go_simp; rfl)); intro gb118 hg w11 hbox hb; have n0_ := Aside0.mk (blk_below (g := gb117) (o := .cells #[.int .i64 a0_0, .int .i64 a0_1, .int .i64 a0_2] 65 (0, 0)) (by (with_reducible repeat (first | refine blk_drewN ?_ _ | refine blk_drew ?_ | refine blk_alloc ?_ _)); exact BK117.out) hb); have n1_ := Aside0.mk (below_step (by repeat (first | (with_reducible first | exact HB.out | apply below_alloc | apply pw_below_drewN | apply below_drew1 | refine below_set ?_ GE117.out) | exact HB.out)) hb); have n2_ := Aside0.mk (hbox); have n3_ := Aside0.mk ((by rw [hg]; exact (below_size (by repeat (first | (with_reducible first | exact HB.out | apply below_alloc | apply pw_below_drewN | apply below_drew1 | refine below_set ?_ GE117.out) | exact HB.out))) : w.heap.size ≤ gb118)); have n4_ := Aside0.mk ((by rw [hg]; exact (below_size (by repeat (first | (with_reducible first | exact HB.out | apply below_alloc | apply pw_below_drewN | apply below_drew1 | refine below_set ?_ GE117.out) | exact HB.out))) : w.heap.size ≤ gb118)); have n5_ := Aside0.mk ((by rw [hg]; exact Nat.ne_of_lt (blk_lt (g := gb117) (o := .cells #[.int .i64 a0_0, .int .i64 a0_1, .int .i64 a0_2] 65 (0, 0)) (by (with_reducible repeat (first | refine blk_drewN ?_ _ | refine blk_drew ?_ | refine blk_alloc ?_ _)); exact BK117.out)) : gb117 ≠ gb118)); have n6_ := Aside0.mk ((by rw [hg]; exact Nat.ne_of_gt (blk_lt (g := gb117) (o := .cells #[.int .i64 a0_0, .int .i64 a0_1, .int .i64 a0_2] 65 (0, 0)) (by (with_reducible repeat (first | refine blk_drewN ?_ _ | refine blk_drew ?_ | refine blk_alloc ?_ _)); exact BK117.out)) : gb118 ≠ gb117)); clear BK117; clear HB; have BK117 := n0_; have HB := n1_; have BK118 := n2_; have GW118 := n3_; have GE118 := n4_; have NB117_118 := n5_; have NB118_117 := n6_; clear n0_ n1_ n2_ n3_ n4_ n5_ n6_; clear hb hbox hg; have hnb12 := NB117_118.out; have hnc12 := NB118_117.out; have hcz13_0 : w11.cell? ⟨gb117, 0, none⟩ = some (.int .i64 a0_0) := (blk_cell BK117.out 0).trans rfl; have hcz13_1 : w11.cell? ⟨gb117, 1, none⟩ = some (.int .i64 a0_1) := (blk_cell BK117.out 1).trans rfl; have hcz13_2 : w11.cell? ⟨gb117, 2, none⟩ = some (.int .i64 a0_2) := (blk_cell BK117.out 2).trans rfl; have hfz13_0 := blk_frozen BK117.out 0; have hfz13_1 := blk_frozen BK117.out 1; have hfz13_2 := blk_frozen BK117.out 2; have hcz14_0 : w11.cell? ⟨gb118, 0, none⟩ = some (.int .i64 a1_0) := (blk_cell BK118.out 0).trans rfl; have hcz14_1 : w11.cell? ⟨gb118, 1, none⟩ = some (.int .i64 a1_1) := (blk_cell BK118.out 1).trans rfl; have hcz14_2 : w11.cell? ⟨gb118, 2, none⟩ = some (.int .i64 a1_2) := (blk_cell BK118.out 2).trans rfl; have hfz14_0 := blk_frozen BK118.out 0; have hfz14_1 := blk_frozen BK118.out 1; have hfz14_2 := blk_frozen BK118.out 2))
      go_ret
      exact ⟨by first | rfl | (simp [errW_none, errW_some] <;> rfl) | (simp [*, errW_none, errW_some] <;> rfl), by repeat (first | (with_reducible first | exact HB.out | apply below_alloc | apply pw_below_drewN | apply below_drew1 | refine below_set ?_ GE117.out | refine below_set ?_ GE118.out) | exact HB.out)⟩
  · rw [if_neg c3] at H
    have c3b0 : (a0_0 == a1_0) = false := beq_eq_false_iff_ne.mpr c3
    have c3b1 : (a0_0 != a1_0) = true := bne_iff_ne.mpr c3
    obtain rfl := Option.some.inj H
    go_enter Try.func39, Try.ntmps39
    go_wp2_with (first | ((with_reducible refine gate_dst (N := 2) rfl ?_); refine box_event ?hg (N := 2) ?hd (cs := #[.int .i64 a0_0, .int .i64 a0_1, .int .i64 a0_2]) (t := 65) ?hr ?_; (case hd => rfl); (case hg => rfl); (case hr => first | (go_simp; done) | (go_simp; rfl)); intro gb117 hg w15 hbox hb; have n0_ := Aside0.mk (below_step (by repeat (first | (with_reducible first | exact HB.out | apply below_alloc | apply pw_below_drewN | apply below_drew1) | exact HB.out)) hb); have n1_ := Aside0.mk (hbox); have n2_ := Aside0.mk ((by rw [hg]; exact (below_size (by repeat (first | (with_reducible first | exact HB.out | apply below_alloc | apply pw_below_drewN | apply below_drew1) | exact HB.out))) : w.heap.size ≤ gb117)); have n3_ := Aside0.mk ((by rw [hg]; exact (below_size (by repeat (first | (with_reducible first | exact HB.out | apply below_alloc | apply pw_below_drewN | apply below_drew1) | exact HB.out))) : w.heap.size ≤ gb117)); clear HB; have HB := n0_; have BK117 := n1_; have GW117 := n2_; have GE117 := n3_; clear n0_ n1_ n2_ n3_; clear hb hbox hg) | ((with_reducible refine gate_dst (N := 3) rfl ?_); refine box_event ?hg (N := 3) ?hd (cs := #[.int .i64 a1_0, .int .i64 a1_1, .int .i64 a1_2]) (t := 65) ?hr ?_; (case hd => rfl); (case hg => rfl); (case hr => first | (go_simp; done) | (go_simp; rfl)); intro gb118 hg w16 hbox hb; have n0_ := Aside0.mk (blk_below (g := gb117) (o := .cells #[.int .i64 a0_0, .int .i64 a0_1, .int .i64 a0_2] 65 (0, 0)) (by (with_reducible repeat (first | refine blk_drewN ?_ _ | refine blk_drew ?_ | refine blk_alloc ?_ _)); exact BK117.out) hb); have n1_ := Aside0.mk (below_step (by repeat (first | (with_reducible first | exact HB.out | apply below_alloc | apply pw_below_drewN | apply below_drew1 | refine below_set ?_ GE117.out) | exact HB.out)) hb); have n2_ := Aside0.mk (hbox); have n3_ := Aside0.mk ((by rw [hg]; exact (below_size (by repeat (first | (with_reducible first | exact HB.out | apply below_alloc | apply pw_below_drewN | apply below_drew1 | refine below_set ?_ GE117.out) | exact HB.out))) : w.heap.size ≤ gb118)); have n4_ := Aside0.mk ((by rw [hg]; exact (below_size (by repeat (first | (with_reducible first | exact HB.out | apply below_alloc | apply pw_below_drewN | apply below_drew1 | refine below_set ?_ GE117.out) | exact HB.out))) : w.heap.size ≤ gb118)); have n5_ := Aside0.mk ((by rw [hg]; exact Nat.ne_of_lt (blk_lt (g := gb117) (o := .cells #[.int .i64 a0_0, .int .i64 a0_1, .int .i64 a0_2] 65 (0, 0)) (by (with_reducible repeat (first | refine blk_drewN ?_ _ | refine blk_drew ?_ | refine blk_alloc ?_ _)); exact BK117.out)) : gb117 ≠ gb118)); have n6_ := Aside0.mk ((by rw [hg]; exact Nat.ne_of_gt (blk_lt (g := gb117) (o := .cells #[.int .i64 a0_0, .int .i64 a0_1, .int .i64 a0_2] 65 (0, 0)) (by (with_reducible repeat (first | refine blk_drewN ?_ _ | refine blk_drew ?_ | refine blk_alloc ?_ _)); exact BK117.out)) : gb118 ≠ gb117)); clear BK117; clear HB; have BK117 := n0_; have HB := n1_; have BK118 := n2_; have GW118 := n3_; have GE118 := n4_; have NB117_118 := n5_; have NB118_117 := n6_; clear n0_ n1_ n2_ n3_ n4_ n5_ n6_; clear hb hbox hg; have hnb17 := NB117_118.out; have hnc17 := NB118_117.out; have hcz18_0 : w16.cell? ⟨gb117, 0, none⟩ = some (.int .i64 a0_0) := (blk_cell BK117.out 0).trans rfl; have hcz18_1 : w16.cell? ⟨gb117, 1, none⟩ = some (.int .i64 a0_1) := (blk_cell BK117.out 1).trans rfl; have hcz18_2 : w16.cell? ⟨gb117, 2, none⟩ = some (.int .i64 a0_2) := (blk_cell BK117.out 2).trans rfl; have hfz18_0 := blk_frozen BK117.out 0; have hfz18_1 := blk_frozen BK117.out 1; have hfz18_2 := blk_frozen BK117.out 2; have hcz19_0 : w16.cell? ⟨gb118, 0, none⟩ = some (.int .i64 a1_0) := (blk_cell BK118.out 0).trans rfl; have hcz19_1 : w16.cell? ⟨gb118, 1, none⟩ = some (.int .i64 a1_1) := (blk_cell BK118.out 1).trans rfl; have hcz19_2 : w16.cell? ⟨gb118, 2, none⟩ = some (.int .i64 a1_2) := (blk_cell BK118.out 2).trans rfl; have hfz19_0 := blk_frozen BK118.out 0; have hfz19_1 := blk_frozen BK118.out 1; have hfz19_2 := blk_frozen BK118.out 2))
    go_ret
    exact ⟨by first | rfl | (simp [errW_none, errW_some] <;> rfl) | (simp [*, errW_none, errW_some] <;> rfl), by repeat (first | (with_reducible first | exact HB.out | apply below_alloc | apply pw_below_drewN | apply below_drew1 | refine below_set ?_ GE117.out | refine below_set ?_ GE118.out) | exact HB.out)⟩

/-! ### rows_Split: function 40 -/
def rows_Split.l0 : Nat → Int → List (List (S30)) → List (S30) → Int → Int → Option ((List (List (S30))))
  | 0, _, _, _, _, _ => none
  | k + 1, x1, x5, x13, x14, x15 => if x15 < x14 then (if 0 ≤ x15 then (if x15 < (x13.length : Int) then ((rows_Part.f ((rd_T30 x13 x15).f0) x1).bind fun t124 => (if 0 ≤ t124 then (if t124 < (x5.length : Int) then (if (rd_L2 x5 t124).length < 8796093022208 then (rows_Split.l0 k x1 (x5.set (t124 : Int).toNat ((rd_L2 x5 t124) ++ [(⟨(rd_T30 x13 x15).f0, (rd_T30 x13 x15).f1⟩ : S30)])) x13 x14 (wrap64 (x15 + 1))) else (none)) else (none)) else (none))) else (none)) else (none)) else (some x5)
def rows_Split.f (k : Nat) (l0 : List (S30)) (a1 : Int) : Option ((List (List (S30)))) := if a1 < 1 then (some ([] : List (List (S30)))) else (if 0 ≤ a1 then (if (a1 : Int).toNat ≤ 11728124029610 then (rows_Split.l0 k a1 (List.replicate (a1 : Int).toNat []) l0 (l0.length : Int) 0) else (none)) else (none))
theorem rows_Split.mono_l : ∀ k, (∀ y0 y1 y2 y3 y4, LeO (rows_Split.l0 k y0 y1 y2 y3 y4) (rows_Split.l0 (k + 1) y0 y1 y2 y3 y4))
  | 0 => fun _ _ _ _ _ r h => by simp [rows_Split.l0] at h
  | k + 1 => by
    have ih0 := rows_Split.mono_l k
    · intro y0 y1 y2 y3 y4
      unfold rows_Split.l0
      repeat' first
      | (with_reducible exact ih0 _ _ _ _ _)
      | (with_reducible exact LeO.refl _)
      | (with_reducible exact LeO.none _)
      | (with_reducible refine LeO.ite ?_ ?_)
      | (with_reducible refine LeO.bind ?_ (fun _ => ?_))
      | exact ih0 _ _ _ _ _
      | exact LeO.none _
      | refine LeO.ite ?_ ?_
      | refine LeO.bind ?_ (fun _ => ?_)
theorem rows_Split.mono : ∀ a0 a1 k, LeO (rows_Split.f k a0 a1) (rows_Split.f (k + 1) a0 a1) := by
  intro a0 a1 k
  have ih0 := rows_Split.mono_l k
  unfold rows_Split.f
  repeat' first
      | (with_reducible exact ih0 _ _ _ _ _)
      | (with_reducible exact LeO.refl _)
      | (with_reducible exact LeO.none _)
      | (with_reducible refine LeO.ite ?_ ?_)
      | (with_reducible refine LeO.bind ?_ (fun _ => ?_))
      | exact ih0 _ _ _ _ _
      | exact LeO.none _
      | refine LeO.ite ?_ ?_
      | refine LeO.bind ?_ (fun _ => ?_)
def rows_Split.T8 : Bool × List (List Nat × List Nat) := (true, [([], []), ([], []), ([], []), ([], []), ([2, 3], [2, 3]), ([4], [4]), ([], []), ([6], [6]), ([5, 7], [5, 7]), ([0, 1, 0, 1, 2, 3, 4, 5, 6, 7, 8], [0, 1]), ([9, 8, 8, 0, 1, 2, 3, 4, 5, 6, 7, 8], [8, 9])])
def rows_Split.B8 : List Nat := [0, 0, 0, 0, 12, 28, 0, 64, 252, 511, 1023]
theorem rows_Split.tab8 : rtab .any (opsOf Try.f40 8) = rows_Split.T8 := by kernel_rfl
theorem rows_Split.bits8 : waitsOk rows_Split.T8.2 rows_Split.B8 = true := by kernel_rfl
set_option maxHeartbeats 8000000 in
set_option maxRecDepth 100000 in
theorem rows_Split.calls (k : Nat) (A0 : Option Addr) (c0 : Nat) (l0 : List (S30)) (a1 : Int) (r : List (List (S30))) (w : World) (hr0 : Kd.C k30 w A0 l0.length l0) (hc0 : l0.length ≤ c0) (h : rows_Split.f k l0 a1 = some r) :
    Calls Try.prog 40 #[.slice A0 l0.length c0, .int .i64 a1] w fun e w' => ∃ v0_ : Value, e = .returned (v0_) ∧ Kd.S (Kd.slice 30 k30) 22 w' w.heap.size (fun _ => True) v0_ r ∧ Below w.heap.size w w' := by
  have hu30 := Try.underlying30
  have HR0 := Aside0.mk hr0
  have HC0 := Aside0.mk hc0
  clear hr0 hc0
  have HB := Aside0.mk (Below.refl w.heap.size w)
  have H : (if a1 < 1 then (some ([] : List (List (S30)))) else (if 0 ≤ a1 then (if (a1 : Int).toNat ≤ 11728124029610 then (rows_Split.l0 k a1 (List.replicate (a1 : Int).toNat []) l0 (l0.length : Int) 0) else (none)) else (none))) = some r := h
  clear h
  by_cases c3 : a1 < 1
  · rw [if_pos c3] at H
    have c3b0 : decide (a1 < 1) = true := decide_eq_true c3
    clear c3
    obtain rfl := Option.some.inj H
    go_enter Try.func40, Try.ntmps40
    go_wp2
    go_ret
    exact ⟨_, by first | rfl | (simp [errW_none, errW_some] <;> rfl) | (simp [*, errW_none, errW_some] <;> rfl), by first | exact Kd.S_nil _ _ _ _ _ | exact Kd.N_nil _ _ _ _ _ | exact Kd.V_nil _ _ _ _ _ | exact Kd.Q_nil _ _ _ _ _ | exact Kd.R_nil _ _ _ _ _, by repeat (first | (with_reducible first | exact HB.out | apply below_alloc | apply pw_below_drewN | apply below_drew1) | exact HB.out)⟩
  · rw [if_neg c3] at H
    have c3b0 : decide (a1 < 1) = false := decide_eq_false c3
    clear c3
    by_cases c4 : 0 ≤ a1
    · rw [if_pos c4] at H
      have c4b0 := eq_true c4
      have c4b1 : decide (0 ≤ a1) = true := decide_eq_true c4
      clear c4
      by_cases c5 : (a1 : Int).toNat ≤ 11728124029610
      · rw [if_pos c5] at H
        have c5b0 := eq_true c5
        have c5b1 : decide ((a1 : Int).toNat ≤ 11728124029610) = true := decide_eq_true c5
        clear c5
        obtain ⟨y119, hy119⟩ : ∃ y_ : List (List (S30)), y_ = (List.replicate (a1 : Int).toNat []) := ⟨_, rfl⟩
        replace H : (rows_Split.l0 k a1 y119 l0 (l0.length : Int) 0) = some r := by first | (rw [hy119]; with_reducible exact H) | (have H2_ := (Option.bind_some _ _).symm.trans H; rw [hy119]; with_reducible exact H2_) | (have H2_ := (Option.bind_some _ _).symm.trans H; with_reducible exact H2_) | with_reducible exact H | (rw [hy119]; exact H) | exact H
        have Ny119 := Aside0.mk hy119
        clear hy119
        have H' := Aside0.mk H
        clear H
        go_enter Try.func40, Try.ntmps40
        go_wp2_with (first | ((with_reducible refine gate_dst (N := 12) rfl ?_); refine Kd.S_make (Kd.slice 30 k30) _ 22 rfl (N := 12) rfl 44 _ _ rfl a1 rfl rfl Try.underlying44 (.slice none 0 0) 24 info22 rfl (by decide) (by omega) [] (ok := fun _ => True) (okp := fun _ => True) ⟨_, rfl, Kd.R_nil _ _ _ _ _⟩ (fun _ hk => hk) trivial (of_decide_eq_true (by first | (with_reducible assumption) | assumption)) (Nat.le_trans (Nat.mul_le_mul_right _ (of_decide_eq_true (by first | (with_reducible assumption) | assumption) : a1.toNat ≤ 11728124029610)) (by omega)) (Below.refl _ _) (Nat.le_refl _) ?_; intro v120 w6 ho7 hb hg_ hnew_; clear hg_ hnew_; (first | rw [← Ny119.out] at ho7 | (simp only [Int.reduceToNat] at ho7; rw [← Ny119.out] at ho7)); have n0_ := Aside0.mk (Kd.S_lower ho7 (below_size (by repeat (first | (with_reducible first | exact HB.out | apply below_alloc | apply pw_below_drewN | apply below_drew1) | exact HB.out)))); have n1_ := Aside0.mk (below_step (by repeat (first | (with_reducible first | exact HB.out | apply below_alloc | apply pw_below_drewN | apply below_drew1) | exact HB.out)) hb); clear HB; have HO121 := n0_; have HB := n1_; clear n0_ n1_; clear hb ho7))
        go_loopg [15] k (fun kq v15 w' => ∃ (x5_1 : List (List (S30))) (x15_1 : Int), v15 = .int .i64 x15_1 ∧ Aside0 (rows_Split.l0 kq a1 x5_1 l0 (l0.length : Int) x15_1 = some r) ∧ Aside0 (kq ≤ k) ∧ Aside0 (Kd.S (Kd.slice 30 k30) 22 w' w.heap.size (fun _ => True) v120 x5_1) ∧ Aside0 (Below w.heap.size w w'))
        case atStart => exact ⟨(y119), (0), (by first | rfl | (simp; done) | (simp [*]; done)), H', ⟨Nat.le_refl _⟩, ⟨by (with_reducible repeat (first | apply Kd.S_alloc | apply Kd.S_drewN | apply Kd.S_drew)); exact HO121.out⟩, ⟨by repeat (first | (with_reducible first | exact HB.out | apply below_alloc | apply pw_below_drewN | apply below_drew1) | exact HB.out)⟩⟩
        case round =>
          clear H'
          try clear p2
          try clear c3
          try clear c3b0
          try clear c4
          try clear c4b0
          try clear c4b1
          try clear c5
          try clear c5b0
          try clear c5b1
          obtain ⟨x5_1, x15_1, rfl, HA, HK1, HO_5, HB⟩ := hrel
          cases gk with
          | zero => exact absurd HA.out (by simp [rows_Split.l0])
          | succ k1 =>
            have H := HA.out
            clear HA
            simp only [rows_Split.l0] at H
            by_cases c8 : x15_1 < (l0.length : Int)
            · rw [if_pos c8] at H
              have c8b0 : decide (x15_1 < (l0.length : Int)) = true := decide_eq_true c8
              clear c8
              by_cases c9 : 0 ≤ x15_1
              · rw [if_pos c9] at H
                have c9b0 : decide (0 ≤ x15_1) = true := decide_eq_true c9
                clear c9
                by_cases c10 : x15_1 < (l0.length : Int)
                · rw [if_pos c10] at H
                  have c10b0 : decide (x15_1 < (l0.length : Int)) = true := decide_eq_true c10
                  clear c10
                  replace H := Option.bind_eq_some_iff.mp H
                  obtain ⟨t124, A110, H⟩ := H
                  replace H : (if 0 ≤ t124 then (if t124 < (x5_1.length : Int) then (if (rd_L2 x5_1 t124).length < 8796093022208 then (rows_Split.l0 k1 a1 (x5_1.set (t124 : Int).toNat ((rd_L2 x5_1 t124) ++ [(⟨(rd_T30 l0 x15_1).f0, (rd_T30 l0 x15_1).f1⟩ : S30)])) l0 (l0.length : Int) (wrap64 (x15_1 + 1))) else (none)) else (none)) else (none)) = some r := H
                  have A11 := Aside0.mk A110
                  clear A110
                  by_cases c12 : 0 ≤ t124
                  · rw [if_pos c12] at H
                    have c12b0 : decide (0 ≤ t124) = true := decide_eq_true c12
                    clear c12
                    by_cases c13 : t124 < (x5_1.length : Int)
                    · rw [if_pos c13] at H
                      have c13b0 : decide (t124 < (x5_1.length : Int)) = true := decide_eq_true c13
                      clear c13
                      by_cases c14 : (rd_L2 x5_1 t124).length < 8796093022208
                      · rw [if_pos c14] at H
                        have LMc14 := Aside0.mk c14
                        clear c14
                        obtain ⟨y126, hy126⟩ : ∃ y_ : List (S30), y_ = ((rd_L2 x5_1 t124) ++ [(⟨(rd_T30 l0 x15_1).f0, (rd_T30 l0 x15_1).f1⟩ : S30)]) := ⟨_, rfl⟩
                        replace H : (rows_Split.l0 k1 a1 (x5_1.set (t124 : Int).toNat y126) l0 (l0.length : Int) (wrap64 (x15_1 + 1))) = some r := by first | (rw [hy126]; with_reducible exact H) | (have H2_ := (Option.bind_some _ _).symm.trans H; rw [hy126]; with_reducible exact H2_) | (have H2_ := (Option.bind_some _ _).symm.trans H; with_reducible exact H2_) | with_reducible exact H | (rw [hy126]; exact H) | exact H
                        have Ny126 := Aside0.mk hy126
                        clear hy126
                        obtain ⟨y129, hy129⟩ : ∃ y_ : List (List (S30)), y_ = (x5_1.set (t124 : Int).toNat y126) := ⟨_, rfl⟩
                        replace H : (rows_Split.l0 k1 a1 y129 l0 (l0.length : Int) (wrap64 (x15_1 + 1))) = some r := by first | (rw [hy129]; with_reducible exact H) | (have H2_ := (Option.bind_some _ _).symm.trans H; rw [hy129]; with_reducible exact H2_) | (have H2_ := (Option.bind_some _ _).symm.trans H; with_reducible exact H2_) | with_reducible exact H | (rw [hy129]; exact H) | exact H
                        have Ny129 := Aside0.mk hy129
                        clear hy129
                        have H' := Aside0.mk H
                        clear H
                        have p122 : 0 ≤ (x15_1 : Int) := of_decide_eq_true (by first | (with_reducible assumption) | assumption)
                        have q122 : x15_1 < (l0.length : Int) := of_decide_eq_true (by first | (with_reducible assumption) | assumption)
                        obtain ⟨ad122, e122, hx122_0, hx122_1⟩ := at_T30 HR0.out x15_1 p122 q122
                        cases e122
                        replace hx122_0 := (HB.out.cell (World.block_lt_of_cell? w _ hx122_0)).trans hx122_0
                        replace hx122_1 := (HB.out.cell (World.block_lt_of_cell? w _ hx122_1)).trans hx122_1
                        replace p122 := eq_true p122
                        replace q122 := eq_true q122
                        try go_wp2_with (first | ((with_reducible refine gate_dst (N := 7) rfl ?_); refine box_event ?hg (N := 7) ?hd (cs := #[.int .i64 0, .int .i64 0]) (t := 30) ?hr ?_; (case hd => rfl); (case hg => rfl); (case hr => first | (go_simp; done) | (go_simp; rfl)); intro gb123 hg w16 hbox hb; have n0_ := Aside0.mk (Kd.S_below (Kd.S_elderB (by (with_reducible repeat (first | apply Kd.S_alloc | apply Kd.S_drewN | apply Kd.S_drew)); exact HO_5.out) gb123 (Nat.le_of_eq hg.symm)) hb); have n1_ := Aside0.mk (below_step (by repeat (first | (with_reducible first | exact HB.out | apply below_alloc | apply pw_below_drewN | apply below_drew1) | exact HB.out)) hb); have n2_ := Aside0.mk (hbox); have n3_ := Aside0.mk ((by rw [hg]; exact (below_size (by repeat (first | (with_reducible first | exact HB.out | apply below_alloc | apply pw_below_drewN | apply below_drew1) | exact HB.out))) : w.heap.size ≤ gb123)); have n4_ := Aside0.mk ((by rw [hg]; exact (below_size (by repeat (first | (with_reducible first | exact HB.out | apply below_alloc | apply pw_below_drewN | apply below_drew1) | exact HB.out))) : w.heap.size ≤ gb123)); clear HO_5; clear HB; have HO_5 := n0_; have HB := n1_; have BK123 := n2_; have GW123 := n3_; have GE123 := n4_; clear n0_ n1_ n2_ n3_ n4_; clear hb hbox hg; have hcz17_0 : w16.cell? ⟨gb123, 0, none⟩ = some (.int .i64 0) := (blk_cell BK123.out 0).trans rfl; have hcz17_1 : w16.cell? ⟨gb123, 1, none⟩ = some (.int .i64 0) := (blk_cell BK123.out 1).trans rfl; have hfz17_0 := blk_frozen BK123.out 0; have hfz17_1 := blk_frozen BK123.out 1) | ((with_reducible refine gate_callee (f := 28) rfl ?_); refine goesL_ (some 22) rfl rfl Try.func28 (by kernel_rfl) rfl #[.int .i64 ((rd_T30 l0 x15_1).f0), .int .i64 a1] rfl (by (try simp only [List.map_toArray, List.map_cons, List.map_nil]); first | done | rfl | (simp only [List.length_drop, List.length_take]; rfl)) ?_; (with_reducible refine (rows_Part.calls ((rd_T30 l0 x15_1).f0) a1 t124 _ A11.out).mono ?_); rintro e w' ⟨rfl, ⟨nd, rfl⟩⟩; refine ⟨_, rfl, ?_⟩))
                        have n0_ : Aside0 (Kd.S (Kd.slice 30 k30) 22 ((w16.setCell ⟨gb123, 0, none⟩ (.int .i64 ((rd_T30 l0 x15_1).f0))).setCell ⟨gb123, 1, none⟩ (.int .i64 ((rd_T30 l0 x15_1).f1))) w.heap.size (fun k_ => k_ ≠ gb123) v120 x5_1) := ⟨by (with_reducible repeat (first | apply Kd.S_alloc | apply Kd.S_drewN | apply Kd.S_drew)); exact Kd.S_mono (Kd.S_far (p := ⟨gb123, 1, none⟩) (Kd.S_far (p := ⟨gb123, 0, none⟩) (Kd.S_mono HO_5.out (fun k_ hk => (⟨hk, hk.2⟩ : _ ∧ k_ ≠ gb123))) (fun _ hk => hk.2) (.int .i64 ((rd_T30 l0 x15_1).f0))) (fun _ hk => hk.2) (.int .i64 ((rd_T30 l0 x15_1).f1))) (fun _ hk => hk.1.2)⟩
                        have n1_ : Aside0 (((w16.setCell ⟨gb123, 0, none⟩ (.int .i64 ((rd_T30 l0 x15_1).f0))).setCell ⟨gb123, 1, none⟩ (.int .i64 ((rd_T30 l0 x15_1).f1))).heap[gb123]? = some (.cells #[.int .i64 ((rd_T30 l0 x15_1).f0), .int .i64 ((rd_T30 l0 x15_1).f1)] 30 (0, 0))) := ⟨by (with_reducible repeat (first | refine blk_drewN ?_ _ | refine blk_drew ?_ | refine blk_alloc ?_ _)); refine blk_put (cs := #[.int .i64 ((rd_T30 l0 x15_1).f0), .int .i64 0]) ?_ 1 _ rfl; (with_reducible repeat (first | refine blk_drewN ?_ _ | refine blk_drew ?_ | refine blk_alloc ?_ _)); refine blk_put (cs := #[.int .i64 0, .int .i64 0]) ?_ 0 _ rfl; (with_reducible repeat (first | refine blk_drewN ?_ _ | refine blk_drew ?_ | refine blk_alloc ?_ _)); exact BK123.out⟩
                        have n2_ : Aside0 (Below w.heap.size w ((w16.setCell ⟨gb123, 0, none⟩ (.int .i64 ((rd_T30 l0 x15_1).f0))).setCell ⟨gb123, 1, none⟩ (.int .i64 ((rd_T30 l0 x15_1).f1)))) := ⟨by repeat (first | (with_reducible first | exact HB.out | apply below_alloc | apply pw_below_drewN | apply below_drew1 | refine below_set ?_ GE123.out) | exact HB.out)⟩
                        (try clear HO_5)
                        (try clear BK123)
                        (try clear HB)
                        generalize ((w16.setCell ⟨gb123, 0, none⟩ (.int .i64 ((rd_T30 l0 x15_1).f0))).setCell ⟨gb123, 1, none⟩ (.int .i64 ((rd_T30 l0 x15_1).f1))) = w18 at n0_ n1_ n2_ ⊢
                        have HO_5 := n0_
                        have BK123 := n1_
                        have HB := n2_
                        clear n0_ n1_ n2_
                        (try (rw [drewN_self w18]; generalize hq_ : World.drewN w18 _ = w18; have n0_ : Aside0 (Kd.S (Kd.slice 30 k30) 22 w18 w.heap.size (fun k_ => k_ ≠ gb123) v120 x5_1) := ⟨by rw [← hq_]; exact (by (with_reducible repeat (first | apply Kd.S_alloc | apply Kd.S_drewN | apply Kd.S_drew)); exact HO_5.out)⟩; have n1_ : Aside0 (w18.heap[gb123]? = some (.cells #[.int .i64 ((rd_T30 l0 x15_1).f0), .int .i64 ((rd_T30 l0 x15_1).f1)] 30 (0, 0))) := ⟨by rw [← hq_]; exact (by (with_reducible repeat (first | refine blk_drewN ?_ _ | refine blk_drew ?_ | refine blk_alloc ?_ _)); exact BK123.out)⟩; have n2_ : Aside0 (Below w.heap.size w w18) := ⟨by rw [← hq_]; exact (by repeat (first | (with_reducible first | exact HB.out | apply below_alloc | apply pw_below_drewN | apply below_drew1 | refine below_set ?_ GE123.out) | exact HB.out))⟩; clear HO_5 BK123 HB hq_; have HO_5 := n0_; have BK123 := n1_; have HB := n2_; clear n0_ n1_ n2_))
                        have n0_ := Aside0.mk (Kd.S_drew HO_5.out)
                        have n1_ := Aside0.mk (blk_drew BK123.out)
                        have n2_ := Aside0.mk (below_drew1 HB.out)
                        clear HO_5
                        clear BK123
                        clear HB
                        have HO_5 := n0_
                        have BK123 := n1_
                        have HB := n2_
                        clear n0_ n1_ n2_
                        obtain ⟨Ao20, co20, eo20⟩ := Kd.S_slice HO_5.out
                        (first | subst eo20 | (injection eo20 with f1_ f2_ f3_; have f4_ := f1_.symm; have f5_ := f3_.symm; clear f1_ f2_ f3_; subst f4_; subst f5_))
                        have p125 : 0 ≤ (t124 : Int) := of_decide_eq_true (by first | (with_reducible assumption) | assumption)
                        have q125 : t124 < (x5_1.length : Int) := of_decide_eq_true (by first | (with_reducible assumption) | assumption)
                        obtain ⟨ad125, A125_0, c125_0, e125, hx125_0, hl125_0, hi125_0⟩ := at_L2 (Kd.S_reads' HO_5.out).2.2 t124 p125 q125
                        cases e125
                        obtain ⟨ce125, hce125, hMe125, hcc125⟩ := Kd.S_get HO_5.out [] t124 p125 (by first | exact q125 | exact of_decide_eq_true (by first | (with_reducible assumption) | assumption) | (have e_ := (Kd.S_reads' HO_5.out).1; omega))
                        obtain ⟨ve125_0, rfl, ge125_0⟩ := hMe125
                        have hv125_0 := hcc125 0 _ rfl
                        rw [Nat.add_zero, show ((Kd.slice 30 k30)).sz = 1 from rfl, Nat.mul_one] at hv125_0
                        replace hv125_0 := Option.some.inj (hv125_0.symm.trans hx125_0)
                        rw [hv125_0] at ge125_0
                        have HL125_0 := Aside0.mk (show Kd.R k30 30 _ _ _ _ (rd_L2 x5_1 t124) from ge125_0)
                        clear hv125_0 ge125_0
                        have HX125_0 := Aside0.mk hx125_0
                        clear hcc125 hce125
                        have HR125_0 := Aside0.mk hi125_0
                        have HC125_0 := Aside0.mk hl125_0
                        clear hi125_0 hl125_0
                        replace p125 := eq_true p125
                        replace q125 := eq_true q125
                        obtain ⟨go21, co21, eo21, gb21, gl21, cl21, HG21⟩ := Kd.S_form HO_5.out (by have h_ : (t124 : Int) < ((x5_1.length : Int) : Int) := of_decide_eq_true (by first | (with_reducible assumption) | assumption); have h2_ : 0 ≤ (t124 : Int) := (of_decide_eq_true (by first | (with_reducible assumption) | assumption)); omega)
                        (first | cases eo21 | (injection eo21 with ea_ en_ ec_; (first | subst ea_ | (injection ea_ with ea_; subst ea_)); subst ec_; clear en_))
                        have GB21 := Aside0.mk gb21
                        have GG21 := Aside0.mk HG21
                        clear gb21 gl21 HG21
                        (first | simp only [add_plain] at hx125_0 | skip)
                        obtain ⟨oki21, ce21, hcl21, hM21, hcc21, _, _, hH21⟩ := Kd.S_elem HO_5.out [] (t124 : Int) (of_decide_eq_true (by first | (with_reducible assumption) | assumption)) (by have h_ : (t124 : Int) < ((x5_1.length : Int) : Int) := of_decide_eq_true (by first | (with_reducible assumption) | assumption); first | exact h_ | (have e_ := (Kd.S_reads' HO_5.out).1; omega) | simpa using h_)
                        obtain ⟨ve21_0, rfl, ge21_0⟩ := hM21
                        have hv21 := hcc21 0 _ rfl
                        have hX21 := HX125_0.out
                        (try simp only [add_plain] at hX21)
                        (try simp only [Nat.add_zero] at hv21)
                        (try rw [show ((Kd.slice 30 k30)).sz = 1 from rfl, Nat.mul_one] at hv21)
                        replace hv21 := Option.some.inj (hv21.symm.trans hX21)
                        subst hv21
                        clear hX21 hcc21 hcl21
                        have UU21 := Aside0.mk (show Kd.R k30 30 _ w.heap.size oki21 (.slice A125_0 (rd_L2 x5_1 t124).length c125_0) (rd_L2 x5_1 t124) from ge21_0)
                        have HH21 := Aside0.mk hH21
                        have HN21 := Aside0.mk (Kd.S_reads' HO_5.out).1
                        clear hH21 ge21_0
                        refine start_ (n := 11) (S := fun w' => w'.cell? ⟨gb123, 0, none⟩ = some (.int .i64 ((rd_T30 l0 x15_1).f0)) ∧ w'.cell? ⟨gb123, 1, none⟩ = some (.int .i64 ((rd_T30 l0 x15_1).f1)) ∧ w'.cell? ⟨go21, (t124).toNat, none⟩ = some (.slice A125_0 (rd_L2 x5_1 t124).length c125_0)) (ds := [10]) #[false, false, false, false, false, false, false, false, false, false, false] (by kernel_rfl) rfl rfl ⟨(blk_cell BK123.out 0).trans rfl, (blk_cell BK123.out 1).trans rfl, hx125_0⟩ (fun hHeld => ?_); refine with_tabW rows_Split.tab8 rows_Split.bits8 (fun HT_ HW_ => ?_)
                        generalize w18.drew = w19 at HO_5 BK123 HB GG21 HH21 HL125_0 HR125_0 HX125_0 UU21 hx125_0 hHeld ⊢
                        refine pure_ (i := 0) (N := some 23) (v := ?_) (a' := ?_) #[true, false, false, false, false, false, false, false, false, false, false] rfl rfl (any_of HT_.out (by kernel_rfl)) (fun _ _ _ h => h) (Or.inl ⟨by rfl, ?_⟩) ?_ ?_
                        rotate_left
                        · intro w'
                          go_simp
                          with_reducible rfl
                        rotate_left
                        · simp only [Act.put, List.setIfInBounds_toArray, List.set_cons_zero, List.set_cons_succ, i64_w, i32_w]
                          rfl
                        refine pure_ (i := 1) (N := some 24) (v := ?_) (a' := ?_) #[true, true, false, false, false, false, false, false, false, false, false] rfl rfl (any_of HT_.out (by kernel_rfl)) (fun _ _ _ h => h) (Or.inl ⟨by rfl, ?_⟩) ?_ ?_
                        rotate_left
                        · intro w'
                          go_simp
                          with_reducible rfl
                        rotate_left
                        · simp only [Act.put, List.setIfInBounds_toArray, List.set_cons_zero, List.set_cons_succ, i64_w, i32_w]
                          rfl
                        refine pure_ (i := 2) (N := some 25) (v := ?_) (a' := ?_) #[true, true, true, false, false, false, false, false, false, false, false] rfl rfl (any_of HT_.out (by kernel_rfl)) (fun _ _ _ h => h) (Or.inl ⟨by rfl, ?_⟩) ?_ ?_
                        rotate_left
                        · intro w'
                          go_simp
                          with_reducible rfl
                        rotate_left
                        · simp only [Act.put, List.setIfInBounds_toArray, List.set_cons_zero, List.set_cons_succ, i64_w, i32_w]
                          rfl
                        refine pure_ (i := 3) (N := some 26) (v := ?_) (a' := ?_) #[true, true, true, true, false, false, false, false, false, false, false] rfl rfl (any_of HT_.out (by kernel_rfl)) (fun _ _ _ h => h) (Or.inl ⟨by rfl, ?_⟩) ?_ ?_
                        rotate_left
                        · intro w'
                          go_simp
                          with_reducible rfl
                        rotate_left
                        · simp only [Act.put, List.setIfInBounds_toArray, List.set_cons_zero, List.set_cons_succ, i64_w, i32_w]
                          rfl
                        refine pure_ (i := 4) (N := some 27) (v := ?_) (a' := ?_) #[true, true, true, true, true, false, false, false, false, false, false] rfl rfl (any_of HT_.out (by kernel_rfl)) (fun _ _ _ h => h) (Or.inl ⟨by rfl, ?_⟩) ?_ ?_
                        rotate_left
                        · intro w'
                          go_simp
                          with_reducible rfl
                        rotate_left
                        · simp only [Act.put, List.setIfInBounds_toArray, List.set_cons_zero, List.set_cons_succ, i64_w, i32_w]
                          rfl
                        refine take_ (i := 5) (N := some 28) (v := ?_) (a' := ?_) #[true, true, true, true, true, true, false, false, false, false, false] rfl rfl (take_ofW HT_.out HW_.out (by kernel_rfl)) (fun _ _ _ h => h) (Or.inl ⟨by rfl, ?_⟩) hHeld ?_ ?_
                        rotate_left
                        · rintro w' ⟨s0, s1, s2⟩
                          go_simp
                          with_reducible rfl
                        rotate_left
                        · simp only [Act.put, List.setIfInBounds_toArray, List.set_cons_zero, List.set_cons_succ, i64_w, i32_w]
                          rfl
                        refine take_ (i := 6) (N := some 29) (v := ?_) (a' := ?_) #[true, true, true, true, true, true, true, false, false, false, false] rfl rfl (take_ofW HT_.out HW_.out (by kernel_rfl)) (fun _ _ _ h => h) (Or.inl ⟨by rfl, ?_⟩) hHeld ?_ ?_
                        rotate_left
                        · rintro w' ⟨s0, s1, s2⟩
                          go_simp
                          with_reducible rfl
                        rotate_left
                        · simp only [Act.put, List.setIfInBounds_toArray, List.set_cons_zero, List.set_cons_succ, i64_w, i32_w]
                          rfl
                        refine one_ (i := 7) (N := some 30) #[true, true, true, true, true, true, true, true, false, false, false] rfl rfl (one_of HT_.out (by kernel_rfl)) (by decide) (fun K hK => ?_)
                        refine value_ (w1 := ?_) (v := ?_) (by rfl) rfl ?_ ?_
                        rotate_left 2
                        · go_simp
                          constructor
                          · rfl
                          · rfl
                        refine hK.out _ _ ⟨(blk_cell (blk_alloc BK123.out _) 0).trans rfl, (blk_cell (blk_alloc BK123.out _) 1).trans rfl, (World.cell?_alloc_lt _ _ _ (World.block_lt_of_cell? _ _ (hHeld.2.2))).trans (hHeld.2.2)⟩ (fun hHeld => ?_)
                        clear hK K
                        refine norm_ (a' := ?_) ?_ ?_
                        rotate_left
                        · show Act.put _ (some 30) _ = _
                          simp only [Act.put, List.setIfInBounds_toArray, List.set_cons_zero, List.set_cons_succ, i64_w, i32_w]
                          rfl
                        refine one_ (i := 8) (N := some 31) #[true, true, true, true, true, true, true, true, true, false, false] rfl rfl (one_of HT_.out (by kernel_rfl)) (by decide) (fun K hK => ?_)
                        refine Kd.R_append_step k30 (w0 := w) w.heap.size (by rfl) (.tmp 28) (.tmp 30) 22 30 (.agg #[(.int .i64 0), (.int .i64 0)]) 16 rfl Try.underlying22 info30 rfl (by decide) (by omega) (.slice A125_0 (rd_L2 x5_1 t124).length c125_0) (rd_L2 x5_1 t124) (⟨(rd_T30 l0 x15_1).f0, (rd_T30 l0 x15_1).f1⟩ : S30) [.int .i64 ((rd_T30 l0 x15_1).f0), .int .i64 ((rd_T30 l0 x15_1).f1)] (fun k_ => oki21 k_ ∨ ((fun k_ => k_ ≠ gb123)) k_ ∧ w19.heap.size ≤ k_) (fun _ => False) rfl rfl ?aP (fun _ hk => hk.elim) ?aF ?aO ?aB ?aS ?aL ?_
                        (case aP => exact k30_mkM _ _ _ (⟨(rd_T30 l0 x15_1).f0, (rd_T30 l0 x15_1).f1⟩ : S30))
                        (case aB => exact (by repeat (first | (with_reducible first | exact HB.out | apply below_alloc | apply pw_below_drewN | apply below_drew1 | refine below_set ?_ GE123.out) | exact HB.out)))
                        (case aF => exact (fun k_ hk => .inr ⟨Kd.freshB (g := gb123) (o := .cells #[.int .i64 ((rd_T30 l0 x15_1).f0), .int .i64 ((rd_T30 l0 x15_1).f1)] 30 (0, 0)) (by (with_reducible repeat (first | refine blk_drewN ?_ _ | refine blk_drew ?_ | refine blk_alloc ?_ _)); exact BK123.out) k_ hk, hk⟩))
                        (case aO => exact (by (with_reducible repeat (first | apply Kd.R_alloc | apply Kd.R_drewN | apply Kd.R_drew)); exact Kd.R_mono UU21.out (fun _ hk => .inl hk)))
                        (case aS => exact (below_size (by repeat (first | (with_reducible first | exact HB.out | apply below_alloc | apply pw_below_drewN | apply below_drew1 | refine below_set ?_ GE123.out) | exact HB.out))))
                        (case aL => have := LMc14.out; omega)
                        intro v127 w22 ho hb hg hat
                        (first | have HS2_ := cell_grown hg (hHeld.2.2) (by first | (rw [add_block]; exact (fun e_ => ((HL125_0.out.1 _ e_.symm).2) rfl)) | (show some (Addr.add _ _).block ≠ _; rw [add_block]; exact (fun e_ => ((HL125_0.out.1 _ e_.symm).2) rfl)) | exact (fun e_ => ((HL125_0.out.1 _ e_.symm).2) rfl)) | have HS2_ := cell_grown hg (cell_unalloc (hHeld.2.2) (by first | (rw [add_block]; exact Kd.S_lt HO_5.out _ rfl) | (show (Addr.add _ _).block < _; rw [add_block]; exact Kd.S_lt HO_5.out _ rfl) | exact Kd.S_lt HO_5.out _ rfl)) (by first | (rw [add_block]; exact (fun e_ => ((HL125_0.out.1 _ e_.symm).2) rfl)) | (show some (Addr.add _ _).block ≠ _; rw [add_block]; exact (fun e_ => ((HL125_0.out.1 _ e_.symm).2) rfl)) | exact (fun e_ => ((HL125_0.out.1 _ e_.symm).2) rfl)))
                        rw [← Ny126.out] at ho
                        have n0_ := Aside0.mk (blk_grown (g := gb123) (o := .cells #[.int .i64 ((rd_T30 l0 x15_1).f0), .int .i64 ((rd_T30 l0 x15_1).f1)] 30 (0, 0)) (by (with_reducible repeat (first | refine blk_drewN ?_ _ | refine blk_drew ?_ | refine blk_alloc ?_ _)); exact BK123.out) hg (Kd.R_away HL125_0.out (fun _ hk => hk.1)))
                        have n1_ := Aside0.mk (hb)
                        have n2_ := Aside0.mk (Kd.H_grown (Kd.H_widen (by repeat (first | exact HH21.out | refine Kd.H_alloc ?_ _ | refine Kd.H_drewN ?_ _ | refine Kd.H_drew ?_))) hg (fun k_ e_ => .inl (UU21.out.1 k_ e_)))
                        have n3_ := Aside0.mk (ho)
                        clear BK123
                        clear HB
                        clear HH21
                        clear HO_5
                        clear UU21
                        clear HL125_0
                        have BK123 := n0_
                        have HB := n1_
                        have HH21 := n2_
                        have HO128 := n3_
                        clear n0_ n1_ n2_ n3_
                        clear ho hb hg hat
                        have p15 : 0 ≤ (t124 : Int) := of_decide_eq_true (by first | (with_reducible assumption) | assumption)
                        have q15 : (t124 : Int) < ((x5_1.length : Int) : Int) := of_decide_eq_true (by first | (with_reducible assumption) | assumption)
                        replace p15 := eq_true p15
                        replace q15 := eq_true q15
                        obtain ⟨Ao25, co25, eo25⟩ := Kd.R_slice HO128.out
                        (first | subst eo25 | (injection eo25 with f1_ f2_ f3_; have f4_ := f1_.symm; have f5_ := f3_.symm; clear f1_ f2_ f3_; subst f4_; subst f5_))
                        obtain ⟨_, _, hraw23, _, _, hcc23, _⟩ := Kd.H_raw HH21.out (of_decide_eq_true (by first | (with_reducible assumption) | assumption)) (by have h_ : (t124 : Int) < ((x5_1.length : Int) : Int) := of_decide_eq_true (by first | (with_reducible assumption) | assumption); first | exact h_ | (have e_ := (HN21.out); omega) | simpa using h_)
                        obtain ⟨_, hfr23⟩ := Kd.H_at HH21.out (of_decide_eq_true (by first | (with_reducible assumption) | assumption)) (by have h_ : (t124 : Int) < ((x5_1.length : Int) : Int) := of_decide_eq_true (by first | (with_reducible assumption) | assumption); first | exact h_ | (have e_ := (HN21.out); omega) | simpa using h_)
                        have hx23_0 := hcc23 0 _ rfl
                        have hf23_0 := hfr23 0
                        (try simp only [Nat.add_zero] at hx23_0 hf23_0)
                        (try rw [show ((Kd.slice 30 k30)).sz = 1 from rfl, Nat.mul_one] at hx23_0)
                        (try rw [show ((Kd.slice 30 k30)).sz = 1 from rfl, Nat.mul_one] at hf23_0)
                        have HP23 := Kd.S_seg0 HH21.out (of_decide_eq_true (by first | (with_reducible assumption) | assumption)) (by have h_ : (t124 : Int) < ((x5_1.length : Int) : Int) := of_decide_eq_true (by first | (with_reducible assumption) | assumption); first | exact h_ | (have e_ := (HN21.out); omega) | simpa using h_) (seg := [.slice Ao25 y126.length co25]) (j := 0) (show 1 ≤ 1 from by decide) (x' := y126) (Kd.M_row HO128.out) (fun _ hk => hk)
                        (try simp only [show ((Kd.slice 30 k30)).sz = 1 from rfl, Nat.mul_one, Nat.add_zero] at HP23)
                        clear hcc23 hfr23
                        have HNB123_go21 := Aside0.mk (show gb123 ≠ go21 from by have h_ := Kd.R_ne hraw23 BK123.out (by decide); intro e_; exact h_ (by rw [e_]; rfl))
                        have HS23 := HP23.1
                        rw [← Ny129.out] at HS23
                        have HQ23 := Aside0.mk HS23
                        obtain ⟨_, hgg23⟩ := Kd.R_typed hraw23 go21 rfl
                        have GG23_ := Aside0.mk hgg23
                        clear HP23 HS23 hgg23
                        refine hK.out _ _ ⟨(blk_cell BK123.out 0).trans rfl, (blk_cell BK123.out 1).trans rfl, HS2_⟩ (fun hHeld => ?_)
                        clear hK K
                        refine norm_ (a' := ?_) ?_ ?_
                        rotate_left
                        · show Act.put _ (some 31) _ = _
                          simp only [Act.put, List.setIfInBounds_toArray, List.set_cons_zero, List.set_cons_succ, i64_w, i32_w]
                          rfl
                        refine pure_ (i := 9) (N := some 32) (v := ?_) (a' := ?_) #[true, true, true, true, true, true, true, true, true, true, false] rfl rfl (any_of HT_.out (by kernel_rfl)) (fun _ _ _ h => h) (Or.inl ⟨by rfl, ?_⟩) ?_ ?_
                        rotate_left
                        · intro w'
                          go_simp
                          with_reducible rfl
                        rotate_left
                        · simp only [Act.put, List.setIfInBounds_toArray, List.set_cons_zero, List.set_cons_succ, i64_w, i32_w]
                          rfl
                        refine last_ (i := 10) (N := none) #[true, true, true, true, true, true, true, true, true, true, true] rfl rfl (one_of HT_.out (by kernel_rfl)) (by decide) (fun K hK => ?_)
                        refine skip_ (w1 := ?_) (by rfl) rfl ?_ ?_
                        rotate_left
                        · go_simp
                          rfl
                        refine hK.out _ _ ?_
                        clear hK K
                        refine done_ (done_of HT_.out (by kernel_rfl)) ?_
                        try go_wp2
                        go_roundg k1
                        case measure => have := HK1.out; omega
                        case rel => exact ⟨(y129), (wrap64 (x15_1 + 1)), (by first | rfl | (simp; done) | (simp [*]; done)), H', ⟨by have := HK1.out; omega⟩, ⟨by (with_reducible repeat (first | apply Kd.S_alloc | apply Kd.S_drewN | apply Kd.S_drew)); exact Kd.S_mono HQ23.out (fun _ hk => trivial)⟩, ⟨by repeat (first | (with_reducible first | exact HB.out | apply below_alloc | apply pw_below_drewN | apply below_drew1 | refine below_set ?_ GB21.out | refine below_set ?_ GE123.out) | exact HB.out)⟩⟩
                      · rw [if_neg c14] at H
                        exact absurd H (by simp)
                    · rw [if_neg c13] at H
                      exact absurd H (by simp)
                  · rw [if_neg c12] at H
                    exact absurd H (by simp)
                · rw [if_neg c10] at H
                  exact absurd H (by simp)
              · rw [if_neg c9] at H
                exact absurd H (by simp)
            · rw [if_neg c8] at H
              have c8b0 : decide (x15_1 < (l0.length : Int)) = false := decide_eq_false c8
              clear c8
              obtain rfl := Option.some.inj H
              go_wp2
              go_ret
              exact ⟨_, by first | rfl | (simp [errW_none, errW_some] <;> rfl) | (simp [*, errW_none, errW_some] <;> rfl), by (with_reducible repeat (first | apply Kd.S_alloc | apply Kd.S_drewN | apply Kd.S_drew)); exact HO_5.out, by repeat (first | (with_reducible first | exact HB.out | apply below_alloc | apply pw_below_drewN | apply below_drew1) | exact HB.out)⟩
      · rw [if_neg c5] at H
        exact absurd H (by simp)
    · rw [if_neg c4] at H
      exact absurd H (by simp)

/-! ### tributarylaw2_told: function 18 -/
def tributarylaw2_told.f (k : Nat)  : Option (Bool) := (rows_Part.f 2 4).bind fun t130 => (if t130 = 1 then ((rows_Part.f (-1) 4).bind fun t131 => (if t131 = 3 then ((rows_Size.f (([(⟨1, 2⟩ : S30)] : List (S30)))).bind fun t135 => (if t135 = 24 then ((rows_Before.f 1 2 0 1 3 0).bind fun t136 => (if t136 = true then ((rows_Split.f k (([(⟨2, 0⟩ : S30)] : List (S30))) 4).bind fun t140 => (some ((t140.length : Int) == 4))) else (some false))) else (some false))) else (some false))) else (some false))
theorem tributarylaw2_told.mono : ∀ k, LeO (tributarylaw2_told.f k ) (tributarylaw2_told.f (k + 1) ) := by
  intro  k
  unfold tributarylaw2_told.f
  repeat' first
      | (with_reducible exact rows_Split.mono _ _ _)
      | (with_reducible exact LeO.refl _)
      | (with_reducible exact LeO.none _)
      | (with_reducible refine LeO.ite ?_ ?_)
      | (with_reducible refine LeO.bind ?_ (fun _ => ?_))
      | exact rows_Split.mono _ _ _
      | exact LeO.none _
      | refine LeO.ite ?_ ?_
      | refine LeO.bind ?_ (fun _ => ?_)
set_option maxHeartbeats 8000000 in
set_option maxRecDepth 100000 in
theorem tributarylaw2_told.calls (k : Nat)  (r : Bool) (w : World) (h : tributarylaw2_told.f k  = some r) :
    Calls Try.prog 18 #[] w fun e w' => e = .returned (.bool r) ∧ Below w.heap.size w w' := by
  have hu30 := Try.underlying30
  have hu65 := Try.underlying65
  have HB := Aside0.mk (Below.refl w.heap.size w)
  have H : ((rows_Part.f 2 4).bind fun t130 => (if t130 = 1 then ((rows_Part.f (-1) 4).bind fun t131 => (if t131 = 3 then ((rows_Size.f (([(⟨1, 2⟩ : S30)] : List (S30)))).bind fun t135 => (if t135 = 24 then ((rows_Before.f 1 2 0 1 3 0).bind fun t136 => (if t136 = true then ((rows_Split.f k (([(⟨2, 0⟩ : S30)] : List (S30))) 4).bind fun t140 => (some ((t140.length : Int) == 4))) else (some false))) else (some false))) else (some false))) else (some false))) = some r := h
  clear h
  replace H := Option.bind_eq_some_iff.mp H
  obtain ⟨t130, A10, H⟩ := H
  replace H : (if t130 = 1 then ((rows_Part.f (-1) 4).bind fun t131 => (if t131 = 3 then ((rows_Size.f (([(⟨1, 2⟩ : S30)] : List (S30)))).bind fun t135 => (if t135 = 24 then ((rows_Before.f 1 2 0 1 3 0).bind fun t136 => (if t136 = true then ((rows_Split.f k (([(⟨2, 0⟩ : S30)] : List (S30))) 4).bind fun t140 => (some ((t140.length : Int) == 4))) else (some false))) else (some false))) else (some false))) else (some false)) = some r := H
  have A1 := Aside0.mk A10
  clear A10
  by_cases c2 : t130 = 1
  · rw [if_pos c2] at H
    have c2b0 : (t130 == 1) = true := beq_iff_eq.mpr c2
    have c2b1 : (t130 != 1) = false := bne_eq_false_iff_eq.mpr c2
    clear c2
    replace H := Option.bind_eq_some_iff.mp H
    obtain ⟨t131, A30, H⟩ := H
    replace H : (if t131 = 3 then ((rows_Size.f (([(⟨1, 2⟩ : S30)] : List (S30)))).bind fun t135 => (if t135 = 24 then ((rows_Before.f 1 2 0 1 3 0).bind fun t136 => (if t136 = true then ((rows_Split.f k (([(⟨2, 0⟩ : S30)] : List (S30))) 4).bind fun t140 => (some ((t140.length : Int) == 4))) else (some false))) else (some false))) else (some false)) = some r := H
    have A3 := Aside0.mk A30
    clear A30
    by_cases c4 : t131 = 3
    · rw [if_pos c4] at H
      have c4b0 : (t131 == 3) = true := beq_iff_eq.mpr c4
      have c4b1 : (t131 != 3) = false := bne_eq_false_iff_eq.mpr c4
      clear c4
      obtain ⟨y132, hy132⟩ : ∃ y_ : List (S30), y_ = (([(⟨1, 2⟩ : S30)] : List (S30))) := ⟨_, rfl⟩
      replace H : ((rows_Size.f y132).bind fun t135 => (if t135 = 24 then ((rows_Before.f 1 2 0 1 3 0).bind fun t136 => (if t136 = true then ((rows_Split.f k (([(⟨2, 0⟩ : S30)] : List (S30))) 4).bind fun t140 => (some ((t140.length : Int) == 4))) else (some false))) else (some false))) = some r := by first | (rw [hy132]; with_reducible exact H) | (have H2_ := (Option.bind_some _ _).symm.trans H; rw [hy132]; with_reducible exact H2_) | (have H2_ := (Option.bind_some _ _).symm.trans H; with_reducible exact H2_) | with_reducible exact H | (rw [hy132]; exact H) | exact H
      have Ny132 := Aside0.mk hy132
      clear hy132
      replace H := Option.bind_eq_some_iff.mp H
      obtain ⟨t135, A50, H⟩ := H
      replace H : (if t135 = 24 then ((rows_Before.f 1 2 0 1 3 0).bind fun t136 => (if t136 = true then ((rows_Split.f k (([(⟨2, 0⟩ : S30)] : List (S30))) 4).bind fun t140 => (some ((t140.length : Int) == 4))) else (some false))) else (some false)) = some r := H
      have A5 := Aside0.mk A50
      clear A50
      by_cases c6 : t135 = 24
      · rw [if_pos c6] at H
        have c6b0 : (t135 == 24) = true := beq_iff_eq.mpr c6
        have c6b1 : (t135 != 24) = false := bne_eq_false_iff_eq.mpr c6
        clear c6
        replace H := Option.bind_eq_some_iff.mp H
        obtain ⟨t136, A70, H⟩ := H
        replace H : (if t136 = true then ((rows_Split.f k (([(⟨2, 0⟩ : S30)] : List (S30))) 4).bind fun t140 => (some ((t140.length : Int) == 4))) else (some false)) = some r := H
        have A7 := Aside0.mk A70
        clear A70
        by_cases c8 : t136 = true
        · subst c8
          have H1 : ((rows_Split.f k (([(⟨2, 0⟩ : S30)] : List (S30))) 4).bind fun t140 => (some ((t140.length : Int) == 4))) = some r := by rw [if_pos rfl] at H; exact H
          clear H
          have H := H1
          clear H1
          obtain ⟨y137, hy137⟩ : ∃ y_ : List (S30), y_ = (([(⟨2, 0⟩ : S30)] : List (S30))) := ⟨_, rfl⟩
          replace H : ((rows_Split.f k y137 4).bind fun t140 => (some ((t140.length : Int) == 4))) = some r := by first | (rw [hy137]; with_reducible exact H) | (have H2_ := (Option.bind_some _ _).symm.trans H; rw [hy137]; with_reducible exact H2_) | (have H2_ := (Option.bind_some _ _).symm.trans H; with_reducible exact H2_) | with_reducible exact H | (rw [hy137]; exact H) | exact H
          have Ny137 := Aside0.mk hy137
          clear hy137
          replace H := Option.bind_eq_some_iff.mp H
          obtain ⟨t140, A90, H⟩ := H
          replace H : (some ((t140.length : Int) == 4)) = some r := H
          have A9 := Aside0.mk A90
          clear A90
          obtain rfl := Option.some.inj H
          go_enter Try.func18, Try.ntmps18
          go_wp2_with (first | ((with_reducible refine gate_callee (f := 28) rfl ?_); refine goesL_ (some 1) rfl rfl Try.func28 (by kernel_rfl) rfl #[.int .i64 2, .int .i64 4] rfl (by (try simp only [List.map_toArray, List.map_cons, List.map_nil]); first | done | rfl | (simp only [List.length_drop, List.length_take]; rfl)) ?_; (with_reducible refine (rows_Part.calls 2 4 t130 _ A1.out).mono ?_); rintro e w' ⟨rfl, ⟨nd, rfl⟩⟩; refine ⟨_, rfl, ?_⟩) | (go_at_call 28; (with_reducible refine (rows_Part.calls (-1) 4 t131 _ A3.out).mono ?_); rintro e w' ⟨rfl, ⟨nd, rfl⟩⟩) | ((with_reducible refine gate_dst (N := 9) rfl ?_); (try (refine gate_guard (by rfl) ?_; dsimp only)); refine Kd.R_lit k30 _ 30 ?hg (N := 9) ?hd (xs := ([(⟨1, 2⟩ : S30)] : List (S30))) (inner := [.int .i64 1, .int .i64 2]) (ok := fun _ => True) (okp := fun _ => True) ?hr ?hp (fun _ hk => hk) trivial (Below.refl _ _) (Nat.le_refl _) (by simp) ?_; (case hd => rfl); (case hg => rfl); (case hr => first | (go_simp; done) | (go_simp; rfl)); (case hp => exact (Reps.c2 (show Kd.M k30 _ _ _ (⟨1, 2⟩ : S30) [.int .i64 1, .int .i64 2] from (k30_mkM _ _ _ (⟨1, 2⟩ : S30) )) (Reps.none _ _))); intro v133 w10 ho11 hb hg_ hnew_; clear hg_ hnew_; (first | rw [← Ny132.out] at ho11 | (simp only [Int.reduceToNat] at ho11; rw [← Ny132.out] at ho11)); have n0_ := Aside0.mk (Kd.R_lower ho11 (below_size (by repeat (first | (with_reducible first | exact HB.out | apply below_alloc | apply pw_below_drewN | apply below_drew1) | exact HB.out)))); have n1_ := Aside0.mk (below_step (by repeat (first | (with_reducible first | exact HB.out | apply below_alloc | apply pw_below_drewN | apply below_drew1) | exact HB.out)) hb); clear HB; have HO134 := n0_; have HB := n1_; clear n0_ n1_; clear hb ho11; obtain ⟨Ao12, co12, eo12⟩ := Kd.R_slice HO134.out; subst eo12) | (go_at_call 38; (with_reducible refine (rows_Size.calls _ _ y132 t135 _ ?side1 ?side2 A5.out).mono ?_); (case side1 => repeat (first | exact (Kd.R_reads' HO134.out).2.2 | (with_reducible refine Kd.C_alloc ?_ _) | (with_reducible refine Kd.C_drewN ?_ _) | (with_reducible refine Kd.C_drew ?_))); (case side2 => exact (Kd.R_reads' HO134.out).2.1); rintro e w' ⟨rfl, ⟨nd, rfl⟩⟩) | (go_at_call 39; (with_reducible refine (rows_Before.calls 1 2 0 1 3 0 true _ A7.out).mono ?_); rintro e w13 ⟨rfl, hb⟩; have n0_ := Aside0.mk (Kd.R_below (by (with_reducible repeat (first | apply Kd.R_alloc | apply Kd.R_drewN | apply Kd.R_drew)); exact HO134.out) hb); have n1_ := Aside0.mk (below_step (by repeat (first | (with_reducible first | exact HB.out | apply below_alloc | apply pw_below_drewN | apply below_drew1) | exact HB.out)) hb); clear HO134; clear HB; have HO134 := n0_; have HB := n1_; clear n0_ n1_; (try clear hb); (try clear hb2); (try clear hk); (try clear hi)) | ((with_reducible refine gate_dst (N := 20) rfl ?_); (try (refine gate_guard (by rfl) ?_; dsimp only)); refine Kd.R_lit k30 _ 30 ?hg (N := 20) ?hd (xs := ([(⟨2, 0⟩ : S30)] : List (S30))) (inner := [.int .i64 2, .int .i64 0]) (ok := fun _ => True) (okp := fun _ => True) ?hr ?hp (fun _ hk => hk) trivial (Below.refl _ _) (Nat.le_refl _) (by simp) ?_; (case hd => rfl); (case hg => rfl); (case hr => first | (go_simp; done) | (go_simp; rfl)); (case hp => exact (Reps.c2 (show Kd.M k30 _ _ _ (⟨2, 0⟩ : S30) [.int .i64 2, .int .i64 0] from (k30_mkM _ _ _ (⟨2, 0⟩ : S30) )) (Reps.none _ _))); intro v138 w14 ho15 hb hg_ hnew_; clear hg_ hnew_; (first | rw [← Ny137.out] at ho15 | (simp only [Int.reduceToNat] at ho15; rw [← Ny137.out] at ho15)); have n0_ := Aside0.mk (Kd.R_elder' (by (with_reducible repeat (first | apply Kd.R_alloc | apply Kd.R_drewN | apply Kd.R_drew)); exact HO134.out) (Kd.R_base ho15) hb); have n1_ := Aside0.mk (Kd.R_lower (Kd.R_new' ho15 (Kd.R_lt (by (with_reducible repeat (first | apply Kd.R_alloc | apply Kd.R_drewN | apply Kd.R_drew)); exact HO134.out))) (below_size (by repeat (first | (with_reducible first | exact HB.out | apply below_alloc | apply pw_below_drewN | apply below_drew1) | exact HB.out)))); have n2_ := Aside0.mk (below_step (by repeat (first | (with_reducible first | exact HB.out | apply below_alloc | apply pw_below_drewN | apply below_drew1) | exact HB.out)) hb); clear HO134; clear HB; have HO134 := n0_; have HO139 := n1_; have HB := n2_; clear n0_ n1_ n2_; clear hb ho15; obtain ⟨Ao16, co16, eo16⟩ := Kd.R_slice HO139.out; subst eo16) | (go_at_call 40; (with_reducible refine (rows_Split.calls k _ _ y137 4 t140 _ ?side1 ?side2 A9.out).mono ?_); (case side1 => repeat (first | exact (Kd.R_reads' HO139.out).2.2 | (with_reducible refine Kd.C_alloc ?_ _) | (with_reducible refine Kd.C_drewN ?_ _) | (with_reducible refine Kd.C_drew ?_))); (case side2 => exact (Kd.R_reads' HO139.out).2.1); rintro e w17 ⟨v141, rfl, ho0, hb⟩; have n0_ := Aside0.mk (Kd.R_below (by (with_reducible repeat (first | apply Kd.R_alloc | apply Kd.R_drewN | apply Kd.R_drew)); exact HO134.out) hb); have n1_ := Aside0.mk (Kd.R_below (by (with_reducible repeat (first | apply Kd.R_alloc | apply Kd.R_drewN | apply Kd.R_drew)); exact HO139.out) hb); have n2_ := Aside0.mk (Kd.S_lower (Kd.S_new' (Kd.S_new' ho0 (Kd.R_lt (by (with_reducible repeat (first | apply Kd.R_alloc | apply Kd.R_drewN | apply Kd.R_drew)); exact HO134.out))) (Kd.R_lt (by (with_reducible repeat (first | apply Kd.R_alloc | apply Kd.R_drewN | apply Kd.R_drew)); exact HO139.out))) (below_size (by repeat (first | (with_reducible first | exact HB.out | apply below_alloc | apply pw_below_drewN | apply below_drew1) | exact HB.out)))); have n3_ := Aside0.mk (below_step (by repeat (first | (with_reducible first | exact HB.out | apply below_alloc | apply pw_below_drewN | apply below_drew1) | exact HB.out)) hb); clear HO134; clear HO139; clear HB; have HO134 := n0_; have HO139 := n1_; have HO142 := n2_; have HB := n3_; clear n0_ n1_ n2_ n3_; (try clear hb); (try clear hb2); (try clear hk); (try clear hi); (try clear ho0); obtain ⟨Ao18, co18, eo18⟩ := Kd.S_slice HO142.out; subst eo18))
          go_ret
          exact ⟨by first | rfl | (simp [errW_none, errW_some] <;> rfl) | (simp [*, errW_none, errW_some] <;> rfl), by repeat (first | (with_reducible first | exact HB.out | apply below_alloc | apply pw_below_drewN | apply below_drew1) | exact HB.out)⟩
        · replace c8 := Bool.eq_false_iff.mpr c8
          subst c8
          have H1 : (some false) = some r := by rw [if_neg (show ¬ (false = true) by decide)] at H; exact H
          clear H
          have H := H1
          clear H1
          obtain rfl := Option.some.inj H
          go_enter Try.func18, Try.ntmps18
          go_wp2_with (first | ((with_reducible refine gate_callee (f := 28) rfl ?_); refine goesL_ (some 1) rfl rfl Try.func28 (by kernel_rfl) rfl #[.int .i64 2, .int .i64 4] rfl (by (try simp only [List.map_toArray, List.map_cons, List.map_nil]); first | done | rfl | (simp only [List.length_drop, List.length_take]; rfl)) ?_; (with_reducible refine (rows_Part.calls 2 4 t130 _ A1.out).mono ?_); rintro e w' ⟨rfl, ⟨nd, rfl⟩⟩; refine ⟨_, rfl, ?_⟩) | (go_at_call 28; (with_reducible refine (rows_Part.calls (-1) 4 t131 _ A3.out).mono ?_); rintro e w' ⟨rfl, ⟨nd, rfl⟩⟩) | ((with_reducible refine gate_dst (N := 9) rfl ?_); (try (refine gate_guard (by rfl) ?_; dsimp only)); refine Kd.R_lit k30 _ 30 ?hg (N := 9) ?hd (xs := ([(⟨1, 2⟩ : S30)] : List (S30))) (inner := [.int .i64 1, .int .i64 2]) (ok := fun _ => True) (okp := fun _ => True) ?hr ?hp (fun _ hk => hk) trivial (Below.refl _ _) (Nat.le_refl _) (by simp) ?_; (case hd => rfl); (case hg => rfl); (case hr => first | (go_simp; done) | (go_simp; rfl)); (case hp => exact (Reps.c2 (show Kd.M k30 _ _ _ (⟨1, 2⟩ : S30) [.int .i64 1, .int .i64 2] from (k30_mkM _ _ _ (⟨1, 2⟩ : S30) )) (Reps.none _ _))); intro v133 w19 ho20 hb hg_ hnew_; clear hg_ hnew_; (first | rw [← Ny132.out] at ho20 | (simp only [Int.reduceToNat] at ho20; rw [← Ny132.out] at ho20)); have n0_ := Aside0.mk (Kd.R_lower ho20 (below_size (by repeat (first | (with_reducible first | exact HB.out | apply below_alloc | apply pw_below_drewN | apply below_drew1) | exact HB.out)))); have n1_ := Aside0.mk (below_step (by repeat (first | (with_reducible first | exact HB.out | apply below_alloc | apply pw_below_drewN | apply below_drew1) | exact HB.out)) hb); clear HB; have HO134 := n0_; have HB := n1_; clear n0_ n1_; clear hb ho20; obtain ⟨Ao21, co21, eo21⟩ := Kd.R_slice HO134.out; subst eo21) | (go_at_call 38; (with_reducible refine (rows_Size.calls _ _ y132 t135 _ ?side1 ?side2 A5.out).mono ?_); (case side1 => repeat (first | exact (Kd.R_reads' HO134.out).2.2 | (with_reducible refine Kd.C_alloc ?_ _) | (with_reducible refine Kd.C_drewN ?_ _) | (with_reducible refine Kd.C_drew ?_))); (case side2 => exact (Kd.R_reads' HO134.out).2.1); rintro e w' ⟨rfl, ⟨nd, rfl⟩⟩) | (go_at_call 39; (with_reducible refine (rows_Before.calls 1 2 0 1 3 0 false _ A7.out).mono ?_); rintro e w22 ⟨rfl, hb⟩; have n0_ := Aside0.mk (Kd.R_below (by (with_reducible repeat (first | apply Kd.R_alloc | apply Kd.R_drewN | apply Kd.R_drew)); exact HO134.out) hb); have n1_ := Aside0.mk (below_step (by repeat (first | (with_reducible first | exact HB.out | apply below_alloc | apply pw_below_drewN | apply below_drew1) | exact HB.out)) hb); clear HO134; clear HB; have HO134 := n0_; have HB := n1_; clear n0_ n1_; (try clear hb); (try clear hb2); (try clear hk); (try clear hi)))
          go_ret
          exact ⟨by first | rfl | (simp [errW_none, errW_some] <;> rfl) | (simp [*, errW_none, errW_some] <;> rfl), by repeat (first | (with_reducible first | exact HB.out | apply below_alloc | apply pw_below_drewN | apply below_drew1) | exact HB.out)⟩
      · rw [if_neg c6] at H
        have c6b0 : (t135 == 24) = false := beq_eq_false_iff_ne.mpr c6
        have c6b1 : (t135 != 24) = true := bne_iff_ne.mpr c6
        obtain rfl := Option.some.inj H
        go_enter Try.func18, Try.ntmps18
        go_wp2_with (first | ((with_reducible refine gate_callee (f := 28) rfl ?_); refine goesL_ (some 1) rfl rfl Try.func28 (by kernel_rfl) rfl #[.int .i64 2, .int .i64 4] rfl (by (try simp only [List.map_toArray, List.map_cons, List.map_nil]); first | done | rfl | (simp only [List.length_drop, List.length_take]; rfl)) ?_; (with_reducible refine (rows_Part.calls 2 4 t130 _ A1.out).mono ?_); rintro e w' ⟨rfl, ⟨nd, rfl⟩⟩; refine ⟨_, rfl, ?_⟩) | (go_at_call 28; (with_reducible refine (rows_Part.calls (-1) 4 t131 _ A3.out).mono ?_); rintro e w' ⟨rfl, ⟨nd, rfl⟩⟩) | ((with_reducible refine gate_dst (N := 9) rfl ?_); (try (refine gate_guard (by rfl) ?_; dsimp only)); refine Kd.R_lit k30 _ 30 ?hg (N := 9) ?hd (xs := ([(⟨1, 2⟩ : S30)] : List (S30))) (inner := [.int .i64 1, .int .i64 2]) (ok := fun _ => True) (okp := fun _ => True) ?hr ?hp (fun _ hk => hk) trivial (Below.refl _ _) (Nat.le_refl _) (by simp) ?_; (case hd => rfl); (case hg => rfl); (case hr => first | (go_simp; done) | (go_simp; rfl)); (case hp => exact (Reps.c2 (show Kd.M k30 _ _ _ (⟨1, 2⟩ : S30) [.int .i64 1, .int .i64 2] from (k30_mkM _ _ _ (⟨1, 2⟩ : S30) )) (Reps.none _ _))); intro v133 w23 ho24 hb hg_ hnew_; clear hg_ hnew_; (first | rw [← Ny132.out] at ho24 | (simp only [Int.reduceToNat] at ho24; rw [← Ny132.out] at ho24)); have n0_ := Aside0.mk (Kd.R_lower ho24 (below_size (by repeat (first | (with_reducible first | exact HB.out | apply below_alloc | apply pw_below_drewN | apply below_drew1) | exact HB.out)))); have n1_ := Aside0.mk (below_step (by repeat (first | (with_reducible first | exact HB.out | apply below_alloc | apply pw_below_drewN | apply below_drew1) | exact HB.out)) hb); clear HB; have HO134 := n0_; have HB := n1_; clear n0_ n1_; clear hb ho24; obtain ⟨Ao25, co25, eo25⟩ := Kd.R_slice HO134.out; subst eo25) | (go_at_call 38; (with_reducible refine (rows_Size.calls _ _ y132 t135 _ ?side1 ?side2 A5.out).mono ?_); (case side1 => repeat (first | exact (Kd.R_reads' HO134.out).2.2 | (with_reducible refine Kd.C_alloc ?_ _) | (with_reducible refine Kd.C_drewN ?_ _) | (with_reducible refine Kd.C_drew ?_))); (case side2 => exact (Kd.R_reads' HO134.out).2.1); rintro e w' ⟨rfl, ⟨nd, rfl⟩⟩))
        go_ret
        exact ⟨by first | rfl | (simp [errW_none, errW_some] <;> rfl) | (simp [*, errW_none, errW_some] <;> rfl), by repeat (first | (with_reducible first | exact HB.out | apply below_alloc | apply pw_below_drewN | apply below_drew1) | exact HB.out)⟩
    · rw [if_neg c4] at H
      have c4b0 : (t131 == 3) = false := beq_eq_false_iff_ne.mpr c4
      have c4b1 : (t131 != 3) = true := bne_iff_ne.mpr c4
      obtain rfl := Option.some.inj H
      go_enter Try.func18, Try.ntmps18
      go_wp2_with (first | ((with_reducible refine gate_callee (f := 28) rfl ?_); refine goesL_ (some 1) rfl rfl Try.func28 (by kernel_rfl) rfl #[.int .i64 2, .int .i64 4] rfl (by (try simp only [List.map_toArray, List.map_cons, List.map_nil]); first | done | rfl | (simp only [List.length_drop, List.length_take]; rfl)) ?_; (with_reducible refine (rows_Part.calls 2 4 t130 _ A1.out).mono ?_); rintro e w' ⟨rfl, ⟨nd, rfl⟩⟩; refine ⟨_, rfl, ?_⟩) | (go_at_call 28; (with_reducible refine (rows_Part.calls (-1) 4 t131 _ A3.out).mono ?_); rintro e w' ⟨rfl, ⟨nd, rfl⟩⟩))
      go_ret
      exact ⟨by first | rfl | (simp [errW_none, errW_some] <;> rfl) | (simp [*, errW_none, errW_some] <;> rfl), by repeat (first | (with_reducible first | exact HB.out | apply below_alloc | apply pw_below_drewN | apply below_drew1) | exact HB.out)⟩
  · rw [if_neg c2] at H
    have c2b0 : (t130 == 1) = false := beq_eq_false_iff_ne.mpr c2
    have c2b1 : (t130 != 1) = true := bne_iff_ne.mpr c2
    obtain rfl := Option.some.inj H
    go_enter Try.func18, Try.ntmps18
    go_wp2_with (first | ((with_reducible refine gate_callee (f := 28) rfl ?_); refine goesL_ (some 1) rfl rfl Try.func28 (by kernel_rfl) rfl #[.int .i64 2, .int .i64 4] rfl (by (try simp only [List.map_toArray, List.map_cons, List.map_nil]); first | done | rfl | (simp only [List.length_drop, List.length_take]; rfl)) ?_; (with_reducible refine (rows_Part.calls 2 4 t130 _ A1.out).mono ?_); rintro e w' ⟨rfl, ⟨nd, rfl⟩⟩; refine ⟨_, rfl, ?_⟩))
    go_ret
    exact ⟨by first | rfl | (simp [errW_none, errW_some] <;> rfl) | (simp [*, errW_none, errW_some] <;> rfl), by repeat (first | (with_reducible first | exact HB.out | apply below_alloc | apply pw_below_drewN | apply below_drew1) | exact HB.out)⟩

/-- THE ONE PURE STATEMENT of tributarylaw2_told: yours. -/
def tributarylaw2_told.Pure : Prop := ∃ k, tributarylaw2_told.f k  = some true
theorem tributarylaw2_told.walk (P : tributarylaw2_told.Pure)  (w : World)  :
    Calls Try.prog 18 #[] w fun e w' => e = .returned (.bool true) ∧ Below w.heap.size w w' := by
  obtain ⟨k, h⟩ := P  
  refine (tributarylaw2_told.calls k  true w h).mono ?_
  rintro e w' ⟨rfl, hd⟩
  exact ⟨rfl, hd⟩

-- NOT PRINTED: function 16 (tributaryref2_Groups)

-- NOT PRINTED: function 17 (rows_Groups)


end Go.Proofs.Ytbbjkgpilmcldaa.PRg
