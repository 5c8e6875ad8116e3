-- written by a program of this session, a turned copy of the print tool
import Derived.Test.YtlhjjjpldmekdaaDoorPFnx0
import Derived.Test.YtlhjjjpldmekdaaDoorPFnx2
namespace Go.Proofs.YtlhjjjpldmekdaaDoor.PFn
open Go.RowKit Go.Proofs.YtlhjjjpldmekdaaDoorW.PrintWords Go.Proofs.YtlhjjjpldmekdaaDoorW.PrintLast Go.Proofs.YtlhjjjpldmekdaaDoorW.PrintMore
attribute [local go_sem] max2_int min2_int max_two min_two max_three min_three max_four min_four   -- for this text's walks alone
set_option linter.unusedVariables false
set_option linter.unusedSimpArgs false

/-! ### log_head: function 80 -/
def log_head.f (k : Nat) (a0 : Int) (a1 : Int) (a2 : Bool) : Option (List Int) := if a2 = true then ((wire_Int.f k a0).bind fun t162 => ((wire_Int.f k a1).bind fun t165 => (if t162.length + t165.length < 140737488355328 then ((some (t162 ++ t165 : List Int)).bind fun y168 => ((wire_Int.f k 1).bind fun t171 => (if y168.length + t171.length < 140737488355328 then (some (y168 ++ t171)) else (none)))) else (none)))) else ((wire_Int.f k a0).bind fun t177 => ((wire_Int.f k a1).bind fun t180 => (if t177.length + t180.length < 140737488355328 then ((some (t177 ++ t180 : List Int)).bind fun y183 => ((wire_Int.f k 0).bind fun t186 => (if y183.length + t186.length < 140737488355328 then (some (y183 ++ t186)) else (none)))) else (none))))
theorem log_head.mono : ∀ a0 a1 a2 k, LeO (log_head.f k a0 a1 a2) (log_head.f (k + 1) a0 a1 a2) := by
  intro a0 a1 a2 k
  unfold log_head.f
  repeat' first
      | (with_reducible exact wire_Int.mono _ _)
      | (with_reducible exact LeO.refl _)
      | (with_reducible exact LeO.none _)
      | (with_reducible refine LeO.ite ?_ ?_)
      | (with_reducible refine LeO.bind ?_ (fun _ => ?_))
      | exact wire_Int.mono _ _
      | exact LeO.none _
      | refine LeO.ite ?_ ?_
      | refine LeO.bind ?_ (fun _ => ?_)
set_option maxHeartbeats 8000000 in
set_option maxRecDepth 100000 in
theorem log_head.calls (k : Nat) (a0 : Int) (a1 : Int) (a2 : Bool) (r : List Int) (w : World) (h : log_head.f k a0 a1 a2 = some r) :
    Calls Tryd.prog 80 #[.int .i64 a0, .int .i64 a1, .bool a2] w fun e w' => ∃ v0_ : Value, e = .returned (v0_) ∧ Kd.R (Kd.int .u8) 5 w' w.heap.size (fun _ => True) v0_ r ∧ Below w.heap.size w w' := by
  have HB := Aside0.mk (Below.refl w.heap.size w)
  have H : (if a2 = true then ((wire_Int.f k a0).bind fun t162 => ((wire_Int.f k a1).bind fun t165 => (if t162.length + t165.length < 140737488355328 then ((some (t162 ++ t165 : List Int)).bind fun y168 => ((wire_Int.f k 1).bind fun t171 => (if y168.length + t171.length < 140737488355328 then (some (y168 ++ t171)) else (none)))) else (none)))) else ((wire_Int.f k a0).bind fun t177 => ((wire_Int.f k a1).bind fun t180 => (if t177.length + t180.length < 140737488355328 then ((some (t177 ++ t180 : List Int)).bind fun y183 => ((wire_Int.f k 0).bind fun t186 => (if y183.length + t186.length < 140737488355328 then (some (y183 ++ t186)) else (none)))) else (none))))) = some r := h
  clear h
  by_cases c4 : a2 = true
  · subst c4
    have H1 : ((wire_Int.f k a0).bind fun t162 => ((wire_Int.f k a1).bind fun t165 => (if t162.length + t165.length < 140737488355328 then ((some (t162 ++ t165 : List Int)).bind fun y168 => ((wire_Int.f k 1).bind fun t171 => (if y168.length + t171.length < 140737488355328 then (some (y168 ++ t171)) else (none)))) else (none)))) = some r := by rw [if_pos rfl] at H; exact H
    clear H
    have H := H1
    clear H1
    replace H := Option.bind_eq_some_iff.mp H
    obtain ⟨t162, A50, H⟩ := H
    replace H : ((wire_Int.f k a1).bind fun t165 => (if t162.length + t165.length < 140737488355328 then ((some (t162 ++ t165 : List Int)).bind fun y168 => ((wire_Int.f k 1).bind fun t171 => (if y168.length + t171.length < 140737488355328 then (some (y168 ++ t171)) else (none)))) else (none))) = some r := H
    have A5 := Aside0.mk A50
    clear A50
    replace H := Option.bind_eq_some_iff.mp H
    obtain ⟨t165, A60, H⟩ := H
    replace H : (if t162.length + t165.length < 140737488355328 then ((some (t162 ++ t165 : List Int)).bind fun y168 => ((wire_Int.f k 1).bind fun t171 => (if y168.length + t171.length < 140737488355328 then (some (y168 ++ t171)) else (none)))) else (none)) = some r := H
    have A6 := Aside0.mk A60
    clear A60
    by_cases c7 : t162.length + t165.length < 140737488355328
    · rw [if_pos c7] at H
      have LMc7 := Aside0.mk c7
      clear c7
      obtain ⟨y168, hy168⟩ : ∃ y_ : List Int, y_ = (t162 ++ t165) := ⟨_, rfl⟩
      replace H : ((wire_Int.f k 1).bind fun t171 => (if y168.length + t171.length < 140737488355328 then (some (y168 ++ t171)) else (none))) = some r := by first | (rw [hy168]; with_reducible exact H) | (have H2_ := (Option.bind_some _ _).symm.trans H; rw [hy168]; with_reducible exact H2_) | (have H2_ := (Option.bind_some _ _).symm.trans H; with_reducible exact H2_) | with_reducible exact H | (rw [hy168]; exact H) | exact H
      have Ny168 := Aside0.mk hy168
      clear hy168
      replace H := Option.bind_eq_some_iff.mp H
      obtain ⟨t171, A80, H⟩ := H
      replace H : (if y168.length + t171.length < 140737488355328 then (some (y168 ++ t171)) else (none)) = some r := H
      have A8 := Aside0.mk A80
      clear A80
      by_cases c9 : y168.length + t171.length < 140737488355328
      · rw [if_pos c9] at H
        have LMc9 := Aside0.mk c9
        clear c9
        obtain ⟨y174, hy174⟩ : ∃ y_ : List Int, y_ = (y168 ++ t171) := ⟨_, rfl⟩
        replace H : (some y174) = some r := by first | (rw [hy174]; with_reducible exact H) | (have H2_ := (Option.bind_some _ _).symm.trans H; rw [hy174]; with_reducible exact H2_) | (have H2_ := (Option.bind_some _ _).symm.trans H; with_reducible exact H2_) | with_reducible exact H | (rw [hy174]; exact H) | exact H
        have Ny174 := Aside0.mk hy174
        clear hy174
        obtain rfl := Option.some.inj H
        go_enter Tryd.func80, Tryd.ntmps80
        go_wp2_with (first | ((with_reducible refine gate_callee (f := 104) rfl ?_); refine goesL_ (some 10) rfl rfl Tryd.func104 (by kernel_rfl) rfl #[.int .i64 a0] rfl (by (try simp only [List.map_toArray, List.map_cons, List.map_nil]); first | done | rfl | (simp only [List.length_drop, List.length_take]; rfl)) ?_; (with_reducible refine (wire_Int.calls k a0 t162 _ A5.out).mono ?_); rintro e w10 ⟨v163, rfl, ho0, hb⟩; refine ⟨_, rfl, ?_⟩; have n0_ := Aside0.mk (Kd.R_lower ho0 (below_size (by repeat (first | (with_reducible first | exact HB.out | apply below_alloc | apply pw_below_drewN | apply below_drew1) | exact HB.out)))); have n1_ := Aside0.mk (below_step (by repeat (first | (with_reducible first | exact HB.out | apply below_alloc | apply pw_below_drewN | apply below_drew1) | exact HB.out)) hb); clear HB; have HO164 := n0_; have HB := n1_; clear n0_ n1_; (try clear hb); (try clear hb2); (try clear hk); (try clear hi); (try clear ho0)) | ((with_reducible refine gate_callee (f := 104) rfl ?_); refine goesL_ (some 12) rfl rfl Tryd.func104 (by kernel_rfl) rfl #[.int .i64 a1] rfl (by (try simp only [List.map_toArray, List.map_cons, List.map_nil]); first | done | rfl | (simp only [List.length_drop, List.length_take]; rfl)) ?_; (with_reducible refine (wire_Int.calls k a1 t165 _ A6.out).mono ?_); rintro e w11 ⟨v166, rfl, ho0, hb⟩; refine ⟨_, rfl, ?_⟩; have n0_ := Aside0.mk (Kd.R_elder' (by (with_reducible repeat (first | apply Kd.R_alloc | apply Kd.R_drewN | apply Kd.R_drew)); exact HO164.out) (Kd.R_base ho0) hb); have n1_ := Aside0.mk (Kd.R_lower (Kd.R_new' ho0 (Kd.R_lt (by (with_reducible repeat (first | apply Kd.R_alloc | apply Kd.R_drewN | apply Kd.R_drew)); exact HO164.out))) (below_size (by repeat (first | (with_reducible first | exact HB.out | apply below_alloc | apply pw_below_drewN | apply below_drew1) | exact HB.out)))); have n2_ := Aside0.mk (below_step (by repeat (first | (with_reducible first | exact HB.out | apply below_alloc | apply pw_below_drewN | apply below_drew1) | exact HB.out)) hb); clear HO164; clear HB; have HO164 := n0_; have HO167 := n1_; have HB := n2_; clear n0_ n1_ n2_; (try clear hb); (try clear hb2); (try clear hk); (try clear hi); (try clear ho0); obtain ⟨Ao13, co13, eo13⟩ := Kd.R_slice HO167.out; subst eo13) | ((with_reducible refine gate_builtin (b := .append) (xs := #[.tmp 10, .tmp 12]) rfl ?_); at_builtin; refine Kd.R_append_rows (Kd.int .u8) (w0 := w) w.heap.size rfl (.tmp 10) (.tmp 12) 30 5 (.int .u8 0) 1 rfl Tryd.underlying30 info5 rfl (by decide) (by omega) v163 t162 t165 _ _ _ (fun k_ => some k_ ≠ (.slice Ao13 t165.length co13 : Value).ownBlock) (fun _ => False) rfl rfl ?aO ?aR (fun _ _ h => h) (fun _ h => h.elim) ?aF ?aB ?aS ?aL ?_; (case aR => repeat (first | exact (Kd.R_reads' HO167.out).2.2 | (with_reducible refine Kd.C_alloc ?_ _) | (with_reducible refine Kd.C_drewN ?_ _) | (with_reducible refine Kd.C_drew ?_))); (case aB => exact (by repeat (first | (with_reducible first | exact HB.out | apply below_alloc | apply pw_below_drewN | apply below_drew1) | exact HB.out))); (case aF => exact (fun k_ hk => Kd.fresh' (Kd.R_lt (by (with_reducible repeat (first | apply Kd.R_alloc | apply Kd.R_drewN | apply Kd.R_drew)); exact HO167.out)) k_ hk)); (case aO => exact (by (with_reducible repeat (first | apply Kd.R_alloc | apply Kd.R_drewN | apply Kd.R_drew)); exact Kd.R_mono HO164.out (fun _ hk => hk.2))); (case aS => exact (below_size (by repeat (first | (with_reducible first | exact HB.out | apply below_alloc | apply pw_below_drewN | apply below_drew1) | exact HB.out)))); (case aL => have := LMc7.out; omega); intro v169 w12 ho hb hg hat; rw [← Ny168.out] at ho; have n0_ := Aside0.mk (Kd.R_after (ok := (fun _ => True)) (by (with_reducible repeat (first | apply Kd.R_alloc | apply Kd.R_drewN | apply Kd.R_drew)); exact HO167.out) hg hat); have n1_ := Aside0.mk (hb); have n2_ := Aside0.mk (ho); clear HO167; clear HB; clear HO164; have HO167 := n0_; have HB := n1_; have HO170 := n2_; clear n0_ n1_ n2_; clear ho hb hg hat) | ((with_reducible refine gate_callee (f := 104) rfl ?_); refine goesL_ (some 15) rfl rfl Tryd.func104 (by kernel_rfl) rfl #[.int .i64 1] rfl (by (try simp only [List.map_toArray, List.map_cons, List.map_nil]); first | done | rfl | (simp only [List.length_drop, List.length_take]; rfl)) ?_; (with_reducible refine (wire_Int.calls k 1 t171 _ A8.out).mono ?_); rintro e w14 ⟨v172, rfl, ho0, hb⟩; refine ⟨_, rfl, ?_⟩; have n0_ := Aside0.mk (Kd.R_elder' (by (with_reducible repeat (first | apply Kd.R_alloc | apply Kd.R_drewN | apply Kd.R_drew)); exact HO167.out) (Kd.R_base ho0) hb); have n1_ := Aside0.mk (Kd.R_elder' (by (with_reducible repeat (first | apply Kd.R_alloc | apply Kd.R_drewN | apply Kd.R_drew)); exact HO170.out) (Kd.R_base ho0) hb); have n2_ := Aside0.mk (Kd.R_lower (Kd.R_new' (Kd.R_new' ho0 (Kd.R_lt (by (with_reducible repeat (first | apply Kd.R_alloc | apply Kd.R_drewN | apply Kd.R_drew)); exact HO167.out))) (Kd.R_lt (by (with_reducible repeat (first | apply Kd.R_alloc | apply Kd.R_drewN | apply Kd.R_drew)); exact HO170.out))) (below_size (by repeat (first | (with_reducible first | exact HB.out | apply below_alloc | apply pw_below_drewN | apply below_drew1) | exact HB.out)))); have n3_ := Aside0.mk (below_step (by repeat (first | (with_reducible first | exact HB.out | apply below_alloc | apply pw_below_drewN | apply below_drew1) | exact HB.out)) hb); clear HO167; clear HO170; clear HB; have HO167 := n0_; have HO170 := n1_; have HO173 := n2_; have HB := n3_; clear n0_ n1_ n2_ n3_; (try clear hb); (try clear hb2); (try clear hk); (try clear hi); (try clear ho0); obtain ⟨Ao16, co16, eo16⟩ := Kd.R_slice HO173.out; subst eo16) | ((with_reducible refine gate_builtin (b := .append) (xs := #[.tmp 13, .tmp 15]) rfl ?_); at_builtin; refine Kd.R_append_rows (Kd.int .u8) (w0 := w) w.heap.size rfl (.tmp 13) (.tmp 15) 30 5 (.int .u8 0) 1 rfl Tryd.underlying30 info5 rfl (by decide) (by omega) v169 y168 t171 _ _ _ (fun k_ => some k_ ≠ (.slice Ao13 t165.length co13 : Value).ownBlock ∧ some k_ ≠ (.slice Ao16 t171.length co16 : Value).ownBlock) (fun _ => False) rfl rfl ?aO ?aR (fun _ _ h => h) (fun _ h => h.elim) ?aF ?aB ?aS ?aL ?_; (case aR => repeat (first | exact (Kd.R_reads' HO173.out).2.2 | (with_reducible refine Kd.C_alloc ?_ _) | (with_reducible refine Kd.C_drewN ?_ _) | (with_reducible refine Kd.C_drew ?_))); (case aB => exact (by repeat (first | (with_reducible first | exact HB.out | apply below_alloc | apply pw_below_drewN | apply below_drew1) | exact HB.out))); (case aF => exact (fun k_ hk => ⟨Kd.fresh' (Kd.R_lt (by (with_reducible repeat (first | apply Kd.R_alloc | apply Kd.R_drewN | apply Kd.R_drew)); exact HO167.out)) k_ hk, Kd.fresh' (Kd.R_lt (by (with_reducible repeat (first | apply Kd.R_alloc | apply Kd.R_drewN | apply Kd.R_drew)); exact HO173.out)) k_ hk⟩)); (case aO => exact (by (with_reducible repeat (first | apply Kd.R_alloc | apply Kd.R_drewN | apply Kd.R_drew)); exact HO170.out)); (case aS => exact (below_size (by repeat (first | (with_reducible first | exact HB.out | apply below_alloc | apply pw_below_drewN | apply below_drew1) | exact HB.out)))); (case aL => have := LMc9.out; omega); intro v175 w15 ho hb hg hat; rw [← Ny174.out] at ho; have n0_ := Aside0.mk (Kd.R_after (ok := (fun k_ => some k_ ≠ (.slice Ao16 t171.length co16 : Value).ownBlock)) (by (with_reducible repeat (first | apply Kd.R_alloc | apply Kd.R_drewN | apply Kd.R_drew)); exact Kd.R_mono HO167.out (fun _ hk => ⟨hk.2, hk.1.2⟩)) hg hat); have n1_ := Aside0.mk (Kd.R_after (ok := (fun k_ => some k_ ≠ (.slice Ao13 t165.length co13 : Value).ownBlock)) (by (with_reducible repeat (first | apply Kd.R_alloc | apply Kd.R_drewN | apply Kd.R_drew)); exact Kd.R_mono HO173.out (fun _ hk => ⟨hk.1.2, hk.2⟩)) hg hat); have n2_ := Aside0.mk (hb); have n3_ := Aside0.mk (ho); clear HO167; clear HO173; clear HB; clear HO170; have HO167 := n0_; have HO173 := n1_; have HB := n2_; have HO176 := n3_; clear n0_ n1_ n2_ n3_; clear ho hb hg hat))
        go_ret
        exact ⟨_, by first | rfl | (simp [errW_none, errW_some] <;> rfl) | (simp [*, errW_none, errW_some] <;> rfl), by (with_reducible repeat (first | apply Kd.R_alloc | apply Kd.R_drewN | apply Kd.R_drew)); exact Kd.R_mono HO176.out (fun _ hk => trivial), by repeat (first | (with_reducible first | exact HB.out | apply below_alloc | apply pw_below_drewN | apply below_drew1) | exact HB.out)⟩
      · rw [if_neg c9] at H
        exact absurd H (by simp)
    · rw [if_neg c7] at H
      exact absurd H (by simp)
  · replace c4 := Bool.eq_false_iff.mpr c4
    subst c4
    have H1 : ((wire_Int.f k a0).bind fun t177 => ((wire_Int.f k a1).bind fun t180 => (if t177.length + t180.length < 140737488355328 then ((some (t177 ++ t180 : List Int)).bind fun y183 => ((wire_Int.f k 0).bind fun t186 => (if y183.length + t186.length < 140737488355328 then (some (y183 ++ t186)) else (none)))) else (none)))) = some r := by rw [if_neg (show ¬ (false = true) by decide)] at H; exact H
    clear H
    have H := H1
    clear H1
    replace H := Option.bind_eq_some_iff.mp H
    obtain ⟨t177, A170, H⟩ := H
    replace H : ((wire_Int.f k a1).bind fun t180 => (if t177.length + t180.length < 140737488355328 then ((some (t177 ++ t180 : List Int)).bind fun y183 => ((wire_Int.f k 0).bind fun t186 => (if y183.length + t186.length < 140737488355328 then (some (y183 ++ t186)) else (none)))) else (none))) = some r := H
    have A17 := Aside0.mk A170
    clear A170
    replace H := Option.bind_eq_some_iff.mp H
    obtain ⟨t180, A180, H⟩ := H
    replace H : (if t177.length + t180.length < 140737488355328 then ((some (t177 ++ t180 : List Int)).bind fun y183 => ((wire_Int.f k 0).bind fun t186 => (if y183.length + t186.length < 140737488355328 then (some (y183 ++ t186)) else (none)))) else (none)) = some r := H
    have A18 := Aside0.mk A180
    clear A180
    by_cases c19 : t177.length + t180.length < 140737488355328
    · rw [if_pos c19] at H
      have LMc19 := Aside0.mk c19
      clear c19
      obtain ⟨y183, hy183⟩ : ∃ y_ : List Int, y_ = (t177 ++ t180) := ⟨_, rfl⟩
      replace H : ((wire_Int.f k 0).bind fun t186 => (if y183.length + t186.length < 140737488355328 then (some (y183 ++ t186)) else (none))) = some r := by first | (rw [hy183]; with_reducible exact H) | (have H2_ := (Option.bind_some _ _).symm.trans H; rw [hy183]; with_reducible exact H2_) | (have H2_ := (Option.bind_some _ _).symm.trans H; with_reducible exact H2_) | with_reducible exact H | (rw [hy183]; exact H) | exact H
      have Ny183 := Aside0.mk hy183
      clear hy183
      replace H := Option.bind_eq_some_iff.mp H
      obtain ⟨t186, A200, H⟩ := H
      replace H : (if y183.length + t186.length < 140737488355328 then (some (y183 ++ t186)) else (none)) = some r := H
      have A20 := Aside0.mk A200
      clear A200
      by_cases c21 : y183.length + t186.length < 140737488355328
      · rw [if_pos c21] at H
        have LMc21 := Aside0.mk c21
        clear c21
        obtain ⟨y189, hy189⟩ : ∃ y_ : List Int, y_ = (y183 ++ t186) := ⟨_, rfl⟩
        replace H : (some y189) = some r := by first | (rw [hy189]; with_reducible exact H) | (have H2_ := (Option.bind_some _ _).symm.trans H; rw [hy189]; with_reducible exact H2_) | (have H2_ := (Option.bind_some _ _).symm.trans H; with_reducible exact H2_) | with_reducible exact H | (rw [hy189]; exact H) | exact H
        have Ny189 := Aside0.mk hy189
        clear hy189
        obtain rfl := Option.some.inj H
        go_enter Tryd.func80, Tryd.ntmps80
        go_wp2_with (first | ((with_reducible refine gate_callee (f := 104) rfl ?_); refine goesL_ (some 10) rfl rfl Tryd.func104 (by kernel_rfl) rfl #[.int .i64 a0] rfl (by (try simp only [List.map_toArray, List.map_cons, List.map_nil]); first | done | rfl | (simp only [List.length_drop, List.length_take]; rfl)) ?_; (with_reducible refine (wire_Int.calls k a0 t177 _ A17.out).mono ?_); rintro e w22 ⟨v178, rfl, ho0, hb⟩; refine ⟨_, rfl, ?_⟩; have n0_ := Aside0.mk (Kd.R_lower ho0 (below_size (by repeat (first | (with_reducible first | exact HB.out | apply below_alloc | apply pw_below_drewN | apply below_drew1) | exact HB.out)))); have n1_ := Aside0.mk (below_step (by repeat (first | (with_reducible first | exact HB.out | apply below_alloc | apply pw_below_drewN | apply below_drew1) | exact HB.out)) hb); clear HB; have HO179 := n0_; have HB := n1_; clear n0_ n1_; (try clear hb); (try clear hb2); (try clear hk); (try clear hi); (try clear ho0)) | ((with_reducible refine gate_callee (f := 104) rfl ?_); refine goesL_ (some 12) rfl rfl Tryd.func104 (by kernel_rfl) rfl #[.int .i64 a1] rfl (by (try simp only [List.map_toArray, List.map_cons, List.map_nil]); first | done | rfl | (simp only [List.length_drop, List.length_take]; rfl)) ?_; (with_reducible refine (wire_Int.calls k a1 t180 _ A18.out).mono ?_); rintro e w23 ⟨v181, rfl, ho0, hb⟩; refine ⟨_, rfl, ?_⟩; have n0_ := Aside0.mk (Kd.R_elder' (by (with_reducible repeat (first | apply Kd.R_alloc | apply Kd.R_drewN | apply Kd.R_drew)); exact HO179.out) (Kd.R_base ho0) hb); have n1_ := Aside0.mk (Kd.R_lower (Kd.R_new' ho0 (Kd.R_lt (by (with_reducible repeat (first | apply Kd.R_alloc | apply Kd.R_drewN | apply Kd.R_drew)); exact HO179.out))) (below_size (by repeat (first | (with_reducible first | exact HB.out | apply below_alloc | apply pw_below_drewN | apply below_drew1) | exact HB.out)))); have n2_ := Aside0.mk (below_step (by repeat (first | (with_reducible first | exact HB.out | apply below_alloc | apply pw_below_drewN | apply below_drew1) | exact HB.out)) hb); clear HO179; clear HB; have HO179 := n0_; have HO182 := n1_; have HB := n2_; clear n0_ n1_ n2_; (try clear hb); (try clear hb2); (try clear hk); (try clear hi); (try clear ho0); obtain ⟨Ao25, co25, eo25⟩ := Kd.R_slice HO182.out; subst eo25) | ((with_reducible refine gate_builtin (b := .append) (xs := #[.tmp 10, .tmp 12]) rfl ?_); at_builtin; refine Kd.R_append_rows (Kd.int .u8) (w0 := w) w.heap.size rfl (.tmp 10) (.tmp 12) 30 5 (.int .u8 0) 1 rfl Tryd.underlying30 info5 rfl (by decide) (by omega) v178 t177 t180 _ _ _ (fun k_ => some k_ ≠ (.slice Ao25 t180.length co25 : Value).ownBlock) (fun _ => False) rfl rfl ?aO ?aR (fun _ _ h => h) (fun _ h => h.elim) ?aF ?aB ?aS ?aL ?_; (case aR => repeat (first | exact (Kd.R_reads' HO182.out).2.2 | (with_reducible refine Kd.C_alloc ?_ _) | (with_reducible refine Kd.C_drewN ?_ _) | (with_reducible refine Kd.C_drew ?_))); (case aB => exact (by repeat (first | (with_reducible first | exact HB.out | apply below_alloc | apply pw_below_drewN | apply below_drew1) | exact HB.out))); (case aF => exact (fun k_ hk => Kd.fresh' (Kd.R_lt (by (with_reducible repeat (first | apply Kd.R_alloc | apply Kd.R_drewN | apply Kd.R_drew)); exact HO182.out)) k_ hk)); (case aO => exact (by (with_reducible repeat (first | apply Kd.R_alloc | apply Kd.R_drewN | apply Kd.R_drew)); exact Kd.R_mono HO179.out (fun _ hk => hk.2))); (case aS => exact (below_size (by repeat (first | (with_reducible first | exact HB.out | apply below_alloc | apply pw_below_drewN | apply below_drew1) | exact HB.out)))); (case aL => have := LMc19.out; omega); intro v184 w24 ho hb hg hat; rw [← Ny183.out] at ho; have n0_ := Aside0.mk (Kd.R_after (ok := (fun _ => True)) (by (with_reducible repeat (first | apply Kd.R_alloc | apply Kd.R_drewN | apply Kd.R_drew)); exact HO182.out) hg hat); have n1_ := Aside0.mk (hb); have n2_ := Aside0.mk (ho); clear HO182; clear HB; clear HO179; have HO182 := n0_; have HB := n1_; have HO185 := n2_; clear n0_ n1_ n2_; clear ho hb hg hat) | ((with_reducible refine gate_callee (f := 104) rfl ?_); refine goesL_ (some 15) rfl rfl Tryd.func104 (by kernel_rfl) rfl #[.int .i64 0] rfl (by (try simp only [List.map_toArray, List.map_cons, List.map_nil]); first | done | rfl | (simp only [List.length_drop, List.length_take]; rfl)) ?_; (with_reducible refine (wire_Int.calls k 0 t186 _ A20.out).mono ?_); rintro e w26 ⟨v187, rfl, ho0, hb⟩; refine ⟨_, rfl, ?_⟩; have n0_ := Aside0.mk (Kd.R_elder' (by (with_reducible repeat (first | apply Kd.R_alloc | apply Kd.R_drewN | apply Kd.R_drew)); exact HO182.out) (Kd.R_base ho0) hb); have n1_ := Aside0.mk (Kd.R_elder' (by (with_reducible repeat (first | apply Kd.R_alloc | apply Kd.R_drewN | apply Kd.R_drew)); exact HO185.out) (Kd.R_base ho0) hb); have n2_ := Aside0.mk (Kd.R_lower (Kd.R_new' (Kd.R_new' ho0 (Kd.R_lt (by (with_reducible repeat (first | apply Kd.R_alloc | apply Kd.R_drewN | apply Kd.R_drew)); exact HO182.out))) (Kd.R_lt (by (with_reducible repeat (first | apply Kd.R_alloc | apply Kd.R_drewN | apply Kd.R_drew)); exact HO185.out))) (below_size (by repeat (first | (with_reducible first | exact HB.out | apply below_alloc | apply pw_below_drewN | apply below_drew1) | exact HB.out)))); have n3_ := Aside0.mk (below_step (by repeat (first | (with_reducible first | exact HB.out | apply below_alloc | apply pw_below_drewN | apply below_drew1) | exact HB.out)) hb); clear HO182; clear HO185; clear HB; have HO182 := n0_; have HO185 := n1_; have HO188 := n2_; have HB := n3_; clear n0_ n1_ n2_ n3_; (try clear hb); (try clear hb2); (try clear hk); (try clear hi); (try clear ho0); obtain ⟨Ao28, co28, eo28⟩ := Kd.R_slice HO188.out; subst eo28) | ((with_reducible refine gate_builtin (b := .append) (xs := #[.tmp 13, .tmp 15]) rfl ?_); at_builtin; refine Kd.R_append_rows (Kd.int .u8) (w0 := w) w.heap.size rfl (.tmp 13) (.tmp 15) 30 5 (.int .u8 0) 1 rfl Tryd.underlying30 info5 rfl (by decide) (by omega) v184 y183 t186 _ _ _ (fun k_ => some k_ ≠ (.slice Ao25 t180.length co25 : Value).ownBlock ∧ some k_ ≠ (.slice Ao28 t186.length co28 : Value).ownBlock) (fun _ => False) rfl rfl ?aO ?aR (fun _ _ h => h) (fun _ h => h.elim) ?aF ?aB ?aS ?aL ?_; (case aR => repeat (first | exact (Kd.R_reads' HO188.out).2.2 | (with_reducible refine Kd.C_alloc ?_ _) | (with_reducible refine Kd.C_drewN ?_ _) | (with_reducible refine Kd.C_drew ?_))); (case aB => exact (by repeat (first | (with_reducible first | exact HB.out | apply below_alloc | apply pw_below_drewN | apply below_drew1) | exact HB.out))); (case aF => exact (fun k_ hk => ⟨Kd.fresh' (Kd.R_lt (by (with_reducible repeat (first | apply Kd.R_alloc | apply Kd.R_drewN | apply Kd.R_drew)); exact HO182.out)) k_ hk, Kd.fresh' (Kd.R_lt (by (with_reducible repeat (first | apply Kd.R_alloc | apply Kd.R_drewN | apply Kd.R_drew)); exact HO188.out)) k_ hk⟩)); (case aO => exact (by (with_reducible repeat (first | apply Kd.R_alloc | apply Kd.R_drewN | apply Kd.R_drew)); exact HO185.out)); (case aS => exact (below_size (by repeat (first | (with_reducible first | exact HB.out | apply below_alloc | apply pw_below_drewN | apply below_drew1) | exact HB.out)))); (case aL => have := LMc21.out; omega); intro v190 w27 ho hb hg hat; rw [← Ny189.out] at ho; have n0_ := Aside0.mk (Kd.R_after (ok := (fun k_ => some k_ ≠ (.slice Ao28 t186.length co28 : Value).ownBlock)) (by (with_reducible repeat (first | apply Kd.R_alloc | apply Kd.R_drewN | apply Kd.R_drew)); exact Kd.R_mono HO182.out (fun _ hk => ⟨hk.2, hk.1.2⟩)) hg hat); have n1_ := Aside0.mk (Kd.R_after (ok := (fun k_ => some k_ ≠ (.slice Ao25 t180.length co25 : Value).ownBlock)) (by (with_reducible repeat (first | apply Kd.R_alloc | apply Kd.R_drewN | apply Kd.R_drew)); exact Kd.R_mono HO188.out (fun _ hk => ⟨hk.1.2, hk.2⟩)) hg hat); have n2_ := Aside0.mk (hb); have n3_ := Aside0.mk (ho); clear HO182; clear HO188; clear HB; clear HO185; have HO182 := n0_; have HO188 := n1_; have HB := n2_; have HO191 := n3_; clear n0_ n1_ n2_ n3_; clear ho hb hg hat))
        go_ret
        exact ⟨_, by first | rfl | (simp [errW_none, errW_some] <;> rfl) | (simp [*, errW_none, errW_some] <;> rfl), by (with_reducible repeat (first | apply Kd.R_alloc | apply Kd.R_drewN | apply Kd.R_drew)); exact Kd.R_mono HO191.out (fun _ hk => trivial), by repeat (first | (with_reducible first | exact HB.out | apply below_alloc | apply pw_below_drewN | apply below_drew1) | exact HB.out)⟩
      · rw [if_neg c21] at H
        exact absurd H (by simp)
    · rw [if_neg c19] at H
      exact absurd H (by simp)

-- NOT PRINTED: function 115 (wire_fault)

/-! ### wire_kind: function 116 -/
mutual
def wire_kind.j0 : Nat → Int → Int → Bool → Option (Int)
  | 0, _, _, _ => none
  | k + 1, x0, x1, x5 => if x5 = true then (some 0) else (if x0 = 0 then (wire_kind.j1 k x0 (decide (x1 > 0))) else (wire_kind.j1 k x0 false))
def wire_kind.j1 : Nat → Int → Bool → Option (Int)
  | 0, _, _ => none
  | k + 1, x0, x12 => if x12 = true then (some 1) else (if x0 < 128 then (some 2) else (some 3))
end
def wire_kind.f (k : Nat) (a0 : Int) (a1 : Int) : Option (Int) := if a1 = 9 then (wire_kind.j0 k a0 a1 (decide (a0 > 1))) else (wire_kind.j0 k a0 a1 false)
theorem wire_kind.mono_l : ∀ k, (∀ y0 y1 y2, LeO (wire_kind.j0 k y0 y1 y2) (wire_kind.j0 (k + 1) y0 y1 y2)) ∧ (∀ y0 y1, LeO (wire_kind.j1 k y0 y1) (wire_kind.j1 (k + 1) y0 y1))
  | 0 => ⟨fun _ _ _ r h => by simp [wire_kind.j0] at h, fun _ _ r h => by simp [wire_kind.j1] at h⟩
  | k + 1 => by
    obtain ⟨ih0, ih1⟩ := wire_kind.mono_l k
    refine ⟨?_, ?_⟩
    · intro y0 y1 y2
      unfold wire_kind.j0
      repeat' first
      | (with_reducible exact ih0 _ _ _)
      | (with_reducible exact ih1 _ _)
      | (with_reducible exact LeO.refl _)
      | (with_reducible exact LeO.none _)
      | (with_reducible refine LeO.ite ?_ ?_)
      | (with_reducible refine LeO.bind ?_ (fun _ => ?_))
      | exact ih0 _ _ _
      | exact ih1 _ _
      | exact LeO.none _
      | refine LeO.ite ?_ ?_
      | refine LeO.bind ?_ (fun _ => ?_)
    · intro y0 y1
      unfold wire_kind.j1
      repeat' first
      | (with_reducible exact ih0 _ _ _)
      | (with_reducible exact ih1 _ _)
      | (with_reducible exact LeO.refl _)
      | (with_reducible exact LeO.none _)
      | (with_reducible refine LeO.ite ?_ ?_)
      | (with_reducible refine LeO.bind ?_ (fun _ => ?_))
      | exact ih0 _ _ _
      | exact ih1 _ _
      | exact LeO.none _
      | refine LeO.ite ?_ ?_
      | refine LeO.bind ?_ (fun _ => ?_)
theorem wire_kind.mono : ∀ a0 a1 k, LeO (wire_kind.f k a0 a1) (wire_kind.f (k + 1) a0 a1) := by
  intro a0 a1 k
  obtain ⟨ih0, ih1⟩ := wire_kind.mono_l k
  unfold wire_kind.f
  repeat' first
      | (with_reducible exact ih0 _ _ _)
      | (with_reducible exact ih1 _ _)
      | (with_reducible exact LeO.refl _)
      | (with_reducible exact LeO.none _)
      | (with_reducible refine LeO.ite ?_ ?_)
      | (with_reducible refine LeO.bind ?_ (fun _ => ?_))
      | exact ih0 _ _ _
      | exact ih1 _ _
      | exact LeO.none _
      | refine LeO.ite ?_ ?_
      | refine LeO.bind ?_ (fun _ => ?_)
set_option maxHeartbeats 8000000 in
set_option maxRecDepth 100000 in
theorem wire_kind.calls (k : Nat) (a0 : Int) (a1 : Int) (r : Int) (w : World) (h : wire_kind.f k a0 a1 = some r) :
    Calls Tryd.prog 116 #[.int .u8 a0, .int .i64 a1] w fun e w' => e = .returned (.int .i64 r) ∧ Drawn0 w w' := by
  have H : (if a1 = 9 then (wire_kind.j0 k a0 a1 (decide (a0 > 1))) else (wire_kind.j0 k a0 a1 false)) = some r := h
  clear h
  have HC3 := Aside0.mk H
  clear H
  go_enter Tryd.func116, Tryd.ntmps116
  go_upto_region 1 with (fail)
  go_cut [5] (fun v5 wc => ∃ (kq : Nat) (x5_2 : Bool), v5 = .bool x5_2 ∧ Aside0 (wire_kind.j0 kq a0 a1 x5_2 = some r) ∧ Aside0 (kq ≤ k) ∧ Drawn0 w wc)
  case first =>
    have H := HC3.out
    clear HC3
    by_cases c4 : a1 = 9
    · rw [if_pos c4] at H
      have c4b0 : (a1 == 9) = true := beq_iff_eq.mpr c4
      have c4b1 : (a1 != 9) = false := bne_eq_false_iff_eq.mpr c4
      clear c4
      (first | rw [c4b0] | (simp only [i64_w, i32_w]; rw [c4b0]) | skip)
      have H' := Aside0.mk H
      clear H
      go_wp2
      go_meet
      case rel => exact ⟨_, (decide (a0 > 1)), (by first | rfl | (simp; done) | (simp [*]; done)), H', ⟨by first | omega | exact Nat.le_refl _⟩, by repeat (first | exact Drawn0.refl _ | apply Drawn0.step)⟩
    · rw [if_neg c4] at H
      have c4b0 : (a1 == 9) = false := beq_eq_false_iff_ne.mpr c4
      have c4b1 : (a1 != 9) = true := bne_iff_ne.mpr c4
      (first | rw [c4b0] | (simp only [i64_w, i32_w]; rw [c4b0]) | skip)
      have H' := Aside0.mk H
      clear H
      go_wp2
      go_meet
      case rel => exact ⟨_, (false), (by first | rfl | (simp; done) | (simp [*]; done)), H', ⟨by first | omega | exact Nat.le_refl _⟩, by repeat (first | exact Drawn0.refl _ | apply Drawn0.step)⟩
  case rest =>
    clear HC3
    try clear c1
    try clear p2
    try clear c4
    try clear c4b0
    try clear c4b1
    obtain ⟨kq, x5_2, rfl, HA, HJ2, ⟨mc2, rfl⟩⟩ := hcut
    cases kq with
    | zero => exact absurd HA.out (by simp [wire_kind.j0])
    | succ kj2 =>
      have H := HA.out
      clear HA
      simp only [wire_kind.j0] at H
      by_cases c5 : x5_2 = true
      · subst c5
        have H1 : (some 0) = some r := by rw [if_pos rfl] at H; exact H
        clear H
        have H := H1
        clear H1
        obtain rfl := Option.some.inj H
        go_wp2
        go_ret
        exact ⟨by first | rfl | (simp; done) | (simp [*]; done), by repeat (first | exact Drawn0.refl _ | apply Drawn0.step)⟩
      · replace c5 := Bool.eq_false_iff.mpr c5
        subst c5
        have H1 : (if a0 = 0 then (wire_kind.j1 kj2 a0 (decide (a1 > 0))) else (wire_kind.j1 kj2 a0 false)) = some r := by rw [if_neg (show ¬ (false = true) by decide)] at H; exact H
        clear H
        have H := H1
        clear H1
        have HC6 := Aside0.mk H
        clear H
        go_upto_region 3 with (fail)
        go_cut [12] (fun v12 wc => ∃ (kq : Nat) (x12_5 : Bool), v12 = .bool x12_5 ∧ Aside0 (wire_kind.j1 kq a0 x12_5 = some r) ∧ Aside0 (kq ≤ kj2) ∧ Drawn0 w wc)
        case first =>
          have H := HC6.out
          clear HC6
          by_cases c7 : a0 = 0
          · rw [if_pos c7] at H
            have c7b0 : (a0 == 0) = true := beq_iff_eq.mpr c7
            have c7b1 : (a0 != 0) = false := bne_eq_false_iff_eq.mpr c7
            clear c7
            (first | rw [c7b0] | (simp only [i64_w, i32_w]; rw [c7b0]) | skip)
            have H' := Aside0.mk H
            clear H
            go_wp2
            go_meet
            case rel => exact ⟨_, (decide (a1 > 0)), (by first | rfl | (simp; done) | (simp [*]; done)), H', ⟨by have := HJ2.out; first | omega | exact Nat.le_refl _⟩, by repeat (first | exact Drawn0.refl _ | apply Drawn0.step)⟩
          · rw [if_neg c7] at H
            have c7b0 : (a0 == 0) = false := beq_eq_false_iff_ne.mpr c7
            have c7b1 : (a0 != 0) = true := bne_iff_ne.mpr c7
            (first | rw [c7b0] | (simp only [i64_w, i32_w]; rw [c7b0]) | skip)
            have H' := Aside0.mk H
            clear H
            go_wp2
            go_meet
            case rel => exact ⟨_, (false), (by first | rfl | (simp; done) | (simp [*]; done)), H', ⟨by have := HJ2.out; first | omega | exact Nat.le_refl _⟩, by repeat (first | exact Drawn0.refl _ | apply Drawn0.step)⟩
        case rest =>
          clear HC6
          try clear c1
          try clear c2
          try clear p2
          try clear c4
          try clear c4b0
          try clear c4b1
          try clear c5
          try clear c7
          try clear c7b0
          try clear c7b1
          try clear p2
          obtain ⟨kq, x12_5, rfl, HA, HJ5, ⟨mc5, rfl⟩⟩ := hcut
          cases kq with
          | zero => exact absurd HA.out (by simp [wire_kind.j1])
          | succ kj5 =>
            have H := HA.out
            clear HA
            simp only [wire_kind.j1] at H
            by_cases c8 : x12_5 = true
            · subst c8
              have H1 : (some 1) = some r := by rw [if_pos rfl] at H; exact H
              clear H
              have H := H1
              clear H1
              obtain rfl := Option.some.inj H
              go_wp2
              go_ret
              exact ⟨by first | rfl | (simp; done) | (simp [*]; done), by repeat (first | exact Drawn0.refl _ | apply Drawn0.step)⟩
            · replace c8 := Bool.eq_false_iff.mpr c8
              subst c8
              have H1 : (if a0 < 128 then (some 2) else (some 3)) = some r := by rw [if_neg (show ¬ (false = true) by decide)] at H; exact H
              clear H
              have H := H1
              clear H1
              by_cases c9 : a0 < 128
              · rw [if_pos c9] at H
                have c9b0 : decide (a0 < 128) = true := decide_eq_true c9
                clear c9
                obtain rfl := Option.some.inj H
                go_wp2
                go_ret
                exact ⟨by first | rfl | (simp; done) | (simp [*]; done), by repeat (first | exact Drawn0.refl _ | apply Drawn0.step)⟩
              · rw [if_neg c9] at H
                have c9b0 : decide (a0 < 128) = false := decide_eq_false c9
                clear c9
                obtain rfl := Option.some.inj H
                go_wp2
                go_ret
                exact ⟨by first | rfl | (simp; done) | (simp [*]; done), by repeat (first | exact Drawn0.refl _ | apply Drawn0.step)⟩

-- wire_ReadInt: function 103: its contract is given by hand

-- NOT PRINTED: function 76 (log_block)

/-! ### tributaryref8_Blocks: function 83 -/
def tributaryref8_Blocks.f (a0 : Int) : Option (Int) := if a0 < 0 then (some 0) else (some (mx (wrap64 ((wrap64 (Int.tdiv a0 56)) + (mn (Int.tmod a0 56) 1))) 1))
set_option maxHeartbeats 8000000 in
set_option maxRecDepth 100000 in
theorem tributaryref8_Blocks.calls (a0 : Int) (r : Int) (w : World) (h : tributaryref8_Blocks.f a0 = some r) :
    Calls Tryd.prog 83 #[.int .i64 a0] w fun e w' => e = .returned (.int .i64 r) ∧ Below w.heap.size w w' := by
  have HB := Aside0.mk (Below.refl w.heap.size w)
  have H : (if a0 < 0 then (some 0) else (some (mx (wrap64 ((wrap64 (Int.tdiv a0 56)) + (mn (Int.tmod a0 56) 1))) 1))) = some r := h
  clear h
  by_cases c2 : a0 < 0
  · rw [if_pos c2] at H
    have c2b0 : decide (a0 < 0) = true := decide_eq_true c2
    clear c2
    obtain rfl := Option.some.inj H
    go_enter Tryd.func83, Tryd.ntmps83
    go_wp2
    go_ret
    exact ⟨by first | rfl | (simp [errW_none, errW_some] <;> rfl) | (simp [*, errW_none, errW_some] <;> rfl), by repeat (first | (with_reducible first | exact HB.out | apply below_alloc | apply pw_below_drewN | apply below_drew1) | exact HB.out)⟩
  · rw [if_neg c2] at H
    have c2b0 : decide (a0 < 0) = false := decide_eq_false c2
    clear c2
    obtain ⟨ji3, hji3⟩ : ∃ j_ : Int, (mn (Int.tmod a0 56) 1) = j_ := ⟨_, rfl⟩
    replace H : (some (mx (wrap64 ((wrap64 (Int.tdiv a0 56)) + (ji3))) 1)) = some r := by first | (rw [hji3] at H; exact H) | (simp only [hji3] at H ⊢; exact H)
    (try (have hji3h : ji3 ≤ 1 := by (rw [← hji3]; unfold mn; (repeat' split) <;> omega)))
    (try (have hji3g : ji3 ≤ 64 := by omega))
    have hji3_ : (if 1 < (Int.tmod a0 56) then 1 else (Int.tmod a0 56)) = ji3 := hji3
    obtain ⟨ji4, hji4⟩ : ∃ j_ : Int, (mx (wrap64 ((wrap64 (Int.tdiv a0 56)) + (ji3))) 1) = j_ := ⟨_, rfl⟩
    replace H : (some ji4) = some r := by first | (rw [hji4] at H; exact H) | (simp only [hji4] at H ⊢; exact H)
    have hji4_ : (if (wrap64 ((wrap64 (Int.tdiv a0 56)) + (ji3))) < 1 then 1 else (wrap64 ((wrap64 (Int.tdiv a0 56)) + (ji3)))) = ji4 := hji4
    obtain rfl := Option.some.inj H
    go_enter Tryd.func83, Tryd.ntmps83
    go_wp2
    go_ret
    exact ⟨by first | rfl | (simp [errW_none, errW_some] <;> rfl) | (simp only [← hji3, ← hji4]; first | rfl | (simp [errW_none, errW_some] <;> rfl)) | (simp [*, errW_none, errW_some] <;> rfl), by repeat (first | (with_reducible first | exact HB.out | apply below_alloc | apply pw_below_drewN | apply below_drew1) | exact HB.out)⟩

/-! ### tributaryref8_Block: function 84 -/
def tributaryref8_Block.f (k : Nat) (a0 : Int) (a1 : Int) (l2 : List Int) : Option (List Int) := (tributaryref8_Blocks.f (l2.length : Int)).bind fun t192 => (if a1 = (wrap64 (t192 - 1)) then ((tributaryref1_Int.f k a0).bind fun t193 => ((tributaryref1_Int.f k a1).bind fun t196 => (if t193.length + t196.length < 140737488355328 then ((some (t193 ++ t196 : List Int)).bind fun y199 => ((tributaryref1_Int.f k 1).bind fun t202 => (if y199.length + t202.length < 140737488355328 then ((some (y199 ++ t202 : List Int)).bind fun y205 => (if 0 ≤ (mn (wrap64 (56 * a1)) (l2.length : Int)) then (if (mn (wrap64 (56 * a1)) (l2.length : Int)) ≤ (mn (wrap64 ((wrap64 (56 * a1)) + 56)) (l2.length : Int)) then (if (mn (wrap64 ((wrap64 (56 * a1)) + 56)) (l2.length : Int)) ≤ (l2.length : Int) then (if y205.length + ((l2.take ((mn (wrap64 ((wrap64 (56 * a1)) + 56)) (l2.length : Int)) : Int).toNat).drop ((mn (wrap64 (56 * a1)) (l2.length : Int)) : Int).toNat).length < 140737488355328 then (some (y205 ++ ((l2.take ((mn (wrap64 ((wrap64 (56 * a1)) + 56)) (l2.length : Int)) : Int).toNat).drop ((mn (wrap64 (56 * a1)) (l2.length : Int)) : Int).toNat))) else (none)) else (none)) else (none)) else (none))) else (none)))) else (none)))) else ((tributaryref1_Int.f k a0).bind fun t212 => ((tributaryref1_Int.f k a1).bind fun t215 => (if t212.length + t215.length < 140737488355328 then ((some (t212 ++ t215 : List Int)).bind fun y218 => ((tributaryref1_Int.f k 0).bind fun t221 => (if y218.length + t221.length < 140737488355328 then ((some (y218 ++ t221 : List Int)).bind fun y224 => (if 0 ≤ (mn (wrap64 (56 * a1)) (l2.length : Int)) then (if (mn (wrap64 (56 * a1)) (l2.length : Int)) ≤ (mn (wrap64 ((wrap64 (56 * a1)) + 56)) (l2.length : Int)) then (if (mn (wrap64 ((wrap64 (56 * a1)) + 56)) (l2.length : Int)) ≤ (l2.length : Int) then (if y224.length + ((l2.take ((mn (wrap64 ((wrap64 (56 * a1)) + 56)) (l2.length : Int)) : Int).toNat).drop ((mn (wrap64 (56 * a1)) (l2.length : Int)) : Int).toNat).length < 140737488355328 then (some (y224 ++ ((l2.take ((mn (wrap64 ((wrap64 (56 * a1)) + 56)) (l2.length : Int)) : Int).toNat).drop ((mn (wrap64 (56 * a1)) (l2.length : Int)) : Int).toNat))) else (none)) else (none)) else (none)) else (none))) else (none)))) else (none)))))
theorem tributaryref8_Block.mono : ∀ a0 a1 a2 k, LeO (tributaryref8_Block.f k a0 a1 a2) (tributaryref8_Block.f (k + 1) a0 a1 a2) := by
  intro a0 a1 a2 k
  unfold tributaryref8_Block.f
  repeat' first
      | (with_reducible exact tributaryref1_Int.mono _ _)
      | (with_reducible exact LeO.refl _)
      | (with_reducible exact LeO.none _)
      | (with_reducible refine LeO.ite ?_ ?_)
      | (with_reducible refine LeO.bind ?_ (fun _ => ?_))
      | exact tributaryref1_Int.mono _ _
      | exact LeO.none _
      | refine LeO.ite ?_ ?_
      | refine LeO.bind ?_ (fun _ => ?_)
set_option maxHeartbeats 8000000 in
set_option maxRecDepth 100000 in
theorem tributaryref8_Block.calls (k : Nat) (a0 : Int) (a1 : Int) (A2 : Option Addr) (c2 : Nat) (l2 : List Int) (r : List Int) (w : World) (hr2 : Kd.C (Kd.int .u8) w A2 l2.length l2) (hc2 : l2.length ≤ c2) (h : tributaryref8_Block.f k a0 a1 l2 = some r) :
    Calls Tryd.prog 84 #[.int .i64 a0, .int .i64 a1, .slice A2 l2.length c2] w fun e w' => ∃ v0_ : Value, e = .returned (v0_) ∧ Kd.R (Kd.int .u8) 5 w' w.heap.size (fun _ => True) v0_ r ∧ Below w.heap.size w w' := by
  have HR2 := Aside0.mk hr2
  have HC2 := Aside0.mk hc2
  clear hr2 hc2
  have HB := Aside0.mk (Below.refl w.heap.size w)
  have H : ((tributaryref8_Blocks.f (l2.length : Int)).bind fun t192 => (if a1 = (wrap64 (t192 - 1)) then ((tributaryref1_Int.f k a0).bind fun t193 => ((tributaryref1_Int.f k a1).bind fun t196 => (if t193.length + t196.length < 140737488355328 then ((some (t193 ++ t196 : List Int)).bind fun y199 => ((tributaryref1_Int.f k 1).bind fun t202 => (if y199.length + t202.length < 140737488355328 then ((some (y199 ++ t202 : List Int)).bind fun y205 => (if 0 ≤ (mn (wrap64 (56 * a1)) (l2.length : Int)) then (if (mn (wrap64 (56 * a1)) (l2.length : Int)) ≤ (mn (wrap64 ((wrap64 (56 * a1)) + 56)) (l2.length : Int)) then (if (mn (wrap64 ((wrap64 (56 * a1)) + 56)) (l2.length : Int)) ≤ (l2.length : Int) then (if y205.length + ((l2.take ((mn (wrap64 ((wrap64 (56 * a1)) + 56)) (l2.length : Int)) : Int).toNat).drop ((mn (wrap64 (56 * a1)) (l2.length : Int)) : Int).toNat).length < 140737488355328 then (some (y205 ++ ((l2.take ((mn (wrap64 ((wrap64 (56 * a1)) + 56)) (l2.length : Int)) : Int).toNat).drop ((mn (wrap64 (56 * a1)) (l2.length : Int)) : Int).toNat))) else (none)) else (none)) else (none)) else (none))) else (none)))) else (none)))) else ((tributaryref1_Int.f k a0).bind fun t212 => ((tributaryref1_Int.f k a1).bind fun t215 => (if t212.length + t215.length < 140737488355328 then ((some (t212 ++ t215 : List Int)).bind fun y218 => ((tributaryref1_Int.f k 0).bind fun t221 => (if y218.length + t221.length < 140737488355328 then ((some (y218 ++ t221 : List Int)).bind fun y224 => (if 0 ≤ (mn (wrap64 (56 * a1)) (l2.length : Int)) then (if (mn (wrap64 (56 * a1)) (l2.length : Int)) ≤ (mn (wrap64 ((wrap64 (56 * a1)) + 56)) (l2.length : Int)) then (if (mn (wrap64 ((wrap64 (56 * a1)) + 56)) (l2.length : Int)) ≤ (l2.length : Int) then (if y224.length + ((l2.take ((mn (wrap64 ((wrap64 (56 * a1)) + 56)) (l2.length : Int)) : Int).toNat).drop ((mn (wrap64 (56 * a1)) (l2.length : Int)) : Int).toNat).length < 140737488355328 then (some (y224 ++ ((l2.take ((mn (wrap64 ((wrap64 (56 * a1)) + 56)) (l2.length : Int)) : Int).toNat).drop ((mn (wrap64 (56 * a1)) (l2.length : Int)) : Int).toNat))) else (none)) else (none)) else (none)) else (none))) else (none)))) else (none)))))) = some r := h
  clear h
  replace H := Option.bind_eq_some_iff.mp H
  obtain ⟨t192, A40, H⟩ := H
  replace H : (if a1 = (wrap64 (t192 - 1)) then ((tributaryref1_Int.f k a0).bind fun t193 => ((tributaryref1_Int.f k a1).bind fun t196 => (if t193.length + t196.length < 140737488355328 then ((some (t193 ++ t196 : List Int)).bind fun y199 => ((tributaryref1_Int.f k 1).bind fun t202 => (if y199.length + t202.length < 140737488355328 then ((some (y199 ++ t202 : List Int)).bind fun y205 => (if 0 ≤ (mn (wrap64 (56 * a1)) (l2.length : Int)) then (if (mn (wrap64 (56 * a1)) (l2.length : Int)) ≤ (mn (wrap64 ((wrap64 (56 * a1)) + 56)) (l2.length : Int)) then (if (mn (wrap64 ((wrap64 (56 * a1)) + 56)) (l2.length : Int)) ≤ (l2.length : Int) then (if y205.length + ((l2.take ((mn (wrap64 ((wrap64 (56 * a1)) + 56)) (l2.length : Int)) : Int).toNat).drop ((mn (wrap64 (56 * a1)) (l2.length : Int)) : Int).toNat).length < 140737488355328 then (some (y205 ++ ((l2.take ((mn (wrap64 ((wrap64 (56 * a1)) + 56)) (l2.length : Int)) : Int).toNat).drop ((mn (wrap64 (56 * a1)) (l2.length : Int)) : Int).toNat))) else (none)) else (none)) else (none)) else (none))) else (none)))) else (none)))) else ((tributaryref1_Int.f k a0).bind fun t212 => ((tributaryref1_Int.f k a1).bind fun t215 => (if t212.length + t215.length < 140737488355328 then ((some (t212 ++ t215 : List Int)).bind fun y218 => ((tributaryref1_Int.f k 0).bind fun t221 => (if y218.length + t221.length < 140737488355328 then ((some (y218 ++ t221 : List Int)).bind fun y224 => (if 0 ≤ (mn (wrap64 (56 * a1)) (l2.length : Int)) then (if (mn (wrap64 (56 * a1)) (l2.length : Int)) ≤ (mn (wrap64 ((wrap64 (56 * a1)) + 56)) (l2.length : Int)) then (if (mn (wrap64 ((wrap64 (56 * a1)) + 56)) (l2.length : Int)) ≤ (l2.length : Int) then (if y224.length + ((l2.take ((mn (wrap64 ((wrap64 (56 * a1)) + 56)) (l2.length : Int)) : Int).toNat).drop ((mn (wrap64 (56 * a1)) (l2.length : Int)) : Int).toNat).length < 140737488355328 then (some (y224 ++ ((l2.take ((mn (wrap64 ((wrap64 (56 * a1)) + 56)) (l2.length : Int)) : Int).toNat).drop ((mn (wrap64 (56 * a1)) (l2.length : Int)) : Int).toNat))) else (none)) else (none)) else (none)) else (none))) else (none)))) else (none))))) = some r := H
  have A4 := Aside0.mk A40
  clear A40
  by_cases c5 : a1 = (wrap64 (t192 - 1))
  · rw [if_pos c5] at H
    have c5b0 : (a1 == (wrap64 (t192 - 1))) = true := beq_iff_eq.mpr c5
    have c5b1 : (a1 != (wrap64 (t192 - 1))) = false := bne_eq_false_iff_eq.mpr c5
    clear c5
    replace H := Option.bind_eq_some_iff.mp H
    obtain ⟨t193, A60, H⟩ := H
    replace H : ((tributaryref1_Int.f k a1).bind fun t196 => (if t193.length + t196.length < 140737488355328 then ((some (t193 ++ t196 : List Int)).bind fun y199 => ((tributaryref1_Int.f k 1).bind fun t202 => (if y199.length + t202.length < 140737488355328 then ((some (y199 ++ t202 : List Int)).bind fun y205 => (if 0 ≤ (mn (wrap64 (56 * a1)) (l2.length : Int)) then (if (mn (wrap64 (56 * a1)) (l2.length : Int)) ≤ (mn (wrap64 ((wrap64 (56 * a1)) + 56)) (l2.length : Int)) then (if (mn (wrap64 ((wrap64 (56 * a1)) + 56)) (l2.length : Int)) ≤ (l2.length : Int) then (if y205.length + ((l2.take ((mn (wrap64 ((wrap64 (56 * a1)) + 56)) (l2.length : Int)) : Int).toNat).drop ((mn (wrap64 (56 * a1)) (l2.length : Int)) : Int).toNat).length < 140737488355328 then (some (y205 ++ ((l2.take ((mn (wrap64 ((wrap64 (56 * a1)) + 56)) (l2.length : Int)) : Int).toNat).drop ((mn (wrap64 (56 * a1)) (l2.length : Int)) : Int).toNat))) else (none)) else (none)) else (none)) else (none))) else (none)))) else (none))) = some r := H
    have A6 := Aside0.mk A60
    clear A60
    replace H := Option.bind_eq_some_iff.mp H
    obtain ⟨t196, A70, H⟩ := H
    replace H : (if t193.length + t196.length < 140737488355328 then ((some (t193 ++ t196 : List Int)).bind fun y199 => ((tributaryref1_Int.f k 1).bind fun t202 => (if y199.length + t202.length < 140737488355328 then ((some (y199 ++ t202 : List Int)).bind fun y205 => (if 0 ≤ (mn (wrap64 (56 * a1)) (l2.length : Int)) then (if (mn (wrap64 (56 * a1)) (l2.length : Int)) ≤ (mn (wrap64 ((wrap64 (56 * a1)) + 56)) (l2.length : Int)) then (if (mn (wrap64 ((wrap64 (56 * a1)) + 56)) (l2.length : Int)) ≤ (l2.length : Int) then (if y205.length + ((l2.take ((mn (wrap64 ((wrap64 (56 * a1)) + 56)) (l2.length : Int)) : Int).toNat).drop ((mn (wrap64 (56 * a1)) (l2.length : Int)) : Int).toNat).length < 140737488355328 then (some (y205 ++ ((l2.take ((mn (wrap64 ((wrap64 (56 * a1)) + 56)) (l2.length : Int)) : Int).toNat).drop ((mn (wrap64 (56 * a1)) (l2.length : Int)) : Int).toNat))) else (none)) else (none)) else (none)) else (none))) else (none)))) else (none)) = some r := H
    have A7 := Aside0.mk A70
    clear A70
    by_cases c8 : t193.length + t196.length < 140737488355328
    · rw [if_pos c8] at H
      have LMc8 := Aside0.mk c8
      clear c8
      obtain ⟨y199, hy199⟩ : ∃ y_ : List Int, y_ = (t193 ++ t196) := ⟨_, rfl⟩
      replace H : ((tributaryref1_Int.f k 1).bind fun t202 => (if y199.length + t202.length < 140737488355328 then ((some (y199 ++ t202 : List Int)).bind fun y205 => (if 0 ≤ (mn (wrap64 (56 * a1)) (l2.length : Int)) then (if (mn (wrap64 (56 * a1)) (l2.length : Int)) ≤ (mn (wrap64 ((wrap64 (56 * a1)) + 56)) (l2.length : Int)) then (if (mn (wrap64 ((wrap64 (56 * a1)) + 56)) (l2.length : Int)) ≤ (l2.length : Int) then (if y205.length + ((l2.take ((mn (wrap64 ((wrap64 (56 * a1)) + 56)) (l2.length : Int)) : Int).toNat).drop ((mn (wrap64 (56 * a1)) (l2.length : Int)) : Int).toNat).length < 140737488355328 then (some (y205 ++ ((l2.take ((mn (wrap64 ((wrap64 (56 * a1)) + 56)) (l2.length : Int)) : Int).toNat).drop ((mn (wrap64 (56 * a1)) (l2.length : Int)) : Int).toNat))) else (none)) else (none)) else (none)) else (none))) else (none))) = some r := by first | (rw [hy199]; with_reducible exact H) | (have H2_ := (Option.bind_some _ _).symm.trans H; rw [hy199]; with_reducible exact H2_) | (have H2_ := (Option.bind_some _ _).symm.trans H; with_reducible exact H2_) | with_reducible exact H | (rw [hy199]; exact H) | exact H
      have Ny199 := Aside0.mk hy199
      clear hy199
      replace H := Option.bind_eq_some_iff.mp H
      obtain ⟨t202, A90, H⟩ := H
      replace H : (if y199.length + t202.length < 140737488355328 then ((some (y199 ++ t202 : List Int)).bind fun y205 => (if 0 ≤ (mn (wrap64 (56 * a1)) (l2.length : Int)) then (if (mn (wrap64 (56 * a1)) (l2.length : Int)) ≤ (mn (wrap64 ((wrap64 (56 * a1)) + 56)) (l2.length : Int)) then (if (mn (wrap64 ((wrap64 (56 * a1)) + 56)) (l2.length : Int)) ≤ (l2.length : Int) then (if y205.length + ((l2.take ((mn (wrap64 ((wrap64 (56 * a1)) + 56)) (l2.length : Int)) : Int).toNat).drop ((mn (wrap64 (56 * a1)) (l2.length : Int)) : Int).toNat).length < 140737488355328 then (some (y205 ++ ((l2.take ((mn (wrap64 ((wrap64 (56 * a1)) + 56)) (l2.length : Int)) : Int).toNat).drop ((mn (wrap64 (56 * a1)) (l2.length : Int)) : Int).toNat))) else (none)) else (none)) else (none)) else (none))) else (none)) = some r := H
      have A9 := Aside0.mk A90
      clear A90
      by_cases c10 : y199.length + t202.length < 140737488355328
      · rw [if_pos c10] at H
        have LMc10 := Aside0.mk c10
        clear c10
        obtain ⟨y205, hy205⟩ : ∃ y_ : List Int, y_ = (y199 ++ t202) := ⟨_, rfl⟩
        replace H : (if 0 ≤ (mn (wrap64 (56 * a1)) (l2.length : Int)) then (if (mn (wrap64 (56 * a1)) (l2.length : Int)) ≤ (mn (wrap64 ((wrap64 (56 * a1)) + 56)) (l2.length : Int)) then (if (mn (wrap64 ((wrap64 (56 * a1)) + 56)) (l2.length : Int)) ≤ (l2.length : Int) then (if y205.length + ((l2.take ((mn (wrap64 ((wrap64 (56 * a1)) + 56)) (l2.length : Int)) : Int).toNat).drop ((mn (wrap64 (56 * a1)) (l2.length : Int)) : Int).toNat).length < 140737488355328 then (some (y205 ++ ((l2.take ((mn (wrap64 ((wrap64 (56 * a1)) + 56)) (l2.length : Int)) : Int).toNat).drop ((mn (wrap64 (56 * a1)) (l2.length : Int)) : Int).toNat))) else (none)) else (none)) else (none)) else (none)) = some r := by first | (rw [hy205]; with_reducible exact H) | (have H2_ := (Option.bind_some _ _).symm.trans H; rw [hy205]; with_reducible exact H2_) | (have H2_ := (Option.bind_some _ _).symm.trans H; with_reducible exact H2_) | with_reducible exact H | (rw [hy205]; exact H) | exact H
        have Ny205 := Aside0.mk hy205
        clear hy205
        obtain ⟨ji11, hji11⟩ : ∃ j_ : Int, (mn (wrap64 (56 * a1)) (l2.length : Int)) = j_ := ⟨_, rfl⟩
        replace H : (if 0 ≤ (ji11) then (if (ji11) ≤ (mn (wrap64 ((wrap64 (56 * a1)) + 56)) (l2.length : Int)) then (if (mn (wrap64 ((wrap64 (56 * a1)) + 56)) (l2.length : Int)) ≤ (l2.length : Int) then (if y205.length + ((l2.take ((mn (wrap64 ((wrap64 (56 * a1)) + 56)) (l2.length : Int)) : Int).toNat).drop ((ji11) : Int).toNat).length < 140737488355328 then (some (y205 ++ ((l2.take ((mn (wrap64 ((wrap64 (56 * a1)) + 56)) (l2.length : Int)) : Int).toNat).drop ((ji11) : Int).toNat))) else (none)) else (none)) else (none)) else (none)) = some r := by first | (rw [hji11] at H; exact H) | (simp only [hji11] at H ⊢; exact H)
        (try rw [hji11] at A4)
        (try rw [hji11] at A6)
        (try rw [hji11] at A7)
        (try rw [hji11] at A9)
        have hji11_ : (if (l2.length : Int) < (wrap64 (56 * a1)) then (l2.length : Int) else (wrap64 (56 * a1))) = ji11 := hji11
        obtain ⟨ji12, hji12⟩ : ∃ j_ : Int, (mn (wrap64 ((wrap64 (56 * a1)) + 56)) (l2.length : Int)) = j_ := ⟨_, rfl⟩
        replace H : (if 0 ≤ (ji11) then (if (ji11) ≤ (ji12) then (if (ji12) ≤ (l2.length : Int) then (if y205.length + ((l2.take ((ji12) : Int).toNat).drop ((ji11) : Int).toNat).length < 140737488355328 then (some (y205 ++ ((l2.take ((ji12) : Int).toNat).drop ((ji11) : Int).toNat))) else (none)) else (none)) else (none)) else (none)) = some r := by first | (rw [hji12] at H; exact H) | (simp only [hji12] at H ⊢; exact H)
        (try rw [hji12] at A4)
        (try rw [hji12] at A6)
        (try rw [hji12] at A7)
        (try rw [hji12] at A9)
        have hji12_ : (if (l2.length : Int) < (wrap64 ((wrap64 (56 * a1)) + 56)) then (l2.length : Int) else (wrap64 ((wrap64 (56 * a1)) + 56))) = ji12 := hji12
        by_cases c13 : 0 ≤ (ji11)
        · rw [if_pos c13] at H
          have c13b0 := eq_true c13
          have c13b1 : decide (0 ≤ (ji11)) = true := decide_eq_true c13
          clear c13
          by_cases c14 : (ji11) ≤ (ji12)
          · rw [if_pos c14] at H
            have c14b0 := eq_true c14
            have c14b1 : decide ((ji11) ≤ (ji12)) = true := decide_eq_true c14
            clear c14
            by_cases c15 : (ji12) ≤ (l2.length : Int)
            · rw [if_pos c15] at H
              have c15b0 := eq_true c15
              have c15b1 : decide ((ji12) ≤ (l2.length : Int)) = true := decide_eq_true c15
              clear c15
              by_cases c16 : y205.length + ((l2.take ((ji12) : Int).toNat).drop ((ji11) : Int).toNat).length < 140737488355328
              · rw [if_pos c16] at H
                have LMc16 := Aside0.mk c16
                clear c16
                obtain ⟨y209, hy209⟩ : ∃ y_ : List Int, y_ = (y205 ++ ((l2.take ((ji12) : Int).toNat).drop ((ji11) : Int).toNat)) := ⟨_, rfl⟩
                replace H : (some y209) = some r := by first | (rw [hy209]; with_reducible exact H) | (have H2_ := (Option.bind_some _ _).symm.trans H; rw [hy209]; with_reducible exact H2_) | (have H2_ := (Option.bind_some _ _).symm.trans H; with_reducible exact H2_) | with_reducible exact H | (rw [hy209]; exact H) | exact H
                have Ny209 := Aside0.mk hy209
                clear hy209
                obtain rfl := Option.some.inj H
                go_enter Tryd.func84, Tryd.ntmps84
                go_wp2_with (first | ((with_reducible refine gate_callee (f := 83) rfl ?_); refine goesL_ (some 12) rfl rfl Tryd.func83 (by kernel_rfl) rfl #[.int .i64 (l2.length : Int)] rfl (by (try simp only [List.map_toArray, List.map_cons, List.map_nil]); first | done | rfl | (simp only [List.length_drop, List.length_take]; rfl)) ?_; (with_reducible refine (tributaryref8_Blocks.calls (l2.length : Int) t192 _ A4.out).mono ?_); rintro e w17 ⟨rfl, hb⟩; refine ⟨_, rfl, ?_⟩; have n0_ := Aside0.mk (below_step (by repeat (first | (with_reducible first | exact HB.out | apply below_alloc | apply pw_below_drewN | apply below_drew1) | exact HB.out)) hb); clear HB; have HB := n0_; clear n0_; (try clear hb); (try clear hb2); (try clear hk); (try clear hi)) | ((with_reducible refine gate_callee (f := 101) rfl ?_); refine goesL_ (some 16) rfl rfl Tryd.func101 (by kernel_rfl) rfl #[.int .i64 a0] rfl (by (try simp only [List.map_toArray, List.map_cons, List.map_nil]); first | done | rfl | (simp only [List.length_drop, List.length_take]; rfl)) ?_; (with_reducible refine (tributaryref1_Int.calls k a0 t193 _ A6.out).mono ?_); rintro e w18 ⟨v194, rfl, ho0, hb⟩; refine ⟨_, rfl, ?_⟩; have n0_ := Aside0.mk (Kd.R_lower ho0 (below_size (by repeat (first | (with_reducible first | exact HB.out | apply below_alloc | apply pw_below_drewN | apply below_drew1) | exact HB.out)))); have n1_ := Aside0.mk (below_step (by repeat (first | (with_reducible first | exact HB.out | apply below_alloc | apply pw_below_drewN | apply below_drew1) | exact HB.out)) hb); clear HB; have HO195 := n0_; have HB := n1_; clear n0_ n1_; (try clear hb); (try clear hb2); (try clear hk); (try clear hi); (try clear ho0)) | ((with_reducible refine gate_callee (f := 101) rfl ?_); refine goesL_ (some 19) rfl rfl Tryd.func101 (by kernel_rfl) rfl #[.int .i64 a1] rfl (by (try simp only [List.map_toArray, List.map_cons, List.map_nil]); first | done | rfl | (simp only [List.length_drop, List.length_take]; rfl)) ?_; (with_reducible refine (tributaryref1_Int.calls k a1 t196 _ A7.out).mono ?_); rintro e w19 ⟨v197, rfl, ho0, hb⟩; refine ⟨_, rfl, ?_⟩; have n0_ := Aside0.mk (Kd.R_elder' (by (with_reducible repeat (first | apply Kd.R_alloc | apply Kd.R_drewN | apply Kd.R_drew)); exact HO195.out) (Kd.R_base ho0) hb); have n1_ := Aside0.mk (Kd.R_lower (Kd.R_new' ho0 (Kd.R_lt (by (with_reducible repeat (first | apply Kd.R_alloc | apply Kd.R_drewN | apply Kd.R_drew)); exact HO195.out))) (below_size (by repeat (first | (with_reducible first | exact HB.out | apply below_alloc | apply pw_below_drewN | apply below_drew1) | exact HB.out)))); have n2_ := Aside0.mk (below_step (by repeat (first | (with_reducible first | exact HB.out | apply below_alloc | apply pw_below_drewN | apply below_drew1) | exact HB.out)) hb); clear HO195; clear HB; have HO195 := n0_; have HO198 := n1_; have HB := n2_; clear n0_ n1_ n2_; (try clear hb); (try clear hb2); (try clear hk); (try clear hi); (try clear ho0); obtain ⟨Ao21, co21, eo21⟩ := Kd.R_slice HO198.out; subst eo21) | ((with_reducible refine gate_builtin (b := .append) (xs := #[.tmp 17, .tmp 19]) rfl ?_); at_builtin; refine Kd.R_append_rows (Kd.int .u8) (w0 := w) w.heap.size rfl (.tmp 17) (.tmp 19) 30 5 (.int .u8 0) 1 rfl Tryd.underlying30 info5 rfl (by decide) (by omega) v194 t193 t196 _ _ _ (fun k_ => some k_ ≠ (.slice Ao21 t196.length co21 : Value).ownBlock) (fun _ => False) rfl rfl ?aO ?aR (fun _ _ h => h) (fun _ h => h.elim) ?aF ?aB ?aS ?aL ?_; (case aR => repeat (first | exact (Kd.R_reads' HO198.out).2.2 | (with_reducible refine Kd.C_alloc ?_ _) | (with_reducible refine Kd.C_drewN ?_ _) | (with_reducible refine Kd.C_drew ?_))); (case aB => exact (by repeat (first | (with_reducible first | exact HB.out | apply below_alloc | apply pw_below_drewN | apply below_drew1) | exact HB.out))); (case aF => exact (fun k_ hk => Kd.fresh' (Kd.R_lt (by (with_reducible repeat (first | apply Kd.R_alloc | apply Kd.R_drewN | apply Kd.R_drew)); exact HO198.out)) k_ hk)); (case aO => exact (by (with_reducible repeat (first | apply Kd.R_alloc | apply Kd.R_drewN | apply Kd.R_drew)); exact Kd.R_mono HO195.out (fun _ hk => hk.2))); (case aS => exact (below_size (by repeat (first | (with_reducible first | exact HB.out | apply below_alloc | apply pw_below_drewN | apply below_drew1) | exact HB.out)))); (case aL => have := LMc8.out; omega); intro v200 w20 ho hb hg hat; rw [← Ny199.out] at ho; have n0_ := Aside0.mk (Kd.R_after (ok := (fun _ => True)) (by (with_reducible repeat (first | apply Kd.R_alloc | apply Kd.R_drewN | apply Kd.R_drew)); exact HO198.out) hg hat); have n1_ := Aside0.mk (hb); have n2_ := Aside0.mk (ho); clear HO198; clear HB; clear HO195; have HO198 := n0_; have HB := n1_; have HO201 := n2_; clear n0_ n1_ n2_; clear ho hb hg hat) | ((with_reducible refine gate_callee (f := 101) rfl ?_); refine goesL_ (some 23) rfl rfl Tryd.func101 (by kernel_rfl) rfl #[.int .i64 1] rfl (by (try simp only [List.map_toArray, List.map_cons, List.map_nil]); first | done | rfl | (simp only [List.length_drop, List.length_take]; rfl)) ?_; (with_reducible refine (tributaryref1_Int.calls k 1 t202 _ A9.out).mono ?_); rintro e w22 ⟨v203, rfl, ho0, hb⟩; refine ⟨_, rfl, ?_⟩; have n0_ := Aside0.mk (Kd.R_elder' (by (with_reducible repeat (first | apply Kd.R_alloc | apply Kd.R_drewN | apply Kd.R_drew)); exact HO198.out) (Kd.R_base ho0) hb); have n1_ := Aside0.mk (Kd.R_elder' (by (with_reducible repeat (first | apply Kd.R_alloc | apply Kd.R_drewN | apply Kd.R_drew)); exact HO201.out) (Kd.R_base ho0) hb); have n2_ := Aside0.mk (Kd.R_lower (Kd.R_new' (Kd.R_new' ho0 (Kd.R_lt (by (with_reducible repeat (first | apply Kd.R_alloc | apply Kd.R_drewN | apply Kd.R_drew)); exact HO198.out))) (Kd.R_lt (by (with_reducible repeat (first | apply Kd.R_alloc | apply Kd.R_drewN | apply Kd.R_drew)); exact HO201.out))) (below_size (by repeat (first | (with_reducible first | exact HB.out | apply below_alloc | apply pw_below_drewN | apply below_drew1) | exact HB.out)))); have n3_ := Aside0.mk (below_step (by repeat (first | (with_reducible first | exact HB.out | apply below_alloc | apply pw_below_drewN | apply below_drew1) | exact HB.out)) hb); clear HO198; clear HO201; clear HB; have HO198 := n0_; have HO201 := n1_; have HO204 := n2_; have HB := n3_; clear n0_ n1_ n2_ n3_; (try clear hb); (try clear hb2); (try clear hk); (try clear hi); (try clear ho0); obtain ⟨Ao24, co24, eo24⟩ := Kd.R_slice HO204.out; subst eo24) | ((with_reducible refine gate_builtin (b := .append) (xs := #[.tmp 21, .tmp 23]) rfl ?_); at_builtin; refine Kd.R_append_rows (Kd.int .u8) (w0 := w) w.heap.size rfl (.tmp 21) (.tmp 23) 30 5 (.int .u8 0) 1 rfl Tryd.underlying30 info5 rfl (by decide) (by omega) v200 y199 t202 _ _ _ (fun k_ => some k_ ≠ (.slice Ao21 t196.length co21 : Value).ownBlock ∧ some k_ ≠ (.slice Ao24 t202.length co24 : Value).ownBlock) (fun _ => False) rfl rfl ?aO ?aR (fun _ _ h => h) (fun _ h => h.elim) ?aF ?aB ?aS ?aL ?_; (case aR => repeat (first | exact (Kd.R_reads' HO204.out).2.2 | (with_reducible refine Kd.C_alloc ?_ _) | (with_reducible refine Kd.C_drewN ?_ _) | (with_reducible refine Kd.C_drew ?_))); (case aB => exact (by repeat (first | (with_reducible first | exact HB.out | apply below_alloc | apply pw_below_drewN | apply below_drew1) | exact HB.out))); (case aF => exact (fun k_ hk => ⟨Kd.fresh' (Kd.R_lt (by (with_reducible repeat (first | apply Kd.R_alloc | apply Kd.R_drewN | apply Kd.R_drew)); exact HO198.out)) k_ hk, Kd.fresh' (Kd.R_lt (by (with_reducible repeat (first | apply Kd.R_alloc | apply Kd.R_drewN | apply Kd.R_drew)); exact HO204.out)) k_ hk⟩)); (case aO => exact (by (with_reducible repeat (first | apply Kd.R_alloc | apply Kd.R_drewN | apply Kd.R_drew)); exact HO201.out)); (case aS => exact (below_size (by repeat (first | (with_reducible first | exact HB.out | apply below_alloc | apply pw_below_drewN | apply below_drew1) | exact HB.out)))); (case aL => have := LMc10.out; omega); intro v206 w23 ho hb hg hat; rw [← Ny205.out] at ho; have n0_ := Aside0.mk (Kd.R_after (ok := (fun k_ => some k_ ≠ (.slice Ao24 t202.length co24 : Value).ownBlock)) (by (with_reducible repeat (first | apply Kd.R_alloc | apply Kd.R_drewN | apply Kd.R_drew)); exact Kd.R_mono HO198.out (fun _ hk => ⟨hk.2, hk.1.2⟩)) hg hat); have n1_ := Aside0.mk (Kd.R_after (ok := (fun k_ => some k_ ≠ (.slice Ao21 t196.length co21 : Value).ownBlock)) (by (with_reducible repeat (first | apply Kd.R_alloc | apply Kd.R_drewN | apply Kd.R_drew)); exact Kd.R_mono HO204.out (fun _ hk => ⟨hk.1.2, hk.2⟩)) hg hat); have n2_ := Aside0.mk (hb); have n3_ := Aside0.mk (ho); clear HO198; clear HO204; clear HB; clear HO201; have HO198 := n0_; have HO204 := n1_; have HB := n2_; have HO207 := n3_; clear n0_ n1_ n2_ n3_; clear ho hb hg hat; obtain ⟨i025, hi025, _, hsz25, _⟩ := info_parts info5; obtain ⟨A25, hcut25, hA25, hC25⟩ := print_mid_of (P := Tryd.prog) (Value.int .u8) 0 30 5 .i64 .i64 Tryd.underlying30 hi025 hsz25 A2 c2 l2 (ji11) (ji12) (of_decide_eq_true (by first | (with_reducible assumption) | assumption)) (by first | omega | exact of_decide_eq_true (by first | (with_reducible assumption) | assumption)) (of_decide_eq_true (by first | (with_reducible assumption) | assumption)) HC2.out; have HR208 := Aside0.mk (Kd.C_of_reads (h1 := fun _ => rfl) (hA25 _ (Kd.reads_of_C HR2.out))); have HC208 := Aside0.mk hC25; clear hA25 hC25 hi025 hsz25) | ((with_reducible refine gate_builtin (b := .append) (xs := #[.tmp 25, .tmp 38]) rfl ?_); at_builtin; refine Kd.R_append_rows (Kd.int .u8) (w0 := w) w.heap.size rfl (.tmp 25) (.tmp 38) 30 5 (.int .u8 0) 1 rfl Tryd.underlying30 info5 rfl (by decide) (by omega) v206 y205 ((l2.take ((ji12) : Int).toNat).drop ((ji11) : Int).toNat) _ _ _ (fun k_ => some k_ ≠ (.slice Ao21 t196.length co21 : Value).ownBlock ∧ some k_ ≠ (.slice Ao24 t202.length co24 : Value).ownBlock) (fun _ => False) rfl rfl ?aO ?aR (fun _ _ h => h) (fun _ h => h.elim) ?aF ?aB ?aS ?aL ?_; (case aR => first | (rw [← show ((l2.take ((ji12) : Int).toNat).drop ((ji11) : Int).toNat).length = ((ji12).toNat - (ji11).toNat) from (by rw [List.length_drop, List.length_take]; have h_ : ((ji12) : Int) ≤ (l2.length : Int) := of_decide_eq_true (by first | (with_reducible assumption) | assumption); omega)]; repeat (first | exact (Kd.C_below HR208.out HB.out) | (with_reducible refine Kd.C_alloc ?_ _) | (with_reducible refine Kd.C_drewN ?_ _) | (with_reducible refine Kd.C_drew ?_))) | (repeat (first | exact (Kd.C_below HR208.out HB.out) | (with_reducible refine Kd.C_alloc ?_ _) | (with_reducible refine Kd.C_drewN ?_ _) | (with_reducible refine Kd.C_drew ?_)))); (case aB => exact (by repeat (first | (with_reducible first | exact HB.out | apply below_alloc | apply pw_below_drewN | apply below_drew1) | exact HB.out))); (case aF => exact (fun k_ hk => ⟨Kd.fresh' (Kd.R_lt (by (with_reducible repeat (first | apply Kd.R_alloc | apply Kd.R_drewN | apply Kd.R_drew)); exact HO198.out)) k_ hk, Kd.fresh' (Kd.R_lt (by (with_reducible repeat (first | apply Kd.R_alloc | apply Kd.R_drewN | apply Kd.R_drew)); exact HO204.out)) k_ hk⟩)); (case aO => exact (by (with_reducible repeat (first | apply Kd.R_alloc | apply Kd.R_drewN | apply Kd.R_drew)); exact HO207.out)); (case aS => exact (below_size (by repeat (first | (with_reducible first | exact HB.out | apply below_alloc | apply pw_below_drewN | apply below_drew1) | exact HB.out)))); (case aL => have := LMc16.out; have hlx_ := (show ((l2.take ((ji12) : Int).toNat).drop ((ji11) : Int).toNat).length = ((ji12).toNat - (ji11).toNat) from (by rw [List.length_drop, List.length_take]; have h_ : ((ji12) : Int) ≤ (l2.length : Int) := of_decide_eq_true (by first | (with_reducible assumption) | assumption); omega)); omega); intro v210 w26 ho hb hg hat; rw [← Ny209.out] at ho; have n0_ := Aside0.mk (Kd.R_after (ok := (fun k_ => some k_ ≠ (.slice Ao24 t202.length co24 : Value).ownBlock)) (by (with_reducible repeat (first | apply Kd.R_alloc | apply Kd.R_drewN | apply Kd.R_drew)); exact HO198.out) hg hat); have n1_ := Aside0.mk (Kd.R_after (ok := (fun k_ => some k_ ≠ (.slice Ao21 t196.length co21 : Value).ownBlock)) (by (with_reducible repeat (first | apply Kd.R_alloc | apply Kd.R_drewN | apply Kd.R_drew)); exact HO204.out) hg hat); have n2_ := Aside0.mk (hb); have n3_ := Aside0.mk (ho); clear HO198; clear HO204; clear HB; clear HO207; have HO198 := n0_; have HO204 := n1_; have HB := n2_; have HO211 := n3_; clear n0_ n1_ n2_ n3_; clear ho hb hg hat))
                go_ret
                exact ⟨_, by first | rfl | (simp [errW_none, errW_some] <;> rfl) | (simp only [← hji11, ← hji12]; first | rfl | (simp [errW_none, errW_some] <;> rfl)) | (simp [*, errW_none, errW_some] <;> rfl), by (with_reducible repeat (first | apply Kd.R_alloc | apply Kd.R_drewN | apply Kd.R_drew)); exact Kd.R_mono HO211.out (fun _ hk => trivial), by repeat (first | (with_reducible first | exact HB.out | apply below_alloc | apply pw_below_drewN | apply below_drew1) | exact HB.out)⟩
              · rw [if_neg c16] at H
                exact absurd H (by simp)
            · rw [if_neg c15] at H
              exact absurd H (by simp)
          · rw [if_neg c14] at H
            exact absurd H (by simp)
        · rw [if_neg c13] at H
          exact absurd H (by simp)
      · rw [if_neg c10] at H
        exact absurd H (by simp)
    · rw [if_neg c8] at H
      exact absurd H (by simp)
  · rw [if_neg c5] at H
    have c5b0 : (a1 == (wrap64 (t192 - 1))) = false := beq_eq_false_iff_ne.mpr c5
    have c5b1 : (a1 != (wrap64 (t192 - 1))) = true := bne_iff_ne.mpr c5
    replace H := Option.bind_eq_some_iff.mp H
    obtain ⟨t212, A270, H⟩ := H
    replace H : ((tributaryref1_Int.f k a1).bind fun t215 => (if t212.length + t215.length < 140737488355328 then ((some (t212 ++ t215 : List Int)).bind fun y218 => ((tributaryref1_Int.f k 0).bind fun t221 => (if y218.length + t221.length < 140737488355328 then ((some (y218 ++ t221 : List Int)).bind fun y224 => (if 0 ≤ (mn (wrap64 (56 * a1)) (l2.length : Int)) then (if (mn (wrap64 (56 * a1)) (l2.length : Int)) ≤ (mn (wrap64 ((wrap64 (56 * a1)) + 56)) (l2.length : Int)) then (if (mn (wrap64 ((wrap64 (56 * a1)) + 56)) (l2.length : Int)) ≤ (l2.length : Int) then (if y224.length + ((l2.take ((mn (wrap64 ((wrap64 (56 * a1)) + 56)) (l2.length : Int)) : Int).toNat).drop ((mn (wrap64 (56 * a1)) (l2.length : Int)) : Int).toNat).length < 140737488355328 then (some (y224 ++ ((l2.take ((mn (wrap64 ((wrap64 (56 * a1)) + 56)) (l2.length : Int)) : Int).toNat).drop ((mn (wrap64 (56 * a1)) (l2.length : Int)) : Int).toNat))) else (none)) else (none)) else (none)) else (none))) else (none)))) else (none))) = some r := H
    have A27 := Aside0.mk A270
    clear A270
    replace H := Option.bind_eq_some_iff.mp H
    obtain ⟨t215, A280, H⟩ := H
    replace H : (if t212.length + t215.length < 140737488355328 then ((some (t212 ++ t215 : List Int)).bind fun y218 => ((tributaryref1_Int.f k 0).bind fun t221 => (if y218.length + t221.length < 140737488355328 then ((some (y218 ++ t221 : List Int)).bind fun y224 => (if 0 ≤ (mn (wrap64 (56 * a1)) (l2.length : Int)) then (if (mn (wrap64 (56 * a1)) (l2.length : Int)) ≤ (mn (wrap64 ((wrap64 (56 * a1)) + 56)) (l2.length : Int)) then (if (mn (wrap64 ((wrap64 (56 * a1)) + 56)) (l2.length : Int)) ≤ (l2.length : Int) then (if y224.length + ((l2.take ((mn (wrap64 ((wrap64 (56 * a1)) + 56)) (l2.length : Int)) : Int).toNat).drop ((mn (wrap64 (56 * a1)) (l2.length : Int)) : Int).toNat).length < 140737488355328 then (some (y224 ++ ((l2.take ((mn (wrap64 ((wrap64 (56 * a1)) + 56)) (l2.length : Int)) : Int).toNat).drop ((mn (wrap64 (56 * a1)) (l2.length : Int)) : Int).toNat))) else (none)) else (none)) else (none)) else (none))) else (none)))) else (none)) = some r := H
    have A28 := Aside0.mk A280
    clear A280
    by_cases c29 : t212.length + t215.length < 140737488355328
    · rw [if_pos c29] at H
      have LMc29 := Aside0.mk c29
      clear c29
      obtain ⟨y218, hy218⟩ : ∃ y_ : List Int, y_ = (t212 ++ t215) := ⟨_, rfl⟩
      replace H : ((tributaryref1_Int.f k 0).bind fun t221 => (if y218.length + t221.length < 140737488355328 then ((some (y218 ++ t221 : List Int)).bind fun y224 => (if 0 ≤ (mn (wrap64 (56 * a1)) (l2.length : Int)) then (if (mn (wrap64 (56 * a1)) (l2.length : Int)) ≤ (mn (wrap64 ((wrap64 (56 * a1)) + 56)) (l2.length : Int)) then (if (mn (wrap64 ((wrap64 (56 * a1)) + 56)) (l2.length : Int)) ≤ (l2.length : Int) then (if y224.length + ((l2.take ((mn (wrap64 ((wrap64 (56 * a1)) + 56)) (l2.length : Int)) : Int).toNat).drop ((mn (wrap64 (56 * a1)) (l2.length : Int)) : Int).toNat).length < 140737488355328 then (some (y224 ++ ((l2.take ((mn (wrap64 ((wrap64 (56 * a1)) + 56)) (l2.length : Int)) : Int).toNat).drop ((mn (wrap64 (56 * a1)) (l2.length : Int)) : Int).toNat))) else (none)) else (none)) else (none)) else (none))) else (none))) = some r := by first | (rw [hy218]; with_reducible exact H) | (have H2_ := (Option.bind_some _ _).symm.trans H; rw [hy218]; with_reducible exact H2_) | (have H2_ := (Option.bind_some _ _).symm.trans H; with_reducible exact H2_) | with_reducible exact H | (rw [hy218]; exact H) | exact H
      have Ny218 := Aside0.mk hy218
      clear hy218
      replace H := Option.bind_eq_some_iff.mp H
      obtain ⟨t221, A300, H⟩ := H
      replace H : (if y218.length + t221.length < 140737488355328 then ((some (y218 ++ t221 : List Int)).bind fun y224 => (if 0 ≤ (mn (wrap64 (56 * a1)) (l2.length : Int)) then (if (mn (wrap64 (56 * a1)) (l2.length : Int)) ≤ (mn (wrap64 ((wrap64 (56 * a1)) + 56)) (l2.length : Int)) then (if (mn (wrap64 ((wrap64 (56 * a1)) + 56)) (l2.length : Int)) ≤ (l2.length : Int) then (if y224.length + ((l2.take ((mn (wrap64 ((wrap64 (56 * a1)) + 56)) (l2.length : Int)) : Int).toNat).drop ((mn (wrap64 (56 * a1)) (l2.length : Int)) : Int).toNat).length < 140737488355328 then (some (y224 ++ ((l2.take ((mn (wrap64 ((wrap64 (56 * a1)) + 56)) (l2.length : Int)) : Int).toNat).drop ((mn (wrap64 (56 * a1)) (l2.length : Int)) : Int).toNat))) else (none)) else (none)) else (none)) else (none))) else (none)) = some r := H
      have A30 := Aside0.mk A300
      clear A300
      by_cases c31 : y218.length + t221.length < 140737488355328
      · rw [if_pos c31] at H
        have LMc31 := Aside0.mk c31
        clear c31
        obtain ⟨y224, hy224⟩ : ∃ y_ : List Int, y_ = (y218 ++ t221) := ⟨_, rfl⟩
        replace H : (if 0 ≤ (mn (wrap64 (56 * a1)) (l2.length : Int)) then (if (mn (wrap64 (56 * a1)) (l2.length : Int)) ≤ (mn (wrap64 ((wrap64 (56 * a1)) + 56)) (l2.length : Int)) then (if (mn (wrap64 ((wrap64 (56 * a1)) + 56)) (l2.length : Int)) ≤ (l2.length : Int) then (if y224.length + ((l2.take ((mn (wrap64 ((wrap64 (56 * a1)) + 56)) (l2.length : Int)) : Int).toNat).drop ((mn (wrap64 (56 * a1)) (l2.length : Int)) : Int).toNat).length < 140737488355328 then (some (y224 ++ ((l2.take ((mn (wrap64 ((wrap64 (56 * a1)) + 56)) (l2.length : Int)) : Int).toNat).drop ((mn (wrap64 (56 * a1)) (l2.length : Int)) : Int).toNat))) else (none)) else (none)) else (none)) else (none)) = some r := by first | (rw [hy224]; with_reducible exact H) | (have H2_ := (Option.bind_some _ _).symm.trans H; rw [hy224]; with_reducible exact H2_) | (have H2_ := (Option.bind_some _ _).symm.trans H; with_reducible exact H2_) | with_reducible exact H | (rw [hy224]; exact H) | exact H
        have Ny224 := Aside0.mk hy224
        clear hy224
        obtain ⟨ji32, hji32⟩ : ∃ j_ : Int, (mn (wrap64 (56 * a1)) (l2.length : Int)) = j_ := ⟨_, rfl⟩
        replace H : (if 0 ≤ (ji32) then (if (ji32) ≤ (mn (wrap64 ((wrap64 (56 * a1)) + 56)) (l2.length : Int)) then (if (mn (wrap64 ((wrap64 (56 * a1)) + 56)) (l2.length : Int)) ≤ (l2.length : Int) then (if y224.length + ((l2.take ((mn (wrap64 ((wrap64 (56 * a1)) + 56)) (l2.length : Int)) : Int).toNat).drop ((ji32) : Int).toNat).length < 140737488355328 then (some (y224 ++ ((l2.take ((mn (wrap64 ((wrap64 (56 * a1)) + 56)) (l2.length : Int)) : Int).toNat).drop ((ji32) : Int).toNat))) else (none)) else (none)) else (none)) else (none)) = some r := by first | (rw [hji32] at H; exact H) | (simp only [hji32] at H ⊢; exact H)
        (try rw [hji32] at A4)
        (try rw [hji32] at A27)
        (try rw [hji32] at A28)
        (try rw [hji32] at A30)
        have hji32_ : (if (l2.length : Int) < (wrap64 (56 * a1)) then (l2.length : Int) else (wrap64 (56 * a1))) = ji32 := hji32
        obtain ⟨ji33, hji33⟩ : ∃ j_ : Int, (mn (wrap64 ((wrap64 (56 * a1)) + 56)) (l2.length : Int)) = j_ := ⟨_, rfl⟩
        replace H : (if 0 ≤ (ji32) then (if (ji32) ≤ (ji33) then (if (ji33) ≤ (l2.length : Int) then (if y224.length + ((l2.take ((ji33) : Int).toNat).drop ((ji32) : Int).toNat).length < 140737488355328 then (some (y224 ++ ((l2.take ((ji33) : Int).toNat).drop ((ji32) : Int).toNat))) else (none)) else (none)) else (none)) else (none)) = some r := by first | (rw [hji33] at H; exact H) | (simp only [hji33] at H ⊢; exact H)
        (try rw [hji33] at A4)
        (try rw [hji33] at A27)
        (try rw [hji33] at A28)
        (try rw [hji33] at A30)
        have hji33_ : (if (l2.length : Int) < (wrap64 ((wrap64 (56 * a1)) + 56)) then (l2.length : Int) else (wrap64 ((wrap64 (56 * a1)) + 56))) = ji33 := hji33
        by_cases c34 : 0 ≤ (ji32)
        · rw [if_pos c34] at H
          have c34b0 := eq_true c34
          have c34b1 : decide (0 ≤ (ji32)) = true := decide_eq_true c34
          clear c34
          by_cases c35 : (ji32) ≤ (ji33)
          · rw [if_pos c35] at H
            have c35b0 := eq_true c35
            have c35b1 : decide ((ji32) ≤ (ji33)) = true := decide_eq_true c35
            clear c35
            by_cases c36 : (ji33) ≤ (l2.length : Int)
            · rw [if_pos c36] at H
              have c36b0 := eq_true c36
              have c36b1 : decide ((ji33) ≤ (l2.length : Int)) = true := decide_eq_true c36
              clear c36
              by_cases c37 : y224.length + ((l2.take ((ji33) : Int).toNat).drop ((ji32) : Int).toNat).length < 140737488355328
              · rw [if_pos c37] at H
                have LMc37 := Aside0.mk c37
                clear c37
                obtain ⟨y228, hy228⟩ : ∃ y_ : List Int, y_ = (y224 ++ ((l2.take ((ji33) : Int).toNat).drop ((ji32) : Int).toNat)) := ⟨_, rfl⟩
                replace H : (some y228) = some r := by first | (rw [hy228]; with_reducible exact H) | (have H2_ := (Option.bind_some _ _).symm.trans H; rw [hy228]; with_reducible exact H2_) | (have H2_ := (Option.bind_some _ _).symm.trans H; with_reducible exact H2_) | with_reducible exact H | (rw [hy228]; exact H) | exact H
                have Ny228 := Aside0.mk hy228
                clear hy228
                obtain rfl := Option.some.inj H
                go_enter Tryd.func84, Tryd.ntmps84
                go_wp2_with (first | ((with_reducible refine gate_callee (f := 83) rfl ?_); refine goesL_ (some 12) rfl rfl Tryd.func83 (by kernel_rfl) rfl #[.int .i64 (l2.length : Int)] rfl (by (try simp only [List.map_toArray, List.map_cons, List.map_nil]); first | done | rfl | (simp only [List.length_drop, List.length_take]; rfl)) ?_; (with_reducible refine (tributaryref8_Blocks.calls (l2.length : Int) t192 _ A4.out).mono ?_); rintro e w38 ⟨rfl, hb⟩; refine ⟨_, rfl, ?_⟩; have n0_ := Aside0.mk (below_step (by repeat (first | (with_reducible first | exact HB.out | apply below_alloc | apply pw_below_drewN | apply below_drew1) | exact HB.out)) hb); clear HB; have HB := n0_; clear n0_; (try clear hb); (try clear hb2); (try clear hk); (try clear hi)) | ((with_reducible refine gate_callee (f := 101) rfl ?_); refine goesL_ (some 16) rfl rfl Tryd.func101 (by kernel_rfl) rfl #[.int .i64 a0] rfl (by (try simp only [List.map_toArray, List.map_cons, List.map_nil]); first | done | rfl | (simp only [List.length_drop, List.length_take]; rfl)) ?_; (with_reducible refine (tributaryref1_Int.calls k a0 t212 _ A27.out).mono ?_); rintro e w39 ⟨v213, rfl, ho0, hb⟩; refine ⟨_, rfl, ?_⟩; have n0_ := Aside0.mk (Kd.R_lower ho0 (below_size (by repeat (first | (with_reducible first | exact HB.out | apply below_alloc | apply pw_below_drewN | apply below_drew1) | exact HB.out)))); have n1_ := Aside0.mk (below_step (by repeat (first | (with_reducible first | exact HB.out | apply below_alloc | apply pw_below_drewN | apply below_drew1) | exact HB.out)) hb); clear HB; have HO214 := n0_; have HB := n1_; clear n0_ n1_; (try clear hb); (try clear hb2); (try clear hk); (try clear hi); (try clear ho0)) | ((with_reducible refine gate_callee (f := 101) rfl ?_); refine goesL_ (some 19) rfl rfl Tryd.func101 (by kernel_rfl) rfl #[.int .i64 a1] rfl (by (try simp only [List.map_toArray, List.map_cons, List.map_nil]); first | done | rfl | (simp only [List.length_drop, List.length_take]; rfl)) ?_; (with_reducible refine (tributaryref1_Int.calls k a1 t215 _ A28.out).mono ?_); rintro e w40 ⟨v216, rfl, ho0, hb⟩; refine ⟨_, rfl, ?_⟩; have n0_ := Aside0.mk (Kd.R_elder' (by (with_reducible repeat (first | apply Kd.R_alloc | apply Kd.R_drewN | apply Kd.R_drew)); exact HO214.out) (Kd.R_base ho0) hb); have n1_ := Aside0.mk (Kd.R_lower (Kd.R_new' ho0 (Kd.R_lt (by (with_reducible repeat (first | apply Kd.R_alloc | apply Kd.R_drewN | apply Kd.R_drew)); exact HO214.out))) (below_size (by repeat (first | (with_reducible first | exact HB.out | apply below_alloc | apply pw_below_drewN | apply below_drew1) | exact HB.out)))); have n2_ := Aside0.mk (below_step (by repeat (first | (with_reducible first | exact HB.out | apply below_alloc | apply pw_below_drewN | apply below_drew1) | exact HB.out)) hb); clear HO214; clear HB; have HO214 := n0_; have HO217 := n1_; have HB := n2_; clear n0_ n1_ n2_; (try clear hb); (try clear hb2); (try clear hk); (try clear hi); (try clear ho0); obtain ⟨Ao42, co42, eo42⟩ := Kd.R_slice HO217.out; subst eo42) | ((with_reducible refine gate_builtin (b := .append) (xs := #[.tmp 17, .tmp 19]) rfl ?_); at_builtin; refine Kd.R_append_rows (Kd.int .u8) (w0 := w) w.heap.size rfl (.tmp 17) (.tmp 19) 30 5 (.int .u8 0) 1 rfl Tryd.underlying30 info5 rfl (by decide) (by omega) v213 t212 t215 _ _ _ (fun k_ => some k_ ≠ (.slice Ao42 t215.length co42 : Value).ownBlock) (fun _ => False) rfl rfl ?aO ?aR (fun _ _ h => h) (fun _ h => h.elim) ?aF ?aB ?aS ?aL ?_; (case aR => repeat (first | exact (Kd.R_reads' HO217.out).2.2 | (with_reducible refine Kd.C_alloc ?_ _) | (with_reducible refine Kd.C_drewN ?_ _) | (with_reducible refine Kd.C_drew ?_))); (case aB => exact (by repeat (first | (with_reducible first | exact HB.out | apply below_alloc | apply pw_below_drewN | apply below_drew1) | exact HB.out))); (case aF => exact (fun k_ hk => Kd.fresh' (Kd.R_lt (by (with_reducible repeat (first | apply Kd.R_alloc | apply Kd.R_drewN | apply Kd.R_drew)); exact HO217.out)) k_ hk)); (case aO => exact (by (with_reducible repeat (first | apply Kd.R_alloc | apply Kd.R_drewN | apply Kd.R_drew)); exact Kd.R_mono HO214.out (fun _ hk => hk.2))); (case aS => exact (below_size (by repeat (first | (with_reducible first | exact HB.out | apply below_alloc | apply pw_below_drewN | apply below_drew1) | exact HB.out)))); (case aL => have := LMc29.out; omega); intro v219 w41 ho hb hg hat; rw [← Ny218.out] at ho; have n0_ := Aside0.mk (Kd.R_after (ok := (fun _ => True)) (by (with_reducible repeat (first | apply Kd.R_alloc | apply Kd.R_drewN | apply Kd.R_drew)); exact HO217.out) hg hat); have n1_ := Aside0.mk (hb); have n2_ := Aside0.mk (ho); clear HO217; clear HB; clear HO214; have HO217 := n0_; have HB := n1_; have HO220 := n2_; clear n0_ n1_ n2_; clear ho hb hg hat) | ((with_reducible refine gate_callee (f := 101) rfl ?_); refine goesL_ (some 23) rfl rfl Tryd.func101 (by kernel_rfl) rfl #[.int .i64 0] rfl (by (try simp only [List.map_toArray, List.map_cons, List.map_nil]); first | done | rfl | (simp only [List.length_drop, List.length_take]; rfl)) ?_; (with_reducible refine (tributaryref1_Int.calls k 0 t221 _ A30.out).mono ?_); rintro e w43 ⟨v222, rfl, ho0, hb⟩; refine ⟨_, rfl, ?_⟩; have n0_ := Aside0.mk (Kd.R_elder' (by (with_reducible repeat (first | apply Kd.R_alloc | apply Kd.R_drewN | apply Kd.R_drew)); exact HO217.out) (Kd.R_base ho0) hb); have n1_ := Aside0.mk (Kd.R_elder' (by (with_reducible repeat (first | apply Kd.R_alloc | apply Kd.R_drewN | apply Kd.R_drew)); exact HO220.out) (Kd.R_base ho0) hb); have n2_ := Aside0.mk (Kd.R_lower (Kd.R_new' (Kd.R_new' ho0 (Kd.R_lt (by (with_reducible repeat (first | apply Kd.R_alloc | apply Kd.R_drewN | apply Kd.R_drew)); exact HO217.out))) (Kd.R_lt (by (with_reducible repeat (first | apply Kd.R_alloc | apply Kd.R_drewN | apply Kd.R_drew)); exact HO220.out))) (below_size (by repeat (first | (with_reducible first | exact HB.out | apply below_alloc | apply pw_below_drewN | apply below_drew1) | exact HB.out)))); have n3_ := Aside0.mk (below_step (by repeat (first | (with_reducible first | exact HB.out | apply below_alloc | apply pw_below_drewN | apply below_drew1) | exact HB.out)) hb); clear HO217; clear HO220; clear HB; have HO217 := n0_; have HO220 := n1_; have HO223 := n2_; have HB := n3_; clear n0_ n1_ n2_ n3_; (try clear hb); (try clear hb2); (try clear hk); (try clear hi); (try clear ho0); obtain ⟨Ao45, co45, eo45⟩ := Kd.R_slice HO223.out; subst eo45) | ((with_reducible refine gate_builtin (b := .append) (xs := #[.tmp 21, .tmp 23]) rfl ?_); at_builtin; refine Kd.R_append_rows (Kd.int .u8) (w0 := w) w.heap.size rfl (.tmp 21) (.tmp 23) 30 5 (.int .u8 0) 1 rfl Tryd.underlying30 info5 rfl (by decide) (by omega) v219 y218 t221 _ _ _ (fun k_ => some k_ ≠ (.slice Ao42 t215.length co42 : Value).ownBlock ∧ some k_ ≠ (.slice Ao45 t221.length co45 : Value).ownBlock) (fun _ => False) rfl rfl ?aO ?aR (fun _ _ h => h) (fun _ h => h.elim) ?aF ?aB ?aS ?aL ?_; (case aR => repeat (first | exact (Kd.R_reads' HO223.out).2.2 | (with_reducible refine Kd.C_alloc ?_ _) | (with_reducible refine Kd.C_drewN ?_ _) | (with_reducible refine Kd.C_drew ?_))); (case aB => exact (by repeat (first | (with_reducible first | exact HB.out | apply below_alloc | apply pw_below_drewN | apply below_drew1) | exact HB.out))); (case aF => exact (fun k_ hk => ⟨Kd.fresh' (Kd.R_lt (by (with_reducible repeat (first | apply Kd.R_alloc | apply Kd.R_drewN | apply Kd.R_drew)); exact HO217.out)) k_ hk, Kd.fresh' (Kd.R_lt (by (with_reducible repeat (first | apply Kd.R_alloc | apply Kd.R_drewN | apply Kd.R_drew)); exact HO223.out)) k_ hk⟩)); (case aO => exact (by (with_reducible repeat (first | apply Kd.R_alloc | apply Kd.R_drewN | apply Kd.R_drew)); exact HO220.out)); (case aS => exact (below_size (by repeat (first | (with_reducible first | exact HB.out | apply below_alloc | apply pw_below_drewN | apply below_drew1) | exact HB.out)))); (case aL => have := LMc31.out; omega); intro v225 w44 ho hb hg hat; rw [← Ny224.out] at ho; have n0_ := Aside0.mk (Kd.R_after (ok := (fun k_ => some k_ ≠ (.slice Ao45 t221.length co45 : Value).ownBlock)) (by (with_reducible repeat (first | apply Kd.R_alloc | apply Kd.R_drewN | apply Kd.R_drew)); exact Kd.R_mono HO217.out (fun _ hk => ⟨hk.2, hk.1.2⟩)) hg hat); have n1_ := Aside0.mk (Kd.R_after (ok := (fun k_ => some k_ ≠ (.slice Ao42 t215.length co42 : Value).ownBlock)) (by (with_reducible repeat (first | apply Kd.R_alloc | apply Kd.R_drewN | apply Kd.R_drew)); exact Kd.R_mono HO223.out (fun _ hk => ⟨hk.1.2, hk.2⟩)) hg hat); have n2_ := Aside0.mk (hb); have n3_ := Aside0.mk (ho); clear HO217; clear HO223; clear HB; clear HO220; have HO217 := n0_; have HO223 := n1_; have HB := n2_; have HO226 := n3_; clear n0_ n1_ n2_ n3_; clear ho hb hg hat; obtain ⟨i046, hi046, _, hsz46, _⟩ := info_parts info5; obtain ⟨A46, hcut46, hA46, hC46⟩ := print_mid_of (P := Tryd.prog) (Value.int .u8) 0 30 5 .i64 .i64 Tryd.underlying30 hi046 hsz46 A2 c2 l2 (ji32) (ji33) (of_decide_eq_true (by first | (with_reducible assumption) | assumption)) (by first | omega | exact of_decide_eq_true (by first | (with_reducible assumption) | assumption)) (of_decide_eq_true (by first | (with_reducible assumption) | assumption)) HC2.out; have HR227 := Aside0.mk (Kd.C_of_reads (h1 := fun _ => rfl) (hA46 _ (Kd.reads_of_C HR2.out))); have HC227 := Aside0.mk hC46; clear hA46 hC46 hi046 hsz46) | ((with_reducible refine gate_builtin (b := .append) (xs := #[.tmp 25, .tmp 38]) rfl ?_); at_builtin; refine Kd.R_append_rows (Kd.int .u8) (w0 := w) w.heap.size rfl (.tmp 25) (.tmp 38) 30 5 (.int .u8 0) 1 rfl Tryd.underlying30 info5 rfl (by decide) (by omega) v225 y224 ((l2.take ((ji33) : Int).toNat).drop ((ji32) : Int).toNat) _ _ _ (fun k_ => some k_ ≠ (.slice Ao42 t215.length co42 : Value).ownBlock ∧ some k_ ≠ (.slice Ao45 t221.length co45 : Value).ownBlock) (fun _ => False) rfl rfl ?aO ?aR (fun _ _ h => h) (fun _ h => h.elim) ?aF ?aB ?aS ?aL ?_; (case aR => first | (rw [← show ((l2.take ((ji33) : Int).toNat).drop ((ji32) : Int).toNat).length = ((ji33).toNat - (ji32).toNat) from (by rw [List.length_drop, List.length_take]; have h_ : ((ji33) : Int) ≤ (l2.length : Int) := of_decide_eq_true (by first | (with_reducible assumption) | assumption); omega)]; repeat (first | exact (Kd.C_below HR227.out HB.out) | (with_reducible refine Kd.C_alloc ?_ _) | (with_reducible refine Kd.C_drewN ?_ _) | (with_reducible refine Kd.C_drew ?_))) | (repeat (first | exact (Kd.C_below HR227.out HB.out) | (with_reducible refine Kd.C_alloc ?_ _) | (with_reducible refine Kd.C_drewN ?_ _) | (with_reducible refine Kd.C_drew ?_)))); (case aB => exact (by repeat (first | (with_reducible first | exact HB.out | apply below_alloc | apply pw_below_drewN | apply below_drew1) | exact HB.out))); (case aF => exact (fun k_ hk => ⟨Kd.fresh' (Kd.R_lt (by (with_reducible repeat (first | apply Kd.R_alloc | apply Kd.R_drewN | apply Kd.R_drew)); exact HO217.out)) k_ hk, Kd.fresh' (Kd.R_lt (by (with_reducible repeat (first | apply Kd.R_alloc | apply Kd.R_drewN | apply Kd.R_drew)); exact HO223.out)) k_ hk⟩)); (case aO => exact (by (with_reducible repeat (first | apply Kd.R_alloc | apply Kd.R_drewN | apply Kd.R_drew)); exact HO226.out)); (case aS => exact (below_size (by repeat (first | (with_reducible first | exact HB.out | apply below_alloc | apply pw_below_drewN | apply below_drew1) | exact HB.out)))); (case aL => have := LMc37.out; have hlx_ := (show ((l2.take ((ji33) : Int).toNat).drop ((ji32) : Int).toNat).length = ((ji33).toNat - (ji32).toNat) from (by rw [List.length_drop, List.length_take]; have h_ : ((ji33) : Int) ≤ (l2.length : Int) := of_decide_eq_true (by first | (with_reducible assumption) | assumption); omega)); omega); intro v229 w47 ho hb hg hat; rw [← Ny228.out] at ho; have n0_ := Aside0.mk (Kd.R_after (ok := (fun k_ => some k_ ≠ (.slice Ao45 t221.length co45 : Value).ownBlock)) (by (with_reducible repeat (first | apply Kd.R_alloc | apply Kd.R_drewN | apply Kd.R_drew)); exact HO217.out) hg hat); have n1_ := Aside0.mk (Kd.R_after (ok := (fun k_ => some k_ ≠ (.slice Ao42 t215.length co42 : Value).ownBlock)) (by (with_reducible repeat (first | apply Kd.R_alloc | apply Kd.R_drewN | apply Kd.R_drew)); exact HO223.out) hg hat); have n2_ := Aside0.mk (hb); have n3_ := Aside0.mk (ho); clear HO217; clear HO223; clear HB; clear HO226; have HO217 := n0_; have HO223 := n1_; have HB := n2_; have HO230 := n3_; clear n0_ n1_ n2_ n3_; clear ho hb hg hat))
                go_ret
                exact ⟨_, by first | rfl | (simp [errW_none, errW_some] <;> rfl) | (simp only [← hji32, ← hji33]; first | rfl | (simp [errW_none, errW_some] <;> rfl)) | (simp [*, errW_none, errW_some] <;> rfl), by (with_reducible repeat (first | apply Kd.R_alloc | apply Kd.R_drewN | apply Kd.R_drew)); exact Kd.R_mono HO230.out (fun _ hk => trivial), by repeat (first | (with_reducible first | exact HB.out | apply below_alloc | apply pw_below_drewN | apply below_drew1) | exact HB.out)⟩
              · rw [if_neg c37] at H
                exact absurd H (by simp)
            · rw [if_neg c36] at H
              exact absurd H (by simp)
          · rw [if_neg c35] at H
            exact absurd H (by simp)
        · rw [if_neg c34] at H
          exact absurd H (by simp)
      · rw [if_neg c31] at H
        exact absurd H (by simp)
    · rw [if_neg c29] at H
      exact absurd H (by simp)

end Go.Proofs.YtlhjjjpldmekdaaDoor.PFn
