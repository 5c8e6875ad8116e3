-- written by a program of this session, a turned copy of the print tool
import Derived.Test.YtemnnnjlllgeeaaDoorOpsTold
import Derived.Test.YtemnnnjlllgeeaaDoorPOpsx0
import Derived.Test.YtemnnnjlllgeeaaDoorPOpsx2
import Derived.Test.YtemnnnjlllgeeaaDoorPOpsx3
import Derived.Test.YtemnnnjlllgeeaaDoorPOpsx4
import Derived.Test.YtemnnnjlllgeeaaDoorPOpsx6
import Derived.Test.YtemnnnjlllgeeaaDoorPOpsg
namespace Go.Proofs.YtemnnnjlllgeeaaDoor.POps
open Go.RowKit Go.Proofs.YtemnnnjlllgeeaaDoorW.PrintWords Go.Proofs.YtemnnnjlllgeeaaDoorW.PrintLast Go.Proofs.YtemnnnjlllgeeaaDoorW.PrintMore
attribute [local go_sem] max2_int min2_int max_two min_two max_three min_three max_four min_four   -- for this text's walks alone
set_option linter.unusedVariables false
set_option linter.unusedSimpArgs false

/-! ### tributarylaw3_OpsJoins: function 9 -/
mutual
def tributarylaw3_OpsJoins.j0 : Nat → List (S62) → List (S62) → Int → Int → Int → Int → Int → Option (Bool)
  | 0, _, _, _, _, _, _, _ => none
  | k + 1, x7, x8, x258000, x258001, x258002, x258003, x258004 => (ops_Apply.f k x258000 x258001 x258002 x258003 x258004 x7 ([] : List (S62))).bind fun t264 => ((ops_Apply.f k x258000 x258001 x258002 x258003 x258004 x8 ([] : List (S62))).bind fun t267 => ((tributarylaw3_few.f x7 80).bind fun t270 => (if t270.length + x8.length < 8796093022208 then ((ops_Apply.f k x258000 x258001 x258002 x258003 x258004 (t270 ++ x8) ([] : List (S62))).bind fun t276 => (tributarylaw3_OpsJoins.l0 k x7 t264 t267 t276 ([] : List (S62)) 0 x258000 x258001 x258002 x258003 x258004)) else (none))))
def tributarylaw3_OpsJoins.l0 : Nat → List (S62) → List (S62) → List (S62) → List (S62) → List (S62) → Int → Int → Int → Int → Int → Int → Option (Bool)
  | 0, _, _, _, _, _, _, _, _, _, _, _ => none
  | k + 1, x7, x9, x10, x11, x12, x13, x258000, x258001, x258002, x258003, x258004 => if x13 < (x7.length : Int) then (if 0 ≤ x13 then ((ops_One.f k x258000 x258001 x258002 x258003 x258004 ((rd_T62 x7 x13).f0) ((rd_T62 x7 x13).f1)).bind fun t280 => (if x12.length + t280.length < 8796093022208 then (tributarylaw3_OpsJoins.l0 k x7 x9 x10 x11 (x12 ++ t280) (wrap64 (x13 + 1)) x258000 x258001 x258002 x258003 x258004) else (none))) else (none)) else ((ops_Narrow.f x258000).bind fun t286 => (if t286 = true then ((ops_Right.f x258000 x258001 x258002 x258003 x258004).bind fun t287 => (if t287.isNone = true then (tributarylaw3_OpsJoins.j2 k x9 x10 x11 x12 true) else (tributarylaw3_OpsJoins.j2 k x9 x10 x11 x12 false))) else (tributarylaw3_OpsJoins.j2 k x9 x10 x11 x12 false)))
def tributarylaw3_OpsJoins.j2 : Nat → List (S62) → List (S62) → List (S62) → List (S62) → Bool → Option (Bool)
  | 0, _, _, _, _, _ => none
  | k + 1, x9, x10, x11, x12, x55 => if x55 = true then (if 0 ≤ (mn (x12.length : Int) 64) then (if (mn (x12.length : Int) 64) ≤ (x12.length : Int) then ((tributaryref2_Same.f k x9 (x12.take ((mn (x12.length : Int) 64) : Int).toNat)).bind fun t293 => (if t293 = true then (if (x12.length : Int) ≤ 64 then (if x12.length + x10.length < 8796093022208 then ((some (x12 ++ x10 : List (S62))).bind fun y294 => (if 0 ≤ (mn (wrap64 ((x12.length : Int) + (x10.length : Int))) 64) then (if (mn (wrap64 ((x12.length : Int) + (x10.length : Int))) 64) ≤ (y294.length : Int) then ((tributaryref2_Same.f k x11 (y294.take ((mn (wrap64 ((x12.length : Int) + (x10.length : Int))) 64) : Int).toNat)).bind fun t301 => (if t301 = true then ((tributarylaw3_told.f).bind fun t302 => (if t302 = true then (some (decide ((x11.length : Int) ≤ 64))) else (none))) else (none))) else (none)) else (none))) else (none)) else ((tributarylaw3_told.f).bind fun t303 => (if t303 = true then (some (decide ((x11.length : Int) ≤ 64))) else (none)))) else (none))) else (none)) else (none)) else (if (x9.length : Int) > 0 then (none) else (if (x11.length : Int) > 0 then (none) else ((tributarylaw3_told.f).bind fun t304 => (if t304 = true then (some (decide ((x11.length : Int) ≤ 64))) else (none)))))
end
def tributarylaw3_OpsJoins.f (k : Nat) (a0_0 : Int) (a0_1 : Int) (a0_2 : Int) (a0_3 : Int) (a0_4 : Int) (l1 : List (S62)) (l2 : List (S62)) : Option (Bool) := (tributarylaw3_few.f l1 80).bind fun t258 => ((tributarylaw3_few.f l2 80).bind fun t261 => (if a0_0 = 5 then (tributarylaw3_OpsJoins.j0 k t258 t261 2 a0_1 a0_2 a0_3 a0_4) else (tributarylaw3_OpsJoins.j0 k t258 t261 a0_0 a0_1 a0_2 a0_3 a0_4)))
theorem tributarylaw3_OpsJoins.mono_l : ∀ k, (∀ y0 y1 y2 y3 y4 y5 y6, LeO (tributarylaw3_OpsJoins.j0 k y0 y1 y2 y3 y4 y5 y6) (tributarylaw3_OpsJoins.j0 (k + 1) y0 y1 y2 y3 y4 y5 y6)) ∧ (∀ y0 y1 y2 y3 y4 y5 y6 y7 y8 y9 y10, LeO (tributarylaw3_OpsJoins.l0 k y0 y1 y2 y3 y4 y5 y6 y7 y8 y9 y10) (tributarylaw3_OpsJoins.l0 (k + 1) y0 y1 y2 y3 y4 y5 y6 y7 y8 y9 y10)) ∧ (∀ y0 y1 y2 y3 y4, LeO (tributarylaw3_OpsJoins.j2 k y0 y1 y2 y3 y4) (tributarylaw3_OpsJoins.j2 (k + 1) y0 y1 y2 y3 y4))
  | 0 => ⟨fun _ _ _ _ _ _ _ r h => by simp [tributarylaw3_OpsJoins.j0] at h, fun _ _ _ _ _ _ _ _ _ _ _ r h => by simp [tributarylaw3_OpsJoins.l0] at h, fun _ _ _ _ _ r h => by simp [tributarylaw3_OpsJoins.j2] at h⟩
  | k + 1 => by
    obtain ⟨ih0, ih1, ih2⟩ := tributarylaw3_OpsJoins.mono_l k
    refine ⟨?_, ?_, ?_⟩
    · intro y0 y1 y2 y3 y4 y5 y6
      unfold tributarylaw3_OpsJoins.j0
      repeat' first
      | (with_reducible exact ih0 _ _ _ _ _ _ _)
      | (with_reducible exact ih1 _ _ _ _ _ _ _ _ _ _ _)
      | (with_reducible exact ih2 _ _ _ _ _)
      | (with_reducible exact ops_Apply.mono _ _ _ _ _ _ _ _)
      | (with_reducible exact ops_One.mono _ _ _ _ _ _ _ _)
      | (with_reducible exact tributaryref2_Same.mono _ _ _)
      | (with_reducible exact LeO.refl _)
      | (with_reducible exact LeO.none _)
      | (with_reducible refine LeO.ite ?_ ?_)
      | (with_reducible refine LeO.bind ?_ (fun _ => ?_))
      | exact ih0 _ _ _ _ _ _ _
      | exact ih1 _ _ _ _ _ _ _ _ _ _ _
      | exact ih2 _ _ _ _ _
      | exact ops_Apply.mono _ _ _ _ _ _ _ _
      | exact ops_One.mono _ _ _ _ _ _ _ _
      | exact tributaryref2_Same.mono _ _ _
      | exact LeO.none _
      | refine LeO.ite ?_ ?_
      | refine LeO.bind ?_ (fun _ => ?_)
    · intro y0 y1 y2 y3 y4 y5 y6 y7 y8 y9 y10
      unfold tributarylaw3_OpsJoins.l0
      repeat' first
      | (with_reducible exact ih0 _ _ _ _ _ _ _)
      | (with_reducible exact ih1 _ _ _ _ _ _ _ _ _ _ _)
      | (with_reducible exact ih2 _ _ _ _ _)
      | (with_reducible exact ops_Apply.mono _ _ _ _ _ _ _ _)
      | (with_reducible exact ops_One.mono _ _ _ _ _ _ _ _)
      | (with_reducible exact tributaryref2_Same.mono _ _ _)
      | (with_reducible exact LeO.refl _)
      | (with_reducible exact LeO.none _)
      | (with_reducible refine LeO.ite ?_ ?_)
      | (with_reducible refine LeO.bind ?_ (fun _ => ?_))
      | exact ih0 _ _ _ _ _ _ _
      | exact ih1 _ _ _ _ _ _ _ _ _ _ _
      | exact ih2 _ _ _ _ _
      | exact ops_Apply.mono _ _ _ _ _ _ _ _
      | exact ops_One.mono _ _ _ _ _ _ _ _
      | exact tributaryref2_Same.mono _ _ _
      | exact LeO.none _
      | refine LeO.ite ?_ ?_
      | refine LeO.bind ?_ (fun _ => ?_)
    · intro y0 y1 y2 y3 y4
      unfold tributarylaw3_OpsJoins.j2
      repeat' first
      | (with_reducible exact ih0 _ _ _ _ _ _ _)
      | (with_reducible exact ih1 _ _ _ _ _ _ _ _ _ _ _)
      | (with_reducible exact ih2 _ _ _ _ _)
      | (with_reducible exact ops_Apply.mono _ _ _ _ _ _ _ _)
      | (with_reducible exact ops_One.mono _ _ _ _ _ _ _ _)
      | (with_reducible exact tributaryref2_Same.mono _ _ _)
      | (with_reducible exact LeO.refl _)
      | (with_reducible exact LeO.none _)
      | (with_reducible refine LeO.ite ?_ ?_)
      | (with_reducible refine LeO.bind ?_ (fun _ => ?_))
      | exact ih0 _ _ _ _ _ _ _
      | exact ih1 _ _ _ _ _ _ _ _ _ _ _
      | exact ih2 _ _ _ _ _
      | exact ops_Apply.mono _ _ _ _ _ _ _ _
      | exact ops_One.mono _ _ _ _ _ _ _ _
      | exact tributaryref2_Same.mono _ _ _
      | exact LeO.none _
      | refine LeO.ite ?_ ?_
      | refine LeO.bind ?_ (fun _ => ?_)
theorem tributarylaw3_OpsJoins.mono : ∀ a0 a1 a2 a3 a4 a5 a6 k, LeO (tributarylaw3_OpsJoins.f k a0 a1 a2 a3 a4 a5 a6) (tributarylaw3_OpsJoins.f (k + 1) a0 a1 a2 a3 a4 a5 a6) := by
  intro a0 a1 a2 a3 a4 a5 a6 k
  obtain ⟨ih0, ih1, ih2⟩ := tributarylaw3_OpsJoins.mono_l k
  unfold tributarylaw3_OpsJoins.f
  repeat' first
      | (with_reducible exact ih0 _ _ _ _ _ _ _)
      | (with_reducible exact ih1 _ _ _ _ _ _ _ _ _ _ _)
      | (with_reducible exact ih2 _ _ _ _ _)
      | (with_reducible exact ops_Apply.mono _ _ _ _ _ _ _ _)
      | (with_reducible exact ops_One.mono _ _ _ _ _ _ _ _)
      | (with_reducible exact tributaryref2_Same.mono _ _ _)
      | (with_reducible exact LeO.refl _)
      | (with_reducible exact LeO.none _)
      | (with_reducible refine LeO.ite ?_ ?_)
      | (with_reducible refine LeO.bind ?_ (fun _ => ?_))
      | exact ih0 _ _ _ _ _ _ _
      | exact ih1 _ _ _ _ _ _ _ _ _ _ _
      | exact ih2 _ _ _ _ _
      | exact ops_Apply.mono _ _ _ _ _ _ _ _
      | exact ops_One.mono _ _ _ _ _ _ _ _
      | exact tributaryref2_Same.mono _ _ _
      | exact LeO.none _
      | refine LeO.ite ?_ ?_
      | refine LeO.bind ?_ (fun _ => ?_)
def tributarylaw3_OpsJoins.T4 : Bool × List (List Nat × List Nat) := (true, [([], []), ([], []), ([0, 1], [0, 1]), ([], []), ([], []), ([3, 4, 2], [3, 4]), ([2, 5, 0, 1, 2], [2]), ([5, 6, 0, 1, 2, 3, 4, 5, 6], [5])])
def tributarylaw3_OpsJoins.B4 : List Nat := [0, 0, 3, 0, 0, 31, 63, 127]
theorem tributarylaw3_OpsJoins.tab4 : rtab .any (opsOf Tryd.f9 4) = tributarylaw3_OpsJoins.T4 := by kernel_rfl
theorem tributarylaw3_OpsJoins.bits4 : waitsOk tributarylaw3_OpsJoins.T4.2 tributarylaw3_OpsJoins.B4 = true := by kernel_rfl
def tributarylaw3_OpsJoins.T10 : Bool × List (List Nat × List Nat) := (true, [([], []), ([], []), ([], []), ([], []), ([2, 3], [2, 3]), ([4], [4]), ([1, 5], [1, 5]), ([0, 6, 6], [0, 6]), ([7, 7, 0, 1, 2, 3, 4, 5, 6, 7], [0, 7])])
def tributarylaw3_OpsJoins.B10 : List Nat := [0, 0, 0, 0, 12, 28, 62, 127, 255]
theorem tributarylaw3_OpsJoins.tab10 : rtab .any (opsOf Tryd.f9 10) = tributarylaw3_OpsJoins.T10 := by kernel_rfl
theorem tributarylaw3_OpsJoins.bits10 : waitsOk tributarylaw3_OpsJoins.T10.2 tributarylaw3_OpsJoins.B10 = true := by kernel_rfl
set_option maxHeartbeats 8000000 in
set_option maxRecDepth 100000 in
theorem tributarylaw3_OpsJoins.calls (k : Nat) (a0_0 : Int) (a0_1 : Int) (a0_2 : Int) (a0_3 : Int) (a0_4 : Int) (A1 : Option Addr) (c1 : Nat) (l1 : List (S62)) (A2 : Option Addr) (c2 : Nat) (l2 : List (S62)) (r : Bool) (w : World) (hr1 : Kd.C k62 w A1 l1.length l1) (hc1 : l1.length ≤ c1) (hr2 : Kd.C k62 w A2 l2.length l2) (hc2 : l2.length ≤ c2) (hL : Laid w) (h : tributarylaw3_OpsJoins.f k a0_0 a0_1 a0_2 a0_3 a0_4 l1 l2 = some r) :
    Calls Tryd.prog 9 #[.agg #[.int .i64 a0_0, .int .i64 a0_1, .int .i64 a0_2, .int .i64 a0_3, .int .i64 a0_4], .slice A1 l1.length c1, .slice A2 l2.length c2] w fun e w' => e = .returned (.bool r) ∧ Below w.heap.size w w' := by
  have hu55 := Tryd.underlying55
  have hu62 := Tryd.underlying62
  have hu25 := Tryd.underlying25
  have hu80 := Tryd.underlying80
  have HR1 := Aside0.mk hr1
  have HC1 := Aside0.mk hc1
  clear hr1 hc1
  have HR2 := Aside0.mk hr2
  have HC2 := Aside0.mk hc2
  clear hr2 hc2
  have HLD := Aside0.mk hL
  clear hL
  have HB := Aside0.mk (Below.refl w.heap.size w)
  have H : ((tributarylaw3_few.f l1 80).bind fun t258 => ((tributarylaw3_few.f l2 80).bind fun t261 => (if a0_0 = 5 then (tributarylaw3_OpsJoins.j0 k t258 t261 2 a0_1 a0_2 a0_3 a0_4) else (tributarylaw3_OpsJoins.j0 k t258 t261 a0_0 a0_1 a0_2 a0_3 a0_4)))) = some r := h
  clear h
  replace H := Option.bind_eq_some_iff.mp H
  obtain ⟨t258, A40, H⟩ := H
  replace H : ((tributarylaw3_few.f l2 80).bind fun t261 => (if a0_0 = 5 then (tributarylaw3_OpsJoins.j0 k t258 t261 2 a0_1 a0_2 a0_3 a0_4) else (tributarylaw3_OpsJoins.j0 k t258 t261 a0_0 a0_1 a0_2 a0_3 a0_4))) = some r := H
  have A4 := Aside0.mk A40
  clear A40
  replace H := Option.bind_eq_some_iff.mp H
  obtain ⟨t261, A50, H⟩ := H
  replace H : (if a0_0 = 5 then (tributarylaw3_OpsJoins.j0 k t258 t261 2 a0_1 a0_2 a0_3 a0_4) else (tributarylaw3_OpsJoins.j0 k t258 t261 a0_0 a0_1 a0_2 a0_3 a0_4)) = some r := H
  have A5 := Aside0.mk A50
  clear A50
  have HC6 := Aside0.mk H
  clear H
  go_enter Tryd.func9, Tryd.ntmps9
  go_upto_if 20 with (first | ((with_reducible refine gate_dst (N := 3) rfl ?_); (try (refine gate_guard (by rfl) ?_; dsimp only)); refine box_event ?hg (N := 3) ?hd (cs := #[.int .i64 a0_0, .int .i64 a0_1, .int .i64 a0_2, .int .i64 a0_3, .int .i64 a0_4]) (t := 55) ?hr ?_; (case hd => rfl); (case hg => rfl); (case hr => first | (go_simp; done) | (go_simp; rfl)); intro gb257 hg w7 hbox hb; have n0_ := Aside0.mk (below_step (by repeat (first | (with_reducible first | exact HB.out | apply below_alloc | apply pw_below_drewN | apply below_drew1) | exact HB.out)) hb); have n1_ := Aside0.mk (hbox); have n2_ := Aside0.mk ((by rw [hg]; exact (below_size (by repeat (first | (with_reducible first | exact HB.out | apply below_alloc | apply pw_below_drewN | apply below_drew1) | exact HB.out))) : w.heap.size ≤ gb257)); have n3_ := Aside0.mk ((by rw [hg]; exact (below_size (by repeat (first | (with_reducible first | exact HB.out | apply below_alloc | apply pw_below_drewN | apply below_drew1) | exact HB.out))) : w.heap.size ≤ gb257)); clear HB; have HB := n0_; have BK257 := n1_; have GW257 := n2_; have GE257 := n3_; clear n0_ n1_ n2_ n3_; clear hb hbox hg) | ((with_reducible refine gate_callee (f := 42) rfl ?_); refine goesL_ (some 15) rfl rfl Tryd.func42 (by kernel_rfl) rfl #[.slice A1 l1.length c1, .int .i64 80] rfl (by (try simp only [List.map_toArray, List.map_cons, List.map_nil]); first | done | rfl | (simp only [List.length_drop, List.length_take]; rfl)) ?_; (with_reducible refine (tributarylaw3_few.calls _ _ l1 80 t258 _ ?side1 ?side2 A4.out).mono ?_); (case side1 => repeat (first | exact (Kd.C_below HR1.out HB.out) | (with_reducible refine Kd.C_alloc ?_ _) | (with_reducible refine Kd.C_drewN ?_ _) | (with_reducible refine Kd.C_drew ?_))); (case side2 => exact HC1.out); rintro e w8 ⟨v259, rfl, ho0, hb⟩; refine ⟨_, rfl, ?_⟩; have n0_ := Aside0.mk (Kd.R_lower ho0 (below_size (by repeat (first | (with_reducible first | exact HB.out | apply below_alloc | apply pw_below_drewN | apply below_drew1 | refine below_set ?_ GE257.out) | exact HB.out)))); have n1_ := Aside0.mk (blk_below (g := gb257) (o := .cells #[.int .i64 a0_0, .int .i64 a0_1, .int .i64 a0_2, .int .i64 a0_3, .int .i64 a0_4] 55 (0, 0)) (by (with_reducible repeat (first | refine blk_drewN ?_ _ | refine blk_drew ?_ | refine blk_alloc ?_ _)); exact BK257.out) hb); have n2_ := Aside0.mk (below_step (by repeat (first | (with_reducible first | exact HB.out | apply below_alloc | apply pw_below_drewN | apply below_drew1 | refine below_set ?_ GE257.out) | exact HB.out)) hb); clear BK257; clear HB; have HO260 := n0_; have BK257 := n1_; have HB := n2_; clear n0_ n1_ n2_; (try clear hb); (try clear hb2); (try clear hk); (try clear hi); (try clear ho0)) | ((with_reducible refine gate_callee (f := 42) rfl ?_); refine goesL_ (some 17) rfl rfl Tryd.func42 (by kernel_rfl) rfl #[.slice A2 l2.length c2, .int .i64 80] rfl (by (try simp only [List.map_toArray, List.map_cons, List.map_nil]); first | done | rfl | (simp only [List.length_drop, List.length_take]; rfl)) ?_; (with_reducible refine (tributarylaw3_few.calls _ _ l2 80 t261 _ ?side1 ?side2 A5.out).mono ?_); (case side1 => repeat (first | exact (Kd.C_below HR2.out HB.out) | (with_reducible refine Kd.C_alloc ?_ _) | (with_reducible refine Kd.C_drewN ?_ _) | (with_reducible refine Kd.C_drew ?_))); (case side2 => exact HC2.out); rintro e w9 ⟨v262, rfl, ho0, hb⟩; refine ⟨_, rfl, ?_⟩; have n0_ := Aside0.mk (Kd.R_elder' (by (with_reducible repeat (first | apply Kd.R_alloc | apply Kd.R_drewN | apply Kd.R_drew)); exact HO260.out) (Kd.R_base ho0) hb); have n1_ := Aside0.mk (Kd.R_lower (Kd.R_new' ho0 (Kd.R_lt (by (with_reducible repeat (first | apply Kd.R_alloc | apply Kd.R_drewN | apply Kd.R_drew)); exact HO260.out))) (below_size (by repeat (first | (with_reducible first | exact HB.out | apply below_alloc | apply pw_below_drewN | apply below_drew1 | refine below_set ?_ GE257.out) | exact HB.out)))); have n2_ := Aside0.mk (blk_below (g := gb257) (o := .cells #[.int .i64 a0_0, .int .i64 a0_1, .int .i64 a0_2, .int .i64 a0_3, .int .i64 a0_4] 55 (0, 0)) (by (with_reducible repeat (first | refine blk_drewN ?_ _ | refine blk_drew ?_ | refine blk_alloc ?_ _)); exact BK257.out) hb); have n3_ := Aside0.mk (below_step (by repeat (first | (with_reducible first | exact HB.out | apply below_alloc | apply pw_below_drewN | apply below_drew1 | refine below_set ?_ GE257.out) | exact HB.out)) hb); clear HO260; clear BK257; clear HB; have HO260 := n0_; have HO263 := n1_; have BK257 := n2_; have HB := n3_; clear n0_ n1_ n2_ n3_; (try clear hb); (try clear hb2); (try clear hk); (try clear hi); (try clear ho0); have hcz10_0 : w9.cell? ⟨gb257, 0, none⟩ = some (.int .i64 a0_0) := (blk_cell BK257.out 0).trans rfl; have hcz10_1 : w9.cell? ⟨gb257, 1, none⟩ = some (.int .i64 a0_1) := (blk_cell BK257.out 1).trans rfl; have hcz10_2 : w9.cell? ⟨gb257, 2, none⟩ = some (.int .i64 a0_2) := (blk_cell BK257.out 2).trans rfl; have hcz10_3 : w9.cell? ⟨gb257, 3, none⟩ = some (.int .i64 a0_3) := (blk_cell BK257.out 3).trans rfl; have hcz10_4 : w9.cell? ⟨gb257, 4, none⟩ = some (.int .i64 a0_4) := (blk_cell BK257.out 4).trans rfl; have hfz10_0 := blk_frozen BK257.out 0; have hfz10_1 := blk_frozen BK257.out 1; have hfz10_2 := blk_frozen BK257.out 2; have hfz10_3 := blk_frozen BK257.out 3; have hfz10_4 := blk_frozen BK257.out 4))
  (try simp only [Act.put, List.setIfInBounds_toArray, List.set_cons_zero, List.set_cons_succ])
  go_cut [] (fun wc => ∃ (kq : Nat) (x258000_5 : Int), Aside0 (tributarylaw3_OpsJoins.j0 kq t258 t261 x258000_5 a0_1 a0_2 a0_3 a0_4 = some r) ∧ Aside0 (kq ≤ k) ∧ Aside0 (Kd.R k62 62 wc w.heap.size (fun k_ => some k_ ≠ (v262 : Value).ownBlock) v259 t258) ∧ Aside0 (Kd.R k62 62 wc w.heap.size (fun k_ => some k_ ≠ (v259 : Value).ownBlock) v262 t261) ∧ Aside0 (wc.heap[gb257]? = some (.cells #[.int .i64 x258000_5, .int .i64 a0_1, .int .i64 a0_2, .int .i64 a0_3, .int .i64 a0_4] 55 (0, 0))) ∧ Aside0 (Below w.heap.size w wc))
  case first =>
    have H := HC6.out
    clear HC6
    by_cases c11 : a0_0 = 5
    · rw [if_pos c11] at H
      have c11b0 : (a0_0 == 5) = true := beq_iff_eq.mpr c11
      have c11b1 : (a0_0 != 5) = false := bne_eq_false_iff_eq.mpr c11
      clear c11
      (first | rw [c11b0] | (simp only [i64_w, i32_w]; rw [c11b0]) | skip)
      have H' := Aside0.mk H
      clear H
      have hcz12_0 : w9.cell? ⟨gb257, 0, none⟩ = some (.int .i64 a0_0) := (blk_cell BK257.out 0).trans rfl
      have hcz12_1 : w9.cell? ⟨gb257, 1, none⟩ = some (.int .i64 a0_1) := (blk_cell BK257.out 1).trans rfl
      have hcz12_2 : w9.cell? ⟨gb257, 2, none⟩ = some (.int .i64 a0_2) := (blk_cell BK257.out 2).trans rfl
      have hcz12_3 : w9.cell? ⟨gb257, 3, none⟩ = some (.int .i64 a0_3) := (blk_cell BK257.out 3).trans rfl
      have hcz12_4 : w9.cell? ⟨gb257, 4, none⟩ = some (.int .i64 a0_4) := (blk_cell BK257.out 4).trans rfl
      have hfz12_0 := blk_frozen BK257.out 0
      have hfz12_1 := blk_frozen BK257.out 1
      have hfz12_2 := blk_frozen BK257.out 2
      have hfz12_3 := blk_frozen BK257.out 3
      have hfz12_4 := blk_frozen BK257.out 4
      go_wp2
      go_meet
      case rel => exact ⟨_, (2), H', ⟨by first | omega | exact Nat.le_refl _⟩, ⟨by (with_reducible repeat (first | apply Kd.R_alloc | apply Kd.R_drewN | apply Kd.R_drew)); exact Kd.R_mono (Kd.R_far (p := ⟨gb257, 0, none⟩) (Kd.R_types HO260.out BK257.out (by decide)) (fun _ hk => hk.2) (.int .i64 2)) (fun _ hk => hk.1.2)⟩, ⟨by (with_reducible repeat (first | apply Kd.R_alloc | apply Kd.R_drewN | apply Kd.R_drew)); exact Kd.R_mono (Kd.R_far (p := ⟨gb257, 0, none⟩) (Kd.R_types HO263.out BK257.out (by decide)) (fun _ hk => hk.2) (.int .i64 2)) (fun _ hk => hk.1.2)⟩, ⟨by (with_reducible repeat (first | refine blk_drewN ?_ _ | refine blk_drew ?_ | refine blk_alloc ?_ _)); refine blk_put (cs := #[.int .i64 a0_0, .int .i64 a0_1, .int .i64 a0_2, .int .i64 a0_3, .int .i64 a0_4]) ?_ 0 _ rfl; (with_reducible repeat (first | refine blk_drewN ?_ _ | refine blk_drew ?_ | refine blk_alloc ?_ _)); exact BK257.out⟩, ⟨by repeat (first | (with_reducible first | exact HB.out | apply below_alloc | apply pw_below_drewN | apply below_drew1 | refine below_set ?_ GE257.out) | exact HB.out)⟩⟩
    · rw [if_neg c11] at H
      have c11b0 : (a0_0 == 5) = false := beq_eq_false_iff_ne.mpr c11
      have c11b1 : (a0_0 != 5) = true := bne_iff_ne.mpr c11
      (first | rw [c11b0] | (simp only [i64_w, i32_w]; rw [c11b0]) | skip)
      have H' := Aside0.mk H
      clear H
      go_wp2
      go_meet
      case rel => exact ⟨_, (a0_0), H', ⟨by first | omega | exact Nat.le_refl _⟩, ⟨by (with_reducible repeat (first | apply Kd.R_alloc | apply Kd.R_drewN | apply Kd.R_drew)); exact Kd.R_mono HO260.out (fun _ hk => hk.2)⟩, ⟨by (with_reducible repeat (first | apply Kd.R_alloc | apply Kd.R_drewN | apply Kd.R_drew)); exact Kd.R_mono HO263.out (fun _ hk => hk.2)⟩, ⟨by (with_reducible repeat (first | refine blk_drewN ?_ _ | refine blk_drew ?_ | refine blk_alloc ?_ _)); exact BK257.out⟩, ⟨by repeat (first | (with_reducible first | exact HB.out | apply below_alloc | apply pw_below_drewN | apply below_drew1 | refine below_set ?_ GE257.out) | exact HB.out)⟩⟩
  case rest =>
    clear HC6
    try clear c1
    try clear c2
    try clear p2
    try clear c4
    try clear c9
    try clear c11
    try clear c11b0
    try clear c11b1
    try clear hcz10_0
    try clear hcz10_1
    try clear hcz10_2
    try clear hcz10_3
    try clear hcz10_4
    try clear hcz12_0
    try clear hcz12_1
    try clear hcz12_2
    try clear hcz12_3
    try clear hcz12_4
    try clear hfz10_0
    try clear hfz10_1
    try clear hfz10_2
    try clear hfz10_3
    try clear hfz10_4
    try clear hfz12_0
    try clear hfz12_1
    try clear hfz12_2
    try clear hfz12_3
    try clear hfz12_4
    obtain ⟨kq, x258000_5, HA, HJ5, HO_7, HO_8, BK257, HB⟩ := hcut
    cases kq with
    | zero => exact absurd HA.out (by simp [tributarylaw3_OpsJoins.j0])
    | succ kj5 =>
      have H := HA.out
      clear HA
      simp only [tributarylaw3_OpsJoins.j0] at H
      replace H := Option.bind_eq_some_iff.mp H
      obtain ⟨t264, A130, H⟩ := H
      replace H : ((ops_Apply.f kj5 x258000_5 a0_1 a0_2 a0_3 a0_4 t261 ([] : List (S62))).bind fun t267 => ((tributarylaw3_few.f t258 80).bind fun t270 => (if t270.length + t261.length < 8796093022208 then ((ops_Apply.f kj5 x258000_5 a0_1 a0_2 a0_3 a0_4 (t270 ++ t261) ([] : List (S62))).bind fun t276 => (tributarylaw3_OpsJoins.l0 kj5 t258 t264 t267 t276 ([] : List (S62)) 0 x258000_5 a0_1 a0_2 a0_3 a0_4)) else (none)))) = some r := H
      have A13 := Aside0.mk A130
      clear A130
      replace H := Option.bind_eq_some_iff.mp H
      obtain ⟨t267, A140, H⟩ := H
      replace H : ((tributarylaw3_few.f t258 80).bind fun t270 => (if t270.length + t261.length < 8796093022208 then ((ops_Apply.f kj5 x258000_5 a0_1 a0_2 a0_3 a0_4 (t270 ++ t261) ([] : List (S62))).bind fun t276 => (tributarylaw3_OpsJoins.l0 kj5 t258 t264 t267 t276 ([] : List (S62)) 0 x258000_5 a0_1 a0_2 a0_3 a0_4)) else (none))) = some r := H
      have A14 := Aside0.mk A140
      clear A140
      replace H := Option.bind_eq_some_iff.mp H
      obtain ⟨t270, A150, H⟩ := H
      replace H : (if t270.length + t261.length < 8796093022208 then ((ops_Apply.f kj5 x258000_5 a0_1 a0_2 a0_3 a0_4 (t270 ++ t261) ([] : List (S62))).bind fun t276 => (tributarylaw3_OpsJoins.l0 kj5 t258 t264 t267 t276 ([] : List (S62)) 0 x258000_5 a0_1 a0_2 a0_3 a0_4)) else (none)) = some r := H
      have A15 := Aside0.mk A150
      clear A150
      by_cases c16 : t270.length + t261.length < 8796093022208
      · rw [if_pos c16] at H
        have LMc16 := Aside0.mk c16
        clear c16
        obtain ⟨y273, hy273⟩ : ∃ y_ : List (S62), y_ = (t270 ++ t261) := ⟨_, rfl⟩
        replace H : ((ops_Apply.f kj5 x258000_5 a0_1 a0_2 a0_3 a0_4 y273 ([] : List (S62))).bind fun t276 => (tributarylaw3_OpsJoins.l0 kj5 t258 t264 t267 t276 ([] : List (S62)) 0 x258000_5 a0_1 a0_2 a0_3 a0_4)) = some r := by first | (rw [hy273]; with_reducible exact H) | (have H2_ := (Option.bind_some _ _).symm.trans H; rw [hy273]; with_reducible exact H2_) | (have H2_ := (Option.bind_some _ _).symm.trans H; with_reducible exact H2_) | with_reducible exact H | (rw [hy273]; exact H) | exact H
        have Ny273 := Aside0.mk hy273
        clear hy273
        replace H := Option.bind_eq_some_iff.mp H
        obtain ⟨t276, A170, H⟩ := H
        replace H : (tributarylaw3_OpsJoins.l0 kj5 t258 t264 t267 t276 ([] : List (S62)) 0 x258000_5 a0_1 a0_2 a0_3 a0_4) = some r := H
        have A17 := Aside0.mk A170
        clear A170
        have H' := Aside0.mk H
        clear H
        try go_wp2
        have n0_ := Aside0.mk (Kd.R_drew HO_7.out)
        have n1_ := Aside0.mk (Kd.R_drew HO_8.out)
        have n2_ := Aside0.mk (blk_drew BK257.out)
        have n3_ := Aside0.mk (below_drew1 HB.out)
        clear HO_7
        clear HO_8
        clear BK257
        clear HB
        have HO_7 := n0_
        have HO_8 := n1_
        have BK257 := n2_
        have HB := n3_
        clear n0_ n1_ n2_ n3_
        obtain ⟨Ao19, co19, eo19⟩ := Kd.R_slice HO_7.out
        (first | subst eo19 | (injection eo19 with f1_ f2_ f3_; have f4_ := f1_.symm; have f5_ := f3_.symm; clear f1_ f2_ f3_; subst f4_; subst f5_))
        refine start_ (n := 8) (S := fun w' => w'.cell? ⟨gb257, 0, none⟩ = some (.int .i64 x258000_5) ∧ w'.cell? ⟨gb257, 1, none⟩ = some (.int .i64 a0_1) ∧ w'.cell? ⟨gb257, 2, none⟩ = some (.int .i64 a0_2) ∧ w'.cell? ⟨gb257, 3, none⟩ = some (.int .i64 a0_3) ∧ w'.cell? ⟨gb257, 4, none⟩ = some (.int .i64 a0_4)) (ds := []) #[false, false, false, false, false, false, false, false] (by kernel_rfl) rfl rfl ⟨(blk_cell BK257.out 0).trans rfl, (blk_cell BK257.out 1).trans rfl, (blk_cell BK257.out 2).trans rfl, (blk_cell BK257.out 3).trans rfl, (blk_cell BK257.out 4).trans rfl⟩ (fun hHeld => ?_); refine with_tabW tributarylaw3_OpsJoins.tab4 tributarylaw3_OpsJoins.bits4 (fun HT_ HW_ => ?_)
        generalize wc.drew = w18 at HO_7 HO_8 BK257 HB hHeld ⊢
        refine pure_ (i := 1) (N := some 23) (v := ?_) (a' := ?_) #[false, true, false, false, false, false, false, false] rfl rfl (any_of HT_.out (by kernel_rfl)) (fun _ _ _ h => h) (Or.inl ⟨by rfl, ?_⟩) ?_ ?_
        rotate_left
        · intro w'
          go_simp
          with_reducible rfl
        rotate_left
        · simp only [Act.put, List.setIfInBounds_toArray, List.set_cons_zero, List.set_cons_succ, i64_w, i32_w]
          rfl
        refine pure_ (i := 4) (N := some 26) (v := ?_) (a' := ?_) #[false, true, false, false, true, false, false, false] rfl rfl (any_of HT_.out (by kernel_rfl)) (fun _ _ _ h => h) (Or.inl ⟨by rfl, ?_⟩) ?_ ?_
        rotate_left
        · intro w'
          go_simp
          with_reducible rfl
        rotate_left
        · simp only [Act.put, List.setIfInBounds_toArray, List.set_cons_zero, List.set_cons_succ, i64_w, i32_w]
          rfl
        refine take_ (i := 0) (N := some 22) (v := ?_) (a' := ?_) #[true, true, false, false, true, false, false, false] rfl rfl (take_ofW HT_.out HW_.out (by kernel_rfl)) (fun _ _ _ h => h) (Or.inl ⟨by rfl, ?_⟩) hHeld ?_ ?_
        rotate_left
        · rintro w' ⟨s0, s1, s2, s3, s4⟩
          go_simp
          with_reducible rfl
        rotate_left
        · simp only [Act.put, List.setIfInBounds_toArray, List.set_cons_zero, List.set_cons_succ, i64_w, i32_w]
          rfl
        refine take_ (i := 3) (N := some 25) (v := ?_) (a' := ?_) #[true, true, false, true, true, false, false, false] rfl rfl (take_ofW HT_.out HW_.out (by kernel_rfl)) (fun _ _ _ h => h) (Or.inl ⟨by rfl, ?_⟩) hHeld ?_ ?_
        rotate_left
        · rintro w' ⟨s0, s1, s2, s3, s4⟩
          go_simp
          with_reducible rfl
        rotate_left
        · simp only [Act.put, List.setIfInBounds_toArray, List.set_cons_zero, List.set_cons_succ, i64_w, i32_w]
          rfl
        refine one_ (i := 2) (N := some 24) #[true, true, true, true, true, false, false, false] rfl rfl (one_of HT_.out (by kernel_rfl)) (by decide) (fun K hK => ?_)
        refine goes_ Tryd.func43 (by kernel_rfl) rfl #[.agg #[.int .i64 x258000_5, .int .i64 a0_1, .int .i64 a0_2, .int .i64 a0_3, .int .i64 a0_4], .slice Ao19 t258.length co19, .slice none 0 0] (by rfl) rfl rfl (by (try simp only [List.map_toArray, List.map_cons, List.map_nil]); first | done | rfl | (simp only [List.length_drop, List.length_take]; rfl)) ?_
        refine (ops_Apply.calls kj5 x258000_5 a0_1 a0_2 a0_3 a0_4 _ _ t258 _ _ ([] : List (S62)) t264 _ ?side1 ?side2 ?side3 ?side4 A13.out).mono ?_
        (case side1 => repeat (first | exact (Kd.R_reads' HO_7.out).2.2 | (with_reducible refine Kd.C_alloc ?_ _) | (with_reducible refine Kd.C_drewN ?_ _) | (with_reducible refine Kd.C_drew ?_)))
        (case side2 => exact (Kd.R_reads' HO_7.out).2.1)
        (case side3 => exact Kd.C_nil _ _)
        (case side4 => exact Nat.le_refl _)
        rintro e w20 ⟨v265, rfl, ho0, hb⟩
        refine ⟨_, rfl, ?_⟩
        have n0_ := Aside0.mk (Kd.R_elder' (by (with_reducible repeat (first | apply Kd.R_alloc | apply Kd.R_drewN | apply Kd.R_drew)); exact HO_7.out) (Kd.R_base ho0) hb)
        have n1_ := Aside0.mk (Kd.R_elder' (by (with_reducible repeat (first | apply Kd.R_alloc | apply Kd.R_drewN | apply Kd.R_drew)); exact HO_8.out) (Kd.R_base ho0) hb)
        have n2_ := Aside0.mk (Kd.R_lower (Kd.R_new' (Kd.R_new' ho0 (Kd.R_lt (by (with_reducible repeat (first | apply Kd.R_alloc | apply Kd.R_drewN | apply Kd.R_drew)); exact HO_7.out))) (Kd.R_lt (by (with_reducible repeat (first | apply Kd.R_alloc | apply Kd.R_drewN | apply Kd.R_drew)); exact HO_8.out))) (below_size (by repeat (first | (with_reducible first | exact HB.out | apply below_alloc | apply pw_below_drewN | apply below_drew1 | refine below_set ?_ GE257.out) | exact HB.out))))
        have n3_ := Aside0.mk (blk_below (g := gb257) (o := .cells #[.int .i64 x258000_5, .int .i64 a0_1, .int .i64 a0_2, .int .i64 a0_3, .int .i64 a0_4] 55 (0, 0)) (by (with_reducible repeat (first | refine blk_drewN ?_ _ | refine blk_drew ?_ | refine blk_alloc ?_ _)); exact BK257.out) hb)
        have n4_ := Aside0.mk (below_step (by repeat (first | (with_reducible first | exact HB.out | apply below_alloc | apply pw_below_drewN | apply below_drew1 | refine below_set ?_ GE257.out) | exact HB.out)) hb)
        clear HO_7
        clear HO_8
        clear BK257
        clear HB
        have HO_7 := n0_
        have HO_8 := n1_
        have HO266 := n2_
        have BK257 := n3_
        have HB := n4_
        clear n0_ n1_ n2_ n3_ n4_
        (try clear hb)
        (try clear hb2)
        (try clear hk)
        (try clear hi)
        (try clear ho0)
        obtain ⟨Ao21, co21, eo21⟩ := Kd.R_slice HO_8.out
        (first | subst eo21 | (injection eo21 with f1_ f2_ f3_; have f4_ := f1_.symm; have f5_ := f3_.symm; clear f1_ f2_ f3_; subst f4_; subst f5_))
        refine hK.out _ _ ⟨(blk_cell BK257.out 0).trans rfl, (blk_cell BK257.out 1).trans rfl, (blk_cell BK257.out 2).trans rfl, (blk_cell BK257.out 3).trans rfl, (blk_cell BK257.out 4).trans rfl⟩ (fun hHeld => ?_)
        clear hK K
        refine norm_ (a' := ?_) ?_ ?_
        rotate_left
        · show Act.put _ (some 24) _ = _
          simp only [Act.put, List.setIfInBounds_toArray, List.set_cons_zero, List.set_cons_succ, i64_w, i32_w]
          rfl
        refine one_ (i := 5) (N := some 27) #[true, true, true, true, true, true, false, false] rfl rfl (one_of HT_.out (by kernel_rfl)) (by decide) (fun K hK => ?_)
        refine goes_ Tryd.func43 (by kernel_rfl) rfl #[.agg #[.int .i64 x258000_5, .int .i64 a0_1, .int .i64 a0_2, .int .i64 a0_3, .int .i64 a0_4], .slice Ao21 t261.length co21, .slice none 0 0] (by rfl) rfl rfl (by (try simp only [List.map_toArray, List.map_cons, List.map_nil]); first | done | rfl | (simp only [List.length_drop, List.length_take]; rfl)) ?_
        refine (ops_Apply.calls kj5 x258000_5 a0_1 a0_2 a0_3 a0_4 _ _ t261 _ _ ([] : List (S62)) t267 _ ?side1 ?side2 ?side3 ?side4 A14.out).mono ?_
        (case side1 => repeat (first | exact (Kd.R_reads' HO_8.out).2.2 | (with_reducible refine Kd.C_alloc ?_ _) | (with_reducible refine Kd.C_drewN ?_ _) | (with_reducible refine Kd.C_drew ?_)))
        (case side2 => exact (Kd.R_reads' HO_8.out).2.1)
        (case side3 => exact Kd.C_nil _ _)
        (case side4 => exact Nat.le_refl _)
        rintro e w22 ⟨v268, rfl, ho0, hb⟩
        refine ⟨_, rfl, ?_⟩
        have n0_ := Aside0.mk (Kd.R_elder' (by (with_reducible repeat (first | apply Kd.R_alloc | apply Kd.R_drewN | apply Kd.R_drew)); exact HO_7.out) (Kd.R_base ho0) hb)
        have n1_ := Aside0.mk (Kd.R_elder' (by (with_reducible repeat (first | apply Kd.R_alloc | apply Kd.R_drewN | apply Kd.R_drew)); exact HO_8.out) (Kd.R_base ho0) hb)
        have n2_ := Aside0.mk (Kd.R_elder' (by (with_reducible repeat (first | apply Kd.R_alloc | apply Kd.R_drewN | apply Kd.R_drew)); exact HO266.out) (Kd.R_base ho0) hb)
        have n3_ := Aside0.mk (Kd.R_lower (Kd.R_new' (Kd.R_new' (Kd.R_new' ho0 (Kd.R_lt (by (with_reducible repeat (first | apply Kd.R_alloc | apply Kd.R_drewN | apply Kd.R_drew)); exact HO_7.out))) (Kd.R_lt (by (with_reducible repeat (first | apply Kd.R_alloc | apply Kd.R_drewN | apply Kd.R_drew)); exact HO_8.out))) (Kd.R_lt (by (with_reducible repeat (first | apply Kd.R_alloc | apply Kd.R_drewN | apply Kd.R_drew)); exact HO266.out))) (below_size (by repeat (first | (with_reducible first | exact HB.out | apply below_alloc | apply pw_below_drewN | apply below_drew1 | refine below_set ?_ GE257.out) | exact HB.out))))
        have n4_ := Aside0.mk (blk_below (g := gb257) (o := .cells #[.int .i64 x258000_5, .int .i64 a0_1, .int .i64 a0_2, .int .i64 a0_3, .int .i64 a0_4] 55 (0, 0)) (by (with_reducible repeat (first | refine blk_drewN ?_ _ | refine blk_drew ?_ | refine blk_alloc ?_ _)); exact BK257.out) hb)
        have n5_ := Aside0.mk (below_step (by repeat (first | (with_reducible first | exact HB.out | apply below_alloc | apply pw_below_drewN | apply below_drew1 | refine below_set ?_ GE257.out) | exact HB.out)) hb)
        clear HO_7
        clear HO_8
        clear HO266
        clear BK257
        clear HB
        have HO_7 := n0_
        have HO_8 := n1_
        have HO266 := n2_
        have HO269 := n3_
        have BK257 := n4_
        have HB := n5_
        clear n0_ n1_ n2_ n3_ n4_ n5_
        (try clear hb)
        (try clear hb2)
        (try clear hk)
        (try clear hi)
        (try clear ho0)
        refine hK.out _ _ ⟨(blk_cell BK257.out 0).trans rfl, (blk_cell BK257.out 1).trans rfl, (blk_cell BK257.out 2).trans rfl, (blk_cell BK257.out 3).trans rfl, (blk_cell BK257.out 4).trans rfl⟩ (fun hHeld => ?_)
        clear hK K
        refine norm_ (a' := ?_) ?_ ?_
        rotate_left
        · show Act.put _ (some 27) _ = _
          simp only [Act.put, List.setIfInBounds_toArray, List.set_cons_zero, List.set_cons_succ, i64_w, i32_w]
          rfl
        refine pure_ (i := 6) (N := some 9) (v := ?_) (a' := ?_) #[true, true, true, true, true, true, true, false] rfl rfl (any_of HT_.out (by kernel_rfl)) (fun _ _ _ h => h) (Or.inl ⟨by rfl, ?_⟩) ?_ ?_
        rotate_left
        · intro w'
          go_simp
          with_reducible rfl
        rotate_left
        · simp only [Act.put, List.setIfInBounds_toArray, List.set_cons_zero, List.set_cons_succ, i64_w, i32_w]
          rfl
        refine pure_ (i := 7) (N := some 10) (v := ?_) (a' := ?_) #[true, true, true, true, true, true, true, true] rfl rfl (any_of HT_.out (by kernel_rfl)) (fun _ _ _ h => h) (Or.inl ⟨by rfl, ?_⟩) ?_ ?_
        rotate_left
        · intro w'
          go_simp
          with_reducible rfl
        rotate_left
        · simp only [Act.put, List.setIfInBounds_toArray, List.set_cons_zero, List.set_cons_succ, i64_w, i32_w]
          rfl
        refine done_ (done_of HT_.out (by kernel_rfl)) ?_
        try go_wp2
        have n0_ := Aside0.mk (Kd.R_drew HO_7.out)
        have n1_ := Aside0.mk (Kd.R_drew HO_8.out)
        have n2_ := Aside0.mk (Kd.R_drew HO266.out)
        have n3_ := Aside0.mk (Kd.R_drew HO269.out)
        have n4_ := Aside0.mk (blk_drew BK257.out)
        have n5_ := Aside0.mk (below_drew1 HB.out)
        clear HO_7
        clear HO_8
        clear HO266
        clear HO269
        clear BK257
        clear HB
        have HO_7 := n0_
        have HO_8 := n1_
        have HO266 := n2_
        have HO269 := n3_
        have BK257 := n4_
        have HB := n5_
        clear n0_ n1_ n2_ n3_ n4_ n5_
        refine start_ (n := 7) (S := fun w' => w'.cell? ⟨gb257, 0, none⟩ = some (.int .i64 x258000_5) ∧ w'.cell? ⟨gb257, 1, none⟩ = some (.int .i64 a0_1) ∧ w'.cell? ⟨gb257, 2, none⟩ = some (.int .i64 a0_2) ∧ w'.cell? ⟨gb257, 3, none⟩ = some (.int .i64 a0_3) ∧ w'.cell? ⟨gb257, 4, none⟩ = some (.int .i64 a0_4)) (ds := []) #[false, false, false, false, false, false, false] (by kernel_rfl) rfl rfl ⟨(blk_cell BK257.out 0).trans rfl, (blk_cell BK257.out 1).trans rfl, (blk_cell BK257.out 2).trans rfl, (blk_cell BK257.out 3).trans rfl, (blk_cell BK257.out 4).trans rfl⟩ (fun hHeld => ?_)
        generalize w22.drew = w23 at HO_7 HO_8 HO266 HO269 BK257 HB hHeld ⊢
        refine pure_ (i := 1) (N := some 29) (v := ?_) (a' := ?_) #[false, true, false, false, false, false, false] rfl rfl (by kernel_rfl) (fun _ _ _ h => h) (Or.inl ⟨by rfl, ?_⟩) ?_ ?_
        rotate_left
        · intro w'
          go_simp
          with_reducible rfl
        rotate_left
        · simp only [Act.put, List.setIfInBounds_toArray, List.set_cons_zero, List.set_cons_succ, i64_w, i32_w]
          rfl
        refine pure_ (i := 3) (N := some 31) (v := ?_) (a' := ?_) #[false, true, false, true, false, false, false] rfl rfl (by kernel_rfl) (fun _ _ _ h => h) (Or.inl ⟨by rfl, ?_⟩) ?_ ?_
        rotate_left
        · intro w'
          go_simp
          with_reducible rfl
        rotate_left
        · simp only [Act.put, List.setIfInBounds_toArray, List.set_cons_zero, List.set_cons_succ, i64_w, i32_w]
          rfl
        refine take_ (i := 0) (N := some 28) (v := ?_) (a' := ?_) #[true, true, false, true, false, false, false] rfl rfl (by kernel_rfl) (fun _ _ _ h => h) (Or.inl ⟨by rfl, ?_⟩) hHeld ?_ ?_
        rotate_left
        · rintro w' ⟨s0, s1, s2, s3, s4⟩
          go_simp
          with_reducible rfl
        rotate_left
        · simp only [Act.put, List.setIfInBounds_toArray, List.set_cons_zero, List.set_cons_succ, i64_w, i32_w]
          rfl
        refine one_ (i := 2) (N := some 30) #[true, true, true, true, false, false, false] rfl rfl (by kernel_rfl) (by decide) (fun K hK => ?_)
        refine goes_ Tryd.func42 (by kernel_rfl) rfl #[.slice Ao19 t258.length co19, .int .i64 80] (by rfl) rfl rfl (by (try simp only [List.map_toArray, List.map_cons, List.map_nil]); first | done | rfl | (simp only [List.length_drop, List.length_take]; rfl)) ?_
        with_reducible refine (tributarylaw3_few.calls _ _ t258 80 t270 _ ?side1 ?side2 A15.out).mono ?_
        (case side1 => repeat (first | exact (Kd.R_reads' HO_7.out).2.2 | (with_reducible refine Kd.C_alloc ?_ _) | (with_reducible refine Kd.C_drewN ?_ _) | (with_reducible refine Kd.C_drew ?_)))
        (case side2 => exact (Kd.R_reads' HO_7.out).2.1)
        rintro e w24 ⟨v271, rfl, ho0, hb⟩
        refine ⟨_, rfl, ?_⟩
        have n0_ := Aside0.mk (Kd.R_elder' (by (with_reducible repeat (first | apply Kd.R_alloc | apply Kd.R_drewN | apply Kd.R_drew)); exact HO_7.out) (Kd.R_base ho0) hb)
        have n1_ := Aside0.mk (Kd.R_elder' (by (with_reducible repeat (first | apply Kd.R_alloc | apply Kd.R_drewN | apply Kd.R_drew)); exact HO_8.out) (Kd.R_base ho0) hb)
        have n2_ := Aside0.mk (Kd.R_elder' (by (with_reducible repeat (first | apply Kd.R_alloc | apply Kd.R_drewN | apply Kd.R_drew)); exact HO266.out) (Kd.R_base ho0) hb)
        have n3_ := Aside0.mk (Kd.R_elder' (by (with_reducible repeat (first | apply Kd.R_alloc | apply Kd.R_drewN | apply Kd.R_drew)); exact HO269.out) (Kd.R_base ho0) hb)
        have n4_ := Aside0.mk (Kd.R_lower (Kd.R_new' (Kd.R_new' (Kd.R_new' (Kd.R_new' ho0 (Kd.R_lt (by (with_reducible repeat (first | apply Kd.R_alloc | apply Kd.R_drewN | apply Kd.R_drew)); exact HO_7.out))) (Kd.R_lt (by (with_reducible repeat (first | apply Kd.R_alloc | apply Kd.R_drewN | apply Kd.R_drew)); exact HO_8.out))) (Kd.R_lt (by (with_reducible repeat (first | apply Kd.R_alloc | apply Kd.R_drewN | apply Kd.R_drew)); exact HO266.out))) (Kd.R_lt (by (with_reducible repeat (first | apply Kd.R_alloc | apply Kd.R_drewN | apply Kd.R_drew)); exact HO269.out))) (below_size (by repeat (first | (with_reducible first | exact HB.out | apply below_alloc | apply pw_below_drewN | apply below_drew1 | refine below_set ?_ GE257.out) | exact HB.out))))
        have n5_ := Aside0.mk (blk_below (g := gb257) (o := .cells #[.int .i64 x258000_5, .int .i64 a0_1, .int .i64 a0_2, .int .i64 a0_3, .int .i64 a0_4] 55 (0, 0)) (by (with_reducible repeat (first | refine blk_drewN ?_ _ | refine blk_drew ?_ | refine blk_alloc ?_ _)); exact BK257.out) hb)
        have n6_ := Aside0.mk (below_step (by repeat (first | (with_reducible first | exact HB.out | apply below_alloc | apply pw_below_drewN | apply below_drew1 | refine below_set ?_ GE257.out) | exact HB.out)) hb)
        clear HO_7
        clear HO_8
        clear HO266
        clear HO269
        clear BK257
        clear HB
        have HO_7 := n0_
        have HO_8 := n1_
        have HO266 := n2_
        have HO269 := n3_
        have HO272 := n4_
        have BK257 := n5_
        have HB := n6_
        clear n0_ n1_ n2_ n3_ n4_ n5_ n6_
        (try clear hb)
        (try clear hb2)
        (try clear hk)
        (try clear hi)
        (try clear ho0)
        refine hK.out _ _ ⟨(blk_cell BK257.out 0).trans rfl, (blk_cell BK257.out 1).trans rfl, (blk_cell BK257.out 2).trans rfl, (blk_cell BK257.out 3).trans rfl, (blk_cell BK257.out 4).trans rfl⟩ (fun hHeld => ?_)
        clear hK K
        refine norm_ (a' := ?_) ?_ ?_
        rotate_left
        · show Act.put _ (some 30) _ = _
          simp only [Act.put, List.setIfInBounds_toArray, List.set_cons_zero, List.set_cons_succ, i64_w, i32_w]
          rfl
        refine one_ (i := 4) (N := some 32) #[true, true, true, true, true, false, false] rfl rfl (by kernel_rfl) (by decide) (fun K hK => ?_)
        refine Kd.R_append_rows_step k62 (w0 := w) w.heap.size (by rfl) (.tmp 30) (.tmp 31) 60 62 (.agg #[(.int .i64 0), (.int .i64 0)]) 16 rfl Tryd.underlying60 info62 rfl (by decide) (by omega) v271 t270 t261 _ _ _ (fun k_ => some k_ ≠ (.slice Ao19 t258.length co19 : Value).ownBlock ∧ some k_ ≠ (.slice Ao21 t261.length co21 : Value).ownBlock ∧ some k_ ≠ (v265 : Value).ownBlock ∧ some k_ ≠ (v268 : Value).ownBlock) (fun _ => False) rfl rfl ?aO ?aR (fun _ _ h => h) (fun _ h => h.elim) ?aF ?aB ?aS ?aL ?_
        (case aR => repeat (first | exact (Kd.R_reads' HO_8.out).2.2 | (with_reducible refine Kd.C_alloc ?_ _) | (with_reducible refine Kd.C_drewN ?_ _) | (with_reducible refine Kd.C_drew ?_)))
        (case aB => exact (by repeat (first | (with_reducible first | exact HB.out | apply below_alloc | apply pw_below_drewN | apply below_drew1 | refine below_set ?_ GE257.out) | exact HB.out)))
        (case aF => exact (fun k_ hk => ⟨Kd.fresh' (Kd.R_lt (by (with_reducible repeat (first | apply Kd.R_alloc | apply Kd.R_drewN | apply Kd.R_drew)); exact HO_7.out)) k_ hk, Kd.fresh' (Kd.R_lt (by (with_reducible repeat (first | apply Kd.R_alloc | apply Kd.R_drewN | apply Kd.R_drew)); exact HO_8.out)) k_ hk, Kd.fresh' (Kd.R_lt (by (with_reducible repeat (first | apply Kd.R_alloc | apply Kd.R_drewN | apply Kd.R_drew)); exact HO266.out)) k_ hk, Kd.fresh' (Kd.R_lt (by (with_reducible repeat (first | apply Kd.R_alloc | apply Kd.R_drewN | apply Kd.R_drew)); exact HO269.out)) k_ hk⟩))
        (case aO => exact (by (with_reducible repeat (first | apply Kd.R_alloc | apply Kd.R_drewN | apply Kd.R_drew)); exact Kd.R_mono HO272.out (fun _ hk => ⟨hk.1.1.1.2, ⟨hk.1.1.2, ⟨hk.1.2, hk.2⟩⟩⟩)))
        (case aS => exact (below_size (by repeat (first | (with_reducible first | exact HB.out | apply below_alloc | apply pw_below_drewN | apply below_drew1 | refine below_set ?_ GE257.out) | exact HB.out))))
        (case aL => have := LMc16.out; omega)
        intro v274 w25 ho hb hg hat
        rw [← Ny273.out] at ho
        have n0_ := Aside0.mk (Kd.R_after (ok := (fun k_ => some k_ ≠ (.slice Ao21 t261.length co21 : Value).ownBlock ∧ some k_ ≠ (v265 : Value).ownBlock ∧ some k_ ≠ (v268 : Value).ownBlock)) (by (with_reducible repeat (first | apply Kd.R_alloc | apply Kd.R_drewN | apply Kd.R_drew)); exact Kd.R_mono HO_7.out (fun _ hk => ⟨⟨hk.1.1.1, ⟨hk.1.1.2, hk.1.2⟩⟩, hk.2⟩)) hg hat)
        have n1_ := Aside0.mk (Kd.R_after (ok := (fun k_ => some k_ ≠ (.slice Ao19 t258.length co19 : Value).ownBlock ∧ some k_ ≠ (v265 : Value).ownBlock ∧ some k_ ≠ (v268 : Value).ownBlock)) (by (with_reducible repeat (first | apply Kd.R_alloc | apply Kd.R_drewN | apply Kd.R_drew)); exact Kd.R_mono HO_8.out (fun _ hk => ⟨⟨hk.1.1.1, ⟨hk.1.1.2, hk.1.2⟩⟩, hk.2⟩)) hg hat)
        have n2_ := Aside0.mk (blk_grown (g := gb257) (o := .cells #[.int .i64 x258000_5, .int .i64 a0_1, .int .i64 a0_2, .int .i64 a0_3, .int .i64 a0_4] 55 (0, 0)) (by (with_reducible repeat (first | refine blk_drewN ?_ _ | refine blk_drew ?_ | refine blk_alloc ?_ _)); exact BK257.out) hg (Kd.R_ne HO272.out BK257.out (by decide)))
        have n3_ := Aside0.mk (Kd.R_after (ok := (fun k_ => some k_ ≠ (.slice Ao19 t258.length co19 : Value).ownBlock ∧ some k_ ≠ (.slice Ao21 t261.length co21 : Value).ownBlock ∧ some k_ ≠ (v268 : Value).ownBlock)) (by (with_reducible repeat (first | apply Kd.R_alloc | apply Kd.R_drewN | apply Kd.R_drew)); exact Kd.R_mono HO266.out (fun _ hk => ⟨⟨hk.1.1.1.2, ⟨hk.1.1.2, hk.1.2⟩⟩, hk.2⟩)) hg hat)
        have n4_ := Aside0.mk (Kd.R_after (ok := (fun k_ => some k_ ≠ (.slice Ao19 t258.length co19 : Value).ownBlock ∧ some k_ ≠ (.slice Ao21 t261.length co21 : Value).ownBlock ∧ some k_ ≠ (v265 : Value).ownBlock)) (by (with_reducible repeat (first | apply Kd.R_alloc | apply Kd.R_drewN | apply Kd.R_drew)); exact Kd.R_mono HO269.out (fun _ hk => ⟨⟨hk.1.1.1.2, ⟨hk.1.1.2, hk.1.2⟩⟩, hk.2⟩)) hg hat)
        have n5_ := Aside0.mk (hb)
        have n6_ := Aside0.mk (ho)
        clear HO_7
        clear HO_8
        clear BK257
        clear HO266
        clear HO269
        clear HB
        clear HO272
        have HO_7 := n0_
        have HO_8 := n1_
        have BK257 := n2_
        have HO266 := n3_
        have HO269 := n4_
        have HB := n5_
        have HO275 := n6_
        clear n0_ n1_ n2_ n3_ n4_ n5_ n6_
        clear ho hb hg hat
        obtain ⟨Ao26, co26, eo26⟩ := Kd.R_slice HO275.out
        (first | subst eo26 | (injection eo26 with f1_ f2_ f3_; have f4_ := f1_.symm; have f5_ := f3_.symm; clear f1_ f2_ f3_; subst f4_; subst f5_))
        refine hK.out _ _ ⟨(blk_cell BK257.out 0).trans rfl, (blk_cell BK257.out 1).trans rfl, (blk_cell BK257.out 2).trans rfl, (blk_cell BK257.out 3).trans rfl, (blk_cell BK257.out 4).trans rfl⟩ (fun hHeld => ?_)
        clear hK K
        refine norm_ (a' := ?_) ?_ ?_
        rotate_left
        · show Act.put _ (some 32) _ = _
          simp only [Act.put, List.setIfInBounds_toArray, List.set_cons_zero, List.set_cons_succ, i64_w, i32_w]
          rfl
        refine one_ (i := 5) (N := some 33) #[true, true, true, true, true, true, false] rfl rfl (by kernel_rfl) (by decide) (fun K hK => ?_)
        refine goes_ Tryd.func43 (by kernel_rfl) rfl #[.agg #[.int .i64 x258000_5, .int .i64 a0_1, .int .i64 a0_2, .int .i64 a0_3, .int .i64 a0_4], .slice Ao26 y273.length co26, .slice none 0 0] (by rfl) rfl rfl (by (try simp only [List.map_toArray, List.map_cons, List.map_nil]); first | done | rfl | (simp only [List.length_drop, List.length_take]; rfl)) ?_
        refine (ops_Apply.calls kj5 x258000_5 a0_1 a0_2 a0_3 a0_4 _ _ y273 _ _ ([] : List (S62)) t276 _ ?side1 ?side2 ?side3 ?side4 A17.out).mono ?_
        (case side1 => repeat (first | exact (Kd.R_reads' HO275.out).2.2 | (with_reducible refine Kd.C_alloc ?_ _) | (with_reducible refine Kd.C_drewN ?_ _) | (with_reducible refine Kd.C_drew ?_)))
        (case side2 => exact (Kd.R_reads' HO275.out).2.1)
        (case side3 => exact Kd.C_nil _ _)
        (case side4 => exact Nat.le_refl _)
        rintro e w27 ⟨v277, rfl, ho0, hb⟩
        refine ⟨_, rfl, ?_⟩
        have n0_ := Aside0.mk (Kd.R_elder' (by (with_reducible repeat (first | apply Kd.R_alloc | apply Kd.R_drewN | apply Kd.R_drew)); exact HO_7.out) (Kd.R_base ho0) hb)
        have n1_ := Aside0.mk (Kd.R_elder' (by (with_reducible repeat (first | apply Kd.R_alloc | apply Kd.R_drewN | apply Kd.R_drew)); exact HO_8.out) (Kd.R_base ho0) hb)
        have n2_ := Aside0.mk (Kd.R_elder' (by (with_reducible repeat (first | apply Kd.R_alloc | apply Kd.R_drewN | apply Kd.R_drew)); exact HO266.out) (Kd.R_base ho0) hb)
        have n3_ := Aside0.mk (Kd.R_elder' (by (with_reducible repeat (first | apply Kd.R_alloc | apply Kd.R_drewN | apply Kd.R_drew)); exact HO269.out) (Kd.R_base ho0) hb)
        have n4_ := Aside0.mk (Kd.R_elder' (by (with_reducible repeat (first | apply Kd.R_alloc | apply Kd.R_drewN | apply Kd.R_drew)); exact HO275.out) (Kd.R_base ho0) hb)
        have n5_ := Aside0.mk (Kd.R_lower (Kd.R_new' (Kd.R_new' (Kd.R_new' (Kd.R_new' (Kd.R_new' ho0 (Kd.R_lt (by (with_reducible repeat (first | apply Kd.R_alloc | apply Kd.R_drewN | apply Kd.R_drew)); exact HO_7.out))) (Kd.R_lt (by (with_reducible repeat (first | apply Kd.R_alloc | apply Kd.R_drewN | apply Kd.R_drew)); exact HO_8.out))) (Kd.R_lt (by (with_reducible repeat (first | apply Kd.R_alloc | apply Kd.R_drewN | apply Kd.R_drew)); exact HO266.out))) (Kd.R_lt (by (with_reducible repeat (first | apply Kd.R_alloc | apply Kd.R_drewN | apply Kd.R_drew)); exact HO269.out))) (Kd.R_lt (by (with_reducible repeat (first | apply Kd.R_alloc | apply Kd.R_drewN | apply Kd.R_drew)); exact HO275.out))) (below_size (by repeat (first | (with_reducible first | exact HB.out | apply below_alloc | apply pw_below_drewN | apply below_drew1 | refine below_set ?_ GE257.out) | exact HB.out))))
        have n6_ := Aside0.mk (blk_below (g := gb257) (o := .cells #[.int .i64 x258000_5, .int .i64 a0_1, .int .i64 a0_2, .int .i64 a0_3, .int .i64 a0_4] 55 (0, 0)) (by (with_reducible repeat (first | refine blk_drewN ?_ _ | refine blk_drew ?_ | refine blk_alloc ?_ _)); exact BK257.out) hb)
        have n7_ := Aside0.mk (below_step (by repeat (first | (with_reducible first | exact HB.out | apply below_alloc | apply pw_below_drewN | apply below_drew1 | refine below_set ?_ GE257.out) | exact HB.out)) hb)
        clear HO_7
        clear HO_8
        clear HO266
        clear HO269
        clear HO275
        clear BK257
        clear HB
        have HO_7 := n0_
        have HO_8 := n1_
        have HO266 := n2_
        have HO269 := n3_
        have HO275 := n4_
        have HO278 := n5_
        have BK257 := n6_
        have HB := n7_
        clear n0_ n1_ n2_ n3_ n4_ n5_ n6_ n7_
        (try clear hb)
        (try clear hb2)
        (try clear hk)
        (try clear hi)
        (try clear ho0)
        refine hK.out _ _ ⟨(blk_cell BK257.out 0).trans rfl, (blk_cell BK257.out 1).trans rfl, (blk_cell BK257.out 2).trans rfl, (blk_cell BK257.out 3).trans rfl, (blk_cell BK257.out 4).trans rfl⟩ (fun hHeld => ?_)
        clear hK K
        refine norm_ (a' := ?_) ?_ ?_
        rotate_left
        · show Act.put _ (some 33) _ = _
          simp only [Act.put, List.setIfInBounds_toArray, List.set_cons_zero, List.set_cons_succ, i64_w, i32_w]
          rfl
        refine pure_ (i := 6) (N := some 11) (v := ?_) (a' := ?_) #[true, true, true, true, true, true, true] rfl rfl (by kernel_rfl) (fun _ _ _ h => h) (Or.inl ⟨by rfl, ?_⟩) ?_ ?_
        rotate_left
        · intro w'
          go_simp
          with_reducible rfl
        rotate_left
        · simp only [Act.put, List.setIfInBounds_toArray, List.set_cons_zero, List.set_cons_succ, i64_w, i32_w]
          rfl
        refine done_ (by kernel_rfl) ?_
        try go_wp2
        go_loopg [12, 13] kj5 (fun kq v12 v13 w' => ∃ (x12_2 : List (S62)) (x13_2 : Int), v13 = .int .i64 x13_2 ∧ Aside0 (tributarylaw3_OpsJoins.l0 kq t258 t264 t267 t276 x12_2 x13_2 x258000_5 a0_1 a0_2 a0_3 a0_4 = some r) ∧ Aside0 (kq ≤ kj5) ∧ Aside0 (Kd.R k62 62 w' w.heap.size (fun k_ => some k_ ≠ (v265 : Value).ownBlock ∧ some k_ ≠ (v268 : Value).ownBlock ∧ some k_ ≠ (v277 : Value).ownBlock ∧ some k_ ≠ (v12 : Value).ownBlock) (.slice Ao19 t258.length co19) t258) ∧ Aside0 (Kd.R k62 62 w' w.heap.size (fun k_ => some k_ ≠ ((.slice Ao19 t258.length co19) : Value).ownBlock ∧ some k_ ≠ (v268 : Value).ownBlock ∧ some k_ ≠ (v277 : Value).ownBlock ∧ some k_ ≠ (v12 : Value).ownBlock) v265 t264) ∧ Aside0 (Kd.R k62 62 w' w.heap.size (fun k_ => some k_ ≠ ((.slice Ao19 t258.length co19) : Value).ownBlock ∧ some k_ ≠ (v265 : Value).ownBlock ∧ some k_ ≠ (v277 : Value).ownBlock ∧ some k_ ≠ (v12 : Value).ownBlock) v268 t267) ∧ Aside0 (Kd.R k62 62 w' w.heap.size (fun k_ => some k_ ≠ ((.slice Ao19 t258.length co19) : Value).ownBlock ∧ some k_ ≠ (v265 : Value).ownBlock ∧ some k_ ≠ (v268 : Value).ownBlock ∧ some k_ ≠ (v12 : Value).ownBlock) v277 t276) ∧ Aside0 (Kd.R k62 62 w' w.heap.size (fun k_ => some k_ ≠ ((.slice Ao19 t258.length co19) : Value).ownBlock ∧ some k_ ≠ (v265 : Value).ownBlock ∧ some k_ ≠ (v268 : Value).ownBlock ∧ some k_ ≠ (v277 : Value).ownBlock) v12 x12_2) ∧ Aside0 (w'.heap[gb257]? = some (.cells #[.int .i64 x258000_5, .int .i64 a0_1, .int .i64 a0_2, .int .i64 a0_3, .int .i64 a0_4] 55 (0, 0))) ∧ Aside0 (Below w.heap.size w w'))
        case atStart => exact ⟨(([] : List (S62))), (0), (by first | rfl | (simp; done) | (simp [*]; done)), H', ⟨Nat.le_refl _⟩, ⟨by (with_reducible repeat (first | apply Kd.R_alloc | apply Kd.R_drewN | apply Kd.R_drew)); exact Kd.R_mono HO_7.out (fun _ hk => ⟨hk.1.1.2.1, ⟨hk.1.1.2.2, ⟨hk.2, (by simp [Value.ownBlock])⟩⟩⟩)⟩, ⟨by (with_reducible repeat (first | apply Kd.R_alloc | apply Kd.R_drewN | apply Kd.R_drew)); exact Kd.R_mono HO266.out (fun _ hk => ⟨hk.1.1.1, ⟨hk.1.1.2.2, ⟨hk.2, (by simp [Value.ownBlock])⟩⟩⟩)⟩, ⟨by (with_reducible repeat (first | apply Kd.R_alloc | apply Kd.R_drewN | apply Kd.R_drew)); exact Kd.R_mono HO269.out (fun _ hk => ⟨hk.1.1.1, ⟨hk.1.1.2.2, ⟨hk.2, (by simp [Value.ownBlock])⟩⟩⟩)⟩, ⟨by (with_reducible repeat (first | apply Kd.R_alloc | apply Kd.R_drewN | apply Kd.R_drew)); exact Kd.R_mono HO278.out (fun _ hk => ⟨hk.1.1.1.1.2, ⟨hk.1.1.2, ⟨hk.1.2, (by simp [Value.ownBlock])⟩⟩⟩)⟩, ⟨by first | exact Kd.R_nil _ _ _ _ _ | exact Kd.N_nil _ _ _ _ _ | exact Kd.V_nil _ _ _ _ _ | exact Kd.Q_nil _ _ _ _ _ | exact Kd.S_nil _ _ _ _ _⟩, ⟨by (with_reducible repeat (first | refine blk_drewN ?_ _ | refine blk_drew ?_ | refine blk_alloc ?_ _)); exact BK257.out⟩, ⟨by repeat (first | (with_reducible first | exact HB.out | apply below_alloc | apply pw_below_drewN | apply below_drew1 | refine below_set ?_ GE257.out) | exact HB.out)⟩⟩
        case round =>
          clear H'
          try clear c1
          try clear c2
          try clear p2
          try clear c4
          try clear c9
          try clear c11
          try clear c11b0
          try clear c11b1
          try clear c16
          try clear hcz10_0
          try clear hcz10_1
          try clear hcz10_2
          try clear hcz10_3
          try clear hcz10_4
          try clear hcz12_0
          try clear hcz12_1
          try clear hcz12_2
          try clear hcz12_3
          try clear hcz12_4
          try clear hfz10_0
          try clear hfz10_1
          try clear hfz10_2
          try clear hfz10_3
          try clear hfz10_4
          try clear hfz12_0
          try clear hfz12_1
          try clear hfz12_2
          try clear hfz12_3
          try clear hfz12_4
          try clear p2
          obtain ⟨x12_2, x13_2, rfl, HA, HK2, HO_7, HO_9, HO_10, HO_11, HO_12, BK257, HB⟩ := hrel
          cases gk with
          | zero => exact absurd HA.out (by simp [tributarylaw3_OpsJoins.l0])
          | succ k2 =>
            have H := HA.out
            clear HA
            simp only [tributarylaw3_OpsJoins.l0] at H
            by_cases c28 : x13_2 < (t258.length : Int)
            · rw [if_pos c28] at H
              have c28b0 : decide (x13_2 < (t258.length : Int)) = true := decide_eq_true c28
              clear c28
              by_cases c29 : 0 ≤ x13_2
              · rw [if_pos c29] at H
                have c29b0 : decide (0 ≤ x13_2) = true := decide_eq_true c29
                clear c29
                replace H := Option.bind_eq_some_iff.mp H
                obtain ⟨t280, A300, H⟩ := H
                replace H : (if x12_2.length + t280.length < 8796093022208 then (tributarylaw3_OpsJoins.l0 k2 t258 t264 t267 t276 (x12_2 ++ t280) (wrap64 (x13_2 + 1)) x258000_5 a0_1 a0_2 a0_3 a0_4) else (none)) = some r := H
                have A30 := Aside0.mk A300
                clear A300
                by_cases c31 : x12_2.length + t280.length < 8796093022208
                · rw [if_pos c31] at H
                  have LMc31 := Aside0.mk c31
                  clear c31
                  obtain ⟨y283, hy283⟩ : ∃ y_ : List (S62), y_ = (x12_2 ++ t280) := ⟨_, rfl⟩
                  replace H : (tributarylaw3_OpsJoins.l0 k2 t258 t264 t267 t276 y283 (wrap64 (x13_2 + 1)) x258000_5 a0_1 a0_2 a0_3 a0_4) = some r := by first | (rw [hy283]; with_reducible exact H) | (have H2_ := (Option.bind_some _ _).symm.trans H; rw [hy283]; with_reducible exact H2_) | (have H2_ := (Option.bind_some _ _).symm.trans H; with_reducible exact H2_) | with_reducible exact H | (rw [hy283]; exact H) | exact H
                  have Ny283 := Aside0.mk hy283
                  clear hy283
                  have H' := Aside0.mk H
                  clear H
                  try go_wp2
                  have n0_ := Aside0.mk (Kd.R_drew HO_7.out)
                  have n1_ := Aside0.mk (Kd.R_drew HO_9.out)
                  have n2_ := Aside0.mk (Kd.R_drew HO_10.out)
                  have n3_ := Aside0.mk (Kd.R_drew HO_11.out)
                  have n4_ := Aside0.mk (Kd.R_drew HO_12.out)
                  have n5_ := Aside0.mk (blk_drew BK257.out)
                  have n6_ := Aside0.mk (below_drew1 HB.out)
                  clear HO_7
                  clear HO_9
                  clear HO_10
                  clear HO_11
                  clear HO_12
                  clear BK257
                  clear HB
                  have HO_7 := n0_
                  have HO_9 := n1_
                  have HO_10 := n2_
                  have HO_11 := n3_
                  have HO_12 := n4_
                  have BK257 := n5_
                  have HB := n6_
                  clear n0_ n1_ n2_ n3_ n4_ n5_ n6_
                  have p279 : 0 ≤ (x13_2 : Int) := of_decide_eq_true (by first | (with_reducible assumption) | assumption)
                  have q279 : x13_2 < (t258.length : Int) := of_decide_eq_true (by first | (with_reducible assumption) | assumption)
                  obtain ⟨ad279, e279, hx279_0, hx279_1⟩ := at_T62 (Kd.R_reads' HO_7.out).2.2 x13_2 p279 q279
                  cases e279
                  replace p279 := eq_true p279
                  replace q279 := eq_true q279
                  refine start_ (n := 9) (S := fun w' => w'.cell? ⟨gb257, 0, none⟩ = some (.int .i64 x258000_5) ∧ w'.cell? ⟨gb257, 1, none⟩ = some (.int .i64 a0_1) ∧ w'.cell? ⟨gb257, 2, none⟩ = some (.int .i64 a0_2) ∧ w'.cell? ⟨gb257, 3, none⟩ = some (.int .i64 a0_3) ∧ w'.cell? ⟨gb257, 4, none⟩ = some (.int .i64 a0_4) ∧ w'.cell? (ad279.add ((x13_2).toNat * 2)) = some (.int .i64 ((rd_T62 t258 x13_2).f0)) ∧ w'.cell? ⟨(ad279.add ((x13_2).toNat * 2)).block, (ad279.add ((x13_2).toNat * 2)).off + 1, none⟩ = some (.int .i64 ((rd_T62 t258 x13_2).f1))) (ds := [7]) #[false, false, false, false, false, false, false, false, false] (by kernel_rfl) rfl rfl ⟨(blk_cell BK257.out 0).trans rfl, (blk_cell BK257.out 1).trans rfl, (blk_cell BK257.out 2).trans rfl, (blk_cell BK257.out 3).trans rfl, (blk_cell BK257.out 4).trans rfl, hx279_0, hx279_1⟩ (fun hHeld => ?_); refine with_tabW tributarylaw3_OpsJoins.tab10 tributarylaw3_OpsJoins.bits10 (fun HT_ HW_ => ?_)
                  generalize wr.drew = w32 at HO_7 HO_9 HO_10 HO_11 HO_12 BK257 HB hx279_0 hx279_1 hHeld ⊢
                  refine pure_ (i := 0) (N := some 40) (v := ?_) (a' := ?_) #[true, false, false, false, false, false, false, false, false] rfl rfl (any_of HT_.out (by kernel_rfl)) (fun _ _ _ h => h) (Or.inl ⟨by rfl, ?_⟩) ?_ ?_
                  rotate_left
                  · intro w'
                    go_simp
                    with_reducible rfl
                  rotate_left
                  · simp only [Act.put, List.setIfInBounds_toArray, List.set_cons_zero, List.set_cons_succ, i64_w, i32_w]
                    rfl
                  refine pure_ (i := 2) (N := some 42) (v := ?_) (a' := ?_) #[true, false, true, false, false, false, false, false, false] rfl rfl (any_of HT_.out (by kernel_rfl)) (fun _ _ _ h => h) (Or.inl ⟨by rfl, ?_⟩) ?_ ?_
                  rotate_left
                  · intro w'
                    go_simp
                    with_reducible rfl
                  rotate_left
                  · simp only [Act.put, List.setIfInBounds_toArray, List.set_cons_zero, List.set_cons_succ, i64_w, i32_w]
                    rfl
                  refine pure_ (i := 3) (N := some 43) (v := ?_) (a' := ?_) #[true, false, true, true, false, false, false, false, false] rfl rfl (any_of HT_.out (by kernel_rfl)) (fun _ _ _ h => h) (Or.inl ⟨by rfl, ?_⟩) ?_ ?_
                  rotate_left
                  · intro w'
                    go_simp
                    with_reducible rfl
                  rotate_left
                  · simp only [Act.put, List.setIfInBounds_toArray, List.set_cons_zero, List.set_cons_succ, i64_w, i32_w]
                    rfl
                  refine pure_ (i := 4) (N := some 44) (v := ?_) (a' := ?_) #[true, false, true, true, true, false, false, false, false] rfl rfl (any_of HT_.out (by kernel_rfl)) (fun _ _ _ h => h) (Or.inl ⟨by rfl, ?_⟩) ?_ ?_
                  rotate_left
                  · intro w'
                    go_simp
                    with_reducible rfl
                  rotate_left
                  · simp only [Act.put, List.setIfInBounds_toArray, List.set_cons_zero, List.set_cons_succ, i64_w, i32_w]
                    rfl
                  refine take_ (i := 1) (N := some 41) (v := ?_) (a' := ?_) #[true, true, true, true, true, false, false, false, false] rfl rfl (take_ofW HT_.out HW_.out (by kernel_rfl)) (fun _ _ _ h => h) (Or.inl ⟨by rfl, ?_⟩) hHeld ?_ ?_
                  rotate_left
                  · rintro w' ⟨s0, s1, s2, s3, s4, s5, s6⟩
                    go_simp
                    with_reducible rfl
                  rotate_left
                  · simp only [Act.put, List.setIfInBounds_toArray, List.set_cons_zero, List.set_cons_succ, i64_w, i32_w]
                    rfl
                  refine take_ (i := 5) (N := some 45) (v := ?_) (a' := ?_) #[true, true, true, true, true, true, false, false, false] rfl rfl (take_ofW HT_.out HW_.out (by kernel_rfl)) (fun _ _ _ h => h) (Or.inl ⟨by rfl, ?_⟩) hHeld ?_ ?_
                  rotate_left
                  · rintro w' ⟨s0, s1, s2, s3, s4, s5, s6⟩
                    go_simp
                    with_reducible rfl
                  rotate_left
                  · simp only [Act.put, List.setIfInBounds_toArray, List.set_cons_zero, List.set_cons_succ, i64_w, i32_w]
                    rfl
                  refine one_ (i := 6) (N := some 46) #[true, true, true, true, true, true, true, false, false] rfl rfl (one_of HT_.out (by kernel_rfl)) (by decide) (fun K hK => ?_)
                  refine goes_ Tryd.func46 (by kernel_rfl) rfl #[.agg #[.int .i64 x258000_5, .int .i64 a0_1, .int .i64 a0_2, .int .i64 a0_3, .int .i64 a0_4], .agg #[.int .i64 ((rd_T62 t258 x13_2).f0), .int .i64 ((rd_T62 t258 x13_2).f1)]] (by rfl) rfl rfl (by (try simp only [List.map_toArray, List.map_cons, List.map_nil]); first | done | rfl | (simp only [List.length_drop, List.length_take]; rfl)) ?_
                  with_reducible refine (ops_One.calls k2 x258000_5 a0_1 a0_2 a0_3 a0_4 ((rd_T62 t258 x13_2).f0) ((rd_T62 t258 x13_2).f1) t280 _ A30.out).mono ?_
                  rintro e w33 ⟨v281, rfl, ho0, hb⟩
                  have HS5_ := (hb.cell (World.block_lt_of_cell? _ _ (hHeld.2.2.2.2.2.1))).trans (hHeld.2.2.2.2.2.1)
                  have HS6_ := (hb.cell (World.block_lt_of_cell? _ _ (hHeld.2.2.2.2.2.2))).trans (hHeld.2.2.2.2.2.2)
                  refine ⟨_, rfl, ?_⟩
                  have n0_ := Aside0.mk (Kd.R_elder' (by (with_reducible repeat (first | apply Kd.R_alloc | apply Kd.R_drewN | apply Kd.R_drew)); exact HO_7.out) (Kd.R_base ho0) hb)
                  have n1_ := Aside0.mk (Kd.R_elder' (by (with_reducible repeat (first | apply Kd.R_alloc | apply Kd.R_drewN | apply Kd.R_drew)); exact HO_9.out) (Kd.R_base ho0) hb)
                  have n2_ := Aside0.mk (Kd.R_elder' (by (with_reducible repeat (first | apply Kd.R_alloc | apply Kd.R_drewN | apply Kd.R_drew)); exact HO_10.out) (Kd.R_base ho0) hb)
                  have n3_ := Aside0.mk (Kd.R_elder' (by (with_reducible repeat (first | apply Kd.R_alloc | apply Kd.R_drewN | apply Kd.R_drew)); exact HO_11.out) (Kd.R_base ho0) hb)
                  have n4_ := Aside0.mk (Kd.R_elder' (by (with_reducible repeat (first | apply Kd.R_alloc | apply Kd.R_drewN | apply Kd.R_drew)); exact HO_12.out) (Kd.R_base ho0) hb)
                  have n5_ := Aside0.mk (Kd.R_lower (Kd.R_new' (Kd.R_new' (Kd.R_new' (Kd.R_new' (Kd.R_new' ho0 (Kd.R_lt (by (with_reducible repeat (first | apply Kd.R_alloc | apply Kd.R_drewN | apply Kd.R_drew)); exact HO_7.out))) (Kd.R_lt (by (with_reducible repeat (first | apply Kd.R_alloc | apply Kd.R_drewN | apply Kd.R_drew)); exact HO_9.out))) (Kd.R_lt (by (with_reducible repeat (first | apply Kd.R_alloc | apply Kd.R_drewN | apply Kd.R_drew)); exact HO_10.out))) (Kd.R_lt (by (with_reducible repeat (first | apply Kd.R_alloc | apply Kd.R_drewN | apply Kd.R_drew)); exact HO_11.out))) (Kd.R_lt (by (with_reducible repeat (first | apply Kd.R_alloc | apply Kd.R_drewN | apply Kd.R_drew)); exact HO_12.out))) (below_size (by repeat (first | (with_reducible first | exact HB.out | apply below_alloc | apply pw_below_drewN | apply below_drew1 | refine below_set ?_ GE257.out) | exact HB.out))))
                  have n6_ := Aside0.mk (blk_below (g := gb257) (o := .cells #[.int .i64 x258000_5, .int .i64 a0_1, .int .i64 a0_2, .int .i64 a0_3, .int .i64 a0_4] 55 (0, 0)) (by (with_reducible repeat (first | refine blk_drewN ?_ _ | refine blk_drew ?_ | refine blk_alloc ?_ _)); exact BK257.out) hb)
                  have n7_ := Aside0.mk (below_step (by repeat (first | (with_reducible first | exact HB.out | apply below_alloc | apply pw_below_drewN | apply below_drew1 | refine below_set ?_ GE257.out) | exact HB.out)) hb)
                  clear HO_7
                  clear HO_9
                  clear HO_10
                  clear HO_11
                  clear HO_12
                  clear BK257
                  clear HB
                  have HO_7 := n0_
                  have HO_9 := n1_
                  have HO_10 := n2_
                  have HO_11 := n3_
                  have HO_12 := n4_
                  have HO282 := n5_
                  have BK257 := n6_
                  have HB := n7_
                  clear n0_ n1_ n2_ n3_ n4_ n5_ n6_ n7_
                  (try clear hb)
                  (try clear hb2)
                  (try clear hk)
                  (try clear hi)
                  (try clear ho0)
                  obtain ⟨Ao35, co35, eo35⟩ := Kd.R_slice HO282.out
                  (first | subst eo35 | (injection eo35 with f1_ f2_ f3_; have f4_ := f1_.symm; have f5_ := f3_.symm; clear f1_ f2_ f3_; subst f4_; subst f5_))
                  refine hK.out _ _ ⟨(blk_cell BK257.out 0).trans rfl, (blk_cell BK257.out 1).trans rfl, (blk_cell BK257.out 2).trans rfl, (blk_cell BK257.out 3).trans rfl, (blk_cell BK257.out 4).trans rfl, HS5_, HS6_⟩ (fun hHeld => ?_)
                  clear hK K
                  refine norm_ (a' := ?_) ?_ ?_
                  rotate_left
                  · show Act.put _ (some 46) _ = _
                    simp only [Act.put, List.setIfInBounds_toArray, List.set_cons_zero, List.set_cons_succ, i64_w, i32_w]
                    rfl
                  refine last_ (i := 7) (N := some 47) #[true, true, true, true, true, true, true, true, false] rfl rfl (one_of HT_.out (by kernel_rfl)) (by decide) (fun K hK => ?_)
                  refine Kd.R_append_rows_step k62 (w0 := w) w.heap.size (by rfl) (.tmp 40) (.tmp 46) 60 62 (.agg #[(.int .i64 0), (.int .i64 0)]) 16 rfl Tryd.underlying60 info62 rfl (by decide) (by omega) u12 x12_2 t280 _ _ _ (fun k_ => some k_ ≠ (.slice (some ad279) t258.length co19 : Value).ownBlock ∧ some k_ ≠ (v265 : Value).ownBlock ∧ some k_ ≠ (v268 : Value).ownBlock ∧ some k_ ≠ (v277 : Value).ownBlock ∧ some k_ ≠ (.slice Ao35 t280.length co35 : Value).ownBlock) (fun _ => False) rfl rfl ?aO ?aR (fun _ _ h => h) (fun _ h => h.elim) ?aF ?aB ?aS ?aL ?_
                  (case aR => repeat (first | exact (Kd.R_reads' HO282.out).2.2 | (with_reducible refine Kd.C_alloc ?_ _) | (with_reducible refine Kd.C_drewN ?_ _) | (with_reducible refine Kd.C_drew ?_)))
                  (case aB => exact (by repeat (first | (with_reducible first | exact HB.out | apply below_alloc | apply pw_below_drewN | apply below_drew1 | refine below_set ?_ GE257.out) | exact HB.out)))
                  (case aF => exact (fun k_ hk => ⟨Kd.fresh' (Kd.R_lt (by (with_reducible repeat (first | apply Kd.R_alloc | apply Kd.R_drewN | apply Kd.R_drew)); exact HO_7.out)) k_ hk, Kd.fresh' (Kd.R_lt (by (with_reducible repeat (first | apply Kd.R_alloc | apply Kd.R_drewN | apply Kd.R_drew)); exact HO_9.out)) k_ hk, Kd.fresh' (Kd.R_lt (by (with_reducible repeat (first | apply Kd.R_alloc | apply Kd.R_drewN | apply Kd.R_drew)); exact HO_10.out)) k_ hk, Kd.fresh' (Kd.R_lt (by (with_reducible repeat (first | apply Kd.R_alloc | apply Kd.R_drewN | apply Kd.R_drew)); exact HO_11.out)) k_ hk, Kd.fresh' (Kd.R_lt (by (with_reducible repeat (first | apply Kd.R_alloc | apply Kd.R_drewN | apply Kd.R_drew)); exact HO282.out)) k_ hk⟩))
                  (case aO => exact (by (with_reducible repeat (first | apply Kd.R_alloc | apply Kd.R_drewN | apply Kd.R_drew)); exact Kd.R_mono HO_12.out (fun _ hk => ⟨hk.1.1, ⟨hk.1.2.1, ⟨hk.1.2.2.1, ⟨hk.1.2.2.2, hk.2⟩⟩⟩⟩)))
                  (case aS => exact (below_size (by repeat (first | (with_reducible first | exact HB.out | apply below_alloc | apply pw_below_drewN | apply below_drew1 | refine below_set ?_ GE257.out) | exact HB.out))))
                  (case aL => have := LMc31.out; omega)
                  intro v284 w34 ho hb hg hat
                  rw [← Ny283.out] at ho
                  have n0_ := Aside0.mk (Kd.R_after (ok := (fun k_ => some k_ ≠ (v265 : Value).ownBlock ∧ some k_ ≠ (v268 : Value).ownBlock ∧ some k_ ≠ (v277 : Value).ownBlock ∧ some k_ ≠ (.slice Ao35 t280.length co35 : Value).ownBlock)) (by (with_reducible repeat (first | apply Kd.R_alloc | apply Kd.R_drewN | apply Kd.R_drew)); exact Kd.R_mono HO_7.out (fun _ hk => ⟨⟨hk.1.1, ⟨hk.1.2.1, ⟨hk.1.2.2.1, hk.2⟩⟩⟩, hk.1.2.2.2⟩)) hg hat)
                  have n1_ := Aside0.mk (Kd.R_after (ok := (fun k_ => some k_ ≠ (.slice (some ad279) t258.length co19 : Value).ownBlock ∧ some k_ ≠ (v268 : Value).ownBlock ∧ some k_ ≠ (v277 : Value).ownBlock ∧ some k_ ≠ (.slice Ao35 t280.length co35 : Value).ownBlock)) (by (with_reducible repeat (first | apply Kd.R_alloc | apply Kd.R_drewN | apply Kd.R_drew)); exact Kd.R_mono HO_9.out (fun _ hk => ⟨⟨hk.1.1, ⟨hk.1.2.1, ⟨hk.1.2.2.1, hk.2⟩⟩⟩, hk.1.2.2.2⟩)) hg hat)
                  have n2_ := Aside0.mk (Kd.R_after (ok := (fun k_ => some k_ ≠ (.slice (some ad279) t258.length co19 : Value).ownBlock ∧ some k_ ≠ (v265 : Value).ownBlock ∧ some k_ ≠ (v277 : Value).ownBlock ∧ some k_ ≠ (.slice Ao35 t280.length co35 : Value).ownBlock)) (by (with_reducible repeat (first | apply Kd.R_alloc | apply Kd.R_drewN | apply Kd.R_drew)); exact Kd.R_mono HO_10.out (fun _ hk => ⟨⟨hk.1.1, ⟨hk.1.2.1, ⟨hk.1.2.2.1, hk.2⟩⟩⟩, hk.1.2.2.2⟩)) hg hat)
                  have n3_ := Aside0.mk (Kd.R_after (ok := (fun k_ => some k_ ≠ (.slice (some ad279) t258.length co19 : Value).ownBlock ∧ some k_ ≠ (v265 : Value).ownBlock ∧ some k_ ≠ (v268 : Value).ownBlock ∧ some k_ ≠ (.slice Ao35 t280.length co35 : Value).ownBlock)) (by (with_reducible repeat (first | apply Kd.R_alloc | apply Kd.R_drewN | apply Kd.R_drew)); exact Kd.R_mono HO_11.out (fun _ hk => ⟨⟨hk.1.1, ⟨hk.1.2.1, ⟨hk.1.2.2.1, hk.2⟩⟩⟩, hk.1.2.2.2⟩)) hg hat)
                  have n4_ := Aside0.mk (blk_grown (g := gb257) (o := .cells #[.int .i64 x258000_5, .int .i64 a0_1, .int .i64 a0_2, .int .i64 a0_3, .int .i64 a0_4] 55 (0, 0)) (by (with_reducible repeat (first | refine blk_drewN ?_ _ | refine blk_drew ?_ | refine blk_alloc ?_ _)); exact BK257.out) hg (Kd.R_ne HO_12.out BK257.out (by decide)))
                  have n5_ := Aside0.mk (Kd.R_after (ok := (fun k_ => some k_ ≠ (.slice (some ad279) t258.length co19 : Value).ownBlock ∧ some k_ ≠ (v265 : Value).ownBlock ∧ some k_ ≠ (v268 : Value).ownBlock ∧ some k_ ≠ (v277 : Value).ownBlock)) (by (with_reducible repeat (first | apply Kd.R_alloc | apply Kd.R_drewN | apply Kd.R_drew)); exact Kd.R_mono HO282.out (fun _ hk => ⟨⟨hk.1.1.1.1.2, ⟨hk.1.1.1.2, ⟨hk.1.1.2, hk.1.2⟩⟩⟩, hk.2⟩)) hg hat)
                  have n6_ := Aside0.mk (hb)
                  have n7_ := Aside0.mk (ho)
                  clear HO_7
                  clear HO_9
                  clear HO_10
                  clear HO_11
                  clear BK257
                  clear HO282
                  clear HB
                  clear HO_12
                  have HO_7 := n0_
                  have HO_9 := n1_
                  have HO_10 := n2_
                  have HO_11 := n3_
                  have BK257 := n4_
                  have HO282 := n5_
                  have HB := n6_
                  have HO285 := n7_
                  clear n0_ n1_ n2_ n3_ n4_ n5_ n6_ n7_
                  clear ho hb hg hat
                  refine hK.out _ _ ?_
                  clear hK K
                  refine norm_ (a' := ?_) ?_ ?_
                  rotate_left
                  · show Act.put _ (some 47) _ = _
                    simp only [Act.put, List.setIfInBounds_toArray, List.set_cons_zero, List.set_cons_succ, i64_w, i32_w]
                    rfl
                  refine pure_ (i := 8) (N := some 12) (v := ?_) (a' := ?_) #[true, true, true, true, true, true, true, true, true] rfl rfl (any_of HT_.out (by kernel_rfl)) (fun _ _ _ h => h) (Or.inl ⟨by rfl, ?_⟩) ?_ ?_
                  rotate_left
                  · intro w'
                    go_simp
                    with_reducible rfl
                  rotate_left
                  · simp only [Act.put, List.setIfInBounds_toArray, List.set_cons_zero, List.set_cons_succ, i64_w, i32_w]
                    rfl
                  refine done_ (done_of HT_.out (by kernel_rfl)) ?_
                  try go_wp2
                  go_roundg k2
                  case measure => have := HJ5.out; have := HK2.out; omega
                  case rel => exact ⟨(y283), (wrap64 (x13_2 + 1)), (by first | rfl | (simp; done) | (simp [*]; done)), H', ⟨by have := HJ5.out; have := HK2.out; omega⟩, ⟨by (with_reducible repeat (first | apply Kd.R_alloc | apply Kd.R_drewN | apply Kd.R_drew)); exact Kd.R_mono HO_7.out (fun _ hk => ⟨hk.1.1, ⟨hk.1.2.1, ⟨hk.1.2.2.1, hk.2⟩⟩⟩)⟩, ⟨by (with_reducible repeat (first | apply Kd.R_alloc | apply Kd.R_drewN | apply Kd.R_drew)); exact Kd.R_mono HO_9.out (fun _ hk => ⟨hk.1.1, ⟨hk.1.2.1, ⟨hk.1.2.2.1, hk.2⟩⟩⟩)⟩, ⟨by (with_reducible repeat (first | apply Kd.R_alloc | apply Kd.R_drewN | apply Kd.R_drew)); exact Kd.R_mono HO_10.out (fun _ hk => ⟨hk.1.1, ⟨hk.1.2.1, ⟨hk.1.2.2.1, hk.2⟩⟩⟩)⟩, ⟨by (with_reducible repeat (first | apply Kd.R_alloc | apply Kd.R_drewN | apply Kd.R_drew)); exact Kd.R_mono HO_11.out (fun _ hk => ⟨hk.1.1, ⟨hk.1.2.1, ⟨hk.1.2.2.1, hk.2⟩⟩⟩)⟩, ⟨by (with_reducible repeat (first | apply Kd.R_alloc | apply Kd.R_drewN | apply Kd.R_drew)); exact Kd.R_mono HO285.out (fun _ hk => ⟨hk.1, ⟨hk.2.1, ⟨hk.2.2.1, hk.2.2.2.1⟩⟩⟩)⟩, ⟨by (with_reducible repeat (first | refine blk_drewN ?_ _ | refine blk_drew ?_ | refine blk_alloc ?_ _)); exact BK257.out⟩, ⟨by repeat (first | (with_reducible first | exact HB.out | apply below_alloc | apply pw_below_drewN | apply below_drew1 | refine below_set ?_ GE257.out) | exact HB.out)⟩⟩
                · rw [if_neg c31] at H
                  exact absurd H (by simp)
              · rw [if_neg c29] at H
                exact absurd H (by simp)
            · rw [if_neg c28] at H
              have c28b0 : decide (x13_2 < (t258.length : Int)) = false := decide_eq_false c28
              clear c28
              have HC36 := Aside0.mk H
              clear H
              go_upto_region 11 with (fail)
              go_cut [55] (fun v55 wc => ∃ (kq : Nat) (x55_35 : Bool), v55 = .bool x55_35 ∧ Aside0 (tributarylaw3_OpsJoins.j2 kq t264 t267 t276 x12_2 x55_35 = some r) ∧ Aside0 (kq ≤ k2) ∧ Aside0 (Kd.R k62 62 wc w.heap.size (fun k_ => some k_ ≠ (v268 : Value).ownBlock ∧ some k_ ≠ (v277 : Value).ownBlock ∧ some k_ ≠ (u12 : Value).ownBlock) v265 t264) ∧ Aside0 (Kd.R k62 62 wc w.heap.size (fun k_ => some k_ ≠ (v265 : Value).ownBlock ∧ some k_ ≠ (v277 : Value).ownBlock ∧ some k_ ≠ (u12 : Value).ownBlock) v268 t267) ∧ Aside0 (Kd.R k62 62 wc w.heap.size (fun k_ => some k_ ≠ (v265 : Value).ownBlock ∧ some k_ ≠ (v268 : Value).ownBlock ∧ some k_ ≠ (u12 : Value).ownBlock) v277 t276) ∧ Aside0 (Kd.R k62 62 wc w.heap.size (fun k_ => some k_ ≠ (v265 : Value).ownBlock ∧ some k_ ≠ (v268 : Value).ownBlock ∧ some k_ ≠ (v277 : Value).ownBlock) u12 x12_2) ∧ Aside0 (wc.heap[gb257]? = some (.cells #[.int .i64 x258000_5, .int .i64 a0_1, .int .i64 a0_2, .int .i64 a0_3, .int .i64 a0_4] 55 (0, 0))) ∧ Aside0 (Below w.heap.size w wc))
              case first =>
                have H := HC36.out
                clear HC36
                replace H := Option.bind_eq_some_iff.mp H
                obtain ⟨t286, A370, H⟩ := H
                replace H : (if t286 = true then ((ops_Right.f x258000_5 a0_1 a0_2 a0_3 a0_4).bind fun t287 => (if t287.isNone = true then (tributarylaw3_OpsJoins.j2 k2 t264 t267 t276 x12_2 true) else (tributarylaw3_OpsJoins.j2 k2 t264 t267 t276 x12_2 false))) else (tributarylaw3_OpsJoins.j2 k2 t264 t267 t276 x12_2 false)) = some r := H
                have A37 := Aside0.mk A370
                clear A370
                by_cases c38 : t286 = true
                · subst c38
                  have H1 : ((ops_Right.f x258000_5 a0_1 a0_2 a0_3 a0_4).bind fun t287 => (if t287.isNone = true then (tributarylaw3_OpsJoins.j2 k2 t264 t267 t276 x12_2 true) else (tributarylaw3_OpsJoins.j2 k2 t264 t267 t276 x12_2 false))) = some r := by rw [if_pos rfl] at H; exact H
                  clear H
                  have H := H1
                  clear H1
                  replace H := Option.bind_eq_some_iff.mp H
                  obtain ⟨t287, A390, H⟩ := H
                  replace H : (if t287.isNone = true then (tributarylaw3_OpsJoins.j2 k2 t264 t267 t276 x12_2 true) else (tributarylaw3_OpsJoins.j2 k2 t264 t267 t276 x12_2 false)) = some r := H
                  have A39 := Aside0.mk A390
                  clear A390
                  rcases t287 with _ | q288
                  · have H1 : (tributarylaw3_OpsJoins.j2 k2 t264 t267 t276 x12_2 true) = some r := by rw [if_pos (show (none : Option Int).isNone = true by rfl)] at H; exact H
                    clear H
                    have H := H1
                    clear H1
                    try simp only [errW_none, errW_some]
                    have H' := Aside0.mk H
                    clear H
                    have hcz40_0 : wr.cell? ⟨gb257, 0, none⟩ = some (.int .i64 x258000_5) := (blk_cell BK257.out 0).trans rfl
                    have hcz40_1 : wr.cell? ⟨gb257, 1, none⟩ = some (.int .i64 a0_1) := (blk_cell BK257.out 1).trans rfl
                    have hcz40_2 : wr.cell? ⟨gb257, 2, none⟩ = some (.int .i64 a0_2) := (blk_cell BK257.out 2).trans rfl
                    have hcz40_3 : wr.cell? ⟨gb257, 3, none⟩ = some (.int .i64 a0_3) := (blk_cell BK257.out 3).trans rfl
                    have hcz40_4 : wr.cell? ⟨gb257, 4, none⟩ = some (.int .i64 a0_4) := (blk_cell BK257.out 4).trans rfl
                    have hfz40_0 := blk_frozen BK257.out 0
                    have hfz40_1 := blk_frozen BK257.out 1
                    have hfz40_2 := blk_frozen BK257.out 2
                    have hfz40_3 := blk_frozen BK257.out 3
                    have hfz40_4 := blk_frozen BK257.out 4
                    go_wp2_with (first | ((with_reducible refine gate_callee (f := 38) rfl ?_); refine goesL_ (some 50) rfl rfl Tryd.func38 (by kernel_rfl) rfl #[.int .i64 x258000_5] rfl (by (try simp only [List.map_toArray, List.map_cons, List.map_nil]); first | done | rfl | (simp only [List.length_drop, List.length_take]; rfl)) ?_; (with_reducible refine (ops_Narrow.calls x258000_5 true _ A37.out).mono ?_); rintro e w' ⟨rfl, ⟨nd, rfl⟩⟩; refine ⟨_, rfl, ?_⟩) | (go_at_call 33; (with_reducible refine (ops_Right.calls x258000_5 a0_1 a0_2 a0_3 a0_4 none _ A39.out).mono ?_); rintro e w41 ⟨bx_, rfl, hbx, hb⟩; (try simp only [errV_none, errV_some]); have n0_ := Aside0.mk (Kd.R_below (by (with_reducible repeat (first | apply Kd.R_alloc | apply Kd.R_drewN | apply Kd.R_drew)); exact HO_7.out) hb); have n1_ := Aside0.mk (Kd.R_below (by (with_reducible repeat (first | apply Kd.R_alloc | apply Kd.R_drewN | apply Kd.R_drew)); exact HO_9.out) hb); have n2_ := Aside0.mk (Kd.R_below (by (with_reducible repeat (first | apply Kd.R_alloc | apply Kd.R_drewN | apply Kd.R_drew)); exact HO_10.out) hb); have n3_ := Aside0.mk (Kd.R_below (by (with_reducible repeat (first | apply Kd.R_alloc | apply Kd.R_drewN | apply Kd.R_drew)); exact HO_11.out) hb); have n4_ := Aside0.mk (Kd.R_below (by (with_reducible repeat (first | apply Kd.R_alloc | apply Kd.R_drewN | apply Kd.R_drew)); exact HO_12.out) hb); have n5_ := Aside0.mk (blk_below (g := gb257) (o := .cells #[.int .i64 x258000_5, .int .i64 a0_1, .int .i64 a0_2, .int .i64 a0_3, .int .i64 a0_4] 55 (0, 0)) (by (with_reducible repeat (first | refine blk_drewN ?_ _ | refine blk_drew ?_ | refine blk_alloc ?_ _)); exact BK257.out) hb); have n6_ := Aside0.mk (below_step (by repeat (first | (with_reducible first | exact HB.out | apply below_alloc | apply pw_below_drewN | apply below_drew1 | refine below_set ?_ GE257.out) | exact HB.out)) hb); clear HO_7; clear HO_9; clear HO_10; clear HO_11; clear HO_12; clear BK257; clear HB; have HO_7 := n0_; have HO_9 := n1_; have HO_10 := n2_; have HO_11 := n3_; have HO_12 := n4_; have BK257 := n5_; have HB := n6_; clear n0_ n1_ n2_ n3_ n4_ n5_ n6_; (try clear hb); (try clear hb2); (try clear hk); (try clear hi); (try simp only [errW_none, errW_some])))
                    go_meet
                    case rel => exact ⟨_, (true), (by first | rfl | (simp; done) | (simp [*]; done)), H', ⟨by have := HJ5.out; have := HK2.out; first | omega | exact Nat.le_refl _⟩, ⟨by (with_reducible repeat (first | apply Kd.R_alloc | apply Kd.R_drewN | apply Kd.R_drew)); exact Kd.R_mono HO_9.out (fun _ hk => ⟨hk.2.1, ⟨hk.2.2.1, hk.2.2.2⟩⟩)⟩, ⟨by (with_reducible repeat (first | apply Kd.R_alloc | apply Kd.R_drewN | apply Kd.R_drew)); exact Kd.R_mono HO_10.out (fun _ hk => ⟨hk.2.1, ⟨hk.2.2.1, hk.2.2.2⟩⟩)⟩, ⟨by (with_reducible repeat (first | apply Kd.R_alloc | apply Kd.R_drewN | apply Kd.R_drew)); exact Kd.R_mono HO_11.out (fun _ hk => ⟨hk.2.1, ⟨hk.2.2.1, hk.2.2.2⟩⟩)⟩, ⟨by (with_reducible repeat (first | apply Kd.R_alloc | apply Kd.R_drewN | apply Kd.R_drew)); exact Kd.R_mono HO_12.out (fun _ hk => ⟨hk.2.1, ⟨hk.2.2.1, hk.2.2.2⟩⟩)⟩, ⟨by (with_reducible repeat (first | refine blk_drewN ?_ _ | refine blk_drew ?_ | refine blk_alloc ?_ _)); exact BK257.out⟩, ⟨by repeat (first | (with_reducible first | exact HB.out | apply below_alloc | apply pw_below_drewN | apply below_drew1 | refine below_set ?_ GE257.out) | exact HB.out)⟩⟩
                  · have H1 : (tributarylaw3_OpsJoins.j2 k2 t264 t267 t276 x12_2 false) = some r := by rw [if_neg (show ¬ (some q288).isNone = true by simp)] at H; exact H
                    clear H
                    have H := H1
                    clear H1
                    try simp only [errW_none, errW_some]
                    have H' := Aside0.mk H
                    clear H
                    have hcz42_0 : wr.cell? ⟨gb257, 0, none⟩ = some (.int .i64 x258000_5) := (blk_cell BK257.out 0).trans rfl
                    have hcz42_1 : wr.cell? ⟨gb257, 1, none⟩ = some (.int .i64 a0_1) := (blk_cell BK257.out 1).trans rfl
                    have hcz42_2 : wr.cell? ⟨gb257, 2, none⟩ = some (.int .i64 a0_2) := (blk_cell BK257.out 2).trans rfl
                    have hcz42_3 : wr.cell? ⟨gb257, 3, none⟩ = some (.int .i64 a0_3) := (blk_cell BK257.out 3).trans rfl
                    have hcz42_4 : wr.cell? ⟨gb257, 4, none⟩ = some (.int .i64 a0_4) := (blk_cell BK257.out 4).trans rfl
                    have hfz42_0 := blk_frozen BK257.out 0
                    have hfz42_1 := blk_frozen BK257.out 1
                    have hfz42_2 := blk_frozen BK257.out 2
                    have hfz42_3 := blk_frozen BK257.out 3
                    have hfz42_4 := blk_frozen BK257.out 4
                    go_wp2_with (first | ((with_reducible refine gate_callee (f := 38) rfl ?_); refine goesL_ (some 50) rfl rfl Tryd.func38 (by kernel_rfl) rfl #[.int .i64 x258000_5] rfl (by (try simp only [List.map_toArray, List.map_cons, List.map_nil]); first | done | rfl | (simp only [List.length_drop, List.length_take]; rfl)) ?_; (with_reducible refine (ops_Narrow.calls x258000_5 true _ A37.out).mono ?_); rintro e w' ⟨rfl, ⟨nd, rfl⟩⟩; refine ⟨_, rfl, ?_⟩) | (go_at_call 33; (with_reducible refine (ops_Right.calls x258000_5 a0_1 a0_2 a0_3 a0_4 (some q288) _ A39.out).mono ?_); rintro e w43 ⟨bq288, rfl, hbx, hb⟩; (try simp only [errV_none, errV_some]); have n0_ := Aside0.mk (Kd.R_below (by (with_reducible repeat (first | apply Kd.R_alloc | apply Kd.R_drewN | apply Kd.R_drew)); exact HO_7.out) hb); have n1_ := Aside0.mk (Kd.R_below (by (with_reducible repeat (first | apply Kd.R_alloc | apply Kd.R_drewN | apply Kd.R_drew)); exact HO_9.out) hb); have n2_ := Aside0.mk (Kd.R_below (by (with_reducible repeat (first | apply Kd.R_alloc | apply Kd.R_drewN | apply Kd.R_drew)); exact HO_10.out) hb); have n3_ := Aside0.mk (Kd.R_below (by (with_reducible repeat (first | apply Kd.R_alloc | apply Kd.R_drewN | apply Kd.R_drew)); exact HO_11.out) hb); have n4_ := Aside0.mk (Kd.R_below (by (with_reducible repeat (first | apply Kd.R_alloc | apply Kd.R_drewN | apply Kd.R_drew)); exact HO_12.out) hb); have n5_ := Aside0.mk (blk_below (g := gb257) (o := .cells #[.int .i64 x258000_5, .int .i64 a0_1, .int .i64 a0_2, .int .i64 a0_3, .int .i64 a0_4] 55 (0, 0)) (by (with_reducible repeat (first | refine blk_drewN ?_ _ | refine blk_drew ?_ | refine blk_alloc ?_ _)); exact BK257.out) hb); have n6_ := Aside0.mk ((Nat.ne_of_lt (Nat.lt_of_lt_of_le (blk_lt (g := gb257) (o := .cells #[.int .i64 x258000_5, .int .i64 a0_1, .int .i64 a0_2, .int .i64 a0_3, .int .i64 a0_4] 55 (0, 0)) (by (with_reducible repeat (first | refine blk_drewN ?_ _ | refine blk_drew ?_ | refine blk_alloc ?_ _)); exact BK257.out)) hbx.1) : gb257 ≠ bq288)); have n7_ := Aside0.mk ((Nat.ne_of_gt (Nat.lt_of_lt_of_le (blk_lt (g := gb257) (o := .cells #[.int .i64 x258000_5, .int .i64 a0_1, .int .i64 a0_2, .int .i64 a0_3, .int .i64 a0_4] 55 (0, 0)) (by (with_reducible repeat (first | refine blk_drewN ?_ _ | refine blk_drew ?_ | refine blk_alloc ?_ _)); exact BK257.out)) hbx.1) : bq288 ≠ gb257)); have n8_ := Aside0.mk (hbx.2); have n9_ := Aside0.mk ((Nat.le_trans (below_size (by repeat (first | (with_reducible first | exact HB.out | apply below_alloc | apply pw_below_drewN | apply below_drew1 | refine below_set ?_ GE257.out) | exact HB.out))) hbx.1 : w.heap.size ≤ bq288)); have n10_ := Aside0.mk ((Nat.le_trans (below_size (by repeat (first | (with_reducible first | exact HB.out | apply below_alloc | apply pw_below_drewN | apply below_drew1 | refine below_set ?_ GE257.out) | exact HB.out))) hbx.1 : w.heap.size ≤ bq288)); have n11_ := Aside0.mk (below_step (by repeat (first | (with_reducible first | exact HB.out | apply below_alloc | apply pw_below_drewN | apply below_drew1 | refine below_set ?_ GE257.out) | exact HB.out)) hb); clear HO_7; clear HO_9; clear HO_10; clear HO_11; clear HO_12; clear BK257; clear HB; have HO_7 := n0_; have HO_9 := n1_; have HO_10 := n2_; have HO_11 := n3_; have HO_12 := n4_; have BK257 := n5_; have NB257_5003 := n6_; have NB5003_257 := n7_; have BK5003 := n8_; have GW5003 := n9_; have GE5003 := n10_; have HB := n11_; clear n0_ n1_ n2_ n3_ n4_ n5_ n6_ n7_ n8_ n9_ n10_ n11_; (try clear hb); (try clear hb2); (try clear hk); (try clear hi); (try simp only [errW_none, errW_some])))
                    go_meet
                    case rel => exact ⟨_, (false), (by first | rfl | (simp; done) | (simp [*]; done)), H', ⟨by have := HJ5.out; have := HK2.out; first | omega | exact Nat.le_refl _⟩, ⟨by (with_reducible repeat (first | apply Kd.R_alloc | apply Kd.R_drewN | apply Kd.R_drew)); exact Kd.R_mono HO_9.out (fun _ hk => ⟨hk.2.1, ⟨hk.2.2.1, hk.2.2.2⟩⟩)⟩, ⟨by (with_reducible repeat (first | apply Kd.R_alloc | apply Kd.R_drewN | apply Kd.R_drew)); exact Kd.R_mono HO_10.out (fun _ hk => ⟨hk.2.1, ⟨hk.2.2.1, hk.2.2.2⟩⟩)⟩, ⟨by (with_reducible repeat (first | apply Kd.R_alloc | apply Kd.R_drewN | apply Kd.R_drew)); exact Kd.R_mono HO_11.out (fun _ hk => ⟨hk.2.1, ⟨hk.2.2.1, hk.2.2.2⟩⟩)⟩, ⟨by (with_reducible repeat (first | apply Kd.R_alloc | apply Kd.R_drewN | apply Kd.R_drew)); exact Kd.R_mono HO_12.out (fun _ hk => ⟨hk.2.1, ⟨hk.2.2.1, hk.2.2.2⟩⟩)⟩, ⟨by (with_reducible repeat (first | refine blk_drewN ?_ _ | refine blk_drew ?_ | refine blk_alloc ?_ _)); exact BK257.out⟩, ⟨by repeat (first | (with_reducible first | exact HB.out | apply below_alloc | apply pw_below_drewN | apply below_drew1 | refine below_set ?_ GE257.out | refine below_set ?_ GE5003.out) | exact HB.out)⟩⟩
                · replace c38 := Bool.eq_false_iff.mpr c38
                  subst c38
                  have H1 : (tributarylaw3_OpsJoins.j2 k2 t264 t267 t276 x12_2 false) = some r := by rw [if_neg (show ¬ (false = true) by decide)] at H; exact H
                  clear H
                  have H := H1
                  clear H1
                  have H' := Aside0.mk H
                  clear H
                  have hcz44_0 : wr.cell? ⟨gb257, 0, none⟩ = some (.int .i64 x258000_5) := (blk_cell BK257.out 0).trans rfl
                  have hcz44_1 : wr.cell? ⟨gb257, 1, none⟩ = some (.int .i64 a0_1) := (blk_cell BK257.out 1).trans rfl
                  have hcz44_2 : wr.cell? ⟨gb257, 2, none⟩ = some (.int .i64 a0_2) := (blk_cell BK257.out 2).trans rfl
                  have hcz44_3 : wr.cell? ⟨gb257, 3, none⟩ = some (.int .i64 a0_3) := (blk_cell BK257.out 3).trans rfl
                  have hcz44_4 : wr.cell? ⟨gb257, 4, none⟩ = some (.int .i64 a0_4) := (blk_cell BK257.out 4).trans rfl
                  have hfz44_0 := blk_frozen BK257.out 0
                  have hfz44_1 := blk_frozen BK257.out 1
                  have hfz44_2 := blk_frozen BK257.out 2
                  have hfz44_3 := blk_frozen BK257.out 3
                  have hfz44_4 := blk_frozen BK257.out 4
                  go_wp2_with (first | ((with_reducible refine gate_callee (f := 38) rfl ?_); refine goesL_ (some 50) rfl rfl Tryd.func38 (by kernel_rfl) rfl #[.int .i64 x258000_5] rfl (by (try simp only [List.map_toArray, List.map_cons, List.map_nil]); first | done | rfl | (simp only [List.length_drop, List.length_take]; rfl)) ?_; (with_reducible refine (ops_Narrow.calls x258000_5 false _ A37.out).mono ?_); rintro e w' ⟨rfl, ⟨nd, rfl⟩⟩; refine ⟨_, rfl, ?_⟩))
                  go_meet
                  case rel => exact ⟨_, (false), (by first | rfl | (simp; done) | (simp [*]; done)), H', ⟨by have := HJ5.out; have := HK2.out; first | omega | exact Nat.le_refl _⟩, ⟨by (with_reducible repeat (first | apply Kd.R_alloc | apply Kd.R_drewN | apply Kd.R_drew)); exact Kd.R_mono HO_9.out (fun _ hk => ⟨hk.2.1, ⟨hk.2.2.1, hk.2.2.2⟩⟩)⟩, ⟨by (with_reducible repeat (first | apply Kd.R_alloc | apply Kd.R_drewN | apply Kd.R_drew)); exact Kd.R_mono HO_10.out (fun _ hk => ⟨hk.2.1, ⟨hk.2.2.1, hk.2.2.2⟩⟩)⟩, ⟨by (with_reducible repeat (first | apply Kd.R_alloc | apply Kd.R_drewN | apply Kd.R_drew)); exact Kd.R_mono HO_11.out (fun _ hk => ⟨hk.2.1, ⟨hk.2.2.1, hk.2.2.2⟩⟩)⟩, ⟨by (with_reducible repeat (first | apply Kd.R_alloc | apply Kd.R_drewN | apply Kd.R_drew)); exact Kd.R_mono HO_12.out (fun _ hk => ⟨hk.2.1, ⟨hk.2.2.1, hk.2.2.2⟩⟩)⟩, ⟨by (with_reducible repeat (first | refine blk_drewN ?_ _ | refine blk_drew ?_ | refine blk_alloc ?_ _)); exact BK257.out⟩, ⟨by repeat (first | (with_reducible first | exact HB.out | apply below_alloc | apply pw_below_drewN | apply below_drew1 | refine below_set ?_ GE257.out) | exact HB.out)⟩⟩
              case rest =>
                clear HC36
                try clear c1
                try clear c2
                try clear p2
                try clear q2
                try clear hx2
                try clear c3
                try clear c4
                try clear p6
                try clear c9
                try clear c11
                try clear c11b0
                try clear c11b1
                try clear c16
                try clear p27
                try clear q27
                try clear hx27
                try clear c28
                try clear c28b0
                try clear q28
                try clear c29
                try clear c29b0
                try clear c31
                try clear c38
                try clear c42
                try clear c43
                try clear hcz10_0
                try clear hcz10_1
                try clear hcz10_2
                try clear hcz10_3
                try clear hcz10_4
                try clear hcz12_0
                try clear hcz12_1
                try clear hcz12_2
                try clear hcz12_3
                try clear hcz12_4
                try clear hcz40_0
                try clear hcz40_1
                try clear hcz40_2
                try clear hcz40_3
                try clear hcz40_4
                try clear hcz42_0
                try clear hcz42_1
                try clear hcz42_2
                try clear hcz42_3
                try clear hcz42_4
                try clear hcz44_0
                try clear hcz44_1
                try clear hcz44_2
                try clear hcz44_3
                try clear hcz44_4
                try clear hfz10_0
                try clear hfz10_1
                try clear hfz10_2
                try clear hfz10_3
                try clear hfz10_4
                try clear hfz12_0
                try clear hfz12_1
                try clear hfz12_2
                try clear hfz12_3
                try clear hfz12_4
                try clear hfz40_0
                try clear hfz40_1
                try clear hfz40_2
                try clear hfz40_3
                try clear hfz40_4
                try clear hfz42_0
                try clear hfz42_1
                try clear hfz42_2
                try clear hfz42_3
                try clear hfz42_4
                try clear hfz44_0
                try clear hfz44_1
                try clear hfz44_2
                try clear hfz44_3
                try clear hfz44_4
                try clear hx279_0
                try clear hx279_1
                try clear p2
                try clear p279
                try clear q279
                try clear q288
                obtain ⟨kq, x55_35, rfl, HA, HJ35, HO_9, HO_10, HO_11, HO_12, BK257, HB⟩ := hcut
                cases kq with
                | zero => exact absurd HA.out (by simp [tributarylaw3_OpsJoins.j2])
                | succ kj35 =>
                  have H := HA.out
                  clear HA
                  simp only [tributarylaw3_OpsJoins.j2] at H
                  by_cases c45 : x55_35 = true
                  · subst c45
                    have H1 : (if 0 ≤ (mn (x12_2.length : Int) 64) then (if (mn (x12_2.length : Int) 64) ≤ (x12_2.length : Int) then ((tributaryref2_Same.f kj35 t264 (x12_2.take ((mn (x12_2.length : Int) 64) : Int).toNat)).bind fun t293 => (if t293 = true then (if (x12_2.length : Int) ≤ 64 then (if x12_2.length + t267.length < 8796093022208 then ((some (x12_2 ++ t267 : List (S62))).bind fun y294 => (if 0 ≤ (mn (wrap64 ((x12_2.length : Int) + (t267.length : Int))) 64) then (if (mn (wrap64 ((x12_2.length : Int) + (t267.length : Int))) 64) ≤ (y294.length : Int) then ((tributaryref2_Same.f kj35 t276 (y294.take ((mn (wrap64 ((x12_2.length : Int) + (t267.length : Int))) 64) : Int).toNat)).bind fun t301 => (if t301 = true then ((tributarylaw3_told.f).bind fun t302 => (if t302 = true then (some (decide ((t276.length : Int) ≤ 64))) else (none))) else (none))) else (none)) else (none))) else (none)) else ((tributarylaw3_told.f).bind fun t303 => (if t303 = true then (some (decide ((t276.length : Int) ≤ 64))) else (none)))) else (none))) else (none)) else (none)) = some r := by rw [if_pos rfl] at H; exact H
                    clear H
                    have H := H1
                    clear H1
                    obtain ⟨ji46, hji46⟩ : ∃ j_ : Int, (mn (x12_2.length : Int) 64) = j_ := ⟨_, rfl⟩
                    replace H : (if 0 ≤ (ji46) then (if (ji46) ≤ (x12_2.length : Int) then ((tributaryref2_Same.f kj35 t264 (x12_2.take ((ji46) : Int).toNat)).bind fun t293 => (if t293 = true then (if (x12_2.length : Int) ≤ 64 then (if x12_2.length + t267.length < 8796093022208 then ((some (x12_2 ++ t267 : List (S62))).bind fun y294 => (if 0 ≤ (mn (wrap64 ((x12_2.length : Int) + (t267.length : Int))) 64) then (if (mn (wrap64 ((x12_2.length : Int) + (t267.length : Int))) 64) ≤ (y294.length : Int) then ((tributaryref2_Same.f kj35 t276 (y294.take ((mn (wrap64 ((x12_2.length : Int) + (t267.length : Int))) 64) : Int).toNat)).bind fun t301 => (if t301 = true then ((tributarylaw3_told.f).bind fun t302 => (if t302 = true then (some (decide ((t276.length : Int) ≤ 64))) else (none))) else (none))) else (none)) else (none))) else (none)) else ((tributarylaw3_told.f).bind fun t303 => (if t303 = true then (some (decide ((t276.length : Int) ≤ 64))) else (none)))) else (none))) else (none)) else (none)) = some r := by first | (rw [hji46] at H; exact H) | (simp only [hji46] at H ⊢; exact H)
                    have hji46_ : (if 64 < (x12_2.length : Int) then 64 else (x12_2.length : Int)) = ji46 := hji46
                    by_cases c47 : 0 ≤ (ji46)
                    · rw [if_pos c47] at H
                      have c47b0 := eq_true c47
                      have c47b1 : decide (0 ≤ (ji46)) = true := decide_eq_true c47
                      clear c47
                      by_cases c48 : (ji46) ≤ (x12_2.length : Int)
                      · rw [if_pos c48] at H
                        have c48b0 := eq_true c48
                        have c48b1 : decide ((ji46) ≤ (x12_2.length : Int)) = true := decide_eq_true c48
                        clear c48
                        obtain ⟨y289, hy289⟩ : ∃ y_ : List (S62), y_ = (x12_2.take ((ji46) : Int).toNat) := ⟨_, rfl⟩
                        replace H : ((tributaryref2_Same.f kj35 t264 y289).bind fun t293 => (if t293 = true then (if (x12_2.length : Int) ≤ 64 then (if x12_2.length + t267.length < 8796093022208 then ((some (x12_2 ++ t267 : List (S62))).bind fun y294 => (if 0 ≤ (mn (wrap64 ((x12_2.length : Int) + (t267.length : Int))) 64) then (if (mn (wrap64 ((x12_2.length : Int) + (t267.length : Int))) 64) ≤ (y294.length : Int) then ((tributaryref2_Same.f kj35 t276 (y294.take ((mn (wrap64 ((x12_2.length : Int) + (t267.length : Int))) 64) : Int).toNat)).bind fun t301 => (if t301 = true then ((tributarylaw3_told.f).bind fun t302 => (if t302 = true then (some (decide ((t276.length : Int) ≤ 64))) else (none))) else (none))) else (none)) else (none))) else (none)) else ((tributarylaw3_told.f).bind fun t303 => (if t303 = true then (some (decide ((t276.length : Int) ≤ 64))) else (none)))) else (none))) = some r := by first | (rw [hy289]; with_reducible exact H) | (have H2_ := (Option.bind_some _ _).symm.trans H; rw [hy289]; with_reducible exact H2_) | (have H2_ := (Option.bind_some _ _).symm.trans H; with_reducible exact H2_) | with_reducible exact H | (rw [hy289]; exact H) | exact H
                        have Ny289 := Aside0.mk hy289
                        clear hy289
                        replace H := Option.bind_eq_some_iff.mp H
                        obtain ⟨t293, A490, H⟩ := H
                        replace H : (if t293 = true then (if (x12_2.length : Int) ≤ 64 then (if x12_2.length + t267.length < 8796093022208 then ((some (x12_2 ++ t267 : List (S62))).bind fun y294 => (if 0 ≤ (mn (wrap64 ((x12_2.length : Int) + (t267.length : Int))) 64) then (if (mn (wrap64 ((x12_2.length : Int) + (t267.length : Int))) 64) ≤ (y294.length : Int) then ((tributaryref2_Same.f kj35 t276 (y294.take ((mn (wrap64 ((x12_2.length : Int) + (t267.length : Int))) 64) : Int).toNat)).bind fun t301 => (if t301 = true then ((tributarylaw3_told.f).bind fun t302 => (if t302 = true then (some (decide ((t276.length : Int) ≤ 64))) else (none))) else (none))) else (none)) else (none))) else (none)) else ((tributarylaw3_told.f).bind fun t303 => (if t303 = true then (some (decide ((t276.length : Int) ≤ 64))) else (none)))) else (none)) = some r := H
                        have A49 := Aside0.mk A490
                        clear A490
                        by_cases c50 : t293 = true
                        · subst c50
                          have H1 : (if (x12_2.length : Int) ≤ 64 then (if x12_2.length + t267.length < 8796093022208 then ((some (x12_2 ++ t267 : List (S62))).bind fun y294 => (if 0 ≤ (mn (wrap64 ((x12_2.length : Int) + (t267.length : Int))) 64) then (if (mn (wrap64 ((x12_2.length : Int) + (t267.length : Int))) 64) ≤ (y294.length : Int) then ((tributaryref2_Same.f kj35 t276 (y294.take ((mn (wrap64 ((x12_2.length : Int) + (t267.length : Int))) 64) : Int).toNat)).bind fun t301 => (if t301 = true then ((tributarylaw3_told.f).bind fun t302 => (if t302 = true then (some (decide ((t276.length : Int) ≤ 64))) else (none))) else (none))) else (none)) else (none))) else (none)) else ((tributarylaw3_told.f).bind fun t303 => (if t303 = true then (some (decide ((t276.length : Int) ≤ 64))) else (none)))) = some r := by rw [if_pos rfl] at H; exact H
                          clear H
                          have H := H1
                          clear H1
                          by_cases c51 : (x12_2.length : Int) ≤ 64
                          · rw [if_pos c51] at H
                            have c51b0 : decide ((x12_2.length : Int) ≤ 64) = true := decide_eq_true c51
                            have c51b1 : decide (x12_2.length ≤ 64) = true := decide_eq_true (by omega)
                            clear c51
                            by_cases c52 : x12_2.length + t267.length < 8796093022208
                            · rw [if_pos c52] at H
                              have LMc52 := Aside0.mk c52
                              clear c52
                              obtain ⟨y294, hy294⟩ : ∃ y_ : List (S62), y_ = (x12_2 ++ t267) := ⟨_, rfl⟩
                              replace H : (if 0 ≤ (mn (wrap64 ((x12_2.length : Int) + (t267.length : Int))) 64) then (if (mn (wrap64 ((x12_2.length : Int) + (t267.length : Int))) 64) ≤ (y294.length : Int) then ((tributaryref2_Same.f kj35 t276 (y294.take ((mn (wrap64 ((x12_2.length : Int) + (t267.length : Int))) 64) : Int).toNat)).bind fun t301 => (if t301 = true then ((tributarylaw3_told.f).bind fun t302 => (if t302 = true then (some (decide ((t276.length : Int) ≤ 64))) else (none))) else (none))) else (none)) else (none)) = some r := by first | (rw [hy294]; with_reducible exact H) | (have H2_ := (Option.bind_some _ _).symm.trans H; rw [hy294]; with_reducible exact H2_) | (have H2_ := (Option.bind_some _ _).symm.trans H; with_reducible exact H2_) | with_reducible exact H | (rw [hy294]; exact H) | exact H
                              have Ny294 := Aside0.mk hy294
                              clear hy294
                              obtain ⟨ji53, hji53⟩ : ∃ j_ : Int, (mn (wrap64 ((x12_2.length : Int) + (t267.length : Int))) 64) = j_ := ⟨_, rfl⟩
                              replace H : (if 0 ≤ (ji53) then (if (ji53) ≤ (y294.length : Int) then ((tributaryref2_Same.f kj35 t276 (y294.take ((ji53) : Int).toNat)).bind fun t301 => (if t301 = true then ((tributarylaw3_told.f).bind fun t302 => (if t302 = true then (some (decide ((t276.length : Int) ≤ 64))) else (none))) else (none))) else (none)) else (none)) = some r := by first | (rw [hji53] at H; exact H) | (simp only [hji53] at H ⊢; exact H)
                              (try rw [hji53] at A49)
                              have hji53_ : (if 64 < (wrap64 ((x12_2.length : Int) + (t267.length : Int))) then 64 else (wrap64 ((x12_2.length : Int) + (t267.length : Int)))) = ji53 := hji53
                              by_cases c54 : 0 ≤ (ji53)
                              · rw [if_pos c54] at H
                                have c54b0 := eq_true c54
                                have c54b1 : decide (0 ≤ (ji53)) = true := decide_eq_true c54
                                clear c54
                                by_cases c55 : (ji53) ≤ (y294.length : Int)
                                · rw [if_pos c55] at H
                                  have c55b0 := eq_true c55
                                  have c55b1 : decide ((ji53) ≤ (y294.length : Int)) = true := decide_eq_true c55
                                  clear c55
                                  obtain ⟨y297, hy297⟩ : ∃ y_ : List (S62), y_ = (y294.take ((ji53) : Int).toNat) := ⟨_, rfl⟩
                                  replace H : ((tributaryref2_Same.f kj35 t276 y297).bind fun t301 => (if t301 = true then ((tributarylaw3_told.f).bind fun t302 => (if t302 = true then (some (decide ((t276.length : Int) ≤ 64))) else (none))) else (none))) = some r := by first | (rw [hy297]; with_reducible exact H) | (have H2_ := (Option.bind_some _ _).symm.trans H; rw [hy297]; with_reducible exact H2_) | (have H2_ := (Option.bind_some _ _).symm.trans H; with_reducible exact H2_) | with_reducible exact H | (rw [hy297]; exact H) | exact H
                                  have Ny297 := Aside0.mk hy297
                                  clear hy297
                                  replace H := Option.bind_eq_some_iff.mp H
                                  obtain ⟨t301, A560, H⟩ := H
                                  replace H : (if t301 = true then ((tributarylaw3_told.f).bind fun t302 => (if t302 = true then (some (decide ((t276.length : Int) ≤ 64))) else (none))) else (none)) = some r := H
                                  have A56 := Aside0.mk A560
                                  clear A560
                                  by_cases c57 : t301 = true
                                  · subst c57
                                    have H1 : ((tributarylaw3_told.f).bind fun t302 => (if t302 = true then (some (decide ((t276.length : Int) ≤ 64))) else (none))) = some r := by rw [if_pos rfl] at H; exact H
                                    clear H
                                    have H := H1
                                    clear H1
                                    replace H := Option.bind_eq_some_iff.mp H
                                    obtain ⟨t302, A580, H⟩ := H
                                    replace H : (if t302 = true then (some (decide ((t276.length : Int) ≤ 64))) else (none)) = some r := H
                                    have A58 := Aside0.mk A580
                                    clear A580
                                    by_cases c59 : t302 = true
                                    · subst c59
                                      have H1 : (some (decide ((t276.length : Int) ≤ 64))) = some r := by rw [if_pos rfl] at H; exact H
                                      clear H
                                      have H := H1
                                      clear H1
                                      obtain rfl := Option.some.inj H
                                      obtain ⟨Ao60, co60, eo60⟩ := Kd.R_slice HO_12.out
                                      subst eo60
                                      have q61 : ((ji46) : Int) ≤ ((x12_2.length : Int) : Int) := of_decide_eq_true (by first | (with_reducible assumption) | assumption)
                                      obtain ⟨i061, hi061, _, hsz61, _⟩ := info_parts info62
                                      have hroom61 : x12_2.length ≤ co60 := (Kd.R_reads' HO_12.out).2.1
                                      have hC61 : Kd.C k62 _ Ao60 x12_2.length x12_2 := (Kd.R_reads' HO_12.out).2.2
                                      have hcut61 := cut_to (P := Tryd.prog) 60 62 .i64 Tryd.underlying60 hi061 Ao60 x12_2.length co60 (ji46) (of_decide_eq_true (by first | (with_reducible assumption) | assumption)) q61 hroom61
                                      have hr61 := Kd.C_take (m := ((ji46) : Int).toNat) hC61 (by omega)
                                      have hy61 : y289.length = ((ji46) : Int).toNat := (by rw [Ny289.out, List.length_take]; omega)
                                      rw [← Ny289.out] at hr61
                                      rw [← hy61] at hcut61
                                      have HR292 := Aside0.mk hr61
                                      have HC292 := Aside0.mk (show y289.length ≤ co60 from by omega)
                                      clear hr61 hC61 hroom61 hi061 hsz61
                                      have KY61 := Aside0.mk hy61
                                      clear hy61
                                      have KL61 := Aside0.mk (show ((ji46) : Int).toNat ≤ x12_2.length from by omega)
                                      replace q61 := eq_true q61
                                      obtain ⟨Ao62, co62, eo62⟩ := Kd.R_slice HO_9.out
                                      subst eo62
                                      go_wp2_with (first | ((with_reducible refine gate_callee (f := 45) rfl ?_); refine goesL_ (some 62) rfl rfl Tryd.func45 (by kernel_rfl) rfl #[.slice Ao62 t264.length co62, .slice Ao60 y289.length co60] rfl (by (try simp only [List.map_toArray, List.map_cons, List.map_nil]); first | done | rfl | (simp only [List.length_drop, List.length_take]; rfl)) ?_; (with_reducible refine (tributaryref2_Same.calls kj35 _ _ t264 _ _ y289 true _ ?side1 ?side2 ?side3 ?side4 A49.out).mono ?_); (case side1 => repeat (first | exact (Kd.R_reads' HO_9.out).2.2 | (with_reducible refine Kd.C_alloc ?_ _) | (with_reducible refine Kd.C_drewN ?_ _) | (with_reducible refine Kd.C_drew ?_))); (case side2 => exact (Kd.R_reads' HO_9.out).2.1); (case side3 => repeat (first | exact (by repeat (first | (with_reducible exact HR292.out) | (with_reducible refine Kd.C_alloc ?_ _) | (with_reducible refine Kd.C_drewN ?_ _) | (with_reducible refine Kd.C_drew ?_) | exact HR292.out)) | (with_reducible refine Kd.C_alloc ?_ _) | (with_reducible refine Kd.C_drewN ?_ _) | (with_reducible refine Kd.C_drew ?_))); (case side4 => exact HC292.out); rintro e w' ⟨rfl, ⟨nd, rfl⟩⟩; refine ⟨_, rfl, ?_⟩; obtain ⟨Ao64, co64, eo64⟩ := Kd.R_slice HO_10.out; subst eo64) | ((with_reducible refine gate_builtin (b := .append) (xs := #[.tmp 70, .tmp 71]) rfl ?_); (try (refine gate_guard (by rfl) ?_; dsimp only)); at_builtin; refine Kd.R_append_rows k62 (w0 := w) w.heap.size rfl (.tmp 70) (.tmp 71) 60 62 (.agg #[(.int .i64 0), (.int .i64 0)]) 16 rfl Tryd.underlying60 info62 rfl (by decide) (by omega) (.slice Ao60 x12_2.length co60) x12_2 t267 _ _ _ (fun k_ => some k_ ≠ (.slice Ao62 t264.length co62 : Value).ownBlock ∧ some k_ ≠ (.slice Ao64 t267.length co64 : Value).ownBlock ∧ some k_ ≠ (v277 : Value).ownBlock) (fun _ => False) rfl rfl ?aO ?aR (fun _ _ h => h) (fun _ h => h.elim) ?aF ?aB ?aS ?aL ?_; (case aR => repeat (first | exact (Kd.R_reads' HO_10.out).2.2 | (with_reducible refine Kd.C_alloc ?_ _) | (with_reducible refine Kd.C_drewN ?_ _) | (with_reducible refine Kd.C_drew ?_))); (case aB => exact (by repeat (first | (with_reducible first | exact HB.out | apply below_alloc | apply pw_below_drewN | apply below_drew1 | refine below_set ?_ GE257.out) | exact HB.out))); (case aF => exact (fun k_ hk => ⟨Kd.fresh' (Kd.R_lt (by (with_reducible repeat (first | apply Kd.R_alloc | apply Kd.R_drewN | apply Kd.R_drew)); exact HO_9.out)) k_ hk, Kd.fresh' (Kd.R_lt (by (with_reducible repeat (first | apply Kd.R_alloc | apply Kd.R_drewN | apply Kd.R_drew)); exact HO_10.out)) k_ hk, Kd.fresh' (Kd.R_lt (by (with_reducible repeat (first | apply Kd.R_alloc | apply Kd.R_drewN | apply Kd.R_drew)); exact HO_11.out)) k_ hk⟩)); (case aO => exact (by (with_reducible repeat (first | apply Kd.R_alloc | apply Kd.R_drewN | apply Kd.R_drew)); exact HO_12.out)); (case aS => exact (below_size (by repeat (first | (with_reducible first | exact HB.out | apply below_alloc | apply pw_below_drewN | apply below_drew1 | refine below_set ?_ GE257.out) | exact HB.out)))); (case aL => have := LMc52.out; omega); intro v295 w63 ho hb hg hat; rw [← Ny294.out] at ho; have n0_ := Aside0.mk (Kd.R_after (ok := (fun k_ => some k_ ≠ (.slice Ao64 t267.length co64 : Value).ownBlock ∧ some k_ ≠ (v277 : Value).ownBlock)) (by (with_reducible repeat (first | apply Kd.R_alloc | apply Kd.R_drewN | apply Kd.R_drew)); exact Kd.R_mono HO_9.out (fun _ hk => ⟨⟨hk.1, hk.2.1⟩, hk.2.2⟩)) hg hat); have n1_ := Aside0.mk (Kd.R_after (ok := (fun k_ => some k_ ≠ (.slice Ao62 t264.length co62 : Value).ownBlock ∧ some k_ ≠ (v277 : Value).ownBlock)) (by (with_reducible repeat (first | apply Kd.R_alloc | apply Kd.R_drewN | apply Kd.R_drew)); exact Kd.R_mono HO_10.out (fun _ hk => ⟨⟨hk.1, hk.2.1⟩, hk.2.2⟩)) hg hat); have n2_ := Aside0.mk (Kd.R_after (ok := (fun k_ => some k_ ≠ (.slice Ao62 t264.length co62 : Value).ownBlock ∧ some k_ ≠ (.slice Ao64 t267.length co64 : Value).ownBlock)) (by (with_reducible repeat (first | apply Kd.R_alloc | apply Kd.R_drewN | apply Kd.R_drew)); exact Kd.R_mono HO_11.out (fun _ hk => ⟨⟨hk.1, hk.2.1⟩, hk.2.2⟩)) hg hat); have n3_ := Aside0.mk (blk_grown (g := gb257) (o := .cells #[.int .i64 x258000_5, .int .i64 a0_1, .int .i64 a0_2, .int .i64 a0_3, .int .i64 a0_4] 55 (0, 0)) (by (with_reducible repeat (first | refine blk_drewN ?_ _ | refine blk_drew ?_ | refine blk_alloc ?_ _)); exact BK257.out) hg (Kd.R_ne HO_12.out BK257.out (by decide))); have n4_ := Aside0.mk (hb); have n5_ := Aside0.mk (ho); clear HO_9; clear HO_10; clear HO_11; clear BK257; clear HB; clear HO_12; have HO_9 := n0_; have HO_10 := n1_; have HO_11 := n2_; have BK257 := n3_; have HB := n4_; have HO296 := n5_; clear n0_ n1_ n2_ n3_ n4_ n5_; clear ho hb hg hat; obtain ⟨Ao66, co66, eo66⟩ := Kd.R_slice HO296.out; subst eo66; have q65 : ((ji53) : Int) ≤ ((y294.length : Int) : Int) := of_decide_eq_true (by first | (with_reducible assumption) | assumption); obtain ⟨i065, hi065, _, hsz65, _⟩ := info_parts info62; have hroom65 : y294.length ≤ co66 := (Kd.R_reads' HO296.out).2.1; have hC65 : Kd.C k62 _ Ao66 y294.length y294 := (Kd.R_reads' HO296.out).2.2; have hcut65 := cut_to (P := Tryd.prog) 60 62 .i64 Tryd.underlying60 hi065 Ao66 y294.length co66 (ji53) (of_decide_eq_true (by first | (with_reducible assumption) | assumption)) q65 hroom65; have hr65 := Kd.C_take (m := ((ji53) : Int).toNat) hC65 (by omega); have hy65 : y297.length = ((ji53) : Int).toNat := (by rw [Ny297.out, List.length_take]; omega); rw [← Ny297.out] at hr65; rw [← hy65] at hcut65; have HR300 := Aside0.mk hr65; have HC300 := Aside0.mk (show y297.length ≤ co66 from by omega); clear hr65 hC65 hroom65 hi065 hsz65; have KY65 := Aside0.mk hy65; clear hy65; have KL65 := Aside0.mk (show ((ji53) : Int).toNat ≤ y294.length from by omega); replace q65 := eq_true q65; obtain ⟨Ao67, co67, eo67⟩ := Kd.R_slice HO_11.out; subst eo67) | (go_at_call 45; (with_reducible refine (tributaryref2_Same.calls kj35 _ _ t276 _ _ y297 true _ ?side1 ?side2 ?side3 ?side4 A56.out).mono ?_); (case side1 => repeat (first | exact (Kd.R_reads' HO_11.out).2.2 | (with_reducible refine Kd.C_alloc ?_ _) | (with_reducible refine Kd.C_drewN ?_ _) | (with_reducible refine Kd.C_drew ?_))); (case side2 => exact (Kd.R_reads' HO_11.out).2.1); (case side3 => repeat (first | exact (by repeat (first | (with_reducible exact HR300.out) | (with_reducible refine Kd.C_alloc ?_ _) | (with_reducible refine Kd.C_drewN ?_ _) | (with_reducible refine Kd.C_drew ?_) | exact HR300.out)) | (with_reducible refine Kd.C_alloc ?_ _) | (with_reducible refine Kd.C_drewN ?_ _) | (with_reducible refine Kd.C_drew ?_))); (case side4 => exact HC300.out); rintro e w' ⟨rfl, ⟨nd, rfl⟩⟩) | ((with_reducible refine gate_callee (f := 35) rfl ?_); refine goesL_ (some 92) rfl rfl Tryd.func35 (by kernel_rfl) rfl #[] rfl (by (try simp only [List.map_toArray, List.map_cons, List.map_nil]); first | done | rfl | (simp only [List.length_drop, List.length_take]; rfl)) ?_; (with_reducible refine (tributarylaw3_told.calls  true _ ?side1 A58.out).mono ?_); (case side1 => exact Laid.below HLD.out (by repeat (first | (with_reducible first | exact HB.out | apply below_alloc | apply pw_below_drewN | apply below_drew1 | refine below_set ?_ GE257.out) | exact HB.out)) (Nat.le_refl _)); rintro e w68 ⟨rfl, hb⟩; refine ⟨_, rfl, ?_⟩; have n0_ := Aside0.mk (Kd.R_below (by (with_reducible repeat (first | apply Kd.R_alloc | apply Kd.R_drewN | apply Kd.R_drew)); exact HO_9.out) hb); have n1_ := Aside0.mk (Kd.R_below (by (with_reducible repeat (first | apply Kd.R_alloc | apply Kd.R_drewN | apply Kd.R_drew)); exact HO_10.out) hb); have n2_ := Aside0.mk (Kd.R_below (by (with_reducible repeat (first | apply Kd.R_alloc | apply Kd.R_drewN | apply Kd.R_drew)); exact HO_11.out) hb); have n3_ := Aside0.mk (Kd.R_below (by (with_reducible repeat (first | apply Kd.R_alloc | apply Kd.R_drewN | apply Kd.R_drew)); exact HO296.out) hb); have n4_ := Aside0.mk (blk_below (g := gb257) (o := .cells #[.int .i64 x258000_5, .int .i64 a0_1, .int .i64 a0_2, .int .i64 a0_3, .int .i64 a0_4] 55 (0, 0)) (by (with_reducible repeat (first | refine blk_drewN ?_ _ | refine blk_drew ?_ | refine blk_alloc ?_ _)); exact BK257.out) hb); have n5_ := Aside0.mk (Kd.C_below (by repeat (first | (with_reducible exact HR300.out) | (with_reducible refine Kd.C_alloc ?_ _) | (with_reducible refine Kd.C_drewN ?_ _) | (with_reducible refine Kd.C_drew ?_) | exact HR300.out)) hb); have n6_ := Aside0.mk (below_step (by repeat (first | (with_reducible first | exact HB.out | apply below_alloc | apply pw_below_drewN | apply below_drew1 | refine below_set ?_ GE257.out) | exact HB.out)) hb); clear HO_9; clear HO_10; clear HO_11; clear HO296; clear BK257; clear HR300; clear HB; have HO_9 := n0_; have HO_10 := n1_; have HO_11 := n2_; have HO296 := n3_; have BK257 := n4_; have HR300 := n5_; have HB := n6_; clear n0_ n1_ n2_ n3_ n4_ n5_ n6_; (try clear hb); (try clear hb2); (try clear hk); (try clear hi)))
                                      go_ret
                                      exact ⟨by first | rfl | (simp [errW_none, errW_some] <;> rfl) | (simp only [← hji46, ← hji53]; first | rfl | (simp [errW_none, errW_some] <;> rfl)) | (simp [*, errW_none, errW_some] <;> rfl), by repeat (first | (with_reducible first | exact HB.out | apply below_alloc | apply pw_below_drewN | apply below_drew1 | refine below_set ?_ GE257.out) | exact HB.out)⟩
                                    · replace c59 := Bool.eq_false_iff.mpr c59
                                      subst c59
                                      have H1 : (none) = some r := by rw [if_neg (show ¬ (false = true) by decide)] at H; exact H
                                      clear H
                                      have H := H1
                                      clear H1
                                      exact absurd H (by simp)
                                  · replace c57 := Bool.eq_false_iff.mpr c57
                                    subst c57
                                    have H1 : (none) = some r := by rw [if_neg (show ¬ (false = true) by decide)] at H; exact H
                                    clear H
                                    have H := H1
                                    clear H1
                                    exact absurd H (by simp)
                                · rw [if_neg c55] at H
                                  exact absurd H (by simp)
                              · rw [if_neg c54] at H
                                exact absurd H (by simp)
                            · rw [if_neg c52] at H
                              exact absurd H (by simp)
                          · rw [if_neg c51] at H
                            have c51b0 : decide ((x12_2.length : Int) ≤ 64) = false := decide_eq_false c51
                            have c51b1 : decide (x12_2.length ≤ 64) = false := decide_eq_false (by omega)
                            clear c51
                            replace H := Option.bind_eq_some_iff.mp H
                            obtain ⟨t303, A690, H⟩ := H
                            replace H : (if t303 = true then (some (decide ((t276.length : Int) ≤ 64))) else (none)) = some r := H
                            have A69 := Aside0.mk A690
                            clear A690
                            by_cases c70 : t303 = true
                            · subst c70
                              have H1 : (some (decide ((t276.length : Int) ≤ 64))) = some r := by rw [if_pos rfl] at H; exact H
                              clear H
                              have H := H1
                              clear H1
                              obtain rfl := Option.some.inj H
                              obtain ⟨Ao71, co71, eo71⟩ := Kd.R_slice HO_12.out
                              subst eo71
                              have q72 : ((ji46) : Int) ≤ ((x12_2.length : Int) : Int) := of_decide_eq_true (by first | (with_reducible assumption) | assumption)
                              obtain ⟨i072, hi072, _, hsz72, _⟩ := info_parts info62
                              have hroom72 : x12_2.length ≤ co71 := (Kd.R_reads' HO_12.out).2.1
                              have hC72 : Kd.C k62 _ Ao71 x12_2.length x12_2 := (Kd.R_reads' HO_12.out).2.2
                              have hcut72 := cut_to (P := Tryd.prog) 60 62 .i64 Tryd.underlying60 hi072 Ao71 x12_2.length co71 (ji46) (of_decide_eq_true (by first | (with_reducible assumption) | assumption)) q72 hroom72
                              have hr72 := Kd.C_take (m := ((ji46) : Int).toNat) hC72 (by omega)
                              have hy72 : y289.length = ((ji46) : Int).toNat := (by rw [Ny289.out, List.length_take]; omega)
                              rw [← Ny289.out] at hr72
                              rw [← hy72] at hcut72
                              have HR292 := Aside0.mk hr72
                              have HC292 := Aside0.mk (show y289.length ≤ co71 from by omega)
                              clear hr72 hC72 hroom72 hi072 hsz72
                              have KY72 := Aside0.mk hy72
                              clear hy72
                              have KL72 := Aside0.mk (show ((ji46) : Int).toNat ≤ x12_2.length from by omega)
                              replace q72 := eq_true q72
                              obtain ⟨Ao73, co73, eo73⟩ := Kd.R_slice HO_9.out
                              subst eo73
                              go_wp2_with (first | ((with_reducible refine gate_callee (f := 45) rfl ?_); refine goesL_ (some 62) rfl rfl Tryd.func45 (by kernel_rfl) rfl #[.slice Ao73 t264.length co73, .slice Ao71 y289.length co71] rfl (by (try simp only [List.map_toArray, List.map_cons, List.map_nil]); first | done | rfl | (simp only [List.length_drop, List.length_take]; rfl)) ?_; (with_reducible refine (tributaryref2_Same.calls kj35 _ _ t264 _ _ y289 true _ ?side1 ?side2 ?side3 ?side4 A49.out).mono ?_); (case side1 => repeat (first | exact (Kd.R_reads' HO_9.out).2.2 | (with_reducible refine Kd.C_alloc ?_ _) | (with_reducible refine Kd.C_drewN ?_ _) | (with_reducible refine Kd.C_drew ?_))); (case side2 => exact (Kd.R_reads' HO_9.out).2.1); (case side3 => repeat (first | exact (by repeat (first | (with_reducible exact HR292.out) | (with_reducible refine Kd.C_alloc ?_ _) | (with_reducible refine Kd.C_drewN ?_ _) | (with_reducible refine Kd.C_drew ?_) | exact HR292.out)) | (with_reducible refine Kd.C_alloc ?_ _) | (with_reducible refine Kd.C_drewN ?_ _) | (with_reducible refine Kd.C_drew ?_))); (case side4 => exact HC292.out); rintro e w' ⟨rfl, ⟨nd, rfl⟩⟩; refine ⟨_, rfl, ?_⟩) | ((with_reducible refine gate_callee (f := 35) rfl ?_); refine goesL_ (some 92) rfl rfl Tryd.func35 (by kernel_rfl) rfl #[] rfl (by (try simp only [List.map_toArray, List.map_cons, List.map_nil]); first | done | rfl | (simp only [List.length_drop, List.length_take]; rfl)) ?_; (with_reducible refine (tributarylaw3_told.calls  true _ ?side1 A69.out).mono ?_); (case side1 => exact Laid.below HLD.out (by repeat (first | (with_reducible first | exact HB.out | apply below_alloc | apply pw_below_drewN | apply below_drew1 | refine below_set ?_ GE257.out) | exact HB.out)) (Nat.le_refl _)); rintro e w74 ⟨rfl, hb⟩; refine ⟨_, rfl, ?_⟩; have n0_ := Aside0.mk (Kd.R_below (by (with_reducible repeat (first | apply Kd.R_alloc | apply Kd.R_drewN | apply Kd.R_drew)); exact HO_9.out) hb); have n1_ := Aside0.mk (Kd.R_below (by (with_reducible repeat (first | apply Kd.R_alloc | apply Kd.R_drewN | apply Kd.R_drew)); exact HO_10.out) hb); have n2_ := Aside0.mk (Kd.R_below (by (with_reducible repeat (first | apply Kd.R_alloc | apply Kd.R_drewN | apply Kd.R_drew)); exact HO_11.out) hb); have n3_ := Aside0.mk (Kd.R_below (by (with_reducible repeat (first | apply Kd.R_alloc | apply Kd.R_drewN | apply Kd.R_drew)); exact HO_12.out) hb); have n4_ := Aside0.mk (blk_below (g := gb257) (o := .cells #[.int .i64 x258000_5, .int .i64 a0_1, .int .i64 a0_2, .int .i64 a0_3, .int .i64 a0_4] 55 (0, 0)) (by (with_reducible repeat (first | refine blk_drewN ?_ _ | refine blk_drew ?_ | refine blk_alloc ?_ _)); exact BK257.out) hb); have n5_ := Aside0.mk (Kd.C_below (by repeat (first | (with_reducible exact HR292.out) | (with_reducible refine Kd.C_alloc ?_ _) | (with_reducible refine Kd.C_drewN ?_ _) | (with_reducible refine Kd.C_drew ?_) | exact HR292.out)) hb); have n6_ := Aside0.mk (below_step (by repeat (first | (with_reducible first | exact HB.out | apply below_alloc | apply pw_below_drewN | apply below_drew1 | refine below_set ?_ GE257.out) | exact HB.out)) hb); clear HO_9; clear HO_10; clear HO_11; clear HO_12; clear BK257; clear HR292; clear HB; have HO_9 := n0_; have HO_10 := n1_; have HO_11 := n2_; have HO_12 := n3_; have BK257 := n4_; have HR292 := n5_; have HB := n6_; clear n0_ n1_ n2_ n3_ n4_ n5_ n6_; (try clear hb); (try clear hb2); (try clear hk); (try clear hi); obtain ⟨Ao75, co75, eo75⟩ := Kd.R_slice HO_11.out; subst eo75))
                              go_ret
                              exact ⟨by first | rfl | (simp [errW_none, errW_some] <;> rfl) | (simp only [← hji46]; first | rfl | (simp [errW_none, errW_some] <;> rfl)) | (simp [*, errW_none, errW_some] <;> rfl), by repeat (first | (with_reducible first | exact HB.out | apply below_alloc | apply pw_below_drewN | apply below_drew1 | refine below_set ?_ GE257.out) | exact HB.out)⟩
                            · replace c70 := Bool.eq_false_iff.mpr c70
                              subst c70
                              have H1 : (none) = some r := by rw [if_neg (show ¬ (false = true) by decide)] at H; exact H
                              clear H
                              have H := H1
                              clear H1
                              exact absurd H (by simp)
                        · replace c50 := Bool.eq_false_iff.mpr c50
                          subst c50
                          have H1 : (none) = some r := by rw [if_neg (show ¬ (false = true) by decide)] at H; exact H
                          clear H
                          have H := H1
                          clear H1
                          exact absurd H (by simp)
                      · rw [if_neg c48] at H
                        exact absurd H (by simp)
                    · rw [if_neg c47] at H
                      exact absurd H (by simp)
                  · replace c45 := Bool.eq_false_iff.mpr c45
                    subst c45
                    have H1 : (if (t264.length : Int) > 0 then (none) else (if (t276.length : Int) > 0 then (none) else ((tributarylaw3_told.f).bind fun t304 => (if t304 = true then (some (decide ((t276.length : Int) ≤ 64))) else (none))))) = some r := by rw [if_neg (show ¬ (false = true) by decide)] at H; exact H
                    clear H
                    have H := H1
                    clear H1
                    by_cases c76 : (t264.length : Int) > 0
                    · rw [if_pos c76] at H
                      exact absurd H (by simp)
                    · rw [if_neg c76] at H
                      have c76b0 : decide (0 < (t264.length : Int)) = false := decide_eq_false c76
                      have c76b1 : decide (0 < t264.length) = false := decide_eq_false (by omega)
                      clear c76
                      by_cases c77 : (t276.length : Int) > 0
                      · rw [if_pos c77] at H
                        exact absurd H (by simp)
                      · rw [if_neg c77] at H
                        have c77b0 : decide (0 < (t276.length : Int)) = false := decide_eq_false c77
                        have c77b1 : decide (0 < t276.length) = false := decide_eq_false (by omega)
                        clear c77
                        replace H := Option.bind_eq_some_iff.mp H
                        obtain ⟨t304, A780, H⟩ := H
                        replace H : (if t304 = true then (some (decide ((t276.length : Int) ≤ 64))) else (none)) = some r := H
                        have A78 := Aside0.mk A780
                        clear A780
                        by_cases c79 : t304 = true
                        · subst c79
                          have H1 : (some (decide ((t276.length : Int) ≤ 64))) = some r := by rw [if_pos rfl] at H; exact H
                          clear H
                          have H := H1
                          clear H1
                          obtain rfl := Option.some.inj H
                          obtain ⟨Ao80, co80, eo80⟩ := Kd.R_slice HO_9.out
                          subst eo80
                          obtain ⟨Ao81, co81, eo81⟩ := Kd.R_slice HO_11.out
                          subst eo81
                          go_wp2_with (first | ((with_reducible refine gate_callee (f := 35) rfl ?_); refine goesL_ (some 92) rfl rfl Tryd.func35 (by kernel_rfl) rfl #[] rfl (by (try simp only [List.map_toArray, List.map_cons, List.map_nil]); first | done | rfl | (simp only [List.length_drop, List.length_take]; rfl)) ?_; (with_reducible refine (tributarylaw3_told.calls  true _ ?side1 A78.out).mono ?_); (case side1 => exact Laid.below HLD.out (by repeat (first | (with_reducible first | exact HB.out | apply below_alloc | apply pw_below_drewN | apply below_drew1 | refine below_set ?_ GE257.out) | exact HB.out)) (Nat.le_refl _)); rintro e w82 ⟨rfl, hb⟩; refine ⟨_, rfl, ?_⟩; have n0_ := Aside0.mk (Kd.R_below (by (with_reducible repeat (first | apply Kd.R_alloc | apply Kd.R_drewN | apply Kd.R_drew)); exact HO_9.out) hb); have n1_ := Aside0.mk (Kd.R_below (by (with_reducible repeat (first | apply Kd.R_alloc | apply Kd.R_drewN | apply Kd.R_drew)); exact HO_10.out) hb); have n2_ := Aside0.mk (Kd.R_below (by (with_reducible repeat (first | apply Kd.R_alloc | apply Kd.R_drewN | apply Kd.R_drew)); exact HO_11.out) hb); have n3_ := Aside0.mk (Kd.R_below (by (with_reducible repeat (first | apply Kd.R_alloc | apply Kd.R_drewN | apply Kd.R_drew)); exact HO_12.out) hb); have n4_ := Aside0.mk (blk_below (g := gb257) (o := .cells #[.int .i64 x258000_5, .int .i64 a0_1, .int .i64 a0_2, .int .i64 a0_3, .int .i64 a0_4] 55 (0, 0)) (by (with_reducible repeat (first | refine blk_drewN ?_ _ | refine blk_drew ?_ | refine blk_alloc ?_ _)); exact BK257.out) hb); have n5_ := Aside0.mk (below_step (by repeat (first | (with_reducible first | exact HB.out | apply below_alloc | apply pw_below_drewN | apply below_drew1 | refine below_set ?_ GE257.out) | exact HB.out)) hb); clear HO_9; clear HO_10; clear HO_11; clear HO_12; clear BK257; clear HB; have HO_9 := n0_; have HO_10 := n1_; have HO_11 := n2_; have HO_12 := n3_; have BK257 := n4_; have HB := n5_; clear n0_ n1_ n2_ n3_ n4_ n5_; (try clear hb); (try clear hb2); (try clear hk); (try clear hi)))
                          go_ret
                          exact ⟨by first | rfl | (simp [errW_none, errW_some] <;> rfl) | (simp [*, errW_none, errW_some] <;> rfl), by repeat (first | (with_reducible first | exact HB.out | apply below_alloc | apply pw_below_drewN | apply below_drew1 | refine below_set ?_ GE257.out) | exact HB.out)⟩
                        · replace c79 := Bool.eq_false_iff.mpr c79
                          subst c79
                          have H1 : (none) = some r := by rw [if_neg (show ¬ (false = true) by decide)] at H; exact H
                          clear H
                          have H := H1
                          clear H1
                          exact absurd H (by simp)
      · rw [if_neg c16] at H
        exact absurd H (by simp)

end Go.Proofs.YtemnnnjlllgeeaaDoor.POps
