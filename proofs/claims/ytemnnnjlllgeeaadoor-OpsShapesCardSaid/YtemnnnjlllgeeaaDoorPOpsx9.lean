-- written by a program of this session, a turned copy of the print tool
import Derived.Test.YtemnnnjlllgeeaaDoorOpsTold
import Derived.Test.YtemnnnjlllgeeaaDoorPOpsx0
import Derived.Test.YtemnnnjlllgeeaaDoorPOpsx1
import Derived.Test.YtemnnnjlllgeeaaDoorPOpsx2
import Derived.Test.YtemnnnjlllgeeaaDoorPOpsx3
import Derived.Test.YtemnnnjlllgeeaaDoorPOpsx4
import Derived.Test.YtemnnnjlllgeeaaDoorPOpsx6
import Derived.Test.YtemnnnjlllgeeaaDoorPOpsg
namespace Go.Proofs.YtemnnnjlllgeeaaDoor.POps
open Go.RowKit Go.Proofs.YtemnnnjlllgeeaaDoorW.PrintWords Go.Proofs.YtemnnnjlllgeeaaDoorW.PrintLast Go.Proofs.YtemnnnjlllgeeaaDoorW.PrintMore
attribute [local go_sem] max2_int min2_int max_two min_two max_three min_three max_four min_four   -- for this text's walks alone
set_option linter.unusedVariables false
set_option linter.unusedSimpArgs false

attribute [local go_sem high] eqA62
/-! ### tributarylaw3_OpsShapes: function 10 -/
mutual
def tributarylaw3_OpsShapes.j0 : Nat → List (S62) → List (S62) → List (S62) → Bool → Int → Int → Int → Int → Int → Option (Bool)
  | 0, _, _, _, _, _, _, _, _, _ => none
  | k + 1, x7, x8, x9, x29, x306000, x306001, x306002, x306003, x306004 => if x29 = true then ((tributarylaw3_told.f).bind fun t318 => (if t318 = true then (some ((x9.length : Int) == 0)) else (none))) else (if x306000 = 2 then ((tributarylaw3_told.f).bind fun t319 => (if t319 = true then (some ((x9.length : Int) == (mn (x7.length : Int) 64))) else (none))) else (if x306000 = 5 then ((tributarylaw3_told.f).bind fun t320 => (if t320 = true then (if x7.length + x8.length < 8796093022208 then ((some (x7 ++ x8 : List (S62))).bind fun y321 => (if 0 ≤ (mn (wrap64 ((x7.length : Int) + (x8.length : Int))) 64) then (if (mn (wrap64 ((x7.length : Int) + (x8.length : Int))) 64) ≤ (y321.length : Int) then ((tributaryref2_Same.f k x9 (y321.take ((mn (wrap64 ((x7.length : Int) + (x8.length : Int))) 64) : Int).toNat)).bind fun t328 => (some t328)) else (none)) else (none))) else (none)) else (none))) else (if x306000 = 4 then (tributarylaw3_OpsShapes.l0 k x7 x9 0 x306000 x306001 x306002 x306003 x306004) else (tributarylaw3_OpsShapes.l1 k x7 x9 0 0 x306000 x306001 x306002 x306003 x306004))))
def tributarylaw3_OpsShapes.l0 : Nat → List (S62) → List (S62) → Int → Int → Int → Int → Int → Int → Option (Bool)
  | 0, _, _, _, _, _, _, _, _ => none
  | k + 1, x7, x9, x10, x306000, x306001, x306002, x306003, x306004 => if x10 < (x9.length : Int) then (if 0 ≤ x10 then (if x306003 = 0 then (none) else (if 0 ≤ (wrap64 (Int.tdiv x10 x306003)) then (if (wrap64 (Int.tdiv x10 x306003)) < (x7.length : Int) then (if ((rd_T62 x9 x10).f0) = ((rd_T62 x7 (wrap64 (Int.tdiv x10 x306003))).f0) then (if (Int.tmod x10 x306003) = 0 then (if (!(((rd_T62 x9 x10).f0) == ((rd_T62 x7 (wrap64 (Int.tdiv x10 x306003))).f0)) || (!(((rd_T62 x9 x10).f1) == ((rd_T62 x7 (wrap64 (Int.tdiv x10 x306003))).f1)))) = true then (none) else (tributarylaw3_OpsShapes.l0 k x7 x9 (wrap64 (x10 + 1)) x306000 x306001 x306002 x306003 x306004)) else (tributarylaw3_OpsShapes.l0 k x7 x9 (wrap64 (x10 + 1)) x306000 x306001 x306002 x306003 x306004)) else (none)) else (none)) else (none))) else (none)) else ((tributarylaw3_told.f).bind fun t333 => (if t333 = true then (some ((x9.length : Int) == (mn (wrap64 (x306003 * (x7.length : Int))) 64))) else (none)))
def tributarylaw3_OpsShapes.l1 : Nat → List (S62) → List (S62) → Int → Int → Int → Int → Int → Int → Int → Option (Bool)
  | 0, _, _, _, _, _, _, _, _, _ => none
  | k + 1, x7, x9, x11, x12, x306000, x306001, x306002, x306003, x306004 => if x12 < (x9.length : Int) then (tributarylaw3_OpsShapes.l2 k x7 x9 x11 x12 x306000 x306001 x306002 x306003 x306004) else ((tributarylaw3_told.f).bind fun t334 => (if t334 = true then ((ops_Apply.f k x306000 x306001 x306002 x306003 x306004 x9 ([] : List (S62))).bind fun t335 => ((tributaryref2_Same.f k t335 x9).bind fun t338 => (some t338))) else (none)))
def tributarylaw3_OpsShapes.l2 : Nat → List (S62) → List (S62) → Int → Int → Int → Int → Int → Int → Int → Option (Bool)
  | 0, _, _, _, _, _, _, _, _, _ => none
  | k + 1, x7, x9, x11, x12, x306000, x306001, x306002, x306003, x306004 => if x11 < (x7.length : Int) then (if 0 ≤ x11 then (if 0 ≤ x12 then (if x12 < (x9.length : Int) then (if (!(((rd_T62 x7 x11).f0) == ((rd_T62 x9 x12).f0)) || (!(((rd_T62 x7 x11).f1) == ((rd_T62 x9 x12).f1)))) = true then (tributarylaw3_OpsShapes.l2 k x7 x9 (wrap64 (x11 + 1)) x12 x306000 x306001 x306002 x306003 x306004) else (if x11 = (x7.length : Int) then (none) else (tributarylaw3_OpsShapes.l1 k x7 x9 (wrap64 (x11 + 1)) (wrap64 (x12 + 1)) x306000 x306001 x306002 x306003 x306004))) else (none)) else (none)) else (none)) else (if x11 = (x7.length : Int) then (none) else (tributarylaw3_OpsShapes.l1 k x7 x9 (wrap64 (x11 + 1)) (wrap64 (x12 + 1)) x306000 x306001 x306002 x306003 x306004))
end
def tributarylaw3_OpsShapes.f (k : Nat) (a0_0 : Int) (a0_1 : Int) (a0_2 : Int) (a0_3 : Int) (a0_4 : Int) (l1 : List (S62)) (l2 : List (S62)) : Option (Bool) := (tributarylaw3_few.f l1 100).bind fun t306 => ((tributarylaw3_few.f l2 100).bind fun t309 => ((ops_Apply.f k a0_0 a0_1 a0_2 a0_3 a0_4 t306 t309).bind fun t312 => ((ops_Right.f a0_0 a0_1 a0_2 a0_3 a0_4).bind fun t315 => (if t315.isNone = true then ((ops_Narrow.f a0_0).bind fun t317 => (tributarylaw3_OpsShapes.j0 k t306 t309 t312 (!t317) a0_0 a0_1 a0_2 a0_3 a0_4)) else (tributarylaw3_OpsShapes.j0 k t306 t309 t312 true a0_0 a0_1 a0_2 a0_3 a0_4)))))
theorem tributarylaw3_OpsShapes.mono_l : ∀ k, (∀ y0 y1 y2 y3 y4 y5 y6 y7 y8, LeO (tributarylaw3_OpsShapes.j0 k y0 y1 y2 y3 y4 y5 y6 y7 y8) (tributarylaw3_OpsShapes.j0 (k + 1) y0 y1 y2 y3 y4 y5 y6 y7 y8)) ∧ (∀ y0 y1 y2 y3 y4 y5 y6 y7, LeO (tributarylaw3_OpsShapes.l0 k y0 y1 y2 y3 y4 y5 y6 y7) (tributarylaw3_OpsShapes.l0 (k + 1) y0 y1 y2 y3 y4 y5 y6 y7)) ∧ (∀ y0 y1 y2 y3 y4 y5 y6 y7 y8, LeO (tributarylaw3_OpsShapes.l1 k y0 y1 y2 y3 y4 y5 y6 y7 y8) (tributarylaw3_OpsShapes.l1 (k + 1) y0 y1 y2 y3 y4 y5 y6 y7 y8)) ∧ (∀ y0 y1 y2 y3 y4 y5 y6 y7 y8, LeO (tributarylaw3_OpsShapes.l2 k y0 y1 y2 y3 y4 y5 y6 y7 y8) (tributarylaw3_OpsShapes.l2 (k + 1) y0 y1 y2 y3 y4 y5 y6 y7 y8))
  | 0 => ⟨fun _ _ _ _ _ _ _ _ _ r h => by simp [tributarylaw3_OpsShapes.j0] at h, fun _ _ _ _ _ _ _ _ r h => by simp [tributarylaw3_OpsShapes.l0] at h, fun _ _ _ _ _ _ _ _ _ r h => by simp [tributarylaw3_OpsShapes.l1] at h, fun _ _ _ _ _ _ _ _ _ r h => by simp [tributarylaw3_OpsShapes.l2] at h⟩
  | k + 1 => by
    obtain ⟨ih0, ih1, ih2, ih3⟩ := tributarylaw3_OpsShapes.mono_l k
    refine ⟨?_, ?_, ?_, ?_⟩
    · intro y0 y1 y2 y3 y4 y5 y6 y7 y8
      unfold tributarylaw3_OpsShapes.j0
      repeat' first
      | (with_reducible exact ih0 _ _ _ _ _ _ _ _ _)
      | (with_reducible exact ih1 _ _ _ _ _ _ _ _)
      | (with_reducible exact ih2 _ _ _ _ _ _ _ _ _)
      | (with_reducible exact ih3 _ _ _ _ _ _ _ _ _)
      | (with_reducible exact ops_Apply.mono _ _ _ _ _ _ _ _)
      | (with_reducible exact tributaryref2_Same.mono _ _ _)
      | (with_reducible exact LeO.refl _)
      | (with_reducible exact LeO.none _)
      | (with_reducible refine LeO.ite ?_ ?_)
      | (with_reducible refine LeO.bind ?_ (fun _ => ?_))
      | exact ih0 _ _ _ _ _ _ _ _ _
      | exact ih1 _ _ _ _ _ _ _ _
      | exact ih2 _ _ _ _ _ _ _ _ _
      | exact ih3 _ _ _ _ _ _ _ _ _
      | exact ops_Apply.mono _ _ _ _ _ _ _ _
      | exact tributaryref2_Same.mono _ _ _
      | exact LeO.none _
      | refine LeO.ite ?_ ?_
      | refine LeO.bind ?_ (fun _ => ?_)
    · intro y0 y1 y2 y3 y4 y5 y6 y7
      unfold tributarylaw3_OpsShapes.l0
      repeat' first
      | (with_reducible exact ih0 _ _ _ _ _ _ _ _ _)
      | (with_reducible exact ih1 _ _ _ _ _ _ _ _)
      | (with_reducible exact ih2 _ _ _ _ _ _ _ _ _)
      | (with_reducible exact ih3 _ _ _ _ _ _ _ _ _)
      | (with_reducible exact ops_Apply.mono _ _ _ _ _ _ _ _)
      | (with_reducible exact tributaryref2_Same.mono _ _ _)
      | (with_reducible exact LeO.refl _)
      | (with_reducible exact LeO.none _)
      | (with_reducible refine LeO.ite ?_ ?_)
      | (with_reducible refine LeO.bind ?_ (fun _ => ?_))
      | exact ih0 _ _ _ _ _ _ _ _ _
      | exact ih1 _ _ _ _ _ _ _ _
      | exact ih2 _ _ _ _ _ _ _ _ _
      | exact ih3 _ _ _ _ _ _ _ _ _
      | exact ops_Apply.mono _ _ _ _ _ _ _ _
      | exact tributaryref2_Same.mono _ _ _
      | exact LeO.none _
      | refine LeO.ite ?_ ?_
      | refine LeO.bind ?_ (fun _ => ?_)
    · intro y0 y1 y2 y3 y4 y5 y6 y7 y8
      unfold tributarylaw3_OpsShapes.l1
      repeat' first
      | (with_reducible exact ih0 _ _ _ _ _ _ _ _ _)
      | (with_reducible exact ih1 _ _ _ _ _ _ _ _)
      | (with_reducible exact ih2 _ _ _ _ _ _ _ _ _)
      | (with_reducible exact ih3 _ _ _ _ _ _ _ _ _)
      | (with_reducible exact ops_Apply.mono _ _ _ _ _ _ _ _)
      | (with_reducible exact tributaryref2_Same.mono _ _ _)
      | (with_reducible exact LeO.refl _)
      | (with_reducible exact LeO.none _)
      | (with_reducible refine LeO.ite ?_ ?_)
      | (with_reducible refine LeO.bind ?_ (fun _ => ?_))
      | exact ih0 _ _ _ _ _ _ _ _ _
      | exact ih1 _ _ _ _ _ _ _ _
      | exact ih2 _ _ _ _ _ _ _ _ _
      | exact ih3 _ _ _ _ _ _ _ _ _
      | exact ops_Apply.mono _ _ _ _ _ _ _ _
      | exact tributaryref2_Same.mono _ _ _
      | exact LeO.none _
      | refine LeO.ite ?_ ?_
      | refine LeO.bind ?_ (fun _ => ?_)
    · intro y0 y1 y2 y3 y4 y5 y6 y7 y8
      unfold tributarylaw3_OpsShapes.l2
      repeat' first
      | (with_reducible exact ih0 _ _ _ _ _ _ _ _ _)
      | (with_reducible exact ih1 _ _ _ _ _ _ _ _)
      | (with_reducible exact ih2 _ _ _ _ _ _ _ _ _)
      | (with_reducible exact ih3 _ _ _ _ _ _ _ _ _)
      | (with_reducible exact ops_Apply.mono _ _ _ _ _ _ _ _)
      | (with_reducible exact tributaryref2_Same.mono _ _ _)
      | (with_reducible exact LeO.refl _)
      | (with_reducible exact LeO.none _)
      | (with_reducible refine LeO.ite ?_ ?_)
      | (with_reducible refine LeO.bind ?_ (fun _ => ?_))
      | exact ih0 _ _ _ _ _ _ _ _ _
      | exact ih1 _ _ _ _ _ _ _ _
      | exact ih2 _ _ _ _ _ _ _ _ _
      | exact ih3 _ _ _ _ _ _ _ _ _
      | exact ops_Apply.mono _ _ _ _ _ _ _ _
      | exact tributaryref2_Same.mono _ _ _
      | exact LeO.none _
      | refine LeO.ite ?_ ?_
      | refine LeO.bind ?_ (fun _ => ?_)
theorem tributarylaw3_OpsShapes.mono : ∀ a0 a1 a2 a3 a4 a5 a6 k, LeO (tributarylaw3_OpsShapes.f k a0 a1 a2 a3 a4 a5 a6) (tributarylaw3_OpsShapes.f (k + 1) a0 a1 a2 a3 a4 a5 a6) := by
  intro a0 a1 a2 a3 a4 a5 a6 k
  obtain ⟨ih0, ih1, ih2, ih3⟩ := tributarylaw3_OpsShapes.mono_l k
  unfold tributarylaw3_OpsShapes.f
  repeat' first
      | (with_reducible exact ih0 _ _ _ _ _ _ _ _ _)
      | (with_reducible exact ih1 _ _ _ _ _ _ _ _)
      | (with_reducible exact ih2 _ _ _ _ _ _ _ _ _)
      | (with_reducible exact ih3 _ _ _ _ _ _ _ _ _)
      | (with_reducible exact ops_Apply.mono _ _ _ _ _ _ _ _)
      | (with_reducible exact tributaryref2_Same.mono _ _ _)
      | (with_reducible exact LeO.refl _)
      | (with_reducible exact LeO.none _)
      | (with_reducible refine LeO.ite ?_ ?_)
      | (with_reducible refine LeO.bind ?_ (fun _ => ?_))
      | exact ih0 _ _ _ _ _ _ _ _ _
      | exact ih1 _ _ _ _ _ _ _ _
      | exact ih2 _ _ _ _ _ _ _ _ _
      | exact ih3 _ _ _ _ _ _ _ _ _
      | exact ops_Apply.mono _ _ _ _ _ _ _ _
      | exact tributaryref2_Same.mono _ _ _
      | exact LeO.none _
      | refine LeO.ite ?_ ?_
      | refine LeO.bind ?_ (fun _ => ?_)
set_option maxHeartbeats 8000000 in
set_option maxRecDepth 100000 in
theorem tributarylaw3_OpsShapes.calls (k : Nat) (a0_0 : Int) (a0_1 : Int) (a0_2 : Int) (a0_3 : Int) (a0_4 : Int) (A1 : Option Addr) (c1 : Nat) (l1 : List (S62)) (A2 : Option Addr) (c2 : Nat) (l2 : List (S62)) (r : Bool) (w : World) (hr1 : Kd.C k62 w A1 l1.length l1) (hc1 : l1.length ≤ c1) (hr2 : Kd.C k62 w A2 l2.length l2) (hc2 : l2.length ≤ c2) (hL : Laid w) (h : tributarylaw3_OpsShapes.f k a0_0 a0_1 a0_2 a0_3 a0_4 l1 l2 = some r) :
    Calls Tryd.prog 10 #[.agg #[.int .i64 a0_0, .int .i64 a0_1, .int .i64 a0_2, .int .i64 a0_3, .int .i64 a0_4], .slice A1 l1.length c1, .slice A2 l2.length c2] w fun e w' => e = .returned (.bool r) ∧ Below w.heap.size w w' := by
  have hu55 := Tryd.underlying55
  have hu62 := Tryd.underlying62
  have hu25 := Tryd.underlying25
  have hu80 := Tryd.underlying80
  have HR1 := Aside0.mk hr1
  have HC1 := Aside0.mk hc1
  clear hr1 hc1
  have HR2 := Aside0.mk hr2
  have HC2 := Aside0.mk hc2
  clear hr2 hc2
  have HLD := Aside0.mk hL
  clear hL
  have HB := Aside0.mk (Below.refl w.heap.size w)
  have H : ((tributarylaw3_few.f l1 100).bind fun t306 => ((tributarylaw3_few.f l2 100).bind fun t309 => ((ops_Apply.f k a0_0 a0_1 a0_2 a0_3 a0_4 t306 t309).bind fun t312 => ((ops_Right.f a0_0 a0_1 a0_2 a0_3 a0_4).bind fun t315 => (if t315.isNone = true then ((ops_Narrow.f a0_0).bind fun t317 => (tributarylaw3_OpsShapes.j0 k t306 t309 t312 (!t317) a0_0 a0_1 a0_2 a0_3 a0_4)) else (tributarylaw3_OpsShapes.j0 k t306 t309 t312 true a0_0 a0_1 a0_2 a0_3 a0_4)))))) = some r := h
  clear h
  replace H := Option.bind_eq_some_iff.mp H
  obtain ⟨t306, A40, H⟩ := H
  replace H : ((tributarylaw3_few.f l2 100).bind fun t309 => ((ops_Apply.f k a0_0 a0_1 a0_2 a0_3 a0_4 t306 t309).bind fun t312 => ((ops_Right.f a0_0 a0_1 a0_2 a0_3 a0_4).bind fun t315 => (if t315.isNone = true then ((ops_Narrow.f a0_0).bind fun t317 => (tributarylaw3_OpsShapes.j0 k t306 t309 t312 (!t317) a0_0 a0_1 a0_2 a0_3 a0_4)) else (tributarylaw3_OpsShapes.j0 k t306 t309 t312 true a0_0 a0_1 a0_2 a0_3 a0_4))))) = some r := H
  have A4 := Aside0.mk A40
  clear A40
  replace H := Option.bind_eq_some_iff.mp H
  obtain ⟨t309, A50, H⟩ := H
  replace H : ((ops_Apply.f k a0_0 a0_1 a0_2 a0_3 a0_4 t306 t309).bind fun t312 => ((ops_Right.f a0_0 a0_1 a0_2 a0_3 a0_4).bind fun t315 => (if t315.isNone = true then ((ops_Narrow.f a0_0).bind fun t317 => (tributarylaw3_OpsShapes.j0 k t306 t309 t312 (!t317) a0_0 a0_1 a0_2 a0_3 a0_4)) else (tributarylaw3_OpsShapes.j0 k t306 t309 t312 true a0_0 a0_1 a0_2 a0_3 a0_4)))) = some r := H
  have A5 := Aside0.mk A50
  clear A50
  replace H := Option.bind_eq_some_iff.mp H
  obtain ⟨t312, A60, H⟩ := H
  replace H : ((ops_Right.f a0_0 a0_1 a0_2 a0_3 a0_4).bind fun t315 => (if t315.isNone = true then ((ops_Narrow.f a0_0).bind fun t317 => (tributarylaw3_OpsShapes.j0 k t306 t309 t312 (!t317) a0_0 a0_1 a0_2 a0_3 a0_4)) else (tributarylaw3_OpsShapes.j0 k t306 t309 t312 true a0_0 a0_1 a0_2 a0_3 a0_4))) = some r := H
  have A6 := Aside0.mk A60
  clear A60
  have HC7 := Aside0.mk H
  clear H
  go_enter Tryd.func10, Tryd.ntmps10
  go_upto_region 3 with (first | ((with_reducible refine gate_dst (N := 3) rfl ?_); (try (refine gate_guard (by rfl) ?_; dsimp only)); refine box_event ?hg (N := 3) ?hd (cs := #[.int .i64 a0_0, .int .i64 a0_1, .int .i64 a0_2, .int .i64 a0_3, .int .i64 a0_4]) (t := 55) ?hr ?_; (case hd => rfl); (case hg => rfl); (case hr => first | (go_simp; done) | (go_simp; rfl)); intro gb305 hg w8 hbox hb; have n0_ := Aside0.mk (below_step (by repeat (first | (with_reducible first | exact HB.out | apply below_alloc | apply pw_below_drewN | apply below_drew1) | exact HB.out)) hb); have n1_ := Aside0.mk (hbox); have n2_ := Aside0.mk ((by rw [hg]; exact (below_size (by repeat (first | (with_reducible first | exact HB.out | apply below_alloc | apply pw_below_drewN | apply below_drew1) | exact HB.out))) : w.heap.size ≤ gb305)); have n3_ := Aside0.mk ((by rw [hg]; exact (below_size (by repeat (first | (with_reducible first | exact HB.out | apply below_alloc | apply pw_below_drewN | apply below_drew1) | exact HB.out))) : w.heap.size ≤ gb305)); clear HB; have HB := n0_; have BK305 := n1_; have GW305 := n2_; have GE305 := n3_; clear n0_ n1_ n2_ n3_; clear hb hbox hg) | (go_at_call 42; (with_reducible refine (tributarylaw3_few.calls _ _ l1 100 t306 _ ?side1 ?side2 A4.out).mono ?_); (case side1 => repeat (first | exact (Kd.C_below HR1.out HB.out) | (with_reducible refine Kd.C_alloc ?_ _) | (with_reducible refine Kd.C_drewN ?_ _) | (with_reducible refine Kd.C_drew ?_))); (case side2 => exact HC1.out); rintro e w9 ⟨v307, rfl, ho0, hb⟩; have n0_ := Aside0.mk (Kd.R_lower ho0 (below_size (by repeat (first | (with_reducible first | exact HB.out | apply below_alloc | apply pw_below_drewN | apply below_drew1 | refine below_set ?_ GE305.out) | exact HB.out)))); have n1_ := Aside0.mk (blk_below (g := gb305) (o := .cells #[.int .i64 a0_0, .int .i64 a0_1, .int .i64 a0_2, .int .i64 a0_3, .int .i64 a0_4] 55 (0, 0)) (by (with_reducible repeat (first | refine blk_drewN ?_ _ | refine blk_drew ?_ | refine blk_alloc ?_ _)); exact BK305.out) hb); have n2_ := Aside0.mk (below_step (by repeat (first | (with_reducible first | exact HB.out | apply below_alloc | apply pw_below_drewN | apply below_drew1 | refine below_set ?_ GE305.out) | exact HB.out)) hb); clear BK305; clear HB; have HO308 := n0_; have BK305 := n1_; have HB := n2_; clear n0_ n1_ n2_; (try clear hb); (try clear hb2); (try clear hk); (try clear hi); (try clear ho0)) | (go_at_call 42; (with_reducible refine (tributarylaw3_few.calls _ _ l2 100 t309 _ ?side1 ?side2 A5.out).mono ?_); (case side1 => repeat (first | exact (Kd.C_below HR2.out HB.out) | (with_reducible refine Kd.C_alloc ?_ _) | (with_reducible refine Kd.C_drewN ?_ _) | (with_reducible refine Kd.C_drew ?_))); (case side2 => exact HC2.out); rintro e w10 ⟨v310, rfl, ho0, hb⟩; have n0_ := Aside0.mk (Kd.R_elder' (by (with_reducible repeat (first | apply Kd.R_alloc | apply Kd.R_drewN | apply Kd.R_drew)); exact HO308.out) (Kd.R_base ho0) hb); have n1_ := Aside0.mk (Kd.R_lower (Kd.R_new' ho0 (Kd.R_lt (by (with_reducible repeat (first | apply Kd.R_alloc | apply Kd.R_drewN | apply Kd.R_drew)); exact HO308.out))) (below_size (by repeat (first | (with_reducible first | exact HB.out | apply below_alloc | apply pw_below_drewN | apply below_drew1 | refine below_set ?_ GE305.out) | exact HB.out)))); have n2_ := Aside0.mk (blk_below (g := gb305) (o := .cells #[.int .i64 a0_0, .int .i64 a0_1, .int .i64 a0_2, .int .i64 a0_3, .int .i64 a0_4] 55 (0, 0)) (by (with_reducible repeat (first | refine blk_drewN ?_ _ | refine blk_drew ?_ | refine blk_alloc ?_ _)); exact BK305.out) hb); have n3_ := Aside0.mk (below_step (by repeat (first | (with_reducible first | exact HB.out | apply below_alloc | apply pw_below_drewN | apply below_drew1 | refine below_set ?_ GE305.out) | exact HB.out)) hb); clear HO308; clear BK305; clear HB; have HO308 := n0_; have HO311 := n1_; have BK305 := n2_; have HB := n3_; clear n0_ n1_ n2_ n3_; (try clear hb); (try clear hb2); (try clear hk); (try clear hi); (try clear ho0); have hcz11_0 : w10.cell? ⟨gb305, 0, none⟩ = some (.int .i64 a0_0) := (blk_cell BK305.out 0).trans rfl; have hcz11_1 : w10.cell? ⟨gb305, 1, none⟩ = some (.int .i64 a0_1) := (blk_cell BK305.out 1).trans rfl; have hcz11_2 : w10.cell? ⟨gb305, 2, none⟩ = some (.int .i64 a0_2) := (blk_cell BK305.out 2).trans rfl; have hcz11_3 : w10.cell? ⟨gb305, 3, none⟩ = some (.int .i64 a0_3) := (blk_cell BK305.out 3).trans rfl; have hcz11_4 : w10.cell? ⟨gb305, 4, none⟩ = some (.int .i64 a0_4) := (blk_cell BK305.out 4).trans rfl; have hfz11_0 := blk_frozen BK305.out 0; have hfz11_1 := blk_frozen BK305.out 1; have hfz11_2 := blk_frozen BK305.out 2; have hfz11_3 := blk_frozen BK305.out 3; have hfz11_4 := blk_frozen BK305.out 4; obtain ⟨Ao12, co12, eo12⟩ := Kd.R_slice HO308.out; subst eo12; obtain ⟨Ao13, co13, eo13⟩ := Kd.R_slice HO311.out; subst eo13) | (go_at_call 43; (with_reducible refine (ops_Apply.calls k a0_0 a0_1 a0_2 a0_3 a0_4 _ _ t306 _ _ t309 t312 _ ?side1 ?side2 ?side3 ?side4 A6.out).mono ?_); (case side1 => repeat (first | exact (Kd.R_reads' HO308.out).2.2 | (with_reducible refine Kd.C_alloc ?_ _) | (with_reducible refine Kd.C_drewN ?_ _) | (with_reducible refine Kd.C_drew ?_))); (case side2 => exact (Kd.R_reads' HO308.out).2.1); (case side3 => repeat (first | exact (Kd.R_reads' HO311.out).2.2 | (with_reducible refine Kd.C_alloc ?_ _) | (with_reducible refine Kd.C_drewN ?_ _) | (with_reducible refine Kd.C_drew ?_))); (case side4 => exact (Kd.R_reads' HO311.out).2.1); rintro e w14 ⟨v313, rfl, ho0, hb⟩; have n0_ := Aside0.mk (Kd.R_elder' (by (with_reducible repeat (first | apply Kd.R_alloc | apply Kd.R_drewN | apply Kd.R_drew)); exact HO308.out) (Kd.R_base ho0) hb); have n1_ := Aside0.mk (Kd.R_elder' (by (with_reducible repeat (first | apply Kd.R_alloc | apply Kd.R_drewN | apply Kd.R_drew)); exact HO311.out) (Kd.R_base ho0) hb); have n2_ := Aside0.mk (Kd.R_lower (Kd.R_new' (Kd.R_new' ho0 (Kd.R_lt (by (with_reducible repeat (first | apply Kd.R_alloc | apply Kd.R_drewN | apply Kd.R_drew)); exact HO308.out))) (Kd.R_lt (by (with_reducible repeat (first | apply Kd.R_alloc | apply Kd.R_drewN | apply Kd.R_drew)); exact HO311.out))) (below_size (by repeat (first | (with_reducible first | exact HB.out | apply below_alloc | apply pw_below_drewN | apply below_drew1 | refine below_set ?_ GE305.out) | exact HB.out)))); have n3_ := Aside0.mk (blk_below (g := gb305) (o := .cells #[.int .i64 a0_0, .int .i64 a0_1, .int .i64 a0_2, .int .i64 a0_3, .int .i64 a0_4] 55 (0, 0)) (by (with_reducible repeat (first | refine blk_drewN ?_ _ | refine blk_drew ?_ | refine blk_alloc ?_ _)); exact BK305.out) hb); have n4_ := Aside0.mk (below_step (by repeat (first | (with_reducible first | exact HB.out | apply below_alloc | apply pw_below_drewN | apply below_drew1 | refine below_set ?_ GE305.out) | exact HB.out)) hb); clear HO308; clear HO311; clear BK305; clear HB; have HO308 := n0_; have HO311 := n1_; have HO314 := n2_; have BK305 := n3_; have HB := n4_; clear n0_ n1_ n2_ n3_ n4_; (try clear hb); (try clear hb2); (try clear hk); (try clear hi); (try clear ho0)))
  repeat (go_quiet (first | ((with_reducible refine gate_dst (N := 3) rfl ?_); (try (refine gate_guard (by rfl) ?_; dsimp only)); refine box_event ?hg (N := 3) ?hd (cs := #[.int .i64 a0_0, .int .i64 a0_1, .int .i64 a0_2, .int .i64 a0_3, .int .i64 a0_4]) (t := 55) ?hr ?_; (case hd => rfl); (case hg => rfl); (case hr => first | (go_simp; done) | (go_simp; rfl)); intro gb305 hg w8 hbox hb; have n0_ := Aside0.mk (below_step (by repeat (first | (with_reducible first | exact HB.out | apply below_alloc | apply pw_below_drewN | apply below_drew1) | exact HB.out)) hb); have n1_ := Aside0.mk (hbox); have n2_ := Aside0.mk ((by rw [hg]; exact (below_size (by repeat (first | (with_reducible first | exact HB.out | apply below_alloc | apply pw_below_drewN | apply below_drew1) | exact HB.out))) : w.heap.size ≤ gb305)); have n3_ := Aside0.mk ((by rw [hg]; exact (below_size (by repeat (first | (with_reducible first | exact HB.out | apply below_alloc | apply pw_below_drewN | apply below_drew1) | exact HB.out))) : w.heap.size ≤ gb305)); clear HB; have HB := n0_; have BK305 := n1_; have GW305 := n2_; have GE305 := n3_; clear n0_ n1_ n2_ n3_; clear hb hbox hg) | (go_at_call 42; (with_reducible refine (tributarylaw3_few.calls _ _ l1 100 t306 _ ?side1 ?side2 A4.out).mono ?_); (case side1 => repeat (first | exact (Kd.C_below HR1.out HB.out) | (with_reducible refine Kd.C_alloc ?_ _) | (with_reducible refine Kd.C_drewN ?_ _) | (with_reducible refine Kd.C_drew ?_))); (case side2 => exact HC1.out); rintro e w9 ⟨v307, rfl, ho0, hb⟩; have n0_ := Aside0.mk (Kd.R_lower ho0 (below_size (by repeat (first | (with_reducible first | exact HB.out | apply below_alloc | apply pw_below_drewN | apply below_drew1 | refine below_set ?_ GE305.out) | exact HB.out)))); have n1_ := Aside0.mk (blk_below (g := gb305) (o := .cells #[.int .i64 a0_0, .int .i64 a0_1, .int .i64 a0_2, .int .i64 a0_3, .int .i64 a0_4] 55 (0, 0)) (by (with_reducible repeat (first | refine blk_drewN ?_ _ | refine blk_drew ?_ | refine blk_alloc ?_ _)); exact BK305.out) hb); have n2_ := Aside0.mk (below_step (by repeat (first | (with_reducible first | exact HB.out | apply below_alloc | apply pw_below_drewN | apply below_drew1 | refine below_set ?_ GE305.out) | exact HB.out)) hb); clear BK305; clear HB; have HO308 := n0_; have BK305 := n1_; have HB := n2_; clear n0_ n1_ n2_; (try clear hb); (try clear hb2); (try clear hk); (try clear hi); (try clear ho0)) | (go_at_call 42; (with_reducible refine (tributarylaw3_few.calls _ _ l2 100 t309 _ ?side1 ?side2 A5.out).mono ?_); (case side1 => repeat (first | exact (Kd.C_below HR2.out HB.out) | (with_reducible refine Kd.C_alloc ?_ _) | (with_reducible refine Kd.C_drewN ?_ _) | (with_reducible refine Kd.C_drew ?_))); (case side2 => exact HC2.out); rintro e w10 ⟨v310, rfl, ho0, hb⟩; have n0_ := Aside0.mk (Kd.R_elder' (by (with_reducible repeat (first | apply Kd.R_alloc | apply Kd.R_drewN | apply Kd.R_drew)); exact HO308.out) (Kd.R_base ho0) hb); have n1_ := Aside0.mk (Kd.R_lower (Kd.R_new' ho0 (Kd.R_lt (by (with_reducible repeat (first | apply Kd.R_alloc | apply Kd.R_drewN | apply Kd.R_drew)); exact HO308.out))) (below_size (by repeat (first | (with_reducible first | exact HB.out | apply below_alloc | apply pw_below_drewN | apply below_drew1 | refine below_set ?_ GE305.out) | exact HB.out)))); have n2_ := Aside0.mk (blk_below (g := gb305) (o := .cells #[.int .i64 a0_0, .int .i64 a0_1, .int .i64 a0_2, .int .i64 a0_3, .int .i64 a0_4] 55 (0, 0)) (by (with_reducible repeat (first | refine blk_drewN ?_ _ | refine blk_drew ?_ | refine blk_alloc ?_ _)); exact BK305.out) hb); have n3_ := Aside0.mk (below_step (by repeat (first | (with_reducible first | exact HB.out | apply below_alloc | apply pw_below_drewN | apply below_drew1 | refine below_set ?_ GE305.out) | exact HB.out)) hb); clear HO308; clear BK305; clear HB; have HO308 := n0_; have HO311 := n1_; have BK305 := n2_; have HB := n3_; clear n0_ n1_ n2_ n3_; (try clear hb); (try clear hb2); (try clear hk); (try clear hi); (try clear ho0); have hcz11_0 : w10.cell? ⟨gb305, 0, none⟩ = some (.int .i64 a0_0) := (blk_cell BK305.out 0).trans rfl; have hcz11_1 : w10.cell? ⟨gb305, 1, none⟩ = some (.int .i64 a0_1) := (blk_cell BK305.out 1).trans rfl; have hcz11_2 : w10.cell? ⟨gb305, 2, none⟩ = some (.int .i64 a0_2) := (blk_cell BK305.out 2).trans rfl; have hcz11_3 : w10.cell? ⟨gb305, 3, none⟩ = some (.int .i64 a0_3) := (blk_cell BK305.out 3).trans rfl; have hcz11_4 : w10.cell? ⟨gb305, 4, none⟩ = some (.int .i64 a0_4) := (blk_cell BK305.out 4).trans rfl; have hfz11_0 := blk_frozen BK305.out 0; have hfz11_1 := blk_frozen BK305.out 1; have hfz11_2 := blk_frozen BK305.out 2; have hfz11_3 := blk_frozen BK305.out 3; have hfz11_4 := blk_frozen BK305.out 4; obtain ⟨Ao12, co12, eo12⟩ := Kd.R_slice HO308.out; subst eo12; obtain ⟨Ao13, co13, eo13⟩ := Kd.R_slice HO311.out; subst eo13) | (go_at_call 43; (with_reducible refine (ops_Apply.calls k a0_0 a0_1 a0_2 a0_3 a0_4 _ _ t306 _ _ t309 t312 _ ?side1 ?side2 ?side3 ?side4 A6.out).mono ?_); (case side1 => repeat (first | exact (Kd.R_reads' HO308.out).2.2 | (with_reducible refine Kd.C_alloc ?_ _) | (with_reducible refine Kd.C_drewN ?_ _) | (with_reducible refine Kd.C_drew ?_))); (case side2 => exact (Kd.R_reads' HO308.out).2.1); (case side3 => repeat (first | exact (Kd.R_reads' HO311.out).2.2 | (with_reducible refine Kd.C_alloc ?_ _) | (with_reducible refine Kd.C_drewN ?_ _) | (with_reducible refine Kd.C_drew ?_))); (case side4 => exact (Kd.R_reads' HO311.out).2.1); rintro e w14 ⟨v313, rfl, ho0, hb⟩; have n0_ := Aside0.mk (Kd.R_elder' (by (with_reducible repeat (first | apply Kd.R_alloc | apply Kd.R_drewN | apply Kd.R_drew)); exact HO308.out) (Kd.R_base ho0) hb); have n1_ := Aside0.mk (Kd.R_elder' (by (with_reducible repeat (first | apply Kd.R_alloc | apply Kd.R_drewN | apply Kd.R_drew)); exact HO311.out) (Kd.R_base ho0) hb); have n2_ := Aside0.mk (Kd.R_lower (Kd.R_new' (Kd.R_new' ho0 (Kd.R_lt (by (with_reducible repeat (first | apply Kd.R_alloc | apply Kd.R_drewN | apply Kd.R_drew)); exact HO308.out))) (Kd.R_lt (by (with_reducible repeat (first | apply Kd.R_alloc | apply Kd.R_drewN | apply Kd.R_drew)); exact HO311.out))) (below_size (by repeat (first | (with_reducible first | exact HB.out | apply below_alloc | apply pw_below_drewN | apply below_drew1 | refine below_set ?_ GE305.out) | exact HB.out)))); have n3_ := Aside0.mk (blk_below (g := gb305) (o := .cells #[.int .i64 a0_0, .int .i64 a0_1, .int .i64 a0_2, .int .i64 a0_3, .int .i64 a0_4] 55 (0, 0)) (by (with_reducible repeat (first | refine blk_drewN ?_ _ | refine blk_drew ?_ | refine blk_alloc ?_ _)); exact BK305.out) hb); have n4_ := Aside0.mk (below_step (by repeat (first | (with_reducible first | exact HB.out | apply below_alloc | apply pw_below_drewN | apply below_drew1 | refine below_set ?_ GE305.out) | exact HB.out)) hb); clear HO308; clear HO311; clear BK305; clear HB; have HO308 := n0_; have HO311 := n1_; have HO314 := n2_; have BK305 := n3_; have HB := n4_; clear n0_ n1_ n2_ n3_ n4_; (try clear hb); (try clear hb2); (try clear hk); (try clear hi); (try clear ho0))); go_upto_region 3 with (first | ((with_reducible refine gate_dst (N := 3) rfl ?_); (try (refine gate_guard (by rfl) ?_; dsimp only)); refine box_event ?hg (N := 3) ?hd (cs := #[.int .i64 a0_0, .int .i64 a0_1, .int .i64 a0_2, .int .i64 a0_3, .int .i64 a0_4]) (t := 55) ?hr ?_; (case hd => rfl); (case hg => rfl); (case hr => first | (go_simp; done) | (go_simp; rfl)); intro gb305 hg w8 hbox hb; have n0_ := Aside0.mk (below_step (by repeat (first | (with_reducible first | exact HB.out | apply below_alloc | apply pw_below_drewN | apply below_drew1) | exact HB.out)) hb); have n1_ := Aside0.mk (hbox); have n2_ := Aside0.mk ((by rw [hg]; exact (below_size (by repeat (first | (with_reducible first | exact HB.out | apply below_alloc | apply pw_below_drewN | apply below_drew1) | exact HB.out))) : w.heap.size ≤ gb305)); have n3_ := Aside0.mk ((by rw [hg]; exact (below_size (by repeat (first | (with_reducible first | exact HB.out | apply below_alloc | apply pw_below_drewN | apply below_drew1) | exact HB.out))) : w.heap.size ≤ gb305)); clear HB; have HB := n0_; have BK305 := n1_; have GW305 := n2_; have GE305 := n3_; clear n0_ n1_ n2_ n3_; clear hb hbox hg) | (go_at_call 42; (with_reducible refine (tributarylaw3_few.calls _ _ l1 100 t306 _ ?side1 ?side2 A4.out).mono ?_); (case side1 => repeat (first | exact (Kd.C_below HR1.out HB.out) | (with_reducible refine Kd.C_alloc ?_ _) | (with_reducible refine Kd.C_drewN ?_ _) | (with_reducible refine Kd.C_drew ?_))); (case side2 => exact HC1.out); rintro e w9 ⟨v307, rfl, ho0, hb⟩; have n0_ := Aside0.mk (Kd.R_lower ho0 (below_size (by repeat (first | (with_reducible first | exact HB.out | apply below_alloc | apply pw_below_drewN | apply below_drew1 | refine below_set ?_ GE305.out) | exact HB.out)))); have n1_ := Aside0.mk (blk_below (g := gb305) (o := .cells #[.int .i64 a0_0, .int .i64 a0_1, .int .i64 a0_2, .int .i64 a0_3, .int .i64 a0_4] 55 (0, 0)) (by (with_reducible repeat (first | refine blk_drewN ?_ _ | refine blk_drew ?_ | refine blk_alloc ?_ _)); exact BK305.out) hb); have n2_ := Aside0.mk (below_step (by repeat (first | (with_reducible first | exact HB.out | apply below_alloc | apply pw_below_drewN | apply below_drew1 | refine below_set ?_ GE305.out) | exact HB.out)) hb); clear BK305; clear HB; have HO308 := n0_; have BK305 := n1_; have HB := n2_; clear n0_ n1_ n2_; (try clear hb); (try clear hb2); (try clear hk); (try clear hi); (try clear ho0)) | (go_at_call 42; (with_reducible refine (tributarylaw3_few.calls _ _ l2 100 t309 _ ?side1 ?side2 A5.out).mono ?_); (case side1 => repeat (first | exact (Kd.C_below HR2.out HB.out) | (with_reducible refine Kd.C_alloc ?_ _) | (with_reducible refine Kd.C_drewN ?_ _) | (with_reducible refine Kd.C_drew ?_))); (case side2 => exact HC2.out); rintro e w10 ⟨v310, rfl, ho0, hb⟩; have n0_ := Aside0.mk (Kd.R_elder' (by (with_reducible repeat (first | apply Kd.R_alloc | apply Kd.R_drewN | apply Kd.R_drew)); exact HO308.out) (Kd.R_base ho0) hb); have n1_ := Aside0.mk (Kd.R_lower (Kd.R_new' ho0 (Kd.R_lt (by (with_reducible repeat (first | apply Kd.R_alloc | apply Kd.R_drewN | apply Kd.R_drew)); exact HO308.out))) (below_size (by repeat (first | (with_reducible first | exact HB.out | apply below_alloc | apply pw_below_drewN | apply below_drew1 | refine below_set ?_ GE305.out) | exact HB.out)))); have n2_ := Aside0.mk (blk_below (g := gb305) (o := .cells #[.int .i64 a0_0, .int .i64 a0_1, .int .i64 a0_2, .int .i64 a0_3, .int .i64 a0_4] 55 (0, 0)) (by (with_reducible repeat (first | refine blk_drewN ?_ _ | refine blk_drew ?_ | refine blk_alloc ?_ _)); exact BK305.out) hb); have n3_ := Aside0.mk (below_step (by repeat (first | (with_reducible first | exact HB.out | apply below_alloc | apply pw_below_drewN | apply below_drew1 | refine below_set ?_ GE305.out) | exact HB.out)) hb); clear HO308; clear BK305; clear HB; have HO308 := n0_; have HO311 := n1_; have BK305 := n2_; have HB := n3_; clear n0_ n1_ n2_ n3_; (try clear hb); (try clear hb2); (try clear hk); (try clear hi); (try clear ho0); have hcz11_0 : w10.cell? ⟨gb305, 0, none⟩ = some (.int .i64 a0_0) := (blk_cell BK305.out 0).trans rfl; have hcz11_1 : w10.cell? ⟨gb305, 1, none⟩ = some (.int .i64 a0_1) := (blk_cell BK305.out 1).trans rfl; have hcz11_2 : w10.cell? ⟨gb305, 2, none⟩ = some (.int .i64 a0_2) := (blk_cell BK305.out 2).trans rfl; have hcz11_3 : w10.cell? ⟨gb305, 3, none⟩ = some (.int .i64 a0_3) := (blk_cell BK305.out 3).trans rfl; have hcz11_4 : w10.cell? ⟨gb305, 4, none⟩ = some (.int .i64 a0_4) := (blk_cell BK305.out 4).trans rfl; have hfz11_0 := blk_frozen BK305.out 0; have hfz11_1 := blk_frozen BK305.out 1; have hfz11_2 := blk_frozen BK305.out 2; have hfz11_3 := blk_frozen BK305.out 3; have hfz11_4 := blk_frozen BK305.out 4; obtain ⟨Ao12, co12, eo12⟩ := Kd.R_slice HO308.out; subst eo12; obtain ⟨Ao13, co13, eo13⟩ := Kd.R_slice HO311.out; subst eo13) | (go_at_call 43; (with_reducible refine (ops_Apply.calls k a0_0 a0_1 a0_2 a0_3 a0_4 _ _ t306 _ _ t309 t312 _ ?side1 ?side2 ?side3 ?side4 A6.out).mono ?_); (case side1 => repeat (first | exact (Kd.R_reads' HO308.out).2.2 | (with_reducible refine Kd.C_alloc ?_ _) | (with_reducible refine Kd.C_drewN ?_ _) | (with_reducible refine Kd.C_drew ?_))); (case side2 => exact (Kd.R_reads' HO308.out).2.1); (case side3 => repeat (first | exact (Kd.R_reads' HO311.out).2.2 | (with_reducible refine Kd.C_alloc ?_ _) | (with_reducible refine Kd.C_drewN ?_ _) | (with_reducible refine Kd.C_drew ?_))); (case side4 => exact (Kd.R_reads' HO311.out).2.1); rintro e w14 ⟨v313, rfl, ho0, hb⟩; have n0_ := Aside0.mk (Kd.R_elder' (by (with_reducible repeat (first | apply Kd.R_alloc | apply Kd.R_drewN | apply Kd.R_drew)); exact HO308.out) (Kd.R_base ho0) hb); have n1_ := Aside0.mk (Kd.R_elder' (by (with_reducible repeat (first | apply Kd.R_alloc | apply Kd.R_drewN | apply Kd.R_drew)); exact HO311.out) (Kd.R_base ho0) hb); have n2_ := Aside0.mk (Kd.R_lower (Kd.R_new' (Kd.R_new' ho0 (Kd.R_lt (by (with_reducible repeat (first | apply Kd.R_alloc | apply Kd.R_drewN | apply Kd.R_drew)); exact HO308.out))) (Kd.R_lt (by (with_reducible repeat (first | apply Kd.R_alloc | apply Kd.R_drewN | apply Kd.R_drew)); exact HO311.out))) (below_size (by repeat (first | (with_reducible first | exact HB.out | apply below_alloc | apply pw_below_drewN | apply below_drew1 | refine below_set ?_ GE305.out) | exact HB.out)))); have n3_ := Aside0.mk (blk_below (g := gb305) (o := .cells #[.int .i64 a0_0, .int .i64 a0_1, .int .i64 a0_2, .int .i64 a0_3, .int .i64 a0_4] 55 (0, 0)) (by (with_reducible repeat (first | refine blk_drewN ?_ _ | refine blk_drew ?_ | refine blk_alloc ?_ _)); exact BK305.out) hb); have n4_ := Aside0.mk (below_step (by repeat (first | (with_reducible first | exact HB.out | apply below_alloc | apply pw_below_drewN | apply below_drew1 | refine below_set ?_ GE305.out) | exact HB.out)) hb); clear HO308; clear HO311; clear BK305; clear HB; have HO308 := n0_; have HO311 := n1_; have HO314 := n2_; have BK305 := n3_; have HB := n4_; clear n0_ n1_ n2_ n3_ n4_; (try clear hb); (try clear hb2); (try clear hk); (try clear hi); (try clear ho0))))
  (try simp only [Act.put, List.setIfInBounds_toArray, List.set_cons_zero, List.set_cons_succ])
  go_cut [29] (fun v29 wc => ∃ (kq : Nat) (x29_6 : Bool), v29 = .bool x29_6 ∧ Aside0 (tributarylaw3_OpsShapes.j0 kq t306 t309 t312 x29_6 a0_0 a0_1 a0_2 a0_3 a0_4 = some r) ∧ Aside0 (kq ≤ k) ∧ Aside0 (Kd.R k62 62 wc w.heap.size (fun k_ => some k_ ≠ ((.slice Ao13 t309.length co13) : Value).ownBlock ∧ some k_ ≠ (v313 : Value).ownBlock) (.slice Ao12 t306.length co12) t306) ∧ Aside0 (Kd.R k62 62 wc w.heap.size (fun k_ => some k_ ≠ ((.slice Ao12 t306.length co12) : Value).ownBlock ∧ some k_ ≠ (v313 : Value).ownBlock) (.slice Ao13 t309.length co13) t309) ∧ Aside0 (Kd.R k62 62 wc w.heap.size (fun k_ => some k_ ≠ ((.slice Ao12 t306.length co12) : Value).ownBlock ∧ some k_ ≠ ((.slice Ao13 t309.length co13) : Value).ownBlock) v313 t312) ∧ Aside0 (wc.heap[gb305]? = some (.cells #[.int .i64 a0_0, .int .i64 a0_1, .int .i64 a0_2, .int .i64 a0_3, .int .i64 a0_4] 55 (0, 0))) ∧ Aside0 (Below w.heap.size w wc))
  case first =>
    have H := HC7.out
    clear HC7
    replace H := Option.bind_eq_some_iff.mp H
    obtain ⟨t315, A150, H⟩ := H
    replace H : (if t315.isNone = true then ((ops_Narrow.f a0_0).bind fun t317 => (tributarylaw3_OpsShapes.j0 k t306 t309 t312 (!t317) a0_0 a0_1 a0_2 a0_3 a0_4)) else (tributarylaw3_OpsShapes.j0 k t306 t309 t312 true a0_0 a0_1 a0_2 a0_3 a0_4)) = some r := H
    have A15 := Aside0.mk A150
    clear A150
    rcases t315 with _ | q316
    · have H1 : ((ops_Narrow.f a0_0).bind fun t317 => (tributarylaw3_OpsShapes.j0 k t306 t309 t312 (!t317) a0_0 a0_1 a0_2 a0_3 a0_4)) = some r := by rw [if_pos (show (none : Option Int).isNone = true by rfl)] at H; exact H
      clear H
      have H := H1
      clear H1
      try simp only [errW_none, errW_some]
      replace H := Option.bind_eq_some_iff.mp H
      obtain ⟨t317, A160, H⟩ := H
      replace H : (tributarylaw3_OpsShapes.j0 k t306 t309 t312 (!t317) a0_0 a0_1 a0_2 a0_3 a0_4) = some r := H
      have A16 := Aside0.mk A160
      clear A160
      have H' := Aside0.mk H
      clear H
      have hcz17_0 : w14.cell? ⟨gb305, 0, none⟩ = some (.int .i64 a0_0) := (blk_cell BK305.out 0).trans rfl
      have hcz17_1 : w14.cell? ⟨gb305, 1, none⟩ = some (.int .i64 a0_1) := (blk_cell BK305.out 1).trans rfl
      have hcz17_2 : w14.cell? ⟨gb305, 2, none⟩ = some (.int .i64 a0_2) := (blk_cell BK305.out 2).trans rfl
      have hcz17_3 : w14.cell? ⟨gb305, 3, none⟩ = some (.int .i64 a0_3) := (blk_cell BK305.out 3).trans rfl
      have hcz17_4 : w14.cell? ⟨gb305, 4, none⟩ = some (.int .i64 a0_4) := (blk_cell BK305.out 4).trans rfl
      have hfz17_0 := blk_frozen BK305.out 0
      have hfz17_1 := blk_frozen BK305.out 1
      have hfz17_2 := blk_frozen BK305.out 2
      have hfz17_3 := blk_frozen BK305.out 3
      have hfz17_4 := blk_frozen BK305.out 4
      go_wp2_with (first | (go_at_call 33; (with_reducible refine (ops_Right.calls a0_0 a0_1 a0_2 a0_3 a0_4 none _ A15.out).mono ?_); rintro e w18 ⟨bx_, rfl, hbx, hb⟩; (try simp only [errV_none, errV_some]); have n0_ := Aside0.mk (Kd.R_below (by (with_reducible repeat (first | apply Kd.R_alloc | apply Kd.R_drewN | apply Kd.R_drew)); exact HO308.out) hb); have n1_ := Aside0.mk (Kd.R_below (by (with_reducible repeat (first | apply Kd.R_alloc | apply Kd.R_drewN | apply Kd.R_drew)); exact HO311.out) hb); have n2_ := Aside0.mk (Kd.R_below (by (with_reducible repeat (first | apply Kd.R_alloc | apply Kd.R_drewN | apply Kd.R_drew)); exact HO314.out) hb); have n3_ := Aside0.mk (blk_below (g := gb305) (o := .cells #[.int .i64 a0_0, .int .i64 a0_1, .int .i64 a0_2, .int .i64 a0_3, .int .i64 a0_4] 55 (0, 0)) (by (with_reducible repeat (first | refine blk_drewN ?_ _ | refine blk_drew ?_ | refine blk_alloc ?_ _)); exact BK305.out) hb); have n4_ := Aside0.mk (below_step (by repeat (first | (with_reducible first | exact HB.out | apply below_alloc | apply pw_below_drewN | apply below_drew1 | refine below_set ?_ GE305.out) | exact HB.out)) hb); clear HO308; clear HO311; clear HO314; clear BK305; clear HB; have HO308 := n0_; have HO311 := n1_; have HO314 := n2_; have BK305 := n3_; have HB := n4_; clear n0_ n1_ n2_ n3_ n4_; (try clear hb); (try clear hb2); (try clear hk); (try clear hi); (try simp only [errW_none, errW_some]); have hcz19_0 : w18.cell? ⟨gb305, 0, none⟩ = some (.int .i64 a0_0) := (blk_cell BK305.out 0).trans rfl; have hcz19_1 : w18.cell? ⟨gb305, 1, none⟩ = some (.int .i64 a0_1) := (blk_cell BK305.out 1).trans rfl; have hcz19_2 : w18.cell? ⟨gb305, 2, none⟩ = some (.int .i64 a0_2) := (blk_cell BK305.out 2).trans rfl; have hcz19_3 : w18.cell? ⟨gb305, 3, none⟩ = some (.int .i64 a0_3) := (blk_cell BK305.out 3).trans rfl; have hcz19_4 : w18.cell? ⟨gb305, 4, none⟩ = some (.int .i64 a0_4) := (blk_cell BK305.out 4).trans rfl; have hfz19_0 := blk_frozen BK305.out 0; have hfz19_1 := blk_frozen BK305.out 1; have hfz19_2 := blk_frozen BK305.out 2; have hfz19_3 := blk_frozen BK305.out 3; have hfz19_4 := blk_frozen BK305.out 4) | (go_at_call 38; (with_reducible refine (ops_Narrow.calls a0_0 t317 _ A16.out).mono ?_); rintro e w' ⟨rfl, ⟨nd, rfl⟩⟩; (try first | exact ⟨rfl, _, World.drewN_drewN _ _ _⟩ | exact ⟨rfl, _, Eq.trans (World.drewN_drewN _ _ _) (congrArg (World.drewN _) (Nat.add_assoc _ _ _))⟩)))
      repeat (go_quiet (first | (go_at_call 33; (with_reducible refine (ops_Right.calls a0_0 a0_1 a0_2 a0_3 a0_4 none _ A15.out).mono ?_); rintro e w18 ⟨bx_, rfl, hbx, hb⟩; (try simp only [errV_none, errV_some]); have n0_ := Aside0.mk (Kd.R_below (by (with_reducible repeat (first | apply Kd.R_alloc | apply Kd.R_drewN | apply Kd.R_drew)); exact HO308.out) hb); have n1_ := Aside0.mk (Kd.R_below (by (with_reducible repeat (first | apply Kd.R_alloc | apply Kd.R_drewN | apply Kd.R_drew)); exact HO311.out) hb); have n2_ := Aside0.mk (Kd.R_below (by (with_reducible repeat (first | apply Kd.R_alloc | apply Kd.R_drewN | apply Kd.R_drew)); exact HO314.out) hb); have n3_ := Aside0.mk (blk_below (g := gb305) (o := .cells #[.int .i64 a0_0, .int .i64 a0_1, .int .i64 a0_2, .int .i64 a0_3, .int .i64 a0_4] 55 (0, 0)) (by (with_reducible repeat (first | refine blk_drewN ?_ _ | refine blk_drew ?_ | refine blk_alloc ?_ _)); exact BK305.out) hb); have n4_ := Aside0.mk (below_step (by repeat (first | (with_reducible first | exact HB.out | apply below_alloc | apply pw_below_drewN | apply below_drew1 | refine below_set ?_ GE305.out) | exact HB.out)) hb); clear HO308; clear HO311; clear HO314; clear BK305; clear HB; have HO308 := n0_; have HO311 := n1_; have HO314 := n2_; have BK305 := n3_; have HB := n4_; clear n0_ n1_ n2_ n3_ n4_; (try clear hb); (try clear hb2); (try clear hk); (try clear hi); (try simp only [errW_none, errW_some]); have hcz19_0 : w18.cell? ⟨gb305, 0, none⟩ = some (.int .i64 a0_0) := (blk_cell BK305.out 0).trans rfl; have hcz19_1 : w18.cell? ⟨gb305, 1, none⟩ = some (.int .i64 a0_1) := (blk_cell BK305.out 1).trans rfl; have hcz19_2 : w18.cell? ⟨gb305, 2, none⟩ = some (.int .i64 a0_2) := (blk_cell BK305.out 2).trans rfl; have hcz19_3 : w18.cell? ⟨gb305, 3, none⟩ = some (.int .i64 a0_3) := (blk_cell BK305.out 3).trans rfl; have hcz19_4 : w18.cell? ⟨gb305, 4, none⟩ = some (.int .i64 a0_4) := (blk_cell BK305.out 4).trans rfl; have hfz19_0 := blk_frozen BK305.out 0; have hfz19_1 := blk_frozen BK305.out 1; have hfz19_2 := blk_frozen BK305.out 2; have hfz19_3 := blk_frozen BK305.out 3; have hfz19_4 := blk_frozen BK305.out 4) | (go_at_call 38; (with_reducible refine (ops_Narrow.calls a0_0 t317 _ A16.out).mono ?_); rintro e w' ⟨rfl, ⟨nd, rfl⟩⟩; (try first | exact ⟨rfl, _, World.drewN_drewN _ _ _⟩ | exact ⟨rfl, _, Eq.trans (World.drewN_drewN _ _ _) (congrArg (World.drewN _) (Nat.add_assoc _ _ _))⟩))); try go_wp2_with (first | (go_at_call 33; (with_reducible refine (ops_Right.calls a0_0 a0_1 a0_2 a0_3 a0_4 none _ A15.out).mono ?_); rintro e w18 ⟨bx_, rfl, hbx, hb⟩; (try simp only [errV_none, errV_some]); have n0_ := Aside0.mk (Kd.R_below (by (with_reducible repeat (first | apply Kd.R_alloc | apply Kd.R_drewN | apply Kd.R_drew)); exact HO308.out) hb); have n1_ := Aside0.mk (Kd.R_below (by (with_reducible repeat (first | apply Kd.R_alloc | apply Kd.R_drewN | apply Kd.R_drew)); exact HO311.out) hb); have n2_ := Aside0.mk (Kd.R_below (by (with_reducible repeat (first | apply Kd.R_alloc | apply Kd.R_drewN | apply Kd.R_drew)); exact HO314.out) hb); have n3_ := Aside0.mk (blk_below (g := gb305) (o := .cells #[.int .i64 a0_0, .int .i64 a0_1, .int .i64 a0_2, .int .i64 a0_3, .int .i64 a0_4] 55 (0, 0)) (by (with_reducible repeat (first | refine blk_drewN ?_ _ | refine blk_drew ?_ | refine blk_alloc ?_ _)); exact BK305.out) hb); have n4_ := Aside0.mk (below_step (by repeat (first | (with_reducible first | exact HB.out | apply below_alloc | apply pw_below_drewN | apply below_drew1 | refine below_set ?_ GE305.out) | exact HB.out)) hb); clear HO308; clear HO311; clear HO314; clear BK305; clear HB; have HO308 := n0_; have HO311 := n1_; have HO314 := n2_; have BK305 := n3_; have HB := n4_; clear n0_ n1_ n2_ n3_ n4_; (try clear hb); (try clear hb2); (try clear hk); (try clear hi); (try simp only [errW_none, errW_some]); have hcz19_0 : w18.cell? ⟨gb305, 0, none⟩ = some (.int .i64 a0_0) := (blk_cell BK305.out 0).trans rfl; have hcz19_1 : w18.cell? ⟨gb305, 1, none⟩ = some (.int .i64 a0_1) := (blk_cell BK305.out 1).trans rfl; have hcz19_2 : w18.cell? ⟨gb305, 2, none⟩ = some (.int .i64 a0_2) := (blk_cell BK305.out 2).trans rfl; have hcz19_3 : w18.cell? ⟨gb305, 3, none⟩ = some (.int .i64 a0_3) := (blk_cell BK305.out 3).trans rfl; have hcz19_4 : w18.cell? ⟨gb305, 4, none⟩ = some (.int .i64 a0_4) := (blk_cell BK305.out 4).trans rfl; have hfz19_0 := blk_frozen BK305.out 0; have hfz19_1 := blk_frozen BK305.out 1; have hfz19_2 := blk_frozen BK305.out 2; have hfz19_3 := blk_frozen BK305.out 3; have hfz19_4 := blk_frozen BK305.out 4) | (go_at_call 38; (with_reducible refine (ops_Narrow.calls a0_0 t317 _ A16.out).mono ?_); rintro e w' ⟨rfl, ⟨nd, rfl⟩⟩; (try first | exact ⟨rfl, _, World.drewN_drewN _ _ _⟩ | exact ⟨rfl, _, Eq.trans (World.drewN_drewN _ _ _) (congrArg (World.drewN _) (Nat.add_assoc _ _ _))⟩))))
      go_meet
      case rel => exact ⟨_, (!t317), (by first | rfl | (simp; done) | (simp [*]; done)), H', ⟨by first | omega | exact Nat.le_refl _⟩, ⟨by (with_reducible repeat (first | apply Kd.R_alloc | apply Kd.R_drewN | apply Kd.R_drew)); exact Kd.R_mono HO308.out (fun _ hk => ⟨hk.1.2, hk.2⟩)⟩, ⟨by (with_reducible repeat (first | apply Kd.R_alloc | apply Kd.R_drewN | apply Kd.R_drew)); exact Kd.R_mono HO311.out (fun _ hk => ⟨hk.1.2, hk.2⟩)⟩, ⟨by (with_reducible repeat (first | apply Kd.R_alloc | apply Kd.R_drewN | apply Kd.R_drew)); exact Kd.R_mono HO314.out (fun _ hk => ⟨hk.1.2, hk.2⟩)⟩, ⟨by (with_reducible repeat (first | refine blk_drewN ?_ _ | refine blk_drew ?_ | refine blk_alloc ?_ _)); exact BK305.out⟩, ⟨by repeat (first | (with_reducible first | exact HB.out | apply below_alloc | apply pw_below_drewN | apply below_drew1 | refine below_set ?_ GE305.out) | exact HB.out)⟩⟩
    · have H1 : (tributarylaw3_OpsShapes.j0 k t306 t309 t312 true a0_0 a0_1 a0_2 a0_3 a0_4) = some r := by rw [if_neg (show ¬ (some q316).isNone = true by simp)] at H; exact H
      clear H
      have H := H1
      clear H1
      try simp only [errW_none, errW_some]
      have H' := Aside0.mk H
      clear H
      have hcz20_0 : w14.cell? ⟨gb305, 0, none⟩ = some (.int .i64 a0_0) := (blk_cell BK305.out 0).trans rfl
      have hcz20_1 : w14.cell? ⟨gb305, 1, none⟩ = some (.int .i64 a0_1) := (blk_cell BK305.out 1).trans rfl
      have hcz20_2 : w14.cell? ⟨gb305, 2, none⟩ = some (.int .i64 a0_2) := (blk_cell BK305.out 2).trans rfl
      have hcz20_3 : w14.cell? ⟨gb305, 3, none⟩ = some (.int .i64 a0_3) := (blk_cell BK305.out 3).trans rfl
      have hcz20_4 : w14.cell? ⟨gb305, 4, none⟩ = some (.int .i64 a0_4) := (blk_cell BK305.out 4).trans rfl
      have hfz20_0 := blk_frozen BK305.out 0
      have hfz20_1 := blk_frozen BK305.out 1
      have hfz20_2 := blk_frozen BK305.out 2
      have hfz20_3 := blk_frozen BK305.out 3
      have hfz20_4 := blk_frozen BK305.out 4
      go_wp2_with (first | (go_at_call 33; (with_reducible refine (ops_Right.calls a0_0 a0_1 a0_2 a0_3 a0_4 (some q316) _ A15.out).mono ?_); rintro e w21 ⟨bq316, rfl, hbx, hb⟩; (try simp only [errV_none, errV_some]); have n0_ := Aside0.mk (Kd.R_below (by (with_reducible repeat (first | apply Kd.R_alloc | apply Kd.R_drewN | apply Kd.R_drew)); exact HO308.out) hb); have n1_ := Aside0.mk (Kd.R_below (by (with_reducible repeat (first | apply Kd.R_alloc | apply Kd.R_drewN | apply Kd.R_drew)); exact HO311.out) hb); have n2_ := Aside0.mk (Kd.R_below (by (with_reducible repeat (first | apply Kd.R_alloc | apply Kd.R_drewN | apply Kd.R_drew)); exact HO314.out) hb); have n3_ := Aside0.mk (blk_below (g := gb305) (o := .cells #[.int .i64 a0_0, .int .i64 a0_1, .int .i64 a0_2, .int .i64 a0_3, .int .i64 a0_4] 55 (0, 0)) (by (with_reducible repeat (first | refine blk_drewN ?_ _ | refine blk_drew ?_ | refine blk_alloc ?_ _)); exact BK305.out) hb); have n4_ := Aside0.mk ((Nat.ne_of_lt (Nat.lt_of_lt_of_le (blk_lt (g := gb305) (o := .cells #[.int .i64 a0_0, .int .i64 a0_1, .int .i64 a0_2, .int .i64 a0_3, .int .i64 a0_4] 55 (0, 0)) (by (with_reducible repeat (first | refine blk_drewN ?_ _ | refine blk_drew ?_ | refine blk_alloc ?_ _)); exact BK305.out)) hbx.1) : gb305 ≠ bq316)); have n5_ := Aside0.mk ((Nat.ne_of_gt (Nat.lt_of_lt_of_le (blk_lt (g := gb305) (o := .cells #[.int .i64 a0_0, .int .i64 a0_1, .int .i64 a0_2, .int .i64 a0_3, .int .i64 a0_4] 55 (0, 0)) (by (with_reducible repeat (first | refine blk_drewN ?_ _ | refine blk_drew ?_ | refine blk_alloc ?_ _)); exact BK305.out)) hbx.1) : bq316 ≠ gb305)); have n6_ := Aside0.mk (hbx.2); have n7_ := Aside0.mk ((Nat.le_trans (below_size (by repeat (first | (with_reducible first | exact HB.out | apply below_alloc | apply pw_below_drewN | apply below_drew1 | refine below_set ?_ GE305.out) | exact HB.out))) hbx.1 : w.heap.size ≤ bq316)); have n8_ := Aside0.mk ((Nat.le_trans (below_size (by repeat (first | (with_reducible first | exact HB.out | apply below_alloc | apply pw_below_drewN | apply below_drew1 | refine below_set ?_ GE305.out) | exact HB.out))) hbx.1 : w.heap.size ≤ bq316)); have n9_ := Aside0.mk (below_step (by repeat (first | (with_reducible first | exact HB.out | apply below_alloc | apply pw_below_drewN | apply below_drew1 | refine below_set ?_ GE305.out) | exact HB.out)) hb); clear HO308; clear HO311; clear HO314; clear BK305; clear HB; have HO308 := n0_; have HO311 := n1_; have HO314 := n2_; have BK305 := n3_; have NB305_5004 := n4_; have NB5004_305 := n5_; have BK5004 := n6_; have GW5004 := n7_; have GE5004 := n8_; have HB := n9_; clear n0_ n1_ n2_ n3_ n4_ n5_ n6_ n7_ n8_ n9_; (try clear hb); (try clear hb2); (try clear hk); (try clear hi); (try simp only [errW_none, errW_some])))
      repeat (go_quiet (first | (go_at_call 33; (with_reducible refine (ops_Right.calls a0_0 a0_1 a0_2 a0_3 a0_4 (some q316) _ A15.out).mono ?_); rintro e w21 ⟨bq316, rfl, hbx, hb⟩; (try simp only [errV_none, errV_some]); have n0_ := Aside0.mk (Kd.R_below (by (with_reducible repeat (first | apply Kd.R_alloc | apply Kd.R_drewN | apply Kd.R_drew)); exact HO308.out) hb); have n1_ := Aside0.mk (Kd.R_below (by (with_reducible repeat (first | apply Kd.R_alloc | apply Kd.R_drewN | apply Kd.R_drew)); exact HO311.out) hb); have n2_ := Aside0.mk (Kd.R_below (by (with_reducible repeat (first | apply Kd.R_alloc | apply Kd.R_drewN | apply Kd.R_drew)); exact HO314.out) hb); have n3_ := Aside0.mk (blk_below (g := gb305) (o := .cells #[.int .i64 a0_0, .int .i64 a0_1, .int .i64 a0_2, .int .i64 a0_3, .int .i64 a0_4] 55 (0, 0)) (by (with_reducible repeat (first | refine blk_drewN ?_ _ | refine blk_drew ?_ | refine blk_alloc ?_ _)); exact BK305.out) hb); have n4_ := Aside0.mk ((Nat.ne_of_lt (Nat.lt_of_lt_of_le (blk_lt (g := gb305) (o := .cells #[.int .i64 a0_0, .int .i64 a0_1, .int .i64 a0_2, .int .i64 a0_3, .int .i64 a0_4] 55 (0, 0)) (by (with_reducible repeat (first | refine blk_drewN ?_ _ | refine blk_drew ?_ | refine blk_alloc ?_ _)); exact BK305.out)) hbx.1) : gb305 ≠ bq316)); have n5_ := Aside0.mk ((Nat.ne_of_gt (Nat.lt_of_lt_of_le (blk_lt (g := gb305) (o := .cells #[.int .i64 a0_0, .int .i64 a0_1, .int .i64 a0_2, .int .i64 a0_3, .int .i64 a0_4] 55 (0, 0)) (by (with_reducible repeat (first | refine blk_drewN ?_ _ | refine blk_drew ?_ | refine blk_alloc ?_ _)); exact BK305.out)) hbx.1) : bq316 ≠ gb305)); have n6_ := Aside0.mk (hbx.2); have n7_ := Aside0.mk ((Nat.le_trans (below_size (by repeat (first | (with_reducible first | exact HB.out | apply below_alloc | apply pw_below_drewN | apply below_drew1 | refine below_set ?_ GE305.out) | exact HB.out))) hbx.1 : w.heap.size ≤ bq316)); have n8_ := Aside0.mk ((Nat.le_trans (below_size (by repeat (first | (with_reducible first | exact HB.out | apply below_alloc | apply pw_below_drewN | apply below_drew1 | refine below_set ?_ GE305.out) | exact HB.out))) hbx.1 : w.heap.size ≤ bq316)); have n9_ := Aside0.mk (below_step (by repeat (first | (with_reducible first | exact HB.out | apply below_alloc | apply pw_below_drewN | apply below_drew1 | refine below_set ?_ GE305.out) | exact HB.out)) hb); clear HO308; clear HO311; clear HO314; clear BK305; clear HB; have HO308 := n0_; have HO311 := n1_; have HO314 := n2_; have BK305 := n3_; have NB305_5004 := n4_; have NB5004_305 := n5_; have BK5004 := n6_; have GW5004 := n7_; have GE5004 := n8_; have HB := n9_; clear n0_ n1_ n2_ n3_ n4_ n5_ n6_ n7_ n8_ n9_; (try clear hb); (try clear hb2); (try clear hk); (try clear hi); (try simp only [errW_none, errW_some]))); try go_wp2_with (first | (go_at_call 33; (with_reducible refine (ops_Right.calls a0_0 a0_1 a0_2 a0_3 a0_4 (some q316) _ A15.out).mono ?_); rintro e w21 ⟨bq316, rfl, hbx, hb⟩; (try simp only [errV_none, errV_some]); have n0_ := Aside0.mk (Kd.R_below (by (with_reducible repeat (first | apply Kd.R_alloc | apply Kd.R_drewN | apply Kd.R_drew)); exact HO308.out) hb); have n1_ := Aside0.mk (Kd.R_below (by (with_reducible repeat (first | apply Kd.R_alloc | apply Kd.R_drewN | apply Kd.R_drew)); exact HO311.out) hb); have n2_ := Aside0.mk (Kd.R_below (by (with_reducible repeat (first | apply Kd.R_alloc | apply Kd.R_drewN | apply Kd.R_drew)); exact HO314.out) hb); have n3_ := Aside0.mk (blk_below (g := gb305) (o := .cells #[.int .i64 a0_0, .int .i64 a0_1, .int .i64 a0_2, .int .i64 a0_3, .int .i64 a0_4] 55 (0, 0)) (by (with_reducible repeat (first | refine blk_drewN ?_ _ | refine blk_drew ?_ | refine blk_alloc ?_ _)); exact BK305.out) hb); have n4_ := Aside0.mk ((Nat.ne_of_lt (Nat.lt_of_lt_of_le (blk_lt (g := gb305) (o := .cells #[.int .i64 a0_0, .int .i64 a0_1, .int .i64 a0_2, .int .i64 a0_3, .int .i64 a0_4] 55 (0, 0)) (by (with_reducible repeat (first | refine blk_drewN ?_ _ | refine blk_drew ?_ | refine blk_alloc ?_ _)); exact BK305.out)) hbx.1) : gb305 ≠ bq316)); have n5_ := Aside0.mk ((Nat.ne_of_gt (Nat.lt_of_lt_of_le (blk_lt (g := gb305) (o := .cells #[.int .i64 a0_0, .int .i64 a0_1, .int .i64 a0_2, .int .i64 a0_3, .int .i64 a0_4] 55 (0, 0)) (by (with_reducible repeat (first | refine blk_drewN ?_ _ | refine blk_drew ?_ | refine blk_alloc ?_ _)); exact BK305.out)) hbx.1) : bq316 ≠ gb305)); have n6_ := Aside0.mk (hbx.2); have n7_ := Aside0.mk ((Nat.le_trans (below_size (by repeat (first | (with_reducible first | exact HB.out | apply below_alloc | apply pw_below_drewN | apply below_drew1 | refine below_set ?_ GE305.out) | exact HB.out))) hbx.1 : w.heap.size ≤ bq316)); have n8_ := Aside0.mk ((Nat.le_trans (below_size (by repeat (first | (with_reducible first | exact HB.out | apply below_alloc | apply pw_below_drewN | apply below_drew1 | refine below_set ?_ GE305.out) | exact HB.out))) hbx.1 : w.heap.size ≤ bq316)); have n9_ := Aside0.mk (below_step (by repeat (first | (with_reducible first | exact HB.out | apply below_alloc | apply pw_below_drewN | apply below_drew1 | refine below_set ?_ GE305.out) | exact HB.out)) hb); clear HO308; clear HO311; clear HO314; clear BK305; clear HB; have HO308 := n0_; have HO311 := n1_; have HO314 := n2_; have BK305 := n3_; have NB305_5004 := n4_; have NB5004_305 := n5_; have BK5004 := n6_; have GW5004 := n7_; have GE5004 := n8_; have HB := n9_; clear n0_ n1_ n2_ n3_ n4_ n5_ n6_ n7_ n8_ n9_; (try clear hb); (try clear hb2); (try clear hk); (try clear hi); (try simp only [errW_none, errW_some]))))
      go_meet
      case rel => exact ⟨_, (true), (by first | rfl | (simp; done) | (simp [*]; done)), H', ⟨by first | omega | exact Nat.le_refl _⟩, ⟨by (with_reducible repeat (first | apply Kd.R_alloc | apply Kd.R_drewN | apply Kd.R_drew)); exact Kd.R_mono HO308.out (fun _ hk => ⟨hk.1.2, hk.2⟩)⟩, ⟨by (with_reducible repeat (first | apply Kd.R_alloc | apply Kd.R_drewN | apply Kd.R_drew)); exact Kd.R_mono HO311.out (fun _ hk => ⟨hk.1.2, hk.2⟩)⟩, ⟨by (with_reducible repeat (first | apply Kd.R_alloc | apply Kd.R_drewN | apply Kd.R_drew)); exact Kd.R_mono HO314.out (fun _ hk => ⟨hk.1.2, hk.2⟩)⟩, ⟨by (with_reducible repeat (first | refine blk_drewN ?_ _ | refine blk_drew ?_ | refine blk_alloc ?_ _)); exact BK305.out⟩, ⟨by repeat (first | (with_reducible first | exact HB.out | apply below_alloc | apply pw_below_drewN | apply below_drew1 | refine below_set ?_ GE305.out | refine below_set ?_ GE5004.out) | exact HB.out)⟩⟩
  case rest =>
    clear HC7
    try clear c1
    try clear c2
    try clear p2
    try clear q3
    try clear c10
    try clear hcz11_0
    try clear hcz11_1
    try clear hcz11_2
    try clear hcz11_3
    try clear hcz11_4
    try clear hcz17_0
    try clear hcz17_1
    try clear hcz17_2
    try clear hcz17_3
    try clear hcz17_4
    try clear hcz19_0
    try clear hcz19_1
    try clear hcz19_2
    try clear hcz19_3
    try clear hcz19_4
    try clear hcz20_0
    try clear hcz20_1
    try clear hcz20_2
    try clear hcz20_3
    try clear hcz20_4
    try clear hfz11_0
    try clear hfz11_1
    try clear hfz11_2
    try clear hfz11_3
    try clear hfz11_4
    try clear hfz17_0
    try clear hfz17_1
    try clear hfz17_2
    try clear hfz17_3
    try clear hfz17_4
    try clear hfz19_0
    try clear hfz19_1
    try clear hfz19_2
    try clear hfz19_3
    try clear hfz19_4
    try clear hfz20_0
    try clear hfz20_1
    try clear hfz20_2
    try clear hfz20_3
    try clear hfz20_4
    try clear q316
    obtain ⟨kq, x29_6, rfl, HA, HJ6, HO_7, HO_8, HO_9, BK305, HB⟩ := hcut
    cases kq with
    | zero => exact absurd HA.out (by simp [tributarylaw3_OpsShapes.j0])
    | succ kj6 =>
      have H := HA.out
      clear HA
      simp only [tributarylaw3_OpsShapes.j0] at H
      by_cases c22 : x29_6 = true
      · subst c22
        have H1 : ((tributarylaw3_told.f).bind fun t318 => (if t318 = true then (some ((t312.length : Int) == 0)) else (none))) = some r := by rw [if_pos rfl] at H; exact H
        clear H
        have H := H1
        clear H1
        replace H := Option.bind_eq_some_iff.mp H
        obtain ⟨t318, A230, H⟩ := H
        replace H : (if t318 = true then (some ((t312.length : Int) == 0)) else (none)) = some r := H
        have A23 := Aside0.mk A230
        clear A230
        by_cases c24 : t318 = true
        · subst c24
          have H1 : (some ((t312.length : Int) == 0)) = some r := by rw [if_pos rfl] at H; exact H
          clear H
          have H := H1
          clear H1
          obtain rfl := Option.some.inj H
          go_wp2_with (first | (go_at_call 35; (with_reducible refine (tributarylaw3_told.calls  true _ ?side1 A23.out).mono ?_); (case side1 => exact Laid.below HLD.out (by repeat (first | (with_reducible first | exact HB.out | apply below_alloc | apply pw_below_drewN | apply below_drew1 | refine below_set ?_ GE305.out) | exact HB.out)) (Nat.le_refl _)); rintro e w25 ⟨rfl, hb⟩; have n0_ := Aside0.mk (Kd.R_below (by (with_reducible repeat (first | apply Kd.R_alloc | apply Kd.R_drewN | apply Kd.R_drew)); exact HO_7.out) hb); have n1_ := Aside0.mk (Kd.R_below (by (with_reducible repeat (first | apply Kd.R_alloc | apply Kd.R_drewN | apply Kd.R_drew)); exact HO_8.out) hb); have n2_ := Aside0.mk (Kd.R_below (by (with_reducible repeat (first | apply Kd.R_alloc | apply Kd.R_drewN | apply Kd.R_drew)); exact HO_9.out) hb); have n3_ := Aside0.mk (blk_below (g := gb305) (o := .cells #[.int .i64 a0_0, .int .i64 a0_1, .int .i64 a0_2, .int .i64 a0_3, .int .i64 a0_4] 55 (0, 0)) (by (with_reducible repeat (first | refine blk_drewN ?_ _ | refine blk_drew ?_ | refine blk_alloc ?_ _)); exact BK305.out) hb); have n4_ := Aside0.mk (below_step (by repeat (first | (with_reducible first | exact HB.out | apply below_alloc | apply pw_below_drewN | apply below_drew1 | refine below_set ?_ GE305.out) | exact HB.out)) hb); clear HO_7; clear HO_8; clear HO_9; clear BK305; clear HB; have HO_7 := n0_; have HO_8 := n1_; have HO_9 := n2_; have BK305 := n3_; have HB := n4_; clear n0_ n1_ n2_ n3_ n4_; (try clear hb); (try clear hb2); (try clear hk); (try clear hi); obtain ⟨Ao26, co26, eo26⟩ := Kd.R_slice HO_9.out; subst eo26))
          repeat (go_quiet (first | (go_at_call 35; (with_reducible refine (tributarylaw3_told.calls  true _ ?side1 A23.out).mono ?_); (case side1 => exact Laid.below HLD.out (by repeat (first | (with_reducible first | exact HB.out | apply below_alloc | apply pw_below_drewN | apply below_drew1 | refine below_set ?_ GE305.out) | exact HB.out)) (Nat.le_refl _)); rintro e w25 ⟨rfl, hb⟩; have n0_ := Aside0.mk (Kd.R_below (by (with_reducible repeat (first | apply Kd.R_alloc | apply Kd.R_drewN | apply Kd.R_drew)); exact HO_7.out) hb); have n1_ := Aside0.mk (Kd.R_below (by (with_reducible repeat (first | apply Kd.R_alloc | apply Kd.R_drewN | apply Kd.R_drew)); exact HO_8.out) hb); have n2_ := Aside0.mk (Kd.R_below (by (with_reducible repeat (first | apply Kd.R_alloc | apply Kd.R_drewN | apply Kd.R_drew)); exact HO_9.out) hb); have n3_ := Aside0.mk (blk_below (g := gb305) (o := .cells #[.int .i64 a0_0, .int .i64 a0_1, .int .i64 a0_2, .int .i64 a0_3, .int .i64 a0_4] 55 (0, 0)) (by (with_reducible repeat (first | refine blk_drewN ?_ _ | refine blk_drew ?_ | refine blk_alloc ?_ _)); exact BK305.out) hb); have n4_ := Aside0.mk (below_step (by repeat (first | (with_reducible first | exact HB.out | apply below_alloc | apply pw_below_drewN | apply below_drew1 | refine below_set ?_ GE305.out) | exact HB.out)) hb); clear HO_7; clear HO_8; clear HO_9; clear BK305; clear HB; have HO_7 := n0_; have HO_8 := n1_; have HO_9 := n2_; have BK305 := n3_; have HB := n4_; clear n0_ n1_ n2_ n3_ n4_; (try clear hb); (try clear hb2); (try clear hk); (try clear hi); obtain ⟨Ao26, co26, eo26⟩ := Kd.R_slice HO_9.out; subst eo26)); try go_wp2_with (first | (go_at_call 35; (with_reducible refine (tributarylaw3_told.calls  true _ ?side1 A23.out).mono ?_); (case side1 => exact Laid.below HLD.out (by repeat (first | (with_reducible first | exact HB.out | apply below_alloc | apply pw_below_drewN | apply below_drew1 | refine below_set ?_ GE305.out) | exact HB.out)) (Nat.le_refl _)); rintro e w25 ⟨rfl, hb⟩; have n0_ := Aside0.mk (Kd.R_below (by (with_reducible repeat (first | apply Kd.R_alloc | apply Kd.R_drewN | apply Kd.R_drew)); exact HO_7.out) hb); have n1_ := Aside0.mk (Kd.R_below (by (with_reducible repeat (first | apply Kd.R_alloc | apply Kd.R_drewN | apply Kd.R_drew)); exact HO_8.out) hb); have n2_ := Aside0.mk (Kd.R_below (by (with_reducible repeat (first | apply Kd.R_alloc | apply Kd.R_drewN | apply Kd.R_drew)); exact HO_9.out) hb); have n3_ := Aside0.mk (blk_below (g := gb305) (o := .cells #[.int .i64 a0_0, .int .i64 a0_1, .int .i64 a0_2, .int .i64 a0_3, .int .i64 a0_4] 55 (0, 0)) (by (with_reducible repeat (first | refine blk_drewN ?_ _ | refine blk_drew ?_ | refine blk_alloc ?_ _)); exact BK305.out) hb); have n4_ := Aside0.mk (below_step (by repeat (first | (with_reducible first | exact HB.out | apply below_alloc | apply pw_below_drewN | apply below_drew1 | refine below_set ?_ GE305.out) | exact HB.out)) hb); clear HO_7; clear HO_8; clear HO_9; clear BK305; clear HB; have HO_7 := n0_; have HO_8 := n1_; have HO_9 := n2_; have BK305 := n3_; have HB := n4_; clear n0_ n1_ n2_ n3_ n4_; (try clear hb); (try clear hb2); (try clear hk); (try clear hi); obtain ⟨Ao26, co26, eo26⟩ := Kd.R_slice HO_9.out; subst eo26)))
          go_ret
          exact ⟨by first | rfl | (simp [errW_none, errW_some] <;> rfl) | (simp [*, errW_none, errW_some] <;> rfl), by repeat (first | (with_reducible first | exact HB.out | apply below_alloc | apply pw_below_drewN | apply below_drew1 | refine below_set ?_ GE305.out) | exact HB.out)⟩
        · replace c24 := Bool.eq_false_iff.mpr c24
          subst c24
          have H1 : (none) = some r := by rw [if_neg (show ¬ (false = true) by decide)] at H; exact H
          clear H
          have H := H1
          clear H1
          exact absurd H (by simp)
      · replace c22 := Bool.eq_false_iff.mpr c22
        subst c22
        have H1 : (if a0_0 = 2 then ((tributarylaw3_told.f).bind fun t319 => (if t319 = true then (some ((t312.length : Int) == (mn (t306.length : Int) 64))) else (none))) else (if a0_0 = 5 then ((tributarylaw3_told.f).bind fun t320 => (if t320 = true then (if t306.length + t309.length < 8796093022208 then ((some (t306 ++ t309 : List (S62))).bind fun y321 => (if 0 ≤ (mn (wrap64 ((t306.length : Int) + (t309.length : Int))) 64) then (if (mn (wrap64 ((t306.length : Int) + (t309.length : Int))) 64) ≤ (y321.length : Int) then ((tributaryref2_Same.f kj6 t312 (y321.take ((mn (wrap64 ((t306.length : Int) + (t309.length : Int))) 64) : Int).toNat)).bind fun t328 => (some t328)) else (none)) else (none))) else (none)) else (none))) else (if a0_0 = 4 then (tributarylaw3_OpsShapes.l0 kj6 t306 t312 0 a0_0 a0_1 a0_2 a0_3 a0_4) else (tributarylaw3_OpsShapes.l1 kj6 t306 t312 0 0 a0_0 a0_1 a0_2 a0_3 a0_4)))) = some r := by rw [if_neg (show ¬ (false = true) by decide)] at H; exact H
        clear H
        have H := H1
        clear H1
        by_cases c27 : a0_0 = 2
        · rw [if_pos c27] at H
          have c27b0 : (a0_0 == 2) = true := beq_iff_eq.mpr c27
          have c27b1 : (a0_0 != 2) = false := bne_eq_false_iff_eq.mpr c27
          clear c27
          replace H := Option.bind_eq_some_iff.mp H
          obtain ⟨t319, A280, H⟩ := H
          replace H : (if t319 = true then (some ((t312.length : Int) == (mn (t306.length : Int) 64))) else (none)) = some r := H
          have A28 := Aside0.mk A280
          clear A280
          by_cases c29 : t319 = true
          · subst c29
            have H1 : (some ((t312.length : Int) == (mn (t306.length : Int) 64))) = some r := by rw [if_pos rfl] at H; exact H
            clear H
            have H := H1
            clear H1
            obtain ⟨ji30, hji30⟩ : ∃ j_ : Int, (mn (t306.length : Int) 64) = j_ := ⟨_, rfl⟩
            replace H : (some ((t312.length : Int) == (ji30))) = some r := by first | (rw [hji30] at H; exact H) | (simp only [hji30] at H ⊢; exact H)
            (try rw [hji30] at A28)
            have hji30_ : (if 64 < (t306.length : Int) then 64 else (t306.length : Int)) = ji30 := hji30
            obtain rfl := Option.some.inj H
            have hcz31_0 : wc.cell? ⟨gb305, 0, none⟩ = some (.int .i64 a0_0) := (blk_cell BK305.out 0).trans rfl
            have hcz31_1 : wc.cell? ⟨gb305, 1, none⟩ = some (.int .i64 a0_1) := (blk_cell BK305.out 1).trans rfl
            have hcz31_2 : wc.cell? ⟨gb305, 2, none⟩ = some (.int .i64 a0_2) := (blk_cell BK305.out 2).trans rfl
            have hcz31_3 : wc.cell? ⟨gb305, 3, none⟩ = some (.int .i64 a0_3) := (blk_cell BK305.out 3).trans rfl
            have hcz31_4 : wc.cell? ⟨gb305, 4, none⟩ = some (.int .i64 a0_4) := (blk_cell BK305.out 4).trans rfl
            have hfz31_0 := blk_frozen BK305.out 0
            have hfz31_1 := blk_frozen BK305.out 1
            have hfz31_2 := blk_frozen BK305.out 2
            have hfz31_3 := blk_frozen BK305.out 3
            have hfz31_4 := blk_frozen BK305.out 4
            go_wp2_with (first | (go_at_call 35; (with_reducible refine (tributarylaw3_told.calls  true _ ?side1 A28.out).mono ?_); (case side1 => exact Laid.below HLD.out (by repeat (first | (with_reducible first | exact HB.out | apply below_alloc | apply pw_below_drewN | apply below_drew1 | refine below_set ?_ GE305.out) | exact HB.out)) (Nat.le_refl _)); rintro e w32 ⟨rfl, hb⟩; have n0_ := Aside0.mk (Kd.R_below (by (with_reducible repeat (first | apply Kd.R_alloc | apply Kd.R_drewN | apply Kd.R_drew)); exact HO_7.out) hb); have n1_ := Aside0.mk (Kd.R_below (by (with_reducible repeat (first | apply Kd.R_alloc | apply Kd.R_drewN | apply Kd.R_drew)); exact HO_8.out) hb); have n2_ := Aside0.mk (Kd.R_below (by (with_reducible repeat (first | apply Kd.R_alloc | apply Kd.R_drewN | apply Kd.R_drew)); exact HO_9.out) hb); have n3_ := Aside0.mk (blk_below (g := gb305) (o := .cells #[.int .i64 a0_0, .int .i64 a0_1, .int .i64 a0_2, .int .i64 a0_3, .int .i64 a0_4] 55 (0, 0)) (by (with_reducible repeat (first | refine blk_drewN ?_ _ | refine blk_drew ?_ | refine blk_alloc ?_ _)); exact BK305.out) hb); have n4_ := Aside0.mk (below_step (by repeat (first | (with_reducible first | exact HB.out | apply below_alloc | apply pw_below_drewN | apply below_drew1 | refine below_set ?_ GE305.out) | exact HB.out)) hb); clear HO_7; clear HO_8; clear HO_9; clear BK305; clear HB; have HO_7 := n0_; have HO_8 := n1_; have HO_9 := n2_; have BK305 := n3_; have HB := n4_; clear n0_ n1_ n2_ n3_ n4_; (try clear hb); (try clear hb2); (try clear hk); (try clear hi); obtain ⟨Ao33, co33, eo33⟩ := Kd.R_slice HO_9.out; subst eo33))
            repeat (go_quiet (first | (go_at_call 35; (with_reducible refine (tributarylaw3_told.calls  true _ ?side1 A28.out).mono ?_); (case side1 => exact Laid.below HLD.out (by repeat (first | (with_reducible first | exact HB.out | apply below_alloc | apply pw_below_drewN | apply below_drew1 | refine below_set ?_ GE305.out) | exact HB.out)) (Nat.le_refl _)); rintro e w32 ⟨rfl, hb⟩; have n0_ := Aside0.mk (Kd.R_below (by (with_reducible repeat (first | apply Kd.R_alloc | apply Kd.R_drewN | apply Kd.R_drew)); exact HO_7.out) hb); have n1_ := Aside0.mk (Kd.R_below (by (with_reducible repeat (first | apply Kd.R_alloc | apply Kd.R_drewN | apply Kd.R_drew)); exact HO_8.out) hb); have n2_ := Aside0.mk (Kd.R_below (by (with_reducible repeat (first | apply Kd.R_alloc | apply Kd.R_drewN | apply Kd.R_drew)); exact HO_9.out) hb); have n3_ := Aside0.mk (blk_below (g := gb305) (o := .cells #[.int .i64 a0_0, .int .i64 a0_1, .int .i64 a0_2, .int .i64 a0_3, .int .i64 a0_4] 55 (0, 0)) (by (with_reducible repeat (first | refine blk_drewN ?_ _ | refine blk_drew ?_ | refine blk_alloc ?_ _)); exact BK305.out) hb); have n4_ := Aside0.mk (below_step (by repeat (first | (with_reducible first | exact HB.out | apply below_alloc | apply pw_below_drewN | apply below_drew1 | refine below_set ?_ GE305.out) | exact HB.out)) hb); clear HO_7; clear HO_8; clear HO_9; clear BK305; clear HB; have HO_7 := n0_; have HO_8 := n1_; have HO_9 := n2_; have BK305 := n3_; have HB := n4_; clear n0_ n1_ n2_ n3_ n4_; (try clear hb); (try clear hb2); (try clear hk); (try clear hi); obtain ⟨Ao33, co33, eo33⟩ := Kd.R_slice HO_9.out; subst eo33)); try go_wp2_with (first | (go_at_call 35; (with_reducible refine (tributarylaw3_told.calls  true _ ?side1 A28.out).mono ?_); (case side1 => exact Laid.below HLD.out (by repeat (first | (with_reducible first | exact HB.out | apply below_alloc | apply pw_below_drewN | apply below_drew1 | refine below_set ?_ GE305.out) | exact HB.out)) (Nat.le_refl _)); rintro e w32 ⟨rfl, hb⟩; have n0_ := Aside0.mk (Kd.R_below (by (with_reducible repeat (first | apply Kd.R_alloc | apply Kd.R_drewN | apply Kd.R_drew)); exact HO_7.out) hb); have n1_ := Aside0.mk (Kd.R_below (by (with_reducible repeat (first | apply Kd.R_alloc | apply Kd.R_drewN | apply Kd.R_drew)); exact HO_8.out) hb); have n2_ := Aside0.mk (Kd.R_below (by (with_reducible repeat (first | apply Kd.R_alloc | apply Kd.R_drewN | apply Kd.R_drew)); exact HO_9.out) hb); have n3_ := Aside0.mk (blk_below (g := gb305) (o := .cells #[.int .i64 a0_0, .int .i64 a0_1, .int .i64 a0_2, .int .i64 a0_3, .int .i64 a0_4] 55 (0, 0)) (by (with_reducible repeat (first | refine blk_drewN ?_ _ | refine blk_drew ?_ | refine blk_alloc ?_ _)); exact BK305.out) hb); have n4_ := Aside0.mk (below_step (by repeat (first | (with_reducible first | exact HB.out | apply below_alloc | apply pw_below_drewN | apply below_drew1 | refine below_set ?_ GE305.out) | exact HB.out)) hb); clear HO_7; clear HO_8; clear HO_9; clear BK305; clear HB; have HO_7 := n0_; have HO_8 := n1_; have HO_9 := n2_; have BK305 := n3_; have HB := n4_; clear n0_ n1_ n2_ n3_ n4_; (try clear hb); (try clear hb2); (try clear hk); (try clear hi); obtain ⟨Ao33, co33, eo33⟩ := Kd.R_slice HO_9.out; subst eo33)))
            go_ret
            exact ⟨by first | rfl | (simp [errW_none, errW_some] <;> rfl) | (simp only [← hji30]; first | rfl | (simp [errW_none, errW_some] <;> rfl)) | (simp [*, errW_none, errW_some] <;> rfl), by repeat (first | (with_reducible first | exact HB.out | apply below_alloc | apply pw_below_drewN | apply below_drew1 | refine below_set ?_ GE305.out) | exact HB.out)⟩
          · replace c29 := Bool.eq_false_iff.mpr c29
            subst c29
            have H1 : (none) = some r := by rw [if_neg (show ¬ (false = true) by decide)] at H; exact H
            clear H
            have H := H1
            clear H1
            exact absurd H (by simp)
        · rw [if_neg c27] at H
          have c27b0 : (a0_0 == 2) = false := beq_eq_false_iff_ne.mpr c27
          have c27b1 : (a0_0 != 2) = true := bne_iff_ne.mpr c27
          by_cases c34 : a0_0 = 5
          · rw [if_pos c34] at H
            have c34b0 : (a0_0 == 5) = true := beq_iff_eq.mpr c34
            have c34b1 : (a0_0 != 5) = false := bne_eq_false_iff_eq.mpr c34
            clear c34
            replace H := Option.bind_eq_some_iff.mp H
            obtain ⟨t320, A350, H⟩ := H
            replace H : (if t320 = true then (if t306.length + t309.length < 8796093022208 then ((some (t306 ++ t309 : List (S62))).bind fun y321 => (if 0 ≤ (mn (wrap64 ((t306.length : Int) + (t309.length : Int))) 64) then (if (mn (wrap64 ((t306.length : Int) + (t309.length : Int))) 64) ≤ (y321.length : Int) then ((tributaryref2_Same.f kj6 t312 (y321.take ((mn (wrap64 ((t306.length : Int) + (t309.length : Int))) 64) : Int).toNat)).bind fun t328 => (some t328)) else (none)) else (none))) else (none)) else (none)) = some r := H
            have A35 := Aside0.mk A350
            clear A350
            by_cases c36 : t320 = true
            · subst c36
              have H1 : (if t306.length + t309.length < 8796093022208 then ((some (t306 ++ t309 : List (S62))).bind fun y321 => (if 0 ≤ (mn (wrap64 ((t306.length : Int) + (t309.length : Int))) 64) then (if (mn (wrap64 ((t306.length : Int) + (t309.length : Int))) 64) ≤ (y321.length : Int) then ((tributaryref2_Same.f kj6 t312 (y321.take ((mn (wrap64 ((t306.length : Int) + (t309.length : Int))) 64) : Int).toNat)).bind fun t328 => (some t328)) else (none)) else (none))) else (none)) = some r := by rw [if_pos rfl] at H; exact H
              clear H
              have H := H1
              clear H1
              by_cases c37 : t306.length + t309.length < 8796093022208
              · rw [if_pos c37] at H
                have LMc37 := Aside0.mk c37
                clear c37
                obtain ⟨y321, hy321⟩ : ∃ y_ : List (S62), y_ = (t306 ++ t309) := ⟨_, rfl⟩
                replace H : (if 0 ≤ (mn (wrap64 ((t306.length : Int) + (t309.length : Int))) 64) then (if (mn (wrap64 ((t306.length : Int) + (t309.length : Int))) 64) ≤ (y321.length : Int) then ((tributaryref2_Same.f kj6 t312 (y321.take ((mn (wrap64 ((t306.length : Int) + (t309.length : Int))) 64) : Int).toNat)).bind fun t328 => (some t328)) else (none)) else (none)) = some r := by first | (rw [hy321]; with_reducible exact H) | (have H2_ := (Option.bind_some _ _).symm.trans H; rw [hy321]; with_reducible exact H2_) | (have H2_ := (Option.bind_some _ _).symm.trans H; with_reducible exact H2_) | with_reducible exact H | (rw [hy321]; exact H) | exact H
                have Ny321 := Aside0.mk hy321
                clear hy321
                obtain ⟨ji38, hji38⟩ : ∃ j_ : Int, (mn (wrap64 ((t306.length : Int) + (t309.length : Int))) 64) = j_ := ⟨_, rfl⟩
                replace H : (if 0 ≤ (ji38) then (if (ji38) ≤ (y321.length : Int) then ((tributaryref2_Same.f kj6 t312 (y321.take ((ji38) : Int).toNat)).bind fun t328 => (some t328)) else (none)) else (none)) = some r := by first | (rw [hji38] at H; exact H) | (simp only [hji38] at H ⊢; exact H)
                (try rw [hji38] at A35)
                have hji38_ : (if 64 < (wrap64 ((t306.length : Int) + (t309.length : Int))) then 64 else (wrap64 ((t306.length : Int) + (t309.length : Int)))) = ji38 := hji38
                by_cases c39 : 0 ≤ (ji38)
                · rw [if_pos c39] at H
                  have c39b0 := eq_true c39
                  have c39b1 : decide (0 ≤ (ji38)) = true := decide_eq_true c39
                  clear c39
                  by_cases c40 : (ji38) ≤ (y321.length : Int)
                  · rw [if_pos c40] at H
                    have c40b0 := eq_true c40
                    have c40b1 : decide ((ji38) ≤ (y321.length : Int)) = true := decide_eq_true c40
                    clear c40
                    obtain ⟨y324, hy324⟩ : ∃ y_ : List (S62), y_ = (y321.take ((ji38) : Int).toNat) := ⟨_, rfl⟩
                    replace H : ((tributaryref2_Same.f kj6 t312 y324).bind fun t328 => (some t328)) = some r := by first | (rw [hy324]; with_reducible exact H) | (have H2_ := (Option.bind_some _ _).symm.trans H; rw [hy324]; with_reducible exact H2_) | (have H2_ := (Option.bind_some _ _).symm.trans H; with_reducible exact H2_) | with_reducible exact H | (rw [hy324]; exact H) | exact H
                    have Ny324 := Aside0.mk hy324
                    clear hy324
                    replace H := Option.bind_eq_some_iff.mp H
                    obtain ⟨t328, A410, H⟩ := H
                    replace H : (some t328) = some r := H
                    have A41 := Aside0.mk A410
                    clear A410
                    obtain rfl := Option.some.inj H
                    have hcz42_0 : wc.cell? ⟨gb305, 0, none⟩ = some (.int .i64 a0_0) := (blk_cell BK305.out 0).trans rfl
                    have hcz42_1 : wc.cell? ⟨gb305, 1, none⟩ = some (.int .i64 a0_1) := (blk_cell BK305.out 1).trans rfl
                    have hcz42_2 : wc.cell? ⟨gb305, 2, none⟩ = some (.int .i64 a0_2) := (blk_cell BK305.out 2).trans rfl
                    have hcz42_3 : wc.cell? ⟨gb305, 3, none⟩ = some (.int .i64 a0_3) := (blk_cell BK305.out 3).trans rfl
                    have hcz42_4 : wc.cell? ⟨gb305, 4, none⟩ = some (.int .i64 a0_4) := (blk_cell BK305.out 4).trans rfl
                    have hfz42_0 := blk_frozen BK305.out 0
                    have hfz42_1 := blk_frozen BK305.out 1
                    have hfz42_2 := blk_frozen BK305.out 2
                    have hfz42_3 := blk_frozen BK305.out 3
                    have hfz42_4 := blk_frozen BK305.out 4
                    go_wp2_with (first | (go_at_call 35; (with_reducible refine (tributarylaw3_told.calls  true _ ?side1 A35.out).mono ?_); (case side1 => exact Laid.below HLD.out (by repeat (first | (with_reducible first | exact HB.out | apply below_alloc | apply pw_below_drewN | apply below_drew1 | refine below_set ?_ GE305.out) | exact HB.out)) (Nat.le_refl _)); rintro e w43 ⟨rfl, hb⟩; have n0_ := Aside0.mk (Kd.R_below (by (with_reducible repeat (first | apply Kd.R_alloc | apply Kd.R_drewN | apply Kd.R_drew)); exact HO_7.out) hb); have n1_ := Aside0.mk (Kd.R_below (by (with_reducible repeat (first | apply Kd.R_alloc | apply Kd.R_drewN | apply Kd.R_drew)); exact HO_8.out) hb); have n2_ := Aside0.mk (Kd.R_below (by (with_reducible repeat (first | apply Kd.R_alloc | apply Kd.R_drewN | apply Kd.R_drew)); exact HO_9.out) hb); have n3_ := Aside0.mk (blk_below (g := gb305) (o := .cells #[.int .i64 a0_0, .int .i64 a0_1, .int .i64 a0_2, .int .i64 a0_3, .int .i64 a0_4] 55 (0, 0)) (by (with_reducible repeat (first | refine blk_drewN ?_ _ | refine blk_drew ?_ | refine blk_alloc ?_ _)); exact BK305.out) hb); have n4_ := Aside0.mk (below_step (by repeat (first | (with_reducible first | exact HB.out | apply below_alloc | apply pw_below_drewN | apply below_drew1 | refine below_set ?_ GE305.out) | exact HB.out)) hb); clear HO_7; clear HO_8; clear HO_9; clear BK305; clear HB; have HO_7 := n0_; have HO_8 := n1_; have HO_9 := n2_; have BK305 := n3_; have HB := n4_; clear n0_ n1_ n2_ n3_ n4_; (try clear hb); (try clear hb2); (try clear hk); (try clear hi)) | ((with_reducible refine gate_builtin (b := .append) (xs := #[.tmp 54, .tmp 55]) rfl ?_); (try (refine gate_guard (by rfl) ?_; dsimp only)); at_builtin; refine Kd.R_append_rows k62 (w0 := w) w.heap.size rfl (.tmp 54) (.tmp 55) 60 62 (.agg #[(.int .i64 0), (.int .i64 0)]) 16 rfl Tryd.underlying60 info62 rfl (by decide) (by omega) (.slice Ao12 t306.length co12) t306 t309 _ _ _ (fun k_ => some k_ ≠ (.slice Ao13 t309.length co13 : Value).ownBlock ∧ some k_ ≠ (v313 : Value).ownBlock) (fun _ => False) rfl rfl ?aO ?aR (fun _ _ h => h) (fun _ h => h.elim) ?aF ?aB ?aS ?aL ?_; (case aR => repeat (first | exact (Kd.R_reads' HO_8.out).2.2 | (with_reducible refine Kd.C_alloc ?_ _) | (with_reducible refine Kd.C_drewN ?_ _) | (with_reducible refine Kd.C_drew ?_))); (case aB => exact (by repeat (first | (with_reducible first | exact HB.out | apply below_alloc | apply pw_below_drewN | apply below_drew1 | refine below_set ?_ GE305.out) | exact HB.out))); (case aF => exact (fun k_ hk => ⟨Kd.fresh' (Kd.R_lt (by (with_reducible repeat (first | apply Kd.R_alloc | apply Kd.R_drewN | apply Kd.R_drew)); exact HO_8.out)) k_ hk, Kd.fresh' (Kd.R_lt (by (with_reducible repeat (first | apply Kd.R_alloc | apply Kd.R_drewN | apply Kd.R_drew)); exact HO_9.out)) k_ hk⟩)); (case aO => exact (by (with_reducible repeat (first | apply Kd.R_alloc | apply Kd.R_drewN | apply Kd.R_drew)); exact HO_7.out)); (case aS => exact (below_size (by repeat (first | (with_reducible first | exact HB.out | apply below_alloc | apply pw_below_drewN | apply below_drew1 | refine below_set ?_ GE305.out) | exact HB.out)))); (case aL => have := LMc37.out; omega); intro v322 w44 ho hb hg hat; rw [← Ny321.out] at ho; have n0_ := Aside0.mk (Kd.R_after (ok := (fun k_ => some k_ ≠ (v313 : Value).ownBlock)) (by (with_reducible repeat (first | apply Kd.R_alloc | apply Kd.R_drewN | apply Kd.R_drew)); exact Kd.R_mono HO_8.out (fun _ hk => ⟨hk.2, hk.1⟩)) hg hat); have n1_ := Aside0.mk (Kd.R_after (ok := (fun k_ => some k_ ≠ (.slice Ao13 t309.length co13 : Value).ownBlock)) (by (with_reducible repeat (first | apply Kd.R_alloc | apply Kd.R_drewN | apply Kd.R_drew)); exact Kd.R_mono HO_9.out (fun _ hk => ⟨hk.2, hk.1⟩)) hg hat); have n2_ := Aside0.mk (blk_grown (g := gb305) (o := .cells #[.int .i64 a0_0, .int .i64 a0_1, .int .i64 a0_2, .int .i64 a0_3, .int .i64 a0_4] 55 (0, 0)) (by (with_reducible repeat (first | refine blk_drewN ?_ _ | refine blk_drew ?_ | refine blk_alloc ?_ _)); exact BK305.out) hg (Kd.R_ne HO_7.out BK305.out (by decide))); have n3_ := Aside0.mk (hb); have n4_ := Aside0.mk (ho); clear HO_8; clear HO_9; clear BK305; clear HB; clear HO_7; have HO_8 := n0_; have HO_9 := n1_; have BK305 := n2_; have HB := n3_; have HO323 := n4_; clear n0_ n1_ n2_ n3_ n4_; clear ho hb hg hat; obtain ⟨Ao46, co46, eo46⟩ := Kd.R_slice HO323.out; subst eo46; have q45 : ((ji38) : Int) ≤ ((y321.length : Int) : Int) := of_decide_eq_true (by first | (with_reducible assumption) | assumption); obtain ⟨i045, hi045, _, hsz45, _⟩ := info_parts info62; have hroom45 : y321.length ≤ co46 := (Kd.R_reads' HO323.out).2.1; have hC45 : Kd.C k62 _ Ao46 y321.length y321 := (Kd.R_reads' HO323.out).2.2; have hcut45 := cut_to (P := Tryd.prog) 60 62 .i64 Tryd.underlying60 hi045 Ao46 y321.length co46 (ji38) (of_decide_eq_true (by first | (with_reducible assumption) | assumption)) q45 hroom45; have hr45 := Kd.C_take (m := ((ji38) : Int).toNat) hC45 (by omega); have hy45 : y324.length = ((ji38) : Int).toNat := (by rw [Ny324.out, List.length_take]; omega); rw [← Ny324.out] at hr45; rw [← hy45] at hcut45; have HR327 := Aside0.mk hr45; have HC327 := Aside0.mk (show y324.length ≤ co46 from by omega); clear hr45 hC45 hroom45 hi045 hsz45; have KY45 := Aside0.mk hy45; clear hy45; have KL45 := Aside0.mk (show ((ji38) : Int).toNat ≤ y321.length from by omega); replace q45 := eq_true q45; obtain ⟨Ao47, co47, eo47⟩ := Kd.R_slice HO_9.out; subst eo47) | (go_at_call 45; (with_reducible refine (tributaryref2_Same.calls kj6 _ _ t312 _ _ y324 t328 _ ?side1 ?side2 ?side3 ?side4 A41.out).mono ?_); (case side1 => repeat (first | exact (Kd.R_reads' HO_9.out).2.2 | (with_reducible refine Kd.C_alloc ?_ _) | (with_reducible refine Kd.C_drewN ?_ _) | (with_reducible refine Kd.C_drew ?_))); (case side2 => exact (Kd.R_reads' HO_9.out).2.1); (case side3 => repeat (first | exact (by repeat (first | (with_reducible exact HR327.out) | (with_reducible refine Kd.C_alloc ?_ _) | (with_reducible refine Kd.C_drewN ?_ _) | (with_reducible refine Kd.C_drew ?_) | exact HR327.out)) | (with_reducible refine Kd.C_alloc ?_ _) | (with_reducible refine Kd.C_drewN ?_ _) | (with_reducible refine Kd.C_drew ?_))); (case side4 => exact HC327.out); rintro e w' ⟨rfl, ⟨nd, rfl⟩⟩; (try first | exact ⟨rfl, _, World.drewN_drewN _ _ _⟩ | exact ⟨rfl, _, Eq.trans (World.drewN_drewN _ _ _) (congrArg (World.drewN _) (Nat.add_assoc _ _ _))⟩)))
                    repeat (go_quiet (first | (go_at_call 35; (with_reducible refine (tributarylaw3_told.calls  true _ ?side1 A35.out).mono ?_); (case side1 => exact Laid.below HLD.out (by repeat (first | (with_reducible first | exact HB.out | apply below_alloc | apply pw_below_drewN | apply below_drew1 | refine below_set ?_ GE305.out) | exact HB.out)) (Nat.le_refl _)); rintro e w43 ⟨rfl, hb⟩; have n0_ := Aside0.mk (Kd.R_below (by (with_reducible repeat (first | apply Kd.R_alloc | apply Kd.R_drewN | apply Kd.R_drew)); exact HO_7.out) hb); have n1_ := Aside0.mk (Kd.R_below (by (with_reducible repeat (first | apply Kd.R_alloc | apply Kd.R_drewN | apply Kd.R_drew)); exact HO_8.out) hb); have n2_ := Aside0.mk (Kd.R_below (by (with_reducible repeat (first | apply Kd.R_alloc | apply Kd.R_drewN | apply Kd.R_drew)); exact HO_9.out) hb); have n3_ := Aside0.mk (blk_below (g := gb305) (o := .cells #[.int .i64 a0_0, .int .i64 a0_1, .int .i64 a0_2, .int .i64 a0_3, .int .i64 a0_4] 55 (0, 0)) (by (with_reducible repeat (first | refine blk_drewN ?_ _ | refine blk_drew ?_ | refine blk_alloc ?_ _)); exact BK305.out) hb); have n4_ := Aside0.mk (below_step (by repeat (first | (with_reducible first | exact HB.out | apply below_alloc | apply pw_below_drewN | apply below_drew1 | refine below_set ?_ GE305.out) | exact HB.out)) hb); clear HO_7; clear HO_8; clear HO_9; clear BK305; clear HB; have HO_7 := n0_; have HO_8 := n1_; have HO_9 := n2_; have BK305 := n3_; have HB := n4_; clear n0_ n1_ n2_ n3_ n4_; (try clear hb); (try clear hb2); (try clear hk); (try clear hi)) | ((with_reducible refine gate_builtin (b := .append) (xs := #[.tmp 54, .tmp 55]) rfl ?_); (try (refine gate_guard (by rfl) ?_; dsimp only)); at_builtin; refine Kd.R_append_rows k62 (w0 := w) w.heap.size rfl (.tmp 54) (.tmp 55) 60 62 (.agg #[(.int .i64 0), (.int .i64 0)]) 16 rfl Tryd.underlying60 info62 rfl (by decide) (by omega) (.slice Ao12 t306.length co12) t306 t309 _ _ _ (fun k_ => some k_ ≠ (.slice Ao13 t309.length co13 : Value).ownBlock ∧ some k_ ≠ (v313 : Value).ownBlock) (fun _ => False) rfl rfl ?aO ?aR (fun _ _ h => h) (fun _ h => h.elim) ?aF ?aB ?aS ?aL ?_; (case aR => repeat (first | exact (Kd.R_reads' HO_8.out).2.2 | (with_reducible refine Kd.C_alloc ?_ _) | (with_reducible refine Kd.C_drewN ?_ _) | (with_reducible refine Kd.C_drew ?_))); (case aB => exact (by repeat (first | (with_reducible first | exact HB.out | apply below_alloc | apply pw_below_drewN | apply below_drew1 | refine below_set ?_ GE305.out) | exact HB.out))); (case aF => exact (fun k_ hk => ⟨Kd.fresh' (Kd.R_lt (by (with_reducible repeat (first | apply Kd.R_alloc | apply Kd.R_drewN | apply Kd.R_drew)); exact HO_8.out)) k_ hk, Kd.fresh' (Kd.R_lt (by (with_reducible repeat (first | apply Kd.R_alloc | apply Kd.R_drewN | apply Kd.R_drew)); exact HO_9.out)) k_ hk⟩)); (case aO => exact (by (with_reducible repeat (first | apply Kd.R_alloc | apply Kd.R_drewN | apply Kd.R_drew)); exact HO_7.out)); (case aS => exact (below_size (by repeat (first | (with_reducible first | exact HB.out | apply below_alloc | apply pw_below_drewN | apply below_drew1 | refine below_set ?_ GE305.out) | exact HB.out)))); (case aL => have := LMc37.out; omega); intro v322 w44 ho hb hg hat; rw [← Ny321.out] at ho; have n0_ := Aside0.mk (Kd.R_after (ok := (fun k_ => some k_ ≠ (v313 : Value).ownBlock)) (by (with_reducible repeat (first | apply Kd.R_alloc | apply Kd.R_drewN | apply Kd.R_drew)); exact Kd.R_mono HO_8.out (fun _ hk => ⟨hk.2, hk.1⟩)) hg hat); have n1_ := Aside0.mk (Kd.R_after (ok := (fun k_ => some k_ ≠ (.slice Ao13 t309.length co13 : Value).ownBlock)) (by (with_reducible repeat (first | apply Kd.R_alloc | apply Kd.R_drewN | apply Kd.R_drew)); exact Kd.R_mono HO_9.out (fun _ hk => ⟨hk.2, hk.1⟩)) hg hat); have n2_ := Aside0.mk (blk_grown (g := gb305) (o := .cells #[.int .i64 a0_0, .int .i64 a0_1, .int .i64 a0_2, .int .i64 a0_3, .int .i64 a0_4] 55 (0, 0)) (by (with_reducible repeat (first | refine blk_drewN ?_ _ | refine blk_drew ?_ | refine blk_alloc ?_ _)); exact BK305.out) hg (Kd.R_ne HO_7.out BK305.out (by decide))); have n3_ := Aside0.mk (hb); have n4_ := Aside0.mk (ho); clear HO_8; clear HO_9; clear BK305; clear HB; clear HO_7; have HO_8 := n0_; have HO_9 := n1_; have BK305 := n2_; have HB := n3_; have HO323 := n4_; clear n0_ n1_ n2_ n3_ n4_; clear ho hb hg hat; obtain ⟨Ao46, co46, eo46⟩ := Kd.R_slice HO323.out; subst eo46; have q45 : ((ji38) : Int) ≤ ((y321.length : Int) : Int) := of_decide_eq_true (by first | (with_reducible assumption) | assumption); obtain ⟨i045, hi045, _, hsz45, _⟩ := info_parts info62; have hroom45 : y321.length ≤ co46 := (Kd.R_reads' HO323.out).2.1; have hC45 : Kd.C k62 _ Ao46 y321.length y321 := (Kd.R_reads' HO323.out).2.2; have hcut45 := cut_to (P := Tryd.prog) 60 62 .i64 Tryd.underlying60 hi045 Ao46 y321.length co46 (ji38) (of_decide_eq_true (by first | (with_reducible assumption) | assumption)) q45 hroom45; have hr45 := Kd.C_take (m := ((ji38) : Int).toNat) hC45 (by omega); have hy45 : y324.length = ((ji38) : Int).toNat := (by rw [Ny324.out, List.length_take]; omega); rw [← Ny324.out] at hr45; rw [← hy45] at hcut45; have HR327 := Aside0.mk hr45; have HC327 := Aside0.mk (show y324.length ≤ co46 from by omega); clear hr45 hC45 hroom45 hi045 hsz45; have KY45 := Aside0.mk hy45; clear hy45; have KL45 := Aside0.mk (show ((ji38) : Int).toNat ≤ y321.length from by omega); replace q45 := eq_true q45; obtain ⟨Ao47, co47, eo47⟩ := Kd.R_slice HO_9.out; subst eo47) | (go_at_call 45; (with_reducible refine (tributaryref2_Same.calls kj6 _ _ t312 _ _ y324 t328 _ ?side1 ?side2 ?side3 ?side4 A41.out).mono ?_); (case side1 => repeat (first | exact (Kd.R_reads' HO_9.out).2.2 | (with_reducible refine Kd.C_alloc ?_ _) | (with_reducible refine Kd.C_drewN ?_ _) | (with_reducible refine Kd.C_drew ?_))); (case side2 => exact (Kd.R_reads' HO_9.out).2.1); (case side3 => repeat (first | exact (by repeat (first | (with_reducible exact HR327.out) | (with_reducible refine Kd.C_alloc ?_ _) | (with_reducible refine Kd.C_drewN ?_ _) | (with_reducible refine Kd.C_drew ?_) | exact HR327.out)) | (with_reducible refine Kd.C_alloc ?_ _) | (with_reducible refine Kd.C_drewN ?_ _) | (with_reducible refine Kd.C_drew ?_))); (case side4 => exact HC327.out); rintro e w' ⟨rfl, ⟨nd, rfl⟩⟩; (try first | exact ⟨rfl, _, World.drewN_drewN _ _ _⟩ | exact ⟨rfl, _, Eq.trans (World.drewN_drewN _ _ _) (congrArg (World.drewN _) (Nat.add_assoc _ _ _))⟩))); try go_wp2_with (first | (go_at_call 35; (with_reducible refine (tributarylaw3_told.calls  true _ ?side1 A35.out).mono ?_); (case side1 => exact Laid.below HLD.out (by repeat (first | (with_reducible first | exact HB.out | apply below_alloc | apply pw_below_drewN | apply below_drew1 | refine below_set ?_ GE305.out) | exact HB.out)) (Nat.le_refl _)); rintro e w43 ⟨rfl, hb⟩; have n0_ := Aside0.mk (Kd.R_below (by (with_reducible repeat (first | apply Kd.R_alloc | apply Kd.R_drewN | apply Kd.R_drew)); exact HO_7.out) hb); have n1_ := Aside0.mk (Kd.R_below (by (with_reducible repeat (first | apply Kd.R_alloc | apply Kd.R_drewN | apply Kd.R_drew)); exact HO_8.out) hb); have n2_ := Aside0.mk (Kd.R_below (by (with_reducible repeat (first | apply Kd.R_alloc | apply Kd.R_drewN | apply Kd.R_drew)); exact HO_9.out) hb); have n3_ := Aside0.mk (blk_below (g := gb305) (o := .cells #[.int .i64 a0_0, .int .i64 a0_1, .int .i64 a0_2, .int .i64 a0_3, .int .i64 a0_4] 55 (0, 0)) (by (with_reducible repeat (first | refine blk_drewN ?_ _ | refine blk_drew ?_ | refine blk_alloc ?_ _)); exact BK305.out) hb); have n4_ := Aside0.mk (below_step (by repeat (first | (with_reducible first | exact HB.out | apply below_alloc | apply pw_below_drewN | apply below_drew1 | refine below_set ?_ GE305.out) | exact HB.out)) hb); clear HO_7; clear HO_8; clear HO_9; clear BK305; clear HB; have HO_7 := n0_; have HO_8 := n1_; have HO_9 := n2_; have BK305 := n3_; have HB := n4_; clear n0_ n1_ n2_ n3_ n4_; (try clear hb); (try clear hb2); (try clear hk); (try clear hi)) | ((with_reducible refine gate_builtin (b := .append) (xs := #[.tmp 54, .tmp 55]) rfl ?_); (try (refine gate_guard (by rfl) ?_; dsimp only)); at_builtin; refine Kd.R_append_rows k62 (w0 := w) w.heap.size rfl (.tmp 54) (.tmp 55) 60 62 (.agg #[(.int .i64 0), (.int .i64 0)]) 16 rfl Tryd.underlying60 info62 rfl (by decide) (by omega) (.slice Ao12 t306.length co12) t306 t309 _ _ _ (fun k_ => some k_ ≠ (.slice Ao13 t309.length co13 : Value).ownBlock ∧ some k_ ≠ (v313 : Value).ownBlock) (fun _ => False) rfl rfl ?aO ?aR (fun _ _ h => h) (fun _ h => h.elim) ?aF ?aB ?aS ?aL ?_; (case aR => repeat (first | exact (Kd.R_reads' HO_8.out).2.2 | (with_reducible refine Kd.C_alloc ?_ _) | (with_reducible refine Kd.C_drewN ?_ _) | (with_reducible refine Kd.C_drew ?_))); (case aB => exact (by repeat (first | (with_reducible first | exact HB.out | apply below_alloc | apply pw_below_drewN | apply below_drew1 | refine below_set ?_ GE305.out) | exact HB.out))); (case aF => exact (fun k_ hk => ⟨Kd.fresh' (Kd.R_lt (by (with_reducible repeat (first | apply Kd.R_alloc | apply Kd.R_drewN | apply Kd.R_drew)); exact HO_8.out)) k_ hk, Kd.fresh' (Kd.R_lt (by (with_reducible repeat (first | apply Kd.R_alloc | apply Kd.R_drewN | apply Kd.R_drew)); exact HO_9.out)) k_ hk⟩)); (case aO => exact (by (with_reducible repeat (first | apply Kd.R_alloc | apply Kd.R_drewN | apply Kd.R_drew)); exact HO_7.out)); (case aS => exact (below_size (by repeat (first | (with_reducible first | exact HB.out | apply below_alloc | apply pw_below_drewN | apply below_drew1 | refine below_set ?_ GE305.out) | exact HB.out)))); (case aL => have := LMc37.out; omega); intro v322 w44 ho hb hg hat; rw [← Ny321.out] at ho; have n0_ := Aside0.mk (Kd.R_after (ok := (fun k_ => some k_ ≠ (v313 : Value).ownBlock)) (by (with_reducible repeat (first | apply Kd.R_alloc | apply Kd.R_drewN | apply Kd.R_drew)); exact Kd.R_mono HO_8.out (fun _ hk => ⟨hk.2, hk.1⟩)) hg hat); have n1_ := Aside0.mk (Kd.R_after (ok := (fun k_ => some k_ ≠ (.slice Ao13 t309.length co13 : Value).ownBlock)) (by (with_reducible repeat (first | apply Kd.R_alloc | apply Kd.R_drewN | apply Kd.R_drew)); exact Kd.R_mono HO_9.out (fun _ hk => ⟨hk.2, hk.1⟩)) hg hat); have n2_ := Aside0.mk (blk_grown (g := gb305) (o := .cells #[.int .i64 a0_0, .int .i64 a0_1, .int .i64 a0_2, .int .i64 a0_3, .int .i64 a0_4] 55 (0, 0)) (by (with_reducible repeat (first | refine blk_drewN ?_ _ | refine blk_drew ?_ | refine blk_alloc ?_ _)); exact BK305.out) hg (Kd.R_ne HO_7.out BK305.out (by decide))); have n3_ := Aside0.mk (hb); have n4_ := Aside0.mk (ho); clear HO_8; clear HO_9; clear BK305; clear HB; clear HO_7; have HO_8 := n0_; have HO_9 := n1_; have BK305 := n2_; have HB := n3_; have HO323 := n4_; clear n0_ n1_ n2_ n3_ n4_; clear ho hb hg hat; obtain ⟨Ao46, co46, eo46⟩ := Kd.R_slice HO323.out; subst eo46; have q45 : ((ji38) : Int) ≤ ((y321.length : Int) : Int) := of_decide_eq_true (by first | (with_reducible assumption) | assumption); obtain ⟨i045, hi045, _, hsz45, _⟩ := info_parts info62; have hroom45 : y321.length ≤ co46 := (Kd.R_reads' HO323.out).2.1; have hC45 : Kd.C k62 _ Ao46 y321.length y321 := (Kd.R_reads' HO323.out).2.2; have hcut45 := cut_to (P := Tryd.prog) 60 62 .i64 Tryd.underlying60 hi045 Ao46 y321.length co46 (ji38) (of_decide_eq_true (by first | (with_reducible assumption) | assumption)) q45 hroom45; have hr45 := Kd.C_take (m := ((ji38) : Int).toNat) hC45 (by omega); have hy45 : y324.length = ((ji38) : Int).toNat := (by rw [Ny324.out, List.length_take]; omega); rw [← Ny324.out] at hr45; rw [← hy45] at hcut45; have HR327 := Aside0.mk hr45; have HC327 := Aside0.mk (show y324.length ≤ co46 from by omega); clear hr45 hC45 hroom45 hi045 hsz45; have KY45 := Aside0.mk hy45; clear hy45; have KL45 := Aside0.mk (show ((ji38) : Int).toNat ≤ y321.length from by omega); replace q45 := eq_true q45; obtain ⟨Ao47, co47, eo47⟩ := Kd.R_slice HO_9.out; subst eo47) | (go_at_call 45; (with_reducible refine (tributaryref2_Same.calls kj6 _ _ t312 _ _ y324 t328 _ ?side1 ?side2 ?side3 ?side4 A41.out).mono ?_); (case side1 => repeat (first | exact (Kd.R_reads' HO_9.out).2.2 | (with_reducible refine Kd.C_alloc ?_ _) | (with_reducible refine Kd.C_drewN ?_ _) | (with_reducible refine Kd.C_drew ?_))); (case side2 => exact (Kd.R_reads' HO_9.out).2.1); (case side3 => repeat (first | exact (by repeat (first | (with_reducible exact HR327.out) | (with_reducible refine Kd.C_alloc ?_ _) | (with_reducible refine Kd.C_drewN ?_ _) | (with_reducible refine Kd.C_drew ?_) | exact HR327.out)) | (with_reducible refine Kd.C_alloc ?_ _) | (with_reducible refine Kd.C_drewN ?_ _) | (with_reducible refine Kd.C_drew ?_))); (case side4 => exact HC327.out); rintro e w' ⟨rfl, ⟨nd, rfl⟩⟩; (try first | exact ⟨rfl, _, World.drewN_drewN _ _ _⟩ | exact ⟨rfl, _, Eq.trans (World.drewN_drewN _ _ _) (congrArg (World.drewN _) (Nat.add_assoc _ _ _))⟩))))
                    go_ret
                    exact ⟨by first | rfl | (simp [errW_none, errW_some] <;> rfl) | (simp only [← hji38]; first | rfl | (simp [errW_none, errW_some] <;> rfl)) | (simp [*, errW_none, errW_some] <;> rfl), by repeat (first | (with_reducible first | exact HB.out | apply below_alloc | apply pw_below_drewN | apply below_drew1 | refine below_set ?_ GE305.out) | exact HB.out)⟩
                  · rw [if_neg c40] at H
                    exact absurd H (by simp)
                · rw [if_neg c39] at H
                  exact absurd H (by simp)
              · rw [if_neg c37] at H
                exact absurd H (by simp)
            · replace c36 := Bool.eq_false_iff.mpr c36
              subst c36
              have H1 : (none) = some r := by rw [if_neg (show ¬ (false = true) by decide)] at H; exact H
              clear H
              have H := H1
              clear H1
              exact absurd H (by simp)
          · rw [if_neg c34] at H
            have c34b0 : (a0_0 == 5) = false := beq_eq_false_iff_ne.mpr c34
            have c34b1 : (a0_0 != 5) = true := bne_iff_ne.mpr c34
            by_cases c48 : a0_0 = 4
            · rw [if_pos c48] at H
              have c48b0 : (a0_0 == 4) = true := beq_iff_eq.mpr c48
              have c48b1 : (a0_0 != 4) = false := bne_eq_false_iff_eq.mpr c48
              clear c48
              have H' := Aside0.mk H
              clear H
              have hcz49_0 : wc.cell? ⟨gb305, 0, none⟩ = some (.int .i64 a0_0) := (blk_cell BK305.out 0).trans rfl
              have hcz49_1 : wc.cell? ⟨gb305, 1, none⟩ = some (.int .i64 a0_1) := (blk_cell BK305.out 1).trans rfl
              have hcz49_2 : wc.cell? ⟨gb305, 2, none⟩ = some (.int .i64 a0_2) := (blk_cell BK305.out 2).trans rfl
              have hcz49_3 : wc.cell? ⟨gb305, 3, none⟩ = some (.int .i64 a0_3) := (blk_cell BK305.out 3).trans rfl
              have hcz49_4 : wc.cell? ⟨gb305, 4, none⟩ = some (.int .i64 a0_4) := (blk_cell BK305.out 4).trans rfl
              have hfz49_0 := blk_frozen BK305.out 0
              have hfz49_1 := blk_frozen BK305.out 1
              have hfz49_2 := blk_frozen BK305.out 2
              have hfz49_3 := blk_frozen BK305.out 3
              have hfz49_4 := blk_frozen BK305.out 4
              go_wp2
              repeat (go_quiet (fail); try go_wp2)
              go_loopg [10] kj6 (fun kq v10 w' => ∃ (x10_2 : Int), v10 = .int .i64 x10_2 ∧ Aside0 (tributarylaw3_OpsShapes.l0 kq t306 t312 x10_2 a0_0 a0_1 a0_2 a0_3 a0_4 = some r) ∧ Aside0 (kq ≤ kj6) ∧ Aside0 (Kd.R k62 62 w' w.heap.size (fun k_ => some k_ ≠ (v313 : Value).ownBlock) (.slice Ao12 t306.length co12) t306) ∧ Aside0 (Kd.R k62 62 w' w.heap.size (fun k_ => some k_ ≠ ((.slice Ao12 t306.length co12) : Value).ownBlock) v313 t312) ∧ Aside0 (w'.heap[gb305]? = some (.cells #[.int .i64 a0_0, .int .i64 a0_1, .int .i64 a0_2, .int .i64 a0_3, .int .i64 a0_4] 55 (0, 0))) ∧ Aside0 (Below w.heap.size w w'))
              case atStart => exact ⟨(0), (by first | rfl | (simp; done) | (simp [*]; done)), H', ⟨Nat.le_refl _⟩, ⟨by (with_reducible repeat (first | apply Kd.R_alloc | apply Kd.R_drewN | apply Kd.R_drew)); exact Kd.R_mono HO_7.out (fun _ hk => hk.2)⟩, ⟨by (with_reducible repeat (first | apply Kd.R_alloc | apply Kd.R_drewN | apply Kd.R_drew)); exact Kd.R_mono HO_9.out (fun _ hk => hk.1)⟩, ⟨by (with_reducible repeat (first | refine blk_drewN ?_ _ | refine blk_drew ?_ | refine blk_alloc ?_ _)); exact BK305.out⟩, ⟨by repeat (first | (with_reducible first | exact HB.out | apply below_alloc | apply pw_below_drewN | apply below_drew1 | refine below_set ?_ GE305.out) | exact HB.out)⟩⟩
              case round =>
                clear H'
                try clear c1
                try clear c2
                try clear p2
                try clear c3
                try clear q3
                try clear c4
                try clear q4
                try clear p6
                try clear c10
                try clear c22
                try clear c24
                try clear c27
                try clear c27b0
                try clear c27b1
                try clear c29
                try clear q31
                try clear c34
                try clear c34b0
                try clear c34b1
                try clear c36
                try clear c37
                try clear c39
                try clear c39b0
                try clear c39b1
                try clear c40
                try clear c40b0
                try clear c40b1
                try clear q45
                try clear c48
                try clear c48b0
                try clear c48b1
                try clear hcz11_0
                try clear hcz11_1
                try clear hcz11_2
                try clear hcz11_3
                try clear hcz11_4
                try clear hcz17_0
                try clear hcz17_1
                try clear hcz17_2
                try clear hcz17_3
                try clear hcz17_4
                try clear hcz19_0
                try clear hcz19_1
                try clear hcz19_2
                try clear hcz19_3
                try clear hcz19_4
                try clear hcz20_0
                try clear hcz20_1
                try clear hcz20_2
                try clear hcz20_3
                try clear hcz20_4
                try clear hcz31_0
                try clear hcz31_1
                try clear hcz31_2
                try clear hcz31_3
                try clear hcz31_4
                try clear hcz42_0
                try clear hcz42_1
                try clear hcz42_2
                try clear hcz42_3
                try clear hcz42_4
                try clear hcz49_0
                try clear hcz49_1
                try clear hcz49_2
                try clear hcz49_3
                try clear hcz49_4
                try clear hfz11_0
                try clear hfz11_1
                try clear hfz11_2
                try clear hfz11_3
                try clear hfz11_4
                try clear hfz17_0
                try clear hfz17_1
                try clear hfz17_2
                try clear hfz17_3
                try clear hfz17_4
                try clear hfz19_0
                try clear hfz19_1
                try clear hfz19_2
                try clear hfz19_3
                try clear hfz19_4
                try clear hfz20_0
                try clear hfz20_1
                try clear hfz20_2
                try clear hfz20_3
                try clear hfz20_4
                try clear hfz31_0
                try clear hfz31_1
                try clear hfz31_2
                try clear hfz31_3
                try clear hfz31_4
                try clear hfz42_0
                try clear hfz42_1
                try clear hfz42_2
                try clear hfz42_3
                try clear hfz42_4
                try clear hfz49_0
                try clear hfz49_1
                try clear hfz49_2
                try clear hfz49_3
                try clear hfz49_4
                try clear p2
                try clear q3
                try clear q316
                try clear q45
                obtain ⟨x10_2, rfl, HA, HK2, HO_7, HO_9, BK305, HB⟩ := hrel
                cases gk with
                | zero => exact absurd HA.out (by simp [tributarylaw3_OpsShapes.l0])
                | succ k2 =>
                  have H := HA.out
                  clear HA
                  simp only [tributarylaw3_OpsShapes.l0] at H
                  by_cases c50 : x10_2 < (t312.length : Int)
                  · rw [if_pos c50] at H
                    have c50b0 : decide (x10_2 < (t312.length : Int)) = true := decide_eq_true c50
                    clear c50
                    by_cases c51 : 0 ≤ x10_2
                    · rw [if_pos c51] at H
                      have c51b0 : decide (0 ≤ x10_2) = true := decide_eq_true c51
                      clear c51
                      by_cases c52 : a0_3 = 0
                      · rw [if_pos c52] at H
                        exact absurd H (by simp)
                      · rw [if_neg c52] at H
                        have c52b0 : (a0_3 == 0) = false := beq_eq_false_iff_ne.mpr c52
                        have c52b1 : (a0_3 != 0) = true := bne_iff_ne.mpr c52
                        obtain ⟨ji53, hji53⟩ : ∃ j_ : Int, (wrap64 (Int.tdiv x10_2 a0_3)) = j_ := ⟨_, rfl⟩
                        replace H : (if 0 ≤ (ji53) then (if (ji53) < (t306.length : Int) then (if ((rd_T62 t312 x10_2).f0) = ((rd_T62 t306 (ji53)).f0) then (if (Int.tmod x10_2 a0_3) = 0 then (if (!(((rd_T62 t312 x10_2).f0) == ((rd_T62 t306 (ji53)).f0)) || (!(((rd_T62 t312 x10_2).f1) == ((rd_T62 t306 (ji53)).f1)))) = true then (none) else (tributarylaw3_OpsShapes.l0 k2 t306 t312 (wrap64 (x10_2 + 1)) a0_0 a0_1 a0_2 a0_3 a0_4)) else (tributarylaw3_OpsShapes.l0 k2 t306 t312 (wrap64 (x10_2 + 1)) a0_0 a0_1 a0_2 a0_3 a0_4)) else (none)) else (none)) else (none)) = some r := by first | (rw [hji53] at H; exact H) | (simp only [hji53] at H ⊢; exact H)
                        have hji53w : (IntKind.i64.wrap (Int.tdiv x10_2 a0_3)) = ji53 := (i64_w _).trans hji53
                        by_cases c54 : 0 ≤ (ji53)
                        · rw [if_pos c54] at H
                          have c54b0 : decide (0 ≤ (ji53)) = true := decide_eq_true c54
                          clear c54
                          by_cases c55 : (ji53) < (t306.length : Int)
                          · rw [if_pos c55] at H
                            have c55b0 : decide ((ji53) < (t306.length : Int)) = true := decide_eq_true c55
                            clear c55
                            by_cases c56 : ((rd_T62 t312 x10_2).f0) = ((rd_T62 t306 (ji53)).f0)
                            · rw [if_pos c56] at H
                              have c56b0 : (((rd_T62 t312 x10_2).f0) == ((rd_T62 t306 (ji53)).f0)) = true := beq_iff_eq.mpr c56
                              have c56b1 : (((rd_T62 t312 x10_2).f0) != ((rd_T62 t306 (ji53)).f0)) = false := bne_eq_false_iff_eq.mpr c56
                              clear c56
                              by_cases c57 : (Int.tmod x10_2 a0_3) = 0
                              · rw [if_pos c57] at H
                                have c57b0 : ((Int.tmod x10_2 a0_3) == 0) = true := beq_iff_eq.mpr c57
                                have c57b1 : ((Int.tmod x10_2 a0_3) != 0) = false := bne_eq_false_iff_eq.mpr c57
                                clear c57
                                by_cases c58 : (!(((rd_T62 t312 x10_2).f0) == ((rd_T62 t306 (ji53)).f0)) || (!(((rd_T62 t312 x10_2).f1) == ((rd_T62 t306 (ji53)).f1)))) = true
                                · rw [if_pos c58] at H
                                  exact absurd H (by simp)
                                · rw [if_neg c58] at H
                                  have c58b0 : (!(((rd_T62 t312 x10_2).f0) == ((rd_T62 t306 (ji53)).f0)) || (!(((rd_T62 t312 x10_2).f1) == ((rd_T62 t306 (ji53)).f1)))) = false := by simpa using c58
                                  have c58b9 := c58b0; simp only [c56b0, Bool.not_true, Bool.false_or, Bool.not_eq_true', Bool.not_eq_false'] at c58b9
                                  clear c58
                                  have H' := Aside0.mk H
                                  clear H
                                  obtain ⟨Ao59, co59, eo59⟩ := Kd.R_slice HO_9.out
                                  subst eo59
                                  have p329 : 0 ≤ (x10_2 : Int) := of_decide_eq_true (by first | (with_reducible assumption) | assumption)
                                  have q329 : x10_2 < (t312.length : Int) := of_decide_eq_true (by first | (with_reducible assumption) | assumption)
                                  obtain ⟨ad329, e329, hx329_0, hx329_1⟩ := at_T62 (Kd.R_reads' HO_9.out).2.2 x10_2 p329 q329
                                  cases e329
                                  replace p329 := eq_true p329
                                  replace q329 := eq_true q329
                                  have hcz60_0 : wr.cell? ⟨gb305, 0, none⟩ = some (.int .i64 a0_0) := (blk_cell BK305.out 0).trans rfl
                                  have hcz60_1 : wr.cell? ⟨gb305, 1, none⟩ = some (.int .i64 a0_1) := (blk_cell BK305.out 1).trans rfl
                                  have hcz60_2 : wr.cell? ⟨gb305, 2, none⟩ = some (.int .i64 a0_2) := (blk_cell BK305.out 2).trans rfl
                                  have hcz60_3 : wr.cell? ⟨gb305, 3, none⟩ = some (.int .i64 a0_3) := (blk_cell BK305.out 3).trans rfl
                                  have hcz60_4 : wr.cell? ⟨gb305, 4, none⟩ = some (.int .i64 a0_4) := (blk_cell BK305.out 4).trans rfl
                                  have hfz60_0 := blk_frozen BK305.out 0
                                  have hfz60_1 := blk_frozen BK305.out 1
                                  have hfz60_2 := blk_frozen BK305.out 2
                                  have hfz60_3 := blk_frozen BK305.out 3
                                  have hfz60_4 := blk_frozen BK305.out 4
                                  have p330 : 0 ≤ ((ji53) : Int) := of_decide_eq_true (by first | (with_reducible assumption) | assumption)
                                  have q330 : (ji53) < (t306.length : Int) := of_decide_eq_true (by first | (with_reducible assumption) | assumption)
                                  obtain ⟨ad330, e330, hx330_0, hx330_1⟩ := at_T62 (Kd.R_reads' HO_7.out).2.2 (ji53) p330 q330
                                  cases e330
                                  replace p330 := eq_true p330
                                  replace q330 := eq_true q330
                                  have p331 : 0 ≤ (x10_2 : Int) := of_decide_eq_true (by first | (with_reducible assumption) | assumption)
                                  have q331 : x10_2 < (t312.length : Int) := of_decide_eq_true (by first | (with_reducible assumption) | assumption)
                                  obtain ⟨ad331, e331, hx331_0, hx331_1⟩ := at_T62 (Kd.R_reads' HO_9.out).2.2 x10_2 p331 q331
                                  obtain rfl : ad329 = ad331 := (by injection e331)
                                  replace p331 := eq_true p331
                                  replace q331 := eq_true q331
                                  have p332 : 0 ≤ ((ji53) : Int) := of_decide_eq_true (by first | (with_reducible assumption) | assumption)
                                  have q332 : (ji53) < (t306.length : Int) := of_decide_eq_true (by first | (with_reducible assumption) | assumption)
                                  obtain ⟨ad332, e332, hx332_0, hx332_1⟩ := at_T62 (Kd.R_reads' HO_7.out).2.2 (ji53) p332 q332
                                  obtain rfl : ad330 = ad332 := (by injection e332)
                                  replace p332 := eq_true p332
                                  replace q332 := eq_true q332
                                  go_wp2
                                  repeat (go_quiet (fail); try go_wp2)
                                  go_roundg k2
                                  case measure => have := HJ6.out; have := HK2.out; omega
                                  case rel => exact ⟨(wrap64 (x10_2 + 1)), (by first | rfl | (simp; done) | (simp [*]; done)), H', ⟨by have := HJ6.out; have := HK2.out; omega⟩, ⟨by (with_reducible repeat (first | apply Kd.R_alloc | apply Kd.R_drewN | apply Kd.R_drew)); exact HO_7.out⟩, ⟨by (with_reducible repeat (first | apply Kd.R_alloc | apply Kd.R_drewN | apply Kd.R_drew)); exact HO_9.out⟩, ⟨by (with_reducible repeat (first | refine blk_drewN ?_ _ | refine blk_drew ?_ | refine blk_alloc ?_ _)); exact BK305.out⟩, ⟨by repeat (first | (with_reducible first | exact HB.out | apply below_alloc | apply pw_below_drewN | apply below_drew1 | refine below_set ?_ GE305.out) | exact HB.out)⟩⟩
                              · rw [if_neg c57] at H
                                have c57b0 : ((Int.tmod x10_2 a0_3) == 0) = false := beq_eq_false_iff_ne.mpr c57
                                have c57b1 : ((Int.tmod x10_2 a0_3) != 0) = true := bne_iff_ne.mpr c57
                                have H' := Aside0.mk H
                                clear H
                                obtain ⟨Ao61, co61, eo61⟩ := Kd.R_slice HO_9.out
                                subst eo61
                                have p329 : 0 ≤ (x10_2 : Int) := of_decide_eq_true (by first | (with_reducible assumption) | assumption)
                                have q329 : x10_2 < (t312.length : Int) := of_decide_eq_true (by first | (with_reducible assumption) | assumption)
                                obtain ⟨ad329, e329, hx329_0, hx329_1⟩ := at_T62 (Kd.R_reads' HO_9.out).2.2 x10_2 p329 q329
                                cases e329
                                replace p329 := eq_true p329
                                replace q329 := eq_true q329
                                have hcz62_0 : wr.cell? ⟨gb305, 0, none⟩ = some (.int .i64 a0_0) := (blk_cell BK305.out 0).trans rfl
                                have hcz62_1 : wr.cell? ⟨gb305, 1, none⟩ = some (.int .i64 a0_1) := (blk_cell BK305.out 1).trans rfl
                                have hcz62_2 : wr.cell? ⟨gb305, 2, none⟩ = some (.int .i64 a0_2) := (blk_cell BK305.out 2).trans rfl
                                have hcz62_3 : wr.cell? ⟨gb305, 3, none⟩ = some (.int .i64 a0_3) := (blk_cell BK305.out 3).trans rfl
                                have hcz62_4 : wr.cell? ⟨gb305, 4, none⟩ = some (.int .i64 a0_4) := (blk_cell BK305.out 4).trans rfl
                                have hfz62_0 := blk_frozen BK305.out 0
                                have hfz62_1 := blk_frozen BK305.out 1
                                have hfz62_2 := blk_frozen BK305.out 2
                                have hfz62_3 := blk_frozen BK305.out 3
                                have hfz62_4 := blk_frozen BK305.out 4
                                have p330 : 0 ≤ ((ji53) : Int) := of_decide_eq_true (by first | (with_reducible assumption) | assumption)
                                have q330 : (ji53) < (t306.length : Int) := of_decide_eq_true (by first | (with_reducible assumption) | assumption)
                                obtain ⟨ad330, e330, hx330_0, hx330_1⟩ := at_T62 (Kd.R_reads' HO_7.out).2.2 (ji53) p330 q330
                                cases e330
                                replace p330 := eq_true p330
                                replace q330 := eq_true q330
                                go_wp2
                                repeat (go_quiet (fail); try go_wp2)
                                go_roundg k2
                                case measure => have := HJ6.out; have := HK2.out; omega
                                case rel => exact ⟨(wrap64 (x10_2 + 1)), (by first | rfl | (simp; done) | (simp [*]; done)), H', ⟨by have := HJ6.out; have := HK2.out; omega⟩, ⟨by (with_reducible repeat (first | apply Kd.R_alloc | apply Kd.R_drewN | apply Kd.R_drew)); exact HO_7.out⟩, ⟨by (with_reducible repeat (first | apply Kd.R_alloc | apply Kd.R_drewN | apply Kd.R_drew)); exact HO_9.out⟩, ⟨by (with_reducible repeat (first | refine blk_drewN ?_ _ | refine blk_drew ?_ | refine blk_alloc ?_ _)); exact BK305.out⟩, ⟨by repeat (first | (with_reducible first | exact HB.out | apply below_alloc | apply pw_below_drewN | apply below_drew1 | refine below_set ?_ GE305.out) | exact HB.out)⟩⟩
                            · rw [if_neg c56] at H
                              exact absurd H (by simp)
                          · rw [if_neg c55] at H
                            exact absurd H (by simp)
                        · rw [if_neg c54] at H
                          exact absurd H (by simp)
                    · rw [if_neg c51] at H
                      exact absurd H (by simp)
                  · rw [if_neg c50] at H
                    have c50b0 : decide (x10_2 < (t312.length : Int)) = false := decide_eq_false c50
                    clear c50
                    replace H := Option.bind_eq_some_iff.mp H
                    obtain ⟨t333, A630, H⟩ := H
                    replace H : (if t333 = true then (some ((t312.length : Int) == (mn (wrap64 (a0_3 * (t306.length : Int))) 64))) else (none)) = some r := H
                    have A63 := Aside0.mk A630
                    clear A630
                    by_cases c64 : t333 = true
                    · subst c64
                      have H1 : (some ((t312.length : Int) == (mn (wrap64 (a0_3 * (t306.length : Int))) 64))) = some r := by rw [if_pos rfl] at H; exact H
                      clear H
                      have H := H1
                      clear H1
                      obtain ⟨ji65, hji65⟩ : ∃ j_ : Int, (mn (wrap64 (a0_3 * (t306.length : Int))) 64) = j_ := ⟨_, rfl⟩
                      replace H : (some ((t312.length : Int) == (ji65))) = some r := by first | (rw [hji65] at H; exact H) | (simp only [hji65] at H ⊢; exact H)
                      (try rw [hji65] at A63)
                      have hji65_ : (if 64 < (wrap64 (a0_3 * (t306.length : Int))) then 64 else (wrap64 (a0_3 * (t306.length : Int)))) = ji65 := hji65
                      obtain rfl := Option.some.inj H
                      obtain ⟨Ao66, co66, eo66⟩ := Kd.R_slice HO_9.out
                      subst eo66
                      go_wp2_with (first | (go_at_call 35; (with_reducible refine (tributarylaw3_told.calls  true _ ?side1 A63.out).mono ?_); (case side1 => exact Laid.below HLD.out (by repeat (first | (with_reducible first | exact HB.out | apply below_alloc | apply pw_below_drewN | apply below_drew1 | refine below_set ?_ GE305.out) | exact HB.out)) (Nat.le_refl _)); rintro e w67 ⟨rfl, hb⟩; have n0_ := Aside0.mk (Kd.R_below (by (with_reducible repeat (first | apply Kd.R_alloc | apply Kd.R_drewN | apply Kd.R_drew)); exact HO_7.out) hb); have n1_ := Aside0.mk (Kd.R_below (by (with_reducible repeat (first | apply Kd.R_alloc | apply Kd.R_drewN | apply Kd.R_drew)); exact HO_9.out) hb); have n2_ := Aside0.mk (blk_below (g := gb305) (o := .cells #[.int .i64 a0_0, .int .i64 a0_1, .int .i64 a0_2, .int .i64 a0_3, .int .i64 a0_4] 55 (0, 0)) (by (with_reducible repeat (first | refine blk_drewN ?_ _ | refine blk_drew ?_ | refine blk_alloc ?_ _)); exact BK305.out) hb); have n3_ := Aside0.mk (below_step (by repeat (first | (with_reducible first | exact HB.out | apply below_alloc | apply pw_below_drewN | apply below_drew1 | refine below_set ?_ GE305.out) | exact HB.out)) hb); clear HO_7; clear HO_9; clear BK305; clear HB; have HO_7 := n0_; have HO_9 := n1_; have BK305 := n2_; have HB := n3_; clear n0_ n1_ n2_ n3_; (try clear hb); (try clear hb2); (try clear hk); (try clear hi); have hcz68_0 : w67.cell? ⟨gb305, 0, none⟩ = some (.int .i64 a0_0) := (blk_cell BK305.out 0).trans rfl; have hcz68_1 : w67.cell? ⟨gb305, 1, none⟩ = some (.int .i64 a0_1) := (blk_cell BK305.out 1).trans rfl; have hcz68_2 : w67.cell? ⟨gb305, 2, none⟩ = some (.int .i64 a0_2) := (blk_cell BK305.out 2).trans rfl; have hcz68_3 : w67.cell? ⟨gb305, 3, none⟩ = some (.int .i64 a0_3) := (blk_cell BK305.out 3).trans rfl; have hcz68_4 : w67.cell? ⟨gb305, 4, none⟩ = some (.int .i64 a0_4) := (blk_cell BK305.out 4).trans rfl; have hfz68_0 := blk_frozen BK305.out 0; have hfz68_1 := blk_frozen BK305.out 1; have hfz68_2 := blk_frozen BK305.out 2; have hfz68_3 := blk_frozen BK305.out 3; have hfz68_4 := blk_frozen BK305.out 4))
                      repeat (go_quiet (first | (go_at_call 35; (with_reducible refine (tributarylaw3_told.calls  true _ ?side1 A63.out).mono ?_); (case side1 => exact Laid.below HLD.out (by repeat (first | (with_reducible first | exact HB.out | apply below_alloc | apply pw_below_drewN | apply below_drew1 | refine below_set ?_ GE305.out) | exact HB.out)) (Nat.le_refl _)); rintro e w67 ⟨rfl, hb⟩; have n0_ := Aside0.mk (Kd.R_below (by (with_reducible repeat (first | apply Kd.R_alloc | apply Kd.R_drewN | apply Kd.R_drew)); exact HO_7.out) hb); have n1_ := Aside0.mk (Kd.R_below (by (with_reducible repeat (first | apply Kd.R_alloc | apply Kd.R_drewN | apply Kd.R_drew)); exact HO_9.out) hb); have n2_ := Aside0.mk (blk_below (g := gb305) (o := .cells #[.int .i64 a0_0, .int .i64 a0_1, .int .i64 a0_2, .int .i64 a0_3, .int .i64 a0_4] 55 (0, 0)) (by (with_reducible repeat (first | refine blk_drewN ?_ _ | refine blk_drew ?_ | refine blk_alloc ?_ _)); exact BK305.out) hb); have n3_ := Aside0.mk (below_step (by repeat (first | (with_reducible first | exact HB.out | apply below_alloc | apply pw_below_drewN | apply below_drew1 | refine below_set ?_ GE305.out) | exact HB.out)) hb); clear HO_7; clear HO_9; clear BK305; clear HB; have HO_7 := n0_; have HO_9 := n1_; have BK305 := n2_; have HB := n3_; clear n0_ n1_ n2_ n3_; (try clear hb); (try clear hb2); (try clear hk); (try clear hi); have hcz68_0 : w67.cell? ⟨gb305, 0, none⟩ = some (.int .i64 a0_0) := (blk_cell BK305.out 0).trans rfl; have hcz68_1 : w67.cell? ⟨gb305, 1, none⟩ = some (.int .i64 a0_1) := (blk_cell BK305.out 1).trans rfl; have hcz68_2 : w67.cell? ⟨gb305, 2, none⟩ = some (.int .i64 a0_2) := (blk_cell BK305.out 2).trans rfl; have hcz68_3 : w67.cell? ⟨gb305, 3, none⟩ = some (.int .i64 a0_3) := (blk_cell BK305.out 3).trans rfl; have hcz68_4 : w67.cell? ⟨gb305, 4, none⟩ = some (.int .i64 a0_4) := (blk_cell BK305.out 4).trans rfl; have hfz68_0 := blk_frozen BK305.out 0; have hfz68_1 := blk_frozen BK305.out 1; have hfz68_2 := blk_frozen BK305.out 2; have hfz68_3 := blk_frozen BK305.out 3; have hfz68_4 := blk_frozen BK305.out 4)); try go_wp2_with (first | (go_at_call 35; (with_reducible refine (tributarylaw3_told.calls  true _ ?side1 A63.out).mono ?_); (case side1 => exact Laid.below HLD.out (by repeat (first | (with_reducible first | exact HB.out | apply below_alloc | apply pw_below_drewN | apply below_drew1 | refine below_set ?_ GE305.out) | exact HB.out)) (Nat.le_refl _)); rintro e w67 ⟨rfl, hb⟩; have n0_ := Aside0.mk (Kd.R_below (by (with_reducible repeat (first | apply Kd.R_alloc | apply Kd.R_drewN | apply Kd.R_drew)); exact HO_7.out) hb); have n1_ := Aside0.mk (Kd.R_below (by (with_reducible repeat (first | apply Kd.R_alloc | apply Kd.R_drewN | apply Kd.R_drew)); exact HO_9.out) hb); have n2_ := Aside0.mk (blk_below (g := gb305) (o := .cells #[.int .i64 a0_0, .int .i64 a0_1, .int .i64 a0_2, .int .i64 a0_3, .int .i64 a0_4] 55 (0, 0)) (by (with_reducible repeat (first | refine blk_drewN ?_ _ | refine blk_drew ?_ | refine blk_alloc ?_ _)); exact BK305.out) hb); have n3_ := Aside0.mk (below_step (by repeat (first | (with_reducible first | exact HB.out | apply below_alloc | apply pw_below_drewN | apply below_drew1 | refine below_set ?_ GE305.out) | exact HB.out)) hb); clear HO_7; clear HO_9; clear BK305; clear HB; have HO_7 := n0_; have HO_9 := n1_; have BK305 := n2_; have HB := n3_; clear n0_ n1_ n2_ n3_; (try clear hb); (try clear hb2); (try clear hk); (try clear hi); have hcz68_0 : w67.cell? ⟨gb305, 0, none⟩ = some (.int .i64 a0_0) := (blk_cell BK305.out 0).trans rfl; have hcz68_1 : w67.cell? ⟨gb305, 1, none⟩ = some (.int .i64 a0_1) := (blk_cell BK305.out 1).trans rfl; have hcz68_2 : w67.cell? ⟨gb305, 2, none⟩ = some (.int .i64 a0_2) := (blk_cell BK305.out 2).trans rfl; have hcz68_3 : w67.cell? ⟨gb305, 3, none⟩ = some (.int .i64 a0_3) := (blk_cell BK305.out 3).trans rfl; have hcz68_4 : w67.cell? ⟨gb305, 4, none⟩ = some (.int .i64 a0_4) := (blk_cell BK305.out 4).trans rfl; have hfz68_0 := blk_frozen BK305.out 0; have hfz68_1 := blk_frozen BK305.out 1; have hfz68_2 := blk_frozen BK305.out 2; have hfz68_3 := blk_frozen BK305.out 3; have hfz68_4 := blk_frozen BK305.out 4)))
                      go_ret
                      exact ⟨by first | rfl | (simp [errW_none, errW_some] <;> rfl) | (simp only [← hji65]; first | rfl | (simp [errW_none, errW_some] <;> rfl)) | (simp [*, errW_none, errW_some] <;> rfl), by repeat (first | (with_reducible first | exact HB.out | apply below_alloc | apply pw_below_drewN | apply below_drew1 | refine below_set ?_ GE305.out) | exact HB.out)⟩
                    · replace c64 := Bool.eq_false_iff.mpr c64
                      subst c64
                      have H1 : (none) = some r := by rw [if_neg (show ¬ (false = true) by decide)] at H; exact H
                      clear H
                      have H := H1
                      clear H1
                      exact absurd H (by simp)
            · rw [if_neg c48] at H
              have c48b0 : (a0_0 == 4) = false := beq_eq_false_iff_ne.mpr c48
              have c48b1 : (a0_0 != 4) = true := bne_iff_ne.mpr c48
              have H' := Aside0.mk H
              clear H
              have hcz69_0 : wc.cell? ⟨gb305, 0, none⟩ = some (.int .i64 a0_0) := (blk_cell BK305.out 0).trans rfl
              have hcz69_1 : wc.cell? ⟨gb305, 1, none⟩ = some (.int .i64 a0_1) := (blk_cell BK305.out 1).trans rfl
              have hcz69_2 : wc.cell? ⟨gb305, 2, none⟩ = some (.int .i64 a0_2) := (blk_cell BK305.out 2).trans rfl
              have hcz69_3 : wc.cell? ⟨gb305, 3, none⟩ = some (.int .i64 a0_3) := (blk_cell BK305.out 3).trans rfl
              have hcz69_4 : wc.cell? ⟨gb305, 4, none⟩ = some (.int .i64 a0_4) := (blk_cell BK305.out 4).trans rfl
              have hfz69_0 := blk_frozen BK305.out 0
              have hfz69_1 := blk_frozen BK305.out 1
              have hfz69_2 := blk_frozen BK305.out 2
              have hfz69_3 := blk_frozen BK305.out 3
              have hfz69_4 := blk_frozen BK305.out 4
              go_wp2
              repeat (go_quiet (fail); try go_wp2)
              go_loopg [11, 12] kj6 (fun kq v11 v12 w' => ∃ (x11_2 : Int) (x12_2 : Int), v11 = .int .i64 x11_2 ∧ v12 = .int .i64 x12_2 ∧ Aside0 (tributarylaw3_OpsShapes.l1 kq t306 t312 x11_2 x12_2 a0_0 a0_1 a0_2 a0_3 a0_4 = some r) ∧ Aside0 (kq ≤ kj6) ∧ Aside0 (Kd.R k62 62 w' w.heap.size (fun k_ => some k_ ≠ (v313 : Value).ownBlock) (.slice Ao12 t306.length co12) t306) ∧ Aside0 (Kd.R k62 62 w' w.heap.size (fun k_ => some k_ ≠ ((.slice Ao12 t306.length co12) : Value).ownBlock) v313 t312) ∧ Aside0 (w'.heap[gb305]? = some (.cells #[.int .i64 a0_0, .int .i64 a0_1, .int .i64 a0_2, .int .i64 a0_3, .int .i64 a0_4] 55 (0, 0))) ∧ Aside0 (Below w.heap.size w w'))
              case atStart => exact ⟨(0), (0), (by first | rfl | (simp; done) | (simp [*]; done)), (by first | rfl | (simp; done) | (simp [*]; done)), H', ⟨Nat.le_refl _⟩, ⟨by (with_reducible repeat (first | apply Kd.R_alloc | apply Kd.R_drewN | apply Kd.R_drew)); exact Kd.R_mono HO_7.out (fun _ hk => hk.2)⟩, ⟨by (with_reducible repeat (first | apply Kd.R_alloc | apply Kd.R_drewN | apply Kd.R_drew)); exact Kd.R_mono HO_9.out (fun _ hk => hk.1)⟩, ⟨by (with_reducible repeat (first | refine blk_drewN ?_ _ | refine blk_drew ?_ | refine blk_alloc ?_ _)); exact BK305.out⟩, ⟨by repeat (first | (with_reducible first | exact HB.out | apply below_alloc | apply pw_below_drewN | apply below_drew1 | refine below_set ?_ GE305.out) | exact HB.out)⟩⟩
              case round =>
                clear H'
                try clear c1
                try clear c2
                try clear p2
                try clear c3
                try clear p3
                try clear q3
                try clear hx3
                try clear c4
                try clear q4
                try clear c5
                try clear c6
                try clear p6
                try clear c10
                try clear c22
                try clear c24
                try clear c27
                try clear c27b0
                try clear c27b1
                try clear c29
                try clear q31
                try clear p32
                try clear q32
                try clear hx32
                try clear p33
                try clear q33
                try clear hx33
                try clear c34
                try clear c34b0
                try clear c34b1
                try clear c36
                try clear c37
                try clear c39
                try clear c39b0
                try clear c39b1
                try clear c40
                try clear c40b0
                try clear c40b1
                try clear q45
                try clear c48
                try clear c48b0
                try clear c48b1
                try clear c50
                try clear c50b0
                try clear c51
                try clear c51b0
                try clear c52
                try clear c52b0
                try clear c52b1
                try clear c54
                try clear c54b0
                try clear c55
                try clear c55b0
                try clear c56
                try clear c56b0
                try clear c56b1
                try clear c57
                try clear c57b0
                try clear c57b1
                try clear c58
                try clear c58b0
                try clear c64
                try clear p64
                try clear hcz11_0
                try clear hcz11_1
                try clear hcz11_2
                try clear hcz11_3
                try clear hcz11_4
                try clear hcz17_0
                try clear hcz17_1
                try clear hcz17_2
                try clear hcz17_3
                try clear hcz17_4
                try clear hcz19_0
                try clear hcz19_1
                try clear hcz19_2
                try clear hcz19_3
                try clear hcz19_4
                try clear hcz20_0
                try clear hcz20_1
                try clear hcz20_2
                try clear hcz20_3
                try clear hcz20_4
                try clear hcz31_0
                try clear hcz31_1
                try clear hcz31_2
                try clear hcz31_3
                try clear hcz31_4
                try clear hcz42_0
                try clear hcz42_1
                try clear hcz42_2
                try clear hcz42_3
                try clear hcz42_4
                try clear hcz49_0
                try clear hcz49_1
                try clear hcz49_2
                try clear hcz49_3
                try clear hcz49_4
                try clear hcz60_0
                try clear hcz60_1
                try clear hcz60_2
                try clear hcz60_3
                try clear hcz60_4
                try clear hcz62_0
                try clear hcz62_1
                try clear hcz62_2
                try clear hcz62_3
                try clear hcz62_4
                try clear hcz68_0
                try clear hcz68_1
                try clear hcz68_2
                try clear hcz68_3
                try clear hcz68_4
                try clear hcz69_0
                try clear hcz69_1
                try clear hcz69_2
                try clear hcz69_3
                try clear hcz69_4
                try clear hfz11_0
                try clear hfz11_1
                try clear hfz11_2
                try clear hfz11_3
                try clear hfz11_4
                try clear hfz17_0
                try clear hfz17_1
                try clear hfz17_2
                try clear hfz17_3
                try clear hfz17_4
                try clear hfz19_0
                try clear hfz19_1
                try clear hfz19_2
                try clear hfz19_3
                try clear hfz19_4
                try clear hfz20_0
                try clear hfz20_1
                try clear hfz20_2
                try clear hfz20_3
                try clear hfz20_4
                try clear hfz31_0
                try clear hfz31_1
                try clear hfz31_2
                try clear hfz31_3
                try clear hfz31_4
                try clear hfz42_0
                try clear hfz42_1
                try clear hfz42_2
                try clear hfz42_3
                try clear hfz42_4
                try clear hfz49_0
                try clear hfz49_1
                try clear hfz49_2
                try clear hfz49_3
                try clear hfz49_4
                try clear hfz60_0
                try clear hfz60_1
                try clear hfz60_2
                try clear hfz60_3
                try clear hfz60_4
                try clear hfz62_0
                try clear hfz62_1
                try clear hfz62_2
                try clear hfz62_3
                try clear hfz62_4
                try clear hfz68_0
                try clear hfz68_1
                try clear hfz68_2
                try clear hfz68_3
                try clear hfz68_4
                try clear hfz69_0
                try clear hfz69_1
                try clear hfz69_2
                try clear hfz69_3
                try clear hfz69_4
                try clear hx329_0
                try clear hx329_1
                try clear hx330_0
                try clear hx330_1
                try clear hx331_0
                try clear hx331_1
                try clear hx332_0
                try clear hx332_1
                try clear p2
                try clear p329
                try clear p330
                try clear p331
                try clear p332
                try clear p6
                try clear q3
                try clear q31
                try clear q316
                try clear q329
                try clear q330
                try clear q331
                try clear q332
                try clear q4
                try clear q45
                obtain ⟨x11_2, x12_2, rfl, rfl, HA, HK2, HO_7, HO_9, BK305, HB⟩ := hrel
                cases gk with
                | zero => exact absurd HA.out (by simp [tributarylaw3_OpsShapes.l1])
                | succ k2 =>
                  have H := HA.out
                  clear HA
                  simp only [tributarylaw3_OpsShapes.l1] at H
                  by_cases c70 : x12_2 < (t312.length : Int)
                  · rw [if_pos c70] at H
                    have c70b0 : decide (x12_2 < (t312.length : Int)) = true := decide_eq_true c70
                    clear c70
                    have H' := Aside0.mk H
                    clear H
                    obtain ⟨Ao71, co71, eo71⟩ := Kd.R_slice HO_9.out
                    subst eo71
                    go_wp2
                    repeat (go_quiet (fail); try go_wp2)
                    go_loopg [11] k2 (fun kq v11 w' => ∃ (x11_3 : Int), v11 = .int .i64 x11_3 ∧ Aside0 (tributarylaw3_OpsShapes.l2 kq t306 t312 x11_3 x12_2 a0_0 a0_1 a0_2 a0_3 a0_4 = some r) ∧ Aside0 (kq ≤ k2) ∧ Aside0 (Kd.R k62 62 w' w.heap.size (fun k_ => some k_ ≠ ((.slice Ao71 t312.length co71) : Value).ownBlock) (.slice Ao12 t306.length co12) t306) ∧ Aside0 (Kd.R k62 62 w' w.heap.size (fun k_ => some k_ ≠ ((.slice Ao12 t306.length co12) : Value).ownBlock) (.slice Ao71 t312.length co71) t312) ∧ Aside0 (w'.heap[gb305]? = some (.cells #[.int .i64 a0_0, .int .i64 a0_1, .int .i64 a0_2, .int .i64 a0_3, .int .i64 a0_4] 55 (0, 0))) ∧ Aside0 (Below w.heap.size w w'))
                    case atStart => exact ⟨(x11_2), (by first | rfl | (simp; done) | (simp [*]; done)), H', ⟨Nat.le_refl _⟩, ⟨by (with_reducible repeat (first | apply Kd.R_alloc | apply Kd.R_drewN | apply Kd.R_drew)); exact HO_7.out⟩, ⟨by (with_reducible repeat (first | apply Kd.R_alloc | apply Kd.R_drewN | apply Kd.R_drew)); exact HO_9.out⟩, ⟨by (with_reducible repeat (first | refine blk_drewN ?_ _ | refine blk_drew ?_ | refine blk_alloc ?_ _)); exact BK305.out⟩, ⟨by repeat (first | (with_reducible first | exact HB.out | apply below_alloc | apply pw_below_drewN | apply below_drew1 | refine below_set ?_ GE305.out) | exact HB.out)⟩⟩
                    case round =>
                      clear H'
                      try clear c1
                      try clear c2
                      try clear p2
                      try clear c3
                      try clear p3
                      try clear q3
                      try clear hx3
                      try clear c4
                      try clear q4
                      try clear c5
                      try clear c6
                      try clear p6
                      try clear c7
                      try clear c10
                      try clear c22
                      try clear c24
                      try clear c27
                      try clear c27b0
                      try clear c27b1
                      try clear c29
                      try clear q31
                      try clear p32
                      try clear q32
                      try clear hx32
                      try clear p33
                      try clear q33
                      try clear hx33
                      try clear c34
                      try clear c34b0
                      try clear c34b1
                      try clear c36
                      try clear c37
                      try clear c39
                      try clear c39b0
                      try clear c39b1
                      try clear c40
                      try clear c40b0
                      try clear c40b1
                      try clear q45
                      try clear c48
                      try clear c48b0
                      try clear c48b1
                      try clear c50
                      try clear c50b0
                      try clear c51
                      try clear c51b0
                      try clear c52
                      try clear c52b0
                      try clear c52b1
                      try clear c54
                      try clear c54b0
                      try clear c55
                      try clear c55b0
                      try clear c56
                      try clear c56b0
                      try clear c56b1
                      try clear c57
                      try clear c57b0
                      try clear c57b1
                      try clear c58
                      try clear c58b0
                      try clear c64
                      try clear p64
                      try clear c70
                      try clear c70b0
                      try clear hcz11_0
                      try clear hcz11_1
                      try clear hcz11_2
                      try clear hcz11_3
                      try clear hcz11_4
                      try clear hcz17_0
                      try clear hcz17_1
                      try clear hcz17_2
                      try clear hcz17_3
                      try clear hcz17_4
                      try clear hcz19_0
                      try clear hcz19_1
                      try clear hcz19_2
                      try clear hcz19_3
                      try clear hcz19_4
                      try clear hcz20_0
                      try clear hcz20_1
                      try clear hcz20_2
                      try clear hcz20_3
                      try clear hcz20_4
                      try clear hcz31_0
                      try clear hcz31_1
                      try clear hcz31_2
                      try clear hcz31_3
                      try clear hcz31_4
                      try clear hcz42_0
                      try clear hcz42_1
                      try clear hcz42_2
                      try clear hcz42_3
                      try clear hcz42_4
                      try clear hcz49_0
                      try clear hcz49_1
                      try clear hcz49_2
                      try clear hcz49_3
                      try clear hcz49_4
                      try clear hcz60_0
                      try clear hcz60_1
                      try clear hcz60_2
                      try clear hcz60_3
                      try clear hcz60_4
                      try clear hcz62_0
                      try clear hcz62_1
                      try clear hcz62_2
                      try clear hcz62_3
                      try clear hcz62_4
                      try clear hcz68_0
                      try clear hcz68_1
                      try clear hcz68_2
                      try clear hcz68_3
                      try clear hcz68_4
                      try clear hcz69_0
                      try clear hcz69_1
                      try clear hcz69_2
                      try clear hcz69_3
                      try clear hcz69_4
                      try clear hfz11_0
                      try clear hfz11_1
                      try clear hfz11_2
                      try clear hfz11_3
                      try clear hfz11_4
                      try clear hfz17_0
                      try clear hfz17_1
                      try clear hfz17_2
                      try clear hfz17_3
                      try clear hfz17_4
                      try clear hfz19_0
                      try clear hfz19_1
                      try clear hfz19_2
                      try clear hfz19_3
                      try clear hfz19_4
                      try clear hfz20_0
                      try clear hfz20_1
                      try clear hfz20_2
                      try clear hfz20_3
                      try clear hfz20_4
                      try clear hfz31_0
                      try clear hfz31_1
                      try clear hfz31_2
                      try clear hfz31_3
                      try clear hfz31_4
                      try clear hfz42_0
                      try clear hfz42_1
                      try clear hfz42_2
                      try clear hfz42_3
                      try clear hfz42_4
                      try clear hfz49_0
                      try clear hfz49_1
                      try clear hfz49_2
                      try clear hfz49_3
                      try clear hfz49_4
                      try clear hfz60_0
                      try clear hfz60_1
                      try clear hfz60_2
                      try clear hfz60_3
                      try clear hfz60_4
                      try clear hfz62_0
                      try clear hfz62_1
                      try clear hfz62_2
                      try clear hfz62_3
                      try clear hfz62_4
                      try clear hfz68_0
                      try clear hfz68_1
                      try clear hfz68_2
                      try clear hfz68_3
                      try clear hfz68_4
                      try clear hfz69_0
                      try clear hfz69_1
                      try clear hfz69_2
                      try clear hfz69_3
                      try clear hfz69_4
                      try clear hx329_0
                      try clear hx329_1
                      try clear hx330_0
                      try clear hx330_1
                      try clear hx331_0
                      try clear hx331_1
                      try clear hx332_0
                      try clear hx332_1
                      try clear p2
                      try clear p3
                      try clear p32
                      try clear p329
                      try clear p33
                      try clear p330
                      try clear p331
                      try clear p332
                      try clear p6
                      try clear p64
                      try clear q3
                      try clear q31
                      try clear q316
                      try clear q32
                      try clear q329
                      try clear q33
                      try clear q330
                      try clear q331
                      try clear q332
                      try clear q4
                      try clear q45
                      obtain ⟨x11_3, rfl, HA, HK3, HO_7, HO_9, BK305, HB⟩ := hrel
                      cases gk with
                      | zero => exact absurd HA.out (by simp [tributarylaw3_OpsShapes.l2])
                      | succ k3 =>
                        have H := HA.out
                        clear HA
                        simp only [tributarylaw3_OpsShapes.l2] at H
                        by_cases c72 : x11_3 < (t306.length : Int)
                        · rw [if_pos c72] at H
                          have c72b0 : decide (x11_3 < (t306.length : Int)) = true := decide_eq_true c72
                          clear c72
                          by_cases c73 : 0 ≤ x11_3
                          · rw [if_pos c73] at H
                            have c73b0 : decide (0 ≤ x11_3) = true := decide_eq_true c73
                            clear c73
                            by_cases c74 : 0 ≤ x12_2
                            · rw [if_pos c74] at H
                              have c74b0 : decide (0 ≤ x12_2) = true := decide_eq_true c74
                              clear c74
                              by_cases c75 : x12_2 < (t312.length : Int)
                              · rw [if_pos c75] at H
                                have c75b0 : decide (x12_2 < (t312.length : Int)) = true := decide_eq_true c75
                                clear c75
                                by_cases c76 : (!(((rd_T62 t306 x11_3).f0) == ((rd_T62 t312 x12_2).f0)) || (!(((rd_T62 t306 x11_3).f1) == ((rd_T62 t312 x12_2).f1)))) = true
                                · rw [if_pos c76] at H
                                  have c76b0 : (!(((rd_T62 t306 x11_3).f0) == ((rd_T62 t312 x12_2).f0)) || (!(((rd_T62 t306 x11_3).f1) == ((rd_T62 t312 x12_2).f1)))) = true := c76
                                  clear c76
                                  have H' := Aside0.mk H
                                  clear H
                                  have p339 : 0 ≤ (x11_3 : Int) := of_decide_eq_true (by first | (with_reducible assumption) | assumption)
                                  have q339 : x11_3 < (t306.length : Int) := of_decide_eq_true (by first | (with_reducible assumption) | assumption)
                                  obtain ⟨ad339, e339, hx339_0, hx339_1⟩ := at_T62 (Kd.R_reads' HO_7.out).2.2 x11_3 p339 q339
                                  cases e339
                                  replace p339 := eq_true p339
                                  replace q339 := eq_true q339
                                  have p340 : 0 ≤ (x12_2 : Int) := of_decide_eq_true (by first | (with_reducible assumption) | assumption)
                                  have q340 : x12_2 < (t312.length : Int) := of_decide_eq_true (by first | (with_reducible assumption) | assumption)
                                  obtain ⟨ad340, e340, hx340_0, hx340_1⟩ := at_T62 (Kd.R_reads' HO_9.out).2.2 x12_2 p340 q340
                                  cases e340
                                  replace p340 := eq_true p340
                                  replace q340 := eq_true q340
                                  go_wp2
                                  repeat (go_quiet (fail); try go_wp2)
                                  go_roundg k3
                                  case measure => have := HJ6.out; have := HK2.out; have := HK3.out; omega
                                  case rel => exact ⟨(wrap64 (x11_3 + 1)), (by first | rfl | (simp; done) | (simp [*]; done)), H', ⟨by have := HJ6.out; have := HK2.out; have := HK3.out; omega⟩, ⟨by (with_reducible repeat (first | apply Kd.R_alloc | apply Kd.R_drewN | apply Kd.R_drew)); exact HO_7.out⟩, ⟨by (with_reducible repeat (first | apply Kd.R_alloc | apply Kd.R_drewN | apply Kd.R_drew)); exact HO_9.out⟩, ⟨by (with_reducible repeat (first | refine blk_drewN ?_ _ | refine blk_drew ?_ | refine blk_alloc ?_ _)); exact BK305.out⟩, ⟨by repeat (first | (with_reducible first | exact HB.out | apply below_alloc | apply pw_below_drewN | apply below_drew1 | refine below_set ?_ GE305.out) | exact HB.out)⟩⟩
                                · rw [if_neg c76] at H
                                  have c76b0 : (!(((rd_T62 t306 x11_3).f0) == ((rd_T62 t312 x12_2).f0)) || (!(((rd_T62 t306 x11_3).f1) == ((rd_T62 t312 x12_2).f1)))) = false := by simpa using c76
                                  clear c76
                                  by_cases c77 : x11_3 = (t306.length : Int)
                                  · rw [if_pos c77] at H
                                    exact absurd H (by simp)
                                  · rw [if_neg c77] at H
                                    have c77b0 : (x11_3 == (t306.length : Int)) = false := beq_eq_false_iff_ne.mpr c77
                                    have c77b1 : (x11_3 != (t306.length : Int)) = true := bne_iff_ne.mpr c77
                                    have H' := Aside0.mk H
                                    clear H
                                    have p339 : 0 ≤ (x11_3 : Int) := of_decide_eq_true (by first | (with_reducible assumption) | assumption)
                                    have q339 : x11_3 < (t306.length : Int) := of_decide_eq_true (by first | (with_reducible assumption) | assumption)
                                    obtain ⟨ad339, e339, hx339_0, hx339_1⟩ := at_T62 (Kd.R_reads' HO_7.out).2.2 x11_3 p339 q339
                                    cases e339
                                    replace p339 := eq_true p339
                                    replace q339 := eq_true q339
                                    have p340 : 0 ≤ (x12_2 : Int) := of_decide_eq_true (by first | (with_reducible assumption) | assumption)
                                    have q340 : x12_2 < (t312.length : Int) := of_decide_eq_true (by first | (with_reducible assumption) | assumption)
                                    obtain ⟨ad340, e340, hx340_0, hx340_1⟩ := at_T62 (Kd.R_reads' HO_9.out).2.2 x12_2 p340 q340
                                    cases e340
                                    replace p340 := eq_true p340
                                    replace q340 := eq_true q340
                                    go_wp2
                                    repeat (go_quiet (fail); try go_wp2)
                                    go_roundg k3
                                    case measure => have := HJ6.out; have := HK2.out; have := HK3.out; omega
                                    case rel => exact ⟨(wrap64 (x11_3 + 1)), (wrap64 (x12_2 + 1)), (by first | rfl | (simp; done) | (simp [*]; done)), (by first | rfl | (simp; done) | (simp [*]; done)), H', ⟨by have := HJ6.out; have := HK2.out; have := HK3.out; omega⟩, ⟨by (with_reducible repeat (first | apply Kd.R_alloc | apply Kd.R_drewN | apply Kd.R_drew)); exact HO_7.out⟩, ⟨by (with_reducible repeat (first | apply Kd.R_alloc | apply Kd.R_drewN | apply Kd.R_drew)); exact HO_9.out⟩, ⟨by (with_reducible repeat (first | refine blk_drewN ?_ _ | refine blk_drew ?_ | refine blk_alloc ?_ _)); exact BK305.out⟩, ⟨by repeat (first | (with_reducible first | exact HB.out | apply below_alloc | apply pw_below_drewN | apply below_drew1 | refine below_set ?_ GE305.out) | exact HB.out)⟩⟩
                              · rw [if_neg c75] at H
                                exact absurd H (by simp)
                            · rw [if_neg c74] at H
                              exact absurd H (by simp)
                          · rw [if_neg c73] at H
                            exact absurd H (by simp)
                        · rw [if_neg c72] at H
                          have c72b0 : decide (x11_3 < (t306.length : Int)) = false := decide_eq_false c72
                          clear c72
                          by_cases c78 : x11_3 = (t306.length : Int)
                          · rw [if_pos c78] at H
                            exact absurd H (by simp)
                          · rw [if_neg c78] at H
                            have c78b0 : (x11_3 == (t306.length : Int)) = false := beq_eq_false_iff_ne.mpr c78
                            have c78b1 : (x11_3 != (t306.length : Int)) = true := bne_iff_ne.mpr c78
                            have H' := Aside0.mk H
                            clear H
                            go_wp2
                            repeat (go_quiet (fail); try go_wp2)
                            go_roundg k3
                            case measure => have := HJ6.out; have := HK2.out; have := HK3.out; omega
                            case rel => exact ⟨(wrap64 (x11_3 + 1)), (wrap64 (x12_2 + 1)), (by first | rfl | (simp; done) | (simp [*]; done)), (by first | rfl | (simp; done) | (simp [*]; done)), H', ⟨by have := HJ6.out; have := HK2.out; have := HK3.out; omega⟩, ⟨by (with_reducible repeat (first | apply Kd.R_alloc | apply Kd.R_drewN | apply Kd.R_drew)); exact HO_7.out⟩, ⟨by (with_reducible repeat (first | apply Kd.R_alloc | apply Kd.R_drewN | apply Kd.R_drew)); exact HO_9.out⟩, ⟨by (with_reducible repeat (first | refine blk_drewN ?_ _ | refine blk_drew ?_ | refine blk_alloc ?_ _)); exact BK305.out⟩, ⟨by repeat (first | (with_reducible first | exact HB.out | apply below_alloc | apply pw_below_drewN | apply below_drew1 | refine below_set ?_ GE305.out) | exact HB.out)⟩⟩
                  · rw [if_neg c70] at H
                    have c70b0 : decide (x12_2 < (t312.length : Int)) = false := decide_eq_false c70
                    clear c70
                    replace H := Option.bind_eq_some_iff.mp H
                    obtain ⟨t334, A790, H⟩ := H
                    replace H : (if t334 = true then ((ops_Apply.f k2 a0_0 a0_1 a0_2 a0_3 a0_4 t312 ([] : List (S62))).bind fun t335 => ((tributaryref2_Same.f k2 t335 t312).bind fun t338 => (some t338))) else (none)) = some r := H
                    have A79 := Aside0.mk A790
                    clear A790
                    by_cases c80 : t334 = true
                    · subst c80
                      have H1 : ((ops_Apply.f k2 a0_0 a0_1 a0_2 a0_3 a0_4 t312 ([] : List (S62))).bind fun t335 => ((tributaryref2_Same.f k2 t335 t312).bind fun t338 => (some t338))) = some r := by rw [if_pos rfl] at H; exact H
                      clear H
                      have H := H1
                      clear H1
                      replace H := Option.bind_eq_some_iff.mp H
                      obtain ⟨t335, A810, H⟩ := H
                      replace H : ((tributaryref2_Same.f k2 t335 t312).bind fun t338 => (some t338)) = some r := H
                      have A81 := Aside0.mk A810
                      clear A810
                      replace H := Option.bind_eq_some_iff.mp H
                      obtain ⟨t338, A820, H⟩ := H
                      replace H : (some t338) = some r := H
                      have A82 := Aside0.mk A820
                      clear A820
                      obtain rfl := Option.some.inj H
                      obtain ⟨Ao83, co83, eo83⟩ := Kd.R_slice HO_9.out
                      subst eo83
                      go_wp2_with (first | (go_at_call 35; (with_reducible refine (tributarylaw3_told.calls  true _ ?side1 A79.out).mono ?_); (case side1 => exact Laid.below HLD.out (by repeat (first | (with_reducible first | exact HB.out | apply below_alloc | apply pw_below_drewN | apply below_drew1 | refine below_set ?_ GE305.out) | exact HB.out)) (Nat.le_refl _)); rintro e w84 ⟨rfl, hb⟩; have n0_ := Aside0.mk (Kd.R_below (by (with_reducible repeat (first | apply Kd.R_alloc | apply Kd.R_drewN | apply Kd.R_drew)); exact HO_7.out) hb); have n1_ := Aside0.mk (Kd.R_below (by (with_reducible repeat (first | apply Kd.R_alloc | apply Kd.R_drewN | apply Kd.R_drew)); exact HO_9.out) hb); have n2_ := Aside0.mk (blk_below (g := gb305) (o := .cells #[.int .i64 a0_0, .int .i64 a0_1, .int .i64 a0_2, .int .i64 a0_3, .int .i64 a0_4] 55 (0, 0)) (by (with_reducible repeat (first | refine blk_drewN ?_ _ | refine blk_drew ?_ | refine blk_alloc ?_ _)); exact BK305.out) hb); have n3_ := Aside0.mk (below_step (by repeat (first | (with_reducible first | exact HB.out | apply below_alloc | apply pw_below_drewN | apply below_drew1 | refine below_set ?_ GE305.out) | exact HB.out)) hb); clear HO_7; clear HO_9; clear BK305; clear HB; have HO_7 := n0_; have HO_9 := n1_; have BK305 := n2_; have HB := n3_; clear n0_ n1_ n2_ n3_; (try clear hb); (try clear hb2); (try clear hk); (try clear hi); have hcz85_0 : w84.cell? ⟨gb305, 0, none⟩ = some (.int .i64 a0_0) := (blk_cell BK305.out 0).trans rfl; have hcz85_1 : w84.cell? ⟨gb305, 1, none⟩ = some (.int .i64 a0_1) := (blk_cell BK305.out 1).trans rfl; have hcz85_2 : w84.cell? ⟨gb305, 2, none⟩ = some (.int .i64 a0_2) := (blk_cell BK305.out 2).trans rfl; have hcz85_3 : w84.cell? ⟨gb305, 3, none⟩ = some (.int .i64 a0_3) := (blk_cell BK305.out 3).trans rfl; have hcz85_4 : w84.cell? ⟨gb305, 4, none⟩ = some (.int .i64 a0_4) := (blk_cell BK305.out 4).trans rfl; have hfz85_0 := blk_frozen BK305.out 0; have hfz85_1 := blk_frozen BK305.out 1; have hfz85_2 := blk_frozen BK305.out 2; have hfz85_3 := blk_frozen BK305.out 3; have hfz85_4 := blk_frozen BK305.out 4) | (go_at_call 43; (refine (ops_Apply.calls k2 a0_0 a0_1 a0_2 a0_3 a0_4 _ _ t312 _ _ ([] : List (S62)) t335 _ ?side1 ?side2 ?side3 ?side4 A81.out).mono ?_); (case side1 => repeat (first | exact (Kd.R_reads' HO_9.out).2.2 | (with_reducible refine Kd.C_alloc ?_ _) | (with_reducible refine Kd.C_drewN ?_ _) | (with_reducible refine Kd.C_drew ?_))); (case side2 => exact (Kd.R_reads' HO_9.out).2.1); (case side3 => exact Kd.C_nil _ _); (case side4 => exact Nat.le_refl _); rintro e w86 ⟨v336, rfl, ho0, hb⟩; have n0_ := Aside0.mk (Kd.R_elder' (by (with_reducible repeat (first | apply Kd.R_alloc | apply Kd.R_drewN | apply Kd.R_drew)); exact HO_7.out) (Kd.R_base ho0) hb); have n1_ := Aside0.mk (Kd.R_elder' (by (with_reducible repeat (first | apply Kd.R_alloc | apply Kd.R_drewN | apply Kd.R_drew)); exact HO_9.out) (Kd.R_base ho0) hb); have n2_ := Aside0.mk (Kd.R_lower (Kd.R_new' (Kd.R_new' ho0 (Kd.R_lt (by (with_reducible repeat (first | apply Kd.R_alloc | apply Kd.R_drewN | apply Kd.R_drew)); exact HO_7.out))) (Kd.R_lt (by (with_reducible repeat (first | apply Kd.R_alloc | apply Kd.R_drewN | apply Kd.R_drew)); exact HO_9.out))) (below_size (by repeat (first | (with_reducible first | exact HB.out | apply below_alloc | apply pw_below_drewN | apply below_drew1 | refine below_set ?_ GE305.out) | exact HB.out)))); have n3_ := Aside0.mk (blk_below (g := gb305) (o := .cells #[.int .i64 a0_0, .int .i64 a0_1, .int .i64 a0_2, .int .i64 a0_3, .int .i64 a0_4] 55 (0, 0)) (by (with_reducible repeat (first | refine blk_drewN ?_ _ | refine blk_drew ?_ | refine blk_alloc ?_ _)); exact BK305.out) hb); have n4_ := Aside0.mk (below_step (by repeat (first | (with_reducible first | exact HB.out | apply below_alloc | apply pw_below_drewN | apply below_drew1 | refine below_set ?_ GE305.out) | exact HB.out)) hb); clear HO_7; clear HO_9; clear BK305; clear HB; have HO_7 := n0_; have HO_9 := n1_; have HO337 := n2_; have BK305 := n3_; have HB := n4_; clear n0_ n1_ n2_ n3_ n4_; (try clear hb); (try clear hb2); (try clear hk); (try clear hi); (try clear ho0); obtain ⟨Ao87, co87, eo87⟩ := Kd.R_slice HO337.out; subst eo87) | (go_at_call 45; (with_reducible refine (tributaryref2_Same.calls k2 _ _ t335 _ _ t312 t338 _ ?side1 ?side2 ?side3 ?side4 A82.out).mono ?_); (case side1 => repeat (first | exact (Kd.R_reads' HO337.out).2.2 | (with_reducible refine Kd.C_alloc ?_ _) | (with_reducible refine Kd.C_drewN ?_ _) | (with_reducible refine Kd.C_drew ?_))); (case side2 => exact (Kd.R_reads' HO337.out).2.1); (case side3 => repeat (first | exact (Kd.R_reads' HO_9.out).2.2 | (with_reducible refine Kd.C_alloc ?_ _) | (with_reducible refine Kd.C_drewN ?_ _) | (with_reducible refine Kd.C_drew ?_))); (case side4 => exact (Kd.R_reads' HO_9.out).2.1); rintro e w' ⟨rfl, ⟨nd, rfl⟩⟩; (try first | exact ⟨rfl, _, World.drewN_drewN _ _ _⟩ | exact ⟨rfl, _, Eq.trans (World.drewN_drewN _ _ _) (congrArg (World.drewN _) (Nat.add_assoc _ _ _))⟩)))
                      repeat (go_quiet (first | (go_at_call 35; (with_reducible refine (tributarylaw3_told.calls  true _ ?side1 A79.out).mono ?_); (case side1 => exact Laid.below HLD.out (by repeat (first | (with_reducible first | exact HB.out | apply below_alloc | apply pw_below_drewN | apply below_drew1 | refine below_set ?_ GE305.out) | exact HB.out)) (Nat.le_refl _)); rintro e w84 ⟨rfl, hb⟩; have n0_ := Aside0.mk (Kd.R_below (by (with_reducible repeat (first | apply Kd.R_alloc | apply Kd.R_drewN | apply Kd.R_drew)); exact HO_7.out) hb); have n1_ := Aside0.mk (Kd.R_below (by (with_reducible repeat (first | apply Kd.R_alloc | apply Kd.R_drewN | apply Kd.R_drew)); exact HO_9.out) hb); have n2_ := Aside0.mk (blk_below (g := gb305) (o := .cells #[.int .i64 a0_0, .int .i64 a0_1, .int .i64 a0_2, .int .i64 a0_3, .int .i64 a0_4] 55 (0, 0)) (by (with_reducible repeat (first | refine blk_drewN ?_ _ | refine blk_drew ?_ | refine blk_alloc ?_ _)); exact BK305.out) hb); have n3_ := Aside0.mk (below_step (by repeat (first | (with_reducible first | exact HB.out | apply below_alloc | apply pw_below_drewN | apply below_drew1 | refine below_set ?_ GE305.out) | exact HB.out)) hb); clear HO_7; clear HO_9; clear BK305; clear HB; have HO_7 := n0_; have HO_9 := n1_; have BK305 := n2_; have HB := n3_; clear n0_ n1_ n2_ n3_; (try clear hb); (try clear hb2); (try clear hk); (try clear hi); have hcz85_0 : w84.cell? ⟨gb305, 0, none⟩ = some (.int .i64 a0_0) := (blk_cell BK305.out 0).trans rfl; have hcz85_1 : w84.cell? ⟨gb305, 1, none⟩ = some (.int .i64 a0_1) := (blk_cell BK305.out 1).trans rfl; have hcz85_2 : w84.cell? ⟨gb305, 2, none⟩ = some (.int .i64 a0_2) := (blk_cell BK305.out 2).trans rfl; have hcz85_3 : w84.cell? ⟨gb305, 3, none⟩ = some (.int .i64 a0_3) := (blk_cell BK305.out 3).trans rfl; have hcz85_4 : w84.cell? ⟨gb305, 4, none⟩ = some (.int .i64 a0_4) := (blk_cell BK305.out 4).trans rfl; have hfz85_0 := blk_frozen BK305.out 0; have hfz85_1 := blk_frozen BK305.out 1; have hfz85_2 := blk_frozen BK305.out 2; have hfz85_3 := blk_frozen BK305.out 3; have hfz85_4 := blk_frozen BK305.out 4) | (go_at_call 43; (refine (ops_Apply.calls k2 a0_0 a0_1 a0_2 a0_3 a0_4 _ _ t312 _ _ ([] : List (S62)) t335 _ ?side1 ?side2 ?side3 ?side4 A81.out).mono ?_); (case side1 => repeat (first | exact (Kd.R_reads' HO_9.out).2.2 | (with_reducible refine Kd.C_alloc ?_ _) | (with_reducible refine Kd.C_drewN ?_ _) | (with_reducible refine Kd.C_drew ?_))); (case side2 => exact (Kd.R_reads' HO_9.out).2.1); (case side3 => exact Kd.C_nil _ _); (case side4 => exact Nat.le_refl _); rintro e w86 ⟨v336, rfl, ho0, hb⟩; have n0_ := Aside0.mk (Kd.R_elder' (by (with_reducible repeat (first | apply Kd.R_alloc | apply Kd.R_drewN | apply Kd.R_drew)); exact HO_7.out) (Kd.R_base ho0) hb); have n1_ := Aside0.mk (Kd.R_elder' (by (with_reducible repeat (first | apply Kd.R_alloc | apply Kd.R_drewN | apply Kd.R_drew)); exact HO_9.out) (Kd.R_base ho0) hb); have n2_ := Aside0.mk (Kd.R_lower (Kd.R_new' (Kd.R_new' ho0 (Kd.R_lt (by (with_reducible repeat (first | apply Kd.R_alloc | apply Kd.R_drewN | apply Kd.R_drew)); exact HO_7.out))) (Kd.R_lt (by (with_reducible repeat (first | apply Kd.R_alloc | apply Kd.R_drewN | apply Kd.R_drew)); exact HO_9.out))) (below_size (by repeat (first | (with_reducible first | exact HB.out | apply below_alloc | apply pw_below_drewN | apply below_drew1 | refine below_set ?_ GE305.out) | exact HB.out)))); have n3_ := Aside0.mk (blk_below (g := gb305) (o := .cells #[.int .i64 a0_0, .int .i64 a0_1, .int .i64 a0_2, .int .i64 a0_3, .int .i64 a0_4] 55 (0, 0)) (by (with_reducible repeat (first | refine blk_drewN ?_ _ | refine blk_drew ?_ | refine blk_alloc ?_ _)); exact BK305.out) hb); have n4_ := Aside0.mk (below_step (by repeat (first | (with_reducible first | exact HB.out | apply below_alloc | apply pw_below_drewN | apply below_drew1 | refine below_set ?_ GE305.out) | exact HB.out)) hb); clear HO_7; clear HO_9; clear BK305; clear HB; have HO_7 := n0_; have HO_9 := n1_; have HO337 := n2_; have BK305 := n3_; have HB := n4_; clear n0_ n1_ n2_ n3_ n4_; (try clear hb); (try clear hb2); (try clear hk); (try clear hi); (try clear ho0); obtain ⟨Ao87, co87, eo87⟩ := Kd.R_slice HO337.out; subst eo87) | (go_at_call 45; (with_reducible refine (tributaryref2_Same.calls k2 _ _ t335 _ _ t312 t338 _ ?side1 ?side2 ?side3 ?side4 A82.out).mono ?_); (case side1 => repeat (first | exact (Kd.R_reads' HO337.out).2.2 | (with_reducible refine Kd.C_alloc ?_ _) | (with_reducible refine Kd.C_drewN ?_ _) | (with_reducible refine Kd.C_drew ?_))); (case side2 => exact (Kd.R_reads' HO337.out).2.1); (case side3 => repeat (first | exact (Kd.R_reads' HO_9.out).2.2 | (with_reducible refine Kd.C_alloc ?_ _) | (with_reducible refine Kd.C_drewN ?_ _) | (with_reducible refine Kd.C_drew ?_))); (case side4 => exact (Kd.R_reads' HO_9.out).2.1); rintro e w' ⟨rfl, ⟨nd, rfl⟩⟩; (try first | exact ⟨rfl, _, World.drewN_drewN _ _ _⟩ | exact ⟨rfl, _, Eq.trans (World.drewN_drewN _ _ _) (congrArg (World.drewN _) (Nat.add_assoc _ _ _))⟩))); try go_wp2_with (first | (go_at_call 35; (with_reducible refine (tributarylaw3_told.calls  true _ ?side1 A79.out).mono ?_); (case side1 => exact Laid.below HLD.out (by repeat (first | (with_reducible first | exact HB.out | apply below_alloc | apply pw_below_drewN | apply below_drew1 | refine below_set ?_ GE305.out) | exact HB.out)) (Nat.le_refl _)); rintro e w84 ⟨rfl, hb⟩; have n0_ := Aside0.mk (Kd.R_below (by (with_reducible repeat (first | apply Kd.R_alloc | apply Kd.R_drewN | apply Kd.R_drew)); exact HO_7.out) hb); have n1_ := Aside0.mk (Kd.R_below (by (with_reducible repeat (first | apply Kd.R_alloc | apply Kd.R_drewN | apply Kd.R_drew)); exact HO_9.out) hb); have n2_ := Aside0.mk (blk_below (g := gb305) (o := .cells #[.int .i64 a0_0, .int .i64 a0_1, .int .i64 a0_2, .int .i64 a0_3, .int .i64 a0_4] 55 (0, 0)) (by (with_reducible repeat (first | refine blk_drewN ?_ _ | refine blk_drew ?_ | refine blk_alloc ?_ _)); exact BK305.out) hb); have n3_ := Aside0.mk (below_step (by repeat (first | (with_reducible first | exact HB.out | apply below_alloc | apply pw_below_drewN | apply below_drew1 | refine below_set ?_ GE305.out) | exact HB.out)) hb); clear HO_7; clear HO_9; clear BK305; clear HB; have HO_7 := n0_; have HO_9 := n1_; have BK305 := n2_; have HB := n3_; clear n0_ n1_ n2_ n3_; (try clear hb); (try clear hb2); (try clear hk); (try clear hi); have hcz85_0 : w84.cell? ⟨gb305, 0, none⟩ = some (.int .i64 a0_0) := (blk_cell BK305.out 0).trans rfl; have hcz85_1 : w84.cell? ⟨gb305, 1, none⟩ = some (.int .i64 a0_1) := (blk_cell BK305.out 1).trans rfl; have hcz85_2 : w84.cell? ⟨gb305, 2, none⟩ = some (.int .i64 a0_2) := (blk_cell BK305.out 2).trans rfl; have hcz85_3 : w84.cell? ⟨gb305, 3, none⟩ = some (.int .i64 a0_3) := (blk_cell BK305.out 3).trans rfl; have hcz85_4 : w84.cell? ⟨gb305, 4, none⟩ = some (.int .i64 a0_4) := (blk_cell BK305.out 4).trans rfl; have hfz85_0 := blk_frozen BK305.out 0; have hfz85_1 := blk_frozen BK305.out 1; have hfz85_2 := blk_frozen BK305.out 2; have hfz85_3 := blk_frozen BK305.out 3; have hfz85_4 := blk_frozen BK305.out 4) | (go_at_call 43; (refine (ops_Apply.calls k2 a0_0 a0_1 a0_2 a0_3 a0_4 _ _ t312 _ _ ([] : List (S62)) t335 _ ?side1 ?side2 ?side3 ?side4 A81.out).mono ?_); (case side1 => repeat (first | exact (Kd.R_reads' HO_9.out).2.2 | (with_reducible refine Kd.C_alloc ?_ _) | (with_reducible refine Kd.C_drewN ?_ _) | (with_reducible refine Kd.C_drew ?_))); (case side2 => exact (Kd.R_reads' HO_9.out).2.1); (case side3 => exact Kd.C_nil _ _); (case side4 => exact Nat.le_refl _); rintro e w86 ⟨v336, rfl, ho0, hb⟩; have n0_ := Aside0.mk (Kd.R_elder' (by (with_reducible repeat (first | apply Kd.R_alloc | apply Kd.R_drewN | apply Kd.R_drew)); exact HO_7.out) (Kd.R_base ho0) hb); have n1_ := Aside0.mk (Kd.R_elder' (by (with_reducible repeat (first | apply Kd.R_alloc | apply Kd.R_drewN | apply Kd.R_drew)); exact HO_9.out) (Kd.R_base ho0) hb); have n2_ := Aside0.mk (Kd.R_lower (Kd.R_new' (Kd.R_new' ho0 (Kd.R_lt (by (with_reducible repeat (first | apply Kd.R_alloc | apply Kd.R_drewN | apply Kd.R_drew)); exact HO_7.out))) (Kd.R_lt (by (with_reducible repeat (first | apply Kd.R_alloc | apply Kd.R_drewN | apply Kd.R_drew)); exact HO_9.out))) (below_size (by repeat (first | (with_reducible first | exact HB.out | apply below_alloc | apply pw_below_drewN | apply below_drew1 | refine below_set ?_ GE305.out) | exact HB.out)))); have n3_ := Aside0.mk (blk_below (g := gb305) (o := .cells #[.int .i64 a0_0, .int .i64 a0_1, .int .i64 a0_2, .int .i64 a0_3, .int .i64 a0_4] 55 (0, 0)) (by (with_reducible repeat (first | refine blk_drewN ?_ _ | refine blk_drew ?_ | refine blk_alloc ?_ _)); exact BK305.out) hb); have n4_ := Aside0.mk (below_step (by repeat (first | (with_reducible first | exact HB.out | apply below_alloc | apply pw_below_drewN | apply below_drew1 | refine below_set ?_ GE305.out) | exact HB.out)) hb); clear HO_7; clear HO_9; clear BK305; clear HB; have HO_7 := n0_; have HO_9 := n1_; have HO337 := n2_; have BK305 := n3_; have HB := n4_; clear n0_ n1_ n2_ n3_ n4_; (try clear hb); (try clear hb2); (try clear hk); (try clear hi); (try clear ho0); obtain ⟨Ao87, co87, eo87⟩ := Kd.R_slice HO337.out; subst eo87) | (go_at_call 45; (with_reducible refine (tributaryref2_Same.calls k2 _ _ t335 _ _ t312 t338 _ ?side1 ?side2 ?side3 ?side4 A82.out).mono ?_); (case side1 => repeat (first | exact (Kd.R_reads' HO337.out).2.2 | (with_reducible refine Kd.C_alloc ?_ _) | (with_reducible refine Kd.C_drewN ?_ _) | (with_reducible refine Kd.C_drew ?_))); (case side2 => exact (Kd.R_reads' HO337.out).2.1); (case side3 => repeat (first | exact (Kd.R_reads' HO_9.out).2.2 | (with_reducible refine Kd.C_alloc ?_ _) | (with_reducible refine Kd.C_drewN ?_ _) | (with_reducible refine Kd.C_drew ?_))); (case side4 => exact (Kd.R_reads' HO_9.out).2.1); rintro e w' ⟨rfl, ⟨nd, rfl⟩⟩; (try first | exact ⟨rfl, _, World.drewN_drewN _ _ _⟩ | exact ⟨rfl, _, Eq.trans (World.drewN_drewN _ _ _) (congrArg (World.drewN _) (Nat.add_assoc _ _ _))⟩))))
                      go_ret
                      exact ⟨by first | rfl | (simp [errW_none, errW_some] <;> rfl) | (simp [*, errW_none, errW_some] <;> rfl), by repeat (first | (with_reducible first | exact HB.out | apply below_alloc | apply pw_below_drewN | apply below_drew1 | refine below_set ?_ GE305.out) | exact HB.out)⟩
                    · replace c80 := Bool.eq_false_iff.mpr c80
                      subst c80
                      have H1 : (none) = some r := by rw [if_neg (show ¬ (false = true) by decide)] at H; exact H
                      clear H
                      have H := H1
                      clear H1
                      exact absurd H (by simp)

end Go.Proofs.YtemnnnjlllgeeaaDoor.POps
