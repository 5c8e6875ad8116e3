-- written by a program of this session, a turned copy of the print tool
import Derived.Test.YtemnnnjlllgeeaaDoorOpsTold
import Derived.Test.YtemnnnjlllgeeaaDoorPOpsx0
import Derived.Test.YtemnnnjlllgeeaaDoorPOpsx1
import Derived.Test.YtemnnnjlllgeeaaDoorPOpsx3
import Derived.Test.YtemnnnjlllgeeaaDoorPOpsx4
import Derived.Test.YtemnnnjlllgeeaaDoorPOpsx6
import Derived.Test.YtemnnnjlllgeeaaDoorPOpsg
namespace Go.Proofs.YtemnnnjlllgeeaaDoor.POps
open Go.RowKit Go.Proofs.YtemnnnjlllgeeaaDoorW.PrintWords Go.Proofs.YtemnnnjlllgeeaaDoorW.PrintLast Go.Proofs.YtemnnnjlllgeeaaDoorW.PrintMore
attribute [local go_sem] max2_int min2_int max_two min_two max_three min_three max_four min_four   -- for this text's walks alone
set_option linter.unusedVariables false
set_option linter.unusedSimpArgs false

attribute [local go_sem high] eqA62
/-! ### tributarylaw3_OpsBack: function 11 -/
mutual
def tributarylaw3_OpsBack.l0 : Nat → Int → List (S62) → List (S62) → List (S62) → List (S62) → List (S62) → List (S62) → Int → Int → Int → Option (Bool)
  | 0, _, _, _, _, _, _, _, _, _, _ => none
  | k + 1, x0, x5, x6, x7, x8, x9, x10, x11, x12, x13 => if x13 < (x5.length : Int) then (if x11 < (x9.length : Int) then (if 0 ≤ x11 then (if 0 ≤ x13 then (if (((rd_T62 x9 x11).f0) == ((rd_T62 x5 x13).f0) && (((rd_T62 x9 x11).f1) == ((rd_T62 x5 x13).f1))) = true then (tributarylaw3_OpsBack.j1 k x0 x5 x6 x7 x8 x9 x10 x11 x12 x13 (decide (((rd_T62 x5 x13).f1) < x0))) else (tributarylaw3_OpsBack.j1 k x0 x5 x6 x7 x8 x9 x10 x11 x12 x13 false)) else (none)) else (none)) else (tributarylaw3_OpsBack.j1 k x0 x5 x6 x7 x8 x9 x10 x11 x12 x13 false)) else ((tributarylaw3_told.f).bind fun t374 => (if t374 = true then ((tributaryref2_Same.f k x6 x5).bind fun t375 => (if t375 = true then ((tributaryref2_Same.f k x7 x5).bind fun t376 => (if t376 = true then ((tributaryref2_Same.f k x8 x5).bind fun t377 => (if t377 = true then (if x11 = (x9.length : Int) then (some (x12 == (x10.length : Int))) else (none)) else (none))) else (none))) else (none))) else (none)))
def tributarylaw3_OpsBack.j1 : Nat → Int → List (S62) → List (S62) → List (S62) → List (S62) → List (S62) → List (S62) → Int → Int → Int → Bool → Option (Bool)
  | 0, _, _, _, _, _, _, _, _, _, _, _ => none
  | k + 1, x0, x5, x6, x7, x8, x9, x10, x11, x12, x13, x76 => if x76 = true then (tributarylaw3_OpsBack.l0 k x0 x5 x6 x7 x8 x9 x10 (wrap64 (x11 + 1)) x12 (wrap64 (x13 + 1))) else (if x12 < (x10.length : Int) then (if 0 ≤ x12 then (if 0 ≤ x13 then (if x13 < (x5.length : Int) then (if (((rd_T62 x10 x12).f0) == ((rd_T62 x5 x13).f0) && (((rd_T62 x10 x12).f1) == ((rd_T62 x5 x13).f1))) = true then (if ((rd_T62 x5 x13).f1) ≥ x0 then (tributarylaw3_OpsBack.l0 k x0 x5 x6 x7 x8 x9 x10 x11 (wrap64 (x12 + 1)) (wrap64 (x13 + 1))) else (none)) else (none)) else (none)) else (none)) else (none)) else (none))
end
def tributarylaw3_OpsBack.f (k : Nat) (a0 : Int) (l1 : List (S62)) : Option (Bool) := (tributarylaw3_few.f l1 64).bind fun t341 => ((ops_Apply.f k 2 0 0 0 (Int.tmod a0 1000000000) t341 ([] : List (S62))).bind fun t344 => ((ops_Apply.f k 2 0 0 0 (wrap64 (-(Int.tmod a0 1000000000))) t344 ([] : List (S62))).bind fun t347 => ((ops_Apply.f k 2 0 0 3 0 t341 ([] : List (S62))).bind fun t350 => ((ops_Apply.f k 2 0 0 3 0 t350 ([] : List (S62))).bind fun t353 => ((ops_Apply.f k 2 0 0 2 (Int.tmod a0 1000000000) t341 ([] : List (S62))).bind fun t356 => ((ops_Apply.f k 2 0 0 2 (wrap64 (-(Int.tmod a0 1000000000))) t356 ([] : List (S62))).bind fun t359 => ((ops_Apply.f k 3 0 0 0 (Int.tmod a0 1000000000) t341 ([] : List (S62))).bind fun t362 => ((ops_Apply.f k 3 0 0 1 (Int.tmod a0 1000000000) t341 ([] : List (S62))).bind fun t365 => (tributarylaw3_OpsBack.l0 k (Int.tmod a0 1000000000) t341 t347 t353 t359 t362 t365 0 0 0)))))))))
theorem tributarylaw3_OpsBack.mono_l : ∀ k, (∀ y0 y1 y2 y3 y4 y5 y6 y7 y8 y9, LeO (tributarylaw3_OpsBack.l0 k y0 y1 y2 y3 y4 y5 y6 y7 y8 y9) (tributarylaw3_OpsBack.l0 (k + 1) y0 y1 y2 y3 y4 y5 y6 y7 y8 y9)) ∧ (∀ y0 y1 y2 y3 y4 y5 y6 y7 y8 y9 y10, LeO (tributarylaw3_OpsBack.j1 k y0 y1 y2 y3 y4 y5 y6 y7 y8 y9 y10) (tributarylaw3_OpsBack.j1 (k + 1) y0 y1 y2 y3 y4 y5 y6 y7 y8 y9 y10))
  | 0 => ⟨fun _ _ _ _ _ _ _ _ _ _ r h => by simp [tributarylaw3_OpsBack.l0] at h, fun _ _ _ _ _ _ _ _ _ _ _ r h => by simp [tributarylaw3_OpsBack.j1] at h⟩
  | k + 1 => by
    obtain ⟨ih0, ih1⟩ := tributarylaw3_OpsBack.mono_l k
    refine ⟨?_, ?_⟩
    · intro y0 y1 y2 y3 y4 y5 y6 y7 y8 y9
      unfold tributarylaw3_OpsBack.l0
      repeat' first
      | (with_reducible exact ih0 _ _ _ _ _ _ _ _ _ _)
      | (with_reducible exact ih1 _ _ _ _ _ _ _ _ _ _ _)
      | (with_reducible exact ops_Apply.mono _ _ _ _ _ _ _ _)
      | (with_reducible exact tributaryref2_Same.mono _ _ _)
      | (with_reducible exact LeO.refl _)
      | (with_reducible exact LeO.none _)
      | (with_reducible refine LeO.ite ?_ ?_)
      | (with_reducible refine LeO.bind ?_ (fun _ => ?_))
      | exact ih0 _ _ _ _ _ _ _ _ _ _
      | exact ih1 _ _ _ _ _ _ _ _ _ _ _
      | exact ops_Apply.mono _ _ _ _ _ _ _ _
      | exact tributaryref2_Same.mono _ _ _
      | exact LeO.none _
      | refine LeO.ite ?_ ?_
      | refine LeO.bind ?_ (fun _ => ?_)
    · intro y0 y1 y2 y3 y4 y5 y6 y7 y8 y9 y10
      unfold tributarylaw3_OpsBack.j1
      repeat' first
      | (with_reducible exact ih0 _ _ _ _ _ _ _ _ _ _)
      | (with_reducible exact ih1 _ _ _ _ _ _ _ _ _ _ _)
      | (with_reducible exact ops_Apply.mono _ _ _ _ _ _ _ _)
      | (with_reducible exact tributaryref2_Same.mono _ _ _)
      | (with_reducible exact LeO.refl _)
      | (with_reducible exact LeO.none _)
      | (with_reducible refine LeO.ite ?_ ?_)
      | (with_reducible refine LeO.bind ?_ (fun _ => ?_))
      | exact ih0 _ _ _ _ _ _ _ _ _ _
      | exact ih1 _ _ _ _ _ _ _ _ _ _ _
      | exact ops_Apply.mono _ _ _ _ _ _ _ _
      | exact tributaryref2_Same.mono _ _ _
      | exact LeO.none _
      | refine LeO.ite ?_ ?_
      | refine LeO.bind ?_ (fun _ => ?_)
theorem tributarylaw3_OpsBack.mono : ∀ a0 a1 k, LeO (tributarylaw3_OpsBack.f k a0 a1) (tributarylaw3_OpsBack.f (k + 1) a0 a1) := by
  intro a0 a1 k
  obtain ⟨ih0, ih1⟩ := tributarylaw3_OpsBack.mono_l k
  unfold tributarylaw3_OpsBack.f
  repeat' first
      | (with_reducible exact ih0 _ _ _ _ _ _ _ _ _ _)
      | (with_reducible exact ih1 _ _ _ _ _ _ _ _ _ _ _)
      | (with_reducible exact ops_Apply.mono _ _ _ _ _ _ _ _)
      | (with_reducible exact tributaryref2_Same.mono _ _ _)
      | (with_reducible exact LeO.refl _)
      | (with_reducible exact LeO.none _)
      | (with_reducible refine LeO.ite ?_ ?_)
      | (with_reducible refine LeO.bind ?_ (fun _ => ?_))
      | exact ih0 _ _ _ _ _ _ _ _ _ _
      | exact ih1 _ _ _ _ _ _ _ _ _ _ _
      | exact ops_Apply.mono _ _ _ _ _ _ _ _
      | exact tributaryref2_Same.mono _ _ _
      | exact LeO.none _
      | refine LeO.ite ?_ ?_
      | refine LeO.bind ?_ (fun _ => ?_)
set_option maxHeartbeats 8000000 in
set_option maxRecDepth 100000 in
theorem tributarylaw3_OpsBack.calls (k : Nat) (a0 : Int) (A1 : Option Addr) (c1 : Nat) (l1 : List (S62)) (r : Bool) (w : World) (hr1 : Kd.C k62 w A1 l1.length l1) (hc1 : l1.length ≤ c1) (hL : Laid w) (h : tributarylaw3_OpsBack.f k a0 l1 = some r) :
    Calls Tryd.prog 11 #[.int .i64 a0, .slice A1 l1.length c1] w fun e w' => e = .returned (.bool r) ∧ Below w.heap.size w w' := by
  have hu55 := Tryd.underlying55
  have hu62 := Tryd.underlying62
  have HR1 := Aside0.mk hr1
  have HC1 := Aside0.mk hc1
  clear hr1 hc1
  have HLD := Aside0.mk hL
  clear hL
  have HB := Aside0.mk (Below.refl w.heap.size w)
  have H : ((tributarylaw3_few.f l1 64).bind fun t341 => ((ops_Apply.f k 2 0 0 0 (Int.tmod a0 1000000000) t341 ([] : List (S62))).bind fun t344 => ((ops_Apply.f k 2 0 0 0 (wrap64 (-(Int.tmod a0 1000000000))) t344 ([] : List (S62))).bind fun t347 => ((ops_Apply.f k 2 0 0 3 0 t341 ([] : List (S62))).bind fun t350 => ((ops_Apply.f k 2 0 0 3 0 t350 ([] : List (S62))).bind fun t353 => ((ops_Apply.f k 2 0 0 2 (Int.tmod a0 1000000000) t341 ([] : List (S62))).bind fun t356 => ((ops_Apply.f k 2 0 0 2 (wrap64 (-(Int.tmod a0 1000000000))) t356 ([] : List (S62))).bind fun t359 => ((ops_Apply.f k 3 0 0 0 (Int.tmod a0 1000000000) t341 ([] : List (S62))).bind fun t362 => ((ops_Apply.f k 3 0 0 1 (Int.tmod a0 1000000000) t341 ([] : List (S62))).bind fun t365 => (tributarylaw3_OpsBack.l0 k (Int.tmod a0 1000000000) t341 t347 t353 t359 t362 t365 0 0 0)))))))))) = some r := h
  clear h
  replace H := Option.bind_eq_some_iff.mp H
  obtain ⟨t341, A30, H⟩ := H
  replace H : ((ops_Apply.f k 2 0 0 0 (Int.tmod a0 1000000000) t341 ([] : List (S62))).bind fun t344 => ((ops_Apply.f k 2 0 0 0 (wrap64 (-(Int.tmod a0 1000000000))) t344 ([] : List (S62))).bind fun t347 => ((ops_Apply.f k 2 0 0 3 0 t341 ([] : List (S62))).bind fun t350 => ((ops_Apply.f k 2 0 0 3 0 t350 ([] : List (S62))).bind fun t353 => ((ops_Apply.f k 2 0 0 2 (Int.tmod a0 1000000000) t341 ([] : List (S62))).bind fun t356 => ((ops_Apply.f k 2 0 0 2 (wrap64 (-(Int.tmod a0 1000000000))) t356 ([] : List (S62))).bind fun t359 => ((ops_Apply.f k 3 0 0 0 (Int.tmod a0 1000000000) t341 ([] : List (S62))).bind fun t362 => ((ops_Apply.f k 3 0 0 1 (Int.tmod a0 1000000000) t341 ([] : List (S62))).bind fun t365 => (tributarylaw3_OpsBack.l0 k (Int.tmod a0 1000000000) t341 t347 t353 t359 t362 t365 0 0 0))))))))) = some r := H
  have A3 := Aside0.mk A30
  clear A30
  replace H := Option.bind_eq_some_iff.mp H
  obtain ⟨t344, A40, H⟩ := H
  replace H : ((ops_Apply.f k 2 0 0 0 (wrap64 (-(Int.tmod a0 1000000000))) t344 ([] : List (S62))).bind fun t347 => ((ops_Apply.f k 2 0 0 3 0 t341 ([] : List (S62))).bind fun t350 => ((ops_Apply.f k 2 0 0 3 0 t350 ([] : List (S62))).bind fun t353 => ((ops_Apply.f k 2 0 0 2 (Int.tmod a0 1000000000) t341 ([] : List (S62))).bind fun t356 => ((ops_Apply.f k 2 0 0 2 (wrap64 (-(Int.tmod a0 1000000000))) t356 ([] : List (S62))).bind fun t359 => ((ops_Apply.f k 3 0 0 0 (Int.tmod a0 1000000000) t341 ([] : List (S62))).bind fun t362 => ((ops_Apply.f k 3 0 0 1 (Int.tmod a0 1000000000) t341 ([] : List (S62))).bind fun t365 => (tributarylaw3_OpsBack.l0 k (Int.tmod a0 1000000000) t341 t347 t353 t359 t362 t365 0 0 0)))))))) = some r := H
  have A4 := Aside0.mk A40
  clear A40
  replace H := Option.bind_eq_some_iff.mp H
  obtain ⟨t347, A50, H⟩ := H
  replace H : ((ops_Apply.f k 2 0 0 3 0 t341 ([] : List (S62))).bind fun t350 => ((ops_Apply.f k 2 0 0 3 0 t350 ([] : List (S62))).bind fun t353 => ((ops_Apply.f k 2 0 0 2 (Int.tmod a0 1000000000) t341 ([] : List (S62))).bind fun t356 => ((ops_Apply.f k 2 0 0 2 (wrap64 (-(Int.tmod a0 1000000000))) t356 ([] : List (S62))).bind fun t359 => ((ops_Apply.f k 3 0 0 0 (Int.tmod a0 1000000000) t341 ([] : List (S62))).bind fun t362 => ((ops_Apply.f k 3 0 0 1 (Int.tmod a0 1000000000) t341 ([] : List (S62))).bind fun t365 => (tributarylaw3_OpsBack.l0 k (Int.tmod a0 1000000000) t341 t347 t353 t359 t362 t365 0 0 0))))))) = some r := H
  have A5 := Aside0.mk A50
  clear A50
  replace H := Option.bind_eq_some_iff.mp H
  obtain ⟨t350, A60, H⟩ := H
  replace H : ((ops_Apply.f k 2 0 0 3 0 t350 ([] : List (S62))).bind fun t353 => ((ops_Apply.f k 2 0 0 2 (Int.tmod a0 1000000000) t341 ([] : List (S62))).bind fun t356 => ((ops_Apply.f k 2 0 0 2 (wrap64 (-(Int.tmod a0 1000000000))) t356 ([] : List (S62))).bind fun t359 => ((ops_Apply.f k 3 0 0 0 (Int.tmod a0 1000000000) t341 ([] : List (S62))).bind fun t362 => ((ops_Apply.f k 3 0 0 1 (Int.tmod a0 1000000000) t341 ([] : List (S62))).bind fun t365 => (tributarylaw3_OpsBack.l0 k (Int.tmod a0 1000000000) t341 t347 t353 t359 t362 t365 0 0 0)))))) = some r := H
  have A6 := Aside0.mk A60
  clear A60
  replace H := Option.bind_eq_some_iff.mp H
  obtain ⟨t353, A70, H⟩ := H
  replace H : ((ops_Apply.f k 2 0 0 2 (Int.tmod a0 1000000000) t341 ([] : List (S62))).bind fun t356 => ((ops_Apply.f k 2 0 0 2 (wrap64 (-(Int.tmod a0 1000000000))) t356 ([] : List (S62))).bind fun t359 => ((ops_Apply.f k 3 0 0 0 (Int.tmod a0 1000000000) t341 ([] : List (S62))).bind fun t362 => ((ops_Apply.f k 3 0 0 1 (Int.tmod a0 1000000000) t341 ([] : List (S62))).bind fun t365 => (tributarylaw3_OpsBack.l0 k (Int.tmod a0 1000000000) t341 t347 t353 t359 t362 t365 0 0 0))))) = some r := H
  have A7 := Aside0.mk A70
  clear A70
  replace H := Option.bind_eq_some_iff.mp H
  obtain ⟨t356, A80, H⟩ := H
  replace H : ((ops_Apply.f k 2 0 0 2 (wrap64 (-(Int.tmod a0 1000000000))) t356 ([] : List (S62))).bind fun t359 => ((ops_Apply.f k 3 0 0 0 (Int.tmod a0 1000000000) t341 ([] : List (S62))).bind fun t362 => ((ops_Apply.f k 3 0 0 1 (Int.tmod a0 1000000000) t341 ([] : List (S62))).bind fun t365 => (tributarylaw3_OpsBack.l0 k (Int.tmod a0 1000000000) t341 t347 t353 t359 t362 t365 0 0 0)))) = some r := H
  have A8 := Aside0.mk A80
  clear A80
  replace H := Option.bind_eq_some_iff.mp H
  obtain ⟨t359, A90, H⟩ := H
  replace H : ((ops_Apply.f k 3 0 0 0 (Int.tmod a0 1000000000) t341 ([] : List (S62))).bind fun t362 => ((ops_Apply.f k 3 0 0 1 (Int.tmod a0 1000000000) t341 ([] : List (S62))).bind fun t365 => (tributarylaw3_OpsBack.l0 k (Int.tmod a0 1000000000) t341 t347 t353 t359 t362 t365 0 0 0))) = some r := H
  have A9 := Aside0.mk A90
  clear A90
  replace H := Option.bind_eq_some_iff.mp H
  obtain ⟨t362, A100, H⟩ := H
  replace H : ((ops_Apply.f k 3 0 0 1 (Int.tmod a0 1000000000) t341 ([] : List (S62))).bind fun t365 => (tributarylaw3_OpsBack.l0 k (Int.tmod a0 1000000000) t341 t347 t353 t359 t362 t365 0 0 0)) = some r := H
  have A10 := Aside0.mk A100
  clear A100
  replace H := Option.bind_eq_some_iff.mp H
  obtain ⟨t365, A110, H⟩ := H
  replace H : (tributarylaw3_OpsBack.l0 k (Int.tmod a0 1000000000) t341 t347 t353 t359 t362 t365 0 0 0) = some r := H
  have A11 := Aside0.mk A110
  clear A110
  have H' := Aside0.mk H
  clear H
  go_enter Tryd.func11, Tryd.ntmps11
  go_wp2_with fail
  ((with_reducible refine (tributarylaw3_few.calls _ _ l1 64 t341 _ ?side1 ?side2 A3.out).mono ?_); (case side1 => repeat (first | exact HR1.out | (with_reducible refine Kd.C_alloc ?_ _) | (with_reducible refine Kd.C_drewN ?_ _) | (with_reducible refine Kd.C_drew ?_))); (case side2 => exact HC1.out); rintro e w12 ⟨v342, rfl, ho0, hb⟩; have n0_ := Aside0.mk (Kd.R_lower ho0 (below_size (by repeat (first | (with_reducible first | exact HB.out | apply below_alloc | apply pw_below_drewN | apply below_drew1) | exact HB.out)))); have n1_ := Aside0.mk (below_step (by repeat (first | (with_reducible first | exact HB.out | apply below_alloc | apply pw_below_drewN | apply below_drew1) | exact HB.out)) hb); clear HB; have HO343 := n0_; have HB := n1_; clear n0_ n1_; (try clear hb); (try clear hb2); (try clear hk); (try clear hi); (try clear ho0); obtain ⟨Ao13, co13, eo13⟩ := Kd.R_slice HO343.out; subst eo13)
  go_wp2_with fail
  ((refine (ops_Apply.calls k 2 0 0 0 (Int.tmod a0 1000000000) _ _ t341 _ _ ([] : List (S62)) t344 _ ?side1 ?side2 ?side3 ?side4 A4.out).mono ?_); (case side1 => repeat (first | exact (Kd.R_reads' HO343.out).2.2 | (with_reducible refine Kd.C_alloc ?_ _) | (with_reducible refine Kd.C_drewN ?_ _) | (with_reducible refine Kd.C_drew ?_))); (case side2 => exact (Kd.R_reads' HO343.out).2.1); (case side3 => exact Kd.C_nil _ _); (case side4 => exact Nat.le_refl _); rintro e w14 ⟨v345, rfl, ho0, hb⟩; have n0_ := Aside0.mk (Kd.R_elder' (by (with_reducible repeat (first | apply Kd.R_alloc | apply Kd.R_drewN | apply Kd.R_drew)); exact HO343.out) (Kd.R_base ho0) hb); have n1_ := Aside0.mk (Kd.R_lower (Kd.R_new' ho0 (Kd.R_lt (by (with_reducible repeat (first | apply Kd.R_alloc | apply Kd.R_drewN | apply Kd.R_drew)); exact HO343.out))) (below_size (by repeat (first | (with_reducible first | exact HB.out | apply below_alloc | apply pw_below_drewN | apply below_drew1) | exact HB.out)))); have n2_ := Aside0.mk (below_step (by repeat (first | (with_reducible first | exact HB.out | apply below_alloc | apply pw_below_drewN | apply below_drew1) | exact HB.out)) hb); clear HO343; clear HB; have HO343 := n0_; have HO346 := n1_; have HB := n2_; clear n0_ n1_ n2_; (try clear hb); (try clear hb2); (try clear hk); (try clear hi); (try clear ho0); obtain ⟨Ao15, co15, eo15⟩ := Kd.R_slice HO346.out; subst eo15)
  go_wp2_with fail
  ((refine (ops_Apply.calls k 2 0 0 0 (wrap64 (-(Int.tmod a0 1000000000))) _ _ t344 _ _ ([] : List (S62)) t347 _ ?side1 ?side2 ?side3 ?side4 A5.out).mono ?_); (case side1 => repeat (first | exact (Kd.R_reads' HO346.out).2.2 | (with_reducible refine Kd.C_alloc ?_ _) | (with_reducible refine Kd.C_drewN ?_ _) | (with_reducible refine Kd.C_drew ?_))); (case side2 => exact (Kd.R_reads' HO346.out).2.1); (case side3 => exact Kd.C_nil _ _); (case side4 => exact Nat.le_refl _); rintro e w16 ⟨v348, rfl, ho0, hb⟩; have n0_ := Aside0.mk (Kd.R_elder' (by (with_reducible repeat (first | apply Kd.R_alloc | apply Kd.R_drewN | apply Kd.R_drew)); exact HO343.out) (Kd.R_base ho0) hb); have n1_ := Aside0.mk (Kd.R_elder' (by (with_reducible repeat (first | apply Kd.R_alloc | apply Kd.R_drewN | apply Kd.R_drew)); exact HO346.out) (Kd.R_base ho0) hb); have n2_ := Aside0.mk (Kd.R_lower (Kd.R_new' (Kd.R_new' ho0 (Kd.R_lt (by (with_reducible repeat (first | apply Kd.R_alloc | apply Kd.R_drewN | apply Kd.R_drew)); exact HO343.out))) (Kd.R_lt (by (with_reducible repeat (first | apply Kd.R_alloc | apply Kd.R_drewN | apply Kd.R_drew)); exact HO346.out))) (below_size (by repeat (first | (with_reducible first | exact HB.out | apply below_alloc | apply pw_below_drewN | apply below_drew1) | exact HB.out)))); have n3_ := Aside0.mk (below_step (by repeat (first | (with_reducible first | exact HB.out | apply below_alloc | apply pw_below_drewN | apply below_drew1) | exact HB.out)) hb); clear HO343; clear HO346; clear HB; have HO343 := n0_; have HO346 := n1_; have HO349 := n2_; have HB := n3_; clear n0_ n1_ n2_ n3_; (try clear hb); (try clear hb2); (try clear hk); (try clear hi); (try clear ho0))
  go_wp2_with fail
  ((refine (ops_Apply.calls k 2 0 0 3 0 _ _ t341 _ _ ([] : List (S62)) t350 _ ?side1 ?side2 ?side3 ?side4 A6.out).mono ?_); (case side1 => repeat (first | exact (Kd.R_reads' HO343.out).2.2 | (with_reducible refine Kd.C_alloc ?_ _) | (with_reducible refine Kd.C_drewN ?_ _) | (with_reducible refine Kd.C_drew ?_))); (case side2 => exact (Kd.R_reads' HO343.out).2.1); (case side3 => exact Kd.C_nil _ _); (case side4 => exact Nat.le_refl _); rintro e w17 ⟨v351, rfl, ho0, hb⟩; have n0_ := Aside0.mk (Kd.R_elder' (by (with_reducible repeat (first | apply Kd.R_alloc | apply Kd.R_drewN | apply Kd.R_drew)); exact HO343.out) (Kd.R_base ho0) hb); have n1_ := Aside0.mk (Kd.R_elder' (by (with_reducible repeat (first | apply Kd.R_alloc | apply Kd.R_drewN | apply Kd.R_drew)); exact HO346.out) (Kd.R_base ho0) hb); have n2_ := Aside0.mk (Kd.R_elder' (by (with_reducible repeat (first | apply Kd.R_alloc | apply Kd.R_drewN | apply Kd.R_drew)); exact HO349.out) (Kd.R_base ho0) hb); have n3_ := Aside0.mk (Kd.R_lower (Kd.R_new' (Kd.R_new' (Kd.R_new' ho0 (Kd.R_lt (by (with_reducible repeat (first | apply Kd.R_alloc | apply Kd.R_drewN | apply Kd.R_drew)); exact HO343.out))) (Kd.R_lt (by (with_reducible repeat (first | apply Kd.R_alloc | apply Kd.R_drewN | apply Kd.R_drew)); exact HO346.out))) (Kd.R_lt (by (with_reducible repeat (first | apply Kd.R_alloc | apply Kd.R_drewN | apply Kd.R_drew)); exact HO349.out))) (below_size (by repeat (first | (with_reducible first | exact HB.out | apply below_alloc | apply pw_below_drewN | apply below_drew1) | exact HB.out)))); have n4_ := Aside0.mk (below_step (by repeat (first | (with_reducible first | exact HB.out | apply below_alloc | apply pw_below_drewN | apply below_drew1) | exact HB.out)) hb); clear HO343; clear HO346; clear HO349; clear HB; have HO343 := n0_; have HO346 := n1_; have HO349 := n2_; have HO352 := n3_; have HB := n4_; clear n0_ n1_ n2_ n3_ n4_; (try clear hb); (try clear hb2); (try clear hk); (try clear hi); (try clear ho0); obtain ⟨Ao18, co18, eo18⟩ := Kd.R_slice HO352.out; subst eo18)
  go_wp2_with fail
  ((refine (ops_Apply.calls k 2 0 0 3 0 _ _ t350 _ _ ([] : List (S62)) t353 _ ?side1 ?side2 ?side3 ?side4 A7.out).mono ?_); (case side1 => repeat (first | exact (Kd.R_reads' HO352.out).2.2 | (with_reducible refine Kd.C_alloc ?_ _) | (with_reducible refine Kd.C_drewN ?_ _) | (with_reducible refine Kd.C_drew ?_))); (case side2 => exact (Kd.R_reads' HO352.out).2.1); (case side3 => exact Kd.C_nil _ _); (case side4 => exact Nat.le_refl _); rintro e w19 ⟨v354, rfl, ho0, hb⟩; have n0_ := Aside0.mk (Kd.R_elder' (by (with_reducible repeat (first | apply Kd.R_alloc | apply Kd.R_drewN | apply Kd.R_drew)); exact HO343.out) (Kd.R_base ho0) hb); have n1_ := Aside0.mk (Kd.R_elder' (by (with_reducible repeat (first | apply Kd.R_alloc | apply Kd.R_drewN | apply Kd.R_drew)); exact HO346.out) (Kd.R_base ho0) hb); have n2_ := Aside0.mk (Kd.R_elder' (by (with_reducible repeat (first | apply Kd.R_alloc | apply Kd.R_drewN | apply Kd.R_drew)); exact HO349.out) (Kd.R_base ho0) hb); have n3_ := Aside0.mk (Kd.R_elder' (by (with_reducible repeat (first | apply Kd.R_alloc | apply Kd.R_drewN | apply Kd.R_drew)); exact HO352.out) (Kd.R_base ho0) hb); have n4_ := Aside0.mk (Kd.R_lower (Kd.R_new' (Kd.R_new' (Kd.R_new' (Kd.R_new' ho0 (Kd.R_lt (by (with_reducible repeat (first | apply Kd.R_alloc | apply Kd.R_drewN | apply Kd.R_drew)); exact HO343.out))) (Kd.R_lt (by (with_reducible repeat (first | apply Kd.R_alloc | apply Kd.R_drewN | apply Kd.R_drew)); exact HO346.out))) (Kd.R_lt (by (with_reducible repeat (first | apply Kd.R_alloc | apply Kd.R_drewN | apply Kd.R_drew)); exact HO349.out))) (Kd.R_lt (by (with_reducible repeat (first | apply Kd.R_alloc | apply Kd.R_drewN | apply Kd.R_drew)); exact HO352.out))) (below_size (by repeat (first | (with_reducible first | exact HB.out | apply below_alloc | apply pw_below_drewN | apply below_drew1) | exact HB.out)))); have n5_ := Aside0.mk (below_step (by repeat (first | (with_reducible first | exact HB.out | apply below_alloc | apply pw_below_drewN | apply below_drew1) | exact HB.out)) hb); clear HO343; clear HO346; clear HO349; clear HO352; clear HB; have HO343 := n0_; have HO346 := n1_; have HO349 := n2_; have HO352 := n3_; have HO355 := n4_; have HB := n5_; clear n0_ n1_ n2_ n3_ n4_ n5_; (try clear hb); (try clear hb2); (try clear hk); (try clear hi); (try clear ho0))
  go_wp2_with fail
  ((refine (ops_Apply.calls k 2 0 0 2 (Int.tmod a0 1000000000) _ _ t341 _ _ ([] : List (S62)) t356 _ ?side1 ?side2 ?side3 ?side4 A8.out).mono ?_); (case side1 => repeat (first | exact (Kd.R_reads' HO343.out).2.2 | (with_reducible refine Kd.C_alloc ?_ _) | (with_reducible refine Kd.C_drewN ?_ _) | (with_reducible refine Kd.C_drew ?_))); (case side2 => exact (Kd.R_reads' HO343.out).2.1); (case side3 => exact Kd.C_nil _ _); (case side4 => exact Nat.le_refl _); rintro e w20 ⟨v357, rfl, ho0, hb⟩; have n0_ := Aside0.mk (Kd.R_elder' (by (with_reducible repeat (first | apply Kd.R_alloc | apply Kd.R_drewN | apply Kd.R_drew)); exact HO343.out) (Kd.R_base ho0) hb); have n1_ := Aside0.mk (Kd.R_elder' (by (with_reducible repeat (first | apply Kd.R_alloc | apply Kd.R_drewN | apply Kd.R_drew)); exact HO346.out) (Kd.R_base ho0) hb); have n2_ := Aside0.mk (Kd.R_elder' (by (with_reducible repeat (first | apply Kd.R_alloc | apply Kd.R_drewN | apply Kd.R_drew)); exact HO349.out) (Kd.R_base ho0) hb); have n3_ := Aside0.mk (Kd.R_elder' (by (with_reducible repeat (first | apply Kd.R_alloc | apply Kd.R_drewN | apply Kd.R_drew)); exact HO352.out) (Kd.R_base ho0) hb); have n4_ := Aside0.mk (Kd.R_elder' (by (with_reducible repeat (first | apply Kd.R_alloc | apply Kd.R_drewN | apply Kd.R_drew)); exact HO355.out) (Kd.R_base ho0) hb); have n5_ := Aside0.mk (Kd.R_lower (Kd.R_new' (Kd.R_new' (Kd.R_new' (Kd.R_new' (Kd.R_new' ho0 (Kd.R_lt (by (with_reducible repeat (first | apply Kd.R_alloc | apply Kd.R_drewN | apply Kd.R_drew)); exact HO343.out))) (Kd.R_lt (by (with_reducible repeat (first | apply Kd.R_alloc | apply Kd.R_drewN | apply Kd.R_drew)); exact HO346.out))) (Kd.R_lt (by (with_reducible repeat (first | apply Kd.R_alloc | apply Kd.R_drewN | apply Kd.R_drew)); exact HO349.out))) (Kd.R_lt (by (with_reducible repeat (first | apply Kd.R_alloc | apply Kd.R_drewN | apply Kd.R_drew)); exact HO352.out))) (Kd.R_lt (by (with_reducible repeat (first | apply Kd.R_alloc | apply Kd.R_drewN | apply Kd.R_drew)); exact HO355.out))) (below_size (by repeat (first | (with_reducible first | exact HB.out | apply below_alloc | apply pw_below_drewN | apply below_drew1) | exact HB.out)))); have n6_ := Aside0.mk (below_step (by repeat (first | (with_reducible first | exact HB.out | apply below_alloc | apply pw_below_drewN | apply below_drew1) | exact HB.out)) hb); clear HO343; clear HO346; clear HO349; clear HO352; clear HO355; clear HB; have HO343 := n0_; have HO346 := n1_; have HO349 := n2_; have HO352 := n3_; have HO355 := n4_; have HO358 := n5_; have HB := n6_; clear n0_ n1_ n2_ n3_ n4_ n5_ n6_; (try clear hb); (try clear hb2); (try clear hk); (try clear hi); (try clear ho0); obtain ⟨Ao21, co21, eo21⟩ := Kd.R_slice HO358.out; subst eo21)
  go_wp2_with fail
  ((refine (ops_Apply.calls k 2 0 0 2 (wrap64 (-(Int.tmod a0 1000000000))) _ _ t356 _ _ ([] : List (S62)) t359 _ ?side1 ?side2 ?side3 ?side4 A9.out).mono ?_); (case side1 => repeat (first | exact (Kd.R_reads' HO358.out).2.2 | (with_reducible refine Kd.C_alloc ?_ _) | (with_reducible refine Kd.C_drewN ?_ _) | (with_reducible refine Kd.C_drew ?_))); (case side2 => exact (Kd.R_reads' HO358.out).2.1); (case side3 => exact Kd.C_nil _ _); (case side4 => exact Nat.le_refl _); rintro e w22 ⟨v360, rfl, ho0, hb⟩; have n0_ := Aside0.mk (Kd.R_elder' (by (with_reducible repeat (first | apply Kd.R_alloc | apply Kd.R_drewN | apply Kd.R_drew)); exact HO343.out) (Kd.R_base ho0) hb); have n1_ := Aside0.mk (Kd.R_elder' (by (with_reducible repeat (first | apply Kd.R_alloc | apply Kd.R_drewN | apply Kd.R_drew)); exact HO346.out) (Kd.R_base ho0) hb); have n2_ := Aside0.mk (Kd.R_elder' (by (with_reducible repeat (first | apply Kd.R_alloc | apply Kd.R_drewN | apply Kd.R_drew)); exact HO349.out) (Kd.R_base ho0) hb); have n3_ := Aside0.mk (Kd.R_elder' (by (with_reducible repeat (first | apply Kd.R_alloc | apply Kd.R_drewN | apply Kd.R_drew)); exact HO352.out) (Kd.R_base ho0) hb); have n4_ := Aside0.mk (Kd.R_elder' (by (with_reducible repeat (first | apply Kd.R_alloc | apply Kd.R_drewN | apply Kd.R_drew)); exact HO355.out) (Kd.R_base ho0) hb); have n5_ := Aside0.mk (Kd.R_elder' (by (with_reducible repeat (first | apply Kd.R_alloc | apply Kd.R_drewN | apply Kd.R_drew)); exact HO358.out) (Kd.R_base ho0) hb); have n6_ := Aside0.mk (Kd.R_lower (Kd.R_new' (Kd.R_new' (Kd.R_new' (Kd.R_new' (Kd.R_new' (Kd.R_new' ho0 (Kd.R_lt (by (with_reducible repeat (first | apply Kd.R_alloc | apply Kd.R_drewN | apply Kd.R_drew)); exact HO343.out))) (Kd.R_lt (by (with_reducible repeat (first | apply Kd.R_alloc | apply Kd.R_drewN | apply Kd.R_drew)); exact HO346.out))) (Kd.R_lt (by (with_reducible repeat (first | apply Kd.R_alloc | apply Kd.R_drewN | apply Kd.R_drew)); exact HO349.out))) (Kd.R_lt (by (with_reducible repeat (first | apply Kd.R_alloc | apply Kd.R_drewN | apply Kd.R_drew)); exact HO352.out))) (Kd.R_lt (by (with_reducible repeat (first | apply Kd.R_alloc | apply Kd.R_drewN | apply Kd.R_drew)); exact HO355.out))) (Kd.R_lt (by (with_reducible repeat (first | apply Kd.R_alloc | apply Kd.R_drewN | apply Kd.R_drew)); exact HO358.out))) (below_size (by repeat (first | (with_reducible first | exact HB.out | apply below_alloc | apply pw_below_drewN | apply below_drew1) | exact HB.out)))); have n7_ := Aside0.mk (below_step (by repeat (first | (with_reducible first | exact HB.out | apply below_alloc | apply pw_below_drewN | apply below_drew1) | exact HB.out)) hb); clear HO343; clear HO346; clear HO349; clear HO352; clear HO355; clear HO358; clear HB; have HO343 := n0_; have HO346 := n1_; have HO349 := n2_; have HO352 := n3_; have HO355 := n4_; have HO358 := n5_; have HO361 := n6_; have HB := n7_; clear n0_ n1_ n2_ n3_ n4_ n5_ n6_ n7_; (try clear hb); (try clear hb2); (try clear hk); (try clear hi); (try clear ho0))
  go_wp2_with fail
  ((refine (ops_Apply.calls k 3 0 0 0 (Int.tmod a0 1000000000) _ _ t341 _ _ ([] : List (S62)) t362 _ ?side1 ?side2 ?side3 ?side4 A10.out).mono ?_); (case side1 => repeat (first | exact (Kd.R_reads' HO343.out).2.2 | (with_reducible refine Kd.C_alloc ?_ _) | (with_reducible refine Kd.C_drewN ?_ _) | (with_reducible refine Kd.C_drew ?_))); (case side2 => exact (Kd.R_reads' HO343.out).2.1); (case side3 => exact Kd.C_nil _ _); (case side4 => exact Nat.le_refl _); rintro e w23 ⟨v363, rfl, ho0, hb⟩; have n0_ := Aside0.mk (Kd.R_elder' (by (with_reducible repeat (first | apply Kd.R_alloc | apply Kd.R_drewN | apply Kd.R_drew)); exact HO343.out) (Kd.R_base ho0) hb); have n1_ := Aside0.mk (Kd.R_elder' (by (with_reducible repeat (first | apply Kd.R_alloc | apply Kd.R_drewN | apply Kd.R_drew)); exact HO346.out) (Kd.R_base ho0) hb); have n2_ := Aside0.mk (Kd.R_elder' (by (with_reducible repeat (first | apply Kd.R_alloc | apply Kd.R_drewN | apply Kd.R_drew)); exact HO349.out) (Kd.R_base ho0) hb); have n3_ := Aside0.mk (Kd.R_elder' (by (with_reducible repeat (first | apply Kd.R_alloc | apply Kd.R_drewN | apply Kd.R_drew)); exact HO352.out) (Kd.R_base ho0) hb); have n4_ := Aside0.mk (Kd.R_elder' (by (with_reducible repeat (first | apply Kd.R_alloc | apply Kd.R_drewN | apply Kd.R_drew)); exact HO355.out) (Kd.R_base ho0) hb); have n5_ := Aside0.mk (Kd.R_elder' (by (with_reducible repeat (first | apply Kd.R_alloc | apply Kd.R_drewN | apply Kd.R_drew)); exact HO358.out) (Kd.R_base ho0) hb); have n6_ := Aside0.mk (Kd.R_elder' (by (with_reducible repeat (first | apply Kd.R_alloc | apply Kd.R_drewN | apply Kd.R_drew)); exact HO361.out) (Kd.R_base ho0) hb); have n7_ := Aside0.mk (Kd.R_lower (Kd.R_new' (Kd.R_new' (Kd.R_new' (Kd.R_new' (Kd.R_new' (Kd.R_new' (Kd.R_new' ho0 (Kd.R_lt (by (with_reducible repeat (first | apply Kd.R_alloc | apply Kd.R_drewN | apply Kd.R_drew)); exact HO343.out))) (Kd.R_lt (by (with_reducible repeat (first | apply Kd.R_alloc | apply Kd.R_drewN | apply Kd.R_drew)); exact HO346.out))) (Kd.R_lt (by (with_reducible repeat (first | apply Kd.R_alloc | apply Kd.R_drewN | apply Kd.R_drew)); exact HO349.out))) (Kd.R_lt (by (with_reducible repeat (first | apply Kd.R_alloc | apply Kd.R_drewN | apply Kd.R_drew)); exact HO352.out))) (Kd.R_lt (by (with_reducible repeat (first | apply Kd.R_alloc | apply Kd.R_drewN | apply Kd.R_drew)); exact HO355.out))) (Kd.R_lt (by (with_reducible repeat (first | apply Kd.R_alloc | apply Kd.R_drewN | apply Kd.R_drew)); exact HO358.out))) (Kd.R_lt (by (with_reducible repeat (first | apply Kd.R_alloc | apply Kd.R_drewN | apply Kd.R_drew)); exact HO361.out))) (below_size (by repeat (first | (with_reducible first | exact HB.out | apply below_alloc | apply pw_below_drewN | apply below_drew1) | exact HB.out)))); have n8_ := Aside0.mk (below_step (by repeat (first | (with_reducible first | exact HB.out | apply below_alloc | apply pw_below_drewN | apply below_drew1) | exact HB.out)) hb); clear HO343; clear HO346; clear HO349; clear HO352; clear HO355; clear HO358; clear HO361; clear HB; have HO343 := n0_; have HO346 := n1_; have HO349 := n2_; have HO352 := n3_; have HO355 := n4_; have HO358 := n5_; have HO361 := n6_; have HO364 := n7_; have HB := n8_; clear n0_ n1_ n2_ n3_ n4_ n5_ n6_ n7_ n8_; (try clear hb); (try clear hb2); (try clear hk); (try clear hi); (try clear ho0))
  go_wp2_with fail
  ((refine (ops_Apply.calls k 3 0 0 1 (Int.tmod a0 1000000000) _ _ t341 _ _ ([] : List (S62)) t365 _ ?side1 ?side2 ?side3 ?side4 A11.out).mono ?_); (case side1 => repeat (first | exact (Kd.R_reads' HO343.out).2.2 | (with_reducible refine Kd.C_alloc ?_ _) | (with_reducible refine Kd.C_drewN ?_ _) | (with_reducible refine Kd.C_drew ?_))); (case side2 => exact (Kd.R_reads' HO343.out).2.1); (case side3 => exact Kd.C_nil _ _); (case side4 => exact Nat.le_refl _); rintro e w24 ⟨v366, rfl, ho0, hb⟩; have n0_ := Aside0.mk (Kd.R_elder' (by (with_reducible repeat (first | apply Kd.R_alloc | apply Kd.R_drewN | apply Kd.R_drew)); exact HO343.out) (Kd.R_base ho0) hb); have n1_ := Aside0.mk (Kd.R_elder' (by (with_reducible repeat (first | apply Kd.R_alloc | apply Kd.R_drewN | apply Kd.R_drew)); exact HO346.out) (Kd.R_base ho0) hb); have n2_ := Aside0.mk (Kd.R_elder' (by (with_reducible repeat (first | apply Kd.R_alloc | apply Kd.R_drewN | apply Kd.R_drew)); exact HO349.out) (Kd.R_base ho0) hb); have n3_ := Aside0.mk (Kd.R_elder' (by (with_reducible repeat (first | apply Kd.R_alloc | apply Kd.R_drewN | apply Kd.R_drew)); exact HO352.out) (Kd.R_base ho0) hb); have n4_ := Aside0.mk (Kd.R_elder' (by (with_reducible repeat (first | apply Kd.R_alloc | apply Kd.R_drewN | apply Kd.R_drew)); exact HO355.out) (Kd.R_base ho0) hb); have n5_ := Aside0.mk (Kd.R_elder' (by (with_reducible repeat (first | apply Kd.R_alloc | apply Kd.R_drewN | apply Kd.R_drew)); exact HO358.out) (Kd.R_base ho0) hb); have n6_ := Aside0.mk (Kd.R_elder' (by (with_reducible repeat (first | apply Kd.R_alloc | apply Kd.R_drewN | apply Kd.R_drew)); exact HO361.out) (Kd.R_base ho0) hb); have n7_ := Aside0.mk (Kd.R_elder' (by (with_reducible repeat (first | apply Kd.R_alloc | apply Kd.R_drewN | apply Kd.R_drew)); exact HO364.out) (Kd.R_base ho0) hb); have n8_ := Aside0.mk (Kd.R_lower (Kd.R_new' (Kd.R_new' (Kd.R_new' (Kd.R_new' (Kd.R_new' (Kd.R_new' (Kd.R_new' (Kd.R_new' ho0 (Kd.R_lt (by (with_reducible repeat (first | apply Kd.R_alloc | apply Kd.R_drewN | apply Kd.R_drew)); exact HO343.out))) (Kd.R_lt (by (with_reducible repeat (first | apply Kd.R_alloc | apply Kd.R_drewN | apply Kd.R_drew)); exact HO346.out))) (Kd.R_lt (by (with_reducible repeat (first | apply Kd.R_alloc | apply Kd.R_drewN | apply Kd.R_drew)); exact HO349.out))) (Kd.R_lt (by (with_reducible repeat (first | apply Kd.R_alloc | apply Kd.R_drewN | apply Kd.R_drew)); exact HO352.out))) (Kd.R_lt (by (with_reducible repeat (first | apply Kd.R_alloc | apply Kd.R_drewN | apply Kd.R_drew)); exact HO355.out))) (Kd.R_lt (by (with_reducible repeat (first | apply Kd.R_alloc | apply Kd.R_drewN | apply Kd.R_drew)); exact HO358.out))) (Kd.R_lt (by (with_reducible repeat (first | apply Kd.R_alloc | apply Kd.R_drewN | apply Kd.R_drew)); exact HO361.out))) (Kd.R_lt (by (with_reducible repeat (first | apply Kd.R_alloc | apply Kd.R_drewN | apply Kd.R_drew)); exact HO364.out))) (below_size (by repeat (first | (with_reducible first | exact HB.out | apply below_alloc | apply pw_below_drewN | apply below_drew1) | exact HB.out)))); have n9_ := Aside0.mk (below_step (by repeat (first | (with_reducible first | exact HB.out | apply below_alloc | apply pw_below_drewN | apply below_drew1) | exact HB.out)) hb); clear HO343; clear HO346; clear HO349; clear HO352; clear HO355; clear HO358; clear HO361; clear HO364; clear HB; have HO343 := n0_; have HO346 := n1_; have HO349 := n2_; have HO352 := n3_; have HO355 := n4_; have HO358 := n5_; have HO361 := n6_; have HO364 := n7_; have HO367 := n8_; have HB := n9_; clear n0_ n1_ n2_ n3_ n4_ n5_ n6_ n7_ n8_ n9_; (try clear hb); (try clear hb2); (try clear hk); (try clear hi); (try clear ho0))
  go_wp2_with fail
  repeat (go_quiet (fail); go_wp2_with fail)
  go_loopg [11, 12, 13] k (fun kq v11 v12 v13 w' => ∃ (x11_1 : Int) (x12_1 : Int) (x13_1 : Int), v11 = .int .i64 x11_1 ∧ v12 = .int .i64 x12_1 ∧ v13 = .int .i64 x13_1 ∧ Aside0 (tributarylaw3_OpsBack.l0 kq (Int.tmod a0 1000000000) t341 t347 t353 t359 t362 t365 x11_1 x12_1 x13_1 = some r) ∧ Aside0 (kq ≤ k) ∧ Aside0 (Kd.R k62 62 w' w.heap.size (fun k_ => some k_ ≠ (v348 : Value).ownBlock ∧ some k_ ≠ (v354 : Value).ownBlock ∧ some k_ ≠ (v360 : Value).ownBlock ∧ some k_ ≠ (v363 : Value).ownBlock ∧ some k_ ≠ (v366 : Value).ownBlock) (.slice Ao13 t341.length co13) t341) ∧ Aside0 (Kd.R k62 62 w' w.heap.size (fun k_ => some k_ ≠ ((.slice Ao13 t341.length co13) : Value).ownBlock ∧ some k_ ≠ (v354 : Value).ownBlock ∧ some k_ ≠ (v360 : Value).ownBlock ∧ some k_ ≠ (v363 : Value).ownBlock ∧ some k_ ≠ (v366 : Value).ownBlock) v348 t347) ∧ Aside0 (Kd.R k62 62 w' w.heap.size (fun k_ => some k_ ≠ ((.slice Ao13 t341.length co13) : Value).ownBlock ∧ some k_ ≠ (v348 : Value).ownBlock ∧ some k_ ≠ (v360 : Value).ownBlock ∧ some k_ ≠ (v363 : Value).ownBlock ∧ some k_ ≠ (v366 : Value).ownBlock) v354 t353) ∧ Aside0 (Kd.R k62 62 w' w.heap.size (fun k_ => some k_ ≠ ((.slice Ao13 t341.length co13) : Value).ownBlock ∧ some k_ ≠ (v348 : Value).ownBlock ∧ some k_ ≠ (v354 : Value).ownBlock ∧ some k_ ≠ (v363 : Value).ownBlock ∧ some k_ ≠ (v366 : Value).ownBlock) v360 t359) ∧ Aside0 (Kd.R k62 62 w' w.heap.size (fun k_ => some k_ ≠ ((.slice Ao13 t341.length co13) : Value).ownBlock ∧ some k_ ≠ (v348 : Value).ownBlock ∧ some k_ ≠ (v354 : Value).ownBlock ∧ some k_ ≠ (v360 : Value).ownBlock ∧ some k_ ≠ (v366 : Value).ownBlock) v363 t362) ∧ Aside0 (Kd.R k62 62 w' w.heap.size (fun k_ => some k_ ≠ ((.slice Ao13 t341.length co13) : Value).ownBlock ∧ some k_ ≠ (v348 : Value).ownBlock ∧ some k_ ≠ (v354 : Value).ownBlock ∧ some k_ ≠ (v360 : Value).ownBlock ∧ some k_ ≠ (v363 : Value).ownBlock) v366 t365) ∧ Aside0 (Below w.heap.size w w'))
  case atStart => exact ⟨(0), (0), (0), (by first | rfl | (simp; done) | (simp [*]; done)), (by first | rfl | (simp; done) | (simp [*]; done)), (by first | rfl | (simp; done) | (simp [*]; done)), H', ⟨Nat.le_refl _⟩, ⟨by (with_reducible repeat (first | apply Kd.R_alloc | apply Kd.R_drewN | apply Kd.R_drew)); exact Kd.R_mono HO343.out (fun _ hk => ⟨hk.1.1.1.1.1.1.2, ⟨hk.1.1.1.1.2, ⟨hk.1.1.2, ⟨hk.1.2, hk.2⟩⟩⟩⟩)⟩, ⟨by (with_reducible repeat (first | apply Kd.R_alloc | apply Kd.R_drewN | apply Kd.R_drew)); exact Kd.R_mono HO349.out (fun _ hk => ⟨hk.1.1.1.1.1.1.1.2, ⟨hk.1.1.1.1.2, ⟨hk.1.1.2, ⟨hk.1.2, hk.2⟩⟩⟩⟩)⟩, ⟨by (with_reducible repeat (first | apply Kd.R_alloc | apply Kd.R_drewN | apply Kd.R_drew)); exact Kd.R_mono HO355.out (fun _ hk => ⟨hk.1.1.1.1.1.1.1.2, ⟨hk.1.1.1.1.1.2, ⟨hk.1.1.2, ⟨hk.1.2, hk.2⟩⟩⟩⟩)⟩, ⟨by (with_reducible repeat (first | apply Kd.R_alloc | apply Kd.R_drewN | apply Kd.R_drew)); exact Kd.R_mono HO361.out (fun _ hk => ⟨hk.1.1.1.1.1.1.1.2, ⟨hk.1.1.1.1.1.2, ⟨hk.1.1.1.2, ⟨hk.1.2, hk.2⟩⟩⟩⟩)⟩, ⟨by (with_reducible repeat (first | apply Kd.R_alloc | apply Kd.R_drewN | apply Kd.R_drew)); exact Kd.R_mono HO364.out (fun _ hk => ⟨hk.1.1.1.1.1.1.1.2, ⟨hk.1.1.1.1.1.2, ⟨hk.1.1.1.2, ⟨hk.1.2, hk.2⟩⟩⟩⟩)⟩, ⟨by (with_reducible repeat (first | apply Kd.R_alloc | apply Kd.R_drewN | apply Kd.R_drew)); exact Kd.R_mono HO367.out (fun _ hk => ⟨hk.1.1.1.1.1.1.1.2, ⟨hk.1.1.1.1.1.2, ⟨hk.1.1.1.2, ⟨hk.1.2, hk.2⟩⟩⟩⟩)⟩, ⟨by repeat (first | (with_reducible first | exact HB.out | apply below_alloc | apply pw_below_drewN | apply below_drew1) | exact HB.out)⟩⟩
  case round =>
    clear H'
    try clear c1
    try clear p2
    try clear p6
    try clear c11
    obtain ⟨x11_1, x12_1, x13_1, rfl, rfl, rfl, HA, HK1, HO_5, HO_6, HO_7, HO_8, HO_9, HO_10, HB⟩ := hrel
    cases gk with
    | zero => exact absurd HA.out (by simp [tributarylaw3_OpsBack.l0])
    | succ k1 =>
      have H := HA.out
      clear HA
      simp only [tributarylaw3_OpsBack.l0] at H
      by_cases c25 : x13_1 < (t341.length : Int)
      · rw [if_pos c25] at H
        have c25b0 : decide (x13_1 < (t341.length : Int)) = true := decide_eq_true c25
        clear c25
        have HC26 := Aside0.mk H
        clear H
        go_upto_region 11 with (fail)
        repeat (go_quiet (fail); go_upto_region 11 with (fail))
        go_cut [76] (fun v76 wc => ∃ (kq : Nat) (x76_25 : Bool), v76 = .bool x76_25 ∧ Aside0 (tributarylaw3_OpsBack.j1 kq (Int.tmod a0 1000000000) t341 t347 t353 t359 t362 t365 x11_1 x12_1 x13_1 x76_25 = some r) ∧ Aside0 (kq ≤ k1) ∧ Aside0 (Kd.R k62 62 wc w.heap.size (fun k_ => some k_ ≠ (v348 : Value).ownBlock ∧ some k_ ≠ (v354 : Value).ownBlock ∧ some k_ ≠ (v360 : Value).ownBlock ∧ some k_ ≠ (v363 : Value).ownBlock ∧ some k_ ≠ (v366 : Value).ownBlock) (.slice Ao13 t341.length co13) t341) ∧ Aside0 (Kd.R k62 62 wc w.heap.size (fun k_ => some k_ ≠ ((.slice Ao13 t341.length co13) : Value).ownBlock ∧ some k_ ≠ (v354 : Value).ownBlock ∧ some k_ ≠ (v360 : Value).ownBlock ∧ some k_ ≠ (v363 : Value).ownBlock ∧ some k_ ≠ (v366 : Value).ownBlock) v348 t347) ∧ Aside0 (Kd.R k62 62 wc w.heap.size (fun k_ => some k_ ≠ ((.slice Ao13 t341.length co13) : Value).ownBlock ∧ some k_ ≠ (v348 : Value).ownBlock ∧ some k_ ≠ (v360 : Value).ownBlock ∧ some k_ ≠ (v363 : Value).ownBlock ∧ some k_ ≠ (v366 : Value).ownBlock) v354 t353) ∧ Aside0 (Kd.R k62 62 wc w.heap.size (fun k_ => some k_ ≠ ((.slice Ao13 t341.length co13) : Value).ownBlock ∧ some k_ ≠ (v348 : Value).ownBlock ∧ some k_ ≠ (v354 : Value).ownBlock ∧ some k_ ≠ (v363 : Value).ownBlock ∧ some k_ ≠ (v366 : Value).ownBlock) v360 t359) ∧ Aside0 (Kd.R k62 62 wc w.heap.size (fun k_ => some k_ ≠ ((.slice Ao13 t341.length co13) : Value).ownBlock ∧ some k_ ≠ (v348 : Value).ownBlock ∧ some k_ ≠ (v354 : Value).ownBlock ∧ some k_ ≠ (v360 : Value).ownBlock ∧ some k_ ≠ (v366 : Value).ownBlock) v363 t362) ∧ Aside0 (Kd.R k62 62 wc w.heap.size (fun k_ => some k_ ≠ ((.slice Ao13 t341.length co13) : Value).ownBlock ∧ some k_ ≠ (v348 : Value).ownBlock ∧ some k_ ≠ (v354 : Value).ownBlock ∧ some k_ ≠ (v360 : Value).ownBlock ∧ some k_ ≠ (v363 : Value).ownBlock) v366 t365) ∧ Aside0 (Below w.heap.size w wc))
        case first =>
          have H := HC26.out
          clear HC26
          by_cases c27 : x11_1 < (t362.length : Int)
          · rw [if_pos c27] at H
            have c27b0 : decide (x11_1 < (t362.length : Int)) = true := decide_eq_true c27
            clear c27
            (first | rw [c27b0] | (simp only [i64_w, i32_w]; rw [c27b0]) | skip)
            by_cases c28 : 0 ≤ x11_1
            · rw [if_pos c28] at H
              have c28b0 : decide (0 ≤ x11_1) = true := decide_eq_true c28
              clear c28
              by_cases c29 : 0 ≤ x13_1
              · rw [if_pos c29] at H
                have c29b0 : decide (0 ≤ x13_1) = true := decide_eq_true c29
                clear c29
                by_cases c30 : (((rd_T62 t362 x11_1).f0) == ((rd_T62 t341 x13_1).f0) && (((rd_T62 t362 x11_1).f1) == ((rd_T62 t341 x13_1).f1))) = true
                · rw [if_pos c30] at H
                  have c30b0 : (((rd_T62 t362 x11_1).f0) == ((rd_T62 t341 x13_1).f0) && (((rd_T62 t362 x11_1).f1) == ((rd_T62 t341 x13_1).f1))) = true := c30
                  (try (have c30b1 : decide (((rd_T62 t362 x11_1).f0) = ((rd_T62 t341 x13_1).f0) && (((rd_T62 t362 x11_1).f1) == ((rd_T62 t341 x13_1).f1))) = true := by simpa using c30))
                  (try (have c30b2 : (((rd_T62 t362 x11_1).f0) == ((rd_T62 t341 x13_1).f0) && (((rd_T62 t362 x11_1).f1) == ((rd_T62 t341 x13_1).f1))) = true := by simpa using c30))
                  clear c30
                  have H' := Aside0.mk H
                  clear H
                  obtain ⟨Ao31, co31, eo31⟩ := Kd.R_slice HO_9.out
                  subst eo31
                  have p368 : 0 ≤ (x11_1 : Int) := of_decide_eq_true (by first | (with_reducible assumption) | assumption)
                  have q368 : x11_1 < (t362.length : Int) := of_decide_eq_true (by first | (with_reducible assumption) | assumption)
                  obtain ⟨ad368, e368, hx368_0, hx368_1⟩ := at_T62 (Kd.R_reads' HO_9.out).2.2 x11_1 p368 q368
                  cases e368
                  replace p368 := eq_true p368
                  replace q368 := eq_true q368
                  have p369 : 0 ≤ (x13_1 : Int) := of_decide_eq_true (by first | (with_reducible assumption) | assumption)
                  have q369 : x13_1 < (t341.length : Int) := of_decide_eq_true (by first | (with_reducible assumption) | assumption)
                  obtain ⟨ad369, e369, hx369_0, hx369_1⟩ := at_T62 (Kd.R_reads' HO_5.out).2.2 x13_1 p369 q369
                  cases e369
                  replace p369 := eq_true p369
                  replace q369 := eq_true q369
                  have p370 : 0 ≤ (x13_1 : Int) := of_decide_eq_true (by first | (with_reducible assumption) | assumption)
                  have q370 : x13_1 < (t341.length : Int) := of_decide_eq_true (by first | (with_reducible assumption) | assumption)
                  obtain ⟨ad370, e370, hx370_0, hx370_1⟩ := at_T62 (Kd.R_reads' HO_5.out).2.2 x13_1 p370 q370
                  obtain rfl : ad369 = ad370 := (by injection e370)
                  replace p370 := eq_true p370
                  replace q370 := eq_true q370
                  go_wp2
                  repeat (go_quiet (fail); try go_wp2)
                  go_meet
                  case rel => exact ⟨_, (decide (((rd_T62 t341 x13_1).f1) < (Int.tmod a0 1000000000))), (by first | rfl | (simp; done) | (simp [*]; done)), H', ⟨by have := HK1.out; first | omega | exact Nat.le_refl _⟩, ⟨by (with_reducible repeat (first | apply Kd.R_alloc | apply Kd.R_drewN | apply Kd.R_drew)); exact HO_5.out⟩, ⟨by (with_reducible repeat (first | apply Kd.R_alloc | apply Kd.R_drewN | apply Kd.R_drew)); exact HO_6.out⟩, ⟨by (with_reducible repeat (first | apply Kd.R_alloc | apply Kd.R_drewN | apply Kd.R_drew)); exact HO_7.out⟩, ⟨by (with_reducible repeat (first | apply Kd.R_alloc | apply Kd.R_drewN | apply Kd.R_drew)); exact HO_8.out⟩, ⟨by (with_reducible repeat (first | apply Kd.R_alloc | apply Kd.R_drewN | apply Kd.R_drew)); exact HO_9.out⟩, ⟨by (with_reducible repeat (first | apply Kd.R_alloc | apply Kd.R_drewN | apply Kd.R_drew)); exact HO_10.out⟩, ⟨by repeat (first | (with_reducible first | exact HB.out | apply below_alloc | apply pw_below_drewN | apply below_drew1) | exact HB.out)⟩⟩
                · rw [if_neg c30] at H
                  have c30b0 : (((rd_T62 t362 x11_1).f0) == ((rd_T62 t341 x13_1).f0) && (((rd_T62 t362 x11_1).f1) == ((rd_T62 t341 x13_1).f1))) = false := by simpa using c30
                  (try (have c30b1 : decide (((rd_T62 t362 x11_1).f0) = ((rd_T62 t341 x13_1).f0) && (((rd_T62 t362 x11_1).f1) == ((rd_T62 t341 x13_1).f1))) = false := by simpa using c30))
                  (try (have c30b2 : (((rd_T62 t362 x11_1).f0) == ((rd_T62 t341 x13_1).f0) && (((rd_T62 t362 x11_1).f1) == ((rd_T62 t341 x13_1).f1))) = false := by simpa using c30))
                  (try (have c30b3 : ¬ (((rd_T62 t362 x11_1).f0) = ((rd_T62 t341 x13_1).f0) && (((rd_T62 t362 x11_1).f1) == ((rd_T62 t341 x13_1).f1))) := by simpa using c30))
                  clear c30
                  have H' := Aside0.mk H
                  clear H
                  obtain ⟨Ao32, co32, eo32⟩ := Kd.R_slice HO_9.out
                  subst eo32
                  have p368 : 0 ≤ (x11_1 : Int) := of_decide_eq_true (by first | (with_reducible assumption) | assumption)
                  have q368 : x11_1 < (t362.length : Int) := of_decide_eq_true (by first | (with_reducible assumption) | assumption)
                  obtain ⟨ad368, e368, hx368_0, hx368_1⟩ := at_T62 (Kd.R_reads' HO_9.out).2.2 x11_1 p368 q368
                  cases e368
                  replace p368 := eq_true p368
                  replace q368 := eq_true q368
                  have p369 : 0 ≤ (x13_1 : Int) := of_decide_eq_true (by first | (with_reducible assumption) | assumption)
                  have q369 : x13_1 < (t341.length : Int) := of_decide_eq_true (by first | (with_reducible assumption) | assumption)
                  obtain ⟨ad369, e369, hx369_0, hx369_1⟩ := at_T62 (Kd.R_reads' HO_5.out).2.2 x13_1 p369 q369
                  cases e369
                  replace p369 := eq_true p369
                  replace q369 := eq_true q369
                  go_wp2
                  repeat (go_quiet (fail); try go_wp2)
                  go_meet
                  case rel => exact ⟨_, (false), (by first | rfl | (simp; done) | (simp [*]; done)), H', ⟨by have := HK1.out; first | omega | exact Nat.le_refl _⟩, ⟨by (with_reducible repeat (first | apply Kd.R_alloc | apply Kd.R_drewN | apply Kd.R_drew)); exact HO_5.out⟩, ⟨by (with_reducible repeat (first | apply Kd.R_alloc | apply Kd.R_drewN | apply Kd.R_drew)); exact HO_6.out⟩, ⟨by (with_reducible repeat (first | apply Kd.R_alloc | apply Kd.R_drewN | apply Kd.R_drew)); exact HO_7.out⟩, ⟨by (with_reducible repeat (first | apply Kd.R_alloc | apply Kd.R_drewN | apply Kd.R_drew)); exact HO_8.out⟩, ⟨by (with_reducible repeat (first | apply Kd.R_alloc | apply Kd.R_drewN | apply Kd.R_drew)); exact HO_9.out⟩, ⟨by (with_reducible repeat (first | apply Kd.R_alloc | apply Kd.R_drewN | apply Kd.R_drew)); exact HO_10.out⟩, ⟨by repeat (first | (with_reducible first | exact HB.out | apply below_alloc | apply pw_below_drewN | apply below_drew1) | exact HB.out)⟩⟩
              · rw [if_neg c29] at H
                exact absurd H (by simp)
            · rw [if_neg c28] at H
              exact absurd H (by simp)
          · rw [if_neg c27] at H
            have c27b0 : decide (x11_1 < (t362.length : Int)) = false := decide_eq_false c27
            clear c27
            (first | rw [c27b0] | (simp only [i64_w, i32_w]; rw [c27b0]) | skip)
            have H' := Aside0.mk H
            clear H
            obtain ⟨Ao33, co33, eo33⟩ := Kd.R_slice HO_9.out
            subst eo33
            go_wp2
            repeat (go_quiet (fail); try go_wp2)
            go_meet
            case rel => exact ⟨_, (false), (by first | rfl | (simp; done) | (simp [*]; done)), H', ⟨by have := HK1.out; first | omega | exact Nat.le_refl _⟩, ⟨by (with_reducible repeat (first | apply Kd.R_alloc | apply Kd.R_drewN | apply Kd.R_drew)); exact HO_5.out⟩, ⟨by (with_reducible repeat (first | apply Kd.R_alloc | apply Kd.R_drewN | apply Kd.R_drew)); exact HO_6.out⟩, ⟨by (with_reducible repeat (first | apply Kd.R_alloc | apply Kd.R_drewN | apply Kd.R_drew)); exact HO_7.out⟩, ⟨by (with_reducible repeat (first | apply Kd.R_alloc | apply Kd.R_drewN | apply Kd.R_drew)); exact HO_8.out⟩, ⟨by (with_reducible repeat (first | apply Kd.R_alloc | apply Kd.R_drewN | apply Kd.R_drew)); exact HO_9.out⟩, ⟨by (with_reducible repeat (first | apply Kd.R_alloc | apply Kd.R_drewN | apply Kd.R_drew)); exact HO_10.out⟩, ⟨by repeat (first | (with_reducible first | exact HB.out | apply below_alloc | apply pw_below_drewN | apply below_drew1) | exact HB.out)⟩⟩
        case rest =>
          clear HC26
          try clear c1
          try clear c2
          try clear p2
          try clear c3
          try clear p3
          try clear q3
          try clear hx3
          try clear p6
          try clear c11
          try clear c25
          try clear c25b0
          try clear c27
          try clear c27b0
          try clear c28
          try clear c28b0
          try clear c29
          try clear c29b0
          try clear c30
          try clear c30b0
          try clear c30b1
          try clear c30b2
          try clear hx368_0
          try clear hx368_1
          try clear hx369_0
          try clear hx369_1
          try clear hx370_0
          try clear hx370_1
          try clear p2
          try clear p368
          try clear p369
          try clear p370
          try clear p6
          try clear q368
          try clear q369
          try clear q370
          obtain ⟨kq, x76_25, rfl, HA, HJ25, HO_5, HO_6, HO_7, HO_8, HO_9, HO_10, HB⟩ := hcut
          cases kq with
          | zero => exact absurd HA.out (by simp [tributarylaw3_OpsBack.j1])
          | succ kj25 =>
            have H := HA.out
            clear HA
            simp only [tributarylaw3_OpsBack.j1] at H
            by_cases c34 : x76_25 = true
            · subst c34
              have H1 : (tributarylaw3_OpsBack.l0 kj25 (Int.tmod a0 1000000000) t341 t347 t353 t359 t362 t365 (wrap64 (x11_1 + 1)) x12_1 (wrap64 (x13_1 + 1))) = some r := by rw [if_pos rfl] at H; exact H
              clear H
              have H := H1
              clear H1
              have H' := Aside0.mk H
              clear H
              go_wp2
              repeat (go_quiet (fail); try go_wp2)
              go_roundg kj25
              case measure => have := HK1.out; have := HJ25.out; omega
              case rel => exact ⟨(wrap64 (x11_1 + 1)), (x12_1), (wrap64 (x13_1 + 1)), (by first | rfl | (simp; done) | (simp [*]; done)), (by first | rfl | (simp; done) | (simp [*]; done)), (by first | rfl | (simp; done) | (simp [*]; done)), H', ⟨by have := HK1.out; have := HJ25.out; omega⟩, ⟨by (with_reducible repeat (first | apply Kd.R_alloc | apply Kd.R_drewN | apply Kd.R_drew)); exact HO_5.out⟩, ⟨by (with_reducible repeat (first | apply Kd.R_alloc | apply Kd.R_drewN | apply Kd.R_drew)); exact HO_6.out⟩, ⟨by (with_reducible repeat (first | apply Kd.R_alloc | apply Kd.R_drewN | apply Kd.R_drew)); exact HO_7.out⟩, ⟨by (with_reducible repeat (first | apply Kd.R_alloc | apply Kd.R_drewN | apply Kd.R_drew)); exact HO_8.out⟩, ⟨by (with_reducible repeat (first | apply Kd.R_alloc | apply Kd.R_drewN | apply Kd.R_drew)); exact HO_9.out⟩, ⟨by (with_reducible repeat (first | apply Kd.R_alloc | apply Kd.R_drewN | apply Kd.R_drew)); exact HO_10.out⟩, ⟨by repeat (first | (with_reducible first | exact HB.out | apply below_alloc | apply pw_below_drewN | apply below_drew1) | exact HB.out)⟩⟩
            · replace c34 := Bool.eq_false_iff.mpr c34
              subst c34
              have H1 : (if x12_1 < (t365.length : Int) then (if 0 ≤ x12_1 then (if 0 ≤ x13_1 then (if x13_1 < (t341.length : Int) then (if (((rd_T62 t365 x12_1).f0) == ((rd_T62 t341 x13_1).f0) && (((rd_T62 t365 x12_1).f1) == ((rd_T62 t341 x13_1).f1))) = true then (if ((rd_T62 t341 x13_1).f1) ≥ (Int.tmod a0 1000000000) then (tributarylaw3_OpsBack.l0 kj25 (Int.tmod a0 1000000000) t341 t347 t353 t359 t362 t365 x11_1 (wrap64 (x12_1 + 1)) (wrap64 (x13_1 + 1))) else (none)) else (none)) else (none)) else (none)) else (none)) else (none)) = some r := by rw [if_neg (show ¬ (false = true) by decide)] at H; exact H
              clear H
              have H := H1
              clear H1
              by_cases c35 : x12_1 < (t365.length : Int)
              · rw [if_pos c35] at H
                have c35b0 : decide (x12_1 < (t365.length : Int)) = true := decide_eq_true c35
                clear c35
                by_cases c36 : 0 ≤ x12_1
                · rw [if_pos c36] at H
                  have c36b0 : decide (0 ≤ x12_1) = true := decide_eq_true c36
                  clear c36
                  by_cases c37 : 0 ≤ x13_1
                  · rw [if_pos c37] at H
                    have c37b0 : decide (0 ≤ x13_1) = true := decide_eq_true c37
                    clear c37
                    by_cases c38 : x13_1 < (t341.length : Int)
                    · rw [if_pos c38] at H
                      have c38b0 : decide (x13_1 < (t341.length : Int)) = true := decide_eq_true c38
                      clear c38
                      by_cases c39 : (((rd_T62 t365 x12_1).f0) == ((rd_T62 t341 x13_1).f0) && (((rd_T62 t365 x12_1).f1) == ((rd_T62 t341 x13_1).f1))) = true
                      · rw [if_pos c39] at H
                        have c39b0 : (((rd_T62 t365 x12_1).f0) == ((rd_T62 t341 x13_1).f0) && (((rd_T62 t365 x12_1).f1) == ((rd_T62 t341 x13_1).f1))) = true := c39
                        (try (have c39b1 : decide (((rd_T62 t365 x12_1).f0) = ((rd_T62 t341 x13_1).f0) && (((rd_T62 t365 x12_1).f1) == ((rd_T62 t341 x13_1).f1))) = true := by simpa using c39))
                        (try (have c39b2 : (((rd_T62 t365 x12_1).f0) == ((rd_T62 t341 x13_1).f0) && (((rd_T62 t365 x12_1).f1) == ((rd_T62 t341 x13_1).f1))) = true := by simpa using c39))
                        clear c39
                        by_cases c40 : ((rd_T62 t341 x13_1).f1) ≥ (Int.tmod a0 1000000000)
                        · rw [if_pos c40] at H
                          have c40b0 : decide ((Int.tmod a0 1000000000) ≤ ((rd_T62 t341 x13_1).f1)) = true := decide_eq_true c40
                          clear c40
                          have H' := Aside0.mk H
                          clear H
                          obtain ⟨Ao41, co41, eo41⟩ := Kd.R_slice HO_10.out
                          subst eo41
                          have p371 : 0 ≤ (x12_1 : Int) := of_decide_eq_true (by first | (with_reducible assumption) | assumption)
                          have q371 : x12_1 < (t365.length : Int) := of_decide_eq_true (by first | (with_reducible assumption) | assumption)
                          obtain ⟨ad371, e371, hx371_0, hx371_1⟩ := at_T62 (Kd.R_reads' HO_10.out).2.2 x12_1 p371 q371
                          cases e371
                          replace p371 := eq_true p371
                          replace q371 := eq_true q371
                          have p372 : 0 ≤ (x13_1 : Int) := of_decide_eq_true (by first | (with_reducible assumption) | assumption)
                          have q372 : x13_1 < (t341.length : Int) := of_decide_eq_true (by first | (with_reducible assumption) | assumption)
                          obtain ⟨ad372, e372, hx372_0, hx372_1⟩ := at_T62 (Kd.R_reads' HO_5.out).2.2 x13_1 p372 q372
                          cases e372
                          replace p372 := eq_true p372
                          replace q372 := eq_true q372
                          have p373 : 0 ≤ (x13_1 : Int) := of_decide_eq_true (by first | (with_reducible assumption) | assumption)
                          have q373 : x13_1 < (t341.length : Int) := of_decide_eq_true (by first | (with_reducible assumption) | assumption)
                          obtain ⟨ad373, e373, hx373_0, hx373_1⟩ := at_T62 (Kd.R_reads' HO_5.out).2.2 x13_1 p373 q373
                          obtain rfl : ad372 = ad373 := (by injection e373)
                          replace p373 := eq_true p373
                          replace q373 := eq_true q373
                          go_wp2
                          repeat (go_quiet (fail); try go_wp2)
                          go_roundg kj25
                          case measure => have := HK1.out; have := HJ25.out; omega
                          case rel => exact ⟨(x11_1), (wrap64 (x12_1 + 1)), (wrap64 (x13_1 + 1)), (by first | rfl | (simp; done) | (simp [*]; done)), (by first | rfl | (simp; done) | (simp [*]; done)), (by first | rfl | (simp; done) | (simp [*]; done)), H', ⟨by have := HK1.out; have := HJ25.out; omega⟩, ⟨by (with_reducible repeat (first | apply Kd.R_alloc | apply Kd.R_drewN | apply Kd.R_drew)); exact HO_5.out⟩, ⟨by (with_reducible repeat (first | apply Kd.R_alloc | apply Kd.R_drewN | apply Kd.R_drew)); exact HO_6.out⟩, ⟨by (with_reducible repeat (first | apply Kd.R_alloc | apply Kd.R_drewN | apply Kd.R_drew)); exact HO_7.out⟩, ⟨by (with_reducible repeat (first | apply Kd.R_alloc | apply Kd.R_drewN | apply Kd.R_drew)); exact HO_8.out⟩, ⟨by (with_reducible repeat (first | apply Kd.R_alloc | apply Kd.R_drewN | apply Kd.R_drew)); exact HO_9.out⟩, ⟨by (with_reducible repeat (first | apply Kd.R_alloc | apply Kd.R_drewN | apply Kd.R_drew)); exact HO_10.out⟩, ⟨by repeat (first | (with_reducible first | exact HB.out | apply below_alloc | apply pw_below_drewN | apply below_drew1) | exact HB.out)⟩⟩
                        · rw [if_neg c40] at H
                          exact absurd H (by simp)
                      · rw [if_neg c39] at H
                        exact absurd H (by simp)
                    · rw [if_neg c38] at H
                      exact absurd H (by simp)
                  · rw [if_neg c37] at H
                    exact absurd H (by simp)
                · rw [if_neg c36] at H
                  exact absurd H (by simp)
              · rw [if_neg c35] at H
                exact absurd H (by simp)
      · rw [if_neg c25] at H
        have c25b0 : decide (x13_1 < (t341.length : Int)) = false := decide_eq_false c25
        clear c25
        replace H := Option.bind_eq_some_iff.mp H
        obtain ⟨t374, A420, H⟩ := H
        replace H : (if t374 = true then ((tributaryref2_Same.f k1 t347 t341).bind fun t375 => (if t375 = true then ((tributaryref2_Same.f k1 t353 t341).bind fun t376 => (if t376 = true then ((tributaryref2_Same.f k1 t359 t341).bind fun t377 => (if t377 = true then (if x11_1 = (t362.length : Int) then (some (x12_1 == (t365.length : Int))) else (none)) else (none))) else (none))) else (none))) else (none)) = some r := H
        have A42 := Aside0.mk A420
        clear A420
        by_cases c43 : t374 = true
        · subst c43
          have H1 : ((tributaryref2_Same.f k1 t347 t341).bind fun t375 => (if t375 = true then ((tributaryref2_Same.f k1 t353 t341).bind fun t376 => (if t376 = true then ((tributaryref2_Same.f k1 t359 t341).bind fun t377 => (if t377 = true then (if x11_1 = (t362.length : Int) then (some (x12_1 == (t365.length : Int))) else (none)) else (none))) else (none))) else (none))) = some r := by rw [if_pos rfl] at H; exact H
          clear H
          have H := H1
          clear H1
          replace H := Option.bind_eq_some_iff.mp H
          obtain ⟨t375, A440, H⟩ := H
          replace H : (if t375 = true then ((tributaryref2_Same.f k1 t353 t341).bind fun t376 => (if t376 = true then ((tributaryref2_Same.f k1 t359 t341).bind fun t377 => (if t377 = true then (if x11_1 = (t362.length : Int) then (some (x12_1 == (t365.length : Int))) else (none)) else (none))) else (none))) else (none)) = some r := H
          have A44 := Aside0.mk A440
          clear A440
          by_cases c45 : t375 = true
          · subst c45
            have H1 : ((tributaryref2_Same.f k1 t353 t341).bind fun t376 => (if t376 = true then ((tributaryref2_Same.f k1 t359 t341).bind fun t377 => (if t377 = true then (if x11_1 = (t362.length : Int) then (some (x12_1 == (t365.length : Int))) else (none)) else (none))) else (none))) = some r := by rw [if_pos rfl] at H; exact H
            clear H
            have H := H1
            clear H1
            replace H := Option.bind_eq_some_iff.mp H
            obtain ⟨t376, A460, H⟩ := H
            replace H : (if t376 = true then ((tributaryref2_Same.f k1 t359 t341).bind fun t377 => (if t377 = true then (if x11_1 = (t362.length : Int) then (some (x12_1 == (t365.length : Int))) else (none)) else (none))) else (none)) = some r := H
            have A46 := Aside0.mk A460
            clear A460
            by_cases c47 : t376 = true
            · subst c47
              have H1 : ((tributaryref2_Same.f k1 t359 t341).bind fun t377 => (if t377 = true then (if x11_1 = (t362.length : Int) then (some (x12_1 == (t365.length : Int))) else (none)) else (none))) = some r := by rw [if_pos rfl] at H; exact H
              clear H
              have H := H1
              clear H1
              replace H := Option.bind_eq_some_iff.mp H
              obtain ⟨t377, A480, H⟩ := H
              replace H : (if t377 = true then (if x11_1 = (t362.length : Int) then (some (x12_1 == (t365.length : Int))) else (none)) else (none)) = some r := H
              have A48 := Aside0.mk A480
              clear A480
              by_cases c49 : t377 = true
              · subst c49
                have H1 : (if x11_1 = (t362.length : Int) then (some (x12_1 == (t365.length : Int))) else (none)) = some r := by rw [if_pos rfl] at H; exact H
                clear H
                have H := H1
                clear H1
                by_cases c50 : x11_1 = (t362.length : Int)
                · rw [if_pos c50] at H
                  have c50b0 : (x11_1 == (t362.length : Int)) = true := beq_iff_eq.mpr c50
                  have c50b1 : (x11_1 != (t362.length : Int)) = false := bne_eq_false_iff_eq.mpr c50
                  clear c50
                  obtain rfl := Option.some.inj H
                  go_wp2_with (first | (go_at_call 35; (with_reducible refine (tributarylaw3_told.calls  true _ ?side1 A42.out).mono ?_); (case side1 => exact Laid.below HLD.out (by repeat (first | (with_reducible first | exact HB.out | apply below_alloc | apply pw_below_drewN | apply below_drew1) | exact HB.out)) (Nat.le_refl _)); rintro e w51 ⟨rfl, hb⟩; have n0_ := Aside0.mk (Kd.R_below (by (with_reducible repeat (first | apply Kd.R_alloc | apply Kd.R_drewN | apply Kd.R_drew)); exact HO_5.out) hb); have n1_ := Aside0.mk (Kd.R_below (by (with_reducible repeat (first | apply Kd.R_alloc | apply Kd.R_drewN | apply Kd.R_drew)); exact HO_6.out) hb); have n2_ := Aside0.mk (Kd.R_below (by (with_reducible repeat (first | apply Kd.R_alloc | apply Kd.R_drewN | apply Kd.R_drew)); exact HO_7.out) hb); have n3_ := Aside0.mk (Kd.R_below (by (with_reducible repeat (first | apply Kd.R_alloc | apply Kd.R_drewN | apply Kd.R_drew)); exact HO_8.out) hb); have n4_ := Aside0.mk (Kd.R_below (by (with_reducible repeat (first | apply Kd.R_alloc | apply Kd.R_drewN | apply Kd.R_drew)); exact HO_9.out) hb); have n5_ := Aside0.mk (Kd.R_below (by (with_reducible repeat (first | apply Kd.R_alloc | apply Kd.R_drewN | apply Kd.R_drew)); exact HO_10.out) hb); have n6_ := Aside0.mk (below_step (by repeat (first | (with_reducible first | exact HB.out | apply below_alloc | apply pw_below_drewN | apply below_drew1) | exact HB.out)) hb); clear HO_5; clear HO_6; clear HO_7; clear HO_8; clear HO_9; clear HO_10; clear HB; have HO_5 := n0_; have HO_6 := n1_; have HO_7 := n2_; have HO_8 := n3_; have HO_9 := n4_; have HO_10 := n5_; have HB := n6_; clear n0_ n1_ n2_ n3_ n4_ n5_ n6_; (try clear hb); (try clear hb2); (try clear hk); (try clear hi); obtain ⟨Ao52, co52, eo52⟩ := Kd.R_slice HO_6.out; subst eo52) | (go_at_call 45; (with_reducible refine (tributaryref2_Same.calls k1 _ _ t347 _ _ t341 true _ ?side1 ?side2 ?side3 ?side4 A44.out).mono ?_); (case side1 => repeat (first | exact (Kd.R_reads' HO_6.out).2.2 | (with_reducible refine Kd.C_alloc ?_ _) | (with_reducible refine Kd.C_drewN ?_ _) | (with_reducible refine Kd.C_drew ?_))); (case side2 => exact (Kd.R_reads' HO_6.out).2.1); (case side3 => repeat (first | exact (Kd.R_reads' HO_5.out).2.2 | (with_reducible refine Kd.C_alloc ?_ _) | (with_reducible refine Kd.C_drewN ?_ _) | (with_reducible refine Kd.C_drew ?_))); (case side4 => exact (Kd.R_reads' HO_5.out).2.1); rintro e w' ⟨rfl, ⟨nd, rfl⟩⟩; (try first | exact ⟨rfl, _, World.drewN_drewN _ _ _⟩ | exact ⟨rfl, _, Eq.trans (World.drewN_drewN _ _ _) (congrArg (World.drewN _) (Nat.add_assoc _ _ _))⟩); obtain ⟨Ao53, co53, eo53⟩ := Kd.R_slice HO_7.out; subst eo53) | (go_at_call 45; (with_reducible refine (tributaryref2_Same.calls k1 _ _ t353 _ _ t341 true _ ?side1 ?side2 ?side3 ?side4 A46.out).mono ?_); (case side1 => repeat (first | exact (Kd.R_reads' HO_7.out).2.2 | (with_reducible refine Kd.C_alloc ?_ _) | (with_reducible refine Kd.C_drewN ?_ _) | (with_reducible refine Kd.C_drew ?_))); (case side2 => exact (Kd.R_reads' HO_7.out).2.1); (case side3 => repeat (first | exact (Kd.R_reads' HO_5.out).2.2 | (with_reducible refine Kd.C_alloc ?_ _) | (with_reducible refine Kd.C_drewN ?_ _) | (with_reducible refine Kd.C_drew ?_))); (case side4 => exact (Kd.R_reads' HO_5.out).2.1); rintro e w' ⟨rfl, ⟨nd, rfl⟩⟩; (try first | exact ⟨rfl, _, World.drewN_drewN _ _ _⟩ | exact ⟨rfl, _, Eq.trans (World.drewN_drewN _ _ _) (congrArg (World.drewN _) (Nat.add_assoc _ _ _))⟩); obtain ⟨Ao54, co54, eo54⟩ := Kd.R_slice HO_8.out; subst eo54) | (go_at_call 45; (with_reducible refine (tributaryref2_Same.calls k1 _ _ t359 _ _ t341 true _ ?side1 ?side2 ?side3 ?side4 A48.out).mono ?_); (case side1 => repeat (first | exact (Kd.R_reads' HO_8.out).2.2 | (with_reducible refine Kd.C_alloc ?_ _) | (with_reducible refine Kd.C_drewN ?_ _) | (with_reducible refine Kd.C_drew ?_))); (case side2 => exact (Kd.R_reads' HO_8.out).2.1); (case side3 => repeat (first | exact (Kd.R_reads' HO_5.out).2.2 | (with_reducible refine Kd.C_alloc ?_ _) | (with_reducible refine Kd.C_drewN ?_ _) | (with_reducible refine Kd.C_drew ?_))); (case side4 => exact (Kd.R_reads' HO_5.out).2.1); rintro e w' ⟨rfl, ⟨nd, rfl⟩⟩; (try first | exact ⟨rfl, _, World.drewN_drewN _ _ _⟩ | exact ⟨rfl, _, Eq.trans (World.drewN_drewN _ _ _) (congrArg (World.drewN _) (Nat.add_assoc _ _ _))⟩); obtain ⟨Ao55, co55, eo55⟩ := Kd.R_slice HO_9.out; subst eo55; obtain ⟨Ao56, co56, eo56⟩ := Kd.R_slice HO_10.out; subst eo56))
                  repeat (go_quiet (first | (go_at_call 35; (with_reducible refine (tributarylaw3_told.calls  true _ ?side1 A42.out).mono ?_); (case side1 => exact Laid.below HLD.out (by repeat (first | (with_reducible first | exact HB.out | apply below_alloc | apply pw_below_drewN | apply below_drew1) | exact HB.out)) (Nat.le_refl _)); rintro e w51 ⟨rfl, hb⟩; have n0_ := Aside0.mk (Kd.R_below (by (with_reducible repeat (first | apply Kd.R_alloc | apply Kd.R_drewN | apply Kd.R_drew)); exact HO_5.out) hb); have n1_ := Aside0.mk (Kd.R_below (by (with_reducible repeat (first | apply Kd.R_alloc | apply Kd.R_drewN | apply Kd.R_drew)); exact HO_6.out) hb); have n2_ := Aside0.mk (Kd.R_below (by (with_reducible repeat (first | apply Kd.R_alloc | apply Kd.R_drewN | apply Kd.R_drew)); exact HO_7.out) hb); have n3_ := Aside0.mk (Kd.R_below (by (with_reducible repeat (first | apply Kd.R_alloc | apply Kd.R_drewN | apply Kd.R_drew)); exact HO_8.out) hb); have n4_ := Aside0.mk (Kd.R_below (by (with_reducible repeat (first | apply Kd.R_alloc | apply Kd.R_drewN | apply Kd.R_drew)); exact HO_9.out) hb); have n5_ := Aside0.mk (Kd.R_below (by (with_reducible repeat (first | apply Kd.R_alloc | apply Kd.R_drewN | apply Kd.R_drew)); exact HO_10.out) hb); have n6_ := Aside0.mk (below_step (by repeat (first | (with_reducible first | exact HB.out | apply below_alloc | apply pw_below_drewN | apply below_drew1) | exact HB.out)) hb); clear HO_5; clear HO_6; clear HO_7; clear HO_8; clear HO_9; clear HO_10; clear HB; have HO_5 := n0_; have HO_6 := n1_; have HO_7 := n2_; have HO_8 := n3_; have HO_9 := n4_; have HO_10 := n5_; have HB := n6_; clear n0_ n1_ n2_ n3_ n4_ n5_ n6_; (try clear hb); (try clear hb2); (try clear hk); (try clear hi); obtain ⟨Ao52, co52, eo52⟩ := Kd.R_slice HO_6.out; subst eo52) | (go_at_call 45; (with_reducible refine (tributaryref2_Same.calls k1 _ _ t347 _ _ t341 true _ ?side1 ?side2 ?side3 ?side4 A44.out).mono ?_); (case side1 => repeat (first | exact (Kd.R_reads' HO_6.out).2.2 | (with_reducible refine Kd.C_alloc ?_ _) | (with_reducible refine Kd.C_drewN ?_ _) | (with_reducible refine Kd.C_drew ?_))); (case side2 => exact (Kd.R_reads' HO_6.out).2.1); (case side3 => repeat (first | exact (Kd.R_reads' HO_5.out).2.2 | (with_reducible refine Kd.C_alloc ?_ _) | (with_reducible refine Kd.C_drewN ?_ _) | (with_reducible refine Kd.C_drew ?_))); (case side4 => exact (Kd.R_reads' HO_5.out).2.1); rintro e w' ⟨rfl, ⟨nd, rfl⟩⟩; (try first | exact ⟨rfl, _, World.drewN_drewN _ _ _⟩ | exact ⟨rfl, _, Eq.trans (World.drewN_drewN _ _ _) (congrArg (World.drewN _) (Nat.add_assoc _ _ _))⟩); obtain ⟨Ao53, co53, eo53⟩ := Kd.R_slice HO_7.out; subst eo53) | (go_at_call 45; (with_reducible refine (tributaryref2_Same.calls k1 _ _ t353 _ _ t341 true _ ?side1 ?side2 ?side3 ?side4 A46.out).mono ?_); (case side1 => repeat (first | exact (Kd.R_reads' HO_7.out).2.2 | (with_reducible refine Kd.C_alloc ?_ _) | (with_reducible refine Kd.C_drewN ?_ _) | (with_reducible refine Kd.C_drew ?_))); (case side2 => exact (Kd.R_reads' HO_7.out).2.1); (case side3 => repeat (first | exact (Kd.R_reads' HO_5.out).2.2 | (with_reducible refine Kd.C_alloc ?_ _) | (with_reducible refine Kd.C_drewN ?_ _) | (with_reducible refine Kd.C_drew ?_))); (case side4 => exact (Kd.R_reads' HO_5.out).2.1); rintro e w' ⟨rfl, ⟨nd, rfl⟩⟩; (try first | exact ⟨rfl, _, World.drewN_drewN _ _ _⟩ | exact ⟨rfl, _, Eq.trans (World.drewN_drewN _ _ _) (congrArg (World.drewN _) (Nat.add_assoc _ _ _))⟩); obtain ⟨Ao54, co54, eo54⟩ := Kd.R_slice HO_8.out; subst eo54) | (go_at_call 45; (with_reducible refine (tributaryref2_Same.calls k1 _ _ t359 _ _ t341 true _ ?side1 ?side2 ?side3 ?side4 A48.out).mono ?_); (case side1 => repeat (first | exact (Kd.R_reads' HO_8.out).2.2 | (with_reducible refine Kd.C_alloc ?_ _) | (with_reducible refine Kd.C_drewN ?_ _) | (with_reducible refine Kd.C_drew ?_))); (case side2 => exact (Kd.R_reads' HO_8.out).2.1); (case side3 => repeat (first | exact (Kd.R_reads' HO_5.out).2.2 | (with_reducible refine Kd.C_alloc ?_ _) | (with_reducible refine Kd.C_drewN ?_ _) | (with_reducible refine Kd.C_drew ?_))); (case side4 => exact (Kd.R_reads' HO_5.out).2.1); rintro e w' ⟨rfl, ⟨nd, rfl⟩⟩; (try first | exact ⟨rfl, _, World.drewN_drewN _ _ _⟩ | exact ⟨rfl, _, Eq.trans (World.drewN_drewN _ _ _) (congrArg (World.drewN _) (Nat.add_assoc _ _ _))⟩); obtain ⟨Ao55, co55, eo55⟩ := Kd.R_slice HO_9.out; subst eo55; obtain ⟨Ao56, co56, eo56⟩ := Kd.R_slice HO_10.out; subst eo56)); try go_wp2_with (first | (go_at_call 35; (with_reducible refine (tributarylaw3_told.calls  true _ ?side1 A42.out).mono ?_); (case side1 => exact Laid.below HLD.out (by repeat (first | (with_reducible first | exact HB.out | apply below_alloc | apply pw_below_drewN | apply below_drew1) | exact HB.out)) (Nat.le_refl _)); rintro e w51 ⟨rfl, hb⟩; have n0_ := Aside0.mk (Kd.R_below (by (with_reducible repeat (first | apply Kd.R_alloc | apply Kd.R_drewN | apply Kd.R_drew)); exact HO_5.out) hb); have n1_ := Aside0.mk (Kd.R_below (by (with_reducible repeat (first | apply Kd.R_alloc | apply Kd.R_drewN | apply Kd.R_drew)); exact HO_6.out) hb); have n2_ := Aside0.mk (Kd.R_below (by (with_reducible repeat (first | apply Kd.R_alloc | apply Kd.R_drewN | apply Kd.R_drew)); exact HO_7.out) hb); have n3_ := Aside0.mk (Kd.R_below (by (with_reducible repeat (first | apply Kd.R_alloc | apply Kd.R_drewN | apply Kd.R_drew)); exact HO_8.out) hb); have n4_ := Aside0.mk (Kd.R_below (by (with_reducible repeat (first | apply Kd.R_alloc | apply Kd.R_drewN | apply Kd.R_drew)); exact HO_9.out) hb); have n5_ := Aside0.mk (Kd.R_below (by (with_reducible repeat (first | apply Kd.R_alloc | apply Kd.R_drewN | apply Kd.R_drew)); exact HO_10.out) hb); have n6_ := Aside0.mk (below_step (by repeat (first | (with_reducible first | exact HB.out | apply below_alloc | apply pw_below_drewN | apply below_drew1) | exact HB.out)) hb); clear HO_5; clear HO_6; clear HO_7; clear HO_8; clear HO_9; clear HO_10; clear HB; have HO_5 := n0_; have HO_6 := n1_; have HO_7 := n2_; have HO_8 := n3_; have HO_9 := n4_; have HO_10 := n5_; have HB := n6_; clear n0_ n1_ n2_ n3_ n4_ n5_ n6_; (try clear hb); (try clear hb2); (try clear hk); (try clear hi); obtain ⟨Ao52, co52, eo52⟩ := Kd.R_slice HO_6.out; subst eo52) | (go_at_call 45; (with_reducible refine (tributaryref2_Same.calls k1 _ _ t347 _ _ t341 true _ ?side1 ?side2 ?side3 ?side4 A44.out).mono ?_); (case side1 => repeat (first | exact (Kd.R_reads' HO_6.out).2.2 | (with_reducible refine Kd.C_alloc ?_ _) | (with_reducible refine Kd.C_drewN ?_ _) | (with_reducible refine Kd.C_drew ?_))); (case side2 => exact (Kd.R_reads' HO_6.out).2.1); (case side3 => repeat (first | exact (Kd.R_reads' HO_5.out).2.2 | (with_reducible refine Kd.C_alloc ?_ _) | (with_reducible refine Kd.C_drewN ?_ _) | (with_reducible refine Kd.C_drew ?_))); (case side4 => exact (Kd.R_reads' HO_5.out).2.1); rintro e w' ⟨rfl, ⟨nd, rfl⟩⟩; (try first | exact ⟨rfl, _, World.drewN_drewN _ _ _⟩ | exact ⟨rfl, _, Eq.trans (World.drewN_drewN _ _ _) (congrArg (World.drewN _) (Nat.add_assoc _ _ _))⟩); obtain ⟨Ao53, co53, eo53⟩ := Kd.R_slice HO_7.out; subst eo53) | (go_at_call 45; (with_reducible refine (tributaryref2_Same.calls k1 _ _ t353 _ _ t341 true _ ?side1 ?side2 ?side3 ?side4 A46.out).mono ?_); (case side1 => repeat (first | exact (Kd.R_reads' HO_7.out).2.2 | (with_reducible refine Kd.C_alloc ?_ _) | (with_reducible refine Kd.C_drewN ?_ _) | (with_reducible refine Kd.C_drew ?_))); (case side2 => exact (Kd.R_reads' HO_7.out).2.1); (case side3 => repeat (first | exact (Kd.R_reads' HO_5.out).2.2 | (with_reducible refine Kd.C_alloc ?_ _) | (with_reducible refine Kd.C_drewN ?_ _) | (with_reducible refine Kd.C_drew ?_))); (case side4 => exact (Kd.R_reads' HO_5.out).2.1); rintro e w' ⟨rfl, ⟨nd, rfl⟩⟩; (try first | exact ⟨rfl, _, World.drewN_drewN _ _ _⟩ | exact ⟨rfl, _, Eq.trans (World.drewN_drewN _ _ _) (congrArg (World.drewN _) (Nat.add_assoc _ _ _))⟩); obtain ⟨Ao54, co54, eo54⟩ := Kd.R_slice HO_8.out; subst eo54) | (go_at_call 45; (with_reducible refine (tributaryref2_Same.calls k1 _ _ t359 _ _ t341 true _ ?side1 ?side2 ?side3 ?side4 A48.out).mono ?_); (case side1 => repeat (first | exact (Kd.R_reads' HO_8.out).2.2 | (with_reducible refine Kd.C_alloc ?_ _) | (with_reducible refine Kd.C_drewN ?_ _) | (with_reducible refine Kd.C_drew ?_))); (case side2 => exact (Kd.R_reads' HO_8.out).2.1); (case side3 => repeat (first | exact (Kd.R_reads' HO_5.out).2.2 | (with_reducible refine Kd.C_alloc ?_ _) | (with_reducible refine Kd.C_drewN ?_ _) | (with_reducible refine Kd.C_drew ?_))); (case side4 => exact (Kd.R_reads' HO_5.out).2.1); rintro e w' ⟨rfl, ⟨nd, rfl⟩⟩; (try first | exact ⟨rfl, _, World.drewN_drewN _ _ _⟩ | exact ⟨rfl, _, Eq.trans (World.drewN_drewN _ _ _) (congrArg (World.drewN _) (Nat.add_assoc _ _ _))⟩); obtain ⟨Ao55, co55, eo55⟩ := Kd.R_slice HO_9.out; subst eo55; obtain ⟨Ao56, co56, eo56⟩ := Kd.R_slice HO_10.out; subst eo56)))
                  go_ret
                  exact ⟨by first | rfl | (simp [errW_none, errW_some] <;> rfl) | (simp [*, errW_none, errW_some] <;> rfl), by repeat (first | (with_reducible first | exact HB.out | apply below_alloc | apply pw_below_drewN | apply below_drew1) | exact HB.out)⟩
                · rw [if_neg c50] at H
                  exact absurd H (by simp)
              · replace c49 := Bool.eq_false_iff.mpr c49
                subst c49
                have H1 : (none) = some r := by rw [if_neg (show ¬ (false = true) by decide)] at H; exact H
                clear H
                have H := H1
                clear H1
                exact absurd H (by simp)
            · replace c47 := Bool.eq_false_iff.mpr c47
              subst c47
              have H1 : (none) = some r := by rw [if_neg (show ¬ (false = true) by decide)] at H; exact H
              clear H
              have H := H1
              clear H1
              exact absurd H (by simp)
          · replace c45 := Bool.eq_false_iff.mpr c45
            subst c45
            have H1 : (none) = some r := by rw [if_neg (show ¬ (false = true) by decide)] at H; exact H
            clear H
            have H := H1
            clear H1
            exact absurd H (by simp)
        · replace c43 := Bool.eq_false_iff.mpr c43
          subst c43
          have H1 : (none) = some r := by rw [if_neg (show ¬ (false = true) by decide)] at H; exact H
          clear H
          have H := H1
          clear H1
          exact absurd H (by simp)

end Go.Proofs.YtemnnnjlllgeeaaDoor.POps
