/- Proved: the contract of the law's own 'told'; no condition. -/
import Derived.Test.YtemnnnjlllgeeaaDoorOpsFew
namespace Go.Proofs.YtemnnnjlllgeeaaDoor.POps
open Go.RowKit Go.Proofs.YtemnnnjlllgeeaaDoorW.PrintWords Go.Proofs.YtemnnnjlllgeeaaDoorW.PrintLast Go.Proofs.YtemnnnjlllgeeaaDoorW.PrintMore Go.Proofs.YtemnnnjlllgeeaaDoor.Err
attribute [local go_sem] max2_int min2_int max_two min_two max_three min_three max_four min_four
set_option linter.unusedVariables false
set_option linter.unusedSimpArgs false
theorem addr_add0 (a : Addr) : a.add 0 = a := by simp [Addr.add]
def tributarylaw3_told.f : Option Bool := some true
set_option maxHeartbeats 8000000 in
set_option maxRecDepth 100000 in
theorem told_law (w : World) (hL : Laid w) : Calls Tryd.prog 35 #[] w fun e w' => e = .returned (.bool true) ∧ Below w.heap.size w w' := by
  have HL := Aside0.mk hL
  have O1 : Aside0 (ops_One.f 20 2 0 0 4 2 9 (-5) = some [⟨1, -5⟩]) := ⟨by rw [one_eq _ _ _ _ _ _ _ 20 (by decide)]; kernel_rfl⟩
  have O2 : Aside0 (ops_One.f 20 4 0 0 3 10 1 2 = some [⟨1, 2⟩, ⟨1, 12⟩, ⟨1, 22⟩]) := ⟨by rw [one_eq _ _ _ _ _ _ _ 20 (by decide)]; kernel_rfl⟩
  clear hL
  have hu55 := Tryd.underlying55
  have hu62 := Tryd.underlying62
  go_enter Tryd.func35, Tryd.ntmps35
  go_wp2_with fail
  refine (ops_One.calls 20 2 0 0 4 2 9 (-5) _ _ O1.out).mono ?_
  rintro e w1 ⟨v1, rfl, hR, hb⟩
  have HB1 := Aside0.mk hb
  have HR1 := Aside0.mk hR
  clear hb hR
  obtain ⟨A1, c1, rfl⟩ := Kd.R_slice HR1.out
  go_wp2_with fail
  refine (ops_One.calls 20 4 0 0 3 10 1 2 _ _ O2.out).mono ?_
  rintro e w2 ⟨v2, rfl, hR, hb⟩
  have HB2 := Aside0.mk (HB1.out.trans (hb.mono HB1.out.size))
  have HR2 := Aside0.mk hR
  have HR12 := Aside0.mk (Kd.R_below HR1.out hb)
  clear hb hR HB1 HR1
  obtain ⟨A2, c2, rfl⟩ := Kd.R_slice HR2.out
  obtain ⟨ad, e1, hx0, hx1⟩ := at_T62 ((Kd.R_reads' HR12.out).2.2) 0 (by decide) (by decide)
  obtain ⟨ad2, e2, hy0, hy1⟩ := at_T62 ((Kd.R_reads' HR2.out).2.2) 2 (by decide) (by decide)
  subst e1 e2
  have hx0' : w2.cell? ad = some (.int .i64 1) := by simpa [rd_T62, addr_add0] using hx0
  have hx1' : w2.cell? ⟨ad.block, ad.off + 1, none⟩ = some (.int .i64 (-5)) := by simpa [rd_T62, addr_add0] using hx1
  have hy1' := hy1
  rw [show (rd_T62 [⟨1, 2⟩, ⟨1, 12⟩, ⟨1, 22⟩] 2).f1 = 22 from rfl, show ((2 : Int).toNat * 2) = 4 from rfl] at hy1'
  replace hy1' : w2.cell? ⟨ad2.block, ad2.off + 4 + 1, none⟩ = some (.int .i64 22) := by simpa [Addr.add] using hy1'
  clear hx0 hx1 hy0 hy1
  have HC : Aside0 (tributarylaw3_code.f (some (wrongQ 9 0 0).get!) = some 50) := ⟨by kernel_rfl⟩
  have HQ : Aside0 (ops_Right.f 9 0 0 0 0 = some (some 50)) := ⟨by kernel_rfl⟩
  go_wp2_with (first
    | (go_at_call 38; refine (ops_Narrow.calls 5 true _ (by kernel_rfl)).mono ?_; rintro e w3 ⟨rfl, ⟨n3, rfl⟩⟩)
    | (go_at_call 40; refine (ops_Wide.calls 8 true _ (by kernel_rfl)).mono ?_; rintro e w4 ⟨rfl, ⟨n4, rfl⟩⟩)
    | (go_at_call 33; go_loud (refine (ops_Right.calls 9 0 0 0 0 _ _ HQ.out).mono ?_; rintro e w5 ⟨b5, rfl, hE, hb⟩; have HB5 := Aside0.mk (HB2.out.trans ((drewN_below hb).mono HB2.out.size)); have HE5 := Aside0.mk hE; clear hE hb; rw [errV_some]))
    | (go_at_call 36; refine (tributarylaw3_code.calls (some 50) b5 50 _ ⟨rfl, HE5.out.2⟩ (HL.out.below HB5.out (Nat.le_refl _)) (by kernel_rfl)).mono ?_; rintro e w6 ⟨rfl, hb⟩))
  go_ret
  exact ⟨rfl, HB5.out.trans (hb.mono HB5.out.size)⟩
theorem tributarylaw3_told.calls (r : Bool) (w : World) (hL : Laid w) (h : tributarylaw3_told.f = some r) :
    Calls Tryd.prog 35 #[] w fun e w' => e = .returned (.bool r) ∧ Below w.heap.size w w' := by
  obtain rfl := Option.some.inj h
  exact told_law w hL
end Go.Proofs.YtemnnnjlllgeeaaDoor.POps
