/- Proved: the contracts of ops.Right and of a law's own 'code' and 'at', as the printed texts take them; no condition. -/
import Derived.Test.YtemnnnjlllgeeaaDoorCode
import Derived.Test.YtemnnnjlllgeeaaDoorPOpsx0
import Derived.IntWalk
namespace Go.Proofs.YtemnnnjlllgeeaaDoor.POps
open Go.RowKit Go.Proofs.YtemnnnjlllgeeaaDoorW.PrintWords Go.Proofs.YtemnnnjlllgeeaaDoorW.PrintLast Go.Proofs.YtemnnnjlllgeeaaDoorW.PrintMore Go.Proofs.YtemnnnjlllgeeaaDoor.Err
attribute [local go_sem] max2_int min2_int max_two min_two max_three min_three max_four min_four
set_option linter.unusedVariables false
set_option linter.unusedSimpArgs false

/-- An error's block, if it has one, is none of the elder ones. -/
def ErrNew (n : Nat) (v : Value) : Prop := ∀ (t : TypeId) (b : Nat), v = .iface t (.pointer (some ⟨b, 0, none⟩)) → n ≤ b
theorem ErrNew.nil {n : Nat} : ErrNew n .nilIface := fun _ _ h => by cases h
theorem ErrNew.le {n m : Nat} {v : Value} (h : ErrNew n v) (hm : m ≤ n) : ErrNew m v := fun t b e => Nat.le_trans hm (h t b e)
def opsS : ByteArray := ⟨#[111, 112, 115]⟩
theorem fault_calls (a : Int) (w : World) : Calls Tryd.prog 53 #[.int .i64 a] w fun e w' => ∃ v, e = .returned v ∧ IsErr w' (.fault opsS a (.num 50)) v ∧ Below w.heap.size w w' ∧ ErrNew w.heap.size v := by
  go_enter Tryd.func53, Tryd.ntmps53
  go_wp2
  go_ret
  exact ⟨_, rfl, ⟨w.heap.size, _, rfl, heap_alloc_new w _, rfl⟩, (Below.refl _ _).alloc (Nat.le_refl _) _, fun _ _ h => by cases h; exact Nat.le_refl _⟩

set_option maxHeartbeats 4000000 in
theorem code_law (x : Option Er) (v : Value) (w : World) (hx : IsErr? w x v) (hg : Laid w) : Calls Tryd.prog 36 #[v] w fun e w' => e = .returned (.int .i64 (codeOf x)) ∧ Below w.heap.size w w' := by
  have HX := Aside0.mk hx
  have HG := Aside0.mk hg
  clear hx hg
  go_enter Tryd.func36, Tryd.ntmps36
  go_wp2_with (first | (go_at_call 51; refine (code_calls x _ _ HX.out HG.out).mono ?_; rintro e w' ⟨rfl, hb⟩))
  go_ret
  exact ⟨rfl, by assumption⟩
theorem ta58 (x : Value) (w : World) : (Instr.typeAssert (.iface 80 x) 25 80 true).run Tryd.prog w = .ok (.tuple #[x, .bool true]) w := by kernel_rfl
theorem ta52 (x : Value) (w : World) : (Instr.typeAssert (.iface 72 x) 25 80 true).run Tryd.prog w = .ok (.tuple #[.pointer none, .bool false]) w := by kernel_rfl
theorem tanil (w : World) : (Instr.typeAssert .nilIface 25 80 true).run Tryd.prog w = .ok (.tuple #[.pointer none, .bool false]) w := by kernel_rfl
set_option maxHeartbeats 4000000 in
theorem at_law (x : Option Er) (v : Value) (w : World) (hx : IsErr? w x v) : Calls Tryd.prog 37 #[v] w fun e w' => e = .returned (.int .i64 (placeOf x)) ∧ w = w' := by
  have t1 := ta58
  have t2 := ta52
  have t3 := tanil
  match x, hx with
  | none, hx =>
    obtain rfl : v = .nilIface := hx
    go_enter Tryd.func37, Tryd.ntmps37
    go_wp2
    go_ret
    exact ⟨rfl, rfl⟩
  | some (.num n), hx =>
    obtain rfl : v = _ := hx
    go_enter Tryd.func37, Tryd.ntmps37
    go_wp2
    go_ret
    exact ⟨rfl, rfl⟩
  | some (.fault wh a e), hx =>
    obtain ⟨b, v', rfl, hb, he⟩ := hx
    have hc := blk_cell hb 1 _ rfl
    clear he hb
    go_enter Tryd.func37, Tryd.ntmps37
    go_wp2
    go_ret
    exact ⟨rfl, rfl⟩
theorem drewN_below {w w' : World} {m : Nat} (hb : Below (w.drewN m).heap.size (w.drewN m) w') : Below w.heap.size w w' := below_step (by apply pw_below_drewN; exact Below.refl _ _) hb
/-- ops' error with such a number, at a place; 0: none. -/
def oerr (at_ e : Int) : Option Er := if e = 0 then none else some (.fault opsS at_ (.num e))
def errS : ByteArray := opsS
/-- An error that is told by one number (place and number), lying at a block. -/
def errV : Option Int → Nat → Value
  | none, _ => .nilIface
  | some _, b => .iface 80 (.pointer (some ⟨b, 0, none⟩))
theorem errV_none (b : Nat) : errV none b = .nilIface := rfl
theorem errV_some (q : Int) (b : Nat) : errV (some q) b = .iface 80 (.pointer (some ⟨b, 0, none⟩)) := rfl
def ErrBox (w : World) (base : Nat) : Option Int → Nat → Prop
  | none, _ => True
  | some q, b => base ≤ b ∧ w.heap[b]? = some (.cells #[.string (errS), .int .i64 (q / 256), .iface 72 (.int .i64 (q % 256))] 83 (0, 0))
/-- Such an error, handed over. -/
def ErrArg (w : World) (v : Value) : Option Int → Nat → Prop
  | none, _ => v = .nilIface
  | some q, b => v = .iface 80 (.pointer (some ⟨b, 0, none⟩)) ∧ w.heap[b]? = some (.cells #[.string (errS), .int .i64 (q / 256), .iface 72 (.int .i64 (q % 256))] 83 (0, 0))
def errQ (at_ e : Int) : Option Int := if e = 0 then none else some (at_ * 256 + e)
def erOf (x : Option Int) : Option Er := x.map fun q => .fault opsS (q / 256) (.num (q % 256))
theorem arg_err {w : World} {v : Value} {x : Option Int} {b : Nat} (h : ErrArg w v x b) : IsErr? w (erOf x) v := by
  cases x with
  | none => exact h
  | some q => exact ⟨b, _, h.1, h.2, rfl⟩
theorem err_box {w w' : World} {at_ e : Int} {v : Value} (h : IsErr? w' (oerr at_ e) v) (hn : ErrNew w.heap.size v) (he : 0 ≤ e ∧ e < 256) :
    ∃ b, v = errV (errQ at_ e) b ∧ ErrBox w' w.heap.size (errQ at_ e) b := by
  unfold oerr at h
  unfold errQ
  by_cases h0 : e = 0
  · rw [if_pos h0] at h ⊢
    exact ⟨0, h, trivial⟩
  · rw [if_neg h0] at h ⊢
    obtain ⟨b, v', rfl, hc, rfl⟩ := h
    refine ⟨b, rfl, hn _ b rfl, ?_⟩
    rw [show (at_ * 256 + e) / 256 = at_ by omega, show (at_ * 256 + e) % 256 = e by omega]
    exact hc


/-- The least and the greatest function of a kind, and whether there is such a kind. -/
def funs (k : Int) : Int × Int × Bool := if k = 1 ∨ k = 5 then (0, 0, true) else if k = 2 ∨ k = 6 ∨ k = 8 then (0, 5, true) else if k = 3 then (0, 4, true) else if k = 4 then (1, 4, true) else if k = 7 then (0, 3, true) else (0, 0, false)
set_option maxHeartbeats 8000000 in
theorem functions_calls (k : Int) (w : World) : Calls Tryd.prog 52 #[.int .i64 k] w fun e w' => e = .returned (.tuple #[.int .i64 (funs k).1, .int .i64 (funs k).2.1, .bool (funs k).2.2]) ∧ w = w' := by
  have H := Aside0.mk (rfl : funs k = funs k)
  rcases (by omega : (k < 1 ∨ 8 < k) ∨ k = 1 ∨ k = 2 ∨ k = 3 ∨ k = 4 ∨ k = 5 ∨ k = 6 ∨ k = 7 ∨ k = 8) with h | rfl | rfl | rfl | rfl | rfl | rfl | rfl | rfl
  · have e : funs k = (0, 0, false) := by unfold funs; simp only [show ¬ (k = 1 ∨ k = 5) by omega, show ¬ (k = 2 ∨ k = 6 ∨ k = 8) by omega, show ¬ k = 3 by omega, show ¬ k = 4 by omega, show ¬ k = 7 by omega, if_false]
    have h1 : (k == 1) = false := beq_false_of_ne (by omega)
    have h2 : (k == 2) = false := beq_false_of_ne (by omega)
    have h3 : (k == 3) = false := beq_false_of_ne (by omega)
    have h4 : (k == 4) = false := beq_false_of_ne (by omega)
    have h5 : (k == 5) = false := beq_false_of_ne (by omega)
    have h6 : (k == 6) = false := beq_false_of_ne (by omega)
    have h7 : (k == 7) = false := beq_false_of_ne (by omega)
    have h8 : (k == 8) = false := beq_false_of_ne (by omega)
    rw [e]; clear e h H
    go_enter Tryd.func52, Tryd.ntmps52
    go_wp2
    go_ret3
    exact ⟨rfl, rfl⟩
  all_goals
    go_enter Tryd.func52, Tryd.ntmps52
    go_wp2
    go_ret3
    exact ⟨rfl, rfl⟩
/-- How many parts of its inputs a kind needs. -/
def reachS (k : Int) : Int := if k = 6 ∨ k = 7 ∨ k = 8 then 2 else if k = 2 ∨ k = 3 ∨ k = 4 ∨ k = 5 then 1 else 0
set_option maxHeartbeats 8000000 in
theorem reach_calls (k : Int) (w : World) : Calls Tryd.prog 55 #[.int .i64 k] w fun e w' => e = .returned (.int .i64 (reachS k)) ∧ Drawn0 w w' := by
  rcases (by omega : (k < 2 ∨ 8 < k) ∨ k = 2 ∨ k = 3 ∨ k = 4 ∨ k = 5 ∨ k = 6 ∨ k = 7 ∨ k = 8) with h | rfl | rfl | rfl | rfl | rfl | rfl | rfl
  · have e : reachS k = 0 := by unfold reachS; rw [if_neg (by omega), if_neg (by omega)]
    have h2 : (k == 2) = false := beq_false_of_ne (by omega)
    have h3 : (k == 3) = false := beq_false_of_ne (by omega)
    have h4 : (k == 4) = false := beq_false_of_ne (by omega)
    have h5 : (k == 5) = false := beq_false_of_ne (by omega)
    have h6 : (k == 6) = false := beq_false_of_ne (by omega)
    have h7 : (k == 7) = false := beq_false_of_ne (by omega)
    have h8 : (k == 8) = false := beq_false_of_ne (by omega)
    rw [e]; clear e h
    go_enter Tryd.func55, Tryd.ntmps55
    go_wp2
    go_ret
    exact ⟨rfl, by repeat (first | exact Drawn0.refl _ | apply Drawn0.step | exact ⟨_, rfl⟩)⟩
  all_goals
    go_enter Tryd.func55, Tryd.ntmps55
    go_wp2
    go_ret
    exact ⟨rfl, by repeat (first | exact Drawn0.refl _ | apply Drawn0.step | exact ⟨_, rfl⟩)⟩
def ops_reach.f (a0 : Int) : Option Int := some (reachS a0)
theorem ops_reach.calls (a0 : Int) (r : Int) (w : World) (h : ops_reach.f a0 = some r) : Calls Tryd.prog 55 #[.int .i64 a0] w fun e w' => e = .returned (.int .i64 r) ∧ Drawn0 w w' := by
  obtain rfl := Option.some.inj h
  exact reach_calls a0 w
/-- What is wrong with an operation: the field. -/
def wrong (k f c : Int) : Option Int := if (funs k).2.2 = false then some 0 else if f < (funs k).1 ∨ (funs k).2.1 < f then some 1 else if c < -999999999 ∨ 999999999 < c ∨ (c ≠ 0 ∧ ¬ (k = 2 ∨ k = 3 ∨ k = 4)) then some 2 else none
def wrongQ (k f c : Int) : Option Int := (wrong k f c).map fun p => p * 256 + 50
theorem right_fault {w w1 w2 : World} {v : Value} {p : Int} (h : IsErr w2 (.fault opsS p (.num 50)) v) (hb : Below w.heap.size w w1) (hb2 : Below w1.heap.size w1 w2) (hN : ErrNew w1.heap.size v) :
    ∃ b, Ending.returned v = .returned (errV (some (p * 256 + 50)) b) ∧ ErrBox w2 w.heap.size (some (p * 256 + 50)) b ∧ Below w.heap.size w w2 := by
  obtain ⟨b, v', rfl, hc, rfl⟩ := h
  refine ⟨b, rfl, ⟨Nat.le_trans hb.size (hN _ b rfl), ?_⟩, hb.trans (hb2.mono hb.size)⟩
  rw [show (p * 256 + 50) / 256 = p by omega, show (p * 256 + 50) % 256 = 50 by omega]
  exact hc
theorem functions_as {k lo hi : Int} {ok : Bool} (h : funs k = (lo, hi, ok)) (w : World) : Calls Tryd.prog 52 #[.int .i64 k] w fun e w' => e = .returned (.tuple #[.int .i64 lo, .int .i64 hi, .bool ok]) ∧ w = w' := by
  have := functions_calls k w
  rw [h] at this
  exact this
set_option maxRecDepth 20000 in
set_option maxHeartbeats 16000000 in
theorem right_calls (q0 q1 q2 q3 q4 : Int) (w : World) : Calls Tryd.prog 33 #[.agg #[.int .i64 q0, .int .i64 q1, .int .i64 q2, .int .i64 q3, .int .i64 q4]] w fun e w' => ∃ b, e = .returned (errV (wrongQ q0 q3 q4) b) ∧ ErrBox w' w.heap.size (wrongQ q0 q3 q4) b ∧ Below w.heap.size w w' := by
  obtain ⟨F, hF⟩ : ∃ F, funs q0 = F := ⟨_, rfl⟩
  obtain ⟨lo, hi, ok⟩ := F
  have HF := Aside0.mk hF
  have HB0 := Aside0.mk ((Below.refl w.heap.size w).alloc (Nat.le_refl _) (Obj.cells #[.int .i64 q0, .int .i64 q1, .int .i64 q2, .int .i64 q3, .int .i64 q4] 55))
  obtain ⟨o, ho⟩ : ∃ o, wrong q0 q3 q4 = o := ⟨_, rfl⟩
  have HW := Aside0.mk ho
  unfold wrongQ
  rw [ho]
  unfold wrong at ho
  rw [hF] at ho
  clear hF
  cases ok
  · rw [if_pos rfl] at ho
    subst ho
    clear HW
    go_enter Tryd.func33, Tryd.ntmps33
    go_wp2_with (first | (go_at_call 52; refine (functions_as HF.out _).mono ?_; rintro e w' ⟨rfl, rfl⟩) | (go_at_call 53; refine (fault_calls _ _).mono ?_; rintro e w' ⟨v, rfl, hE, hb, hN⟩))
    go_ret
    exact right_fault hE HB0.out hb hN
  rw [if_neg (by simp)] at ho
  simp only [] at ho
  cases h1 : decide (q3 < lo)
  · cases h2 : decide (hi < q3)
    · cases h3 : decide (q4 < -999999999)
      · cases h4 : decide (999999999 < q4)
        · cases h5 : (q4 == 0)
          · cases h6 : (q0 == 2)
            · cases h7 : (q0 == 3)
              · cases h8 : (q0 == 4)
                · have ho' : o = some 2 := by
                    simp only [decide_eq_true_eq, decide_eq_false_iff_not, beq_iff_eq, beq_eq_false_iff_ne, ne_eq] at h1 h2 h3 h4 h5 h6 h7 h8
                    rw [if_neg (by omega), if_pos (by omega)] at ho; exact ho.symm
                  subst ho'
                  clear ho HW
                  have n5 : (q4 != 0) = !(q4 == 0) := rfl; rw [h5] at n5; simp only [Bool.not_true, Bool.not_false] at n5
                  have n6 : (q0 != 2) = !(q0 == 2) := rfl; rw [h6] at n6; simp only [Bool.not_true, Bool.not_false] at n6
                  have n7 : (q0 != 3) = !(q0 == 3) := rfl; rw [h7] at n7; simp only [Bool.not_true, Bool.not_false] at n7
                  have n8 : (q0 != 4) = !(q0 == 4) := rfl; rw [h8] at n8; simp only [Bool.not_true, Bool.not_false] at n8
                  go_enter Tryd.func33, Tryd.ntmps33
                  go_wp2_with (first | (go_at_call 52; refine (functions_as HF.out _).mono ?_; rintro e w' ⟨rfl, rfl⟩) | (go_at_call 53; refine (fault_calls _ _).mono ?_; rintro e w' ⟨v, rfl, hE, hb, hN⟩))
                  go_ret
                  exact right_fault hE HB0.out hb hN
                · have ho' : o = none := by
                    simp only [decide_eq_true_eq, decide_eq_false_iff_not, beq_iff_eq, beq_eq_false_iff_ne, ne_eq] at h1 h2 h3 h4 h5 h6 h7 h8
                    rw [if_neg (by omega), if_neg (by omega)] at ho; exact ho.symm
                  subst ho'
                  clear ho HW
                  have n5 : (q4 != 0) = !(q4 == 0) := rfl; rw [h5] at n5; simp only [Bool.not_true, Bool.not_false] at n5
                  have n6 : (q0 != 2) = !(q0 == 2) := rfl; rw [h6] at n6; simp only [Bool.not_true, Bool.not_false] at n6
                  have n7 : (q0 != 3) = !(q0 == 3) := rfl; rw [h7] at n7; simp only [Bool.not_true, Bool.not_false] at n7
                  have n8 : (q0 != 4) = !(q0 == 4) := rfl; rw [h8] at n8; simp only [Bool.not_true, Bool.not_false] at n8
                  go_enter Tryd.func33, Tryd.ntmps33
                  go_wp2_with (first | (go_at_call 52; refine (functions_as HF.out _).mono ?_; rintro e w' ⟨rfl, rfl⟩) | (go_at_call 53; refine (fault_calls _ _).mono ?_; rintro e w' ⟨v, rfl, hE, hb, hN⟩))
                  go_ret
                  exact ⟨0, rfl, trivial, HB0.out⟩
              · have ho' : o = none := by
                  simp only [decide_eq_true_eq, decide_eq_false_iff_not, beq_iff_eq, beq_eq_false_iff_ne, ne_eq] at h1 h2 h3 h4 h5 h6 h7
                  rw [if_neg (by omega), if_neg (by omega)] at ho; exact ho.symm
                subst ho'
                clear ho HW
                have n5 : (q4 != 0) = !(q4 == 0) := rfl; rw [h5] at n5; simp only [Bool.not_true, Bool.not_false] at n5
                have n6 : (q0 != 2) = !(q0 == 2) := rfl; rw [h6] at n6; simp only [Bool.not_true, Bool.not_false] at n6
                have n7 : (q0 != 3) = !(q0 == 3) := rfl; rw [h7] at n7; simp only [Bool.not_true, Bool.not_false] at n7
                go_enter Tryd.func33, Tryd.ntmps33
                go_wp2_with (first | (go_at_call 52; refine (functions_as HF.out _).mono ?_; rintro e w' ⟨rfl, rfl⟩) | (go_at_call 53; refine (fault_calls _ _).mono ?_; rintro e w' ⟨v, rfl, hE, hb, hN⟩))
                go_ret
                exact ⟨0, rfl, trivial, HB0.out⟩
            · have ho' : o = none := by
                simp only [decide_eq_true_eq, decide_eq_false_iff_not, beq_iff_eq, beq_eq_false_iff_ne, ne_eq] at h1 h2 h3 h4 h5 h6
                rw [if_neg (by omega), if_neg (by omega)] at ho; exact ho.symm
              subst ho'
              clear ho HW
              have n5 : (q4 != 0) = !(q4 == 0) := rfl; rw [h5] at n5; simp only [Bool.not_true, Bool.not_false] at n5
              have n6 : (q0 != 2) = !(q0 == 2) := rfl; rw [h6] at n6; simp only [Bool.not_true, Bool.not_false] at n6
              go_enter Tryd.func33, Tryd.ntmps33
              go_wp2_with (first | (go_at_call 52; refine (functions_as HF.out _).mono ?_; rintro e w' ⟨rfl, rfl⟩) | (go_at_call 53; refine (fault_calls _ _).mono ?_; rintro e w' ⟨v, rfl, hE, hb, hN⟩))
              go_ret
              exact ⟨0, rfl, trivial, HB0.out⟩
          · have ho' : o = none := by
              simp only [decide_eq_true_eq, decide_eq_false_iff_not, beq_iff_eq, beq_eq_false_iff_ne, ne_eq] at h1 h2 h3 h4 h5
              rw [if_neg (by omega), if_neg (by omega)] at ho; exact ho.symm
            subst ho'
            clear ho HW
            have n5 : (q4 != 0) = !(q4 == 0) := rfl; rw [h5] at n5; simp only [Bool.not_true, Bool.not_false] at n5
            go_enter Tryd.func33, Tryd.ntmps33
            go_wp2_with (first | (go_at_call 52; refine (functions_as HF.out _).mono ?_; rintro e w' ⟨rfl, rfl⟩) | (go_at_call 53; refine (fault_calls _ _).mono ?_; rintro e w' ⟨v, rfl, hE, hb, hN⟩))
            go_ret
            exact ⟨0, rfl, trivial, HB0.out⟩
        · have ho' : o = some 2 := by
            simp only [decide_eq_true_eq, decide_eq_false_iff_not, beq_iff_eq, beq_eq_false_iff_ne, ne_eq] at h1 h2 h3 h4
            rw [if_neg (by omega), if_pos (by omega)] at ho; exact ho.symm
          subst ho'
          clear ho HW
          go_enter Tryd.func33, Tryd.ntmps33
          go_wp2_with (first | (go_at_call 52; refine (functions_as HF.out _).mono ?_; rintro e w' ⟨rfl, rfl⟩) | (go_at_call 53; refine (fault_calls _ _).mono ?_; rintro e w' ⟨v, rfl, hE, hb, hN⟩))
          go_ret
          exact right_fault hE HB0.out hb hN
      · have ho' : o = some 2 := by
          simp only [decide_eq_true_eq, decide_eq_false_iff_not, beq_iff_eq, beq_eq_false_iff_ne, ne_eq] at h1 h2 h3
          rw [if_neg (by omega), if_pos (by omega)] at ho; exact ho.symm
        subst ho'
        clear ho HW
        go_enter Tryd.func33, Tryd.ntmps33
        go_wp2_with (first | (go_at_call 52; refine (functions_as HF.out _).mono ?_; rintro e w' ⟨rfl, rfl⟩) | (go_at_call 53; refine (fault_calls _ _).mono ?_; rintro e w' ⟨v, rfl, hE, hb, hN⟩))
        go_ret
        exact right_fault hE HB0.out hb hN
    · have ho' : o = some 1 := by
        simp only [decide_eq_true_eq, decide_eq_false_iff_not, beq_iff_eq, beq_eq_false_iff_ne, ne_eq] at h1 h2
        rw [if_pos (by omega)] at ho; exact ho.symm
      subst ho'
      clear ho HW
      go_enter Tryd.func33, Tryd.ntmps33
      go_wp2_with (first | (go_at_call 52; refine (functions_as HF.out _).mono ?_; rintro e w' ⟨rfl, rfl⟩) | (go_at_call 53; refine (fault_calls _ _).mono ?_; rintro e w' ⟨v, rfl, hE, hb, hN⟩))
      go_ret
      exact right_fault hE HB0.out hb hN
  · have ho' : o = some 1 := by
      simp only [decide_eq_true_eq, decide_eq_false_iff_not, beq_iff_eq, beq_eq_false_iff_ne, ne_eq] at h1
      rw [if_pos (by omega)] at ho; exact ho.symm
    subst ho'
    clear ho HW
    go_enter Tryd.func33, Tryd.ntmps33
    go_wp2_with (first | (go_at_call 52; refine (functions_as HF.out _).mono ?_; rintro e w' ⟨rfl, rfl⟩) | (go_at_call 53; refine (fault_calls _ _).mono ?_; rintro e w' ⟨v, rfl, hE, hb, hN⟩))
    go_ret
    exact right_fault hE HB0.out hb hN

def ops_Right.f (q0 q1 q2 q3 q4 : Int) : Option (Option Int) := some (wrongQ q0 q3 q4)
theorem ops_Right.calls (q0 q1 q2 q3 q4 : Int) (r : Option Int) (w : World) (h : ops_Right.f q0 q1 q2 q3 q4 = some r) :
    Calls Tryd.prog 33 #[.agg #[.int .i64 q0, .int .i64 q1, .int .i64 q2, .int .i64 q3, .int .i64 q4]] w fun e w' => ∃ b, e = .returned (errV r b) ∧ ErrBox w' w.heap.size r b ∧ Below w.heap.size w w' := by
  obtain rfl := Option.some.inj h
  exact right_calls q0 q1 q2 q3 q4 w
def tributarylaw3_code.f (x : Option Int) : Option Int := some (codeOf (erOf x))
theorem tributarylaw3_code.calls (x : Option Int) (b : Nat) (r : Int) {v : Value} (w : World) (hb : ErrArg w v x b) (hL : Laid w) (h : tributarylaw3_code.f x = some r) :
    Calls Tryd.prog 36 #[v] w fun e w' => e = .returned (.int .i64 r) ∧ Below w.heap.size w w' := by
  obtain rfl := Option.some.inj h
  exact code_law _ v w (arg_err hb) hL
def tributarylaw3_at.f (x : Option Int) : Option Int := some (placeOf (erOf x))
theorem tributarylaw3_at.calls (x : Option Int) (b : Nat) (r : Int) {v : Value} (w : World) (hb : ErrArg w v x b) (h : tributarylaw3_at.f x = some r) :
    Calls Tryd.prog 37 #[v] w fun e w' => e = .returned (.int .i64 r) ∧ Below w.heap.size w w' := by
  obtain rfl := Option.some.inj h
  exact (at_law _ v w (arg_err hb)).mono fun e w' ⟨h1, h2⟩ => ⟨h1, h2 ▸ Below.refl _ _⟩
abbrev Laid (w : World) : Prop := Err.Laid w
theorem Laid.below {w w' : World} {n : Nat} (h : Laid w) (hb : Below n w w') (hn : w.heap.size ≤ n) : Laid w' := Err.Laid.below h hb hn
end Go.Proofs.YtemnnnjlllgeeaaDoor.POps
