/- Proved: the law DiskArms returns true for all numbers: the walk. -/
import Derived.Test.YtemnnnjlllgeeaaDoorDiskT
namespace Go.Proofs.YtemnnnjlllgeeaaDoor.PDsk
open Go.RowKit Go.Proofs.YtemnnnjlllgeeaaDoorW.PrintWords Go.Proofs.YtemnnnjlllgeeaaDoorW.PrintLast Go.Proofs.YtemnnnjlllgeeaaDoorW.PrintMore Go.Proofs.YtemnnnjlllgeeaaDoor.Err Go.Maps
attribute [local go_sem] max2_int min2_int max_two min_two max_three min_three max_four min_four
set_option linter.unusedVariables false
set_option linter.unusedSimpArgs false

theorem and15 (n : Int) : Go.bits .and .i64 n 15 = n % 16 := by
  have h127 : (BitVec.ofInt 64 15).toNat = 2 ^ 4 - 1 := by decide
  have key : (BitVec.ofInt 64 n &&& BitVec.ofInt 64 15).toNat = (n % ((2 ^ 64 : Nat) : Int)).toNat % 2 ^ 4 := by
    rw [BitVec.toNat_and, BitVec.toNat_ofInt, h127, Nat.and_two_pow_sub_one_eq_mod]
  show IntKind.i64.wrap ((BitVec.ofInt 64 n &&& BitVec.ofInt 64 15).toNat : Nat) = n % 16
  rw [key, IntKind.wrap_i64]
  omega
theorem and7 (n : Int) : Go.bits .and .i64 n 7 = n % 8 := by
  have h127 : (BitVec.ofInt 64 7).toNat = 2 ^ 3 - 1 := by decide
  have key : (BitVec.ofInt 64 n &&& BitVec.ofInt 64 7).toNat = (n % ((2 ^ 64 : Nat) : Int)).toNat % 2 ^ 3 := by
    rw [BitVec.toNat_and, BitVec.toNat_ofInt, h127, Nat.and_two_pow_sub_one_eq_mod]
  show IntKind.i64.wrap ((BitVec.ofInt 64 n &&& BitVec.ofInt 64 7).toNat : Nat) = n % 8
  rw [key, IntKind.wrap_i64]
  omega
/-- The disk behind i of the writes, armed at the m-th. -/
def stA (m i : Nat) : Dk := if i < m then ⟨40, false, ((m - i : Nat) : Int), (i : Int), 0⟩ else ⟨40, true, 0, ((m - 1 : Nat) : Int), 1⟩
def cA (m i : Nat) : Int → Option (List Int) := fun j => if 0 ≤ j ∧ j < ((min i (m - 1) : Nat) : Int) then some [j] else none
theorem cA_next (m i : Nat) (h : i + 1 < m) : (fun j : Int => if j = (i : Int) then some [(i : Int)] else cA m i j) = cA m (i + 1) := by
  funext j
  unfold cA
  rw [show min i (m - 1) = i by omega, show min (i + 1) (m - 1) = i + 1 by omega]
  by_cases hj : j = (i : Int)
  · rw [if_pos hj, if_pos (by omega), hj]
  · rw [if_neg hj]
    by_cases h2 : 0 ≤ j ∧ j < (i : Int)
    · rw [if_pos h2, if_pos (by omega)]
    · rw [if_neg h2, if_neg (by omega)]
theorem cA_stays (m i : Nat) (h : m ≤ i + 1) : cA m i = cA m (i + 1) := by
  funext j
  unfold cA
  rw [show min i (m - 1) = m - 1 by omega, show min (i + 1) (m - 1) = m - 1 by omega]
theorem Cont.more {w : World} {base Bs Bm n n' : Nat} {C : Int → Option (List Int)} (h : Cont w base Bs Bm n C) (hn : n ≤ n') : Cont w base Bs Bm n' C := by
  obtain ⟨D, hM, hk⟩ := h.map
  exact ⟨D, hM.mono hn, hk⟩
/-- One write of the row: what comes of it. -/
theorem write_row (m i : Nat) (hm : 1 ≤ m ∧ m ≤ 16) (hi : i < 24) (A0 : Option Addr) (c0 : Nat) (base Bs Bm n : Nat) (w : World) (h : St w Bs Bm (stA m i)) (hC : Cont w base Bs Bm n (cA m i)) (hne : Bs ≠ Bm) (hbs : base ≤ w.heap.size) (hn : n < maxLen)
    (hr0 : ∀ W, Fr (fun b => b = Bs ∨ b = Bm) w W → Kd.C (Kd.int .u8) W A0 1 [(i : Int)]) (hc0 : 1 ≤ c0) :
    Calls Tryd.prog 14 #[.pointer (some ⟨Bs, 0, none⟩), .int .i64 (i : Int), .slice A0 1 c0] w fun e w' => ∃ v, e = .returned v ∧ ((i + 1 < m ∧ v = .nilIface) ∨ (m ≤ i + 1 ∧ ∃ t x, v = .iface t x)) ∧ St w' Bs Bm (stA m (i + 1)) ∧ Cont w' base Bs Bm (n + 1) (cA m (i + 1)) ∧ Fr (fun b => b = Bs ∨ b = Bm) w w' := by
  by_cases h1 : i + 1 < m
  · have e0 : stA m i = ⟨40, false, ((m - i : Nat) : Int), (i : Int), 0⟩ := by unfold stA; rw [if_pos (by omega)]
    have e1 : stA m (i + 1) = ⟨40, false, ((m - (i + 1) : Nat) : Int), ((i + 1 : Nat) : Int), 0⟩ := by unfold stA; rw [if_pos (by omega)]
    have hw : wrap64 (((m - i : Nat) : Int) - 1) = ((m - (i + 1) : Nat) : Int) := by unfold wrap64; omega
    have hw2 : wrap64 ((i : Int) + 1) = ((i + 1 : Nat) : Int) := by unfold wrap64; omega
    refine (write_dec (i : Int) A0 c0 [(i : Int)] (stA m i) base Bs Bm n _ w h hC hne hbs hn (by unfold okI; omega) hr0 hc0 (by simp) ?_ ?_ ?_).mono ?_
    · rw [e0]; unfold met; rw [if_neg (by simp), if_neg (by simp; omega)]
    · rw [e0]; simp only []; omega
    · rw [e0]; simp only []; rw [hw]; omega
    · rintro e w' ⟨rfl, hS, hC', f⟩
      refine ⟨_, rfl, Or.inl ⟨h1, rfl⟩, ?_, ?_, f⟩
      · rw [e1]; rw [e0] at hS; simp only [hw, hw2] at hS; exact hS
      · rw [← cA_next m i h1]; exact hC'
  · by_cases h2 : i < m
    · have e0 : stA m i = ⟨40, false, 1, (i : Int), 0⟩ := by unfold stA; rw [if_pos h2, show m - i = 1 by omega]; rfl
      have e1 : stA m (i + 1) = ⟨40, true, 0, (i : Int), 1⟩ := by unfold stA; rw [if_neg (by omega), show m - 1 = i by omega]
      have hw : wrap64 (1 - 1) = 0 := wrap64_in _ (by decide)
      have hw2 : wrap64 (0 + 1) = 1 := wrap64_in _ (by decide)
      refine (write_cut (i : Int) A0 c0 [(i : Int)] (stA m i) base Bs Bm n _ w h hC hne hbs hn (by unfold okI; omega) hr0 hc0 (by simp) ?_ ?_ ?_).mono ?_
      · rw [e0]; unfold met; rw [if_neg (by simp), if_neg (by simp; omega)]
      · rw [e0]; exact (by decide : (0 : Int) < 1)
      · rw [e0]; exact hw
      · rintro e w' ⟨v, rfl, hE, hS, hC', f, hN⟩
        obtain ⟨b, v', rfl, _⟩ := hE
        refine ⟨_, rfl, Or.inr ⟨by omega, _, _, rfl⟩, ?_, ?_, f⟩
        · rw [e1]; rw [e0] at hS; unfold cutS at hS; rw [if_neg (by simp)] at hS; simp only [hw2] at hS; exact hS
        · rw [← cA_stays m i (by omega)]; exact hC'.more (Nat.le_succ n)
    · have e0 : stA m i = ⟨40, true, 0, ((m - 1 : Nat) : Int), 1⟩ := by unfold stA; rw [if_neg h2]
      have e1 : stA m (i + 1) = ⟨40, true, 0, ((m - 1 : Nat) : Int), 1⟩ := by unfold stA; rw [if_neg (by omega)]
      have hm0 : met (stA m i) (i : Int) (([(i : Int)] : List Int).length : Int) = 0 := by rw [e0]; rfl
      refine (write_bad (i : Int) A0 c0 [(i : Int)] (stA m i) Bs Bm w h (by rw [hm0]; decide)).mono ?_
      rintro e w' ⟨v, rfl, hE, hb, hN⟩
      rw [hm0] at hE
      obtain ⟨b, v', rfl, _⟩ := hE
      have f := Fr.of_below (S := fun _ => False) hb
      refine ⟨_, rfl, Or.inr ⟨by omega, _, _, rfl⟩, ?_, ?_, f.mono (fun _ h => h.elim)⟩
      · rw [e1, ← e0]; exact h.kept f (fun h => h.elim)
      · rw [← cA_stays m i (by omega)]; exact (hC.kept f (fun _ h => h.elim) hne).more (Nat.le_succ n)
def tributarylaw7_DiskArms.f (n more : Int) : Option Bool := some true
set_option maxHeartbeats 32000000 in
set_option maxRecDepth 100000 in
theorem diskArms_law (n0 more : Int) (w : World) (hL : Laid w) : Calls Tryd.prog 4 #[.int .i64 n0, .int .i64 more] w fun e w' => e = .returned (.bool true) ∧ Below w.heap.size w w' := by
  have HL := Aside0.mk hL
  clear hL
  obtain ⟨m, hm, hm1⟩ : ∃ m : Nat, wrap64 (Go.bits .and .i64 n0 15 + 1) = (m : Int) ∧ (1 ≤ m ∧ m ≤ 16) := ⟨(n0 % 16 + 1).toNat, by rw [and15, wrap64_in _ (by omega)]; omega, by omega⟩
  obtain ⟨q, hq, hq1⟩ : ∃ q : Nat, Go.bits .and .i64 more 7 = (q : Int) ∧ q ≤ 7 := ⟨(more % 8).toNat, by rw [and7]; omega, by omega⟩
  go_enter Tryd.func4, Tryd.ntmps4
  go_wp2_with fail
  rw [hm]
  try rw [hq]
  clear hm hq
  refine (new_ok 40 w (by decide) (by decide)).mono ?_
  rintro e w1 ⟨Bs, Bm, rfl, b1, b2, hne, hS, hC, hb⟩
  have H1 := Aside0.mk hS
  have C1 := Aside0.mk hC
  have F1 : Aside0 (Fr (fun b => w.heap.size ≤ b) w w1) := ⟨Fr.of_below hb⟩
  have HS : Aside0 (∀ b, b = Bs ∨ b = Bm → w.heap.size ≤ b) := ⟨fun b h => by rcases h with rfl | rfl; exact b1; exact b2⟩
  have HNE := Aside0.mk hne
  clear hS hC hb b1 b2 hne
  go_wp2_with fail
  refine (arm_calls _ (m : Int) Bs Bm w1 H1.out).mono ?_
  rintro e w2 ⟨rfl, hS, f⟩
  have H2 : Aside0 (St w2 Bs Bm (stA m 0)) := ⟨by
    have e1 : armS ⟨40, false, 0, 0, 0⟩ (m : Int) = stA m 0 := by
      have h1 : (0 : Nat) < m := by omega
      have h2 : ¬ ((m : Int) < 0) := by omega
      simp [armS, stA, h1, h2]
    rw [← e1]; exact hS⟩
  have C2 : Aside0 (Cont w2 w.heap.size Bs Bm 0 (cA m 0)) := ⟨(C1.out.kept f (fun _ h => h) HNE.out).ext (by funext j; unfold cA; rw [if_neg (by omega)])⟩
  have F2 := Aside0.mk (F1.out.trans (f.mono (fun b h => HS.out b (Or.inl h))))
  clear hS f H1 C1 F1
  have hw1 : wrap64 ((m : Int) + (q : Int)) = ((m + q : Nat) : Int) := by unfold wrap64; omega
  have hw2 : wrap64 ((m : Int) - 1) = ((m - 1 : Nat) : Int) := by unfold wrap64; omega
  have HW1 := Aside0.mk hw1
  have HW2 := Aside0.mk hw2
  clear hw1 hw2
  go_wp2
  go_loopg [7] (m + q) (fun kq v7 wr => ∃ i : Nat, v7 = .int .i64 (i : Int) ∧ i ≤ m + q ∧ m + q - i ≤ kq ∧ Aside0 (St wr Bs Bm (stA m i)) ∧ Aside0 (Cont wr w.heap.size Bs Bm i (cA m i)) ∧ Aside0 (Fr (fun b => w.heap.size ≤ b) w wr))
  case atStart => exact ⟨0, rfl, by omega, by omega, H2, C2, F2⟩
  case round =>
    obtain ⟨i, rfl, hi, hk, HI, CI, FI⟩ := hrel
    clear H2 C2 F2
    by_cases hlt : i < m + q
    · have hw1 := HW1.out
      have hw2 := HW2.out
      have c1 : decide ((i : Int) < ((m + q : Nat) : Int)) = true := decide_eq_true (by omega)
      have hu8 : IntKind.u8.wrap (i : Int) = (i : Int) := IntWalk.u8_in _ ⟨by omega, by omega⟩
      go_wp2_with fail
      clear c1 hu8 hw1 hw2
      have A5 := heap_alloc_new wr (Obj.cells #[Value.int IntKind.u8 (i : Int)] 5)
      have f := Fr.alloc (fun _ => False) wr (Obj.cells #[Value.int IntKind.u8 (i : Int)] 5)
      have H5 := Aside0.mk (HI.out.kept f (fun h => h.elim))
      have C5 := Aside0.mk (CI.out.kept f (fun _ h => h.elim) HNE.out)
      have F5 := Aside0.mk (FI.out.trans (f.mono (fun _ h => h.elim)))
      have R5 := Aside0.mk (lit_far (zs := [(i : Int)]) A5 (by simp) (Nat.ne_of_gt HI.out.lt) (Nat.ne_of_gt CI.out.lt))
      have Z5 := Aside0.mk (Nat.le_trans FI.out.size f.size)
      clear A5 f HI CI FI
      refine (write_row m i hm1 (by omega) _ 1 w.heap.size Bs Bm i _ H5.out C5.out HNE.out Z5.out (by unfold maxLen; omega) R5.out (Nat.le_refl _)).mono ?_
      rintro e w5 ⟨v, rfl, hv, hS, hC, f⟩
      have H6 := Aside0.mk hS
      have C6 := Aside0.mk hC
      have F6 := Aside0.mk (F5.out.trans (f.mono HS.out))
      clear hS hC f H5 C5 F5 R5 Z5
      have hw2 := HW2.out
      have hwi : wrap64 ((i : Int) + 1) = ((i + 1 : Nat) : Int) := by unfold wrap64; omega
      have HWI := Aside0.mk hwi
      clear hwi
      rcases hv with ⟨h1, rfl⟩ | ⟨h1, t, x, rfl⟩
      · have c2 : decide ((i : Int) < ((m - 1 : Nat) : Int)) = true := decide_eq_true (by omega)
        have c3 : decide (((m - 1 : Nat) : Int) ≤ (i : Int)) = false := decide_eq_false (by omega)
        have hd : (stA m (i + 1)).down = false := by unfold stA; rw [if_pos (by omega)]
        have HD := Aside0.mk hd
        clear hd
        go_wp2_with (first | (go_at_call 21; refine (down_calls _ Bs Bm _ H6.out).mono ?_; rintro e w6 ⟨rfl, rfl⟩; rw [HD.out]))
        have hwi := HWI.out
        try go_wp2
        go_roundg (gk - 1)
        case measure => omega
        case rel => exact ⟨i + 1, rfl, by omega, by omega, H6, C6, F6⟩
      · have c2 : decide ((i : Int) < ((m - 1 : Nat) : Int)) = false := decide_eq_false (by omega)
        have c3 : decide (((m - 1 : Nat) : Int) ≤ (i : Int)) = true := decide_eq_true (by omega)
        have hd : (stA m (i + 1)).down = true := by unfold stA; rw [if_neg (by omega)]
        have HD := Aside0.mk hd
        clear hd
        go_wp2_with (first | (go_at_call 21; refine (down_calls _ Bs Bm _ H6.out).mono ?_; rintro e w6 ⟨rfl, rfl⟩; rw [HD.out]))
        go_roundg (gk - 1)
        case measure => omega
        case rel => exact ⟨i + 1, rfl, by omega, by omega, H6, C6, F6⟩
    · have hw1 := HW1.out
      have c1 : decide ((i : Int) < ((m + q : Nat) : Int)) = false := decide_eq_false (by omega)
      have hst : stA m i = ⟨40, true, 0, ((m - 1 : Nat) : Int), 1⟩ := by unfold stA; rw [if_neg (by omega)]
      have hcm : cA m i = cA m m := by funext j; unfold cA; rw [show min i (m - 1) = m - 1 by omega, show min m (m - 1) = m - 1 by omega]
      have H3 := Aside0.mk (show St wr Bs Bm _ from hst ▸ HI.out)
      have C3 : Aside0 (Cont wr w.heap.size Bs Bm 30 (cA m m)) := ⟨(CI.out.more (by omega)).ext hcm⟩
      have F3 := FI
      have hw2 := HW2.out
      clear hst hcm HI CI FI
      go_wp2_with (first
        | (go_at_call 20; refine (writes_calls _ Bs Bm wr H3.out).mono ?_; rintro e w4 ⟨rfl, rfl⟩)
        | (go_at_call 22; refine (life_calls _ Bs Bm wr H3.out).mono ?_; rintro e w4 ⟨rfl, rfl⟩)
        | (go_at_call 17; refine (restart_calls _ Bs Bm wr H3.out).mono ?_; rintro e w7 ⟨rfl, hS, f⟩; have H4 := Aside0.mk (show St w7 Bs Bm ⟨40, false, 0, ((m - 1 : Nat) : Int), 1⟩ from hS); have C4 := Aside0.mk (C3.out.kept f (fun _ h => h) HNE.out); have F4 := Aside0.mk (F3.out.trans (f.mono (fun b h => HS.out b (Or.inl h)))); clear hS f H3 C3 F3 c1 hw1 hw2))
      go_loopg [9] 40 (fun kq v9 wr => ∃ i : Nat, v9 = .int .i64 (i : Int) ∧ i ≤ 40 ∧ 40 - i ≤ kq ∧ Aside0 (St wr Bs Bm ⟨40, false, 0, ((m - 1 : Nat) : Int), 1⟩) ∧ Aside0 (Cont wr w.heap.size Bs Bm 30 (cA m m)) ∧ Aside0 (Fr (fun b => w.heap.size ≤ b) w wr))
      case atStart => exact ⟨0, rfl, by omega, by omega, H4, C4, F4⟩
      case round =>
        clear H4 C4 F4
        obtain ⟨i, rfl, hi, hk, HI, CI, FI⟩ := hrel
        by_cases hlt2 : i < 40
        · have c1 : decide ((i : Int) < 40) = true := decide_eq_true (by omega)
          go_wp2_with fail
          clear c1
          refine (read_ok (i : Int) _ w.heap.size Bs Bm 30 (cA m m) wr HI.out CI.out HNE.out (by unfold okI; omega) ?_ ?_).mono ?_
          · intro xs h
            unfold cA at h
            split at h
            · have := Option.some.inj h; rw [← this]; simp
            · cases h
          · unfold met; rw [if_neg (by simp), if_neg (by simp only []; omega)]
          rintro e w8 ⟨v, rfl, hR, hb⟩
          have f := Fr.of_below (S := fun _ => False) hb
          have H5 := Aside0.mk (HI.out.kept f (fun h => h.elim))
          have C5 := Aside0.mk (CI.out.kept f (fun _ h => h.elim) HNE.out)
          have F5 := Aside0.mk (FI.out.trans (f.mono (fun _ h => h.elim)))
          clear f hb HI CI FI
          have hw2 := HW2.out
          have hwi : wrap64 ((i : Int) + 1) = ((i + 1 : Nat) : Int) := by unfold wrap64; omega
          have HWI := Aside0.mk hwi
          clear hwi
          by_cases hin : i < m - 1
          · have hc : cA m m (i : Int) = some [(i : Int)] := by unfold cA; rw [show min m (m - 1) = m - 1 by omega, if_pos (by omega)]
            rw [hc] at hR ⊢
            simp only [Option.getD_some, Option.isSome_some] at hR ⊢
            obtain ⟨A8, c8, rfl⟩ := Kd.R_slice hR
            obtain ⟨ad, e8, hx8⟩ := Kd.at_int (Kd.R_reads' hR).2.2 0 (by decide) (by simp)
            subst e8
            have hx9 : w8.cell? ad = some (.int .u8 (i : Int)) := by simpa [Addr.add, rd] using hx8
            have c2 : decide ((i : Int) < ((m - 1 : Nat) : Int)) = true := decide_eq_true (by omega)
            have hu8 : IntKind.u8.wrap (i : Int) = (i : Int) := IntWalk.u8_in _ ⟨by omega, by omega⟩
            clear hc hR hx8
            go_wp2
            go_roundg (gk - 1)
            case measure => omega
            case rel => exact ⟨i + 1, rfl, by omega, by omega, H5, C5, F5⟩
          · have hc : cA m m (i : Int) = none := by unfold cA; rw [show min m (m - 1) = m - 1 by omega, if_neg (by omega)]
            rw [hc] at hR ⊢
            simp only [Option.getD_none, Option.isSome_none] at hR ⊢
            obtain ⟨A8, c8, rfl⟩ := Kd.R_slice hR
            have c2 : decide ((i : Int) < ((m - 1 : Nat) : Int)) = false := decide_eq_false (by omega)
            clear hc hR
            go_wp2
            go_roundg (gk - 1)
            case measure => omega
            case rel => exact ⟨i + 1, rfl, by omega, by omega, H5, C5, F5⟩
        · have c1 : decide ((i : Int) < 40) = false := decide_eq_false (by omega)
          go_wp2
          clear c1
          have HE : Aside0 (∃ C, Cont wr w.heap.size Bs Bm (30 + 0) C) := ⟨_, CI.out⟩
          have H4 : Aside0 (St wr Bs Bm ⟨40, false, 0, ((m - 1 + 0 : Nat) : Int), 1⟩) := ⟨HI.out⟩
          have F4 := FI
          clear HI CI FI
          go_loopg [13] 30 (fun kq v13 wr => ∃ i : Nat, v13 = .int .i64 (i : Int) ∧ i ≤ 30 ∧ 30 - i ≤ kq ∧ Aside0 (St wr Bs Bm ⟨40, false, 0, ((m - 1 + i : Nat) : Int), 1⟩) ∧ Aside0 (∃ C, Cont wr w.heap.size Bs Bm (30 + i) C) ∧ Aside0 (Fr (fun b => w.heap.size ≤ b) w wr))
          case atStart => exact ⟨0, rfl, by omega, by omega, H4, HE, F4⟩
          case round =>
            clear H4 HE F4
            obtain ⟨i, rfl, hi, hk, HI, CI, FI⟩ := hrel
            by_cases hlt3 : i < 30
            · have c1 : decide ((i : Int) < 30) = true := decide_eq_true (by omega)
              go_wp2_with fail
              clear c1
              obtain ⟨C, hC⟩ := CI.out
              refine (write_plain (i : Int) none 0 [] _ w.heap.size Bs Bm (30 + i) C wr HI.out hC HNE.out FI.out.size (by unfold maxLen; omega) (by unfold okI; omega) (fun _ _ => Kd.C_nil _ _) (Nat.le_refl _) (by simp) ?_ (Int.le_refl _)).mono ?_
              · unfold met; rw [if_neg (by simp), if_neg (by simp; omega)]
              rintro e w9 ⟨rfl, hS, hC', f⟩
              have hw9 : wrap64 (((m - 1 + i : Nat) : Int) + 1) = ((m - 1 + (i + 1) : Nat) : Int) := by unfold wrap64; omega
              have H5 : Aside0 (St w9 Bs Bm ⟨40, false, 0, ((m - 1 + (i + 1) : Nat) : Int), 1⟩) := ⟨by simp only [hw9] at hS; exact hS⟩
              have C5 : Aside0 (∃ C, Cont w9 w.heap.size Bs Bm (30 + (i + 1)) C) := ⟨_, hC'⟩
              have F5 := Aside0.mk (FI.out.trans (f.mono HS.out))
              clear hS hC' f hC HI CI FI hw9
              go_wp2
              go_roundg (gk - 1)
              case measure => omega
              case rel => exact ⟨i + 1, rfl, by omega, by omega, H5, C5, F5⟩
            · have c1 : decide ((i : Int) < 30) = false := decide_eq_false (by omega)
              have h30 : i = 30 := by omega
              rw [show ((m - 1 + i : Nat) : Int) = (m : Int) + 29 by omega] at HI
              clear h30 CI hi hk hlt3
              go_wp2_with (first
                | (go_at_call 19; refine (told_law wr (HL.out.below (FI.out.below (Nat.le_refl _) (fun _ h => h)) (Nat.le_refl _))).mono ?_; rintro e w10 ⟨rfl, hb⟩; have f := Fr.of_below (S := fun _ => False) hb; have H6 := Aside0.mk (HI.out.kept f (fun h => h.elim)); have F6 := Aside0.mk (FI.out.trans (f.mono (fun _ h => h.elim))); clear f hb)
                | (go_at_call 21; refine (down_calls _ Bs Bm w10 H6.out).mono ?_; rintro e w11 ⟨rfl, rfl⟩)
                | (go_at_call 20; refine (writes_calls _ Bs Bm w10 H6.out).mono ?_; rintro e w11 ⟨rfl, rfl⟩)
                | (go_at_call 22; refine (life_calls _ Bs Bm w10 H6.out).mono ?_; rintro e w11 ⟨rfl, rfl⟩))
              go_ret
              exact ⟨rfl, F6.out.below (Nat.le_refl _) (fun _ h => h)⟩
theorem tributarylaw7_DiskArms.calls (a0 a1 : Int) (r : Bool) (w : World) (hL : Laid w) (h : tributarylaw7_DiskArms.f a0 a1 = some r) :
    Calls Tryd.prog 4 #[.int .i64 a0, .int .i64 a1] w fun e w' => e = .returned (.bool r) ∧ Below w.heap.size w w' := by
  obtain rfl := Option.some.inj h
  exact diskArms_law a0 a1 w hL
end Go.Proofs.YtemnnnjlllgeeaaDoor.PDsk
