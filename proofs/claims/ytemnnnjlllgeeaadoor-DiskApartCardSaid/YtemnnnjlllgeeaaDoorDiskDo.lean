/- Proved: the contract of the law's own 'do': what an act answers and leaves of a disk; condition: bytes that fit. -/
import Derived.Test.YtemnnnjlllgeeaaDoorDiskX
import Derived.Deep.RegionHeld3
namespace Go.Proofs.YtemnnnjlllgeeaaDoor.PDsk
open Go.RowKit Go.Proofs.YtemnnnjlllgeeaaDoorW.PrintWords Go.Proofs.YtemnnnjlllgeeaaDoorW.PrintLast Go.Proofs.YtemnnnjlllgeeaaDoorW.PrintMore Go.Proofs.YtemnnnjlllgeeaaDoor.Err Go.Maps
attribute [local go_sem] max2_int min2_int max_two min_two max_three min_three max_four min_four
set_option linter.unusedVariables false
set_option linter.unusedSimpArgs false

theorem facts3 {W : World} {B : Nat} {t : TypeId} {v0 v1 v2 : Value} (h : W.heap[B]? = some (.cells #[v0, v1, v2] t (0, 0))) :
    W.cell? ⟨B, 0, none⟩ = some v0 ∧ W.cell? ⟨B, 1, none⟩ = some v1 ∧ W.cell? ⟨B, 2, none⟩ = some v2 := ⟨blk_cell h 0 _ rfl, blk_cell h 1 _ rfl, blk_cell h 2 _ rfl⟩
/-- Restart, Cut, Arm. -/
def actS (k : Int) (a : Int) (s : Dk) : Dk := if k = 2 then armS s a else if k = 3 then cutS s else restartS s
set_option maxHeartbeats 8000000 in
theorem do_small (k a : Int) (v : Value) (s : Dk) (Bs Bm : Nat) (w : World) (h : St w Bs Bm s) (hk : k = 2 ∨ k = 3 ∨ k = 4) (hv : ∃ A n c, v = .slice A n c) :
    Calls Tryd.prog 23 #[.pointer (some ⟨Bs, 0, none⟩), .agg #[.int .i64 k, .int .i64 a, v]] w fun e w' => e = .returned (.int .i64 0) ∧ St w' Bs Bm (actS k a s) ∧ Fr (· = Bs) w w' := by
  obtain ⟨A, n, c, rfl⟩ := hv
  have H := Aside0.mk h
  have X := Aside0.mk (heap_alloc_new w (Obj.cells #[.int .i64 k, .int .i64 a, .slice A n c] 32))
  have f0 := Fr.alloc (fun _ => False) w (Obj.cells #[.int .i64 k, .int .i64 a, .slice A n c] 32)
  have H1 := Aside0.mk (h.kept f0 (fun h => h.elim))
  have F1 := Aside0.mk f0
  clear h f0
  obtain ⟨x0, x1, x2⟩ := facts3 X.out
  rcases hk with rfl | rfl | rfl
  · go_enter Tryd.func23, Tryd.ntmps23
    go_wp2_with (first | (go_at_call 15; refine (arm_calls s a Bs Bm _ H1.out).mono ?_; rintro e w2 ⟨rfl, hS, f⟩))
    go_ret
    exact ⟨rfl, hS, (F1.out.mono (fun _ h => h.elim)).trans f⟩
  · go_enter Tryd.func23, Tryd.ntmps23
    go_wp2_with (first | (go_at_call 16; refine (cut_calls s Bs Bm _ H1.out).mono ?_; rintro e w2 ⟨rfl, hS, f⟩))
    go_ret
    exact ⟨rfl, hS, (F1.out.mono (fun _ h => h.elim)).trans f⟩
  · go_enter Tryd.func23, Tryd.ntmps23
    go_wp2_with (first | (go_at_call 17; refine (restart_calls s Bs Bm _ H1.out).mono ?_; rintro e w2 ⟨rfl, hS, f⟩))
    go_ret
    exact ⟨rfl, hS, (F1.out.mono (fun _ h => h.elim)).trans f⟩
set_option maxHeartbeats 8000000 in
set_option maxRecDepth 100000 in
theorem do_write (a : Int) (A0 : Option Addr) (c0 : Nat) (l0 : List Int) (s : Dk) (base Bs Bm n : Nat) (C : Int → Option (List Int)) (w : World) (h : St w Bs Bm s) (hC : Cont w base Bs Bm n C) (hne : Bs ≠ Bm) (hbs : base ≤ w.heap.size) (hn : n < maxLen) (ha : okI a)
    (hr0 : ∀ W, Fr (fun b => b = Bs ∨ b = Bm) w W → Kd.C (Kd.int .u8) W A0 l0.length l0) (hc0 : l0.length ≤ c0) (hL : ∀ W, Fr (fun b => b = Bs ∨ b = Bm) w W → Laid W) :
    Calls Tryd.prog 23 #[.pointer (some ⟨Bs, 0, none⟩), .agg #[.int .i64 0, .int .i64 a, .slice A0 l0.length c0]] w fun e w' => e = .returned (.int .i64 (codeOf (wrS s a (l0.take 80).length).1)) ∧ St w' Bs Bm (wrS s a (l0.take 80).length).2.1 ∧ Cont w' base Bs Bm (n + 1) (if (wrS s a (l0.take 80).length).2.2 = true then updC C a (l0.take 80) else C) ∧ Fr (fun b => b = Bs ∨ b = Bm) w w' := by
  have X := Aside0.mk (heap_alloc_new w (Obj.cells #[.int .i64 0, .int .i64 a, .slice A0 l0.length c0] 32))
  have f0 := Fr.alloc (fun _ => False) w (Obj.cells #[.int .i64 0, .int .i64 a, .slice A0 l0.length c0] 32)
  have H1 := Aside0.mk (h.kept f0 (fun h => h.elim))
  have C1 := Aside0.mk (hC.kept f0 (fun _ h => h.elim) hne)
  have F1 := Aside0.mk f0
  have HR := Aside0.mk hr0
  have HL := Aside0.mk hL
  have HA := Aside0.mk ha
  have HN := Aside0.mk hn
  have HB := Aside0.mk (Nat.le_trans hbs f0.size)
  obtain ⟨t, ht, htl⟩ : ∃ t, t = (l0.take 80).length ∧ t ≤ l0.length ∧ t ≤ 80 := ⟨_, rfl, by rw [List.length_take]; omega, by rw [List.length_take]; omega⟩
  have hmn : mn (l0.length : Int) 80 = (t : Int) := by rw [ht, List.length_take]; unfold mn; split <;> omega
  have hcut := cut_to (P := Tryd.prog) 30 5 .i64 Tryd.underlying30 (info_parts info8).choose_spec.1 A0 l0.length c0 (t : Int) (by omega) (by omega) hc0
  rw [Int.toNat_natCast] at hcut
  have hmn2 : min (l0.length : Int) 80 = (t : Int) := by rw [ht, List.length_take]; omega
  have hmn3 : (if (80 : Int) < (l0.length : Int) then (80 : Int) else (l0.length : Int)) = (t : Int) := by rw [ht, List.length_take]; split <;> omega
  have hmn4 : (if (l0.length : Int) < 80 then (l0.length : Int) else (80 : Int)) = (t : Int) := by rw [ht, List.length_take]; split <;> omega
  have he : Aside0 (l0.take 80 = l0.take t) := ⟨by rw [ht, List.length_take]; by_cases h8 : 80 ≤ l0.length; rw [Nat.min_eq_left h8]; rw [Nat.min_eq_right (by omega), List.take_length, List.take_of_length_le (by omega)]⟩
  have HT := Aside0.mk htl
  have HTL := Aside0.mk ht
  have hlt1 := h.lt
  have hlt2 := hC.lt
  clear h hC hr0 hL ha hn hbs f0 htl ht
  have L1 := Aside0.mk (Nat.ne_of_gt (show Bs < w.heap.size from hlt1))
  have L2 := Aside0.mk (Nat.ne_of_gt (show Bm < w.heap.size from hlt2))
  clear hlt1 hlt2
  obtain ⟨r, hr⟩ : ∃ r, wrS s a (t : Int) = r := ⟨_, rfl⟩
  obtain ⟨C2, hC2⟩ : ∃ C2, (if r.2.2 = true then updC C a (l0.take 80) else C) = C2 := ⟨_, rfl⟩
  have HW : Aside0 (∀ W, Fr (fun _ => False) (w.alloc (Obj.cells #[.int .i64 0, .int .i64 a, .slice A0 l0.length c0] 32)) W → Calls Tryd.prog 14 #[.pointer (some ⟨Bs, 0, none⟩), .int .i64 a, .slice A0 t c0] W fun e w' => ∃ v, e = .returned v ∧ IsErr? w' r.1 v ∧ St w' Bs Bm r.2.1 ∧ Cont w' base Bs Bm (n + 1) C2 ∧ Fr (fun b => b = Bs ∨ b = Bm) W w' ∧ ErrNew W.heap.size v) := ⟨fun W hf => by
    have hq := write_calls a A0 c0 (l0.take 80) s base Bs Bm n C W (H1.out.kept hf (fun h => h.elim)) (C1.out.kept hf (fun _ h => h.elim) hne) hne (Nat.le_trans HB.out hf.size) HN.out HA.out
      (fun W2 h2 => by have h9 := Kd.C_take (m := t) (HR.out W2 (((F1.out.mono (fun _ h => h.elim)).trans (hf.mono (fun _ h => h.elim))).trans h2)) HT.out.1; rw [← he.out] at h9; exact h9) (by rw [← HTL.out]; have := HT.out; omega) (by rw [← HTL.out]; have := HT.out; omega)
    rw [← HTL.out, hr, hC2] at hq
    exact hq⟩
  rw [← HTL.out, hr, hC2]
  clear hC2 hr
  obtain ⟨x0, x1, x2⟩ := facts3 X.out
  go_enter Tryd.func23, Tryd.ntmps23
  go_wp2_with fail
  go_region_held3 (fun W => W.cell? ⟨w.heap.size, 1, none⟩ = some (.int .i64 a) ∧ W.cell? ⟨w.heap.size, 2, none⟩ = some (.slice A0 l0.length c0)) (first | exact ⟨x1, x2⟩ | exact ⟨y1, y2⟩ | exact ⟨z1, z2⟩) (first
    | (go_at_call 14; refine (HW.out _ (Fr.of_below (by first | exact below_drew (Below.refl _ _) | exact Below.refl _ _))).mono ?_; rintro e w5 ⟨v, rfl, hE, hS, hC', f, hN⟩; have E5 := Aside0.mk hE; have H5 := Aside0.mk hS; have C5 := Aside0.mk hC'; have F5 := Aside0.mk ((F1.out.mono (T := fun b => b = Bs ∨ b = Bm) (fun _ h => h.elim)).trans ((Fr.of_below (below_drew (Below.refl _ _))).trans f)); have X5 := Aside0.mk ((f.block w.heap.size (Array.getElem?_eq_some_iff.1 X.out).1 (fun h => h.elim L1.out L2.out)).trans X.out); obtain ⟨y0, y1, y2⟩ := facts3 X5.out; clear hE hS hC' f hN)
    | (go_at_call 24; refine (code_law _ _ w5 E5.out (HL.out _ F5.out)).mono ?_; rintro e w6 ⟨rfl, hb⟩; have f6 := Fr.of_below (S := fun _ => False) hb; have H6 := Aside0.mk (H5.out.kept f6 (fun h => h.elim)); have C6 := Aside0.mk (C5.out.kept f6 (fun _ h => h.elim) hne); have F6 := Aside0.mk (F5.out.trans (f6.mono (fun _ h => h.elim))); obtain ⟨z0, z1, z2⟩ := facts3 ((f6.block w.heap.size (Array.getElem?_eq_some_iff.1 X5.out).1 (fun h => h)).trans X5.out); clear hb f6))
  go_wp2
  go_ret
  exact ⟨rfl, H6.out, C6.out, F6.out⟩
/-- The number that is told of bytes that were read. -/
def foldN (c : Int) (xs : List Int) : Int := xs.foldl (fun n b => wrap64 (wrap64 (n * 3) + wrap64 b)) c
theorem foldN_next (c : Int) (xs : List Int) (i : Nat) (h : i < xs.length) : wrap64 (wrap64 (foldN c (xs.take i) * 3) + wrap64 (rd xs (i : Int))) = foldN c (xs.take (i + 1)) := by
  unfold foldN
  rw [List.take_succ_eq_append_getElem h, List.foldl_append]
  simp only [List.foldl_cons, List.foldl_nil]
  have : rd xs (i : Int) = xs[i] := by
    unfold rd
    rw [Int.toNat_natCast, List.getD_eq_getElem?_getD, List.getElem?_eq_getElem h]; rfl
  rw [this]
def doR (s : Dk) (C : Int → Option (List Int)) (a : Int) : Int := if (rdS s C a).2.1 = true then wrap64 (foldN (codeOf (rdS s C a).2.2) (rdS s C a).1 + 1) else foldN (codeOf (rdS s C a).2.2) (rdS s C a).1
set_option maxHeartbeats 8000000 in
set_option maxRecDepth 100000 in
theorem do_read (k a : Int) (u : Value) (s : Dk) (base Bs Bm n : Nat) (C : Int → Option (List Int)) (w : World) (h : St w Bs Bm s) (hC : Cont w base Bs Bm n C) (hne : Bs ≠ Bm) (ha : okI a) (hl : ∀ xs, C a = some xs → xs.length ≤ 1000) (hk : k ≠ 0 ∧ k ≠ 2 ∧ k ≠ 3 ∧ k ≠ 4) (hu : ∃ A n c, u = .slice A n c) (hL : Laid w) :
    Calls Tryd.prog 23 #[.pointer (some ⟨Bs, 0, none⟩), .agg #[.int .i64 k, .int .i64 a, u]] w fun e w' => e = .returned (.int .i64 (doR s C a)) ∧ Below w.heap.size w w' := by
  obtain ⟨A, n', c, rfl⟩ := hu
  have X := Aside0.mk (heap_alloc_new w (Obj.cells #[.int .i64 k, .int .i64 a, .slice A n' c] 32))
  have f0 := Fr.alloc (fun _ => False) w (Obj.cells #[.int .i64 k, .int .i64 a, .slice A n' c] 32)
  have H1 := Aside0.mk (h.kept f0 (fun h => h.elim))
  have C1 := Aside0.mk (hC.kept f0 (fun _ h => h.elim) hne)
  have F1 := Aside0.mk f0
  have HL := Aside0.mk hL
  have k0 : (k == 0) = false := beq_eq_false_iff_ne.2 hk.1
  have k2 : (k == 2) = false := beq_eq_false_iff_ne.2 hk.2.1
  have k3 : (k == 3) = false := beq_eq_false_iff_ne.2 hk.2.2.1
  have k4 : (k == 4) = false := beq_eq_false_iff_ne.2 hk.2.2.2
  obtain ⟨r, hr⟩ : ∃ r, rdS s C a = r := ⟨_, rfl⟩
  obtain ⟨xs, ok, er⟩ := r
  have hlen : xs.length ≤ 1000 := by
    have : xs = (rdS s C a).1 := by rw [hr]
    rw [this]; unfold rdS; split
    · simp
    · cases hc : C a with
      | none => simp
      | some ys => exact hl ys hc
  have HR := Aside0.mk (read_calls a s base Bs Bm n C _ H1.out C1.out hne ha hl)
  unfold doR
  rw [hr] at HR ⊢
  clear h hC ha hl hk f0 hL hr
  obtain ⟨x0, x1, x2⟩ := facts3 X.out
  obtain ⟨z, hz⟩ : ∃ z, (if ok = true then wrap64 (foldN (codeOf er) xs + 1) else foldN (codeOf er) xs) = z := ⟨_, rfl⟩
  show Calls _ _ _ _ fun e w' => e = .returned (.int .i64 (if ok = true then wrap64 (foldN (codeOf er) xs + 1) else foldN (codeOf er) xs)) ∧ _
  rw [hz]
  have HZ := Aside0.mk hz
  clear hz
  go_enter Tryd.func23, Tryd.ntmps23
  go_wp2_with fail
  refine HR.out.mono ?_
  rintro e w2 ⟨v, ev, rfl, hR, hE, hb, hN⟩
  have R2 := Aside0.mk hR
  have E2 := Aside0.mk hE
  have B2 := Aside0.mk ((F1.out.trans (Fr.of_below hb)).below (n := w.heap.size) (Nat.le_refl _) (fun _ h => h.elim))
  obtain ⟨A2, c2, rfl⟩ := Kd.R_slice hR
  clear hR hE hb hN HR x0 x1 x2
  simp only []
  go_wp2_with fail
  refine (code_law er ev w2 E2.out (HL.out.below B2.out (Nat.le_refl _))).mono ?_
  rintro e w3 ⟨rfl, hb⟩
  have R3 := Aside0.mk (Kd.R_below R2.out hb)
  have B3 := Aside0.mk (B2.out.trans (hb.mono B2.out.size))
  clear hb R2 E2 B2
  go_wp2
  go_loopg [8, 9] xs.length (fun kq v8 v9 wr => ∃ i : Nat, v8 = .int .i64 (foldN (codeOf er) (xs.take i)) ∧ v9 = .int .i64 (i : Int) ∧ i ≤ xs.length ∧ xs.length - i ≤ kq ∧ wr = w3)
  case atStart => exact ⟨0, rfl, rfl, by omega, by omega, rfl⟩
  case round =>
    obtain ⟨i, rfl, rfl, hi, hk, rfl⟩ := hrel
    by_cases hlt : i < xs.length
    · have c1 : decide ((i : Int) < (xs.length : Int)) = true := decide_eq_true (by omega)
      obtain ⟨ad, e8, hx8⟩ := Kd.at_int (Kd.R_reads' R3.out).2.2 (i : Int) (by omega) (by omega)
      subst e8
      rw [Int.toNat_natCast] at hx8
      have hf := foldN_next (codeOf er) xs i hlt
      have HF := Aside0.mk hf
      clear hf
      generalize rd xs (i : Int) = b at hx8 HF
      obtain ⟨y, hy⟩ : ∃ y, foldN (codeOf er) (xs.take i) = y := ⟨_, rfl⟩
      rw [hy] at HF ⊢
      clear hy
      have p1 : (0 : Int) ≤ (i : Int) := by omega
      have p2 : (i : Int) < (xs.length : Int) := by omega
      go_wp2
      go_roundg (gk - 1)
      case measure => omega
      case rel => exact ⟨i + 1, by rw [← HF.out], by go_num, by omega, by omega, rfl⟩
    · have c1 : decide ((i : Int) < (xs.length : Int)) = false := decide_eq_false (by omega)
      rw [List.take_of_length_le (by omega)]
      have hz := HZ.out
      cases ok with
      | true =>
        rw [if_pos rfl] at hz
        go_wp2
        go_ret
        exact ⟨by rw [← hz]; rfl, B3.out⟩
      | false =>
        rw [if_neg (by decide)] at hz
        go_wp2
        go_ret
        exact ⟨by rw [← hz]; rfl, B3.out⟩
end Go.Proofs.YtemnnnjlllgeeaaDoor.PDsk
