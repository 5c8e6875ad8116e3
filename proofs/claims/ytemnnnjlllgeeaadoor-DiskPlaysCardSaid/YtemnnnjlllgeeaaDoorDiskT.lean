/- Proved: the contract of the law's own 'told' of chapter 7; no condition but what the library's variable holds. -/
import Derived.Test.YtemnnnjlllgeeaaDoorDiskW
namespace Go.Proofs.YtemnnnjlllgeeaaDoor.PDsk
open Go.RowKit Go.Proofs.YtemnnnjlllgeeaaDoorW.PrintWords Go.Proofs.YtemnnnjlllgeeaaDoorW.PrintLast Go.Proofs.YtemnnnjlllgeeaaDoorW.PrintMore Go.Proofs.YtemnnnjlllgeeaaDoor.Err Go.Maps
attribute [local go_sem] max2_int min2_int max_two min_two max_three min_three max_four min_four
set_option linter.unusedVariables false
set_option linter.unusedSimpArgs false

theorem wrap64_in (x : Int) (h : -9223372036854775808 ≤ x ∧ x ≤ 9223372036854775807) : wrap64 x = x := by unfold wrap64; omega
theorem lit_C (W : World) (B : Nat) (zs : List Int) (h : W.heap[B]? = some (.cells (zs.map (Value.int .u8)).toArray 5 (0, 0))) (hl : zs.length ≤ 9223372036854775807) : Kd.C (Kd.int .u8) W (some ⟨B, 0, none⟩) zs.length zs :=
  ⟨rfl, hl, fun _ => ⟨_, rfl, fun j p hp => ⟨[.int .u8 p], rfl, rfl, fun i u hu => by
    have hi : i = 0 := by
      have := (List.getElem?_eq_some_iff.1 hu).1
      simp at this; exact this
    subst hi
    simp at hu
    subst hu
    have : (Addr.add ⟨B, 0, none⟩ (j * (Kd.int .u8).sz + 0)) = ⟨B, j, none⟩ := by
      show Addr.add ⟨B, 0, none⟩ (j * 1 + 0) = _
      unfold Addr.add
      by_cases h0 : j = 0
      · simp [h0]
      · simp [h0]
    rw [this]
    exact blk_cell h j _ (by simp [hp])⟩⟩⟩
theorem lit_far {W : World} {B Bs Bm : Nat} {zs : List Int} (h : W.heap[B]? = some (.cells (zs.map (Value.int .u8)).toArray 5 (0, 0))) (hl : zs.length ≤ 9223372036854775807) (h1 : B ≠ Bs) (h2 : B ≠ Bm) :
    ∀ W', Fr (fun b => b = Bs ∨ b = Bm) W W' → Kd.C (Kd.int .u8) W' (some ⟨B, 0, none⟩) zs.length zs := fun W' hf =>
  lit_C W' B zs ((hf.block B (Array.getElem?_eq_some_iff.1 h).1 (fun e => e.elim h1 h2)).trans h) hl
theorem Fr.alloc (S : Nat → Prop) (w : World) (o : Obj) : Fr S w (w.alloc o) := Fr.of_below (below_alloc (Below.refl _ _) o)
theorem St.lt {w : World} {Bs Bm : Nat} {s : Dk} (h : St w Bs Bm s) : Bs < w.heap.size := (Array.getElem?_eq_some_iff.1 h).1
theorem isErr_kept {w w' : World} {x : ByteArray} {a n : Int} {v : Value} {S : Nat → Prop} (h : IsErr w (.fault x a (.num n)) v) (hf : Fr S w w') (hS : ∀ t b, v = .iface t (.pointer (some ⟨b, 0, none⟩)) → ¬ S b) : IsErr w' (.fault x a (.num n)) v := by
  obtain ⟨b, v', rfl, hc, hi⟩ := h
  exact ⟨b, v', rfl, (hf.block b (Array.getElem?_eq_some_iff.1 hc).1 (hS _ b rfl)).trans hc, hi⟩
theorem Cont.ext {w : World} {base Bs Bm n : Nat} {C C' : Int → Option (List Int)} (h : Cont w base Bs Bm n C) (e : C = C') : Cont w base Bs Bm n C' := e ▸ h

set_option maxHeartbeats 16000000 in
set_option maxRecDepth 100000 in
theorem told_law (w : World) (hL : Laid w) : Calls Tryd.prog 19 #[] w fun e w' => e = .returned (.bool true) ∧ Below w.heap.size w w' := by
  have HL := Aside0.mk hL
  clear hL
  go_enter Tryd.func19, Tryd.ntmps19
  go_wp2_with fail
  refine (new_ok 2 w (by decide) (by decide)).mono ?_
  rintro e w1 ⟨Bs, Bm, rfl, b1, b2, hne, hS, hC, hb⟩
  have H1 := Aside0.mk hS
  have C1 := Aside0.mk hC
  have F1 : Aside0 (Fr (fun b => w.heap.size ≤ b) w w1) := ⟨Fr.of_below hb⟩
  have HS : Aside0 (∀ b, b = Bs ∨ b = Bm → w.heap.size ≤ b) := ⟨fun b h => by rcases h with rfl | rfl; exact b1; exact b2⟩
  have HNE := Aside0.mk hne
  clear hS hC hb b1 b2 hne
  go_wp2_with fail
  refine (new_bad 0 w1 (by decide)).mono ?_
  rintro e w2 ⟨v2, rfl, hE, hb, hN⟩
  have f := Fr.of_below (S := fun _ => False) hb
  have H2 := Aside0.mk (H1.out.kept f (fun h => h.elim))
  have C2 := Aside0.mk (C1.out.kept f (fun _ h => h.elim) HNE.out)
  have F2 := Aside0.mk (F1.out.trans (f.mono (fun _ h => h.elim)))
  have E2 := Aside0.mk hE
  obtain ⟨b2, x2, e2, _⟩ := hE
  clear hb hN f H1 C1 F1
  subst e2
  go_wp2_with fail
  refine (code_law (some (.fault diskS 0 (.num 1))) _ w2 E2.out (HL.out.below (F2.out.below (Nat.le_refl _) (fun _ h => h)) (Nat.le_refl _))).mono ?_
  rintro e w3 ⟨rfl, hb⟩
  have f := Fr.of_below (S := fun _ => False) hb
  have H3 := Aside0.mk (H2.out.kept f (fun h => h.elim))
  have C3 := Aside0.mk (C2.out.kept f (fun _ h => h.elim) HNE.out)
  have F3 := Aside0.mk (F2.out.trans (f.mono (fun _ h => h.elim)))
  clear hb f H2 C2 F2 E2
  rw [show codeOf (some (.fault diskS 0 (.num 1))) = 1 from rfl]
  go_wp2_with fail
  refine (arm_calls _ 2 Bs Bm w3 H3.out).mono ?_
  rintro e w4 ⟨rfl, hS, f⟩
  rw [show armS ⟨2, false, 0, 0, 0⟩ 2 = ⟨2, false, 2, 0, 0⟩ from rfl] at hS
  have H4 := Aside0.mk hS
  have C4 := Aside0.mk (C3.out.kept f (fun _ h => h) HNE.out)
  have F4 := Aside0.mk (F3.out.trans (f.mono (fun b h => HS.out b (Or.inl h))))
  clear hS f H3 C3 F3
  go_wp2_with fail
  have A5 := heap_alloc_new w4 (Obj.cells #[Value.int IntKind.u8 7] 5)
  have f := Fr.alloc (fun _ => False) w4 (Obj.cells #[Value.int IntKind.u8 7] 5)
  have H5 := Aside0.mk (H4.out.kept f (fun h => h.elim))
  have C5 := Aside0.mk (C4.out.kept f (fun _ h => h.elim) HNE.out)
  have F5 := Aside0.mk (F4.out.trans (f.mono (fun _ h => h.elim)))
  have R5 := Aside0.mk (lit_far (zs := [7]) A5 (by decide) (Nat.ne_of_gt H4.out.lt) (Nat.ne_of_gt C4.out.lt))
  have Z5 := Aside0.mk (Nat.le_trans F4.out.size (Fr.alloc (fun _ => False) w4 (Obj.cells #[Value.int IntKind.u8 7] 5)).size)
  clear A5 f H4 C4 F4
  refine (write_dec 0 _ 1 [7] _ w.heap.size Bs Bm 0 _ _ H5.out C5.out HNE.out Z5.out (by decide) (by unfold okI; omega) R5.out (by decide) (by decide) (by decide) (by decide) (by rw [wrap64_in _ (by decide)]; decide)).mono ?_
  rintro e w6 ⟨rfl, hS, hC, f⟩
  have H6 : Aside0 (St w6 Bs Bm ⟨2, false, 1, 1, 0⟩) := ⟨by
    have e1 : wrap64 1 = 1 := wrap64_in _ (by decide)
    simpa [e1] using hS⟩
  have C6 := Aside0.mk hC
  have F6 := Aside0.mk (F5.out.trans (f.mono HS.out))
  have Z6 := Aside0.mk (Nat.le_trans Z5.out f.size)
  clear hS hC f H5 C5 F5 R5 Z5
  go_wp2_with fail
  have A7 := heap_alloc_new w6 (Obj.cells #[Value.int IntKind.u8 8] 5)
  have f := Fr.alloc (fun _ => False) w6 (Obj.cells #[Value.int IntKind.u8 8] 5)
  have H7 := Aside0.mk (H6.out.kept f (fun h => h.elim))
  have C7 := Aside0.mk (C6.out.kept f (fun _ h => h.elim) HNE.out)
  have F7 := Aside0.mk (F6.out.trans (f.mono (fun _ h => h.elim)))
  have R7 := Aside0.mk (lit_far (zs := [8]) A7 (by decide) (Nat.ne_of_gt H6.out.lt) (Nat.ne_of_gt C6.out.lt))
  have Z7 := Aside0.mk (Nat.le_trans Z6.out f.size)
  clear A7 f H6 C6 F6 Z6
  refine (write_cut 1 _ 1 [8] _ w.heap.size Bs Bm 1 _ _ H7.out C7.out HNE.out Z7.out (by decide) (by unfold okI; omega) R7.out (by decide) (by decide) (by decide) (by decide) (by rw [wrap64_in _ (by decide)]; decide)).mono ?_
  rintro e w8 ⟨v8, rfl, hE, hS, hC, f, hN⟩
  have H8 : Aside0 (St w8 Bs Bm ⟨2, true, 0, 1, 1⟩) := ⟨by
    have e1 : wrap64 1 = 1 := wrap64_in _ (by decide)
    simpa [cutS, e1] using hS⟩
  have E8 := Aside0.mk hE
  obtain ⟨b8, x8, e8, _⟩ := hE
  subst e8
  have C8 := Aside0.mk hC
  have F8 := Aside0.mk (F7.out.trans (f.mono HS.out))
  have N8 := Aside0.mk (hN _ b8 rfl)
  have L8 := Aside0.mk H7.out.lt
  have M8 := Aside0.mk C7.out.lt
  clear hS hC f H7 C7 F7 R7 Z7 hN
  go_wp2_with fail
  refine (restart_calls _ Bs Bm w8 H8.out).mono ?_
  rintro e w9 ⟨rfl, hS, f⟩
  rw [show restartS ⟨2, true, 0, 1, 1⟩ = ⟨2, false, 0, 1, 1⟩ from rfl] at hS
  have H9 := Aside0.mk hS
  have C9 := Aside0.mk (C8.out.kept f (fun _ h => h) HNE.out)
  have F9 := Aside0.mk (F8.out.trans (f.mono (fun b h => HS.out b (Or.inl h))))
  have E9 := Aside0.mk (isErr_kept E8.out f (fun t b e h => by injection e with e1 e2; injection e2 with e3; injection e3 with e4; injection e4 with e5; have := N8.out; have := L8.out; omega))
  clear hS f H8 C8 F8 E8 N8 L8 M8
  go_wp2_with fail
  refine (read_ok 0 _ w.heap.size Bs Bm _ _ w9 H9.out C9.out HNE.out (by unfold okI; omega) (fun xs h => by simp at h; rw [← h]; decide) (by decide)).mono ?_
  rintro e w10 ⟨v10, rfl, hR, hb⟩
  have f := Fr.of_below (S := fun _ => False) hb
  have R10 : Aside0 (Kd.R (Kd.int .u8) 5 w10 w9.heap.size (fun _ => True) v10 [7]) := ⟨by simpa using hR⟩
  have H10 := Aside0.mk (H9.out.kept f (fun h => h.elim))
  have C10 := Aside0.mk (C9.out.kept f (fun _ h => h.elim) HNE.out)
  have F10 := Aside0.mk (F9.out.trans (f.mono (fun _ h => h.elim)))
  have E10 := Aside0.mk (isErr_kept E9.out f (fun _ _ _ h => h.elim))
  clear hR hb f H9 C9 F9 E9
  obtain ⟨A10, c10, rfl⟩ := Kd.R_slice R10.out
  go_wp2_with fail
  refine (read_ok 1 _ w.heap.size Bs Bm _ _ w10 H10.out C10.out HNE.out (by unfold okI; omega) (fun xs h => by simp at h) (by decide)).mono ?_
  rintro e w11 ⟨v11, rfl, hR, hb⟩
  have f := Fr.of_below (S := fun _ => False) hb
  have R11 := Aside0.mk (Kd.R_below R10.out hb)
  have H11 := Aside0.mk (H10.out.kept f (fun h => h.elim))
  have F11 := Aside0.mk (F10.out.trans (f.mono (fun _ h => h.elim)))
  have E11 := Aside0.mk (isErr_kept E10.out f (fun _ _ _ h => h.elim))
  clear hb f H10 C10 F10 E10 R10
  obtain ⟨A11, c11, rfl⟩ := Kd.R_slice hR
  clear hR
  simp only [show (if (1 : Int) = 0 then some [(7 : Int)] else none) = none from rfl, Option.getD_none, Option.isSome_none]
  go_wp2_with (first
    | (go_at_call 24; refine (code_law (some (.fault diskS 0 (.num 70))) _ w11 E11.out (HL.out.below (F11.out.below (Nat.le_refl _) (fun _ h => h)) (Nat.le_refl _))).mono ?_; rintro e w12 ⟨rfl, hb⟩; have f := Fr.of_below (S := fun _ => False) hb; have H12 := Aside0.mk (H11.out.kept f (fun h => h.elim)); have F12 := Aside0.mk (F11.out.trans (f.mono (fun _ h => h.elim))); have hcv := Kd.C_string (P := Tryd.prog) (A := A10) (c := c10) Tryd.underlying30 Tryd.underlying5 Tryd.underlying9 (Kd.R_reads' (Kd.R_below R11.out hb)).2.2; rw [show ([7] : List Int).length = 1 from rfl, show strOfNums [7] = ⟨#[7]⟩ from by kernel_rfl] at hcv; rw [show codeOf (some (.fault diskS 0 (.num 70))) = 70 from rfl]; clear f hb)
    | (go_at_call 20; refine (writes_calls _ Bs Bm w12 H12.out).mono ?_; rintro e w13 ⟨rfl, rfl⟩)
    | (go_at_call 22; refine (life_calls _ Bs Bm w12 H12.out).mono ?_; rintro e w13 ⟨rfl, rfl⟩))
  go_ret
  exact ⟨rfl, F12.out.below (Nat.le_refl _) (fun _ h => h)⟩
end Go.Proofs.YtemnnnjlllgeeaaDoor.PDsk
