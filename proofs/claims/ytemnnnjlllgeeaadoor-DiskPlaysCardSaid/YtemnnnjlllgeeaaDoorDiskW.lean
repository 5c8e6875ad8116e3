/- Proved: the contract of disk.Write over a disk's cells and blocks; condition: bytes that fit. -/
import Derived.Test.YtemnnnjlllgeeaaDoorDiskM
import Derived.Deep.RegionHeld3
namespace Go.Proofs.YtemnnnjlllgeeaaDoor.PDsk
open Go.RowKit Go.Proofs.YtemnnnjlllgeeaaDoorW.PrintWords Go.Proofs.YtemnnnjlllgeeaaDoorW.PrintLast Go.Proofs.YtemnnnjlllgeeaaDoorW.PrintMore Go.Proofs.YtemnnnjlllgeeaaDoor.Err Go.Maps
attribute [local go_sem] max2_int min2_int max_two min_two max_three min_three max_four min_four
set_option linter.unusedVariables false
set_option linter.unusedSimpArgs false

section
variable {ops : Array Oper} {o : Oper} {a : Act} {Q : Exit → Act → World → Prop} {Kc : Act → World → Prop}
/-- The store, as a region's step. -/
theorem store_step (hw : Region.wanted o (yielded ops a.tmps) = true) (m x v : Operand) (ho : o.op = Op.mapUpdate 73 m x v) {W : World} {base Bs Bm n : Nat} {C : Int → Option (List Int)} (hC : Cont W base Bs Bm n C) (hn : n < maxLen) (hne : Bs ≠ Bm)
    {k : Int} (hk : okI k) {u : Value} {xs : List Int} (hv : Rw W base Bs Bm u xs) (hm : a.eval m = .map (some Bm)) (hx : a.eval x = .int .i64 k) (hu : a.eval v = u)
    (h : ∀ w', Cont w' base Bs Bm (n + 1) (fun j => if j = k then some xs else C j) → Fr (· = Bm) W w' → Kc (a.put o.dst undef) w') :
    if Region.wanted o (yielded ops a.tmps) = true then Oper.wp Tryd.prog o a W Kc Q else Kc (a.put o.dst undef) W := by
  rw [if_pos hw]
  obtain ⟨w', hrun, r1, r2⟩ := hC.store hn hne hk hv
  unfold Oper.wp
  simp [execOp, ho, hm, hx, hu, hrun, Result.andThen]
  exact h w' r1 r2
end
theorem Fr.of_grown {w w' : World} (h : w.grownBy w' (Value.slice none 0 0).ownBlock) : Fr (fun _ => False) w w' := ⟨h.os, h.tape, h.output, h.size, fun k hk _ => h.block k hk (by simp [Value.ownBlock])⟩
theorem Cont.lt {w : World} {base Bs Bm n : Nat} {C : Int → Option (List Int)} (h : Cont w base Bs Bm n C) : Bm < w.heap.size := by
  obtain ⟨D, ⟨es, clock, hb, _⟩, _⟩ := h.map
  exact (Array.getElem?_eq_some_iff.1 hb).1
set_option maxHeartbeats 16000000 in
set_option maxRecDepth 100000 in
theorem write_plain (at_ : Int) (A0 : Option Addr) (c0 : Nat) (l0 : List Int) (s : Dk) (base Bs Bm n : Nat) (C : Int → Option (List Int)) (w : World) (h : St w Bs Bm s) (hC : Cont w base Bs Bm n C) (hne : Bs ≠ Bm) (hbs : base ≤ w.heap.size) (hn : n < maxLen) (ha : okI at_)
    (hr0 : ∀ W, Fr (fun b => b = Bs ∨ b = Bm) w W → Kd.C (Kd.int .u8) W A0 l0.length l0) (hc0 : l0.length ≤ c0) (hl : l0.length ≤ 1000) (hm : met s at_ l0.length = 2) (harm : s.armed ≤ 0) :
    Calls Tryd.prog 14 #[.pointer (some ⟨Bs, 0, none⟩), .int .i64 at_, .slice A0 l0.length c0] w fun e w' => e = .returned .nilIface ∧ St w' Bs Bm { s with writes := wrap64 (s.writes + 1) } ∧ Cont w' base Bs Bm (n + 1) (fun j => if j = at_ then some l0 else C j) ∧ Fr (fun b => b = Bs ∨ b = Bm) w w' := by
  have H := Aside0.mk h
  have HC := Aside0.mk hC
  have HMM := Aside0.mk hm
  have HA := Aside0.mk ha
  have HR0 := Aside0.mk hr0
  have HN := Aside0.mk hn
  have HBS := Aside0.mk hbs
  have hD : decide (0 < s.armed) = false := decide_eq_false (by omega)
  clear h hC hm ha hr0 harm hn hbs
  go_enter Tryd.func14, Tryd.ntmps14
  go_wp2_with fail
  refine (met_calls at_ (l0.length : Int) s Bs Bm w H.out).mono ?_
  rintro e w' ⟨rfl, rfl⟩
  rw [HMM.out]
  go_wp2_with fail
  refine (refused_calls 2 at_ w (by decide)).mono ?_
  rintro e w1 ⟨v, rfl, hE, hb, hNw⟩
  obtain rfl : v = .nilIface := hE
  have hf : Fr (fun _ => False) w w1 := Fr.of_below hb
  have H1 := Aside0.mk (H.out.kept hf (fun h => h.elim))
  have HC1 := Aside0.mk (HC.out.kept hf (fun b h => h.elim) hne)
  have HR1 := Aside0.mk (HR0.out w1 (Fr.of_below hb))
  have HF1 := Aside0.mk hf
  have HB1 := Aside0.mk (Nat.le_trans HBS.out hb.size)
  obtain ⟨k0, k1, k2, k3, k4, k5⟩ := facts6 H1.out
  clear hb hNw hf k0 k2 k4 k5
  go_wp2_with fail
  have L1 : Bs < w1.drew.heap.size := (Array.getElem?_eq_some_iff.1 H1.out).1
  have L2 : Bm < w1.drew.heap.size := HC1.out.lt
  have HL1 := Aside0.mk L1
  have HL2 := Aside0.mk L2
  clear L1 L2
  go_region_held3 (fun W => W.cell? ⟨Bs, 1, none⟩ = some (.map (some Bm))) (first | assumption) (first
    | (refine Kd.R_append_rows_step (Kd.int .u8) (w0 := w1) base (by rfl) (.const (.slice none 0 0)) (.tmp 43) 30 5 (.int .u8 0) 1 rfl Tryd.underlying30 info8 rfl (by decide) (by omega) (.slice none 0 0) ([] : List Int) l0 _ _ _ (fun b => b ≠ Bs ∧ b ≠ Bm) (fun _ => False) rfl rfl ?aO ?aR (fun _ _ h => h) (fun _ h => h.elim) ?aF ?aB ?aS ?aL ?_; (case aO => exact Kd.R_nil _ _ _ _ _); (case aR => exact Kd.C_drew HR1.out); (case aF => exact fun k hk => ⟨fun e => by have := HL1.out; omega, fun e => by have := HL2.out; omega⟩); (case aB => exact below_drew (Below.refl _ _)); (case aS => exact HB1.out); (case aL => simp only [List.length_nil]; omega); intro v3 w3 ho hb hg hat; have HF3 := Aside0.mk ((Fr.of_below (below_drew (Below.refl w1.heap.size w1))).trans (Fr.of_grown hg)); have HO3 := Aside0.mk ho; have k1' := (facts6 (H1.out.kept HF3.out (fun h => h.elim))).2.1; obtain ⟨w4, hrun, hC4, hF4⟩ := (HC1.out.kept HF3.out (fun b h => h.elim) hne).store HN.out hne HA.out (xs := l0) HO3.out; have HC4 := Aside0.mk hC4; have HF4 := Aside0.mk hF4; have H4 := Aside0.mk ((H1.out.kept HF3.out (fun h => h.elim)).kept hF4 (fun h => hne h)); have k4' := (facts6 H4.out).2.1; clear ho hb hg hat hC4 hF4))
  obtain ⟨j0, j1, j2, j3, j4, j5⟩ := facts6 H4.out
  obtain ⟨z0, z1, z2, z3, z4, z5⟩ := frozen6 H4.out
  go_wp2
  go_ret
  have f1 : Fr (fun b => b = Bs ∨ b = Bm) w w4 := ((HF1.out.mono (fun _ h => h.elim)).trans (HF3.out.mono (fun _ h => h.elim))).trans (HF4.out.mono (fun _ h => Or.inr h))
  exact ⟨rfl, H4.out.set_writes _, HC4.out.kept ((Fr.refl (· = Bs) w4).set_ rfl _) (fun b h => h) hne, f1.set_ (Or.inl rfl) _⟩
set_option maxHeartbeats 16000000 in
set_option maxRecDepth 100000 in
theorem write_dec (at_ : Int) (A0 : Option Addr) (c0 : Nat) (l0 : List Int) (s : Dk) (base Bs Bm n : Nat) (C : Int → Option (List Int)) (w : World) (h : St w Bs Bm s) (hC : Cont w base Bs Bm n C) (hne : Bs ≠ Bm) (hbs : base ≤ w.heap.size) (hn : n < maxLen) (ha : okI at_)
    (hr0 : ∀ W, Fr (fun b => b = Bs ∨ b = Bm) w W → Kd.C (Kd.int .u8) W A0 l0.length l0) (hc0 : l0.length ≤ c0) (hl : l0.length ≤ 1000) (hm : met s at_ l0.length = 2) (harm : 0 < s.armed) (hz : wrap64 (s.armed - 1) ≠ 0) :
    Calls Tryd.prog 14 #[.pointer (some ⟨Bs, 0, none⟩), .int .i64 at_, .slice A0 l0.length c0] w fun e w' => e = .returned .nilIface ∧ St w' Bs Bm { s with armed := wrap64 (s.armed - 1), writes := wrap64 (s.writes + 1) } ∧ Cont w' base Bs Bm (n + 1) (fun j => if j = at_ then some l0 else C j) ∧ Fr (fun b => b = Bs ∨ b = Bm) w w' := by
  have H := Aside0.mk h
  have HC := Aside0.mk hC
  have HMM := Aside0.mk hm
  have HA := Aside0.mk ha
  have HR0 := Aside0.mk hr0
  have HN := Aside0.mk hn
  have HBS := Aside0.mk hbs
  have hD : decide (0 < s.armed) = true := decide_eq_true harm
  have hZ : (wrap64 (s.armed - 1) == 0) = false := beq_eq_false_iff_ne.2 hz
  clear h hC hm ha hr0 harm hn hbs
  go_enter Tryd.func14, Tryd.ntmps14
  go_wp2_with fail
  refine (met_calls at_ (l0.length : Int) s Bs Bm w H.out).mono ?_
  rintro e w' ⟨rfl, rfl⟩
  rw [HMM.out]
  go_wp2_with fail
  refine (refused_calls 2 at_ w (by decide)).mono ?_
  rintro e w1 ⟨v, rfl, hE, hb, hNw⟩
  obtain rfl : v = .nilIface := hE
  have hf : Fr (fun _ => False) w w1 := Fr.of_below hb
  have H1 := Aside0.mk (H.out.kept hf (fun h => h.elim))
  have HC1 := Aside0.mk (HC.out.kept hf (fun b h => h.elim) hne)
  have HR1 := Aside0.mk (HR0.out w1 (Fr.of_below hb))
  have HF1 := Aside0.mk hf
  have HB1 := Aside0.mk (Nat.le_trans HBS.out hb.size)
  obtain ⟨k0, k1, k2, k3, k4, k5⟩ := facts6 H1.out
  obtain ⟨y0, y1, y2, y3, y4, y5⟩ := frozen6 H1.out
  clear hb hNw hf k0 k2 k4 k5 y0 y1 y2 y4 y5
  have q3 : (w1.setCell ⟨Bs, 3, none⟩ (.int .i64 (wrap64 (s.armed - 1)))).cell? ⟨Bs, 3, none⟩ = some (.int .i64 (wrap64 (s.armed - 1))) := (facts6 (H1.out.set_armed (wrap64 (s.armed - 1)))).2.2.2.1
  go_wp2_with fail
  clear q3 y3 k1 k3
  have HX : Aside0 (Fr (· = Bs) w1 (w1.setCell ⟨Bs, 3, none⟩ (.int .i64 (wrap64 (s.armed - 1))))) := ⟨(Fr.refl (· = Bs) w1).set_ rfl _⟩
  have H1x := Aside0.mk (H1.out.set_armed (wrap64 (s.armed - 1)))
  have HC1x := Aside0.mk (HC1.out.kept HX.out (fun b h => h) hne)
  have HR1x : Aside0 (Kd.C (Kd.int .u8) (w1.setCell ⟨Bs, 3, none⟩ (.int .i64 (wrap64 (s.armed - 1)))) A0 l0.length l0) := ⟨HR0.out _ ((HF1.out.mono (fun _ h => h.elim)).trans (HX.out.mono (fun _ h => Or.inl h)))⟩
  have HB1x := Aside0.mk (Nat.le_trans HB1.out HX.out.size)
  have HF1x := Aside0.mk ((HF1.out.mono (T := (· = Bs)) (fun _ h => h.elim)).trans HX.out)
  clear HX H1 HC1 HR1 HB1 HF1
  generalize w1.setCell ⟨Bs, 3, none⟩ (.int .i64 (wrap64 (s.armed - 1))) = w1 at H1x HC1x HR1x HB1x HF1x ⊢
  have H1 := H1x
  have HC1 := HC1x
  have HR1 := HR1x
  have HB1 := HB1x
  have HF1 := HF1x
  clear H1x HC1x HR1x HB1x HF1x
  obtain ⟨k0, k1, k2, k3, k4, k5⟩ := facts6 H1.out
  clear k0 k2 k4 k5
  have L1 : Bs < w1.drew.heap.size := (Array.getElem?_eq_some_iff.1 H1.out).1
  have L2 : Bm < w1.drew.heap.size := HC1.out.lt
  have HL1 := Aside0.mk L1
  have HL2 := Aside0.mk L2
  clear L1 L2
  go_region_held3 (fun W => W.cell? ⟨Bs, 1, none⟩ = some (.map (some Bm))) (first | assumption) (first
    | (refine Kd.R_append_rows_step (Kd.int .u8) (w0 := w1) base (by rfl) (.const (.slice none 0 0)) (.tmp 43) 30 5 (.int .u8 0) 1 rfl Tryd.underlying30 info8 rfl (by decide) (by omega) (.slice none 0 0) ([] : List Int) l0 _ _ _ (fun b => b ≠ Bs ∧ b ≠ Bm) (fun _ => False) rfl rfl ?aO ?aR (fun _ _ h => h) (fun _ h => h.elim) ?aF ?aB ?aS ?aL ?_; (case aO => exact Kd.R_nil _ _ _ _ _); (case aR => exact Kd.C_drew HR1.out); (case aF => exact fun k hk => ⟨fun e => by have := HL1.out; omega, fun e => by have := HL2.out; omega⟩); (case aB => exact below_drew (Below.refl _ _)); (case aS => exact HB1.out); (case aL => simp only [List.length_nil]; omega); intro v3 w3 ho hb hg hat; have HF3 := Aside0.mk ((Fr.of_below (below_drew (Below.refl w1.heap.size w1))).trans (Fr.of_grown hg)); have HO3 := Aside0.mk ho; have k1' := (facts6 (H1.out.kept HF3.out (fun h => h.elim))).2.1; obtain ⟨w4, hrun, hC4, hF4⟩ := (HC1.out.kept HF3.out (fun b h => h.elim) hne).store HN.out hne HA.out (xs := l0) HO3.out; have HC4 := Aside0.mk hC4; have HF4 := Aside0.mk hF4; have H4 := Aside0.mk ((H1.out.kept HF3.out (fun h => h.elim)).kept hF4 (fun h => hne h)); have k4' := (facts6 H4.out).2.1; clear ho hb hg hat hC4 hF4))
  obtain ⟨j0, j1, j2, j3, j4, j5⟩ := facts6 H4.out
  obtain ⟨z0, z1, z2, z3, z4, z5⟩ := frozen6 H4.out
  go_wp2
  go_ret
  have f1 : Fr (fun b => b = Bs ∨ b = Bm) w w4 := ((HF1.out.mono (fun _ h => Or.inl h)).trans (HF3.out.mono (fun _ h => h.elim))).trans (HF4.out.mono (fun _ h => Or.inr h))
  exact ⟨rfl, H4.out.set_writes _, HC4.out.kept ((Fr.refl (· = Bs) w4).set_ rfl _) (fun b h => h) hne, f1.set_ (Or.inl rfl) _⟩
set_option maxHeartbeats 16000000 in
set_option maxRecDepth 100000 in
theorem write_cut (at_ : Int) (A0 : Option Addr) (c0 : Nat) (l0 : List Int) (s : Dk) (base Bs Bm n : Nat) (C : Int → Option (List Int)) (w : World) (h : St w Bs Bm s) (hC : Cont w base Bs Bm n C) (hne : Bs ≠ Bm) (hbs : base ≤ w.heap.size) (hn : n < maxLen) (ha : okI at_)
    (hr0 : ∀ W, Fr (fun b => b = Bs ∨ b = Bm) w W → Kd.C (Kd.int .u8) W A0 l0.length l0) (hc0 : l0.length ≤ c0) (hl : l0.length ≤ 1000) (hm : met s at_ l0.length = 2) (harm : 0 < s.armed) (hz : wrap64 (s.armed - 1) = 0) :
    Calls Tryd.prog 14 #[.pointer (some ⟨Bs, 0, none⟩), .int .i64 at_, .slice A0 l0.length c0] w fun e w' => ∃ v, e = .returned v ∧ IsErr w' (.fault diskS 0 (.num 70)) v ∧ St w' Bs Bm (cutS s) ∧ Cont w' base Bs Bm n C ∧ Fr (fun b => b = Bs ∨ b = Bm) w w' ∧ ErrNew w.heap.size v := by
  have H := Aside0.mk h
  have HC := Aside0.mk hC
  have HMM := Aside0.mk hm
  have HA := Aside0.mk ha
  have HR0 := Aside0.mk hr0
  have HN := Aside0.mk hn
  have HBS := Aside0.mk hbs
  have hD : decide (0 < s.armed) = true := decide_eq_true harm
  have hZ : (wrap64 (s.armed - 1) == 0) = true := beq_iff_eq.2 hz
  clear h hC hm ha hr0 harm hn hbs
  go_enter Tryd.func14, Tryd.ntmps14
  go_wp2_with fail
  refine (met_calls at_ (l0.length : Int) s Bs Bm w H.out).mono ?_
  rintro e w' ⟨rfl, rfl⟩
  rw [HMM.out]
  go_wp2_with fail
  refine (refused_calls 2 at_ w (by decide)).mono ?_
  rintro e w1 ⟨v, rfl, hE, hb, hNw⟩
  obtain rfl : v = .nilIface := hE
  have hf : Fr (fun _ => False) w w1 := Fr.of_below hb
  have H1 := Aside0.mk (H.out.kept hf (fun h => h.elim))
  have HC1 := Aside0.mk (HC.out.kept hf (fun b h => h.elim) hne)
  have HR1 := Aside0.mk (HR0.out w1 (Fr.of_below hb))
  have HF1 := Aside0.mk hf
  have HB1 := Aside0.mk (Nat.le_trans HBS.out hb.size)
  obtain ⟨k0, k1, k2, k3, k4, k5⟩ := facts6 H1.out
  obtain ⟨y0, y1, y2, y3, y4, y5⟩ := frozen6 H1.out
  clear hb hNw hf k0 k2 k4 k5 y0 y1 y2 y4 y5
  have q3 : (w1.setCell ⟨Bs, 3, none⟩ (.int .i64 0)).cell? ⟨Bs, 3, none⟩ = some (.int .i64 0) := (facts6 (H1.out.set_armed 0)).2.2.2.1
  go_wp2_with fail
  clear q3 y3 k1 k3
  have HX : Aside0 (Fr (· = Bs) w1 (w1.setCell ⟨Bs, 3, none⟩ (.int .i64 0))) := ⟨(Fr.refl (· = Bs) w1).set_ rfl _⟩
  have H1x := Aside0.mk (H1.out.set_armed 0)
  have HC1x := Aside0.mk (HC1.out.kept HX.out (fun b h => h) hne)
  have HR1x : Aside0 (Kd.C (Kd.int .u8) (w1.setCell ⟨Bs, 3, none⟩ (.int .i64 0)) A0 l0.length l0) := ⟨HR0.out _ ((HF1.out.mono (fun _ h => h.elim)).trans (HX.out.mono (fun _ h => Or.inl h)))⟩
  have HB1x := Aside0.mk (Nat.le_trans HB1.out HX.out.size)
  have HF1x := Aside0.mk ((HF1.out.mono (T := (· = Bs)) (fun _ h => h.elim)).trans HX.out)
  clear HX H1 HC1 HR1 HB1 HF1
  generalize w1.setCell ⟨Bs, 3, none⟩ (.int .i64 0) = w1 at H1x HC1x HR1x HB1x HF1x ⊢
  have H1 := H1x
  have HC1 := HC1x
  have HR1 := HR1x
  have HB1 := HB1x
  have HF1 := HF1x
  clear H1x HC1x HR1x HB1x HF1x
  obtain ⟨k0, k1, k2, k3, k4, k5⟩ := facts6 H1.out
  clear k0 k2 k4 k5
  refine (cut_calls _ Bs Bm w1 H1.out).mono ?_
  rintro e w5 ⟨rfl, hS, hf5⟩
  have H5 := Aside0.mk hS
  have HC5 := Aside0.mk (HC1.out.kept hf5 (fun b h => h) hne)
  have HF5 := Aside0.mk (HF1.out.trans hf5)
  clear hS hf5
  go_wp2_with fail
  refine (fault_calls 0 70 w5).mono ?_
  rintro e w6 ⟨v, rfl, hE6, hb6, hN6⟩
  have HE6 := Aside0.mk hE6
  have HN6 := Aside0.mk hN6
  have f6 : Fr (fun _ => False) w5 w6 := Fr.of_below hb6
  clear hE6 hN6 hb6
  go_wp2
  go_ret
  exact ⟨v, rfl, HE6.out, by have := H5.out.kept f6 (fun h => h.elim); simpa [cutS] using this, HC5.out.kept f6 (fun b h => h.elim) hne, (HF5.out.mono (fun _ h => Or.inl h)).trans (f6.mono (fun _ h => h.elim)), HN6.out.le HF5.out.size⟩
set_option maxHeartbeats 8000000 in
theorem write_bad (at_ : Int) (A0 : Option Addr) (c0 : Nat) (l0 : List Int) (s : Dk) (Bs Bm : Nat) (w : World) (h : St w Bs Bm s) (hm : met s at_ l0.length ≠ 2) : Calls Tryd.prog 14 #[.pointer (some ⟨Bs, 0, none⟩), .int .i64 at_, .slice A0 l0.length c0] w fun e w' => ∃ v, e = .returned v ∧ IsErr? w' (refE (met s at_ l0.length) at_) v ∧ Below w.heap.size w w' ∧ ErrNew w.heap.size v := by
  have H := Aside0.mk h
  have HM := Aside0.mk (met_cases s at_ l0.length)
  have HN := Aside0.mk hm
  obtain ⟨m, hmm⟩ : ∃ m, met s at_ l0.length = m := ⟨_, rfl⟩
  have HMM := Aside0.mk hmm
  rw [hmm] at HM HN ⊢
  clear h hm hmm
  go_enter Tryd.func14, Tryd.ntmps14
  go_wp2_with fail
  refine (met_calls at_ (l0.length : Int) s Bs Bm w H.out).mono ?_
  rintro e w' ⟨rfl, rfl⟩
  rw [HMM.out]
  go_wp2_with fail
  refine (refused_calls m at_ w HM.out).mono ?_
  rintro e w1 ⟨v, rfl, hE, hb, hNw⟩
  have HE := Aside0.mk hE
  have hv : ∃ t x, v = .iface t x := by
    rcases HM.out with rfl | rfl | rfl
    · obtain ⟨b, v', hv, _⟩ := hE; exact ⟨_, _, hv⟩
    · obtain ⟨b, v', hv, _⟩ := hE; exact ⟨_, _, hv⟩
    · exact absurd rfl HN.out
  obtain ⟨t, x, rfl⟩ := hv
  clear hE
  go_wp2
  go_ret
  exact ⟨_, rfl, HE.out, hb, hNw⟩
end Go.Proofs.YtemnnnjlllgeeaaDoor.PDsk
