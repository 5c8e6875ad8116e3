/- Proved: the contracts of few (with the marks behind the rows), Cut of the document, whole; condition: sizes that fit. -/
import Derived.Test.YtcphmcghiidicaaRwLaw
import Derived.Test.YtcphmcghiidicaaRwTellP
import Derived.Test.YtcphmcghiidicaaRegInv
namespace Go.Proofs.Ytcphmcghiidicaa.PRw
open Go.RowKit Go.Proofs.YtcphmcghiidicaaW.PrintWords Go.Proofs.YtcphmcghiidicaaW.PrintLast Go.Proofs.YtcphmcghiidicaaW.PrintMore
set_option linter.unusedVariables false
set_option linter.unusedSimpArgs false
def MK : List S35 := [⟨-7, 0⟩, ⟨-8, 0⟩]
theorem mk_C (W : World) : Kd.C k35 (W.alloc (.cells #[.int .i64 (-7), .int .i64 0, .int .i64 (-8), .int .i64 0] 35)) (some ⟨W.heap.size, 0, none⟩) 2 MK := by
  refine ⟨rfl, by decide, fun _ => ⟨_, rfl, fun j p hp => ?_⟩⟩
  have hb := heap_alloc_new W (Obj.cells #[.int .i64 (-7), .int .i64 0, .int .i64 (-8), .int .i64 0] 35)
  have hc : ∀ i u, (#[Value.int .i64 (-7), .int .i64 0, .int .i64 (-8), .int .i64 0])[i]? = some u → (W.alloc (.cells #[.int .i64 (-7), .int .i64 0, .int .i64 (-8), .int .i64 0] 35)).cell? ⟨W.heap.size, i, none⟩ = some u := fun i u hu => by
    simp only [World.cell?, hb]
    exact hu
  match j, hp with
  | 0, hp =>
    obtain rfl : (⟨-7, 0⟩ : S35) = p := by simpa [MK] using hp
    refine ⟨_, rfl, k35_mk _ _, fun i u hu => ?_⟩
    show World.cell? _ (Addr.add ⟨W.heap.size, 0, none⟩ (0 * 2 + i)) = some u
    rw [add_plain]
    refine hc _ u ?_
    match i, hu with
    | 0, hu => exact hu
    | 1, hu => exact hu
  | 1, hp =>
    obtain rfl : (⟨-8, 0⟩ : S35) = p := by simpa [MK] using hp
    refine ⟨_, rfl, k35_mk _ _, fun i u hu => ?_⟩
    show World.cell? _ (Addr.add ⟨W.heap.size, 0, none⟩ (1 * 2 + i)) = some u
    rw [add_plain]
    refine hc _ u ?_
    match i, hu with
    | 0, hu => exact hu
    | 1, hu => exact hu
set_option maxHeartbeats 4000000 in
set_option maxRecDepth 100000 in
theorem few2_calls (A0 : Option Addr) (c0 : Nat) (l0 X : List S35) (m : Nat) (w : World) (hr0 : Kd.C k35 w A0 l0.length l0) (hc0 : l0.length ≤ c0) (hm : m ≤ 1000) (hX : l0.take m = X) :
    Calls Try.prog 5 #[.slice A0 l0.length c0, .int .i64 (m : Int)] w fun e w' => ∃ A c, e = .returned (.slice A X.length c) ∧ Kd.R k35 35 w' w.heap.size (fun _ => True) (.slice A (X.length + 2) c) (X ++ MK) ∧ Below w.heap.size w w' := by
  have hmn : (if (m : Int) < (l0.length : Int) then (m : Int) else (l0.length : Int)) = (X.length : Int) := by rw [← hX, List.length_take]; split <;> omega
  have hmn2 : (if m < l0.length then (m : Int) else (l0.length : Int)) = (X.length : Int) := by rw [← hX, List.length_take]; split <;> omega
  have hXl : X.length ≤ l0.length := by rw [← hX, List.length_take]; omega
  have hXm : X.length ≤ m := by rw [← hX, List.length_take]; omega
  have hCX : Kd.C k35 w A0 X.length X := by
    by_cases h : m ≤ l0.length
    · have := Kd.C_take (m := m) hr0 h; rw [hX] at this; exact this
    · rw [List.take_of_length_le (by omega)] at hX; rw [← hX]; exact hr0
  obtain ⟨v1, w1, hrA, hRA, _, hgA, hatA⟩ := app_keeps (W := w) w.heap.size (fun _ => True) 22 (.slice none 0 0) [] X A0 X.length c0 (Kd.R_nil _ _ _ _ _) hCX (Nat.le_refl _) (fun _ _ => trivial) (by simp only [List.length_nil]; omega)
  rw [List.nil_append] at hRA
  have hbA : Below w.heap.size w w1 := (Below.refl _ _).grown hgA (Nat.le_refl _) (fun k hk => by simp [Value.ownBlock] at hk)
  obtain ⟨W2, hW2⟩ : ∃ W2, w1.alloc (.cells #[.int .i64 (-7), .int .i64 0, .int .i64 (-8), .int .i64 0] 35) = W2 := ⟨_, rfl⟩
  have hC2 := mk_C w1
  have hR2 := Kd.R_alloc hRA (.cells #[.int .i64 (-7), .int .i64 0, .int .i64 (-8), .int .i64 0] 35)
  have hb2 := below_alloc hbA (.cells #[.int .i64 (-7), .int .i64 0, .int .i64 (-8), .int .i64 0] 35)
  rw [hW2] at hC2 hR2 hb2
  obtain ⟨v3, w3, hrB, hRB, _, hgB, hatB⟩ := app_keeps (W := W2) w.heap.size (fun _ => True) 22 v1 X MK (some ⟨w1.heap.size, 0, none⟩) 2 2 hR2 hC2 hb2.size (fun _ _ => trivial) (by omega)
  have hbB : Below w.heap.size w w3 := hb2.grown hgB hb2.size (fun k hk => by obtain ⟨inner, ho⟩ := Kd.R_own hR2; exact (ho.lt k hk).1)
  obtain ⟨A3, c3, e3⟩ := Kd.R_slice hRB
  subst e3
  have hl2 : (X ++ MK).length = X.length + 2 := by rw [List.length_append]; rfl
  rw [hl2] at hRB hrB
  have hc3 := (Kd.R_reads' hRB).2.1
  have hcut1 := Reg.cut_cap (P := Try.prog) 22 35 .i64 Try.underlying22 (info_parts info35).choose_spec.1 A0 l0.length c0 (X.length : Int) (by omega) (by omega)
  have hcut2 := Reg.cut_cap (P := Try.prog) 22 35 .i64 Try.underlying22 (info_parts info35).choose_spec.1 A3 (X.length + 2) c3 (X.length : Int) (by omega) (by omega)
  rw [Int.toNat_natCast] at hcut1 hcut2
  have HRB := Aside0.mk hRB
  have HBB := Aside0.mk hbB
  clear hRA hgA hatA hbA hC2 hR2 hb2 hgB hatB hCX hr0 hRB hbB hl2
  subst hW2
  go_enter Try.func5, Try.ntmps5
  go_wp2_with (first
    | (at_builtin; refine wpList_run rfl (.tmp 11) (.tmp 14) 22 rfl (.slice none 0 0) (.slice A0 X.length c0) v1 w1 rfl rfl hrA ?_)
    | (at_builtin; refine wpList_run rfl (.tmp 16) (.tmp 19) 22 rfl v1 (.slice (some ⟨w1.heap.size, 0, none⟩) 2 2) _ w3 rfl rfl hrB ?_))
  go_ret
  exact ⟨A3, c3, rfl, HRB.out, HBB.out⟩
theorem refCut_calls (A0 : Option Addr) (c0 : Nat) (X T : List S35) (w : World) (hc0 : X.length ≤ c0) (hl : X.length ≤ 1000000) (hT : X.take 64 = T) :
    Calls Try.prog 11 #[.slice A0 X.length c0] w fun e w' => e = .returned (.slice A0 T.length c0) ∧ w' = w := by
  have hmn : (if (64 : Int) < (X.length : Int) then (64 : Int) else (X.length : Int)) = (T.length : Int) := by rw [← hT, List.length_take]; split <;> omega
  have hXl : T.length ≤ X.length := by rw [← hT, List.length_take]; omega
  have hcut1 := Reg.cut_cap (P := Try.prog) 22 35 .i64 Try.underlying22 (info_parts info35).choose_spec.1 A0 X.length c0 (T.length : Int) (by omega) (by omega)
  rw [Int.toNat_natCast] at hcut1
  clear hT
  go_enter Try.func11, Try.ntmps11
  go_wp2
  go_ret
  exact ⟨rfl, rfl⟩
set_option maxHeartbeats 4000000 in
set_option maxRecDepth 100000 in
theorem whole_calls (A : Option Addr) (c : Nat) (A0 : Option Addr) (c0 : Nat) (l0 X : List S35) (base : Nat) (ok : Nat → Prop) (w : World) (hR : Kd.R k35 35 w base ok (.slice A (X.length + 2) c) (X ++ MK)) (hr0 : Kd.C k35 w A0 l0.length l0) (hc0 : l0.length ≤ c0) (m : Nat) (hm : m ≤ 1000) (hX : l0.take m = X) :
    Calls Try.prog 17 #[.slice A X.length c, .slice A0 l0.length c0] w fun e w' => e = .returned (.bool true) ∧ Below w.heap.size w w' := by
  have hXl : X.length ≤ l0.length := by rw [← hX, List.length_take]; omega
  have hXm : X.length ≤ m := by rw [← hX, List.length_take]; omega
  have hCX : Kd.C k35 w A0 X.length X := by
    by_cases h : m ≤ l0.length
    · have := Kd.C_take (m := m) hr0 h; rw [hX] at this; exact this
    · rw [List.take_of_length_le (by omega)] at hX; rw [← hX]; exact hr0
  obtain ⟨hn, hnc, hC⟩ := Kd.R_reads' hR
  have hCc : Kd.C k35 w A X.length X := by
    have := Kd.C_take (m := X.length) hC (by rw [← hn]; omega)
    rw [List.take_left] at this
    exact this
  have hl2 : (X ++ MK).length = X.length + 2 := hn.symm
  have g0 : rd_T35 (X ++ MK) (X.length : Int) = ⟨-7, 0⟩ := by
    unfold rd_T35
    rw [Int.toNat_natCast, List.getD_eq_getElem?_getD, List.getElem?_append_right (Nat.le_refl _), Nat.sub_self]; rfl
  have g1 : rd_T35 (X ++ MK) ((X.length : Int) + 1) = ⟨-8, 0⟩ := by
    unfold rd_T35
    rw [show ((X.length : Int) + 1).toNat = X.length + 1 by omega, List.getD_eq_getElem?_getD, List.getElem?_append_right (by omega), show X.length + 1 - X.length = 1 by omega]; rfl
  obtain ⟨ad, e0, m0, _⟩ := at_T35 hC (X.length : Int) (by omega) (by omega)
  obtain ⟨ad', e1, m1, _⟩ := at_T35 hC ((X.length : Int) + 1) (by omega) (by omega)
  subst e0
  obtain rfl := Option.some.inj e1
  rw [g0] at m0
  rw [g1] at m1
  have hcut1 := Reg.cut_cap (P := Try.prog) 22 35 .i64 Try.underlying22 (info_parts info35).choose_spec.1 A0 l0.length c0 (X.length : Int) (by omega) (by omega)
  have hcut2 := Reg.cut_cap (P := Try.prog) 22 35 .i64 Try.underlying22 (info_parts info35).choose_spec.1 (some ad) X.length c ((X.length : Int) + 2) (by omega) (by omega)
  rw [Int.toNat_natCast] at hcut1
  rw [show ((X.length : Int) + 2).toNat = X.length + 2 by omega] at hcut2
  rw [Int.toNat_natCast] at m0
  rw [show ((X.length : Int) + 1).toNat = X.length + 1 by omega] at m1
  obtain ⟨K5, s5⟩ := Pure.same_ev X X (by omega)
  have h5 := s5 K5 (Nat.le_refl _)
  rw [decide_eq_true rfl] at h5
  have HS := Aside0.mk (tributaryref2_Same.calls K5 (some ad) c X A0 c0 X true w hCc (by omega) hCX (by omega) h5)
  have b1 : (X.length : Int) + 2 ≤ 9223372036854775807 := by omega
  have b2 : (0 : Int) ≤ (X.length : Int) := by omega
  have b3 : (X.length : Int) < (X.length : Int) + 2 := by omega
  have b4 : (X.length : Int) + 1 < (X.length : Int) + 2 := by omega
  clear hR hr0 hX hCX hC hCc hn g0 g1 h5 s5 hl2
  go_enter Try.func17, Try.ntmps17
  go_wp2_with (first
    | (go_at_call 7; refine HS.out.mono ?_; rintro e w1 ⟨rfl, ⟨nd, rfl⟩⟩))
  go_ret
  exact ⟨rfl, by apply pw_below_drewN; exact Below.refl _ _⟩
end Go.Proofs.Ytcphmcghiidicaa.PRw
