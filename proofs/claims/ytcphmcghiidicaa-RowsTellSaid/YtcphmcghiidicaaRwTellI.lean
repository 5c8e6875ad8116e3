/- Proved: what RowsTell holds (two lists with their marks, the cut, the parts), and what becomes of it when a row is written over, and when a part grows; condition: sizes that fit. -/
import Derived.Test.YtcphmcghiidicaaRwTellG
namespace Go.Proofs.Ytcphmcghiidicaa.PRw
open Go.RowKit Go.Proofs.YtcphmcghiidicaaW.PrintWords Go.Proofs.YtcphmcghiidicaaW.PrintLast Go.Proofs.YtcphmcghiidicaaW.PrintMore
open Go.Proofs.Ytcphmcghiidicaa.Pure (splitOf inPart befS)
set_option linter.unusedVariables false
set_option linter.unusedSimpArgs false
theorem facts3 {W : World} {B : Nat} {t : TypeId} {v0 v1 v2 : Value} (h : W.heap[B]? = some (.cells #[v0, v1, v2] t (0, 0))) :
    W.cell? ⟨B, 0, none⟩ = some v0 ∧ W.cell? ⟨B, 1, none⟩ = some v1 ∧ W.cell? ⟨B, 2, none⟩ = some v2 := by
  refine ⟨?_, ?_, ?_⟩ <;> simp [World.cell?, h]
theorem and7 (n : Int) : ∃ of : Nat, of ≤ 8 ∧ Go.bits .and .i64 n 7 = (of : Int) := by
  have h := Pure.i64_and7 n
  exact ⟨(n % 8).toNat, by omega, by rw [h]; omega⟩
/-- What the law holds: the two lists with their marks, the cut, the parts, the document's parts. -/
structure TI (w W : World) (Z2 Z3 Z4 Z5 : Nat) (A11 A12 A13 A14 A15 : Option Addr) (c11 c12 c13 c14 c15 n13 n14 : Nat) (X Y T' : List S35) (P P' : List (List S35)) : Prop where
  hi : Kd.R k35 35 W 0 (fun k => k < Z2) (.slice A11 (X.length + 2) c11) (X ++ MK)
  ho : Kd.R k35 35 W 0 (fun k => k < Z2) (.slice A12 (Y.length + 2) c12) (Y ++ MK)
  hc : Kd.R k35 35 W Z2 (fun k => k < Z3) (.slice A13 n13 c13) T'
  hs : Kd.S KS 22 W Z3 (fun k => k < Z4 ∨ Z5 ≤ k) (.slice A14 n14 c14) P'
  hw : Kd.S KS 22 W Z4 (fun k => Z4 ≤ k ∧ k < Z5) (.slice A15 n14 c15) P
  hb : Below w.heap.size w W
  hz : Z5 ≤ W.heap.size
  ord : w.heap.size ≤ Z2 ∧ Z2 ≤ Z3 ∧ Z3 ≤ Z4 ∧ Z4 ≤ Z5
section
variable {w W W' : World} {Z2 Z3 Z4 Z5 : Nat} {A11 A12 A13 A14 A15 : Option Addr} {c11 c12 c13 c14 c15 n13 n14 : Nat} {X Y T' : List S35} {P P' : List (List S35)}
theorem TI.below (h : TI w W Z2 Z3 Z4 Z5 A11 A12 A13 A14 A15 c11 c12 c13 c14 c15 n13 n14 X Y T' P P') (hb : Below W.heap.size W W') : TI w W' Z2 Z3 Z4 Z5 A11 A12 A13 A14 A15 c11 c12 c13 c14 c15 n13 n14 X Y T' P P' :=
  ⟨Kd.R_below h.hi hb, Kd.R_below h.ho hb, Kd.R_below h.hc hb, Kd.S_below h.hs hb, Kd.S_below h.hw hb, h.hb.trans (hb.mono h.hb.size), Nat.le_trans h.hz hb.size, h.ord⟩
/-- A row of the cut is written over. -/
theorem TI.setC (h : TI w W Z2 Z3 Z4 Z5 A11 A12 A13 A14 A15 c11 c12 c13 c14 c15 n13 n14 X Y T' P P') (i : Nat) (hi : i < n13) :
    ∃ g, A13 = some ⟨g, 0, none⟩ ∧ (∃ a b, W.cell? ⟨g, i * 2, none⟩ = some a ∧ W.cell? ⟨g, i * 2 + 1, none⟩ = some b) ∧ W.frozen? ⟨g, i * 2, none⟩ = false ∧ W.frozen? ⟨g, i * 2 + 1, none⟩ = false ∧
      TI w ((W.setCell ⟨g, i * 2, none⟩ (.int .i64 (-9))).setCell ⟨g, i * 2 + 1, none⟩ (.int .i64 0)) Z2 Z3 Z4 Z5 A11 A12 A13 A14 A15 c11 c12 c13 c14 c15 n13 n14 X Y (T'.set i ⟨-9, 0⟩) P P' := by
  have hn := (Kd.R_reads' h.hc).1
  obtain ⟨g, cap, e, hg1, hg2, _⟩ := Kd.R_form h.hc (by omega)
  injection e with e1 e2 e3
  subst e1
  have hgo := h.hc.1 g (by simp [Value.ownBlock])
  obtain ⟨c, hcl, hM, hcc, hfr⟩ := Kd.R_elem h.hc ⟨0, 0⟩ (i : Int) (by omega) (by omega)
  rw [Int.toNat_natCast] at hM hcc hfr
  have ec := k35_openM hM
  have hs := Kd.R_seg h.hc (i : Int) (by omega) (by omega) (c := c) (seg := [.int .i64 (-9), .int .i64 0]) (j := 0) hcl (by rw [Int.toNat_natCast]; exact hcc) (by show 0 + 2 ≤ 2; omega) (x' := ⟨-9, 0⟩) (okp := fun _ => False) (by rw [ec]; exact k35_mkM _ _ _ _) (fun _ hk => hk.elim)
  rw [Int.toNat_natCast] at hs
  obtain ⟨hs1, hs2⟩ := hs
  have eW : W.setCells g (i * 2 + 0) [.int .i64 (-9), .int .i64 0] = (W.setCell ⟨g, i * 2, none⟩ (.int .i64 (-9))).setCell ⟨g, i * 2 + 1, none⟩ (.int .i64 0) := rfl
  change Kd.R k35 35 (W.setCells g (i * 2 + 0) _) _ _ _ _ at hs1
  change W.grownBy (W.setCells g (i * 2 + 0) _) _ at hs2
  rw [eW] at hs1 hs2
  have ho := h.ord
  refine ⟨g, rfl, ⟨_, _, hcc 0 _ (by rw [ec]; rfl), hcc 1 _ (by rw [ec]; rfl)⟩, hfr 0, hfr 1, ?_⟩
  exact ⟨Kd.R_grown h.hi hs2 (fun k hk e => by injection e; omega), Kd.R_grown h.ho hs2 (fun k hk e => by injection e; omega), hs1,
    Kd.S_step (Kd.S_bound h.hs) (fun k hk hlt => hs2.block k hlt (fun e => by injection e; have := hk.2.1; omega)) |> fun x => Kd.S_mono x (fun k hk => hk.1),
    Kd.S_grown h.hw hs2 (fun k hk e => by injection e; omega), h.hb.grown hs2 h.hb.size (fun k e => by injection e; omega), Nat.le_trans h.hz hs2.size, h.ord⟩

theorem rd_getD (P : List (List S35)) (i : Nat) : P.getD i [] = rd_L2 P (i : Int) := by unfold rd_L2; rw [Int.toNat_natCast]
/-- A part, where it lies. -/
theorem TI.part (h : TI w W Z2 Z3 Z4 Z5 A11 A12 A13 A14 A15 c11 c12 c13 c14 c15 n13 n14 X Y T' P P') (i : Nat) (hi : i < n14) :
    ∃ g14 Ai ci, A14 = some ⟨g14, 0, none⟩ ∧ W.cell? ⟨g14, i, none⟩ = some (.slice Ai (rd_L2 P' (i : Int)).length ci) ∧ W.frozen? ⟨g14, i, none⟩ = false ∧ (rd_L2 P' (i : Int)).length ≤ ci ∧ Kd.C k35 W Ai (rd_L2 P' (i : Int)).length (rd_L2 P' (i : Int)) := by
  have hn := (Kd.S_reads' h.hs).1
  obtain ⟨g, cap, e, _, _, _⟩ := Kd.S_form h.hs (by omega)
  injection e with e1 e2 e3
  subst e1
  obtain ⟨oki, c, hcl, hM, hcc, hfr, _, _⟩ := Kd.S_elem h.hs [] (i : Int) (by omega) (by omega)
  rw [Int.toNat_natCast, rd_getD] at hM
  rw [Int.toNat_natCast] at hcc hfr
  obtain ⟨v, rfl, hR⟩ := hM
  obtain ⟨Ai, ci, e⟩ := Kd.R_slice hR
  subst e
  have h1 : W.cell? ⟨g, i * 1 + 0, none⟩ = _ := hcc 0 _ rfl
  have h2 : W.frozen? ⟨g, i * 1 + 0, none⟩ = _ := hfr 0
  rw [Nat.mul_one, Nat.add_zero] at h1 h2
  exact ⟨g, Ai, ci, rfl, h1, h2, (Kd.R_reads' hR).2.1, (Kd.R_reads' hR).2.2⟩
theorem TI.doc (h : TI w W Z2 Z3 Z4 Z5 A11 A12 A13 A14 A15 c11 c12 c13 c14 c15 n13 n14 X Y T' P P') (i : Nat) (hi : i < n14) :
    ∃ g15 Ai ci, A15 = some ⟨g15, 0, none⟩ ∧ W.cell? ⟨g15, i, none⟩ = some (.slice Ai (rd_L2 P (i : Int)).length ci) ∧ (rd_L2 P (i : Int)).length ≤ ci ∧ Kd.C k35 W Ai (rd_L2 P (i : Int)).length (rd_L2 P (i : Int)) := by
  have hn := (Kd.S_reads' h.hw).1
  obtain ⟨g, cap, e, _, _, _⟩ := Kd.S_form h.hw (by omega)
  injection e with e1 e2 e3
  subst e1
  obtain ⟨ad, Ai, ci, e, h1, h2, h3⟩ := at_L2 (Kd.S_reads' h.hw).2.2 (i : Int) (by omega) (by omega)
  obtain rfl := Option.some.inj e
  rw [Int.toNat_natCast, add_plain] at h1
  exact ⟨g, Ai, ci, rfl, h1, h2, h3⟩
/-- A row of a part is written over. -/
theorem TI.setR {g14 : Nat} (h : TI w W Z2 Z3 Z4 Z5 A11 A12 A13 (some ⟨g14, 0, none⟩) A15 c11 c12 c13 c14 c15 n13 n14 X Y T' P P') (i : Nat) (hi : i < n14) (k : Nat) {Ai : Option Addr} {ci n : Nat} (hx : W.cell? ⟨g14, i, none⟩ = some (.slice Ai n ci)) (hk : k < n) :
    n = (rd_L2 P' (i : Int)).length ∧ ∃ gi, Ai = some ⟨gi, 0, none⟩ ∧ (∃ a b, W.cell? ⟨gi, k * 2, none⟩ = some a ∧ W.cell? ⟨gi, k * 2 + 1, none⟩ = some b) ∧ W.frozen? ⟨gi, k * 2, none⟩ = false ∧ W.frozen? ⟨gi, k * 2 + 1, none⟩ = false ∧
      TI w ((W.setCell ⟨gi, k * 2, none⟩ (.int .i64 (-9))).setCell ⟨gi, k * 2 + 1, none⟩ (.int .i64 0)) Z2 Z3 Z4 Z5 A11 A12 A13 (some ⟨g14, 0, none⟩) A15 c11 c12 c13 c14 c15 n13 n14 X Y T' P (P'.set i ((rd_L2 P' (i : Int)).set k ⟨-9, 0⟩)) ∧
      ((W.setCell ⟨gi, k * 2, none⟩ (.int .i64 (-9))).setCell ⟨gi, k * 2 + 1, none⟩ (.int .i64 0)).cell? ⟨g14, i, none⟩ = some (.slice Ai n ci) := by
  have hnn := (Kd.S_reads' h.hs).1
  have hgo : ¬ g14 < Z3 := by
    obtain ⟨g, cap, e, hg1, _⟩ := Kd.S_form h.hs (by omega)
    injection e with e1
    injection e1 with e1
    injection e1 with e1
    omega
  obtain ⟨oki, c, hcl, hM, hcc, hoki, hback⟩ := Kd.S_borrow h.hs [] (i : Int) (by omega) (by omega)
  rw [Int.toNat_natCast, rd_getD] at hM
  rw [Int.toNat_natCast] at hcc hback
  obtain ⟨v, rfl, hR⟩ := hM
  have h1 : W.cell? (Addr.add ⟨g14, 0, none⟩ (i * 1 + 0)) = _ := hcc 0 _ rfl
  rw [Nat.mul_one, Nat.add_zero, add_plain, hx] at h1
  obtain rfl := Option.some.inj h1
  have hn := (Kd.R_reads' hR).1
  refine ⟨hn, ?_⟩
  obtain ⟨gi, cap, e, hg1, hg2, _⟩ := Kd.R_form hR (by omega)
  injection e with e1 e2 e3
  subst e1
  have hoi := hR.1 gi (by simp [Value.ownBlock])
  have hgi := hoki gi hoi
  have hne : gi ≠ g14 := fun e => hgi.2 (by simp [Value.ownBlock, e])
  obtain ⟨c, hcl, hM, hcc2, hfr⟩ := Kd.R_elem hR ⟨0, 0⟩ (k : Int) (by omega) (by omega)
  rw [Int.toNat_natCast] at hM hcc2 hfr
  have ec := k35_openM hM
  have hs := Kd.R_seg hR (k : Int) (by omega) (by omega) (c := c) (seg := [.int .i64 (-9), .int .i64 0]) (j := 0) hcl (by rw [Int.toNat_natCast]; exact hcc2) (by show 0 + 2 ≤ 2; omega) (x' := ⟨-9, 0⟩) (okp := fun _ => False) (by rw [ec]; exact k35_mkM _ _ _ _) (fun _ hk => hk.elim)
  rw [Int.toNat_natCast] at hs
  obtain ⟨hs1, hs2⟩ := hs
  have eW : W.setCells gi (k * 2 + 0) [.int .i64 (-9), .int .i64 0] = (W.setCell ⟨gi, k * 2, none⟩ (.int .i64 (-9))).setCell ⟨gi, k * 2 + 1, none⟩ (.int .i64 0) := rfl
  change Kd.R k35 35 (W.setCells gi (k * 2 + 0) _) _ _ _ _ at hs1
  change W.grownBy (W.setCells gi (k * 2 + 0) _) _ at hs2
  rw [eW] at hs1 hs2
  have ho := h.ord
  have hz := h.hz
  have hS := hback hs2 (fun q e => by injection e with e; subst e; exact hoi) (x' := (rd_L2 P' (i : Int)).set k ⟨-9, 0⟩) ⟨_, rfl, hs1⟩
  refine ⟨gi, rfl, ⟨_, _, hcc2 0 _ (by rw [ec]; rfl), hcc2 1 _ (by rw [ec]; rfl)⟩, hfr 0, hfr 1, ?_, ?_⟩
  · have hga := hgi.1
    exact ⟨Kd.R_grown h.hi hs2 (fun q hq e => by injection e; omega), Kd.R_grown h.ho hs2 (fun q hq e => by injection e; omega), Kd.R_grown h.hc hs2 (fun q hq e => by injection e; omega), hS,
      Kd.S_grown h.hw hs2 (fun q hq e => by injection e; rcases hga with hga | hga <;> omega), h.hb.grown hs2 h.hb.size (fun q e => by injection e; omega), Nat.le_trans h.hz hs2.size, h.ord⟩
  · exact World.grownBy.cell hs2 hx (fun e => by injection e with e; exact hne e.symm)
/-- A part grows by one row. -/
theorem TI.push {g14 : Nat} (h : TI w W Z2 Z3 Z4 Z5 A11 A12 A13 (some ⟨g14, 0, none⟩) A15 c11 c12 c13 c14 c15 n13 n14 X Y T' P P') (i : Nat) (hi : i < n14) {Ai : Option Addr} {ci n : Nat} (hx : W.cell? ⟨g14, i, none⟩ = some (.slice Ai n ci)) (ys : List S35) (A : Option Addr) (m c : Nat) (hC : Kd.C k35 W A m ys) (hl : (n + m) * 16 ≤ 140737488355328) :
    ∃ A1 c1 w8, (Builtin.append_ #[22, 22] 22 #[.slice Ai n ci, .slice A m c]).run Try.prog W = .ok (.slice A1 (n + m) c1) w8 ∧ w8.cell? ⟨g14, i, none⟩ = some (.slice Ai n ci) ∧ w8.frozen? ⟨g14, i, none⟩ = false ∧
      TI w (w8.setCell ⟨g14, i, none⟩ (.slice A1 (n + m) c1)) Z2 Z3 Z4 Z5 A11 A12 A13 (some ⟨g14, 0, none⟩) A15 c11 c12 c13 c14 c15 n13 n14 X Y T' P (P'.set i (rd_L2 P' (i : Int) ++ ys)) := by
  have hnn := (Kd.S_reads' h.hs).1
  have ho := h.ord
  have hz := h.hz
  have hgo : Z3 ≤ g14 ∧ g14 < W.heap.size ∧ (g14 < Z4 ∨ Z5 ≤ g14) := by
    obtain ⟨g, cap, e, hg1, hg2, _⟩ := Kd.S_form h.hs (by omega)
    injection e with e1
    injection e1 with e1
    injection e1 with e1
    subst e1
    have := (Kd.S_R h.hs).1 g14 (by simp [Value.ownBlock])
    exact ⟨hg1, hg2, this⟩
  have hs0 : Kd.S KS 22 W Z3 (fun k => (k < Z4 ∨ Z5 ≤ k) ∧ ¬ W.heap.size ≤ k) (.slice (some ⟨g14, 0, none⟩) n14 c14) P' := Kd.S_mono (Kd.S_bound h.hs) (fun k hk => ⟨hk.1, by have := hk.2.2.1; omega⟩)
  obtain ⟨oki, c', hcl, hM, hcc, hfr, hoki, hH⟩ := Kd.S_elem hs0 [] (i : Int) (by omega) (by omega)
  rw [Int.toNat_natCast, rd_getD] at hM
  rw [Int.toNat_natCast] at hcc hfr
  obtain ⟨v, rfl, hR⟩ := hM
  have h1 : W.cell? ⟨g14, i * 1 + 0, none⟩ = _ := hcc 0 _ rfl
  have h2 : W.frozen? ⟨g14, i * 1 + 0, none⟩ = _ := hfr 0
  rw [Nat.mul_one, Nat.add_zero] at h1 h2
  rw [hx] at h1
  obtain rfl := Option.some.inj h1
  have hn := (Kd.R_reads' hR).1
  subst hn
  obtain ⟨v1, w8, hrun, hR1, _, hg, hat⟩ := app_keeps (W := W) Z3 (fun k => oki k ∨ W.heap.size ≤ k) 22 _ (rd_L2 P' (i : Int)) ys A m c (Kd.R_mono hR (fun k hk => .inl hk)) hC (by omega) (fun k hk => .inr hk) hl
  have hrow : ∀ k, (Value.slice Ai (rd_L2 P' (i : Int)).length ci).ownBlock = some k → oki k ∧ Z3 ≤ k ∧ (k < Z4 ∨ Z5 ≤ k) ∧ k ≠ g14 := fun k hk => by
    obtain ⟨inner, ho⟩ := Kd.R_own hR
    have := hoki k (hR.1 k hk)
    exact ⟨hR.1 k hk, (ho.lt k hk).1, this.1.1, this.2⟩
  have hne : some g14 ≠ (Value.slice Ai (rd_L2 P' (i : Int)).length ci).ownBlock := fun e => (hrow g14 e.symm).2.2.2 rfl
  have hH8 := Kd.H_grown hH hg (fun k hk => (hrow k hk).1)
  obtain ⟨A1, c1, e⟩ := Kd.R_slice hR1
  rw [List.length_append, show ys.length = m from hC.1] at e
  subst e
  have hseg := Kd.S_seg (okg := fun k => W.heap.size ≤ k) (ok := fun k => k < Z4 ∨ Z5 ≤ k) (x' := rd_L2 P' (i : Int) ++ ys) (okp := fun k => oki k ∨ W.heap.size ≤ k) (seg := [.slice A1 ((rd_L2 P' (i : Int)).length + m) c1]) (j := 0) hH8 (by omega) (by omega) (by show 0 + 1 ≤ 1; omega) ⟨_, rfl, hR1⟩ (fun k hk => hk) (fun k hk => ⟨.inr (by omega), by omega⟩)
  rw [Int.toNat_natCast] at hseg
  obtain ⟨hS, hg2⟩ := hseg
  have eW : w8.setCells g14 (i * 1 + 0) [.slice A1 ((rd_L2 P' (i : Int)).length + m) c1] = w8.setCell ⟨g14, i, none⟩ (.slice A1 ((rd_L2 P' (i : Int)).length + m) c1) := by rw [Nat.mul_one]; rfl
  change Kd.S KS 22 (w8.setCells g14 (i * 1 + 0) _) _ _ _ _ at hS
  change w8.grownBy (w8.setCells g14 (i * 1 + 0) _) _ at hg2
  rw [eW] at hS hg2
  have hf8 : w8.frozen? ⟨g14, i, none⟩ = false := by
    have := hg.block g14 hgo.2.1 hne
    rw [World.frozen?_of_block this]
    exact h2
  have hsz8 := hg.size
  refine ⟨A1, c1, w8, hrun, World.grownBy.cell hg hx hne, hf8, ?_⟩
  exact ⟨Kd.R_grown (Kd.R_grown h.hi hg (fun q hq e => by have := (hrow q e.symm).2.1; omega)) hg2 (fun q hq e => by injection e; omega),
    Kd.R_grown (Kd.R_grown h.ho hg (fun q hq e => by have := (hrow q e.symm).2.1; omega)) hg2 (fun q hq e => by injection e; omega),
    Kd.R_grown (Kd.R_grown h.hc hg (fun q hq e => by have := (hrow q e.symm).2.1; omega)) hg2 (fun q hq e => by injection e; omega), hS,
    Kd.S_grown (Kd.S_grown h.hw hg (fun q hq e => by have := (hrow q e.symm).2.2.1; omega)) hg2 (fun q hq e => by injection e; have := hgo.2.2; omega),
    (h.hb.grown hg h.hb.size (fun q e => by have := (hrow q e).2.1; omega)).grown hg2 (Nat.le_trans h.hb.size hsz8) (fun q e => by injection e; omega), Nat.le_trans h.hz (Nat.le_trans hsz8 hg2.size), h.ord⟩
theorem cell_keepB {w W : World} {p : Addr} {v : Value} (hb : Below w.heap.size w W) (h : w.cell? p = some v) : W.cell? p = some v := by
  have hlt : p.block < w.heap.size := by
    by_cases h2 : p.block < w.heap.size
    · exact h2
    · simp [World.cell?, Array.getElem?_eq_none (Nat.le_of_not_lt h2)] at h
  have := hb.block p.block hlt
  simp only [World.cell?] at h ⊢
  rw [this]; exact h
theorem one_C (W : World) (x : S35) : Kd.C k35 (W.alloc (.cells #[.int .i64 x.f0, .int .i64 x.f1] 35)) (some ⟨W.heap.size, 0, none⟩) 1 [x] := by
  refine ⟨rfl, by decide, fun _ => ⟨_, rfl, fun j p hp => ?_⟩⟩
  cases j with
  | succ j => simp at hp
  | zero =>
    obtain rfl : x = p := by simpa using hp
    refine ⟨_, rfl, k35_mk _ x, fun i u hu => ?_⟩
    have hb := heap_alloc_new W (Obj.cells #[.int .i64 x.f0, .int .i64 x.f1] 35)
    show World.cell? _ (Addr.add ⟨W.heap.size, 0, none⟩ (0 * 2 + i)) = some u
    rw [add_plain, Nat.zero_mul, Nat.zero_add]
    simp only [World.cell?, hb]
    simpa using hu
end
end Go.Proofs.Ytcphmcghiidicaa.PRw
