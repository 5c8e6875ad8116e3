/- Proved: what Reduce, Join, Fold and Apply hand back, the program's and the document's; condition: at most 200 rows of numbers that fit. -/
import Derived.Test.YtbbjkgpilmcldaaRfJoin
import Derived.Test.YtbbjkgpilmcldaaZrb
namespace Go.Proofs.Ytbbjkgpilmcldaa.Seq
open Go.RowKit Go.Maps Go.ChangeShapes Go.Shelf
open Go.Proofs.YtbbjkgpilmcldaaW.PrintWords Go.Proofs.YtbbjkgpilmcldaaW.PrintLast Go.Proofs.YtbbjkgpilmcldaaW.PrintMore
attribute [local go_sem] Oper.semAt_some store_func
set_option linter.unusedVariables false
set_option linter.unusedSimpArgs false
theorem store_nilfunc (P : Program) (a : Addr) (m : Mode) (w : World) : (store a .nilFunc m).run P w = stored P w a .nilFunc m := run_store P w a _ m rfl
attribute [local go_sem] store_nilfunc
theorem told_out (f : Int) (hf : f < 0 ∨ 5 < f) (w : World) : Calls Try.prog 41 #[.int .i64 f] w fun e w' => e = .returned (.tuple #[.agg #[.nilFunc, .nilFunc], .bool false]) ∧ Below w.heap.size w w' := by
  have hA : ((w.alloc (.cells #[.nilFunc, .nilFunc] 69)).alloc (.cells tellers 69)).heap[w.heap.size]? = some (.cells #[.nilFunc, .nilFunc] 69 (0, 0)) := (Below.heap_alloc _ _ _ (by simp)).trans (World.alloc_heap_new w _)
  have c0 : World.cell? _ ⟨w.heap.size, 0, none⟩ = some .nilFunc := blk_c hA 0
  have c1 : World.cell? _ ⟨w.heap.size, 1, none⟩ = some .nilFunc := blk_c hA 1
  have f0 := blk_frozen hA 0
  have f1 := blk_frozen hA 1
  unfold tellers at c0 c1 f0 f1
  clear hA
  rcases hf with h | h
  · have q1 : decide (f < 0) = true := decide_eq_true h
    go_enter Try.func41, Try.ntmps41
    go_wp2
    refine bodyPost_ret (v := .tuple #[.agg #[.nilFunc, .nilFunc], .bool false]) ?_ rfl ⟨rfl, (((Below.refl _ w).alloc (Nat.le_refl _) _).alloc (by simp) _)⟩
    rw [results_cell_tmp rfl]
    go_simp
    try exact ⟨rfl, rfl⟩
  · have q1 : decide (f < 0) = false := decide_eq_false (by omega)
    have q2 : decide (6 ≤ f) = true := decide_eq_true (by omega)
    have q3 : decide (f ≥ 6) = true := decide_eq_true (by omega)
    go_enter Try.func41, Try.ntmps41
    go_wp2
    refine bodyPost_ret (v := .tuple #[.agg #[.nilFunc, .nilFunc], .bool false]) ?_ rfl ⟨rfl, (((Below.refl _ w).alloc (Nat.le_refl _) _).alloc (by simp) _)⟩
    rw [results_cell_tmp rfl]
    go_simp
    try exact ⟨rfl, rfl⟩
theorem joined_out (f : Int) (hf : f < 0 ∨ 3 < f) (w : World) : Calls Try.prog 43 #[.int .i64 f] w fun e w' => e = .returned (.tuple #[.nilFunc, .bool false]) ∧ Below w.heap.size w w' := by
  rcases hf with h | h
  · have q1 : decide (f < 0) = true := decide_eq_true h
    go_enter Try.func43, Try.ntmps43
    go_wp2
    go_ret2
    exact ⟨rfl, (Below.refl _ w).alloc (Nat.le_refl _) _⟩
  · have q1 : decide (f < 0) = false := decide_eq_false (by omega)
    have q2 : decide (4 ≤ f) = true := decide_eq_true (by omega)
    have q3 : decide (f ≥ 4) = true := decide_eq_true (by omega)
    go_enter Try.func43, Try.ntmps43
    go_wp2
    go_ret2
    exact ⟨rfl, (Below.refl _ w).alloc (Nat.le_refl _) _⟩
set_option maxHeartbeats 4000000 in
set_option maxRecDepth 100000 in
theorem fold_out (f : Int) (hf : f < 0 ∨ 5 < f) (v1 v2 : Value) (w : World) :
    Calls Try.prog 19 #[.int .i64 f, v1, v2] w fun e w' => e = .returned (.slice none 0 0) ∧ Below w.heap.size w w' := by
  have ht41 : Fence.wide.fn 41 := trivial
  refine (callsIn_wide (n := 6)).1 ?_
  refine callsIn_of_wp_marks Try.func19 rfl trivial ?_ rfl
  simp only [Try.ntmps19, List.size_toArray, List.length_cons, List.length_nil, Nat.reduceAdd, Nat.reduceSub, Array.replicate_succ, Array.replicate_zero, List.push_toArray, List.append_toArray, List.nil_append, List.cons_append]
  gi_wp2_with (first
    | (gi_at_call 41; refine (callsIn_wide.2 (told_out f hf w)).mono ?_; rintro e' W1 ⟨rfl, hb1⟩))
  exact ⟨_, results_tmp rfl _ _ _, rfl, hb1.alloc hb1.size _⟩
set_option maxHeartbeats 4000000 in
set_option maxRecDepth 100000 in
theorem join_out (f : Int) (hf : f < 0 ∨ 3 < f) (v1 v2 : Value) (w : World) :
    Calls Try.prog 24 #[.int .i64 f, v1, v2] w fun e w' => e = .returned (.slice none 0 0) ∧ Below w.heap.size w w' := by
  have ht43 : Fence.wide.fn 43 := trivial
  obtain ⟨W0, hW0⟩ : ∃ W0, w.alloc (.cells #[.slice none 0 0] 22) = W0 := ⟨_, rfl⟩
  have hb0 : Below w.heap.size w W0 := by rw [← hW0]; exact (Below.refl _ w).alloc (Nat.le_refl _) _
  have hr0 : W0.heap[w.heap.size]? = some (.cells #[.slice none 0 0] 22 (0, 0)) := by rw [← hW0]; exact World.alloc_heap_new w _
  have hz0 : W0.heap.size = w.heap.size + 1 := by rw [← hW0]; simp
  have HJ := Aside0.mk (joined_out f hf W0)
  refine (callsIn_wide (n := 6)).1 ?_
  refine callsIn_of_wp_marks Try.func24 rfl trivial ?_ rfl
  simp only [Try.ntmps24, List.size_toArray, List.length_cons, List.length_nil, Nat.reduceAdd, Nat.reduceSub, Array.replicate_succ, Array.replicate_zero, List.push_toArray, List.append_toArray, List.nil_append, List.cons_append]
  gi_wp2_with (first
    | (gi_at_call 43; refine (callsIn_wide.2 HJ.out).mono ?_; rintro e' W1 ⟨rfl, hb1⟩; have hr1 : (W1.alloc (.cells #[.nilFunc] 47)).heap[w.heap.size]? = some (.cells #[.slice none 0 0] 22 (0, 0)) := (Below.heap_alloc _ _ _ (by have := hb1.size; omega)).trans ((hb1.block _ (by omega)).trans hr0); have cr := blk_c hr1 0; have fr := blk_frozen hr1 0; have hr2 := blk_set hr1 0 (.slice none 0 0); have HR2 := Aside0.mk hr2; clear hr1 hr2))
  have hb2 : Below w.heap.size w (W1.alloc (.cells #[.nilFunc] 47)) := (hb0.trans (hb1.mono hb0.size)).alloc (by have := hb0.size; have := hb1.size; omega) _
  exact ⟨_, results_cell1 rfl _ _ _ w.heap.size (.slice none 0 0) rfl Try.underlying22 (blk_c HR2.out 0), rfl, hb2.setCell (Nat.le_refl _) _⟩
set_option maxHeartbeats 4000000 in
set_option maxRecDepth 100000 in
theorem reduce8_out (f : Int) (hf : f < 0 ∨ 5 < f) (v1 : Value) (w : World) :
    Calls Try.prog 32 #[.int .i64 f, v1] w fun e w' => e = .returned (.slice none 0 0) ∧ w' = w := by
  rcases hf with h | h
  · have q1 : decide (f < 0) = true := decide_eq_true h
    go_enter Try.func32, Try.ntmps32
    go_wp2_with fail
    go_ret
    exact ⟨rfl, rfl⟩
  · have q1 : decide (f < 0) = false := decide_eq_false (by omega)
    have q2 : decide (5 < f) = true := decide_eq_true (by omega)
    have q3 : decide (f > 5) = true := decide_eq_true (by omega)
    go_enter Try.func32, Try.ntmps32
    go_wp2_with fail
    go_ret
    exact ⟨rfl, rfl⟩
set_option maxHeartbeats 4000000 in
set_option maxRecDepth 100000 in
theorem fold8_out (f : Int) (hf : f < 0 ∨ 5 < f) (v1 v2 : Value) (w : World) :
    Calls Try.prog 34 #[.int .i64 f, v1, v2] w fun e w' => e = .returned (.slice none 0 0) ∧ w' = w := by
  rcases hf with h | h
  · have q1 : decide (f < 0) = true := decide_eq_true h
    go_enter Try.func34, Try.ntmps34
    go_wp2_with fail
    go_ret
    exact ⟨rfl, rfl⟩
  · have q1 : decide (f < 0) = false := decide_eq_false (by omega)
    have q2 : decide (5 < f) = true := decide_eq_true (by omega)
    have q3 : decide (f > 5) = true := decide_eq_true (by omega)
    go_enter Try.func34, Try.ntmps34
    go_wp2_with fail
    go_ret
    exact ⟨rfl, rfl⟩
set_option maxHeartbeats 4000000 in
set_option maxRecDepth 100000 in
theorem join8_out (f : Int) (hf : f < 0 ∨ 3 < f) (v1 v2 : Value) (w : World) :
    Calls Try.prog 33 #[.int .i64 f, v1, v2] w fun e w' => e = .returned (.slice none 0 0) ∧ w' = w := by
  rcases hf with h | h
  · have q1 : decide (f < 0) = true := decide_eq_true h
    go_enter Try.func33, Try.ntmps33
    go_wp2_with fail
    go_ret
    exact ⟨rfl, rfl⟩
  · have q1 : decide (f < 0) = false := decide_eq_false (by omega)
    have q2 : decide (3 < f) = true := decide_eq_true (by omega)
    have q3 : decide (f > 3) = true := decide_eq_true (by omega)
    go_enter Try.func33, Try.ntmps33
    go_wp2_with fail
    go_ret
    exact ⟨rfl, rfl⟩
/-! ### whatever the number -/
def foldA (f : Int) (bf l : List RowT) : List RowT := if 0 ≤ f ∧ f ≤ 5 then foldF f.toNat bf l else []
def joinA (f : Int) (a b : List RowT) : List RowT := if 0 ≤ f ∧ f ≤ 3 then joinF f.toNat a b else []
def rowsFit (l : List RowT) : Prop := l.length ≤ 200 ∧ ∀ r ∈ l, okRow r
/-- What such a function hands back. -/
def Tells (w : World) (L : List RowT) : Ending → World → Prop := fun e w' => ∃ v, e = .returned v ∧ RowsAt w' w.heap.size v L ∧ Below w.heap.size w w'
theorem tells_nil {f : FuncId} {args : Array Value} {w : World} (h : Calls Try.prog f args w fun e w' => e = .returned (.slice none 0 0) ∧ Below w.heap.size w w') : Calls Try.prog f args w (Tells w []) :=
  h.mono (fun e w' ⟨h1, h2⟩ => ⟨_, h1, RowsAt.nil _ _, h2⟩)
theorem tells_same {f : FuncId} {args : Array Value} {w : World} (h : Calls Try.prog f args w fun e w' => e = .returned (.slice none 0 0) ∧ w' = w) : Calls Try.prog f args w (Tells w []) :=
  h.mono (fun e w' ⟨h1, h2⟩ => ⟨_, h1, RowsAt.nil _ _, by rw [h2]; exact Below.refl _ _⟩)
section
variable (f : Int) (A0 : Option Addr) (c0 : Nat) (A1 : Option Addr) (c1 : Nat) (a b : List RowT) (w : World)
theorem foldA_calls (h0 : kRow.C w A0 a.length a) (h1 : kRow.C w A1 b.length b) (f0 : rowsFit a) (f1 : rowsFit b) : Calls Try.prog 19 #[.int .i64 f, .slice A0 a.length c0, .slice A1 b.length c1] w (Tells w (foldA f a b)) := by
  unfold foldA
  by_cases hf : 0 ≤ f ∧ f ≤ 5
  · rw [if_pos hf]
    have := fold_calls f.toNat (by omega) A0 c0 A1 c1 a b w h0 h1 (by have := f0.1; have := f1.1; omega) f0.2 f1.2
    rw [Int.toNat_of_nonneg hf.1] at this
    exact this
  · rw [if_neg hf]
    exact tells_nil (fold_out f (by omega) _ _ w)
theorem fold8A_calls (h0 : kRow.C w A0 a.length a) (h1 : kRow.C w A1 b.length b) (f0 : rowsFit a) (f1 : rowsFit b) : Calls Try.prog 34 #[.int .i64 f, .slice A0 a.length c0, .slice A1 b.length c1] w (Tells w (foldA f a b)) := by
  unfold foldA
  by_cases hf : 0 ≤ f ∧ f ≤ 5
  · rw [if_pos hf]
    have := fold8_calls f.toNat (by omega) A0 c0 A1 c1 a b w h0 h1 (by have := f0.1; have := f1.1; omega) f0.2 f1.2
    rw [Int.toNat_of_nonneg hf.1] at this
    exact this
  · rw [if_neg hf]
    exact tells_same (fold8_out f (by omega) _ _ w)
theorem joinA_calls (h0 : kRow.C w A0 a.length a) (h1 : kRow.C w A1 b.length b) (f0 : rowsFit a) (f1 : rowsFit b) : Calls Try.prog 24 #[.int .i64 f, .slice A0 a.length c0, .slice A1 b.length c1] w (Tells w (joinA f a b)) := by
  unfold joinA
  by_cases hf : 0 ≤ f ∧ f ≤ 3
  · rw [if_pos hf]
    have := join_calls f.toNat (by omega) A0 c0 A1 c1 a b w h0 h1 (by have := f0.1; omega) (by have := f1.1; omega) f0.2 f1.2
    rw [Int.toNat_of_nonneg hf.1] at this
    exact this
  · rw [if_neg hf]
    exact tells_nil (join_out f (by omega) _ _ w)
theorem join8A_calls (h0 : kRow.C w A0 a.length a) (h1 : kRow.C w A1 b.length b) (f0 : rowsFit a) (f1 : rowsFit b) : Calls Try.prog 33 #[.int .i64 f, .slice A0 a.length c0, .slice A1 b.length c1] w (Tells w (joinA f a b)) := by
  unfold joinA
  by_cases hf : 0 ≤ f ∧ f ≤ 3
  · rw [if_pos hf]
    have := join8_calls f.toNat (by omega) A0 c0 A1 c1 a b w h0 h1 (by have := f0.1; omega) (by have := f1.1; omega) f0.2
    rw [Int.toNat_of_nonneg hf.1] at this
    exact this
  · rw [if_neg hf]
    exact tells_same (join8_out f (by omega) _ _ w)
theorem rows_nil_C (w : World) : kRow.C w none ([] : List RowT).length [] := ⟨rfl, by decide, fun h => by cases h⟩
theorem fit_nil : rowsFit [] := ⟨by decide, fun r h => by cases h⟩
theorem reduceA_calls (h0 : kRow.C w A0 a.length a) (f0 : rowsFit a) : Calls Try.prog 23 #[.int .i64 f, .slice A0 a.length c0] w (Tells w (foldA f [] a)) := by
  have HC := Aside0.mk (foldA_calls f none 0 A0 c0 [] a w (rows_nil_C w) h0 fit_nil f0)
  clear h0
  go_enter Try.func23, Try.ntmps23
  go_wp2_with (first
    | (go_at_call 19; refine HC.out.mono ?_; rintro e w' ⟨v, rfl, hR, hb⟩))
  go_ret
  exact ⟨v, rfl, hR, hb⟩
theorem reduce8A_calls (h0 : kRow.C w A0 a.length a) (f0 : rowsFit a) : Calls Try.prog 32 #[.int .i64 f, .slice A0 a.length c0] w (Tells w (foldA f [] a)) := by
  unfold foldA
  by_cases hf : 0 ≤ f ∧ f ≤ 5
  · rw [if_pos hf]
    have := reduce_calls f.toNat (by omega) A0 c0 a w h0 (by have := f0.1; omega) f0.2
    rw [Int.toNat_of_nonneg hf.1] at this
    exact this
  · rw [if_neg hf]
    exact tells_same (reduce8_out f (by omega) _ w)
end
end Go.Proofs.Ytbbjkgpilmcldaa.Seq
namespace Go.Proofs.Ytbbjkgpilmcldaa.Seq
open Go.RowKit Go.Maps Go.ChangeShapes Go.Shelf
open Go.Proofs.YtbbjkgpilmcldaaW.PrintWords Go.Proofs.YtbbjkgpilmcldaaW.PrintLast Go.Proofs.YtbbjkgpilmcldaaW.PrintMore
attribute [local go_sem] Oper.semAt_some store_func
set_option linter.unusedVariables false
set_option linter.unusedSimpArgs false
def appA (q0 q3 q4 : Int) (a b bf : List RowT) : List RowT := if wrong q0 q3 q4 = none then (if q0 = 6 then foldA q3 [] a else if q0 = 7 then joinA q3 a b else if q0 = 8 then foldA q3 bf a else []) else []
theorem Tells.up {w W : World} {L : List RowT} {e : Ending} {w' : World} (h : Tells W L e w') (hb : Below w.heap.size w W) : Tells w L e w' := by
  obtain ⟨v, h1, h2, h3⟩ := h
  exact ⟨v, h1, Kd.R_lower h2 hb.size, hb.trans (h3.mono hb.size)⟩
set_option maxHeartbeats 4000000 in
set_option maxRecDepth 100000 in
theorem applyA_calls (q0 q1 q2 q3 q4 : Int) (A0 : Option Addr) (c0 : Nat) (A1 : Option Addr) (c1 : Nat) (A2 : Option Addr) (c2 : Nat) (a b bf : List RowT) (w : World) (h0 : kRow.C w A0 a.length a) (h1 : kRow.C w A1 b.length b) (h2 : kRow.C w A2 bf.length bf) (f0 : rowsFit a) (f1 : rowsFit b) (f2 : rowsFit bf) :
    Calls Try.prog 31 #[.agg #[.int .i64 q0, .int .i64 q1, .int .i64 q2, .int .i64 q3, .int .i64 q4], .slice A0 a.length c0, .slice A1 b.length c1, .slice A2 bf.length c2] w (Tells w (appA q0 q3 q4 a b bf)) := by
  have hblk := World.alloc_heap_new w (.cells #[.int .i64 q0, .int .i64 q1, .int .i64 q2, .int .i64 q3, .int .i64 q4] 54)
  have ha : Below w.heap.size w (w.alloc (.cells #[.int .i64 q0, .int .i64 q1, .int .i64 q2, .int .i64 q3, .int .i64 q4] 54)) := below_alloc (Below.refl _ w) _
  have hz : (w.alloc (.cells #[.int .i64 q0, .int .i64 q1, .int .i64 q2, .int .i64 q3, .int .i64 q4] 54)).heap.size = w.heap.size + 1 := by simp
  have HS := Aside0.mk (And.intro hblk (And.intro ha hz))
  have HC := Aside0.mk (And.intro h0 (And.intro h1 h2))
  have HF := Aside0.mk (And.intro f0 (And.intro f1 f2))
  clear hblk ha hz h0 h1 h2 f0 f1 f2
  obtain ⟨ow, how⟩ : ∃ ow, wrong q0 q3 q4 = ow := ⟨_, rfl⟩
  unfold appA
  have hRt := right_calls q0 q1 q2 q3 q4
  rw [how] at hRt
  have HRt := Aside0.mk hRt
  clear hRt
  rw [how]
  clear how
  cases ow with
  | some p =>
    rw [if_neg (by simp)]
    simp only [rV] at HRt
    go_enter Try.func31, Try.ntmps31
    go_wp2_with (first
      | (go_at_call 45; refine (HRt.out _).mono ?_; rintro e w1 ⟨b1, rfl, hb1⟩))
    go_ret
    exact ⟨_, rfl, RowsAt.nil _ _, HS.out.2.1.trans (hb1.mono HS.out.2.1.size)⟩
  | none =>
    rw [if_pos rfl]
    simp only [rV] at HRt
    have hk : q0 = 6 ∨ q0 = 7 ∨ q0 = 8 ∨ (q0 ≠ 6 ∧ q0 ≠ 7 ∧ q0 ≠ 8) := by omega
    rcases hk with rfl | rfl | rfl | ⟨n6, n7, n8⟩
    · rw [if_pos rfl]
      go_enter Try.func31, Try.ntmps31
      go_wp2_with (first
        | (go_at_call 45; refine (HRt.out _).mono ?_; rintro e w1 ⟨b1, rfl, hb1⟩; have hb2 : Below w.heap.size w w1 := HS.out.2.1.trans (hb1.mono HS.out.2.1.size); have hk1 := (hb1.block w.heap.size (by have := HS.out.2.2; omega)).trans HS.out.1; have k0 := blk_c hk1 0; have k3 := blk_c hk1 3; have HB2 := Aside0.mk hb2; have HCL := Aside0.mk (reduceA_calls q3 A0 c0 a w1 (Kd.C_below HC.out.1 hb2) HF.out.1); clear hk1 hb2)
        | (go_at_call 23; refine HCL.out.mono ?_; rintro e w2 ⟨v, rfl, hR, hb3⟩))
      go_ret
      exact ⟨_, rfl, Kd.R_lower hR HB2.out.size, HB2.out.trans (hb3.mono HB2.out.size)⟩
    · rw [if_neg (by decide), if_pos rfl]
      go_enter Try.func31, Try.ntmps31
      go_wp2_with (first
        | (go_at_call 45; refine (HRt.out _).mono ?_; rintro e w1 ⟨b1, rfl, hb1⟩; have hb2 : Below w.heap.size w w1 := HS.out.2.1.trans (hb1.mono HS.out.2.1.size); have hk1 := (hb1.block w.heap.size (by have := HS.out.2.2; omega)).trans HS.out.1; have k0 := blk_c hk1 0; have k3 := blk_c hk1 3; have HB2 := Aside0.mk hb2; have HCL := Aside0.mk (joinA_calls q3 A0 c0 A1 c1 a b w1 (Kd.C_below HC.out.1 hb2) (Kd.C_below HC.out.2.1 hb2) HF.out.1 HF.out.2.1); clear hk1 hb2)
        | (go_at_call 24; refine HCL.out.mono ?_; rintro e w2 ⟨v, rfl, hR, hb3⟩))
      go_ret
      exact ⟨_, rfl, Kd.R_lower hR HB2.out.size, HB2.out.trans (hb3.mono HB2.out.size)⟩
    · rw [if_neg (by decide), if_neg (by decide), if_pos rfl]
      go_enter Try.func31, Try.ntmps31
      go_wp2_with (first
        | (go_at_call 45; refine (HRt.out _).mono ?_; rintro e w1 ⟨b1, rfl, hb1⟩; have hb2 : Below w.heap.size w w1 := HS.out.2.1.trans (hb1.mono HS.out.2.1.size); have hk1 := (hb1.block w.heap.size (by have := HS.out.2.2; omega)).trans HS.out.1; have k0 := blk_c hk1 0; have k3 := blk_c hk1 3; have HB2 := Aside0.mk hb2; have HCL := Aside0.mk (foldA_calls q3 A2 c2 A0 c0 bf a w1 (Kd.C_below HC.out.2.2 hb2) (Kd.C_below HC.out.1 hb2) HF.out.2.2 HF.out.1); clear hk1 hb2)
        | (go_at_call 19; refine HCL.out.mono ?_; rintro e w2 ⟨v, rfl, hR, hb3⟩))
      go_ret
      exact ⟨_, rfl, Kd.R_lower hR HB2.out.size, HB2.out.trans (hb3.mono HB2.out.size)⟩
    · rw [if_neg n6, if_neg n7, if_neg n8]
      have m6 : (q0 == 6) = false := by rw [beq_eq_false_iff_ne]; exact n6
      have m7 : (q0 == 7) = false := by rw [beq_eq_false_iff_ne]; exact n7
      have m8 : (q0 == 8) = false := by rw [beq_eq_false_iff_ne]; exact n8
      have d6 : decide (q0 = 6) = false := decide_eq_false n6
      have d7 : decide (q0 = 7) = false := decide_eq_false n7
      have d8 : decide (q0 = 8) = false := decide_eq_false n8
      go_enter Try.func31, Try.ntmps31
      go_wp2_with (first
        | (go_at_call 45; refine (HRt.out _).mono ?_; rintro e w1 ⟨b1, rfl, hb1⟩; have hb2 : Below w.heap.size w w1 := HS.out.2.1.trans (hb1.mono HS.out.2.1.size); have hk1 := (hb1.block w.heap.size (by have := HS.out.2.2; omega)).trans HS.out.1; have k0 := blk_c hk1 0; have k3 := blk_c hk1 3; have HB2 := Aside0.mk hb2; clear hk1 hb2))
      go_ret
      exact ⟨_, rfl, RowsAt.nil _ _, HB2.out⟩
set_option maxHeartbeats 4000000 in
set_option maxRecDepth 100000 in
theorem apply8A_calls (q0 q1 q2 q3 q4 : Int) (A0 : Option Addr) (c0 : Nat) (A1 : Option Addr) (c1 : Nat) (A2 : Option Addr) (c2 : Nat) (a b bf : List RowT) (w : World) (h0 : kRow.C w A0 a.length a) (h1 : kRow.C w A1 b.length b) (h2 : kRow.C w A2 bf.length bf) (f0 : rowsFit a) (f1 : rowsFit b) (f2 : rowsFit bf) :
    Calls Try.prog 35 #[.agg #[.int .i64 q0, .int .i64 q1, .int .i64 q2, .int .i64 q3, .int .i64 q4], .slice A0 a.length c0, .slice A1 b.length c1, .slice A2 bf.length c2] w (Tells w (appA q0 q3 q4 a b bf)) := by
  have hblk := World.alloc_heap_new w (.cells #[.int .i64 q0, .int .i64 q1, .int .i64 q2, .int .i64 q3, .int .i64 q4] 54)
  have ha : Below w.heap.size w (w.alloc (.cells #[.int .i64 q0, .int .i64 q1, .int .i64 q2, .int .i64 q3, .int .i64 q4] 54)) := below_alloc (Below.refl _ w) _
  have hz : (w.alloc (.cells #[.int .i64 q0, .int .i64 q1, .int .i64 q2, .int .i64 q3, .int .i64 q4] 54)).heap.size = w.heap.size + 1 := by simp
  have HS := Aside0.mk (And.intro hblk (And.intro ha hz))
  have HC := Aside0.mk (And.intro h0 (And.intro h1 h2))
  have HF := Aside0.mk (And.intro f0 (And.intro f1 f2))
  clear hblk ha hz h0 h1 h2 f0 f1 f2
  obtain ⟨ow, how⟩ : ∃ ow, wrong q0 q3 q4 = ow := ⟨_, rfl⟩
  unfold appA
  have hRt := fun W => PRf.tributaryref3_Right.calls 10 q0 q1 q2 q3 q4 _ W (right2_eq q0 q1 q2 q3 q4 10 (Nat.le_refl _))
  have hwp : ∀ p, wrong q0 q3 q4 = some p → 0 ≤ p := fun p h => (wrong_ge h).1
  unfold wrongP at hRt
  rw [how] at hRt hwp
  have HRt := Aside0.mk hRt
  clear hRt
  rw [how]
  clear how
  cases ow with
  | some p =>
    rw [if_neg (by simp)]
    have hp0 := hwp p rfl
    have hd : decide (0 ≤ p) = true := decide_eq_true hp0
    simp only [Option.getD_some] at HRt
    go_enter Try.func35, Try.ntmps35
    go_wp2_with (first
      | (go_at_call 50; refine (HRt.out _).mono ?_; rintro e w1 ⟨rfl, hb1⟩))
    go_ret
    exact ⟨_, rfl, RowsAt.nil _ _, HS.out.2.1.trans (hb1.mono HS.out.2.1.size)⟩
  | none =>
    rw [if_pos rfl]
    simp only [Option.getD_none] at HRt
    have hk : q0 = 6 ∨ q0 = 7 ∨ q0 = 8 ∨ (q0 ≠ 6 ∧ q0 ≠ 7 ∧ q0 ≠ 8) := by omega
    rcases hk with rfl | rfl | rfl | ⟨n6, n7, n8⟩
    · rw [if_pos rfl]
      go_enter Try.func35, Try.ntmps35
      go_wp2_with (first
        | (go_at_call 50; refine (HRt.out _).mono ?_; rintro e w1 ⟨rfl, hb1⟩; have hb2 : Below w.heap.size w w1 := HS.out.2.1.trans (hb1.mono HS.out.2.1.size); have hk1 := (hb1.block w.heap.size (by have := HS.out.2.2; omega)).trans HS.out.1; have k0 := blk_c hk1 0; have k3 := blk_c hk1 3; have HB2 := Aside0.mk hb2; have HCL := Aside0.mk (reduce8A_calls q3 A0 c0 a w1 (Kd.C_below HC.out.1 hb2) HF.out.1); clear hk1 hb2)
        | (go_at_call 32; refine HCL.out.mono ?_; rintro e w2 ⟨v, rfl, hR, hb3⟩))
      go_ret
      exact ⟨_, rfl, Kd.R_lower hR HB2.out.size, HB2.out.trans (hb3.mono HB2.out.size)⟩
    · rw [if_neg (by decide), if_pos rfl]
      go_enter Try.func35, Try.ntmps35
      go_wp2_with (first
        | (go_at_call 50; refine (HRt.out _).mono ?_; rintro e w1 ⟨rfl, hb1⟩; have hb2 : Below w.heap.size w w1 := HS.out.2.1.trans (hb1.mono HS.out.2.1.size); have hk1 := (hb1.block w.heap.size (by have := HS.out.2.2; omega)).trans HS.out.1; have k0 := blk_c hk1 0; have k3 := blk_c hk1 3; have HB2 := Aside0.mk hb2; have HCL := Aside0.mk (join8A_calls q3 A0 c0 A1 c1 a b w1 (Kd.C_below HC.out.1 hb2) (Kd.C_below HC.out.2.1 hb2) HF.out.1 HF.out.2.1); clear hk1 hb2)
        | (go_at_call 33; refine HCL.out.mono ?_; rintro e w2 ⟨v, rfl, hR, hb3⟩))
      go_ret
      exact ⟨_, rfl, Kd.R_lower hR HB2.out.size, HB2.out.trans (hb3.mono HB2.out.size)⟩
    · rw [if_neg (by decide), if_neg (by decide), if_pos rfl]
      go_enter Try.func35, Try.ntmps35
      go_wp2_with (first
        | (go_at_call 50; refine (HRt.out _).mono ?_; rintro e w1 ⟨rfl, hb1⟩; have hb2 : Below w.heap.size w w1 := HS.out.2.1.trans (hb1.mono HS.out.2.1.size); have hk1 := (hb1.block w.heap.size (by have := HS.out.2.2; omega)).trans HS.out.1; have k0 := blk_c hk1 0; have k3 := blk_c hk1 3; have HB2 := Aside0.mk hb2; have HCL := Aside0.mk (fold8A_calls q3 A2 c2 A0 c0 bf a w1 (Kd.C_below HC.out.2.2 hb2) (Kd.C_below HC.out.1 hb2) HF.out.2.2 HF.out.1); clear hk1 hb2)
        | (go_at_call 34; refine HCL.out.mono ?_; rintro e w2 ⟨v, rfl, hR, hb3⟩))
      go_ret
      exact ⟨_, rfl, Kd.R_lower hR HB2.out.size, HB2.out.trans (hb3.mono HB2.out.size)⟩
    · rw [if_neg n6, if_neg n7, if_neg n8]
      have m6 : (q0 == 6) = false := by rw [beq_eq_false_iff_ne]; exact n6
      have m7 : (q0 == 7) = false := by rw [beq_eq_false_iff_ne]; exact n7
      have m8 : (q0 == 8) = false := by rw [beq_eq_false_iff_ne]; exact n8
      have d6 : decide (q0 = 6) = false := decide_eq_false n6
      have d7 : decide (q0 = 7) = false := decide_eq_false n7
      have d8 : decide (q0 = 8) = false := decide_eq_false n8
      go_enter Try.func35, Try.ntmps35
      go_wp2_with (first
        | (go_at_call 50; refine (HRt.out _).mono ?_; rintro e w1 ⟨rfl, hb1⟩; have hb2 : Below w.heap.size w w1 := HS.out.2.1.trans (hb1.mono HS.out.2.1.size); have hk1 := (hb1.block w.heap.size (by have := HS.out.2.2; omega)).trans HS.out.1; have k0 := blk_c hk1 0; have k3 := blk_c hk1 3; have HB2 := Aside0.mk hb2; clear hk1 hb2))
      go_ret
      exact ⟨_, rfl, RowsAt.nil _ _, HB2.out⟩
end Go.Proofs.Ytbbjkgpilmcldaa.Seq
