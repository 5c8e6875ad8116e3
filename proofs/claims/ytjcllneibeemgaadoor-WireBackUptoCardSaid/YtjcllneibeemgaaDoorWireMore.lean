/- Proved: the contracts of wire.ReadID and wire.ReadRows; condition: bytes are bytes. -/
import Derived.Test.YtjcllneibeemgaaDoorWire
namespace Go.Proofs.YtjcllneibeemgaaDoor.PFn
open Go.RowKit Go.Proofs.YtjcllneibeemgaaDoorW.PrintWords Go.Proofs.YtjcllneibeemgaaDoorW.PrintLast Go.Proofs.YtjcllneibeemgaaDoorW.PrintMore Go.Proofs.YtjcllneibeemgaaDoor.Err
attribute [local go_sem] max2_int min2_int max_two min_two max_three min_three max_four min_four
set_option linter.unusedVariables false
set_option linter.unusedSimpArgs false
theorem werr_no {w : World} {a e : Int} {v : Value} (h : IsErr? w (werr a e) v) (he : e = 0) : v = .nilIface := by
  unfold werr at h; rw [if_pos he] at h; exact h
theorem werr_yes {w : World} {a e : Int} {v : Value} (h : IsErr? w (werr a e) v) (he : e ≠ 0) : IsErr w (.fault wireS a (.num e)) v := by
  unfold werr at h; rw [if_neg he] at h; exact h
theorem werr_put {w : World} {a e : Int} {v : Value} (h : IsErr w (.fault wireS a (.num e)) v) (he : e ≠ 0) : IsErr? w (werr a e) v := by
  unfold werr; rw [if_neg he]; exact h
theorem IsErr_set {w : World} {x : Er} {v : Value} (h : IsErr w x v) {B j : Nat} {u : Value} {cs : Array Value} {t : TypeId} (hp : w.heap[B]? = some (.cells cs t (0, 0))) (ht : t ≠ 61) : IsErr (w.setCell ⟨B, j, none⟩ u) x v :=
  h.step fun b cs' hb => by
    have hne : b ≠ B := by
      rintro rfl
      rw [hb] at hp
      simp only [Option.some.injEq, Obj.cells.injEq] at hp
      exact ht hp.2.1.symm
    rw [Below.heap_setCell w ⟨B, j, none⟩ u b hne]; exact hb
theorem facts3 {W : World} {B : Nat} {t : TypeId} {v0 v1 v2 : Value} (h : W.heap[B]? = some (.cells #[v0, v1, v2] t (0, 0))) :
    W.cell? ⟨B, 0, none⟩ = some v0 ∧ W.cell? ⟨B, 1, none⟩ = some v1 ∧ W.cell? ⟨B, 2, none⟩ = some v2 ∧ W.frozen? ⟨B, 0, none⟩ = false ∧ W.frozen? ⟨B, 1, none⟩ = false ∧ W.frozen? ⟨B, 2, none⟩ = false ∧ B < W.heap.size := by
  refine ⟨blk_cell h 0 _ rfl, blk_cell h 1 _ rfl, blk_cell h 2 _ rfl, ?_, ?_, ?_, (Array.getElem?_eq_some_iff.1 h).1⟩ <;> simp [World.frozen?, h]
theorem set3 {W : World} {B : Nat} {t : TypeId} {v0 v1 v2 : Value} (h : W.heap[B]? = some (.cells #[v0, v1, v2] t (0, 0))) (u : Value) :
    (W.setCell ⟨B, 0, none⟩ u).heap[B]? = some (.cells #[u, v1, v2] t (0, 0)) ∧ (W.setCell ⟨B, 1, none⟩ u).heap[B]? = some (.cells #[v0, u, v2] t (0, 0)) ∧ (W.setCell ⟨B, 2, none⟩ u).heap[B]? = some (.cells #[v0, v1, u] t (0, 0)) := by
  refine ⟨?_, ?_, ?_⟩ <;> rw [heap_setCell_same _ _ _ _ _ _ h] <;> simp [Array.setIfInBounds]

def readID (l : List Int) (a : Int) : Int × Int × Int × Int × Int × Int :=
  if (readI l a).2.2 ≠ 0 then (0, 0, 0, 0, (readI l a).2.2, a)
  else if (readI l (readI l a).2.1).2.2 ≠ 0 then (0, 0, 0, 0, (readI l (readI l a).2.1).2.2, (readI l a).2.1)
  else if (readI l (readI l (readI l a).2.1).2.1).2.2 ≠ 0 then (0, 0, 0, 0, (readI l (readI l (readI l a).2.1).2.1).2.2, (readI l (readI l a).2.1).2.1)
  else ((readI l a).1, (readI l (readI l a).2.1).1, (readI l (readI l (readI l a).2.1).2.1).1, (readI l (readI l (readI l a).2.1).2.1).2.1, 0, 0)

set_option maxHeartbeats 8000000 in
set_option maxRecDepth 100000 in
theorem readID_calls (A0 : Option Addr) (c0 : Nat) (l0 : List Int) (a1 : Int) (w : World) (hr0 : Kd.C (Kd.int .u8) w A0 l0.length l0) (hc0 : l0.length ≤ c0) (hl : l0.length ≤ 4611686018427387904) (hbyte : ∀ x ∈ l0, 0 ≤ x ∧ x ≤ 255) (R : Int × Int × Int × Int × Int × Int) (hR : readID l0 a1 = R) :
    Calls Tryd.prog 18 #[.slice A0 l0.length c0, .int .i64 a1] w fun e w' => ∃ v, e = .returned (.tuple #[.agg #[.int .i64 R.1, .int .i64 R.2.1, .int .i64 R.2.2.1], .int .i64 R.2.2.2.1, v]) ∧ IsErr? w' (werr R.2.2.2.2.2 R.2.2.2.2.1) v ∧ Below w.heap.size w w' ∧ ErrNew w.heap.size v := by
  have HR := Aside0.mk hr0
  have HBY := Aside0.mk hbyte
  have HRR := Aside0.mk hR
  clear hr0 hbyte hR
  go_enter Tryd.func18, Tryd.ntmps18
  go_wp2
  refine wp_loop_rounds 4 ?_
  rw [rounds_succ]
  go_wp2_with fail
  refine (readInt_calls _ _ l0 _ _ ?c1 hc0 hl HBY.out).mono ?_
  case c1 => exact Kd.C_alloc (Kd.C_alloc HR.out _) _
  rintro e w1 ⟨v, rfl, hE, hb, hN⟩
  have X1 := Aside0.mk ((hb.block w.heap.size (by simp; omega)).trans ((Below.heap_alloc _ _ w.heap.size (by simp)).trans (heap_alloc_new w _)))
  have P1 := Aside0.mk ((hb.block (w.heap.size + 1) (by simp)).trans (show _ = some _ from by have := heap_alloc_new (w.alloc (Obj.cells #[Value.int IntKind.i64 0, Value.int IntKind.i64 0, Value.int IntKind.i64 0] 41)) (Obj.cells #[Value.pointer (some ⟨w.heap.size, 0, none⟩), Value.pointer (some ⟨w.heap.size, 1, none⟩), Value.pointer (some ⟨w.heap.size, 2, none⟩)] 63); rw [World.size_alloc] at this; exact this))
  have HB1 := Aside0.mk (show Below w.heap.size w w1 from ((((Below.refl _ _).alloc (Nat.le_refl _) _).alloc (by simp) _).trans (hb.mono (by simp; omega))))
  clear hb
  have HRR2 := HRR.out
  clear HRR
  unfold readID at HRR2
  obtain ⟨k0, k1, k2, f0, f1, f2, zB⟩ := facts3 X1.out
  obtain ⟨p0, p1, p2, _, _, _, zP⟩ := facts3 P1.out
  by_cases h1 : (readI l0 a1).2.2 ≠ 0
  · rw [if_pos h1] at HRR2
    subst HRR2
    have HE := Aside0.mk (werr_yes hE h1)
    have HH1 := Aside0.mk h1
    obtain ⟨tt, uu, rfl⟩ := HE.out.ne_nil
    clear hE h1
    go_wp2
    have x2 := (set3 X1.out (.int .i64 (readI l0 a1).1)).1
    have x3 := (set3 x2 (.int .i64 0)).1
    have x4 := (set3 x3 (.int .i64 0)).2.1
    refine bodyPost_ret (v := .tuple #[.agg #[.int .i64 0, .int .i64 0, .int .i64 0], .int .i64 0, .iface tt uu]) (by simp [results, Tryd.results18, go_sem, k0, k1, k2]) rfl ⟨_, rfl, werr_put (IsErr_set (IsErr_set (IsErr_set (IsErr_set HE.out X1.out (by decide)) x2 (by decide)) x3 (by decide)) x4 (by decide)) HH1.out, ?_, hN.le (by simp; omega)⟩
    exact (((HB1.out.setCell (Nat.le_refl _) _).setCell (Nat.le_refl _) _).setCell (Nat.le_refl _) _).setCell (Nat.le_refl _) _
  · have h1' : (readI l0 a1).2.2 = 0 := by simpa using h1
    rw [if_neg h1] at HRR2
    obtain rfl := werr_no hE h1'
    clear hE h1 h1'
    obtain ⟨n1, hn1⟩ : ∃ n, n = (readI l0 a1).1 := ⟨_, rfl⟩
    obtain ⟨a2, ha2⟩ : ∃ a, a = (readI l0 a1).2.1 := ⟨_, rfl⟩
    rw [← hn1, ← ha2] at HRR2
    rw [← hn1, ← ha2]
    clear hn1 ha2
    have HRR3 := Aside0.mk HRR2
    clear HRR2
    have X2 := Aside0.mk (set3 X1.out (.int .i64 n1)).1
    have P2 := Aside0.mk ((Below.heap_setCell w1 ⟨w.heap.size, 0, none⟩ (.int .i64 n1) (w.heap.size + 1) (by simp)).trans P1.out)
    have HB2 := Aside0.mk (HB1.out.setCell (p := ⟨w.heap.size, 0, none⟩) (Nat.le_refl _) (.int .i64 n1))
    go_wp2_with fail
    rw [rounds_succ]
    go_wp2_with fail
    clear k0 k1 k2 f0 f1 f2 zB p0 p1 p2 zP X1 P1 HB1
    generalize w1.setCell ⟨w.heap.size, 0, none⟩ (.int .i64 n1) = W1 at X2 P2 HB2 ⊢
    refine (readInt_calls _ _ l0 _ _ ?c2 hc0 hl HBY.out).mono ?_
    case c2 => exact Kd.C_below HR.out HB2.out
    rintro e w2 ⟨v, rfl, hE, hb, hN⟩
    have X3 := Aside0.mk ((hb.block w.heap.size (Array.getElem?_eq_some_iff.1 X2.out).1).trans X2.out)
    have P3 := Aside0.mk ((hb.block (w.heap.size + 1) (Array.getElem?_eq_some_iff.1 P2.out).1).trans P2.out)
    have HB3 := Aside0.mk (HB2.out.trans (hb.mono HB2.out.size))
    have HZ1 := Aside0.mk HB2.out.size
    clear hb X2 P2 HB2
    have HRR2 := HRR3.out
    clear HRR3
    obtain ⟨k0, k1, k2, f0, f1, f2, zB⟩ := facts3 X3.out
    obtain ⟨p0, p1, p2, _, _, _, zP⟩ := facts3 P3.out
    by_cases h1 : (readI l0 a2).2.2 ≠ 0
    · rw [if_pos h1] at HRR2
      subst HRR2
      have HE := Aside0.mk (werr_yes hE h1)
      have HH1 := Aside0.mk h1
      obtain ⟨tt, uu, rfl⟩ := HE.out.ne_nil
      clear hE h1
      go_wp2
      have x2 := (set3 X3.out (.int .i64 (readI l0 a2).1)).2.1
      have x3 := (set3 x2 (.int .i64 0)).1
      have x4 := (set3 x3 (.int .i64 0)).2.1
      refine bodyPost_ret (v := .tuple #[.agg #[.int .i64 0, .int .i64 0, .int .i64 0], .int .i64 0, .iface tt uu]) (by simp [results, Tryd.results18, go_sem, k0, k1, k2]) rfl ⟨_, rfl, werr_put (IsErr_set (IsErr_set (IsErr_set (IsErr_set HE.out X3.out (by decide)) x2 (by decide)) x3 (by decide)) x4 (by decide)) HH1.out, ?_, hN.le HZ1.out⟩
      exact (((HB3.out.setCell (Nat.le_refl _) _).setCell (Nat.le_refl _) _).setCell (Nat.le_refl _) _).setCell (Nat.le_refl _) _
    · have h1' : (readI l0 a2).2.2 = 0 := by simpa using h1
      rw [if_neg h1] at HRR2
      obtain rfl := werr_no hE h1'
      clear hE h1 h1'
      obtain ⟨n2, hn2⟩ : ∃ n, n = (readI l0 a2).1 := ⟨_, rfl⟩
      obtain ⟨a3, ha3⟩ : ∃ a, a = (readI l0 a2).2.1 := ⟨_, rfl⟩
      rw [← hn2, ← ha3] at HRR2
      rw [← hn2, ← ha3]
      clear hn2 ha3
      have HRR3 := Aside0.mk HRR2
      clear HRR2
      have X4 := Aside0.mk (set3 X3.out (.int .i64 n2)).2.1
      have P4 := Aside0.mk ((Below.heap_setCell w2 ⟨w.heap.size, 1, none⟩ (.int .i64 n2) (w.heap.size + 1) (by simp)).trans P3.out)
      have HB4 := Aside0.mk (HB3.out.setCell (p := ⟨w.heap.size, 1, none⟩) (Nat.le_refl _) (.int .i64 n2))
      go_wp2_with fail
      rw [rounds_succ]
      go_wp2_with fail
      clear k0 k1 k2 f0 f1 f2 zB p0 p1 p2 zP X3 P3 HB3
      generalize w2.setCell ⟨w.heap.size, 1, none⟩ (.int .i64 n2) = W2 at X4 P4 HB4 ⊢
      refine (readInt_calls _ _ l0 _ _ ?c3 hc0 hl HBY.out).mono ?_
      case c3 => exact Kd.C_below HR.out HB4.out
      rintro e w3 ⟨v, rfl, hE, hb, hN⟩
      have X5 := Aside0.mk ((hb.block w.heap.size (Array.getElem?_eq_some_iff.1 X4.out).1).trans X4.out)
      have P5 := Aside0.mk ((hb.block (w.heap.size + 1) (Array.getElem?_eq_some_iff.1 P4.out).1).trans P4.out)
      have HB5 := Aside0.mk (HB4.out.trans (hb.mono HB4.out.size))
      have HZ2 := Aside0.mk HB4.out.size
      clear hb X4 P4 HB4
      have HRR2 := HRR3.out
      clear HRR3
      obtain ⟨k0, k1, k2, f0, f1, f2, zB⟩ := facts3 X5.out
      obtain ⟨p0, p1, p2, _, _, _, zP⟩ := facts3 P5.out
      by_cases h1 : (readI l0 a3).2.2 ≠ 0
      · rw [if_pos h1] at HRR2
        subst HRR2
        have HE := Aside0.mk (werr_yes hE h1)
        have HH1 := Aside0.mk h1
        obtain ⟨tt, uu, rfl⟩ := HE.out.ne_nil
        clear hE h1
        go_wp2
        have x2 := (set3 X5.out (.int .i64 (readI l0 a3).1)).2.2
        have x3 := (set3 x2 (.int .i64 0)).1
        have x4 := (set3 x3 (.int .i64 0)).2.1
        refine bodyPost_ret (v := .tuple #[.agg #[.int .i64 0, .int .i64 0, .int .i64 0], .int .i64 0, .iface tt uu]) (by simp [results, Tryd.results18, go_sem, k0, k1, k2]) rfl ⟨_, rfl, werr_put (IsErr_set (IsErr_set (IsErr_set (IsErr_set HE.out X5.out (by decide)) x2 (by decide)) x3 (by decide)) x4 (by decide)) HH1.out, ?_, hN.le HZ2.out⟩
        exact (((HB5.out.setCell (Nat.le_refl _) _).setCell (Nat.le_refl _) _).setCell (Nat.le_refl _) _).setCell (Nat.le_refl _) _
      · have h1' : (readI l0 a3).2.2 = 0 := by simpa using h1
        rw [if_neg h1] at HRR2
        obtain rfl := werr_no hE h1'
        clear hE h1 h1'
        subst HRR2
        go_wp2_with fail
        rw [rounds_succ]
        go_wp2
        refine bodyPost_ret (v := .tuple #[.agg #[.int .i64 n1, .int .i64 n2, .int .i64 (readI l0 a3).1], .int .i64 (readI l0 a3).2.1, .nilIface]) (by simp [results, Tryd.results18, go_sem, k0, k1, k2]) rfl ⟨_, rfl, rfl, ?_, ErrNew.nil⟩
        exact (((HB5.out.setCell (Nat.le_refl _) _).setCell (Nat.le_refl _) _).setCell (Nat.le_refl _) _).setCell (Nat.le_refl _) _

theorem facts2 {W : World} {B : Nat} {t : TypeId} {v0 v1 : Value} (h : W.heap[B]? = some (.cells #[v0, v1] t (0, 0))) :
    W.cell? ⟨B, 0, none⟩ = some v0 ∧ W.cell? ⟨B, 1, none⟩ = some v1 ∧ W.frozen? ⟨B, 0, none⟩ = false ∧ W.frozen? ⟨B, 1, none⟩ = false ∧ B < W.heap.size := by
  refine ⟨blk_cell h 0 _ rfl, blk_cell h 1 _ rfl, ?_, ?_, (Array.getElem?_eq_some_iff.1 h).1⟩ <;> simp [World.frozen?, h]
theorem set2 {W : World} {B : Nat} {t : TypeId} {v0 v1 : Value} (h : W.heap[B]? = some (.cells #[v0, v1] t (0, 0))) (u : Value) :
    (W.setCell ⟨B, 0, none⟩ u).heap[B]? = some (.cells #[u, v1] t (0, 0)) ∧ (W.setCell ⟨B, 1, none⟩ u).heap[B]? = some (.cells #[v0, u] t (0, 0)) := by
  refine ⟨?_, ?_⟩ <;> rw [heap_setCell_same _ _ _ _ _ _ h] <;> simp [Array.setIfInBounds]
theorem info56r : (Tryd.prog.info? 56).map (fun i => (i.zero, i.size, i.bytes)) = some (some (.agg #[(.int .i64 0), (.int .i64 0)]), 2, 16) := by kernel_rfl

/-- Rows that are read: the rows, the place behind, the error (0: none), its place. -/
def rowsGo (l : List Int) : Nat → List S56 → Int → List S56 × Int × Int × Int
  | 0, acc, p => (acc, p, 0, 0)
  | m + 1, acc, p =>
    if (readI l p).2.2 ≠ 0 then ([], 0, (readI l p).2.2, p)
    else if (readI l (readI l p).2.1).2.2 ≠ 0 then ([], 0, (readI l (readI l p).2.1).2.2, (readI l p).2.1)
    else rowsGo l m (acc ++ [⟨(readI l p).1, (readI l (readI l p).2.1).1⟩]) (readI l (readI l p).2.1).2.1
def readRows (l : List Int) (a : Int) : List S56 × Int × Int × Int :=
  if (readI l a).2.2 ≠ 0 then ([], 0, (readI l a).2.2, a)
  else if (readI l a).1 < 0 then ([], 0, 12, a)
  else if 64 < (readI l a).1 then ([], 0, 2, a)
  else rowsGo l (readI l a).1.toNat [] (readI l a).2.1

set_option maxHeartbeats 8000000 in
set_option maxRecDepth 100000 in
theorem readRows_calls (A0 : Option Addr) (c0 : Nat) (l0 : List Int) (a1 : Int) (w : World) (hr0 : Kd.C (Kd.int .u8) w A0 l0.length l0) (hc0 : l0.length ≤ c0) (hl : l0.length ≤ 4611686018427387904) (hbyte : ∀ x ∈ l0, 0 ≤ x ∧ x ≤ 255) (R : List S56 × Int × Int × Int) (hR : readRows l0 a1 = R) :
    Calls Tryd.prog 17 #[.slice A0 l0.length c0, .int .i64 a1] w fun e w' => ∃ v0 v, e = .returned (.tuple #[v0, .int .i64 R.2.1, v]) ∧ Kd.R k56 56 w' w.heap.size (fun _ => True) v0 R.1 ∧ IsErr? w' (werr R.2.2.2 R.2.2.1) v ∧ Below w.heap.size w w' ∧ ErrNew w.heap.size v := by
  have HR := Aside0.mk hr0
  have HBY := Aside0.mk hbyte
  have HRR := Aside0.mk hR
  clear hr0 hbyte hR
  go_enter Tryd.func17, Tryd.ntmps17
  go_wp2_with fail
  refine (readInt_calls _ _ l0 _ _ HR.out hc0 hl HBY.out).mono ?_
  rintro e w1 ⟨v, rfl, hE, hb, hN⟩
  have HB1 := Aside0.mk hb
  have HRR2 := HRR.out
  clear HRR hb
  unfold readRows at HRR2
  by_cases h1 : (readI l0 a1).2.2 ≠ 0
  · rw [if_pos h1] at HRR2
    subst HRR2
    have HE := Aside0.mk (werr_put (werr_yes hE h1) h1)
    obtain ⟨tt, uu, rfl⟩ := (werr_yes hE h1).ne_nil
    clear hE h1
    go_wp2
    go_ret3
    exact ⟨_, _, rfl, Kd.R_nil _ _ _ _ _, HE.out, HB1.out, hN⟩
  have h1' : (readI l0 a1).2.2 = 0 := by simpa using h1
  rw [if_neg h1] at HRR2
  obtain rfl := werr_no hE h1'
  clear hE h1 h1'
  obtain ⟨n, hn⟩ : ∃ n, n = (readI l0 a1).1 := ⟨_, rfl⟩
  obtain ⟨a2, ha2⟩ : ∃ a, a = (readI l0 a1).2.1 := ⟨_, rfl⟩
  rw [← hn, ← ha2] at HRR2
  rw [← hn, ← ha2]
  clear hn ha2
  by_cases hneg : n < 0
  · rw [if_pos hneg] at HRR2
    subst HRR2
    have d1 : decide (n < 0) = true := decide_eq_true hneg
    go_wp2_with (first | (go_at_call 23; refine (fault_calls _ _ _).mono ?_; rintro e w' ⟨v, rfl, hE, hb, hN⟩))
    go_ret3
    exact ⟨_, _, rfl, Kd.R_nil _ _ _ _ _, werr_put hE (by decide), HB1.out.trans (hb.mono HB1.out.size), hN.le HB1.out.size⟩
  rw [if_neg hneg] at HRR2
  have d1 : decide (n < 0) = false := decide_eq_false hneg
  by_cases hbig : 64 < n
  · rw [if_pos hbig] at HRR2
    subst HRR2
    have d2 : decide (64 < n) = true := decide_eq_true hbig
    go_wp2_with (first | (go_at_call 23; refine (fault_calls _ _ _).mono ?_; rintro e w' ⟨v, rfl, hE, hb, hN⟩))
    go_ret3
    exact ⟨_, _, rfl, Kd.R_nil _ _ _ _ _, werr_put hE (by decide), HB1.out.trans (hb.mono HB1.out.size), hN.le HB1.out.size⟩
  rw [if_neg hbig] at HRR2
  have d2 : decide (64 < n) = false := decide_eq_false hbig
  obtain ⟨m, rfl⟩ := Int.eq_ofNat_of_zero_le (show 0 ≤ n by omega)
  rw [Int.toNat_natCast] at HRR2
  have HRR3 := Aside0.mk HRR2
  have hm : m ≤ 64 := by omega
  clear HRR2
  go_wp2
  go_loopg [4, 5, 32] m (fun kq v4 v5 v32 wr => ∃ (acc : List S56) (p : Int) (i : Nat), v5 = .int .i64 p ∧ v32 = .int .i64 (i : Int) ∧ i ≤ m ∧ acc.length ≤ i ∧ Aside0 (Kd.R k56 56 wr w.heap.size (fun _ => True) v4 acc) ∧ Aside0 (rowsGo l0 (m - i) acc p = R) ∧ Aside0 (Below w.heap.size w wr) ∧ m - i ≤ kq)
  case atStart => exact ⟨[], a2, 0, rfl, rfl, by omega, by simp, ⟨Kd.R_nil _ _ _ _ _⟩, ⟨HRR3.out⟩, ⟨HB1.out⟩, by omega⟩
  case round =>
    clear HRR3 HB1
    obtain ⟨acc, p, i, rfl, rfl, him, hacc, HO, HG, HB, hkq⟩ := hrel
    by_cases hi : i < m
    · have hrow : acc.length < 8796093022208 := by omega
      have X0 := Aside0.mk (heap_alloc_new wr (Obj.cells #[Value.int IntKind.i64 0, Value.int IntKind.i64 0] 62))
      have HBA := Aside0.mk (HB.out.alloc HB.out.size (Obj.cells #[Value.int IntKind.i64 0, Value.int IntKind.i64 0] 62))
      have HOA := Aside0.mk (Kd.R_alloc HO.out (Obj.cells #[Value.int IntKind.i64 0, Value.int IntKind.i64 0] 62))
      have HS := Aside0.mk HB.out.size
      go_wp2
      clear HB HO
      generalize hA : wr.heap.size = A at X0 HS ⊢
      generalize wr.alloc (Obj.cells #[Value.int IntKind.i64 0, Value.int IntKind.i64 0] 62) = W0 at X0 HBA HOA ⊢
      clear hA
      refine wp_loop_rounds 3 ?_
      rw [rounds_succ]
      go_wp2_with fail
      refine (readInt_calls _ _ l0 _ _ ?c1 hc0 hl HBY.out).mono ?_
      case c1 => exact Kd.C_below HR.out HBA.out
      rintro e w2 ⟨v, rfl, hE, hb, hN⟩
      have X1 := Aside0.mk ((hb.block A (Array.getElem?_eq_some_iff.1 X0.out).1).trans X0.out)
      have HB2 := Aside0.mk (HBA.out.trans (hb.mono HBA.out.size))
      have HZ := Aside0.mk HBA.out.size
      have HO2 := Aside0.mk (Kd.R_below HOA.out hb)
      clear hb X0 HBA HOA
      have HG2 := HG.out
      clear HG
      rw [show m - i = (m - (i + 1)) + 1 by omega] at HG2
      simp only [rowsGo] at HG2
      obtain ⟨k0, k1, f0, f1, zA⟩ := facts2 X1.out
      by_cases h1 : (readI l0 p).2.2 ≠ 0
      · rw [if_pos h1] at HG2
        subst HG2
        have HE := Aside0.mk (werr_yes hE h1)
        have HH1 := Aside0.mk h1
        obtain ⟨tt, uu, rfl⟩ := HE.out.ne_nil
        clear hE h1
        go_wp2
        go_ret3
        exact ⟨_, _, rfl, Kd.R_nil _ _ _ _ _, werr_put (IsErr_set HE.out X1.out (by decide)) HH1.out, HB2.out.setCell (p := ⟨A, 0, none⟩) HS.out _, hN.le HZ.out⟩
      have h1' : (readI l0 p).2.2 = 0 := by simpa using h1
      rw [if_neg h1] at HG2
      obtain rfl := werr_no hE h1'
      clear hE h1 h1'
      obtain ⟨n1, hn1⟩ : ∃ n, n = (readI l0 p).1 := ⟨_, rfl⟩
      obtain ⟨a3, ha3⟩ : ∃ a, a = (readI l0 p).2.1 := ⟨_, rfl⟩
      rw [← hn1, ← ha3] at HG2
      rw [← hn1, ← ha3]
      clear hn1 ha3
      have HG := Aside0.mk HG2
      clear HG2
      have X2 := Aside0.mk (set2 X1.out (.int .i64 n1)).1
      have HB3 := Aside0.mk (HB2.out.setCell (p := ⟨A, 0, none⟩) HS.out (.int .i64 n1))
      have HO3 := Aside0.mk (Kd.R_set HO2.out X1.out (by decide) 0 (.int .i64 n1))
      go_wp2_with fail
      rw [rounds_succ]
      go_wp2_with fail
      clear k0 k1 f0 f1 zA X1 HB2 HO2
      generalize w2.setCell ⟨A, 0, none⟩ (.int .i64 n1) = W2 at X2 HB3 HO3 ⊢
      refine (readInt_calls _ _ l0 _ _ ?c2 hc0 hl HBY.out).mono ?_
      case c2 => exact Kd.C_below HR.out HB3.out
      rintro e w3 ⟨v, rfl, hE, hb, hN⟩
      have X3 := Aside0.mk ((hb.block A (Array.getElem?_eq_some_iff.1 X2.out).1).trans X2.out)
      have HB4 := Aside0.mk (HB3.out.trans (hb.mono HB3.out.size))
      have HZ2 := Aside0.mk HB3.out.size
      have HO4 := Aside0.mk (Kd.R_below HO3.out hb)
      clear hb X2 HB3 HO3
      have HG2 := HG.out
      clear HG
      obtain ⟨k0, k1, f0, f1, zA⟩ := facts2 X3.out
      by_cases h1 : (readI l0 a3).2.2 ≠ 0
      · rw [if_pos h1] at HG2
        subst HG2
        have HE := Aside0.mk (werr_yes hE h1)
        have HH1 := Aside0.mk h1
        obtain ⟨tt, uu, rfl⟩ := HE.out.ne_nil
        clear hE h1
        go_wp2
        go_ret3
        exact ⟨_, _, rfl, Kd.R_nil _ _ _ _ _, werr_put (IsErr_set HE.out X3.out (by decide)) HH1.out, HB4.out.setCell (p := ⟨A, 1, none⟩) HS.out _, hN.le HZ2.out⟩
      have h1' : (readI l0 a3).2.2 = 0 := by simpa using h1
      rw [if_neg h1] at HG2
      obtain rfl := werr_no hE h1'
      clear hE h1 h1'
      obtain ⟨n2, hn2⟩ : ∃ n, n = (readI l0 a3).1 := ⟨_, rfl⟩
      obtain ⟨a4, ha4⟩ : ∃ a, a = (readI l0 a3).2.1 := ⟨_, rfl⟩
      rw [← hn2, ← ha4] at HG2
      rw [← hn2, ← ha4]
      clear hn2 ha4
      have HG := Aside0.mk HG2
      clear HG2
      have X4 := Aside0.mk (set2 X3.out (.int .i64 n2)).2
      have HB5 := Aside0.mk (HB4.out.setCell (p := ⟨A, 1, none⟩) HS.out (.int .i64 n2))
      have HO5 := Aside0.mk (Kd.R_set HO4.out X3.out (by decide) 1 (.int .i64 n2))
      go_wp2_with fail
      rw [rounds_succ]
      clear k0 k1 f0 f1 zA X3 HB4 HO4
      generalize w3.setCell ⟨A, 1, none⟩ (.int .i64 n2) = W4 at X4 HB5 HO5 ⊢
      obtain ⟨k0, k1, f0, f1, zA⟩ := facts2 X4.out
      go_wp2_with (first | ((with_reducible refine gate_builtin (b := .append) (xs := #[.tmp 50, .tmp 56]) rfl ?_); at_builtin; refine Kd.R_append k56 (w0 := w) w.heap.size rfl (.tmp 50) (.tmp 56) 34 56 (.agg #[(.int .i64 0), (.int .i64 0)]) 16 rfl Tryd.underlying34 info56r rfl (by decide) (by omega) u4 acc (⟨n1, n2⟩ : S56) [.int .i64 n1, .int .i64 n2] (fun _ => True) (fun _ => False) rfl rfl ?aP (fun _ hk => hk.elim) ?aF ?aO ?aB ?aS ?aL ?_; (case aP => exact k56_mkM _ _ _ (⟨n1, n2⟩ : S56)); (case aB => exact HB5.out); (case aF => exact fun _ _ => trivial); (case aO => exact HO5.out); (case aS => exact HB5.out.size); (case aL => omega); intro v1 w5 ho hb hg hat))
      go_roundg (gk - 1)
      case measure => omega
      case rel => exact ⟨acc ++ [⟨n1, n2⟩], a4, i + 1, rfl, by go_num, by omega, by simp; omega, ⟨ho⟩, ⟨HG.out⟩, ⟨hb⟩, by omega⟩
    · have hz : m - i = 0 := by omega
      have HG2 := HG.out
      rw [hz] at HG2
      simp only [rowsGo] at HG2
      subst HG2
      clear HG hz
      go_wp2
      go_ret3
      exact ⟨_, _, rfl, HO.out, rfl, HB.out, ErrNew.nil⟩

end Go.Proofs.YtjcllneibeemgaaDoor.PFn
