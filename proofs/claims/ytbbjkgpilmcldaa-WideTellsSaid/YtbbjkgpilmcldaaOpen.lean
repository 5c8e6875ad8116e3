/- Proved: whatever reads as data of a type reads as a value of the printed kind of that type (integers, bools, strings, structs, slices, each in each). -/
import Derived.Test.YtbbjkgpilmcldaaWWords
import Derived.ChangeArms
import Derived.Deep.Slices
import Derived.ProofKit
import Derived.SizedLaws
import Derived.RowKit3
namespace Go.Proofs.YtbbjkgpilmcldaaW.Open
open Go.RowKit Go.ChangeShapes Go.WideShapes Go.Proofs.YtbbjkgpilmcldaaW.PrintWords

/-- Data of type t reads as a value of kind d that meets Q. -/
def Opens {α : Type} (P : Program) (t : TypeId) (d : Kd α) (Q : α → Prop) : Prop :=
  P.cellsOf t = d.sz ∧ ∀ {H : Type} (enc : TypeId × Value → H) (w : World) (base : Nat) (spare : Nat → Bool) (held : Bool) (fuel : Nat) (cs : List Value) (x : DataW H × List MemPlace),
    DataW.trod enc P w base spare held fuel t cs = some x → ∃ y, d.K w y cs ∧ Q y

theorem opens_int {P : Program} {t : TypeId} {k : IntKind} (hu : P.underlying t = some (.int k)) (hc : P.cellsOf t = 1) : Opens P t (Kd.int k) (fun n => (Lit.int k n).wf = true) :=
  ⟨hc, fun enc w base spare held fuel cs x h => by
    obtain ⟨n, rfl, rfl, hw⟩ := DataW.trod_int hu h
    exact ⟨n, rfl, hw⟩⟩
theorem opens_bool {P : Program} {t : TypeId} (hu : P.underlying t = some .bool) (hc : P.cellsOf t = 1) : Opens P t Kd.bool (fun _ => True) :=
  ⟨hc, fun enc w base spare held fuel cs x h => by
    obtain ⟨b, rfl, rfl⟩ := DataW.trod_bool hu h
    exact ⟨b, rfl, trivial⟩⟩
theorem opens_string {P : Program} {t : TypeId} (hu : P.underlying t = some .string) (hc : P.cellsOf t = 1) : Opens P t Kd.string (fun s => s.size ≤ maxLen) :=
  ⟨hc, fun enc w base spare held fuel cs x h => by
    obtain ⟨s, rfl, rfl, hs⟩ := DataW.trod_string hu h
    exact ⟨s, rfl, hs⟩⟩

theorem cells?_each {w : World} {base : Nat} {a : Addr} {n : Nat} {cs : List Value} (h : w.cells? base a n = some cs) : cs.length = n ∧ ∀ i u, cs[i]? = some u → w.cell? (a.add i) = some u := by
  unfold World.cells? at h
  split at h
  · have hl := mapM_some_length h
    have hl' : cs.length = n := by simpa using hl
    refine ⟨hl', fun i u hu => ?_⟩
    have hi : i < n := by
      have := (List.getElem?_eq_some_iff.1 hu).1
      omega
    have := mapM_some_get h i i (by simp [hi])
    rw [this, hu]
  · cases h

theorem opens_slice {P : Program} {t e : TypeId} {α : Type} {d : Kd α} {Q : α → Prop} (hu : P.underlying t = some (.slice e)) (hc : P.cellsOf t = 1) (he : Opens P e d Q) :
    Opens P t (Kd.slice e d) (fun xs => xs.length ≤ maxLen ∧ ∀ x ∈ xs, Q x) :=
  ⟨hc, fun enc w base spare held fuel cs x h => by
    rcases Go.Deep.open_slice hu h with ⟨rfl, rfl⟩ | ⟨a, len, cap, m, n, D, Pl, rfl, _, hl, hm, hmm, rfl, hx⟩
    · exact ⟨[], ⟨none, 0, rfl, Nat.le_refl _, Kd.C_nil d w⟩, Nat.zero_le _, fun x hx => by cases hx⟩
    · have hlm : len ≤ m := by rw [hmm]; split <;> omega
      have hall : ∀ i, i < len → ∃ y : α, (∃ c, c.length = d.sz ∧ d.K w y c ∧ ∀ j u, c[j]? = some u → w.cell? (a.add (i * d.sz + j)) = some u) ∧ Q y := fun i hi => by
        obtain ⟨cs', h1, h2⟩ := hx i (by omega)
        obtain ⟨y, hy, hq⟩ := he.2 enc w base spare held n cs' _ h2
        obtain ⟨hlen, hcell⟩ := cells?_each h1
        rw [he.1] at hlen hcell
        refine ⟨y, ⟨cs', hlen, hy, fun j u hu => ?_⟩, hq⟩
        rw [← Go.Deep.add_add]
        exact hcell j u hu
      have hl2 : ∃ ys : List α, ys.length = len ∧ ∀ i y, ys[i]? = some y → (∃ c, c.length = d.sz ∧ d.K w y c ∧ ∀ j u, c[j]? = some u → w.cell? (a.add (i * d.sz + j)) = some u) ∧ Q y := by
        clear hx hmm hlm h hl
        induction len with
        | zero => exact ⟨[], rfl, fun i y h => by simp at h⟩
        | succ len ih =>
          obtain ⟨ys, hys, hy⟩ := ih (fun i hi => hall i (by omega))
          obtain ⟨y, hy'⟩ := hall len (by omega)
          refine ⟨ys ++ [y], by simp [hys], fun i z hz => ?_⟩
          by_cases hi : i < ys.length
          · rw [List.getElem?_append_left hi] at hz
            exact hy i z hz
          · rw [List.getElem?_append_right (by omega)] at hz
            have hi0 : i - ys.length = 0 := by
              have := (List.getElem?_eq_some_iff.1 hz).1
              simp at this
              omega
            rw [hi0] at hz
            simp at hz
            subst hz
            have : i = len := by omega
            subst this
            exact hy'
      obtain ⟨ys, hys, hy⟩ := hl2
      refine ⟨ys, ⟨some a, cap, by rw [hys], by omega, ⟨rfl, by unfold maxLen at hm; omega, fun _ => ⟨a, rfl, fun j p hp => ?_⟩⟩⟩, by omega, fun x hx => ?_⟩
      · obtain ⟨⟨c, h1, h2, h3⟩, _⟩ := hy j p hp
        exact ⟨c, h1, h2, h3⟩
      · obtain ⟨i, hi, rfl⟩ := List.getElem_of_mem hx
        exact (hy i _ (List.getElem?_eq_getElem hi)).2⟩

/-- The fields of a struct from a place on. -/
def OpensF {α : Type} (P : Program) (fs : List Field) (off tot : Nat) (d : Kd α) (Q : α → Prop) : Prop :=
  off + d.sz = tot ∧ ∀ {H : Type} (enc : TypeId × Value → H) (w : World) (base : Nat) (spare : Nat → Bool) (held : Bool) (cs : List Value), cs.length = tot →
    (∀ f ∈ fs, ∃ fuel x, DataW.trod enc P w base spare held fuel f.type ((cs.drop f.offset).take (P.cellsOf f.type)) = some x) → ∃ y, d.K w y (cs.drop off) ∧ Q y

theorem opensF_one {P : Program} {f : Field} {off tot : Nat} {α : Type} {d : Kd α} {Q : α → Prop} (ho : f.offset = off) (ht : off + d.sz = tot) (h : Opens P f.type d Q) : OpensF P [f] off tot d Q :=
  ⟨ht, fun enc w base spare held cs hl hf => by
    obtain ⟨fuel, x, hx⟩ := hf f (by simp)
    obtain ⟨y, hy, hq⟩ := h.2 enc w base spare held fuel _ x hx
    rw [h.1, ho, List.take_of_length_le (by simp; omega)] at hy
    exact ⟨y, hy, hq⟩⟩
theorem opensF_cons {P : Program} {f : Field} {fs : List Field} {off tot : Nat} {α β : Type} {d : Kd α} {Q : α → Prop} {d' : Kd β} {Q' : β → Prop} (ho : f.offset = off) (h : Opens P f.type d Q) (hs : OpensF P fs (off + d.sz) tot d' Q') :
    OpensF P (f :: fs) off tot (Kd.pair d d') (fun x => Q x.1 ∧ Q' x.2) :=
  ⟨by have := hs.1; show off + (d.sz + d'.sz) = tot; omega, fun enc w base spare held cs hl hf => by
    obtain ⟨fuel, x, hx⟩ := hf f (by simp)
    obtain ⟨y, hy, hq⟩ := h.2 enc w base spare held fuel _ x hx
    obtain ⟨y', hy', hq'⟩ := hs.2 enc w base spare held cs hl (fun g hg => hf g (List.mem_cons_of_mem _ hg))
    rw [h.1, ho] at hy
    refine ⟨(y, y'), ⟨_, _, ?_, hy, hy'⟩, hq, hq'⟩
    rw [← List.drop_drop, List.take_append_drop]⟩
theorem opens_struct {P : Program} {t : TypeId} {fs : Array Field} {α β : Type} {d : Kd α} {Q : α → Prop} (g : β → α) (g' : α → β) (hg : ∀ x, g (g' x) = x) (hu : P.underlying t = some (.struct fs)) (hc : P.cellsOf t = d.sz) (h : OpensF P fs.toList 0 (P.cellsOf t) d Q) :
    Opens P t (Kd.iso d g) (fun y => Q (g y)) :=
  ⟨hc, fun enc w base spare held fuel cs x hx => by
    obtain ⟨xs, n, _, _, hl, hxl, hall⟩ := DataW.trod_struct hu hx
    obtain ⟨y, hy, hq⟩ := h.2 enc w base spare held cs hl (fun f hf => by
      obtain ⟨i, hi, rfl⟩ := List.getElem_of_mem hf
      simp only [Array.length_toList] at hi
      have := hall i fs[i] (by simp [hi])
      rw [List.getElem?_eq_getElem (by omega)] at this
      exact ⟨n, _, this⟩)
    rw [List.drop_zero] at hy
    refine ⟨g' y, ?_, by show Q (g (g' y)); rw [hg]; exact hq⟩
    show d.K w (g (g' y)) cs
    rw [hg]
    exact hy⟩

/-- At a parameter: its value's cells. -/
theorem opens_at {P : Program} {t : TypeId} {α : Type} {d : Kd α} {Q : α → Prop} (ho : Opens P t d Q) {H : Type} {enc : TypeId × Value → H} {w : World} {base : Nat} {spare : Nat → Bool} {held : Bool} {v : Value} {x : DataW H} {p : List MemPlace}
    (h : DataW.Trod enc P w base spare held t v x p) : ∃ y, d.K w y v.cells.toList ∧ Q y := by
  obtain ⟨fuel, hf⟩ := h
  exact ho.2 enc w base spare held fuel _ _ hf

/-- A slice's length and its elements' bytes. -/
theorem opens_slice_at {P : Program} {t e : TypeId} {α : Type} {d : Kd α} {Q : List α → Prop} (ho : Opens P t (Kd.slice e d) Q) {H : Type} {enc : TypeId × Value → H} {w : World} {base : Nat} {spare : Nat → Bool} {held : Bool} {a : Option Addr} {len cap : Nat} {x : DataW H} {p : List MemPlace}
    (h : DataW.Trod enc P w base spare held t (.slice a len cap) x p) : ∃ l : List α, len = l.length ∧ l.length ≤ cap ∧ Kd.C d w a l.length l ∧ Q l := by
  obtain ⟨y, ⟨A, c, he, hl, hC⟩, hq⟩ := opens_at ho h
  simp only [Value.cells, List.cons.injEq, and_true, Value.slice.injEq] at he
  obtain ⟨e1, e2, e3⟩ := he
  subst e1 e2 e3
  exact ⟨y, rfl, hl, hC, hq⟩

/-- A slice of whatever element type is no longer than its weight allows. -/
theorem sized_any {H : Type} {enc : TypeId × Value → H} {P : Program} {W : World} {base : Nat} {spare : Nat → Bool} {held : Bool} {t e : TypeId} {a : Option Addr} {len cap : Nat} {d : DataW H} {ps : List MemPlace} {ts : List TypeId} {ds : List (DataW H)} {j : Nat}
    (hsz : (DataW.weightsEach P ts ds).all (· ≤ reachBytes) = true) (ht : ts[j]? = some t) (hd : ds[j]? = some d) (hu : P.underlying t = some (.slice e)) {B : Nat} (hB : P.bytesOf e = B)
    (h : DataW.Trod enc P W base spare held t (.slice a len cap) d ps) : len * B ≤ 140737488351232 := by
  obtain ⟨fuel, hf⟩ := h
  rcases Go.Deep.open_slice hu hf with ⟨hcs, _⟩ | ⟨x, l, c, m, n, D, Pl, hcs, _, hl, hm, _, hx, _⟩
  · simp [Value.cells] at hcs
    obtain ⟨rfl, rfl, rfl⟩ := hcs
    simp
  · simp [Value.cells] at hcs
    obtain ⟨rfl, rfl, rfl⟩ := hcs
    obtain ⟨hx, _⟩ := Prod.mk.inj hx
    subst hx
    have z := sized_slice hsz ht hd hu
    rw [hB] at z
    simp only [List.length_map, List.length_range] at z
    exact Nat.le_trans (Nat.mul_le_mul_right _ (Nat.le_add_right _ _)) z

end Go.Proofs.YtbbjkgpilmcldaaW.Open
