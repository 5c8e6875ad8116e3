/- Proved: how rows are laid into parts by turns (laid), as the printed function tells it; no condition. -/
import Derived.Test.YtbbjkgpilmcldaaWideM
import Derived.Test.YtbbjkgpilmcldaaPWmx6
namespace Go.Proofs.Ytbbjkgpilmcldaa.Pure
open Go.RowKit Go.Proofs.Ytbbjkgpilmcldaa.PWm Go.Proofs.Ytbbjkgpilmcldaa.Seq Go.Proofs.YtbbjkgpilmcldaaW.PrintWords Go.Proofs.YtbbjkgpilmcldaaW.PrintLast Go.Proofs.YtbbjkgpilmcldaaW.PrintMore
set_option linter.unusedVariables false
set_option linter.unusedSimpArgs false
/-- The rows from the i-th on, each of-th. -/
def cls (l : List RowT) (of : Nat) : Nat → Nat → List RowT
  | 0, _ => []
  | n + 1, i => if h : i < l.length ∧ i < 60 then l[i] :: cls l of n (i + of) else []
theorem cls_bd (l : List RowT) (of : Nat) (hof : 1 ≤ of) : ∀ n i, (cls l of n i).length * of ≤ (min 60 l.length - i) + (of - 1)
  | 0, i => by simp [cls]
  | n + 1, i => by
    unfold cls
    split
    · next h =>
      have ih := cls_bd l of hof n (i + of)
      rw [List.length_cons, Nat.add_mul, Nat.one_mul]
      by_cases h2 : i + of < min 60 l.length
      · omega
      · have e : cls l of n (i + of) = [] := by
          cases n with
          | zero => rfl
          | succ n => unfold cls; rw [dif_neg (by omega)]
        rw [e]
        simp only [List.length_nil, Nat.zero_mul]
        omega
    · simp
theorem cls_mem (l : List RowT) (of : Nat) : ∀ n i, ∀ r ∈ cls l of n i, r ∈ l
  | 0, i, r, h => by simp [cls] at h
  | n + 1, i, r, h => by
    unfold cls at h
    split at h
    · rcases List.mem_cons.1 h with rfl | h
      · exact List.getElem_mem _
      · exact cls_mem l of n _ r h
    · simp at h
def laidS (l : List RowT) (of : Nat) : List (List RowT) := (List.range of).map fun p => cls l of 60 p
theorem laidS_len (l : List RowT) (of : Nat) : (laidS l of).length = of := by unfold laidS; rw [List.length_map, List.length_range]
theorem laidS_total (l : List RowT) (of : Nat) (hof : 1 ≤ of) (h4 : of ≤ 4) : (laidS l of).flatten.length ≤ min 60 l.length := by
  have b := fun p => cls_bd l of hof 60 p
  have h : of = 1 ∨ of = 2 ∨ of = 3 ∨ of = 4 := by omega
  unfold laidS
  rcases h with rfl | rfl | rfl | rfl
  · have b0 := b 0
    simp only [show List.range 1 = [0] from rfl, List.map_cons, List.map_nil, List.flatten_cons, List.flatten_nil, List.length_append, List.length_nil]
    omega
  · have b0 := b 0
    have b1 := b 1
    simp only [show List.range 2 = [0, 1] from rfl, List.map_cons, List.map_nil, List.flatten_cons, List.flatten_nil, List.length_append, List.length_nil]
    omega
  · have b0 := b 0
    have b1 := b 1
    have b2 := b 2
    simp only [show List.range 3 = [0, 1, 2] from rfl, List.map_cons, List.map_nil, List.flatten_cons, List.flatten_nil, List.length_append, List.length_nil]
    omega
  · have b0 := b 0
    have b1 := b 1
    have b2 := b 2
    have b3 := b 3
    simp only [show List.range 4 = [0, 1, 2, 3] from rfl, List.map_cons, List.map_nil, List.flatten_cons, List.flatten_nil, List.length_append, List.length_nil]
    omega
theorem laidS_mem (l : List RowT) (of : Nat) : ∀ r ∈ (laidS l of).flatten, r ∈ l := by
  intro r hr
  obtain ⟨x, hx, hr⟩ := List.mem_flatten.1 hr
  obtain ⟨p, _, rfl⟩ := List.mem_map.1 hx
  exact cls_mem l of 60 p r hr
theorem laidS_each (l : List RowT) (of : Nat) : ∀ x ∈ laidS l of, x.length ≤ (laidS l of).flatten.length := by
  intro x hx
  rw [List.length_flatten]
  have : ∀ L : List (List RowT), x ∈ L → x.length ≤ (L.map List.length).sum := by
    intro L
    induction L with
    | nil => intro h; simp at h
    | cons a L ih =>
      intro h
      rw [List.map_cons, List.sum_cons]
      rcases List.mem_cons.1 h with rfl | h
      · omega
      · have := ih h; omega
  exact this _ hx
theorem laid_l2 (of : Nat) (L : List (List RowT)) (hL : L.length = of) (h4 : of ≤ 4) (ht : L.flatten.length ≤ 1000) (d : Nat) : ∀ p : Nat, p + d = of → Ev (fun k => tributarylaw4_laid.l2 k (of : Int) L (L.take p).flatten (p : Int)) (L, L.flatten) := by
  induction d with
  | zero =>
    intro p hp
    rw [List.take_of_length_le (by omega)]
    refine Ev_some fun k => ?_
    simp only [tributarylaw4_laid.l2]
    rw [if_neg (by omega)]
  | succ d ih =>
    intro p hp
    have hpl : p < L.length := by omega
    have h1 := ih (p + 1) (by omega)
    rw [List.take_succ_eq_append_getElem hpl, List.flatten_append, List.flatten_singleton] at h1
    have hb : (L.take p).flatten.length + L[p].length ≤ L.flatten.length := by
      have e : L.flatten = (L.take p).flatten ++ (L[p] ++ (L.drop (p + 1)).flatten) := by
        rw [← List.flatten_cons, ← List.drop_eq_getElem_cons hpl, ← List.flatten_append, List.take_append_drop]
      rw [e, List.length_append, List.length_append]
      omega
    refine Ev.step (fun k => ?_) h1
    simp only [tributarylaw4_laid.l2]
    rw [if_pos (by omega), if_pos (by omega), if_pos (by omega), rdL_nat L p hpl, if_pos (by omega), wrap_nat (n := of) (by omega) (by omega)]
theorem laid_l1 (l : List RowT) (of p : Nat) (hof : 1 ≤ of) (h4 : of ≤ 4) (L : List (List RowT)) (hL : L.length = p) (hp : p < of) (res : List (List RowT) × List RowT) (n : Nat) :
    ∀ (i : Nat) (acc : List RowT), 60 ≤ i + n → acc.length ≤ i → i ≤ 100 → Ev (fun k => tributarylaw4_laid.l0 k l (of : Int) (L ++ [acc ++ cls l of n i]) ((p + 1 : Nat) : Int)) res →
      Ev (fun k => tributarylaw4_laid.l1 k l (of : Int) L (p : Int) acc (i : Int)) res := by
  induction n with
  | zero =>
    intro i acc hi ha hi2 h
    rw [show cls l of 0 i = [] from rfl, List.append_nil] at h
    refine Ev.step (fun k => ?_) h
    simp only [tributarylaw4_laid.l1]
    rw [wrap_nat (n := of) (by omega) (by omega), if_pos (show L.length < 5864062014805 by omega)]
    split
    · rw [if_neg (by omega)]
    · rfl
  | succ n ih =>
    intro i acc hi ha hi2 h
    unfold cls at h
    by_cases hc : i < l.length ∧ i < 60
    · rw [dif_pos hc] at h
      have h1 := ih (i + of) (acc ++ [l[i]]) (by omega) (by rw [List.length_append, List.length_singleton]; omega) (by omega) (by rwa [List.append_assoc, List.singleton_append])
      refine Ev.step (fun k => ?_) h1
      simp only [tributarylaw4_laid.l1]
      have ew : wrap64 ((i : Int) + (of : Int)) = ((i + of : Nat) : Int) := by unfold wrap64; omega
      rw [if_pos (by omega), if_pos (by omega), if_pos (by omega), if_pos (by omega), rdT_nat l i hc.1, ew]
    · rw [dif_neg hc, List.append_nil] at h
      refine Ev.step (fun k => ?_) h
      simp only [tributarylaw4_laid.l1]
      rw [wrap_nat (n := of) (by omega) (by omega), if_pos (show L.length < 5864062014805 by omega)]
      by_cases h1 : i < l.length
      · rw [if_pos (by omega), if_neg (by omega)]
      · rw [if_neg (by omega)]
theorem laid_l0 (l : List RowT) (of : Nat) (hof : 1 ≤ of) (h4 : of ≤ 4) (d : Nat) :
    ∀ p : Nat, p + d = of → Ev (fun k => tributarylaw4_laid.l0 k l (of : Int) ((List.range p).map fun p => cls l of 60 p) (p : Int)) (laidS l of, (laidS l of).flatten) := by
  induction d with
  | zero =>
    intro p hp
    obtain rfl : p = of := by omega
    have ht := laidS_total l p hof h4
    have := laid_l2 p (laidS l p) (laidS_len l p) h4 (by omega) p 0 (by omega)
    refine Ev.step (fun k => ?_) this
    simp only [tributarylaw4_laid.l0]
    rw [if_neg (by omega)]
    rfl
  | succ d ih =>
    intro p hp
    have h1 := ih (p + 1) (by omega)
    rw [List.range_succ, List.map_append, List.map_singleton] at h1
    have := laid_l1 l of p hof h4 ((List.range p).map fun p => cls l of 60 p) (by rw [List.length_map, List.length_range]) (by omega) _ 60 p [] (by omega) (by simp) (by omega) (by rw [List.nil_append]; exact h1)
    refine Ev.step (fun k => ?_) this
    simp only [tributarylaw4_laid.l0]
    rw [if_pos (by omega)]
theorem laid_ev (l : List RowT) (of : Nat) (hof : 1 ≤ of) (h4 : of ≤ 4) : Ev (fun k => tributarylaw4_laid.f k l (of : Int)) (laidS l of, (laidS l of).flatten) := laid_l0 l of hof h4 of 0 (by omega)
theorem mn_take (l : List RowT) (m : Nat) : 0 ≤ mn (l.length : Int) (m : Int) ∧ mn (l.length : Int) (m : Int) ≤ (l.length : Int) ∧ l.take (mn (l.length : Int) (m : Int)).toNat = l.take m := by
  have e : (mn (l.length : Int) (m : Int)).toNat = min l.length m := by unfold mn; split <;> omega
  refine ⟨by unfold mn; split <;> omega, by unfold mn; split <;> omega, ?_⟩
  rw [e, List.take_eq_take_iff]
  omega
theorem fits_laidS {l : List RowT} (h : ∀ r ∈ l, okRow r) (of : Nat) (hof : 1 ≤ of) (h4 : of ≤ 4) : fits (laidS l of).flatten := ⟨by have := laidS_total l of hof h4; omega, fun r hr => h r (laidS_mem l of r hr)⟩
end Go.Proofs.Ytbbjkgpilmcldaa.Pure
