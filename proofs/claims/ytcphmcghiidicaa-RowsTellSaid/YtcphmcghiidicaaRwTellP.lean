/- Proved: plain facts for RowsTell: the document's splits, the program's 'Same', sizes, the order of pieces; no program in sight. -/
import Derived.Test.YtcphmcghiidicaaRwPure
namespace Go.Proofs.Ytcphmcghiidicaa.Pure
open Go.RowKit Go.Proofs.Ytcphmcghiidicaa.PRw Go.Proofs.YtcphmcghiidicaaW.PrintWords Go.Proofs.YtcphmcghiidicaaW.PrintLast Go.Proofs.YtcphmcghiidicaaW.PrintMore
set_option linter.unusedVariables false
set_option linter.unusedSimpArgs false
theorem refPart_f (k n : Int) (hn : n ≤ 9223372036854775807) : tributaryref2_Part.f k n = some (partOf k n) := by
  unfold tributaryref2_Part.f partOf
  by_cases h : n < 2
  · rw [if_pos h, if_pos h]
  · rw [if_neg h, if_neg h]
    have e : IntKind.u64.wrap n = n := IntWalk.u64_in n ⟨by omega, by omega⟩
    rw [e, if_neg (by omega)]
    have hb := hash_bd k
    generalize IntKind.u64.wrap (IntKind.u64.wrap k * 11400714819323198485) / 8589934592 = y at hb ⊢
    rw [Int.tmod_eq_emod_of_nonneg hb.1]
    have h1 := Int.emod_nonneg y (show n ≠ 0 by omega)
    have h2 := Int.emod_lt_of_pos y (show 0 < n by omega)
    generalize y % n = z at h1 h2 ⊢
    rw [show wrap64 z = z by unfold wrap64; omega]
theorem i64_and7 (n : Int) : Go.bits .and .i64 n 7 = n % 8 := by
  have h127 : (BitVec.ofInt 64 7).toNat = 2 ^ 3 - 1 := by decide
  have key : (BitVec.ofInt 64 n &&& BitVec.ofInt 64 7).toNat = (n % ((2 ^ 64 : Nat) : Int)).toNat % 2 ^ 3 := by
    rw [BitVec.toNat_and, BitVec.toNat_ofInt, h127, Nat.and_two_pow_sub_one_eq_mod]
  show IntKind.i64.wrap ((BitVec.ofInt 64 n &&& BitVec.ofInt 64 7).toNat : Nat) = n % 8
  rw [key, IntKind.wrap_i64]
  omega
theorem split_any (l : List S35) (of : Nat) (h8 : of ≤ 8) (hl : l.length ≤ 1000000) : Ev (fun k => rows_Split.f k l (of : Int)) (splitOf l (of : Int)) := by
  by_cases h : 1 ≤ of
  · exact split_ev l (of : Int) (by omega) (by omega) hl
  · obtain rfl : of = 0 := by omega
    refine Ev.congr (f := fun _ => some (splitOf l ((0 : Nat) : Int))) (fun k => ?_) (Ev.now _)
    unfold rows_Split.f
    rw [if_pos (by omega)]
    rfl
theorem inPart_cons (r : S35) (l : List S35) (n : Int) (p : Nat) : inPart (r :: l) n p = if partOf r.f0 n = (p : Int) then r :: inPart l n p else inPart l n p := by
  unfold inPart
  rw [List.filter_cons]
  by_cases e : partOf r.f0 n = (p : Int)
  · rw [if_pos e, if_pos (by simpa using e)]
  · rw [if_neg e, if_neg (by simpa using e)]
theorem ref_split_l1 (l : List S35) (of : Nat) (h8 : of ≤ 8) (hl : l.length ≤ 1000000) (acc : List (List S35)) (ha : acc.length ≤ 8) (p : Nat) (hp : p < of) (res : List (List S35)) (d : Nat) :
    ∀ (i : Nat) (x : List S35), i + d = l.length → x.length ≤ i → Ev (fun k => tributaryref2_Split.l0 k l (of : Int) (acc ++ [x ++ inPart (l.drop i) (of : Int) p]) ((p + 1 : Nat) : Int)) res → Ev (fun k => tributaryref2_Split.l1 k l (of : Int) acc (p : Int) x (i : Int)) res := by
  induction d with
  | zero =>
    intro i x hi hx h
    rw [List.drop_eq_nil_of_le (by omega), show inPart [] (of : Int) p = [] from rfl, List.append_nil] at h
    refine Ev.step (fun k => ?_) h
    simp only [tributaryref2_Split.l1]
    rw [if_neg (by omega), if_pos (by omega), wrap_nat (n := of) (by omega) (by omega)]
  | succ d ih =>
    intro i x hi hx h
    have hil : i < l.length := by omega
    rw [List.drop_eq_getElem_cons hil, inPart_cons] at h
    by_cases e : partOf l[i].f0 (of : Int) = (p : Int)
    · rw [if_pos e] at h
      refine Ev.step (fun k => ?_) (ih (i + 1) (x ++ [l[i]]) (by omega) (by rw [List.length_append, List.length_singleton]; omega) (by rwa [List.append_assoc, List.singleton_append]))
      simp only [tributaryref2_Split.l1]
      rw [if_pos (by omega), if_pos (by omega), rdT_nat l i hil, refPart_f _ _ (by omega), Option.bind_some, if_pos e, if_pos (by omega), wrap_nat (n := l.length) (by omega) (by omega)]
    · rw [if_neg e] at h
      refine Ev.step (fun k => ?_) (ih (i + 1) x (by omega) (by omega) h)
      simp only [tributaryref2_Split.l1]
      rw [if_pos (by omega), if_pos (by omega), rdT_nat l i hil, refPart_f _ _ (by omega), Option.bind_some, if_neg e, wrap_nat (n := l.length) (by omega) (by omega)]
theorem ref_split_l0 (l : List S35) (of : Nat) (h8 : of ≤ 8) (hl : l.length ≤ 1000000) (d : Nat) : ∀ p : Nat, p + d = of → Ev (fun k => tributaryref2_Split.l0 k l (of : Int) ((List.range p).map (inPart l (of : Int))) (p : Int)) (splitOf l (of : Int)) := by
  induction d with
  | zero =>
    intro p hp
    refine Ev_some fun k => ?_
    simp only [tributaryref2_Split.l0]
    rw [if_neg (by omega)]
    unfold splitOf
    rw [Int.toNat_natCast, show p = of by omega]
  | succ d ih =>
    intro p hp
    have h1 := ih (p + 1) (by omega)
    rw [List.range_succ, List.map_append, List.map_singleton] at h1
    refine Ev.step (fun k => ?_) (ref_split_l1 l of h8 hl ((List.range p).map (inPart l (of : Int))) (by rw [List.length_map, List.length_range]; omega) p (by omega) _ l.length 0 [] (by omega) (by simp) (by rw [List.nil_append, List.drop_zero]; exact h1))
    simp only [tributaryref2_Split.l0]
    rw [if_pos (by omega)]
    rfl
theorem ref_split_ev (l : List S35) (of : Nat) (h8 : of ≤ 8) (hl : l.length ≤ 1000000) : Ev (fun k => tributaryref2_Split.f k l (of : Int)) (splitOf l (of : Int)) := ref_split_l0 l of h8 hl of 0 (by omega)
theorem equal_l0 (a b : List S35) (hab : a.length = b.length) (ha : a.length ≤ 1000000) (d : Nat) : ∀ i : Nat, i + d = a.length → Ev (fun k => api_Row.l0 k a b (a.length : Int) (i : Int)) (decide (a.drop i = b.drop i)) := by
  induction d with
  | zero =>
    intro i hi
    refine Ev_some fun k => ?_
    simp only [api_Row.l0]
    rw [if_neg (by omega), List.drop_eq_nil_of_le (by omega), List.drop_eq_nil_of_le (by omega)]
    simp
  | succ d ih =>
    intro i hi
    have h1 : i < a.length := by omega
    have h2 : i < b.length := by omega
    have hd : (a.drop i = b.drop i) ↔ (a[i] = b[i] ∧ a.drop (i + 1) = b.drop (i + 1)) := by
      rw [List.drop_eq_getElem_cons h1, List.drop_eq_getElem_cons h2, List.cons.injEq]
    by_cases e : a[i] = b[i]
    · rw [show decide (a.drop i = b.drop i) = decide (a.drop (i + 1) = b.drop (i + 1)) by simp [hd, e]]
      refine Ev.step (fun k => ?_) (ih (i + 1) (by omega))
      simp only [api_Row.l0]
      rw [if_pos (by omega), if_pos (by omega), if_pos (by omega), if_pos (by omega), rdT_nat a i h1, rdT_nat b i h2, e, if_neg (by simp), wrap_nat (n := a.length) (by omega) (by omega)]
    · rw [show decide (a.drop i = b.drop i) = false by simp [hd, e]]
      refine Ev_some fun k => ?_
      simp only [api_Row.l0]
      rw [if_pos (by omega), if_pos (by omega), if_pos (by omega), if_pos (by omega), rdT_nat a i h1, rdT_nat b i h2, if_pos]
      have e' : ¬ (a[i].f0 = b[i].f0 ∧ a[i].f1 = b[i].f1) := fun h => e (by
        cases hx : a[i]; cases hy : b[i]; simp [hx, hy] at h; simp [h])
      by_cases hh : a[i].f0 = b[i].f0
      · have : ¬ a[i].f1 = b[i].f1 := fun h => e' ⟨hh, h⟩
        simp [this]
      · simp [hh]
theorem equal_ev (a b : List S35) (ha : a.length ≤ 1000000) : Ev (fun k => rows_Same.f k a b) (decide (a = b)) := by
  have h : Ev (fun k => api_Row.f k a b) (decide (a = b)) := by
    by_cases hab : a.length = b.length
    · have := equal_l0 a b hab ha a.length 0 (by omega)
      simp only [List.drop_zero] at this
      refine Ev.congr (fun k => ?_) this
      unfold api_Row.f
      rw [if_pos (by omega)]; rfl
    · rw [show decide (a = b) = false by simp; intro h; exact hab (by rw [h])]
      refine Ev.congr (f := fun _ => some false) (fun k => ?_) (Ev.now false)
      unfold api_Row.f
      rw [if_neg (by omega)]
  exact Ev.congr (fun k => rfl) (Ev.bind (f := fun _ t => some t) h (Ev.now _))
def befS (a b c x y z : Int) : Bool := if a = x then (if b = y then decide (c < z) else decide (b < y)) else decide (a < x)
theorem before_f (a b c x y z : Int) : rows_Before.f a b c x y z = some (befS a b c x y z) := by
  unfold rows_Before.f befS
  split
  · split <;> rfl
  · rfl
theorem ref_before_f (a b c x y z : Int) : tributaryref2_Before.f a b c x y z = some (befS a b c x y z) := by
  unfold tributaryref2_Before.f befS
  split
  · split <;> rfl
  · rfl
theorem splitOf_each (l : List S35) (n : Int) : ∀ x ∈ splitOf l n, x.length ≤ l.length := by
  intro x hx
  unfold splitOf at hx
  obtain ⟨p, _, rfl⟩ := List.mem_map.1 hx
  exact List.length_filter_le _ _
end Go.Proofs.Ytcphmcghiidicaa.Pure
