/- Proved: splitting loses no row and turns no key's order; no condition. -/
import Derived.Test.YtjcllneibeemgaaPRowsApartq
import Derived.IntWalk
import Derived.OpenShut
namespace Go.Proofs.Ytjcllneibeemgaa.Pure
open Go.RowKit Go.Proofs.Ytjcllneibeemgaa.PRowsApart Go.Proofs.YtjcllneibeemgaaW.PrintWords Go.Proofs.YtjcllneibeemgaaW.PrintLast Go.Proofs.YtjcllneibeemgaaW.PrintMore
set_option linter.unusedVariables false
set_option linter.unusedSimpArgs false

def partOf (k n : Int) : Int := if n < 2 then 0 else (IntKind.u64.wrap (IntKind.u64.wrap k * 11400714819323198485) / 8589934592) % n

theorem hash_bd (k : Int) : 0 ≤ IntKind.u64.wrap (IntKind.u64.wrap k * 11400714819323198485) / 8589934592 ∧ IntKind.u64.wrap (IntKind.u64.wrap k * 11400714819323198485) / 8589934592 ≤ 2147483647 := by
  rw [IntKind.wrap_u64 (IntKind.u64.wrap k * 11400714819323198485)]
  generalize IntKind.u64.wrap k * 11400714819323198485 = y
  omega

theorem part_f (k n : Int) : rows_Part.f k n = some (partOf k n) := by
  unfold rows_Part.f partOf
  by_cases h : n < 2
  · rw [if_pos h, if_pos h]
  · rw [if_neg h, if_neg h, if_neg (by omega)]
    have hb := hash_bd k
    generalize IntKind.u64.wrap (IntKind.u64.wrap k * 11400714819323198485) / 8589934592 = y at hb ⊢
    rw [show wrap64 y = y by unfold wrap64; omega, Int.tmod_eq_emod_of_nonneg hb.1]

theorem partOf_lo (k n : Int) : 0 ≤ partOf k n := by
  unfold partOf; split
  · omega
  · exact Int.emod_nonneg _ (by omega)

theorem partOf_hi (k n : Int) (h : 1 ≤ n) : partOf k n < n := by
  unfold partOf; split
  · omega
  · exact Int.emod_lt_of_pos _ (by omega)

instance : DecidableEq S30 := fun a b => decidable_of_iff (a.f0 = b.f0 ∧ a.f1 = b.f1) ⟨fun h => by cases a; cases b; simp at h; simp [h], fun h => by rw [h]; exact ⟨rfl, rfl⟩⟩

theorem Ev_some {α : Type} {g : Nat → Option α} {r : α} (h : ∀ k, g (k + 1) = some r) : Ev g r := Ev.step (f := fun _ => some r) h (Ev.now r)

theorem wrap_nat {i n : Nat} (h : i ≤ n) (hn : n ≤ 4611686018427387904) : wrap64 ((i : Int) + 1) = ((i + 1 : Nat) : Int) := by
  unfold wrap64; omega

theorem rdT_nat (l : List S30) (i : Nat) (h : i < l.length) : rd_T30 l (i : Int) = l[i] := by
  unfold rd_T30
  rw [Int.toNat_natCast, List.getD_eq_getElem?_getD, List.getElem?_eq_getElem h]; rfl

theorem rdL_nat (l : List (List S30)) (i : Nat) (h : i < l.length) : rd_L2 l (i : Int) = l[i] := by
  unfold rd_L2
  rw [Int.toNat_natCast, List.getD_eq_getElem?_getD, List.getElem?_eq_getElem h]; rfl

/-- The rows of a part. -/
def inPart (l : List S30) (n : Int) (p : Nat) : List S30 := l.filter fun r => decide (partOf r.f0 n = (p : Int))
/-- What splitting tells. -/
def splitOf (l : List S30) (n : Int) : List (List S30) := (List.range n.toNat).map (inPart l n)

theorem splitOf_length (l : List S30) (n : Int) : (splitOf l n).length = n.toNat := by simp [splitOf]
theorem splitOf_get (l : List S30) (n : Int) (p : Nat) (h : p < (splitOf l n).length) : (splitOf l n)[p] = inPart l n p := by simp [splitOf]

theorem splitOf_nil (n : Int) : splitOf [] n = List.replicate n.toNat [] := by
  apply List.ext_getElem
  · simp [splitOf]
  · intro i h1 h2
    simp [splitOf, inPart]

theorem splitOf_snoc (l : List S30) (n : Int) (r : S30) (p : Nat) (hp : (p : Int) = partOf r.f0 n) (hn : p < n.toNat) :
    (splitOf l n).set p (inPart l n p ++ [r]) = splitOf (l ++ [r]) n := by
  apply List.ext_getElem
  · simp [splitOf]
  · intro i h1 h2
    rw [splitOf_get, List.getElem_set]
    split
    · next e =>
      subst e
      simp [inPart, List.filter_append, ← hp]
    · next e =>
      rw [splitOf_get]
      have : ¬ (partOf r.f0 n = (i : Int)) := by rw [← hp]; omega
      simp [inPart, List.filter_append, this]

theorem split_l0 (n : Int) (hn : 1 ≤ n) (l : List S30) (hl : l.length ≤ 1000000) (d : Nat) : ∀ (i : Nat), i + d = l.length →
    Ev (fun k => rows_Split.l0 k n (splitOf (l.take i) n) l (l.length : Int) (i : Int)) (splitOf l n) := by
  induction d with
  | zero =>
    intro i hi
    refine Ev_some fun k => ?_
    simp only [rows_Split.l0]
    rw [if_neg (by omega), List.take_of_length_le (by omega)]
  | succ d ih =>
    intro i hi
    have hlt : i < l.length := by omega
    refine Ev.step (fun k => ?_) (ih (i + 1) (by omega))
    simp only [rows_Split.l0]
    rw [if_pos (by omega), if_pos (by omega), if_pos (by omega), part_f, rdT_nat l i hlt]
    simp only [Option.bind_some]
    have h0 := partOf_lo l[i].f0 n
    have h1 := partOf_hi l[i].f0 n hn
    obtain ⟨p, hp⟩ := Int.eq_ofNat_of_zero_le h0
    have hpl : p < (splitOf (l.take i) n).length := by rw [splitOf_length]; omega
    rw [hp, if_pos (by omega), if_pos (by omega), rdL_nat _ _ hpl, splitOf_get]
    have hle : (inPart (l.take i) n p).length ≤ 1000000 := by
      refine Nat.le_trans (List.length_filter_le _ _) ?_
      rw [List.length_take]; omega
    rw [if_pos (by omega), Int.toNat_natCast, show (⟨l[i].f0, l[i].f1⟩ : S30) = l[i] from rfl, splitOf_snoc _ _ _ _ hp.symm (by omega), wrap_nat (n := l.length) (by omega) (by omega),
      List.take_succ_eq_append_getElem hlt]

theorem split_ev (l : List S30) (n : Int) (hn : 1 ≤ n) (hn2 : n ≤ 1000000) (hl : l.length ≤ 1000000) : Ev (fun k => rows_Split.f k l n) (splitOf l n) := by
  refine Ev.congr (fun k => ?_) (split_l0 n hn l hl l.length 0 (by omega))
  unfold rows_Split.f
  rw [if_neg (by omega), if_pos (by omega), if_pos (by omega)]
  rw [List.take_zero, splitOf_nil]; rfl

theorem few_f (l : List S30) (m : Int) (h0 : 0 ≤ m) (hm : m ≤ 1000000) (hl : l.length ≤ 9223372036854775807) : tributarylaw2_few.f l m = some (l.take m.toNat) := by
  unfold tributarylaw2_few.f
  have e : (mn (l.length : Int) m).toNat = (l.take m.toNat).length := by
    unfold mn; rw [List.length_take]; split <;> omega
  have e1 : 0 ≤ mn (l.length : Int) m := by unfold mn; split <;> omega
  have e2 : mn (l.length : Int) m ≤ (l.length : Int) := by unfold mn; split <;> omega
  have e3 : mn (l.length : Int) m ≤ m := by unfold mn; split <;> omega
  have e4 : l.take (mn (l.length : Int) m).toNat = l.take m.toNat := by
    rw [List.take_eq_take_iff, e, List.length_take]; omega
  have e5 : (l.take m.toNat).length ≤ 1000000 := by rw [List.length_take]; omega
  rw [if_pos e1, if_pos e2, e4]
  simp only [Option.bind_some, List.nil_append, List.length_nil]
  rw [if_pos (by omega), if_pos (by simp only [List.length_cons, List.length_nil]; omega), if_pos (by rw [List.length_append]; omega), e]
  simp

theorem same_l0 (a b : List S30) (hab : a.length = b.length) (ha : a.length ≤ 1000000) (d : Nat) : ∀ i : Nat, i + d = a.length → Ev (fun k => tributaryref2_Same.l0 k a b (i : Int)) (decide (a.drop i = b.drop i)) := by
  induction d with
  | zero =>
    intro i hi
    refine Ev_some fun k => ?_
    simp only [tributaryref2_Same.l0]
    rw [if_neg (by omega), List.drop_eq_nil_of_le (by omega), List.drop_eq_nil_of_le (by omega)]
    simp
  | succ d ih =>
    intro i hi
    have h1 : i < a.length := by omega
    have h2 : i < b.length := by omega
    have hd : (a.drop i = b.drop i) ↔ (a[i] = b[i] ∧ a.drop (i + 1) = b.drop (i + 1)) := by
      rw [List.drop_eq_getElem_cons h1, List.drop_eq_getElem_cons h2, List.cons.injEq]
    by_cases e : a[i] = b[i]
    · rw [show decide (a.drop i = b.drop i) = decide (a.drop (i + 1) = b.drop (i + 1)) by simp [hd, e]]
      refine Ev.step (fun k => ?_) (ih (i + 1) (by omega))
      simp only [tributaryref2_Same.l0]
      rw [if_pos (by omega), if_pos (by omega), if_pos (by omega), rdT_nat a i h1, rdT_nat b i h2, e, if_neg (by simp), wrap_nat (n := a.length) (by omega) (by omega)]
    · rw [show decide (a.drop i = b.drop i) = false by simp [hd, e]]
      refine Ev_some fun k => ?_
      simp only [tributaryref2_Same.l0]
      rw [if_pos (by omega), if_pos (by omega), if_pos (by omega), rdT_nat a i h1, rdT_nat b i h2, if_pos]
      have e' : ¬ (a[i].f0 = b[i].f0 ∧ a[i].f1 = b[i].f1) := fun h => e (by
        cases hx : a[i]; cases hy : b[i]; simp [hx, hy] at h; simp [h])
      by_cases hh : a[i].f0 = b[i].f0
      · have : ¬ a[i].f1 = b[i].f1 := fun h => e' ⟨hh, h⟩
        simp [this]
      · simp [hh]

theorem same_ev (a b : List S30) (ha : a.length ≤ 1000000) : Ev (fun k => tributaryref2_Same.f k a b) (decide (a = b)) := by
  by_cases hab : a.length = b.length
  · have := same_l0 a b hab ha a.length 0 (by omega)
    simp only [List.drop_zero] at this
    refine Ev.congr (fun k => ?_) this
    unfold tributaryref2_Same.f
    rw [if_pos (by omega)]; rfl
  · rw [show decide (a = b) = false by simp; intro h; exact hab (by rw [h])]
    refine Ev.congr (f := fun _ => some false) (fun k => ?_) (Ev.now false)
    unfold tributaryref2_Same.f
    rw [if_neg (by omega)]

theorem i64_and3 (n : Int) : Go.bits .and .i64 n 3 = n % 4 := by
  have h127 : (BitVec.ofInt 64 3).toNat = 2 ^ 2 - 1 := by decide
  have key : (BitVec.ofInt 64 n &&& BitVec.ofInt 64 3).toNat = (n % ((2 ^ 64 : Nat) : Int)).toNat % 2 ^ 2 := by
    rw [BitVec.toNat_and, BitVec.toNat_ofInt, h127, Nat.and_two_pow_sub_one_eq_mod]
  show IntKind.i64.wrap ((BitVec.ofInt 64 n &&& BitVec.ofInt 64 3).toNat : Nat) = n % 4
  rw [key, IntKind.wrap_i64]
  omega

theorem told_f : tributarylaw2_told.f 2 = some true := by decide +kernel
theorem told_ev : Ev (fun k => tributarylaw2_told.f k) true := Ev.of tributarylaw2_told.mono told_f

theorem single (m q : Nat) (x : List S30) : (List.range m).flatMap (fun p => if p = q then x else []) = if q < m then x else [] := by
  induction m with
  | zero => simp
  | succ m ih =>
    rw [List.range_succ, List.flatMap_append, ih]
    by_cases h : q < m
    · rw [if_pos h, if_pos (by omega)]
      simp [show ¬ m = q by omega]
    · rw [if_neg h]
      by_cases e : m = q
      · simp [e]
      · simp [e, show ¬ q < m + 1 by omega]

theorem key_flat (l : List S30) (n : Int) (hn : 1 ≤ n) (key : Int) : ((splitOf l n).flatten).filter (fun r => decide (r.f0 = key)) = l.filter (fun r => decide (r.f0 = key)) := by
  unfold splitOf
  rw [← List.flatMap_def, List.filter_flatMap]
  have h0 := partOf_lo key n
  have h1 := partOf_hi key n hn
  obtain ⟨q, hq⟩ := Int.eq_ofNat_of_zero_le h0
  have : (fun p => (inPart l n p).filter (fun r => decide (r.f0 = key))) = (fun p => if p = q then l.filter (fun r => decide (r.f0 = key)) else []) := by
    funext p
    unfold inPart
    rw [List.filter_filter]
    by_cases e : p = q
    · rw [if_pos e]
      apply List.filter_congr
      intro r _
      by_cases hk : r.f0 = key
      · simp [hk, hq, e]
      · simp [hk]
    · rw [if_neg e, List.filter_eq_nil_iff]
      intro r _
      by_cases hk : r.f0 = key
      · simp only [hk, hq, decide_true, Bool.true_and, decide_eq_true_eq]; omega
      · simp [hk]
  rw [this, single, if_pos (by omega)]

theorem sum_add (m : List Nat) (f g : Nat → Nat) : (m.map fun p => f p + g p).sum = (m.map f).sum + (m.map g).sum := by
  induction m with
  | nil => rfl
  | cons a m ih => simp only [List.map_cons, List.sum_cons, ih]; omega
theorem sum_one (m q : Nat) : ((List.range m).map fun p => if p = q then 1 else 0).sum = if q < m then 1 else 0 := by
  induction m with
  | zero => simp
  | succ m ih =>
    rw [List.range_succ, List.map_append, List.sum_append, ih]
    by_cases h : q < m
    · simp [h, show ¬ m = q by omega, show q < m + 1 by omega]
    · by_cases e : m = q
      · simp [e]
      · simp [h, e, show ¬ q < m + 1 by omega]
theorem flat_length (n : Int) (hn : 1 ≤ n) (l : List S30) : ((splitOf l n).flatten).length = l.length := by
  unfold splitOf
  rw [← List.flatMap_def, List.length_flatMap]
  induction l with
  | nil =>
    show ((List.range n.toNat).map fun _ => 0).sum = 0
    induction n.toNat with
    | zero => rfl
    | succ m ih => rw [List.range_succ, List.map_append, List.sum_append, ih]; rfl
  | cons r l ih =>
    have h0 := partOf_lo r.f0 n
    have h1 := partOf_hi r.f0 n hn
    obtain ⟨q, hq⟩ := Int.eq_ofNat_of_zero_le h0
    have : (fun p => (inPart (r :: l) n p).length) = fun p => (if p = q then 1 else 0) + (inPart l n p).length := by
      funext p
      unfold inPart
      rw [List.filter_cons, hq]
      by_cases e : p = q
      · simp [e]; omega
      · rw [if_neg (by simp; omega), if_neg e]; omega
    rw [show (List.map (fun p => (inPart (r :: l) n p).length) (List.range n.toNat)) = (List.range n.toNat).map (fun p => (if p = q then 1 else 0) + (inPart l n p).length) from by rw [this],
      sum_add, sum_one, if_pos (by omega), ih, List.length_cons]
    omega

theorem ap_l3 (inp all : List S30) (hl : all.length = inp.length) (hi : inp.length ≤ 1000000) (x : Nat) (hx : x < inp.length) (hend : Ev (fun k => tributarylaw2_RowsApart.l2 k inp all ((x + 1 : Nat) : Int)) true)
    (hsame : all.filter (fun r => decide (r.f0 = inp[x].f0)) = inp.filter (fun r => decide (r.f0 = inp[x].f0))) (d : Nat) : ∀ i, i + d = inp.length →
    Ev (fun k => tributarylaw2_RowsApart.l3 k inp all (x : Int) ((inp.take i).filter (fun r => decide (r.f0 = inp[x].f0))) ((all.take i).filter (fun r => decide (r.f0 = inp[x].f0))) (i : Int)) true := by
  induction d with
  | zero =>
    intro i hid
    rw [List.take_of_length_le (by omega), List.take_of_length_le (by omega), hsame]
    have hs := same_ev (inp.filter (fun r => decide (r.f0 = inp[x].f0))) (inp.filter (fun r => decide (r.f0 = inp[x].f0))) (Nat.le_trans (List.length_filter_le _ _) hi)
    rw [decide_eq_true (rfl : inp.filter (fun r => decide (r.f0 = inp[x].f0)) = _)] at hs
    refine Ev.step (f := fun k => (tributaryref2_Same.f k (inp.filter (fun r => decide (r.f0 = inp[x].f0))) (inp.filter (fun r => decide (r.f0 = inp[x].f0)))).bind fun t160 => (if t160 = true then (tributarylaw2_RowsApart.l2 k inp all (wrap64 ((x : Int) + 1))) else (some false))) (fun k => ?_) (Ev.bind hs ?_)
    · simp only [tributarylaw2_RowsApart.l3]
      rw [if_neg (by omega)]
    · simp only [if_true]
      rw [wrap_nat (n := inp.length) (by omega) (by omega)]
      exact hend
  | succ d ih =>
    intro i hid
    have h1 : i < inp.length := by omega
    have h2 : i < all.length := by omega
    have b1 : ((inp.take i).filter (fun r => decide (r.f0 = inp[x].f0))).length ≤ 1000000 := Nat.le_trans (List.length_filter_le _ _) (by rw [List.length_take]; omega)
    have b2 : ((all.take i).filter (fun r => decide (r.f0 = inp[x].f0))).length ≤ 1000000 := Nat.le_trans (List.length_filter_le _ _) (by rw [List.length_take]; omega)
    refine Ev.step (fun k => ?_) (ih (i + 1) (by omega))
    simp only [tributarylaw2_RowsApart.l3]
    rw [if_pos (by omega), if_pos (by omega), if_pos (by omega), if_pos (by omega), rdT_nat inp i h1, rdT_nat inp x hx, wrap_nat (n := inp.length) (by omega) (by omega)]
    rw [List.take_succ_eq_append_getElem h1, List.take_succ_eq_append_getElem h2, List.filter_append, List.filter_append]
    have T1 : ∀ r : S30, r.f0 = inp[x].f0 → List.filter (fun r => decide (r.f0 = inp[x].f0)) [r] = [r] := fun r h => by rw [List.filter_cons_of_pos (by simpa using h), List.filter_nil]
    have T2 : ∀ r : S30, ¬ r.f0 = inp[x].f0 → List.filter (fun r => decide (r.f0 = inp[x].f0)) [r] = [] := fun r h => by rw [List.filter_cons_of_neg (by simpa using h), List.filter_nil]
    by_cases e1 : inp[i].f0 = inp[x].f0
    · rw [if_pos e1, if_pos (by omega), T1 _ e1]
      simp only [Option.bind_some]
      rw [if_pos (by omega), rdT_nat all i h2]
      by_cases e2 : all[i].f0 = inp[x].f0
      · rw [if_pos e2, if_pos (by omega), T1 _ e2]
      · rw [if_neg e2, T2 _ e2, List.append_nil]
    · rw [if_neg e1, if_pos (by omega), rdT_nat all i h2, T2 _ e1, List.append_nil]
      by_cases e2 : all[i].f0 = inp[x].f0
      · rw [if_pos e2, if_pos (by omega), T1 _ e2]
      · rw [if_neg e2, T2 _ e2, List.append_nil]

theorem ap_l2 (inp all : List S30) (hl : all.length = inp.length) (hi : inp.length ≤ 1000000) (hsame : ∀ key : Int, all.filter (fun r => decide (r.f0 = key)) = inp.filter (fun r => decide (r.f0 = key))) (d : Nat) : ∀ x, x + d = inp.length →
    Ev (fun k => tributarylaw2_RowsApart.l2 k inp all (x : Int)) true := by
  induction d with
  | zero =>
    intro x hx
    refine Ev_some fun k => ?_
    simp only [tributarylaw2_RowsApart.l2]
    rw [if_neg (by omega)]
  | succ d ih =>
    intro x hx
    refine Ev.step (fun k => ?_) (ap_l3 inp all hl hi x (by omega) (ih (x + 1) (by omega)) (hsame _) inp.length 0 (by omega))
    simp only [tributarylaw2_RowsApart.l2]
    rw [if_pos (by omega)]
    simp

theorem ap_l1 (n : Int) (inp : List S30) (s : List (List S30)) (all : List S30) (p : Nat) (hp : p < s.length) (hpart : ∀ r ∈ s[p], partOf r.f0 n = (p : Int)) (ha : all.length ≤ 1000000) (hs : s[p].length ≤ 1000000) (hsl : s.length ≤ 1000000) {b : Bool}
    (hnext : Ev (fun k => tributarylaw2_RowsApart.l0 k n inp s (all ++ s[p]) ((p + 1 : Nat) : Int)) b) (d : Nat) : ∀ i, i + d = s[p].length → Ev (fun k => tributarylaw2_RowsApart.l1 k n inp s all (p : Int) (i : Int)) b := by
  induction d with
  | zero =>
    intro i hid
    refine Ev.step (fun k => ?_) hnext
    simp only [tributarylaw2_RowsApart.l1]
    rw [if_pos (by omega), if_pos (by omega), rdL_nat s p hp, if_neg (by omega), if_pos (by omega), wrap_nat (n := s.length) (by omega) (by omega)]
  | succ d ih =>
    intro i hid
    have h1 : i < s[p].length := by omega
    refine Ev.step (fun k => ?_) (ih (i + 1) (by omega))
    simp only [tributarylaw2_RowsApart.l1]
    rw [if_pos (by omega), if_pos (by omega), rdL_nat s p hp, if_pos (by omega), if_pos (by omega), rdT_nat _ i h1, part_f, hpart _ (List.getElem_mem h1)]
    simp only [Option.bind_some]
    rw [if_pos trivial, wrap_nat (n := s[p].length) (by omega) (by omega)]

theorem ap_l0 (n : Int) (inp : List S30) (s : List (List S30)) (hpart : ∀ (p : Nat) (hp : p < s.length), ∀ r ∈ s[p], partOf r.f0 n = (p : Int)) (hsl : (s.length : Int) = n) (hfl : s.flatten.length = inp.length) (hi : inp.length ≤ 1000000) (hn : n ≤ 1000000)
    (hsame : ∀ key : Int, s.flatten.filter (fun r => decide (r.f0 = key)) = inp.filter (fun r => decide (r.f0 = key))) (d : Nat) : ∀ p, p + d = s.length → Ev (fun k => tributarylaw2_RowsApart.l0 k n inp s ((s.take p).flatten) (p : Int)) true := by
  induction d with
  | zero =>
    intro p hp
    rw [List.take_of_length_le (by omega)]
    refine Ev.step (f := fun k => (tributarylaw2_told.f k).bind fun t159 => (if t159 = true then tributarylaw2_RowsApart.j2 k inp s.flatten ((s.flatten.length : Int) != (inp.length : Int)) else tributarylaw2_RowsApart.j2 k inp s.flatten true)) (fun k => ?_) (Ev.bind told_ev ?_)
    · simp only [tributarylaw2_RowsApart.l0]
      rw [if_neg (by omega), if_pos hsl]
    · simp only [if_true]
      refine Ev.step (fun k => ?_) (ap_l2 inp s.flatten hfl hi hsame inp.length 0 (by omega))
      simp only [tributarylaw2_RowsApart.j2]
      rw [if_neg (by rw [hfl]; simp)]
      rfl
  | succ d ih =>
    intro p hp
    have hlt : p < s.length := by omega
    have e : (s.take (p + 1)).flatten = (s.take p).flatten ++ s[p] := by rw [List.take_succ_eq_append_getElem hlt, List.flatten_append, List.flatten_singleton]
    have b1 : s.flatten = (s.take p).flatten ++ (s[p] ++ (s.drop (p + 1)).flatten) := by
      rw [← List.flatten_cons, ← List.drop_eq_getElem_cons hlt, ← List.flatten_append, List.take_append_drop]
    have b2 := congrArg List.length b1
    rw [List.length_append, List.length_append] at b2
    refine Ev.step (fun k => ?_) (ap_l1 n inp s (s.take p).flatten p hlt (hpart p hlt) (by omega) (by omega) (by omega) (by rw [← e]; exact ih (p + 1) (by omega)) s[p].length 0 (by omega))
    simp only [tributarylaw2_RowsApart.l0]
    rw [if_pos (by omega)]
    rfl

theorem RowsApart : tributarylaw2_RowsApart.Pure := by
  intro l a hl _ _
  apply Ev.rounds
  have hb : (wrap64 (Go.bits .and .i64 a 3 + 1)) = a % 4 + 1 := by
    rw [i64_and3]; unfold wrap64; omega
  have ht : (l.take 100).length ≤ 1000000 := by rw [List.length_take]; omega
  have hn : 1 ≤ a % 4 + 1 ∧ a % 4 + 1 ≤ 4 := by omega
  generalize hne : a % 4 + 1 = n at hb hn
  have key := ap_l0 n (l.take 100) (splitOf (l.take 100) n) (fun p hp r hr => by
    rw [splitOf_get] at hr
    simpa [inPart] using (List.mem_filter.1 hr).2) (by rw [splitOf_length]; omega) (flat_length n hn.1 _) ht (by omega) (key_flat _ n hn.1) (splitOf (l.take 100) n).length 0 (by omega)
  refine Ev.congr (f := fun k => (rows_Split.f k (l.take 100) n).bind fun t148 => tributarylaw2_RowsApart.l0 k n (l.take 100) t148 [] 0) (fun k => ?_) (Ev.bind (split_ev _ n hn.1 (by omega) ht) key)
  unfold tributarylaw2_RowsApart.f
  rw [few_f l 100 (by omega) (by omega) (by have := hl.1; unfold maxLen at this; omega)]
  simp only [Option.bind_some, hb]
  rfl

end Go.Proofs.Ytjcllneibeemgaa.Pure
