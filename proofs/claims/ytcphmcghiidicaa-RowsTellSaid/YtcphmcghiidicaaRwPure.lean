/- Proved: plain facts of the printed functions of Rows: parts, splits, lists that are the same, a few rows; no program in sight. -/
import Derived.Test.YtcphmcghiidicaaPRwx2
import Derived.Test.YtcphmcghiidicaaPRwx3
import Derived.IntWalk
namespace Go.Proofs.Ytcphmcghiidicaa.Pure
open Go.RowKit Go.Proofs.Ytcphmcghiidicaa.PRw Go.Proofs.YtcphmcghiidicaaW.PrintWords Go.Proofs.YtcphmcghiidicaaW.PrintLast Go.Proofs.YtcphmcghiidicaaW.PrintMore
set_option linter.unusedVariables false
set_option linter.unusedSimpArgs false

def partOf (k n : Int) : Int := if n < 2 then 0 else (IntKind.u64.wrap (IntKind.u64.wrap k * 11400714819323198485) / 8589934592) % n

theorem hash_bd (k : Int) : 0 ≤ IntKind.u64.wrap (IntKind.u64.wrap k * 11400714819323198485) / 8589934592 ∧ IntKind.u64.wrap (IntKind.u64.wrap k * 11400714819323198485) / 8589934592 ≤ 2147483647 := by
  rw [IntKind.wrap_u64 (IntKind.u64.wrap k * 11400714819323198485)]
  generalize IntKind.u64.wrap k * 11400714819323198485 = y
  omega

theorem part_f (k n : Int) : rows_Part.f k n = some (partOf k n) := by
  unfold rows_Part.f partOf
  by_cases h : n < 2
  · rw [if_pos h, if_pos h]
  · rw [if_neg h, if_neg h, if_neg (by omega)]
    have hb := hash_bd k
    generalize IntKind.u64.wrap (IntKind.u64.wrap k * 11400714819323198485) / 8589934592 = y at hb ⊢
    rw [show wrap64 y = y by unfold wrap64; omega, Int.tmod_eq_emod_of_nonneg hb.1]

theorem partOf_lo (k n : Int) : 0 ≤ partOf k n := by
  unfold partOf; split
  · omega
  · exact Int.emod_nonneg _ (by omega)

theorem partOf_hi (k n : Int) (h : 1 ≤ n) : partOf k n < n := by
  unfold partOf; split
  · omega
  · exact Int.emod_lt_of_pos _ (by omega)

instance : DecidableEq S35 := fun a b => decidable_of_iff (a.f0 = b.f0 ∧ a.f1 = b.f1) ⟨fun h => by cases a; cases b; simp at h; simp [h], fun h => by rw [h]; exact ⟨rfl, rfl⟩⟩

theorem Ev_some {α : Type} {g : Nat → Option α} {r : α} (h : ∀ k, g (k + 1) = some r) : Ev g r := Ev.step (f := fun _ => some r) h (Ev.now r)

theorem wrap_nat {i n : Nat} (h : i ≤ n) (hn : n ≤ 4611686018427387904) : wrap64 ((i : Int) + 1) = ((i + 1 : Nat) : Int) := by
  unfold wrap64; omega

theorem rdT_nat (l : List S35) (i : Nat) (h : i < l.length) : rd_T35 l (i : Int) = l[i] := by
  unfold rd_T35
  rw [Int.toNat_natCast, List.getD_eq_getElem?_getD, List.getElem?_eq_getElem h]; rfl

theorem rdL_nat (l : List (List S35)) (i : Nat) (h : i < l.length) : rd_L2 l (i : Int) = l[i] := by
  unfold rd_L2
  rw [Int.toNat_natCast, List.getD_eq_getElem?_getD, List.getElem?_eq_getElem h]; rfl

/-- The rows of a part. -/
def inPart (l : List S35) (n : Int) (p : Nat) : List S35 := l.filter fun r => decide (partOf r.f0 n = (p : Int))
/-- What splitting tells. -/
def splitOf (l : List S35) (n : Int) : List (List S35) := (List.range n.toNat).map (inPart l n)

theorem splitOf_length (l : List S35) (n : Int) : (splitOf l n).length = n.toNat := by simp [splitOf]
theorem splitOf_get (l : List S35) (n : Int) (p : Nat) (h : p < (splitOf l n).length) : (splitOf l n)[p] = inPart l n p := by simp [splitOf]

theorem splitOf_nil (n : Int) : splitOf [] n = List.replicate n.toNat [] := by
  apply List.ext_getElem
  · simp [splitOf]
  · intro i h1 h2
    simp [splitOf, inPart]

theorem splitOf_snoc (l : List S35) (n : Int) (r : S35) (p : Nat) (hp : (p : Int) = partOf r.f0 n) (hn : p < n.toNat) :
    (splitOf l n).set p (inPart l n p ++ [r]) = splitOf (l ++ [r]) n := by
  apply List.ext_getElem
  · simp [splitOf]
  · intro i h1 h2
    rw [splitOf_get, List.getElem_set]
    split
    · next e =>
      subst e
      simp [inPart, List.filter_append, ← hp]
    · next e =>
      rw [splitOf_get]
      have : ¬ (partOf r.f0 n = (i : Int)) := by rw [← hp]; omega
      simp [inPart, List.filter_append, this]

theorem split_l0 (n : Int) (hn : 1 ≤ n) (l : List S35) (hl : l.length ≤ 1000000) (d : Nat) : ∀ (i : Nat), i + d = l.length →
    Ev (fun k => rows_Split.l0 k n (splitOf (l.take i) n) l (l.length : Int) (i : Int)) (splitOf l n) := by
  induction d with
  | zero =>
    intro i hi
    refine Ev_some fun k => ?_
    simp only [rows_Split.l0]
    rw [if_neg (by omega), List.take_of_length_le (by omega)]
  | succ d ih =>
    intro i hi
    have hlt : i < l.length := by omega
    refine Ev.step (fun k => ?_) (ih (i + 1) (by omega))
    simp only [rows_Split.l0]
    rw [if_pos (by omega), if_pos (by omega), if_pos (by omega), part_f, rdT_nat l i hlt]
    simp only [Option.bind_some]
    have h0 := partOf_lo l[i].f0 n
    have h1 := partOf_hi l[i].f0 n hn
    obtain ⟨p, hp⟩ := Int.eq_ofNat_of_zero_le h0
    have hpl : p < (splitOf (l.take i) n).length := by rw [splitOf_length]; omega
    rw [hp, if_pos (by omega), if_pos (by omega), rdL_nat _ _ hpl, splitOf_get]
    have hle : (inPart (l.take i) n p).length ≤ 1000000 := by
      refine Nat.le_trans (List.length_filter_le _ _) ?_
      rw [List.length_take]; omega
    rw [if_pos (by omega), Int.toNat_natCast, show (⟨l[i].f0, l[i].f1⟩ : S35) = l[i] from rfl, splitOf_snoc _ _ _ _ hp.symm (by omega), wrap_nat (n := l.length) (by omega) (by omega),
      List.take_succ_eq_append_getElem hlt]

theorem split_ev (l : List S35) (n : Int) (hn : 1 ≤ n) (hn2 : n ≤ 1000000) (hl : l.length ≤ 1000000) : Ev (fun k => rows_Split.f k l n) (splitOf l n) := by
  refine Ev.congr (fun k => ?_) (split_l0 n hn l hl l.length 0 (by omega))
  unfold rows_Split.f
  rw [if_neg (by omega), if_pos (by omega), if_pos (by omega)]
  rw [List.take_zero, splitOf_nil]; rfl

theorem same_l0 (a b : List S35) (hab : a.length = b.length) (ha : a.length ≤ 1000000) (d : Nat) : ∀ i : Nat, i + d = a.length → Ev (fun k => tributaryref2_Same.l0 k a b (i : Int)) (decide (a.drop i = b.drop i)) := by
  induction d with
  | zero =>
    intro i hi
    refine Ev_some fun k => ?_
    simp only [tributaryref2_Same.l0]
    rw [if_neg (by omega), List.drop_eq_nil_of_le (by omega), List.drop_eq_nil_of_le (by omega)]
    simp
  | succ d ih =>
    intro i hi
    have h1 : i < a.length := by omega
    have h2 : i < b.length := by omega
    have hd : (a.drop i = b.drop i) ↔ (a[i] = b[i] ∧ a.drop (i + 1) = b.drop (i + 1)) := by
      rw [List.drop_eq_getElem_cons h1, List.drop_eq_getElem_cons h2, List.cons.injEq]
    by_cases e : a[i] = b[i]
    · rw [show decide (a.drop i = b.drop i) = decide (a.drop (i + 1) = b.drop (i + 1)) by simp [hd, e]]
      refine Ev.step (fun k => ?_) (ih (i + 1) (by omega))
      simp only [tributaryref2_Same.l0]
      rw [if_pos (by omega), if_pos (by omega), if_pos (by omega), rdT_nat a i h1, rdT_nat b i h2, e, if_neg (by simp), wrap_nat (n := a.length) (by omega) (by omega)]
    · rw [show decide (a.drop i = b.drop i) = false by simp [hd, e]]
      refine Ev_some fun k => ?_
      simp only [tributaryref2_Same.l0]
      rw [if_pos (by omega), if_pos (by omega), if_pos (by omega), rdT_nat a i h1, rdT_nat b i h2, if_pos]
      have e' : ¬ (a[i].f0 = b[i].f0 ∧ a[i].f1 = b[i].f1) := fun h => e (by
        cases hx : a[i]; cases hy : b[i]; simp [hx, hy] at h; simp [h])
      by_cases hh : a[i].f0 = b[i].f0
      · have : ¬ a[i].f1 = b[i].f1 := fun h => e' ⟨hh, h⟩
        simp [this]
      · simp [hh]

theorem same_ev (a b : List S35) (ha : a.length ≤ 1000000) : Ev (fun k => tributaryref2_Same.f k a b) (decide (a = b)) := by
  by_cases hab : a.length = b.length
  · have := same_l0 a b hab ha a.length 0 (by omega)
    simp only [List.drop_zero] at this
    refine Ev.congr (fun k => ?_) this
    unfold tributaryref2_Same.f
    rw [if_pos (by omega)]; rfl
  · rw [show decide (a = b) = false by simp; intro h; exact hab (by rw [h])]
    refine Ev.congr (f := fun _ => some false) (fun k => ?_) (Ev.now false)
    unfold tributaryref2_Same.f
    rw [if_neg (by omega)]

theorem few_f (l : List S35) (m : Int) (h0 : 0 ≤ m) (hm : m ≤ 1000000) (hl : l.length ≤ 9223372036854775807) : tributarylaw2_few.f l m = some (l.take m.toNat) := by
  unfold tributarylaw2_few.f
  have e : (mn (l.length : Int) m).toNat = (l.take m.toNat).length := by
    unfold mn; rw [List.length_take]; split <;> omega
  have e1 : 0 ≤ mn (l.length : Int) m := by unfold mn; split <;> omega
  have e2 : mn (l.length : Int) m ≤ (l.length : Int) := by unfold mn; split <;> omega
  have e3 : mn (l.length : Int) m ≤ m := by unfold mn; split <;> omega
  have e4 : l.take (mn (l.length : Int) m).toNat = l.take m.toNat := by
    rw [List.take_eq_take_iff, e, List.length_take]; omega
  have e5 : (l.take m.toNat).length ≤ 1000000 := by rw [List.length_take]; omega
  rw [if_pos e1, if_pos e2, e4]
  simp only [Option.bind_some, List.nil_append, List.length_nil]
  rw [if_pos (by omega), if_pos (by simp only [List.length_cons, List.length_nil]; omega), if_pos (by rw [List.length_append]; omega), e]
  simp

theorem i64_and3 (n : Int) : Go.bits .and .i64 n 3 = n % 4 := by
  have h127 : (BitVec.ofInt 64 3).toNat = 2 ^ 2 - 1 := by decide
  have key : (BitVec.ofInt 64 n &&& BitVec.ofInt 64 3).toNat = (n % ((2 ^ 64 : Nat) : Int)).toNat % 2 ^ 2 := by
    rw [BitVec.toNat_and, BitVec.toNat_ofInt, h127, Nat.and_two_pow_sub_one_eq_mod]
  show IntKind.i64.wrap ((BitVec.ofInt 64 n &&& BitVec.ofInt 64 3).toNat : Nat) = n % 4
  rw [key, IntKind.wrap_i64]
  omega

theorem told_f : tributarylaw2_told.f 2 = some true := by decide +kernel
theorem told_ev : Ev (fun k => tributarylaw2_told.f k) true := Ev.of tributarylaw2_told.mono told_f
theorem cut_f (L : List S35) (hL : L.length ≤ 1000000) : rows_Cut.f L = some (L.take 64) := by
  have e : (mn (L.length : Int) 64).toNat = min L.length 64 := by unfold mn; split <;> omega
  have h0 : 0 ≤ mn (L.length : Int) 64 := by unfold mn; split <;> omega
  have h1 : mn (L.length : Int) 64 ≤ (L.length : Int) := by unfold mn; split <;> omega
  have e2 : L.take (min L.length 64) = L.take 64 := by rw [List.take_eq_take_iff]; omega
  unfold rows_Cut.f
  rw [if_pos h0, if_pos h1, Option.bind_some, e, e2, if_pos (by simp only [List.length_nil, List.length_take]; omega)]
  rfl
end Go.Proofs.Ytcphmcghiidicaa.Pure
