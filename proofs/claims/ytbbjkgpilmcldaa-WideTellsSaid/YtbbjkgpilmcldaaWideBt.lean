/- Proved: what the laws of Wide share: a few rows, rows that are the same, what is told of a few; no condition. -/
import Derived.Test.YtbbjkgpilmcldaaPWtx2
import Derived.Test.YtbbjkgpilmcldaaWideF
import Derived.Test.YtbbjkgpilmcldaaPWtg
import Derived.IntWalk
namespace Go.Proofs.Ytbbjkgpilmcldaa.Pure
open Go.RowKit Go.Proofs.Ytbbjkgpilmcldaa.PWt Go.Proofs.Ytbbjkgpilmcldaa.Seq Go.Proofs.YtbbjkgpilmcldaaW.PrintWords Go.Proofs.YtbbjkgpilmcldaaW.PrintLast Go.Proofs.YtbbjkgpilmcldaaW.PrintMore
set_option linter.unusedVariables false
set_option linter.unusedSimpArgs false
instance : DecidableEq S30 := fun a b => decidable_of_iff (a.f0 = b.f0 ∧ a.f1 = b.f1) ⟨fun h => by cases a; cases b; simp at h; simp [h], fun h => by rw [h]; exact ⟨rfl, rfl⟩⟩

theorem Ev_some {α : Type} {g : Nat → Option α} {r : α} (h : ∀ k, g (k + 1) = some r) : Ev g r := Ev.step (f := fun _ => some r) h (Ev.now r)

theorem wrap_nat {i n : Nat} (h : i ≤ n) (hn : n ≤ 4611686018427387904) : wrap64 ((i : Int) + 1) = ((i + 1 : Nat) : Int) := by
  unfold wrap64; omega

theorem rdT_nat (l : List S30) (i : Nat) (h : i < l.length) : rd_T30 l (i : Int) = l[i] := by
  unfold rd_T30
  rw [Int.toNat_natCast, List.getD_eq_getElem?_getD, List.getElem?_eq_getElem h]; rfl

theorem same_l0 (a b : List S30) (hab : a.length = b.length) (ha : a.length ≤ 1000000) (d : Nat) : ∀ i : Nat, i + d = a.length → Ev (fun k => tributaryref2_Same.l0 k a b (i : Int)) (decide (a.drop i = b.drop i)) := by
  induction d with
  | zero =>
    intro i hi
    refine Ev_some fun k => ?_
    simp only [tributaryref2_Same.l0]
    rw [if_neg (by omega), List.drop_eq_nil_of_le (by omega), List.drop_eq_nil_of_le (by omega)]
    simp
  | succ d ih =>
    intro i hi
    have h1 : i < a.length := by omega
    have h2 : i < b.length := by omega
    have hd : (a.drop i = b.drop i) ↔ (a[i] = b[i] ∧ a.drop (i + 1) = b.drop (i + 1)) := by
      rw [List.drop_eq_getElem_cons h1, List.drop_eq_getElem_cons h2, List.cons.injEq]
    by_cases e : a[i] = b[i]
    · rw [show decide (a.drop i = b.drop i) = decide (a.drop (i + 1) = b.drop (i + 1)) by simp [hd, e]]
      refine Ev.step (fun k => ?_) (ih (i + 1) (by omega))
      simp only [tributaryref2_Same.l0]
      rw [if_pos (by omega), if_pos (by omega), if_pos (by omega), rdT_nat a i h1, rdT_nat b i h2, e, if_neg (by simp), wrap_nat (n := a.length) (by omega) (by omega)]
    · rw [show decide (a.drop i = b.drop i) = false by simp [hd, e]]
      refine Ev_some fun k => ?_
      simp only [tributaryref2_Same.l0]
      rw [if_pos (by omega), if_pos (by omega), if_pos (by omega), rdT_nat a i h1, rdT_nat b i h2, if_pos]
      have e' : ¬ (a[i].f0 = b[i].f0 ∧ a[i].f1 = b[i].f1) := fun h => e (by
        cases hx : a[i]; cases hy : b[i]; simp [hx, hy] at h; simp [h])
      by_cases hh : a[i].f0 = b[i].f0
      · have : ¬ a[i].f1 = b[i].f1 := fun h => e' ⟨hh, h⟩
        simp [this]
      · simp [hh]

theorem same_ev (a b : List S30) (ha : a.length ≤ 1000000) : Ev (fun k => tributaryref2_Same.f k a b) (decide (a = b)) := by
  by_cases hab : a.length = b.length
  · have := same_l0 a b hab ha a.length 0 (by omega)
    simp only [List.drop_zero] at this
    refine Ev.congr (fun k => ?_) this
    unfold tributaryref2_Same.f
    rw [if_pos (by omega)]; rfl
  · rw [show decide (a = b) = false by simp; intro h; exact hab (by rw [h])]
    refine Ev.congr (f := fun _ => some false) (fun k => ?_) (Ev.now false)
    unfold tributaryref2_Same.f
    rw [if_neg (by omega)]

theorem few4_f (l : List S30) (m : Int) (h0 : 0 ≤ m) (hm : m ≤ 1000000) : tributarylaw4_few.f l m = some (l.take m.toNat) := by
  unfold tributarylaw4_few.f
  have e : (mn (l.length : Int) m).toNat = (l.take m.toNat).length := by
    unfold mn; rw [List.length_take]; split <;> omega
  have e1 : 0 ≤ mn (l.length : Int) m := by unfold mn; split <;> omega
  have e2 : mn (l.length : Int) m ≤ (l.length : Int) := by unfold mn; split <;> omega
  have e4 : l.take (mn (l.length : Int) m).toNat = l.take m.toNat := by
    rw [List.take_eq_take_iff, e, List.length_take]; omega
  have e5 : (l.take m.toNat).length ≤ 1000000 := by rw [List.length_take]; omega
  rw [if_pos e1, if_pos e2, e4]
  simp only [Option.bind_some, List.nil_append, List.length_nil]
  rw [if_pos (by omega)]
theorem bits16 (n : Int) : 0 ≤ Go.bits .and .i64 n 65535 ∧ Go.bits .and .i64 n 65535 < 65536 := by
  have h127 : (BitVec.ofInt 64 65535).toNat = 2 ^ 16 - 1 := by decide
  have key : (BitVec.ofInt 64 n &&& BitVec.ofInt 64 65535).toNat = (n % ((2 ^ 64 : Nat) : Int)).toNat % 2 ^ 16 := by
    rw [BitVec.toNat_and, BitVec.toNat_ofInt, h127, Nat.and_two_pow_sub_one_eq_mod]
  have e : Go.bits .and .i64 n 65535 = IntKind.i64.wrap ((BitVec.ofInt 64 n &&& BitVec.ofInt 64 65535).toNat : Nat) := rfl
  rw [e, key, IntKind.wrap_i64]
  omega
/-- The function's number. -/
theorem fnum (n : Int) : ∃ f : Nat, f ≤ 5 ∧ Int.tmod (Go.bits .and .i64 n 65535) 6 = (f : Int) := by
  have h := bits16 n
  refine ⟨(Int.tmod (Go.bits .and .i64 n 65535) 6).toNat, ?_, ?_⟩
  · rw [Int.tmod_eq_emod_of_nonneg h.1]; omega
  · rw [Int.tmod_eq_emod_of_nonneg h.1]; omega
theorem fold_f {f : Nat} (hf : f ≤ 5) {a b : List S30} (h1 : rowsFit a) (h2 : rowsFit b) : wide_Fold.f (f : Int) a b = some (foldF f a b) := by
  unfold wide_Fold.f foldA
  rw [if_pos ⟨h1, h2⟩, if_pos ⟨by omega, by omega⟩, Int.toNat_natCast]
theorem reduce_f {f : Nat} (hf : f ≤ 5) {a : List S30} (h1 : rowsFit a) : wide_Reduce.f (f : Int) a = some (foldF f [] a) := by
  unfold wide_Reduce.f foldA
  rw [if_pos h1, if_pos ⟨by omega, by omega⟩, Int.toNat_natCast]
theorem join_f {f : Nat} (hf : f ≤ 3) {a b : List S30} (h1 : rowsFit a) (h2 : rowsFit b) : wide_Join.f (f : Int) a b = some (joinF f a b) := by
  unfold wide_Join.f joinA
  rw [if_pos ⟨h1, h2⟩, if_pos ⟨by omega, by omega⟩, Int.toNat_natCast]
theorem told_ev : Ev (fun k => tributarylaw4_told.f k) true := by
  have ha : rowsFit ([(⟨2, 5⟩ : S30), ⟨1, 7⟩, ⟨2, 6⟩]) := by decide
  have hb : rowsFit ([(⟨1, 1⟩ : S30)]) := by decide
  have hc : rowsFit ([(⟨1, 10⟩ : S30), ⟨2, 5⟩]) := by decide
  have hd : rowsFit ([(⟨1, 4⟩ : S30)]) := by decide
  have he : rowsFit ([(⟨1, 9⟩ : S30), ⟨2, 9⟩, ⟨2, 9⟩]) := by decide
  have k1 : keysS ([] ++ [(⟨2, 5⟩ : S30), ⟨1, 7⟩, ⟨2, 6⟩]) = [1, 2] := keysS_eq (by decide) (fun k => by simp [hasK]; omega)
  have k2 : keysS [(⟨1, 1⟩ : S30)] = [1] := keysS_eq (by decide) (fun k => by simp [hasK]; omega)
  have k3 : keysS ([(⟨1, 4⟩ : S30)] ++ [(⟨1, 9⟩ : S30), ⟨2, 9⟩, ⟨2, 9⟩]) = [1, 2] := keysS_eq (by decide) (fun k => by simp [hasK]; omega)
  have e1 : foldF 0 [] [(⟨2, 5⟩ : S30), ⟨1, 7⟩, ⟨2, 6⟩] = [⟨1, 7⟩, ⟨2, 11⟩] := by rw [foldF_map, k1]; decide +kernel
  have e2 : joinF 0 [(⟨1, 1⟩ : S30)] [(⟨1, 10⟩ : S30), ⟨2, 5⟩] = [⟨1, 11⟩] := by unfold joinF; rw [k2]; decide +kernel
  have e3 : foldF 3 [(⟨1, 4⟩ : S30)] [(⟨1, 9⟩ : S30), ⟨2, 9⟩, ⟨2, 9⟩] = [⟨1, 5⟩, ⟨2, 2⟩] := by rw [foldF_map, k3]; decide +kernel
  have s1 := same_ev (foldF 0 [] [(⟨2, 5⟩ : S30), ⟨1, 7⟩, ⟨2, 6⟩]) [⟨1, 7⟩, ⟨2, 11⟩] (by have := foldF_len 0 [] [(⟨2, 5⟩ : S30), ⟨1, 7⟩, ⟨2, 6⟩]; omega)
  have s2 := same_ev (joinF 0 [(⟨1, 1⟩ : S30)] [(⟨1, 10⟩ : S30), ⟨2, 5⟩]) [⟨1, 11⟩] (by rw [e2]; decide)
  have s3 := same_ev (foldF 3 [(⟨1, 4⟩ : S30)] [(⟨1, 9⟩ : S30), ⟨2, 9⟩, ⟨2, 9⟩]) [⟨1, 5⟩, ⟨2, 2⟩] (by have := foldF_len 3 [(⟨1, 4⟩ : S30)] [(⟨1, 9⟩ : S30), ⟨2, 9⟩, ⟨2, 9⟩]; omega)
  rw [decide_eq_true e1] at s1
  rw [decide_eq_true e2] at s2
  rw [decide_eq_true e3] at s3
  obtain ⟨K1, s1⟩ := s1
  obtain ⟨K2, s2⟩ := s2
  obtain ⟨K3, s3⟩ := s3
  refine ⟨K1 + K2 + K3, fun k hk => ?_⟩
  have r1 : wide_Reduce.f 0 [(⟨2, 5⟩ : S30), ⟨1, 7⟩, ⟨2, 6⟩] = some (foldF 0 [] [(⟨2, 5⟩ : S30), ⟨1, 7⟩, ⟨2, 6⟩]) := reduce_f (f := 0) (by omega) ha
  have r2 : wide_Join.f 0 [(⟨1, 1⟩ : S30)] [(⟨1, 10⟩ : S30), ⟨2, 5⟩] = some (joinF 0 [(⟨1, 1⟩ : S30)] [(⟨1, 10⟩ : S30), ⟨2, 5⟩]) := join_f (f := 0) (by omega) hb hc
  have r3 : wide_Fold.f 3 [(⟨1, 4⟩ : S30)] [(⟨1, 9⟩ : S30), ⟨2, 9⟩, ⟨2, 9⟩] = some (foldF 3 [(⟨1, 4⟩ : S30)] [(⟨1, 9⟩ : S30), ⟨2, 9⟩, ⟨2, 9⟩]) := fold_f (f := 3) (by omega) hd he
  dsimp only at s1 s2 s3 ⊢
  unfold tributarylaw4_told.f
  rw [r1, Option.bind_some, r2, Option.bind_some, r3, Option.bind_some, s1 k (by omega), Option.bind_some, if_pos rfl, s2 k (by omega), Option.bind_some, if_pos rfl, s3 k (by omega), Option.bind_some]
end Go.Proofs.Ytbbjkgpilmcldaa.Pure
