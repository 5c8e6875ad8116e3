/- Proved: the pure statement of WideTells. -/
import Derived.Test.YtbbjkgpilmcldaaWideBt
import Derived.Test.YtbbjkgpilmcldaaPWideTellsq
namespace Go.Proofs.Ytbbjkgpilmcldaa.Pure
open Go.RowKit Go.Proofs.Ytbbjkgpilmcldaa.PWt Go.Proofs.Ytbbjkgpilmcldaa.Seq Go.Proofs.YtbbjkgpilmcldaaW.PrintWords Go.Proofs.YtbbjkgpilmcldaaW.PrintLast Go.Proofs.YtbbjkgpilmcldaaW.PrintMore
set_option linter.unusedVariables false
set_option linter.unusedSimpArgs false
theorem rfit_take {l : List S30} (h : ∀ y ∈ l, okRow y) (n : Nat) (hn : n ≤ 200) : rowsFit (l.take n) := ⟨by rw [List.length_take]; omega, fun r hr => h r (List.mem_of_mem_take hr)⟩
theorem foldA_len (f : Int) (a b : List RowT) : (foldA f a b).length ≤ 64 := by
  unfold foldA
  split
  · exact (foldF_len _ a b).1
  · exact Nat.zero_le _
theorem joinA_len (f : Int) (a b : List RowT) : (joinA f a b).length ≤ 64 := by
  unfold joinA joinF
  split
  · rw [List.length_take]; omega
  · exact Nat.zero_le _
theorem appA_len (q0 q3 q4 : Int) (a b c : List RowT) : (appA q0 q3 q4 a b c).length ≤ 64 := by
  unfold appA
  repeat' split
  all_goals first
    | exact foldA_len _ _ _
    | exact joinA_len _ _ _
    | exact Nat.zero_le _
theorem l0_ev (x1 x2 x3 : List S30) (a0 a1 a2 a3 a4 : Int) (h1 : ∀ y ∈ x1, okRow y) (h2 : ∀ y ∈ x2, okRow y) (h3 : ∀ y ∈ x3, okRow y) (d : Nat) : ∀ (s : List S30) (i : Nat), s.length ≤ 64 → i + d = s.length →
    Ev (fun k => tributarylaw4_WideTells.l0 k x1 x2 x3 (x1.take 100) (x2.take 100) (x3.take 100) s (i : Int) a0 a1 a2 a3 a4) true := by
  induction d with
  | zero =>
    intro s i hs hi
    obtain rfl : i = s.length := by omega
    have hL := appA_len a0 a3 a4 (x1.take 100) (x2.take 100) (x3.take 100)
    obtain ⟨K1, s1⟩ := same_ev (appA a0 a3 a4 (x1.take 100) (x2.take 100) (x3.take 100)) (appA a0 a3 a4 (x1.take 100) (x2.take 100) (x3.take 100)) (by omega)
    obtain ⟨K2, s2⟩ := same_ev (x1.take 100) (x1.take 100) (by rw [List.length_take]; omega)
    obtain ⟨K3, s3⟩ := same_ev (x2.take 100) (x2.take 100) (by rw [List.length_take]; omega)
    obtain ⟨K4, s4⟩ := same_ev (x3.take 100) (x3.take 100) (by rw [List.length_take]; omega)
    rw [decide_eq_true rfl] at s1 s2 s3 s4
    dsimp only at s1 s2 s3 s4
    have hf : rowsFit (x1.take 100) ∧ rowsFit (x2.take 100) ∧ rowsFit (x3.take 100) := ⟨rfit_take h1 100 (by omega), rfit_take h2 100 (by omega), rfit_take h3 100 (by omega)⟩
    have e1 : wide_Apply.f a0 a1 a2 a3 a4 (x1.take 100) (x2.take 100) (x3.take 100) = some (appA a0 a3 a4 (x1.take 100) (x2.take 100) (x3.take 100)) := if_pos hf
    have e2 : tributaryref4_Apply.f a0 a1 a2 a3 a4 (x1.take 100) (x2.take 100) (x3.take 100) = some (appA a0 a3 a4 (x1.take 100) (x2.take 100) (x3.take 100)) := if_pos hf
    have t : ∀ x : List S30, x.take ((x.take 100).length : Int).toNat = x.take 100 := fun x => by
      rw [Int.toNat_natCast, List.take_eq_take_iff, List.length_take]; omega
    have u : ∀ x : List S30, ((x.take 100).length : Int) ≤ (x.length : Int) := fun x => by rw [List.length_take]; omega
    refine ⟨K1 + K2 + K3 + K4 + 1, fun k hk => ?_⟩
    obtain ⟨k, rfl⟩ : ∃ j, k = j + 1 := ⟨k - 1, by omega⟩
    have z : ∀ n : Nat, (0 : Int) ≤ (n : Int) := fun n => by omega
    show tributarylaw4_WideTells.l0 (k + 1) x1 x2 x3 (x1.take 100) (x2.take 100) (x3.take 100) s (s.length : Int) a0 a1 a2 a3 a4 = some true
    rw [tributarylaw4_WideTells.l0, if_neg (by omega), e1, Option.bind_some, e2, Option.bind_some, s1 k (by omega), Option.bind_some, if_pos rfl, if_pos (z _), if_pos (u x1), t x1, s2 k (by omega), Option.bind_some, if_pos rfl,
      if_pos (z _), if_pos (u x2), t x2, s3 k (by omega), Option.bind_some, if_pos rfl, if_pos (z _), if_pos (u x3), t x3, s4 k (by omega), Option.bind_some]
  | succ d ih =>
    intro s i hs hi
    refine Ev.step (f := fun k => tributarylaw4_WideTells.l0 k x1 x2 x3 (x1.take 100) (x2.take 100) (x3.take 100) (s.set i ⟨(-9), 0⟩) ((i + 1 : Nat) : Int) a0 a1 a2 a3 a4) (fun k => ?_) (ih (s.set i ⟨(-9), 0⟩) (i + 1) (by rw [List.length_set]; omega) (by rw [List.length_set]; omega))
    show tributarylaw4_WideTells.l0 (k + 1) x1 x2 x3 (x1.take 100) (x2.take 100) (x3.take 100) s (i : Int) a0 a1 a2 a3 a4 = _
    rw [tributarylaw4_WideTells.l0, if_pos (by omega), if_pos (by omega), wrap_nat (n := 64) (by omega) (by omega), Int.toNat_natCast]
theorem WideTells : tributarylaw4_WideTells.Pure := by
  intro a0 a1 a2 a3 a4 x1 x2 x3 _ h1 g1 h2 g2 h3 g3
  have hf1 := rfit_take h1.2 100 (by omega)
  have hf2 := rfit_take h2.2 100 (by omega)
  have hf3 := rfit_take h3.2 100 (by omega)
  have hf : rowsFit (x1.take 100) ∧ rowsFit (x2.take 100) ∧ rowsFit (x3.take 100) := ⟨hf1, hf2, hf3⟩
  have c1 : tributarylaw4_few.f x1 100 = some (x1.take 100) := few4_f x1 100 (by decide) (by decide)
  have c2 : tributarylaw4_few.f x2 100 = some (x2.take 100) := few4_f x2 100 (by decide) (by decide)
  have c3 : tributarylaw4_few.f x3 100 = some (x3.take 100) := few4_f x3 100 (by decide) (by decide)
  have e1 : wide_Reduce.f a3 (x1.take 100) = some (foldA a3 [] (x1.take 100)) := if_pos hf1
  have e2 : wide_Join.f a3 (x1.take 100) (x2.take 100) = some (joinA a3 (x1.take 100) (x2.take 100)) := if_pos ⟨hf1, hf2⟩
  have e3 : wide_Fold.f a3 (x3.take 100) (x1.take 100) = some (foldA a3 (x3.take 100) (x1.take 100)) := if_pos ⟨hf3, hf1⟩
  have e4 : wide_Apply.f a0 a1 a2 a3 a4 (x1.take 100) (x2.take 100) (x3.take 100) = some (appA a0 a3 a4 (x1.take 100) (x2.take 100) (x3.take 100)) := if_pos hf
  have r1 : tributaryref4_Reduce.f a3 (x1.take 100) = some (foldA a3 [] (x1.take 100)) := if_pos hf1
  have r2 : tributaryref4_Join.f a3 (x1.take 100) (x2.take 100) = some (joinA a3 (x1.take 100) (x2.take 100)) := if_pos ⟨hf1, hf2⟩
  have r3 : tributaryref4_Fold.f a3 (x3.take 100) (x1.take 100) = some (foldA a3 (x3.take 100) (x1.take 100)) := if_pos ⟨hf3, hf1⟩
  have r4 : tributaryref4_Apply.f a0 a1 a2 a3 a4 (x1.take 100) (x2.take 100) (x3.take 100) = some (appA a0 a3 a4 (x1.take 100) (x2.take 100) (x3.take 100)) := if_pos hf
  obtain ⟨K0, s0⟩ := told_ev
  obtain ⟨K1, s1⟩ := same_ev (foldA a3 [] (x1.take 100)) (foldA a3 [] (x1.take 100)) (by have := foldA_len a3 [] (x1.take 100); omega)
  obtain ⟨K2, s2⟩ := same_ev (joinA a3 (x1.take 100) (x2.take 100)) (joinA a3 (x1.take 100) (x2.take 100)) (by have := joinA_len a3 (x1.take 100) (x2.take 100); omega)
  obtain ⟨K3, s3⟩ := same_ev (foldA a3 (x3.take 100) (x1.take 100)) (foldA a3 (x3.take 100) (x1.take 100)) (by have := foldA_len a3 (x3.take 100) (x1.take 100); omega)
  have hL := appA_len a0 a3 a4 (x1.take 100) (x2.take 100) (x3.take 100)
  obtain ⟨S, hS⟩ : ∃ S, appA a0 a3 a4 (x1.take 100) (x2.take 100) (x3.take 100) = S := ⟨_, rfl⟩
  rw [hS] at hL e4 r4
  obtain ⟨K4, s4⟩ := same_ev S S (by omega)
  obtain ⟨K5, s5⟩ := l0_ev x1 x2 x3 a0 a1 a2 a3 a4 h1.2 h2.2 h3.2 S.length S 0 hL (by omega)
  rw [decide_eq_true rfl] at s1 s2 s3 s4
  dsimp only at s1 s2 s3 s4
  refine ⟨K0 + K1 + K2 + K3 + K4 + K5 + 1, ?_⟩
  obtain ⟨k, hk⟩ : ∃ k, K0 + K1 + K2 + K3 + K4 + K5 = k := ⟨_, rfl⟩
  rw [hk]
  have s0' := s0 (k + 1) (by omega)
  have s5' := s5 k (by omega)
  dsimp only at s0' s5'
  unfold tributarylaw4_WideTells.f
  rw [c1, Option.bind_some, c2, Option.bind_some, c3, Option.bind_some, e1, Option.bind_some, e2, Option.bind_some, e3, Option.bind_some, e4, Option.bind_some, s0', Option.bind_some, if_pos rfl, r1, Option.bind_some, s1 (k + 1) (by omega), Option.bind_some, if_pos rfl,
    r2, Option.bind_some, s2 (k + 1) (by omega), Option.bind_some, if_pos rfl, r3, Option.bind_some, s3 (k + 1) (by omega), Option.bind_some, if_pos rfl, r4, Option.bind_some, s4 (k + 1) (by omega), Option.bind_some, tributarylaw4_WideTells.j0, if_neg (by decide)]
  exact s5'
end Go.Proofs.Ytbbjkgpilmcldaa.Pure
