/- Proved: the law's own 'do', one contract for all acts; condition: bytes that fit. -/
import Derived.Test.YtemnnnjlllgeeaaDoorDiskDo
namespace Go.Proofs.YtemnnnjlllgeeaaDoor.PDsk
open Go.RowKit Go.Proofs.YtemnnnjlllgeeaaDoorW.PrintWords Go.Proofs.YtemnnnjlllgeeaaDoorW.PrintLast Go.Proofs.YtemnnnjlllgeeaaDoorW.PrintMore Go.Proofs.YtemnnnjlllgeeaaDoor.Err Go.Maps
set_option linter.unusedVariables false
set_option linter.unusedSimpArgs false

/-- What an act answers, what it leaves of the cells, what of the blocks. -/
def doS (s : Dk) (C : Int → Option (List Int)) (k a : Int) (xs : List Int) : Int × Dk × (Int → Option (List Int)) :=
  if k = 0 then (codeOf (wrS s a (xs.take 80).length).1, (wrS s a (xs.take 80).length).2.1, if (wrS s a (xs.take 80).length).2.2 = true then updC C a (xs.take 80) else C)
  else if k = 2 ∨ k = 3 ∨ k = 4 then (0, actS k a s, C)
  else (doR s C a, s, C)
/-- No block holds more than is written at once. -/
def Short (C : Int → Option (List Int)) : Prop := ∀ k xs, C k = some xs → xs.length ≤ 80
theorem doS_short {s : Dk} {C : Int → Option (List Int)} (h : Short C) (k a : Int) (xs : List Int) : Short (doS s C k a xs).2.2 := by
  unfold doS
  by_cases h0 : k = 0
  · rw [if_pos h0]
    show Short (if _ then _ else _)
    split
    · intro j ys hj
      replace hj : (if j = a then some (xs.take 80) else C j) = some ys := hj
      by_cases hja : j = a
      · rw [if_pos hja] at hj
        have := Option.some.inj hj
        rw [← this, List.length_take]
        exact Nat.min_le_left _ _
      · rw [if_neg hja] at hj; exact h j ys hj
    · exact h
  · rw [if_neg h0]
    split <;> exact h
theorem do_calls (k a : Int) (A0 : Option Addr) (c0 : Nat) (l0 : List Int) (s : Dk) (base Bs Bm n : Nat) (C : Int → Option (List Int)) (w : World) (h : St w Bs Bm s) (hC : Cont w base Bs Bm n C) (hne : Bs ≠ Bm) (hbs : base ≤ w.heap.size) (hn : n < maxLen) (ha : okI a) (hs : Short C)
    (hr0 : ∀ W, Fr (fun b => b = Bs ∨ b = Bm) w W → Kd.C (Kd.int .u8) W A0 l0.length l0) (hc0 : l0.length ≤ c0) (hL : ∀ W, Fr (fun b => b = Bs ∨ b = Bm) w W → Laid W) :
    Calls Tryd.prog 23 #[.pointer (some ⟨Bs, 0, none⟩), .agg #[.int .i64 k, .int .i64 a, .slice A0 l0.length c0]] w fun e w' => e = .returned (.int .i64 (doS s C k a l0).1) ∧ St w' Bs Bm (doS s C k a l0).2.1 ∧ Cont w' base Bs Bm (n + 1) (doS s C k a l0).2.2 ∧ Fr (fun b => b = Bs ∨ b = Bm) w w' := by
  unfold doS
  by_cases h0 : k = 0
  · subst h0
    rw [if_pos rfl]
    exact do_write a A0 c0 l0 s base Bs Bm n C w h hC hne hbs hn ha hr0 hc0 hL
  · rw [if_neg h0]
    by_cases h2 : k = 2 ∨ k = 3 ∨ k = 4
    · rw [if_pos h2]
      refine (do_small k a _ s Bs Bm w h h2 ⟨_, _, _, rfl⟩).mono ?_
      rintro e w' ⟨rfl, hS, f⟩
      exact ⟨rfl, hS, (hC.kept f (fun _ h => h) hne).more' (Nat.le_succ n), f.mono (fun _ h => Or.inl h)⟩
    · rw [if_neg h2]
      refine (do_read k a _ s base Bs Bm n C w h hC hne ha (fun xs hx => Nat.le_trans (hs a xs hx) (by decide)) ⟨h0, fun e => h2 (Or.inl e), fun e => h2 (Or.inr (Or.inl e)), fun e => h2 (Or.inr (Or.inr e))⟩ ⟨_, _, _, rfl⟩ (hL w (Fr.refl _ w))).mono ?_
      rintro e w' ⟨rfl, hb⟩
      have f := Fr.of_below (S := fun _ => False) hb
      exact ⟨rfl, h.kept f (fun h => h.elim), (hC.kept f (fun _ h => h.elim) hne).more' (Nat.le_succ n), f.mono (fun _ h => h.elim)⟩
end Go.Proofs.YtemnnnjlllgeeaaDoor.PDsk
