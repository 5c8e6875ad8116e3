/- Proved: what Append does to a disk that is armed (plain); condition: numbers that fit. -/
import Derived.Test.YtlhjjjpldmekdaaDoorLogT
namespace Go.Proofs.YtlhjjjpldmekdaaDoor.PDsk.K
open Go.RowKit Go.Proofs.YtlhjjjpldmekdaaDoorW.PrintWords Go.Proofs.YtlhjjjpldmekdaaDoorW.PrintLast Go.Proofs.YtlhjjjpldmekdaaDoorW.PrintMore Go.Proofs.YtlhjjjpldmekdaaDoor.Err Go.Maps Go.Proofs.YtlhjjjpldmekdaaDoor.PLog
set_option linter.unusedVariables false
set_option linter.unusedSimpArgs false

theorem i64_and63 (n : Int) : Go.bits .and .i64 n 63 = n % 64 := by
  have h127 : (BitVec.ofInt 64 63).toNat = 2 ^ 6 - 1 := by decide
  have key : (BitVec.ofInt 64 n &&& BitVec.ofInt 64 63).toNat = (n % ((2 ^ 64 : Nat) : Int)).toNat % 2 ^ 6 := by
    rw [BitVec.toNat_and, BitVec.toNat_ofInt, h127, Nat.and_two_pow_sub_one_eq_mod]
  show IntKind.i64.wrap ((BitVec.ofInt 64 n &&& BitVec.ofInt 64 63).toNat : Nat) = n % 64
  rw [key, IntKind.wrap_i64]
  omega
/-! ### rows of records that came in -/
def RsF (w0 w : World) (base : Nat) (ok : Nat → Prop) (v : Value) (xs : List (List Int)) : Prop := (Kd.fixed KR w0).R 30 w base ok v xs
section
variable {w0 w w' : World} {a1 a2 Bl n : Nat} {s s' : Dk} {C C' : CT} {life : Int} {l : List (List Int)} {R : Nat}
theorem RsF.log {w1 wi : World} {base : Nat} {ok : Nat → Prop} {v : Value} {xs : List (List Int)} (g : RsF wi w base ok v xs) (h : LgB w0 w a1 a2 Bl n s C life l R) (hf : Fr (LB Bl a1 a2) w w1) : RsF wi w1 base ok v xs :=
  own_fr g hf (fun b hb cs q e hq => by
    have hq' : q = 30 := by simpa [Kd.fixed] using hq
    rcases h.noRow b hb cs q e with rfl | rfl
    · exact absurd hq' (by decide)
    · exact absurd hq' (by decide))
theorem LgB.grownO {base sz m : Nat} {v : Value} {inner : List Value} (h : LgB w0 w a1 a2 Bl n s C life l R) (hown : w.ownsRow base 30 sz v m inner) (hg : w.grownBy w' v.ownBlock) (hbase : w0.heap.size ≤ base) : LgB w0 w' a1 a2 Bl n s C life l R := by
  have hf : Fr (fun k => some k = v.ownBlock) w w' := ⟨hg.os, hg.tape, hg.output, hg.size, fun k hk hs => hg.block k hk hs⟩
  have hty : ∀ b, some b = v.ownBlock → ∃ cells, w.heap[b]? = some (.cells cells 30 (0, 0)) := fun b hb => own_typed hown b hb.symm
  have hno : ∀ b, LB Bl a1 a2 b → some b ≠ v.ownBlock := fun b hb e => by
    obtain ⟨cells, hc⟩ := hty b e
    rcases h.noRow b hb cells _ hc with h1 | h1
    · exact absurd h1 (by decide)
    · exact absurd h1 (by decide)
  refine h.keptU hf (hno a1 (Or.inr (Or.inl rfl))) (hno a2 (Or.inr (Or.inr rfl))) (hno Bl (Or.inl rfl)) (fun b hb cells hc => ?_) (fun b hb => Nat.le_trans hbase (own_base hown b hb.symm))
  obtain ⟨cells2, hc2⟩ := hty b hb
  rw [hc] at hc2
  injection hc2 with hc2
  injection hc2 with _ hc2
  exact absurd hc2 (by decide)
theorem KR_K {b : List Int} {A : Option Addr} {c : Nat} (hC : (Kd.int .u8).C w A b.length b) (hc : b.length ≤ c) : KR.K w b [.slice A b.length c] := ⟨A, c, rfl, hc, hC⟩
theorem fix_M {W wi : World} {base : Nat} {ok : Nat → Prop} {b : List Int} {cs : List Value} (h : KR.K wi b cs) : (Kd.fixed KR wi).M W base ok b cs := h
/-- What came in is read now. -/
theorem RsF.reads {wi : World} {base n : Nat} {ok : Nat → Prop} {A : Option Addr} {c : Nat} {xs : List (List Int)} (g : RsF wi w base ok (.slice A n c) xs) (hb : Below wi.heap.size wi w) : n = xs.length ∧ n ≤ c ∧ KR.C w A xs.length xs := by
  have h := Kd.R_reads' g
  exact ⟨h.1, h.2.1, Kd.C_read (d := KR) (dm := Kd.fixed KR wi) rfl (fun x cs hk => KR.K_below hb hk) h.2.2⟩
end
/-- A row that is made behind another one's block stays when that one grows. -/
theorem own_grown {wb wc : World} {base : Nat} {ok : Nat → Prop} {v vw : Value} {xs : List (List Int)} (g : Rs wb base ok v xs) (hlt : ∀ k, vw.ownBlock = some k → k < base) (hg : wb.grownBy wc vw.ownBlock) : Rs wc base ok v xs :=
  Kd.R_mono (Kd.R_grown (Kd.R_bound g) hg (fun k hk e => by have := hlt k e.symm; omega)) (fun _ hk => hk.1)
theorem take_n (q : Nat) (z : Int) (hz : z = (q : Int)) (A2 : Option Addr) (c2 : Nat) (l : List Int) (hc : l.length ≤ c2) : ∃ t : Nat, t = (l.take q).length ∧ t ≤ q ∧ l.take t = l.take q ∧ t ≤ l.length ∧ min (l.length : Int) z = (t : Int) ∧ (if z < (l.length : Int) then z else (l.length : Int)) = (t : Int) ∧ (if (l.length : Int) < z then (l.length : Int) else z) = (t : Int) ∧
    ∀ W : World, (Instr.slice 30 (.slice A2 l.length c2) none (some (.int .i64 (t : Int))) none).run Tryd.prog W = .ok (.slice A2 t c2) W := by
  subst hz
  refine ⟨(l.take q).length, rfl, by rw [List.length_take]; omega, by rw [List.length_take]; rcases Nat.le_total q l.length with h | h; rw [Nat.min_eq_left h]; rw [Nat.min_eq_right h, List.take_of_length_le (Nat.le_refl _), List.take_of_length_le h], by rw [List.length_take]; omega, by rw [List.length_take]; omega, by rw [List.length_take]; split <;> omega, by rw [List.length_take]; split <;> omega, ?_⟩
  have hcut := cut_to (P := Tryd.prog) 30 5 .i64 Tryd.underlying30 (info_parts info8).choose_spec.1 A2 l.length c2 ((l.take q).length : Int) (by omega) (by rw [List.length_take]; omega) hc
  rw [Int.toNat_natCast] at hcut
  exact hcut
/-- A write on a disk with power. -/
theorem wrS_on {s : Dk} {a n : Int} (hd : s.down = false) (h0 : 0 ≤ a) (h1 : a < s.room) (hn : n ≤ 64) (ha : 0 ≤ s.armed ∧ s.armed ≤ 1000000) :
    (s.armed = 1 ∧ (∃ x, (wrS s a n).1 = some x) ∧ (wrS s a n).2.1.down = true) ∨
    (s.armed ≠ 1 ∧ (wrS s a n).1 = none ∧ (wrS s a n).2.1.down = false ∧ (wrS s a n).2.1.armed = (if s.armed = 0 then 0 else s.armed - 1) ∧ (wrS s a n).2.1.writes = wrap64 (s.writes + 1)) := by
  have hm : met s a n = 2 := by
    unfold met
    rw [hd, if_neg (by decide), if_neg (by omega)]
  unfold wrS
  rw [if_neg (by rw [hm]; decide)]
  by_cases h : 0 < s.armed
  · rw [if_pos h]
    have hw : wrap64 (s.armed - 1) = s.armed - 1 := wrap64_in _ (by omega)
    rw [hw]
    by_cases h2 : s.armed - 1 = 0
    · rw [if_pos h2]
      exact Or.inl ⟨by omega, ⟨_, rfl⟩, rfl⟩
    · rw [if_neg h2]
      exact Or.inr ⟨by omega, rfl, hd, by rw [if_neg (by omega)], rfl⟩
  · rw [if_neg h]
    exact Or.inr ⟨by omega, rfl, hd, by rw [if_pos (by omega)]; show s.armed = 0; omega, rfl⟩
theorem appGo_armed {rn next : Nat} {b : List Int} (hr : rn < 1048576) (d : Nat) : ∀ (k : Nat) (s : Dk) (C : CT), k + d < 1048576 → s.down = false → ((next + (k + d) : Nat) : Int) ≤ s.room → 0 ≤ s.armed ∧ s.armed ≤ 1000000 →
    ((s.armed = 0 ∨ (d : Int) < s.armed) → (appGo (rn : Int) next b d k s C).1 = none ∧ (appGo (rn : Int) next b d k s C).2.1.down = false ∧ (appGo (rn : Int) next b d k s C).2.1.armed = (if s.armed = 0 then 0 else s.armed - d)) ∧
    ((s.armed ≠ 0 ∧ s.armed ≤ (d : Int)) → (∃ x, (appGo (rn : Int) next b d k s C).1 = some x) ∧ (appGo (rn : Int) next b d k s C).2.1.down = true) := by
  induction d with
  | zero =>
    intro k s C _ hd _ ha
    refine ⟨fun h => ⟨rfl, hd, ?_⟩, fun h => by omega⟩
    show s.armed = _
    split <;> omega
  | succ d ih =>
    intro k s C hk hd hroom ha
    have hw := wrS_on (a := ((next + k : Nat) : Int)) (n := (((blkL (rn : Int) b k).length : Nat) : Int)) hd (by omega) (by omega) (by have := blkL_small rn k b hr (by omega); omega) ha
    have hrm := wrS_room s ((next + k : Nat) : Int) (((blkL (rn : Int) b k).length : Nat) : Int)
    rw [appGo_succ]
    obtain ⟨⟨e, s', kept⟩, hr'⟩ : ∃ r, wrS s ((next + k : Nat) : Int) (((blkL (rn : Int) b k).length : Nat) : Int) = r := ⟨_, rfl⟩
    rw [hr'] at hw hrm ⊢
    rcases hw with ⟨h1, ⟨x, rfl⟩, h3⟩ | ⟨h1, rfl, h3, h4, h5⟩
    · exact ⟨fun h => by omega, fun _ => ⟨⟨x, rfl⟩, h3⟩⟩
    · simp only at h3 h4 h5 hrm
      have h6 := ih (k + 1) s' (if kept = true then updC C ((next + k : Nat) : Int) (blkL (rn : Int) b k) else C) (by omega) h3 (by rw [hrm]; omega) (by rw [h4]; split <;> omega)
      rw [h4] at h6
      refine ⟨fun h => ?_, fun h => ?_⟩
      · have h7 := h6.1 (by split <;> omega)
        refine ⟨h7.1, h7.2.1, h7.2.2.trans ?_⟩
        by_cases h0 : s.armed = 0
        · simp [h0]
        · rw [if_neg h0, if_neg h0, if_neg (by omega)]; omega
      · exact h6.2 (by rw [if_neg h.1]; omega)
/-- Append on a disk with power and room. -/
theorem appS_armed {s : Dk} {C : CT} {life : Int} {recs next : Nat} {b : List Int} (hd : s.down = false) (hl : s.life = life) (hr : recs + 1 < 1048576) (hb : b.length ≤ 100000) (hroom : ((next + nB b.length : Nat) : Int) ≤ s.room) (ha : 0 ≤ s.armed ∧ s.armed ≤ 1000000) :
    ((s.armed = 0 ∨ (nB b.length : Int) < s.armed) → (appS s C life recs next b).1 = none ∧ (appS s C life recs next b).2.1.down = false ∧ (appS s C life recs next b).2.1.armed = (if s.armed = 0 then 0 else s.armed - nB b.length)) ∧
    ((s.armed ≠ 0 ∧ s.armed ≤ (nB b.length : Int)) → (∃ x, (appS s C life recs next b).1 = some x) ∧ (appS s C life recs next b).2.1.down = true) := by
  have e : appS s C life recs next b = appGo ((recs + 1 : Nat) : Int) next b (nB b.length) 0 s C := by
    unfold appS goneB
    rw [hd, hl, if_neg (by simp), if_neg (by omega)]
  rw [e]
  exact appGo_armed hr (nB b.length) 0 s C (by unfold nB; omega) hd (by rw [Nat.zero_add]; exact hroom) ha
theorem appS_down {s : Dk} {C : CT} {life : Int} {recs next : Nat} {b : List Int} (hd : s.down = true) : appS s C life recs next b = (some (.num 70), s, C) := by
  unfold appS goneB
  rw [hd, if_pos (by simp)]
end Go.Proofs.YtlhjjjpldmekdaaDoor.PDsk.K
