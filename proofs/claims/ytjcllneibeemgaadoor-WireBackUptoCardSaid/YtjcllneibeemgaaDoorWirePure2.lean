/- Proved: what the printed functions of wire and of the document's answer come to, in plain words. -/
import Derived.Test.YtjcllneibeemgaaDoorWirePure
namespace Go.Proofs.YtjcllneibeemgaaDoor.PFn
open Go.RowKit Go.Proofs.YtjcllneibeemgaaDoorW.PrintWords Go.Proofs.YtjcllneibeemgaaDoorW.PrintLast Go.Proofs.YtjcllneibeemgaaDoorW.PrintMore Go.Proofs.YtjcllneibeemgaaDoor.Err
set_option linter.unusedVariables false
set_option linter.unusedSimpArgs false

theorem u64w {x : Int} (h : 0 ≤ x ∧ x < 18446744073709551616) : IntKind.u64.wrap x = x := IntWalk.u64_in _ ⟨h.1, by omega⟩
theorem u64_and127 (u : Nat) (hu : u < 2 ^ 64) : Go.bits .and .u64 (u : Int) 127 = ((u % 128 : Nat) : Int) := by
  have h1 : (BitVec.ofInt 64 (u : Int)).toNat = u := by rw [BitVec.toNat_ofInt]; omega
  have h2 : (BitVec.ofInt 64 127).toNat = 2 ^ 7 - 1 := by decide
  show IntKind.u64.wrap ((BitVec.ofInt 64 (u : Int) &&& BitVec.ofInt 64 127).toNat : Nat) = _
  rw [BitVec.toNat_and, h1, h2, Nat.and_two_pow_sub_one_eq_mod]
  exact u64w ⟨by omega, by omega⟩
theorem u64_or128 (u : Nat) (hu : u < 128) : Go.bits .or .u64 (u : Int) 128 = ((u + 128 : Nat) : Int) := u64_or_add u 1 7 (by omega) (by omega)
theorem u64_xor0 (u : Nat) (hu : u < 2 ^ 64) : Go.bits .xor .u64 (u : Int) 0 = (u : Int) := by
  have h1 : (BitVec.ofInt 64 (u : Int)).toNat = u := by rw [BitVec.toNat_ofInt]; omega
  show IntKind.u64.wrap ((BitVec.ofInt 64 (u : Int) ^^^ BitVec.ofInt 64 0).toNat : Nat) = _
  rw [show BitVec.ofInt 64 0 = 0#64 by decide, BitVec.xor_zero, h1]
  exact u64w ⟨by omega, by omega⟩
theorem u64_xor1 (u : Nat) (hu : u < 2 ^ 64) : Go.bits .xor .u64 (u : Int) 18446744073709551615 = ((18446744073709551615 - u : Nat) : Int) := by
  have h1 : (BitVec.ofInt 64 (u : Int)).toNat = u := by rw [BitVec.toNat_ofInt]; omega
  show IntKind.u64.wrap ((BitVec.ofInt 64 (u : Int) ^^^ BitVec.ofInt 64 18446744073709551615).toNat : Nat) = _
  rw [show BitVec.ofInt 64 18446744073709551615 = BitVec.allOnes 64 by decide, BitVec.xor_allOnes, BitVec.toNat_not, h1]
  have : (2 ^ 64 - 1 - u : Nat) = 18446744073709551615 - u := by omega
  rw [this]
  exact u64w ⟨by omega, by omega⟩

/-! ### Int -/
theorem wire_Int_l0 (d : Nat) : ∀ (V : Nat) (acc : List Int) (k : Nat), V < 2 ^ 64 → V < 128 ^ (d + 1) → acc.length + d < 140737488355328 → d < k → wire_Int.l0 k (V : Int) acc = some (acc ++ encG d V) := by
  induction d with
  | zero =>
    intro V acc k hV hm ha hk
    obtain ⟨k, rfl⟩ : ∃ e, k = e + 1 := ⟨k - 1, by omega⟩
    have : V < 128 := by simpa using hm
    unfold wire_Int.l0
    rw [if_neg (by omega), if_pos (by omega)]
    simp [encG]; omega
  | succ d ih =>
    intro V acc k hV hm ha hk
    obtain ⟨k, rfl⟩ : ∃ e, k = e + 1 := ⟨k - 1, by omega⟩
    unfold wire_Int.l0
    by_cases h : V < 128
    · rw [if_neg (by omega), if_pos (by omega), encG, if_pos h]
      congr 3; omega
    · rw [if_pos (by omega), if_pos (by omega), u64_and127 V hV, u64_or128 _ (by omega)]
      have e1 : (V : Int) / 128 = ((V / 128 : Nat) : Int) := by omega
      rw [e1, ih (V / 128) _ k (by omega) (by rw [Nat.pow_succ] at hm; omega) (by simp; omega) (by omega), encG, if_neg h]
      have e2 : ((V % 128 + 128 : Nat) : Int) % 256 = ((V % 128 + 128 : Nat) : Int) := by omega
      rw [e2]; simp
theorem p128 : (128 : Nat) ^ (9 + 1) = 1180591620717411303424 := by decide
theorem wire_Int_f (n : Int) (hn : okI n) (k : Nat) (hk : 9 < k) : wire_Int.f k n = some (encI n) := by
  have hz := zag_lt hn
  have key : Go.bits .xor .u64 (IntKind.u64.wrap ((IntKind.u64.wrap n) * 2)) (IntKind.u64.wrap (n / 9223372036854775808)) = (zag n : Int) := by
    unfold okI at hn
    by_cases h : 0 ≤ n
    · have e1 : IntKind.u64.wrap ((IntKind.u64.wrap n) * 2) = (((2 * n).toNat : Nat) : Int) := by rw [u64w (x := n) (by omega), u64w (by omega)]; omega
      have e2 : IntKind.u64.wrap (n / 9223372036854775808) = 0 := by rw [show n / 9223372036854775808 = 0 by omega]; rfl
      rw [e1, e2, u64_xor0 _ (by omega)]
      unfold zag; rw [if_pos h]
    · have e0 : IntKind.u64.wrap n = n + 18446744073709551616 := by rw [IntKind.wrap_u64]; omega
      have e1 : IntKind.u64.wrap ((IntKind.u64.wrap n) * 2) = (((2 * n + 18446744073709551616).toNat : Nat) : Int) := by rw [e0, IntKind.wrap_u64]; omega
      have e2 : IntKind.u64.wrap (n / 9223372036854775808) = 18446744073709551615 := by rw [show n / 9223372036854775808 = -1 by omega]; rfl
      rw [e1, e2, u64_xor1 _ (by omega)]
      unfold zag; rw [if_neg h]
      congr 1; omega
  unfold wire_Int.f
  rw [key, wire_Int_l0 9 (zag n) [] k hz (by rw [p128]; omega) (by simp) hk]
  rfl

theorem ref1_Int_l0 (d : Nat) : ∀ (V : Nat) (acc : List Int) (k : Nat), V < 2 ^ 64 → V < 128 ^ (d + 1) → acc.length + d < 140737488355328 → d < k → tributaryref1_Int.l0 k (V : Int) acc = some (acc ++ encG d V) := by
  induction d with
  | zero =>
    intro V acc k hV hm ha hk
    obtain ⟨k, rfl⟩ : ∃ e, k = e + 1 := ⟨k - 1, by omega⟩
    have : V < 128 := by simpa using hm
    unfold tributaryref1_Int.l0
    rw [if_neg (by omega), if_pos (by omega)]
    simp [encG]; omega
  | succ d ih =>
    intro V acc k hV hm ha hk
    obtain ⟨k, rfl⟩ : ∃ e, k = e + 1 := ⟨k - 1, by omega⟩
    unfold tributaryref1_Int.l0
    by_cases h : V < 128
    · rw [if_neg (by omega), if_pos (by omega), encG, if_pos h]
      congr 3; omega
    · rw [if_pos (by omega), if_pos (by omega)]
      have e1 : IntKind.u64.wrap (Int.tdiv (V : Int) 128) = ((V / 128 : Nat) : Int) := by
        rw [Int.tdiv_eq_ediv_of_nonneg (by omega), u64w (by omega)]; omega
      have e2 : IntKind.u64.wrap (Int.tmod (V : Int) 128 + 128) % 256 = ((V % 128 + 128 : Nat) : Int) := by
        rw [Int.tmod_eq_emod_of_nonneg (by omega), u64w (by omega)]; omega
      rw [e1, e2, ih (V / 128) _ k (by omega) (by rw [Nat.pow_succ] at hm; omega) (by simp; omega) (by omega), encG, if_neg h]
      simp
theorem ref1_Int_f (n : Int) (hn : okI n) (k : Nat) (hk : 10 < k) : tributaryref1_Int.f k n = some (encI n) := by
  have hz := zag_lt hn
  obtain ⟨k, rfl⟩ : ∃ e, k = e + 1 := ⟨k - 1, by omega⟩
  unfold okI at hn
  unfold tributaryref1_Int.f
  have key : ∀ x : Int, x = (zag n : Int) → tributaryref1_Int.j0 (k + 1) x = some (encI n) := by
    rintro x rfl
    rw [tributaryref1_Int.j0]
    rw [ref1_Int_l0 9 (zag n) [] k hz (by rw [p128]; omega) (by simp) (by omega)]
    rfl
  by_cases h : n < 0
  · rw [if_pos h]
    refine key _ ?_
    have e1 : wrap64 (-(wrap64 (n + 1))) = -(n + 1) := by unfold wrap64; omega
    rw [e1, u64w (x := -(n + 1)) (by omega), u64w (x := 2 * -(n + 1)) (by omega), u64w (by omega)]
    unfold zag; rw [if_neg (by omega)]; omega
  · rw [if_neg h]
    refine key _ ?_
    rw [u64w (x := n) (by omega), u64w (by omega)]
    unfold zag; rw [if_pos (by omega)]; omega

/-! ### ReadInt, the document's -/
theorem ref1_or (u C i : Nat) (hi : i ≤ 9) (hu : u < 2 ^ (7 * i)) (hC : C ≤ 255) (h : i = 9 → C ≤ 1) :
    Go.bits .or .u64 (u : Int) (shl .u64 (Int.tmod (C : Int) 128) (IntKind.u64.wrap (wrap64 (7 * (i : Int))))) = ((u + (C % 128) * 2 ^ (7 * i) : Nat) : Int) ∧ u + (C % 128) * 2 ^ (7 * i) < 2 ^ 64 := by
  have e7 : IntKind.u64.wrap (wrap64 (7 * (i : Int))) = 7 * (i : Int) := by
    have : wrap64 (7 * (i : Int)) = 7 * (i : Int) := by clear hu h; unfold wrap64; omega
    rw [this, u64w (by clear hu h; omega)]
  have etm : Int.tmod (C : Int) 128 = ((C % 128 : Nat) : Int) := by rw [Int.tmod_eq_emod_of_nonneg (by omega)]; omega
  have hmul : (C % 128) * 2 ^ (7 * i) + u < 18446744073709551616 := by
    by_cases h9 : i = 9
    · subst h9
      have h1 : C % 128 ≤ 1 := by have := h rfl; omega
      have := Nat.mul_le_mul_right (2 ^ (7 * 9)) h1
      omega
    · have := pow7_le8 i (by omega)
      have h1 : C % 128 ≤ 127 := by omega
      have := Nat.mul_le_mul_right (2 ^ (7 * i)) h1
      generalize C % 128 * 2 ^ (7 * i) = M at *
      generalize 2 ^ (7 * i) = P at *
      omega
  generalize hm : C % 128 = c at *
  have hs : shl .u64 (Int.tmod (C : Int) 128) (IntKind.u64.wrap (wrap64 (7 * (i : Int)))) = ((c * 2 ^ (7 * i) : Nat) : Int) := by
    rw [e7, etm]
    unfold shl
    have hb : IntKind.u64.bits = 64 := rfl
    rw [show min (7 * (i : Int)).toNat IntKind.u64.bits = 7 * i by rw [hb]; clear hmul hu; omega]
    rw [show (c : Int) * 2 ^ (7 * i) = ((c * 2 ^ (7 * i) : Nat) : Int) by simp]
    generalize c * 2 ^ (7 * i) = M at *
    exact u64w ⟨by omega, by clear hu; omega⟩
  rw [hs]
  refine ⟨u64_or_add u c (7 * i) hu (by clear hu; generalize c * 2 ^ (7 * i) = M at *; omega), ?_⟩
  generalize c * 2 ^ (7 * i) = M at *
  clear hu; omega
theorem ref1_end (U a i : Nat) (hU : U < 18446744073709551616) (ha : a + i < 4611686018427387904) :
    (if (Int.tmod (U : Int) 2) = 1 then (some (wrap64 ((wrap64 (-(wrap64 (IntKind.u64.wrap (Int.tdiv (U : Int) 2))))) - 1), wrap64 ((wrap64 ((a : Int) + i)) + 1), (0 : Int))) else (some (wrap64 (IntKind.u64.wrap (Int.tdiv (U : Int) 2)), wrap64 ((wrap64 ((a : Int) + i)) + 1), 0))) = some (zig U, ((a + i + 1 : Nat) : Int), 0) := by
  have et : Int.tmod (U : Int) 2 = ((U % 2 : Nat) : Int) := by rw [Int.tmod_eq_emod_of_nonneg (by omega)]; omega
  have ed : Int.tdiv (U : Int) 2 = ((U / 2 : Nat) : Int) := by rw [Int.tdiv_eq_ediv_of_nonneg (by omega)]; omega
  have ew2 : wrap64 ((U / 2 : Nat) : Int) = ((U / 2 : Nat) : Int) := by unfold wrap64; omega
  have ew : wrap64 ((a : Int) + i) = (a : Int) + i := by unfold wrap64; omega
  rw [et, ed, u64w (x := ((U / 2 : Nat) : Int)) (by omega), ew2, ew]
  have ew3 : wrap64 ((a : Int) + i + 1) = ((a + i + 1 : Nat) : Int) := by unfold wrap64; omega
  have ew4 : wrap64 (wrap64 (-((U / 2 : Nat) : Int)) - 1) = -((U / 2 : Nat) : Int) - 1 := by unfold wrap64; omega
  rw [ew3, ew4]
  unfold zig
  by_cases h2 : U % 2 = 0
  · rw [if_neg (by omega), if_pos h2]
  · rw [if_pos (by omega), if_neg h2]

def rdStep (l : List Int) (a d u i C : Nat) : Int × Int × Int :=
  if kindOf (C : Int) i = 0 then (0, 0, 11)
  else if kindOf (C : Int) i = 1 then (0, 0, 12)
  else if kindOf (C : Int) i = 2 then (zig (u + C * 2 ^ (7 * i)), ((a + i + 1 : Nat) : Int), 0)
  else rdGo l a d (u + (C % 128) * 2 ^ (7 * i)) (i + 1)
theorem ref1_j3 (l : List Int) (a d u i C k : Nat) (b : Bool) (hb : b = true ↔ C = 0 ∧ 0 < i) (hC : C < 128) (h9 : ¬(i = 9 ∧ 1 < (C : Int))) (ha : a + i < 4611686018427387904) (hU : u + (C % 128) * 2 ^ (7 * i) < 2 ^ 64) :
    tributaryref1_ReadInt.j3 (k + 1) a ((u + (C % 128) * 2 ^ (7 * i) : Nat) : Int) i b = some (rdStep l a d u i C) := by
  rw [tributaryref1_ReadInt.j3]
  have hCm : C % 128 = C := by clear hU; omega
  rw [hCm] at hU ⊢
  unfold rdStep
  by_cases hz : C = 0 ∧ 0 < i
  · rw [if_pos (hb.2 hz)]
    have : kindOf (C : Int) i = 1 := by clear hU; unfold kindOf; rw [if_neg h9, if_pos (by omega)]
    rw [this, if_neg (show ¬(1:Int) = 0 by decide), if_pos (rfl : (1:Int) = 1)]
  · rw [if_neg (fun h => hz (hb.1 h))]
    have hk2 : kindOf (C : Int) i = 2 := by clear hU; unfold kindOf; rw [if_neg h9, if_neg (by omega), if_pos (by omega)]
    rw [hk2, if_neg (show ¬(2:Int) = 0 by decide), if_neg (show ¬(2:Int) = 1 by decide), if_pos (rfl : (2:Int) = 2)]
    generalize u + C * 2 ^ (7 * i) = U at hU ⊢
    exact ref1_end U a i hU ha
theorem ref1_u' (u C i : Nat) (hu : u < 2 ^ (7 * i)) : u + C % 128 * 2 ^ (7 * i) < 2 ^ (7 * (i + 1)) := by
  have e : 2 ^ (7 * (i + 1)) = 128 * 2 ^ (7 * i) := by rw [Nat.mul_add, Nat.pow_add]; omega
  have h2 : C % 128 * 2 ^ (7 * i) ≤ 127 * 2 ^ (7 * i) := Nat.mul_le_mul_right _ (by omega)
  rw [e]
  generalize C % 128 * 2 ^ (7 * i) = M at h2 ⊢
  generalize 2 ^ (7 * i) = P at h2 hu ⊢
  omega
theorem ref1_j2 (l : List Int) (a d u i C k : Nat) (b : Bool) (hb : b = true ↔ i = 9 ∧ 1 < (C : Int)) (hi : i ≤ 9) (hu : u < 2 ^ (7 * i)) (hC : C ≤ 255) (ha : a + i < 4611686018427387904)
    (ih : i ≤ 8 → ∀ u' : Nat, u' < 2 ^ (7 * (i + 1)) → tributaryref1_ReadInt.l0 (k + 1) l (a : Int) (u' : Int) ((i + 1 : Nat) : Int) = some (rdGo l a d u' (i + 1))) :
    tributaryref1_ReadInt.j2 (k + 2) l a u i C b = some (rdStep l a d u i C) := by
  rw [tributaryref1_ReadInt.j2]
  by_cases h9 : i = 9 ∧ 1 < (C : Int)
  · rw [if_pos (hb.2 h9)]
    have : kindOf (C : Int) i = 0 := by unfold kindOf; rw [if_pos h9]
    unfold rdStep
    rw [this]; rfl
  · obtain ⟨ho, ho2⟩ := ref1_or u C i hi hu hC (by clear hu; omega)
    have e7 : 0 ≤ IntKind.u64.wrap (wrap64 (7 * (i : Int))) := by
      have : wrap64 (7 * (i : Int)) = 7 * (i : Int) := by clear hu ho2; unfold wrap64; omega
      rw [this, u64w (by clear hu ho2; omega)]; clear hu ho2; omega
    rw [if_neg (fun h => h9 (hb.1 h)), if_pos e7, ho]
    by_cases hC : C < 128
    · rw [if_pos (by clear hu ho2; omega)]
      by_cases h0 : C = 0
      · rw [if_pos (by clear hu ho2; omega)]
        exact ref1_j3 l a d u i C k _ (by simp [h0]) hC h9 ha ho2
      · rw [if_neg (by clear hu ho2; omega)]
        exact ref1_j3 l a d u i C k _ (by simp [h0]) hC h9 ha ho2
    · rw [if_neg (by clear hu ho2; omega)]
      have hk3 : kindOf (C : Int) i = 3 := by clear hu ho2; unfold kindOf; rw [if_neg h9, if_neg (by omega), if_neg (by omega)]
      unfold rdStep
      rw [hk3, if_neg (show ¬(3:Int) = 0 by decide), if_neg (show ¬(3:Int) = 1 by decide), if_neg (show ¬(3:Int) = 2 by decide)]
      have hi9 : i ≤ 8 := by
        clear hu ho2
        rcases Nat.lt_or_ge i 9 with h | h
        · omega
        · exfalso; apply h9; omega
      have ewi : wrap64 ((i : Int) + 1) = ((i + 1 : Nat) : Int) := by clear hu ho2; unfold wrap64; omega
      rw [ewi]
      exact ih hi9 _ (ref1_u' u C i hu)
theorem ref1_ReadInt_l0 (l : List Int) (hb : ∀ x ∈ l, 0 ≤ x ∧ x ≤ 255) (hl : l.length ≤ 4611686018427387904) (a d : Nat) : ∀ (u i k : Nat), i ≤ 9 → a + i + d = l.length → u < 2 ^ (7 * i) → 3 * (10 - i) < k →
    tributaryref1_ReadInt.l0 k l (a : Int) (u : Int) (i : Int) = some (rdGo l a d u i) := by
  induction d with
  | zero =>
    intro u i k hi hd hu hk
    obtain ⟨k, rfl⟩ : ∃ e, k = e + 1 := ⟨k - 1, by omega⟩
    rw [tributaryref1_ReadInt.l0]
    have ew : wrap64 ((a : Int) + i) = (a : Int) + i := by clear hu; unfold wrap64; omega
    rw [if_pos (by clear hu; omega), ew, if_pos (by clear hu; omega)]
    rfl
  | succ d ih =>
    intro u i k hi hd hu hk
    obtain ⟨k, rfl⟩ : ∃ e, k = e + 3 := ⟨k - 3, by clear hu; omega⟩
    rw [tributaryref1_ReadInt.l0]
    have ew : wrap64 ((a : Int) + i) = (a : Int) + i := by clear hu; unfold wrap64; omega
    rw [if_pos (by clear hu; omega), ew, if_neg (by clear hu; omega), if_pos (by clear hu; omega), if_pos (by clear hu; omega)]
    have hc := rd_byte hb ((a : Int) + i)
    have hgo : rdGo l a (d + 1) u i = rdStep l a d u i (rd l ((a : Int) + i)).toNat := by
      unfold rdStep
      rw [rdGo]
      rw [show ((a + i : Nat) : Int) = (a : Int) + i by omega]
      rw [show (((rd l ((a : Int) + i)).toNat : Nat) : Int) = rd l ((a : Int) + i) by omega]
    rw [hgo]
    generalize rd l ((a : Int) + i) = c at hc ⊢
    obtain ⟨C, rfl⟩ := Int.eq_ofNat_of_zero_le hc.1
    rw [u64w (x := (C : Int)) (by clear hu; omega), Int.toNat_natCast]
    have key : ∀ b : Bool, (b = true ↔ i = 9 ∧ 1 < (C : Int)) → tributaryref1_ReadInt.j2 (k + 2) l a u i C b = some (rdStep l a d u i C) := fun b hb2 =>
      ref1_j2 l a d u i C k b hb2 hi hu (by clear hu; omega) (by clear hu; omega) fun h8 u' hu' => ih u' (i + 1) (k + 1) (by clear hu hu'; omega) (by clear hu hu'; omega) hu' (by clear hu hu'; omega)
    by_cases h9 : (i : Int) = 9
    · rw [if_pos h9]
      exact key _ (by clear hu; simp; omega)
    · rw [if_neg h9]
      exact key _ (by clear hu; simp; omega)
theorem ref1_ReadInt_f (l : List Int) (a : Int) (h : okBytes l = true) (k : Nat) (hk : 40 ≤ k) : tributaryref1_ReadInt.f k l a = some (readI l a) := by
  obtain ⟨hl, hb⟩ := okBytes_iff.1 h
  obtain ⟨k, rfl⟩ : ∃ e, k = e + 1 := ⟨k - 1, by omega⟩
  unfold tributaryref1_ReadInt.f readI
  by_cases h0 : a < 0
  · rw [if_pos h0, if_pos (.inl h0)]; rfl
  · rw [if_neg h0]
    by_cases h1 : (l.length : Int) < a
    · rw [if_pos (.inr h1)]
      rw [tributaryref1_ReadInt.j0]
      rw [if_pos (by simpa using h1)]
    · rw [if_neg (by omega)]
      rw [tributaryref1_ReadInt.j0]
      rw [if_neg (by simpa using h1)]
      obtain ⟨A, rfl⟩ := Int.eq_ofNat_of_zero_le (show 0 ≤ a by omega)
      rw [Int.toNat_natCast]
      exact ref1_ReadInt_l0 l hb hl A _ 0 0 k (by decide) (by omega) (by decide) (by omega)

end Go.Proofs.YtjcllneibeemgaaDoor.PFn
